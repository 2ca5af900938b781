/-
  No cell of these rows narrows 'for every input' (looked for: loops, veiled, ifaces, maps, wideKeys, modest, calm, conditions, laid).
  DERIVED. THE GIVEN ROWS OF THIS SEAT. 12 by the template 'for every input the law returns true; each argument reads behind the call as it read before'; 0 by the template 'total and deterministic' (their statements: YtfoohocgdcgbcaaGreatTotals.lean).
  GIVEN WITH THE SEED: the statements are not yours to turn. If you find one false, say at which input.
  Laid BY PROGRAM, IN A SANDBOX (cutbox-rows.mjs): the forced cells as the released guide's own fill.sh prints them over the translation 8fa8cd2a503dff61… (all of the seat's roots in one cut). By AI agents, Wed Nov 11 2026. No macro, syntax, notation, axiom, sorry.
-/
import Derived.Test.YtfoohocgdcgbcaaGreatChecked
import GoSem.Claim
import GoSem.ClaimJoined
import GoSem.ClaimMapViews
import Derived.JoinedTies
import Derived.KernelRfl
namespace Go.Proofs.YtfoohocgdcgbcaaGreat
/- THE CELL 'sum', in the pinned program and in every row, IS THE sha256 OF THE DUMP (.gsa) THAT YtfoohocgdcgbcaaGreatProg.lean LOADS. Nothing in Lean hashes anything: it is a label: what it is worth is what the hold of that sum in a sandbox is worth. -/
noncomputable def Tryz.pinned : Pinned := { name := "ytfoohocgdcgbcaagreat", sum := "8fa8cd2a503dff61c2d54ffd521a0d3fb91e001eb15704bb0fc19a7a3bd5334d", checked := Tryz.checked }
namespace Rows
def none {H : Type} : Left H := { results := [], args := [] }

/-- 'cutroomlaw34.BinMerges': WHATEVER THE INPUT: true; the input reads as it did. -/
def binMergesSpec : ChangeSpec := { name := "binMerges", fn := fun _ => fun
  | [d1, d2, d3, d4] => { results := [.lit (.bool true)], args := [d1, d2, d3, d4] }
  | _ => none }
def binMergesRow : OpenClaim := { program := "ytfoohocgdcgbcaagreat", sum := "8fa8cd2a503dff61c2d54ffd521a0d3fb91e001eb15704bb0fc19a7a3bd5334d", func := "cutroom/cutroomlaw34.BinMerges", spec := "binMerges", inPlace := ["math/bits.Add64", "math/bits.Sub64"], unfollowed := true, recurses := true, named := ["math/bits.divideError", "math/bits.overflowError"], apart := false }
def BinMergesSaid : Prop := binMergesRow.holds Tryz.pinned (OpenSpec.ofChange binMergesSpec)

/-- ITS FALSE NEIGHBOUR: 'it returns false'. Refute it at one input. -/
def binMergesWrong : ChangeSpec := { name := "binMerges", fn := fun _ => fun
  | [d1, d2, d3, d4] => { results := [.lit (.bool false)], args := [d1, d2, d3, d4] }
  | _ => none }
def BinMergesWrongFalsely : Prop := binMergesRow.holds Tryz.pinned (OpenSpec.ofChange binMergesWrong)

/-- 'cutroomlaw34.BinSymmetric': WHATEVER THE INPUT: true; the input reads as it did. -/
def binSymmetricSpec : ChangeSpec := { name := "binSymmetric", fn := fun _ => fun
  | [d1, d2, d3, d4] => { results := [.lit (.bool true)], args := [d1, d2, d3, d4] }
  | _ => none }
def binSymmetricRow : OpenClaim := { program := "ytfoohocgdcgbcaagreat", sum := "8fa8cd2a503dff61c2d54ffd521a0d3fb91e001eb15704bb0fc19a7a3bd5334d", func := "cutroom/cutroomlaw34.BinSymmetric", spec := "binSymmetric", inPlace := ["math/bits.Add64", "math/bits.Sub64"], unfollowed := true, recurses := true, named := ["math/bits.divideError", "math/bits.overflowError"], apart := false }
def BinSymmetricSaid : Prop := binSymmetricRow.holds Tryz.pinned (OpenSpec.ofChange binSymmetricSpec)

/-- ITS FALSE NEIGHBOUR: 'it returns false'. Refute it at one input. -/
def binSymmetricWrong : ChangeSpec := { name := "binSymmetric", fn := fun _ => fun
  | [d1, d2, d3, d4] => { results := [.lit (.bool false)], args := [d1, d2, d3, d4] }
  | _ => none }
def BinSymmetricWrongFalsely : Prop := binSymmetricRow.holds Tryz.pinned (OpenSpec.ofChange binSymmetricWrong)

/-- 'cutroomlaw34.BinSides': WHATEVER THE INPUT: true; the input reads as it did. -/
def binSidesSpec : ChangeSpec := { name := "binSides", fn := fun _ => fun
  | [d] => { results := [.lit (.bool true)], args := [d] }
  | _ => none }
def binSidesRow : OpenClaim := { program := "ytfoohocgdcgbcaagreat", sum := "8fa8cd2a503dff61c2d54ffd521a0d3fb91e001eb15704bb0fc19a7a3bd5334d", func := "cutroom/cutroomlaw34.BinSides", spec := "binSides", inPlace := ["math/bits.Add64", "math/bits.Sub64"], unfollowed := true, recurses := true, named := ["math/bits.divideError", "math/bits.overflowError"], apart := false }
def BinSidesSaid : Prop := binSidesRow.holds Tryz.pinned (OpenSpec.ofChange binSidesSpec)

/-- ITS FALSE NEIGHBOUR: 'it returns false'. Refute it at one input. -/
def binSidesWrong : ChangeSpec := { name := "binSides", fn := fun _ => fun
  | [d] => { results := [.lit (.bool false)], args := [d] }
  | _ => none }
def BinSidesWrongFalsely : Prop := binSidesRow.holds Tryz.pinned (OpenSpec.ofChange binSidesWrong)

/-- 'cutroomlaw34.BinBoth': WHATEVER THE INPUT: true; the input reads as it did. -/
def binBothSpec : ChangeSpec := { name := "binBoth", fn := fun _ => fun
  | [d1, d2] => { results := [.lit (.bool true)], args := [d1, d2] }
  | _ => none }
def binBothRow : OpenClaim := { program := "ytfoohocgdcgbcaagreat", sum := "8fa8cd2a503dff61c2d54ffd521a0d3fb91e001eb15704bb0fc19a7a3bd5334d", func := "cutroom/cutroomlaw34.BinBoth", spec := "binBoth", inPlace := ["math/bits.Add64", "math/bits.Sub64"], unfollowed := true, recurses := true, named := ["math/bits.divideError", "math/bits.overflowError"], apart := false }
def BinBothSaid : Prop := binBothRow.holds Tryz.pinned (OpenSpec.ofChange binBothSpec)

/-- ITS FALSE NEIGHBOUR: 'it returns false'. Refute it at one input. -/
def binBothWrong : ChangeSpec := { name := "binBoth", fn := fun _ => fun
  | [d1, d2] => { results := [.lit (.bool false)], args := [d1, d2] }
  | _ => none }
def BinBothWrongFalsely : Prop := binBothRow.holds Tryz.pinned (OpenSpec.ofChange binBothWrong)

/-- 'cutroomlaw34.BinHistory': WHATEVER THE INPUT: true; the input reads as it did. -/
def binHistorySpec : ChangeSpec := { name := "binHistory", fn := fun _ => fun
  | [d] => { results := [.lit (.bool true)], args := [d] }
  | _ => none }
def binHistoryRow : OpenClaim := { program := "ytfoohocgdcgbcaagreat", sum := "8fa8cd2a503dff61c2d54ffd521a0d3fb91e001eb15704bb0fc19a7a3bd5334d", func := "cutroom/cutroomlaw34.BinHistory", spec := "binHistory", inPlace := ["math/bits.Add64", "math/bits.Sub64"], unfollowed := true, recurses := true, named := ["math/bits.divideError", "math/bits.overflowError"], apart := false }
def BinHistorySaid : Prop := binHistoryRow.holds Tryz.pinned (OpenSpec.ofChange binHistorySpec)

/-- ITS FALSE NEIGHBOUR: 'it returns false'. Refute it at one input. -/
def binHistoryWrong : ChangeSpec := { name := "binHistory", fn := fun _ => fun
  | [d] => { results := [.lit (.bool false)], args := [d] }
  | _ => none }
def BinHistoryWrongFalsely : Prop := binHistoryRow.holds Tryz.pinned (OpenSpec.ofChange binHistoryWrong)

/-- 'cutroomlaw34.BinChanges': WHATEVER THE INPUT: true; the input reads as it did. -/
def binChangesSpec : ChangeSpec := { name := "binChanges", fn := fun _ => fun
  | [d1, d2, d3] => { results := [.lit (.bool true)], args := [d1, d2, d3] }
  | _ => none }
def binChangesRow : OpenClaim := { program := "ytfoohocgdcgbcaagreat", sum := "8fa8cd2a503dff61c2d54ffd521a0d3fb91e001eb15704bb0fc19a7a3bd5334d", func := "cutroom/cutroomlaw34.BinChanges", spec := "binChanges", inPlace := ["math/bits.Add64", "math/bits.Sub64"], unfollowed := true, recurses := true, named := ["math/bits.divideError", "math/bits.overflowError"], apart := false }
def BinChangesSaid : Prop := binChangesRow.holds Tryz.pinned (OpenSpec.ofChange binChangesSpec)

/-- ITS FALSE NEIGHBOUR: 'it returns false'. Refute it at one input. -/
def binChangesWrong : ChangeSpec := { name := "binChanges", fn := fun _ => fun
  | [d1, d2, d3] => { results := [.lit (.bool false)], args := [d1, d2, d3] }
  | _ => none }
def BinChangesWrongFalsely : Prop := binChangesRow.holds Tryz.pinned (OpenSpec.ofChange binChangesWrong)

/-- 'cutroomlaw34.BinReplaces': WHATEVER THE INPUT: true; the input reads as it did. -/
def binReplacesSpec : ChangeSpec := { name := "binReplaces", fn := fun _ => fun
  | [d] => { results := [.lit (.bool true)], args := [d] }
  | _ => none }
def binReplacesRow : OpenClaim := { program := "ytfoohocgdcgbcaagreat", sum := "8fa8cd2a503dff61c2d54ffd521a0d3fb91e001eb15704bb0fc19a7a3bd5334d", func := "cutroom/cutroomlaw34.BinReplaces", spec := "binReplaces", inPlace := ["math/bits.Add64", "math/bits.Sub64"], unfollowed := true, recurses := true, named := ["math/bits.divideError", "math/bits.overflowError"], apart := false }
def BinReplacesSaid : Prop := binReplacesRow.holds Tryz.pinned (OpenSpec.ofChange binReplacesSpec)

/-- ITS FALSE NEIGHBOUR: 'it returns false'. Refute it at one input. -/
def binReplacesWrong : ChangeSpec := { name := "binReplaces", fn := fun _ => fun
  | [d] => { results := [.lit (.bool false)], args := [d] }
  | _ => none }
def BinReplacesWrongFalsely : Prop := binReplacesRow.holds Tryz.pinned (OpenSpec.ofChange binReplacesWrong)

/-- 'cutroomlaw34.BinRuns': WHATEVER THE INPUT: true; the input reads as it did. -/
def binRunsSpec : ChangeSpec := { name := "binRuns", fn := fun _ => fun
  | [d1, d2] => { results := [.lit (.bool true)], args := [d1, d2] }
  | _ => none }
def binRunsRow : OpenClaim := { program := "ytfoohocgdcgbcaagreat", sum := "8fa8cd2a503dff61c2d54ffd521a0d3fb91e001eb15704bb0fc19a7a3bd5334d", func := "cutroom/cutroomlaw34.BinRuns", spec := "binRuns", inPlace := ["math/bits.Add64", "math/bits.Sub64"], unfollowed := true, recurses := true, named := ["math/bits.divideError", "math/bits.overflowError"], apart := false }
def BinRunsSaid : Prop := binRunsRow.holds Tryz.pinned (OpenSpec.ofChange binRunsSpec)

/-- ITS FALSE NEIGHBOUR: 'it returns false'. Refute it at one input. -/
def binRunsWrong : ChangeSpec := { name := "binRuns", fn := fun _ => fun
  | [d1, d2] => { results := [.lit (.bool false)], args := [d1, d2] }
  | _ => none }
def BinRunsWrongFalsely : Prop := binRunsRow.holds Tryz.pinned (OpenSpec.ofChange binRunsWrong)

/-- 'cutroomlaw34.BinStates': WHATEVER THE INPUT: true; the input reads as it did. -/
def binStatesSpec : ChangeSpec := { name := "binStates", fn := fun _ => fun
  | [d1, d2, d3, d4] => { results := [.lit (.bool true)], args := [d1, d2, d3, d4] }
  | _ => none }
def binStatesRow : OpenClaim := { program := "ytfoohocgdcgbcaagreat", sum := "8fa8cd2a503dff61c2d54ffd521a0d3fb91e001eb15704bb0fc19a7a3bd5334d", func := "cutroom/cutroomlaw34.BinStates", spec := "binStates", inPlace := ["math/bits.Add64", "math/bits.Sub64"], unfollowed := true, recurses := true, named := ["math/bits.divideError", "math/bits.overflowError"], apart := false }
def BinStatesSaid : Prop := binStatesRow.holds Tryz.pinned (OpenSpec.ofChange binStatesSpec)

/-- ITS FALSE NEIGHBOUR: 'it returns false'. Refute it at one input. -/
def binStatesWrong : ChangeSpec := { name := "binStates", fn := fun _ => fun
  | [d1, d2, d3, d4] => { results := [.lit (.bool false)], args := [d1, d2, d3, d4] }
  | _ => none }
def BinStatesWrongFalsely : Prop := binStatesRow.holds Tryz.pinned (OpenSpec.ofChange binStatesWrong)

/-- 'cutroomlaw34.BinLocks': WHATEVER THE INPUT: true; the input reads as it did. -/
def binLocksSpec : ChangeSpec := { name := "binLocks", fn := fun _ => fun
  | [d1, d2, d3] => { results := [.lit (.bool true)], args := [d1, d2, d3] }
  | _ => none }
def binLocksRow : OpenClaim := { program := "ytfoohocgdcgbcaagreat", sum := "8fa8cd2a503dff61c2d54ffd521a0d3fb91e001eb15704bb0fc19a7a3bd5334d", func := "cutroom/cutroomlaw34.BinLocks", spec := "binLocks", inPlace := ["math/bits.Add64", "math/bits.Sub64"], unfollowed := true, recurses := true, named := ["math/bits.divideError", "math/bits.overflowError"], apart := false }
def BinLocksSaid : Prop := binLocksRow.holds Tryz.pinned (OpenSpec.ofChange binLocksSpec)

/-- ITS FALSE NEIGHBOUR: 'it returns false'. Refute it at one input. -/
def binLocksWrong : ChangeSpec := { name := "binLocks", fn := fun _ => fun
  | [d1, d2, d3] => { results := [.lit (.bool false)], args := [d1, d2, d3] }
  | _ => none }
def BinLocksWrongFalsely : Prop := binLocksRow.holds Tryz.pinned (OpenSpec.ofChange binLocksWrong)

/-- 'cutroomlaw34.BinUndo': WHATEVER THE INPUT: true; the input reads as it did. -/
def binUndoSpec : ChangeSpec := { name := "binUndo", fn := fun _ => fun
  | [d1, d2] => { results := [.lit (.bool true)], args := [d1, d2] }
  | _ => none }
def binUndoRow : OpenClaim := { program := "ytfoohocgdcgbcaagreat", sum := "8fa8cd2a503dff61c2d54ffd521a0d3fb91e001eb15704bb0fc19a7a3bd5334d", func := "cutroom/cutroomlaw34.BinUndo", spec := "binUndo", inPlace := ["math/bits.Add64", "math/bits.Sub64"], unfollowed := true, recurses := true, named := ["math/bits.divideError", "math/bits.overflowError"], apart := false }
def BinUndoSaid : Prop := binUndoRow.holds Tryz.pinned (OpenSpec.ofChange binUndoSpec)

/-- ITS FALSE NEIGHBOUR: 'it returns false'. Refute it at one input. -/
def binUndoWrong : ChangeSpec := { name := "binUndo", fn := fun _ => fun
  | [d1, d2] => { results := [.lit (.bool false)], args := [d1, d2] }
  | _ => none }
def BinUndoWrongFalsely : Prop := binUndoRow.holds Tryz.pinned (OpenSpec.ofChange binUndoWrong)

/-- 'cutroomlaw34.BinOthers': WHATEVER THE INPUT: true; the input reads as it did. -/
def binOthersSpec : ChangeSpec := { name := "binOthers", fn := fun _ => fun
  | [d] => { results := [.lit (.bool true)], args := [d] }
  | _ => none }
def binOthersRow : OpenClaim := { program := "ytfoohocgdcgbcaagreat", sum := "8fa8cd2a503dff61c2d54ffd521a0d3fb91e001eb15704bb0fc19a7a3bd5334d", func := "cutroom/cutroomlaw34.BinOthers", spec := "binOthers", inPlace := ["math/bits.Add64", "math/bits.Sub64"], unfollowed := true, recurses := true, named := ["math/bits.divideError", "math/bits.overflowError"], apart := false }
def BinOthersSaid : Prop := binOthersRow.holds Tryz.pinned (OpenSpec.ofChange binOthersSpec)

/-- ITS FALSE NEIGHBOUR: 'it returns false'. Refute it at one input. -/
def binOthersWrong : ChangeSpec := { name := "binOthers", fn := fun _ => fun
  | [d] => { results := [.lit (.bool false)], args := [d] }
  | _ => none }
def BinOthersWrongFalsely : Prop := binOthersRow.holds Tryz.pinned (OpenSpec.ofChange binOthersWrong)

/- THE SECOND FORM. 'bulk': how many values and letters a reading holds, each counted each time it is reached (what is shared counts as often as it is met; a slice's spare places count too). A statement '..UptoSaid' is the law's where the arguments, and the package variables that the reading takes, are together of bulk at most 1048576: NARROWER than '..Said'. Prove '..Said' where nothing that the law and all that it calls make is longer than what came in: it says more and counts as full. Else prove '..UptoSaid'. A law counts once. -/
mutual
def uptoBulk {H : Type} : DataW H → Nat
  | .lit (.string bytes) => bytes.length + 1
  | .lit _ => 1
  | .nil => 1
  | .ptr d => uptoBulk d + 1
  | .slice elems spare => uptoBulkAll elems + uptoBulkAll spare + 1
  | .agg parts => uptoBulkAll parts + 1
  | .iface _ d => uptoBulk d + 1
  | .map entries => uptoBulkEntries entries + 1
  | .held _ => 1
def uptoBulkAll {H : Type} : List (DataW H) → Nat
  | [] => 0
  | d :: r => uptoBulk d + uptoBulkAll r
def uptoBulkEntries {H : Type} : List (Lit × DataW H) → Nat
  | [] => 0
  | x :: r => uptoBulkEntry x + uptoBulkEntries r
def uptoBulkEntry {H : Type} : Lit × DataW H → Nat
  | (.string bytes, d) => bytes.length + uptoBulk d + 1
  | (_, d) => uptoBulk d + 1
 end
def uptoSmall : (H : Type) → List (DataW H) → Bool := fun _ ds => decide (uptoBulkAll ds ≤ 1048576)
def OpenSpec.upto (s : _root_.Go.ChangeSpec) : _root_.Go.OpenSpec := { _root_.Go.OpenSpec.ofChange s with cond := some uptoSmall }

/-- 'cutroomlaw34.BinMerges', WHERE WHAT IT READS IS OF BULK AT MOST 1048576: true; the input reads as it did. -/
def binMergesUptoRow : OpenClaim := { program := "ytfoohocgdcgbcaagreat", sum := "8fa8cd2a503dff61c2d54ffd521a0d3fb91e001eb15704bb0fc19a7a3bd5334d", func := "cutroom/cutroomlaw34.BinMerges", spec := "binMerges", inPlace := ["math/bits.Add64", "math/bits.Sub64"], unfollowed := true, recurses := true, named := ["math/bits.divideError", "math/bits.overflowError"], apart := false, narrowed := true }
def BinMergesUptoSaid : Prop := binMergesUptoRow.holds Tryz.pinned (OpenSpec.upto binMergesSpec)

/-- 'cutroomlaw34.BinSymmetric', WHERE WHAT IT READS IS OF BULK AT MOST 1048576: true; the input reads as it did. -/
def binSymmetricUptoRow : OpenClaim := { program := "ytfoohocgdcgbcaagreat", sum := "8fa8cd2a503dff61c2d54ffd521a0d3fb91e001eb15704bb0fc19a7a3bd5334d", func := "cutroom/cutroomlaw34.BinSymmetric", spec := "binSymmetric", inPlace := ["math/bits.Add64", "math/bits.Sub64"], unfollowed := true, recurses := true, named := ["math/bits.divideError", "math/bits.overflowError"], apart := false, narrowed := true }
def BinSymmetricUptoSaid : Prop := binSymmetricUptoRow.holds Tryz.pinned (OpenSpec.upto binSymmetricSpec)

/-- 'cutroomlaw34.BinSides', WHERE WHAT IT READS IS OF BULK AT MOST 1048576: true; the input reads as it did. -/
def binSidesUptoRow : OpenClaim := { program := "ytfoohocgdcgbcaagreat", sum := "8fa8cd2a503dff61c2d54ffd521a0d3fb91e001eb15704bb0fc19a7a3bd5334d", func := "cutroom/cutroomlaw34.BinSides", spec := "binSides", inPlace := ["math/bits.Add64", "math/bits.Sub64"], unfollowed := true, recurses := true, named := ["math/bits.divideError", "math/bits.overflowError"], apart := false, narrowed := true }
def BinSidesUptoSaid : Prop := binSidesUptoRow.holds Tryz.pinned (OpenSpec.upto binSidesSpec)

/-- 'cutroomlaw34.BinBoth', WHERE WHAT IT READS IS OF BULK AT MOST 1048576: true; the input reads as it did. -/
def binBothUptoRow : OpenClaim := { program := "ytfoohocgdcgbcaagreat", sum := "8fa8cd2a503dff61c2d54ffd521a0d3fb91e001eb15704bb0fc19a7a3bd5334d", func := "cutroom/cutroomlaw34.BinBoth", spec := "binBoth", inPlace := ["math/bits.Add64", "math/bits.Sub64"], unfollowed := true, recurses := true, named := ["math/bits.divideError", "math/bits.overflowError"], apart := false, narrowed := true }
def BinBothUptoSaid : Prop := binBothUptoRow.holds Tryz.pinned (OpenSpec.upto binBothSpec)

/-- 'cutroomlaw34.BinHistory', WHERE WHAT IT READS IS OF BULK AT MOST 1048576: true; the input reads as it did. -/
def binHistoryUptoRow : OpenClaim := { program := "ytfoohocgdcgbcaagreat", sum := "8fa8cd2a503dff61c2d54ffd521a0d3fb91e001eb15704bb0fc19a7a3bd5334d", func := "cutroom/cutroomlaw34.BinHistory", spec := "binHistory", inPlace := ["math/bits.Add64", "math/bits.Sub64"], unfollowed := true, recurses := true, named := ["math/bits.divideError", "math/bits.overflowError"], apart := false, narrowed := true }
def BinHistoryUptoSaid : Prop := binHistoryUptoRow.holds Tryz.pinned (OpenSpec.upto binHistorySpec)

/-- 'cutroomlaw34.BinChanges', WHERE WHAT IT READS IS OF BULK AT MOST 1048576: true; the input reads as it did. -/
def binChangesUptoRow : OpenClaim := { program := "ytfoohocgdcgbcaagreat", sum := "8fa8cd2a503dff61c2d54ffd521a0d3fb91e001eb15704bb0fc19a7a3bd5334d", func := "cutroom/cutroomlaw34.BinChanges", spec := "binChanges", inPlace := ["math/bits.Add64", "math/bits.Sub64"], unfollowed := true, recurses := true, named := ["math/bits.divideError", "math/bits.overflowError"], apart := false, narrowed := true }
def BinChangesUptoSaid : Prop := binChangesUptoRow.holds Tryz.pinned (OpenSpec.upto binChangesSpec)

/-- 'cutroomlaw34.BinReplaces', WHERE WHAT IT READS IS OF BULK AT MOST 1048576: true; the input reads as it did. -/
def binReplacesUptoRow : OpenClaim := { program := "ytfoohocgdcgbcaagreat", sum := "8fa8cd2a503dff61c2d54ffd521a0d3fb91e001eb15704bb0fc19a7a3bd5334d", func := "cutroom/cutroomlaw34.BinReplaces", spec := "binReplaces", inPlace := ["math/bits.Add64", "math/bits.Sub64"], unfollowed := true, recurses := true, named := ["math/bits.divideError", "math/bits.overflowError"], apart := false, narrowed := true }
def BinReplacesUptoSaid : Prop := binReplacesUptoRow.holds Tryz.pinned (OpenSpec.upto binReplacesSpec)

/-- 'cutroomlaw34.BinRuns', WHERE WHAT IT READS IS OF BULK AT MOST 1048576: true; the input reads as it did. -/
def binRunsUptoRow : OpenClaim := { program := "ytfoohocgdcgbcaagreat", sum := "8fa8cd2a503dff61c2d54ffd521a0d3fb91e001eb15704bb0fc19a7a3bd5334d", func := "cutroom/cutroomlaw34.BinRuns", spec := "binRuns", inPlace := ["math/bits.Add64", "math/bits.Sub64"], unfollowed := true, recurses := true, named := ["math/bits.divideError", "math/bits.overflowError"], apart := false, narrowed := true }
def BinRunsUptoSaid : Prop := binRunsUptoRow.holds Tryz.pinned (OpenSpec.upto binRunsSpec)

/-- 'cutroomlaw34.BinStates', WHERE WHAT IT READS IS OF BULK AT MOST 1048576: true; the input reads as it did. -/
def binStatesUptoRow : OpenClaim := { program := "ytfoohocgdcgbcaagreat", sum := "8fa8cd2a503dff61c2d54ffd521a0d3fb91e001eb15704bb0fc19a7a3bd5334d", func := "cutroom/cutroomlaw34.BinStates", spec := "binStates", inPlace := ["math/bits.Add64", "math/bits.Sub64"], unfollowed := true, recurses := true, named := ["math/bits.divideError", "math/bits.overflowError"], apart := false, narrowed := true }
def BinStatesUptoSaid : Prop := binStatesUptoRow.holds Tryz.pinned (OpenSpec.upto binStatesSpec)

/-- 'cutroomlaw34.BinLocks', WHERE WHAT IT READS IS OF BULK AT MOST 1048576: true; the input reads as it did. -/
def binLocksUptoRow : OpenClaim := { program := "ytfoohocgdcgbcaagreat", sum := "8fa8cd2a503dff61c2d54ffd521a0d3fb91e001eb15704bb0fc19a7a3bd5334d", func := "cutroom/cutroomlaw34.BinLocks", spec := "binLocks", inPlace := ["math/bits.Add64", "math/bits.Sub64"], unfollowed := true, recurses := true, named := ["math/bits.divideError", "math/bits.overflowError"], apart := false, narrowed := true }
def BinLocksUptoSaid : Prop := binLocksUptoRow.holds Tryz.pinned (OpenSpec.upto binLocksSpec)

/-- 'cutroomlaw34.BinUndo', WHERE WHAT IT READS IS OF BULK AT MOST 1048576: true; the input reads as it did. -/
def binUndoUptoRow : OpenClaim := { program := "ytfoohocgdcgbcaagreat", sum := "8fa8cd2a503dff61c2d54ffd521a0d3fb91e001eb15704bb0fc19a7a3bd5334d", func := "cutroom/cutroomlaw34.BinUndo", spec := "binUndo", inPlace := ["math/bits.Add64", "math/bits.Sub64"], unfollowed := true, recurses := true, named := ["math/bits.divideError", "math/bits.overflowError"], apart := false, narrowed := true }
def BinUndoUptoSaid : Prop := binUndoUptoRow.holds Tryz.pinned (OpenSpec.upto binUndoSpec)

/-- 'cutroomlaw34.BinOthers', WHERE WHAT IT READS IS OF BULK AT MOST 1048576: true; the input reads as it did. -/
def binOthersUptoRow : OpenClaim := { program := "ytfoohocgdcgbcaagreat", sum := "8fa8cd2a503dff61c2d54ffd521a0d3fb91e001eb15704bb0fc19a7a3bd5334d", func := "cutroom/cutroomlaw34.BinOthers", spec := "binOthers", inPlace := ["math/bits.Add64", "math/bits.Sub64"], unfollowed := true, recurses := true, named := ["math/bits.divideError", "math/bits.overflowError"], apart := false, narrowed := true }
def BinOthersUptoSaid : Prop := binOthersUptoRow.holds Tryz.pinned (OpenSpec.upto binOthersSpec)

end Rows
end Go.Proofs.YtfoohocgdcgbcaaGreat
