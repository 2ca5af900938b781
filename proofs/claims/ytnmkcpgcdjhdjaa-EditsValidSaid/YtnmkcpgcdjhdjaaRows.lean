/-
  No cell of these rows narrows 'for every input' (looked for: loops, veiled, ifaces, maps, wideKeys, modest, calm, conditions, laid).
  DERIVED. THE GIVEN ROWS OF THIS SEAT. 12 by the template 'for every input the law returns true; each argument reads behind the call as it read before'; 0 by the template 'total and deterministic' (their statements: YtnmkcpgcdjhdjaaTotals.lean).
  GIVEN WITH THE SEED: the statements are not yours to turn. If you find one false, say at which input.
  Laid BY PROGRAM, IN A SANDBOX (cutbox-rows.mjs): the forced cells as the released guide's own fill.sh prints them over the translation 018794825d0894e4… (all of the seat's roots in one cut). By AI agents, Wed Nov 11 2026. No macro, syntax, notation, axiom, sorry.
-/
import Derived.Test.YtnmkcpgcdjhdjaaChecked
import GoSem.Claim
import GoSem.ClaimJoined
import GoSem.ClaimMapViews
import Derived.JoinedTies
import Derived.KernelRfl
namespace Go.Proofs.Ytnmkcpgcdjhdjaa
/- THE CELL 'sum', in the pinned program and in every row, IS THE sha256 OF THE DUMP (.gsa) THAT YtnmkcpgcdjhdjaaProg.lean LOADS. Nothing in Lean hashes anything: it is a label: what it is worth is what the hold of that sum in a sandbox is worth. -/
noncomputable def Try.pinned : Pinned := { name := "ytnmkcpgcdjhdjaa", sum := "018794825d0894e4d26aa7b64d5e027c29acadd57b39680bc89e9526b38b9f3f", checked := Try.checked }
namespace Rows
def none {H : Type} : Left H := { results := [], args := [] }

/-- 'cutroomlaw24.EditsValid': WHATEVER THE INPUT: true; the input reads as it did. -/
def editsValidSpec : ChangeSpec := { name := "editsValid", fn := fun _ => fun
  | [d1, d2] => { results := [.lit (.bool true)], args := [d1, d2] }
  | _ => none }
def editsValidRow : OpenClaim := { program := "ytnmkcpgcdjhdjaa", sum := "018794825d0894e4d26aa7b64d5e027c29acadd57b39680bc89e9526b38b9f3f", func := "cutroom/cutroomlaw24.EditsValid", spec := "editsValid", inPlace := ["math/bits.Add64", "math/bits.Sub64"], unfollowed := true, recurses := true, named := ["math/bits.divideError", "math/bits.overflowError"], apart := false }
def EditsValidSaid : Prop := editsValidRow.holds Try.pinned (OpenSpec.ofChange editsValidSpec)

/-- ITS FALSE NEIGHBOUR: 'it returns false'. Refute it at one input. -/
def editsValidWrong : ChangeSpec := { name := "editsValid", fn := fun _ => fun
  | [d1, d2] => { results := [.lit (.bool false)], args := [d1, d2] }
  | _ => none }
def EditsValidWrongFalsely : Prop := editsValidRow.holds Try.pinned (OpenSpec.ofChange editsValidWrong)

/-- 'cutroomlaw24.EditsUndo': WHATEVER THE INPUT: true; the input reads as it did. -/
def editsUndoSpec : ChangeSpec := { name := "editsUndo", fn := fun _ => fun
  | [d1, d2, d3] => { results := [.lit (.bool true)], args := [d1, d2, d3] }
  | _ => none }
def editsUndoRow : OpenClaim := { program := "ytnmkcpgcdjhdjaa", sum := "018794825d0894e4d26aa7b64d5e027c29acadd57b39680bc89e9526b38b9f3f", func := "cutroom/cutroomlaw24.EditsUndo", spec := "editsUndo", inPlace := ["math/bits.Add64", "math/bits.Sub64"], unfollowed := true, recurses := true, named := ["math/bits.divideError", "math/bits.overflowError"], apart := false }
def EditsUndoSaid : Prop := editsUndoRow.holds Try.pinned (OpenSpec.ofChange editsUndoSpec)

/-- ITS FALSE NEIGHBOUR: 'it returns false'. Refute it at one input. -/
def editsUndoWrong : ChangeSpec := { name := "editsUndo", fn := fun _ => fun
  | [d1, d2, d3] => { results := [.lit (.bool false)], args := [d1, d2, d3] }
  | _ => none }
def EditsUndoWrongFalsely : Prop := editsUndoRow.holds Try.pinned (OpenSpec.ofChange editsUndoWrong)

/-- 'cutroomlaw24.EditsNormal': WHATEVER THE INPUT: true; the input reads as it did. -/
def editsNormalSpec : ChangeSpec := { name := "editsNormal", fn := fun _ => fun
  | [d1, d2] => { results := [.lit (.bool true)], args := [d1, d2] }
  | _ => none }
def editsNormalRow : OpenClaim := { program := "ytnmkcpgcdjhdjaa", sum := "018794825d0894e4d26aa7b64d5e027c29acadd57b39680bc89e9526b38b9f3f", func := "cutroom/cutroomlaw24.EditsNormal", spec := "editsNormal", inPlace := ["math/bits.Add64", "math/bits.Sub64"], unfollowed := true, recurses := true, named := ["math/bits.divideError", "math/bits.overflowError"], apart := false }
def EditsNormalSaid : Prop := editsNormalRow.holds Try.pinned (OpenSpec.ofChange editsNormalSpec)

/-- ITS FALSE NEIGHBOUR: 'it returns false'. Refute it at one input. -/
def editsNormalWrong : ChangeSpec := { name := "editsNormal", fn := fun _ => fun
  | [d1, d2] => { results := [.lit (.bool false)], args := [d1, d2] }
  | _ => none }
def EditsNormalWrongFalsely : Prop := editsNormalRow.holds Try.pinned (OpenSpec.ofChange editsNormalWrong)

/-- 'cutroomlaw24.EditsInserts': WHATEVER THE INPUT: true; the input reads as it did. -/
def editsInsertsSpec : ChangeSpec := { name := "editsInserts", fn := fun _ => fun
  | [d1, d2] => { results := [.lit (.bool true)], args := [d1, d2] }
  | _ => none }
def editsInsertsRow : OpenClaim := { program := "ytnmkcpgcdjhdjaa", sum := "018794825d0894e4d26aa7b64d5e027c29acadd57b39680bc89e9526b38b9f3f", func := "cutroom/cutroomlaw24.EditsInserts", spec := "editsInserts", inPlace := ["math/bits.Add64", "math/bits.Sub64"], unfollowed := true, recurses := true, named := ["math/bits.divideError", "math/bits.overflowError"], apart := false }
def EditsInsertsSaid : Prop := editsInsertsRow.holds Try.pinned (OpenSpec.ofChange editsInsertsSpec)

/-- ITS FALSE NEIGHBOUR: 'it returns false'. Refute it at one input. -/
def editsInsertsWrong : ChangeSpec := { name := "editsInserts", fn := fun _ => fun
  | [d1, d2] => { results := [.lit (.bool false)], args := [d1, d2] }
  | _ => none }
def EditsInsertsWrongFalsely : Prop := editsInsertsRow.holds Try.pinned (OpenSpec.ofChange editsInsertsWrong)

/-- 'cutroomlaw24.EditsExtracts': WHATEVER THE INPUT: true; the input reads as it did. -/
def editsExtractsSpec : ChangeSpec := { name := "editsExtracts", fn := fun _ => fun
  | [d1, d2, d3] => { results := [.lit (.bool true)], args := [d1, d2, d3] }
  | _ => none }
def editsExtractsRow : OpenClaim := { program := "ytnmkcpgcdjhdjaa", sum := "018794825d0894e4d26aa7b64d5e027c29acadd57b39680bc89e9526b38b9f3f", func := "cutroom/cutroomlaw24.EditsExtracts", spec := "editsExtracts", inPlace := ["math/bits.Add64", "math/bits.Sub64"], unfollowed := true, recurses := true, named := ["math/bits.divideError", "math/bits.overflowError"], apart := false }
def EditsExtractsSaid : Prop := editsExtractsRow.holds Try.pinned (OpenSpec.ofChange editsExtractsSpec)

/-- ITS FALSE NEIGHBOUR: 'it returns false'. Refute it at one input. -/
def editsExtractsWrong : ChangeSpec := { name := "editsExtracts", fn := fun _ => fun
  | [d1, d2, d3] => { results := [.lit (.bool false)], args := [d1, d2, d3] }
  | _ => none }
def EditsExtractsWrongFalsely : Prop := editsExtractsRow.holds Try.pinned (OpenSpec.ofChange editsExtractsWrong)

/-- 'cutroomlaw24.EditsOverwrites': WHATEVER THE INPUT: true; the input reads as it did. -/
def editsOverwritesSpec : ChangeSpec := { name := "editsOverwrites", fn := fun _ => fun
  | [d1, d2, d3] => { results := [.lit (.bool true)], args := [d1, d2, d3] }
  | _ => none }
def editsOverwritesRow : OpenClaim := { program := "ytnmkcpgcdjhdjaa", sum := "018794825d0894e4d26aa7b64d5e027c29acadd57b39680bc89e9526b38b9f3f", func := "cutroom/cutroomlaw24.EditsOverwrites", spec := "editsOverwrites", inPlace := ["math/bits.Add64", "math/bits.Sub64"], unfollowed := true, recurses := true, named := ["math/bits.divideError", "math/bits.overflowError"], apart := false }
def EditsOverwritesSaid : Prop := editsOverwritesRow.holds Try.pinned (OpenSpec.ofChange editsOverwritesSpec)

/-- ITS FALSE NEIGHBOUR: 'it returns false'. Refute it at one input. -/
def editsOverwritesWrong : ChangeSpec := { name := "editsOverwrites", fn := fun _ => fun
  | [d1, d2, d3] => { results := [.lit (.bool false)], args := [d1, d2, d3] }
  | _ => none }
def EditsOverwritesWrongFalsely : Prop := editsOverwritesRow.holds Try.pinned (OpenSpec.ofChange editsOverwritesWrong)

/-- 'cutroomlaw24.EditsRipples': WHATEVER THE INPUT: true; the input reads as it did. -/
def editsRipplesSpec : ChangeSpec := { name := "editsRipples", fn := fun _ => fun
  | [d1, d2, d3] => { results := [.lit (.bool true)], args := [d1, d2, d3] }
  | _ => none }
def editsRipplesRow : OpenClaim := { program := "ytnmkcpgcdjhdjaa", sum := "018794825d0894e4d26aa7b64d5e027c29acadd57b39680bc89e9526b38b9f3f", func := "cutroom/cutroomlaw24.EditsRipples", spec := "editsRipples", inPlace := ["math/bits.Add64", "math/bits.Sub64"], unfollowed := true, recurses := true, named := ["math/bits.divideError", "math/bits.overflowError"], apart := false }
def EditsRipplesSaid : Prop := editsRipplesRow.holds Try.pinned (OpenSpec.ofChange editsRipplesSpec)

/-- ITS FALSE NEIGHBOUR: 'it returns false'. Refute it at one input. -/
def editsRipplesWrong : ChangeSpec := { name := "editsRipples", fn := fun _ => fun
  | [d1, d2, d3] => { results := [.lit (.bool false)], args := [d1, d2, d3] }
  | _ => none }
def EditsRipplesWrongFalsely : Prop := editsRipplesRow.holds Try.pinned (OpenSpec.ofChange editsRipplesWrong)

/-- 'cutroomlaw24.EditsHeads': WHATEVER THE INPUT: true; the input reads as it did. -/
def editsHeadsSpec : ChangeSpec := { name := "editsHeads", fn := fun _ => fun
  | [d1, d2, d3] => { results := [.lit (.bool true)], args := [d1, d2, d3] }
  | _ => none }
def editsHeadsRow : OpenClaim := { program := "ytnmkcpgcdjhdjaa", sum := "018794825d0894e4d26aa7b64d5e027c29acadd57b39680bc89e9526b38b9f3f", func := "cutroom/cutroomlaw24.EditsHeads", spec := "editsHeads", inPlace := ["math/bits.Add64", "math/bits.Sub64"], unfollowed := true, recurses := true, named := ["math/bits.divideError", "math/bits.overflowError"], apart := false }
def EditsHeadsSaid : Prop := editsHeadsRow.holds Try.pinned (OpenSpec.ofChange editsHeadsSpec)

/-- ITS FALSE NEIGHBOUR: 'it returns false'. Refute it at one input. -/
def editsHeadsWrong : ChangeSpec := { name := "editsHeads", fn := fun _ => fun
  | [d1, d2, d3] => { results := [.lit (.bool false)], args := [d1, d2, d3] }
  | _ => none }
def EditsHeadsWrongFalsely : Prop := editsHeadsRow.holds Try.pinned (OpenSpec.ofChange editsHeadsWrong)

/-- 'cutroomlaw24.EditsRolls': WHATEVER THE INPUT: true; the input reads as it did. -/
def editsRollsSpec : ChangeSpec := { name := "editsRolls", fn := fun _ => fun
  | [d1, d2, d3] => { results := [.lit (.bool true)], args := [d1, d2, d3] }
  | _ => none }
def editsRollsRow : OpenClaim := { program := "ytnmkcpgcdjhdjaa", sum := "018794825d0894e4d26aa7b64d5e027c29acadd57b39680bc89e9526b38b9f3f", func := "cutroom/cutroomlaw24.EditsRolls", spec := "editsRolls", inPlace := ["math/bits.Add64", "math/bits.Sub64"], unfollowed := true, recurses := true, named := ["math/bits.divideError", "math/bits.overflowError"], apart := false }
def EditsRollsSaid : Prop := editsRollsRow.holds Try.pinned (OpenSpec.ofChange editsRollsSpec)

/-- ITS FALSE NEIGHBOUR: 'it returns false'. Refute it at one input. -/
def editsRollsWrong : ChangeSpec := { name := "editsRolls", fn := fun _ => fun
  | [d1, d2, d3] => { results := [.lit (.bool false)], args := [d1, d2, d3] }
  | _ => none }
def EditsRollsWrongFalsely : Prop := editsRollsRow.holds Try.pinned (OpenSpec.ofChange editsRollsWrong)

/-- 'cutroomlaw24.EditsSlides': WHATEVER THE INPUT: true; the input reads as it did. -/
def editsSlidesSpec : ChangeSpec := { name := "editsSlides", fn := fun _ => fun
  | [d1, d2, d3] => { results := [.lit (.bool true)], args := [d1, d2, d3] }
  | _ => none }
def editsSlidesRow : OpenClaim := { program := "ytnmkcpgcdjhdjaa", sum := "018794825d0894e4d26aa7b64d5e027c29acadd57b39680bc89e9526b38b9f3f", func := "cutroom/cutroomlaw24.EditsSlides", spec := "editsSlides", inPlace := ["math/bits.Add64", "math/bits.Sub64"], unfollowed := true, recurses := true, named := ["math/bits.divideError", "math/bits.overflowError"], apart := false }
def EditsSlidesSaid : Prop := editsSlidesRow.holds Try.pinned (OpenSpec.ofChange editsSlidesSpec)

/-- ITS FALSE NEIGHBOUR: 'it returns false'. Refute it at one input. -/
def editsSlidesWrong : ChangeSpec := { name := "editsSlides", fn := fun _ => fun
  | [d1, d2, d3] => { results := [.lit (.bool false)], args := [d1, d2, d3] }
  | _ => none }
def EditsSlidesWrongFalsely : Prop := editsSlidesRow.holds Try.pinned (OpenSpec.ofChange editsSlidesWrong)

/-- 'cutroomlaw24.EditsRetimes': WHATEVER THE INPUT: true; the input reads as it did. -/
def editsRetimesSpec : ChangeSpec := { name := "editsRetimes", fn := fun _ => fun
  | [d1, d2, d3] => { results := [.lit (.bool true)], args := [d1, d2, d3] }
  | _ => none }
def editsRetimesRow : OpenClaim := { program := "ytnmkcpgcdjhdjaa", sum := "018794825d0894e4d26aa7b64d5e027c29acadd57b39680bc89e9526b38b9f3f", func := "cutroom/cutroomlaw24.EditsRetimes", spec := "editsRetimes", inPlace := ["math/bits.Add64", "math/bits.Sub64"], unfollowed := true, recurses := true, named := ["math/bits.divideError", "math/bits.overflowError"], apart := false }
def EditsRetimesSaid : Prop := editsRetimesRow.holds Try.pinned (OpenSpec.ofChange editsRetimesSpec)

/-- ITS FALSE NEIGHBOUR: 'it returns false'. Refute it at one input. -/
def editsRetimesWrong : ChangeSpec := { name := "editsRetimes", fn := fun _ => fun
  | [d1, d2, d3] => { results := [.lit (.bool false)], args := [d1, d2, d3] }
  | _ => none }
def EditsRetimesWrongFalsely : Prop := editsRetimesRow.holds Try.pinned (OpenSpec.ofChange editsRetimesWrong)

/-- 'cutroomlaw24.EditsCommute': WHATEVER THE INPUT: true; the input reads as it did. -/
def editsCommuteSpec : ChangeSpec := { name := "editsCommute", fn := fun _ => fun
  | [d1, d2, d3, d4, d5, d6] => { results := [.lit (.bool true)], args := [d1, d2, d3, d4, d5, d6] }
  | _ => none }
def editsCommuteRow : OpenClaim := { program := "ytnmkcpgcdjhdjaa", sum := "018794825d0894e4d26aa7b64d5e027c29acadd57b39680bc89e9526b38b9f3f", func := "cutroom/cutroomlaw24.EditsCommute", spec := "editsCommute", inPlace := ["math/bits.Add64", "math/bits.Sub64"], unfollowed := true, recurses := true, named := ["math/bits.divideError", "math/bits.overflowError"], apart := false }
def EditsCommuteSaid : Prop := editsCommuteRow.holds Try.pinned (OpenSpec.ofChange editsCommuteSpec)

/-- ITS FALSE NEIGHBOUR: 'it returns false'. Refute it at one input. -/
def editsCommuteWrong : ChangeSpec := { name := "editsCommute", fn := fun _ => fun
  | [d1, d2, d3, d4, d5, d6] => { results := [.lit (.bool false)], args := [d1, d2, d3, d4, d5, d6] }
  | _ => none }
def EditsCommuteWrongFalsely : Prop := editsCommuteRow.holds Try.pinned (OpenSpec.ofChange editsCommuteWrong)

/- THE SECOND FORM. 'bulk': how many values and letters a reading holds, each counted each time it is reached (what is shared counts as often as it is met; a slice's spare places count too). A statement '..UptoSaid' is the law's where the arguments, and the package variables that the reading takes, are together of bulk at most 1048576: NARROWER than '..Said'. Prove '..Said' where nothing that the law and all that it calls make is longer than what came in: it says more and counts as full. Else prove '..UptoSaid'. A law counts once. -/
mutual
def uptoBulk {H : Type} : DataW H → Nat
  | .lit (.string bytes) => bytes.length + 1
  | .lit _ => 1
  | .nil => 1
  | .ptr d => uptoBulk d + 1
  | .slice elems spare => uptoBulkAll elems + uptoBulkAll spare + 1
  | .agg parts => uptoBulkAll parts + 1
  | .iface _ d => uptoBulk d + 1
  | .map entries => uptoBulkEntries entries + 1
  | .held _ => 1
def uptoBulkAll {H : Type} : List (DataW H) → Nat
  | [] => 0
  | d :: r => uptoBulk d + uptoBulkAll r
def uptoBulkEntries {H : Type} : List (Lit × DataW H) → Nat
  | [] => 0
  | x :: r => uptoBulkEntry x + uptoBulkEntries r
def uptoBulkEntry {H : Type} : Lit × DataW H → Nat
  | (.string bytes, d) => bytes.length + uptoBulk d + 1
  | (_, d) => uptoBulk d + 1
 end
def uptoSmall : (H : Type) → List (DataW H) → Bool := fun _ ds => decide (uptoBulkAll ds ≤ 1048576)
def OpenSpec.upto (s : _root_.Go.ChangeSpec) : _root_.Go.OpenSpec := { _root_.Go.OpenSpec.ofChange s with cond := some uptoSmall }

/-- 'cutroomlaw24.EditsValid', WHERE WHAT IT READS IS OF BULK AT MOST 1048576: true; the input reads as it did. -/
def editsValidUptoRow : OpenClaim := { program := "ytnmkcpgcdjhdjaa", sum := "018794825d0894e4d26aa7b64d5e027c29acadd57b39680bc89e9526b38b9f3f", func := "cutroom/cutroomlaw24.EditsValid", spec := "editsValid", inPlace := ["math/bits.Add64", "math/bits.Sub64"], unfollowed := true, recurses := true, named := ["math/bits.divideError", "math/bits.overflowError"], apart := false, narrowed := true }
def EditsValidUptoSaid : Prop := editsValidUptoRow.holds Try.pinned (OpenSpec.upto editsValidSpec)

/-- 'cutroomlaw24.EditsUndo', WHERE WHAT IT READS IS OF BULK AT MOST 1048576: true; the input reads as it did. -/
def editsUndoUptoRow : OpenClaim := { program := "ytnmkcpgcdjhdjaa", sum := "018794825d0894e4d26aa7b64d5e027c29acadd57b39680bc89e9526b38b9f3f", func := "cutroom/cutroomlaw24.EditsUndo", spec := "editsUndo", inPlace := ["math/bits.Add64", "math/bits.Sub64"], unfollowed := true, recurses := true, named := ["math/bits.divideError", "math/bits.overflowError"], apart := false, narrowed := true }
def EditsUndoUptoSaid : Prop := editsUndoUptoRow.holds Try.pinned (OpenSpec.upto editsUndoSpec)

/-- 'cutroomlaw24.EditsNormal', WHERE WHAT IT READS IS OF BULK AT MOST 1048576: true; the input reads as it did. -/
def editsNormalUptoRow : OpenClaim := { program := "ytnmkcpgcdjhdjaa", sum := "018794825d0894e4d26aa7b64d5e027c29acadd57b39680bc89e9526b38b9f3f", func := "cutroom/cutroomlaw24.EditsNormal", spec := "editsNormal", inPlace := ["math/bits.Add64", "math/bits.Sub64"], unfollowed := true, recurses := true, named := ["math/bits.divideError", "math/bits.overflowError"], apart := false, narrowed := true }
def EditsNormalUptoSaid : Prop := editsNormalUptoRow.holds Try.pinned (OpenSpec.upto editsNormalSpec)

/-- 'cutroomlaw24.EditsInserts', WHERE WHAT IT READS IS OF BULK AT MOST 1048576: true; the input reads as it did. -/
def editsInsertsUptoRow : OpenClaim := { program := "ytnmkcpgcdjhdjaa", sum := "018794825d0894e4d26aa7b64d5e027c29acadd57b39680bc89e9526b38b9f3f", func := "cutroom/cutroomlaw24.EditsInserts", spec := "editsInserts", inPlace := ["math/bits.Add64", "math/bits.Sub64"], unfollowed := true, recurses := true, named := ["math/bits.divideError", "math/bits.overflowError"], apart := false, narrowed := true }
def EditsInsertsUptoSaid : Prop := editsInsertsUptoRow.holds Try.pinned (OpenSpec.upto editsInsertsSpec)

/-- 'cutroomlaw24.EditsExtracts', WHERE WHAT IT READS IS OF BULK AT MOST 1048576: true; the input reads as it did. -/
def editsExtractsUptoRow : OpenClaim := { program := "ytnmkcpgcdjhdjaa", sum := "018794825d0894e4d26aa7b64d5e027c29acadd57b39680bc89e9526b38b9f3f", func := "cutroom/cutroomlaw24.EditsExtracts", spec := "editsExtracts", inPlace := ["math/bits.Add64", "math/bits.Sub64"], unfollowed := true, recurses := true, named := ["math/bits.divideError", "math/bits.overflowError"], apart := false, narrowed := true }
def EditsExtractsUptoSaid : Prop := editsExtractsUptoRow.holds Try.pinned (OpenSpec.upto editsExtractsSpec)

/-- 'cutroomlaw24.EditsOverwrites', WHERE WHAT IT READS IS OF BULK AT MOST 1048576: true; the input reads as it did. -/
def editsOverwritesUptoRow : OpenClaim := { program := "ytnmkcpgcdjhdjaa", sum := "018794825d0894e4d26aa7b64d5e027c29acadd57b39680bc89e9526b38b9f3f", func := "cutroom/cutroomlaw24.EditsOverwrites", spec := "editsOverwrites", inPlace := ["math/bits.Add64", "math/bits.Sub64"], unfollowed := true, recurses := true, named := ["math/bits.divideError", "math/bits.overflowError"], apart := false, narrowed := true }
def EditsOverwritesUptoSaid : Prop := editsOverwritesUptoRow.holds Try.pinned (OpenSpec.upto editsOverwritesSpec)

/-- 'cutroomlaw24.EditsRipples', WHERE WHAT IT READS IS OF BULK AT MOST 1048576: true; the input reads as it did. -/
def editsRipplesUptoRow : OpenClaim := { program := "ytnmkcpgcdjhdjaa", sum := "018794825d0894e4d26aa7b64d5e027c29acadd57b39680bc89e9526b38b9f3f", func := "cutroom/cutroomlaw24.EditsRipples", spec := "editsRipples", inPlace := ["math/bits.Add64", "math/bits.Sub64"], unfollowed := true, recurses := true, named := ["math/bits.divideError", "math/bits.overflowError"], apart := false, narrowed := true }
def EditsRipplesUptoSaid : Prop := editsRipplesUptoRow.holds Try.pinned (OpenSpec.upto editsRipplesSpec)

/-- 'cutroomlaw24.EditsHeads', WHERE WHAT IT READS IS OF BULK AT MOST 1048576: true; the input reads as it did. -/
def editsHeadsUptoRow : OpenClaim := { program := "ytnmkcpgcdjhdjaa", sum := "018794825d0894e4d26aa7b64d5e027c29acadd57b39680bc89e9526b38b9f3f", func := "cutroom/cutroomlaw24.EditsHeads", spec := "editsHeads", inPlace := ["math/bits.Add64", "math/bits.Sub64"], unfollowed := true, recurses := true, named := ["math/bits.divideError", "math/bits.overflowError"], apart := false, narrowed := true }
def EditsHeadsUptoSaid : Prop := editsHeadsUptoRow.holds Try.pinned (OpenSpec.upto editsHeadsSpec)

/-- 'cutroomlaw24.EditsRolls', WHERE WHAT IT READS IS OF BULK AT MOST 1048576: true; the input reads as it did. -/
def editsRollsUptoRow : OpenClaim := { program := "ytnmkcpgcdjhdjaa", sum := "018794825d0894e4d26aa7b64d5e027c29acadd57b39680bc89e9526b38b9f3f", func := "cutroom/cutroomlaw24.EditsRolls", spec := "editsRolls", inPlace := ["math/bits.Add64", "math/bits.Sub64"], unfollowed := true, recurses := true, named := ["math/bits.divideError", "math/bits.overflowError"], apart := false, narrowed := true }
def EditsRollsUptoSaid : Prop := editsRollsUptoRow.holds Try.pinned (OpenSpec.upto editsRollsSpec)

/-- 'cutroomlaw24.EditsSlides', WHERE WHAT IT READS IS OF BULK AT MOST 1048576: true; the input reads as it did. -/
def editsSlidesUptoRow : OpenClaim := { program := "ytnmkcpgcdjhdjaa", sum := "018794825d0894e4d26aa7b64d5e027c29acadd57b39680bc89e9526b38b9f3f", func := "cutroom/cutroomlaw24.EditsSlides", spec := "editsSlides", inPlace := ["math/bits.Add64", "math/bits.Sub64"], unfollowed := true, recurses := true, named := ["math/bits.divideError", "math/bits.overflowError"], apart := false, narrowed := true }
def EditsSlidesUptoSaid : Prop := editsSlidesUptoRow.holds Try.pinned (OpenSpec.upto editsSlidesSpec)

/-- 'cutroomlaw24.EditsRetimes', WHERE WHAT IT READS IS OF BULK AT MOST 1048576: true; the input reads as it did. -/
def editsRetimesUptoRow : OpenClaim := { program := "ytnmkcpgcdjhdjaa", sum := "018794825d0894e4d26aa7b64d5e027c29acadd57b39680bc89e9526b38b9f3f", func := "cutroom/cutroomlaw24.EditsRetimes", spec := "editsRetimes", inPlace := ["math/bits.Add64", "math/bits.Sub64"], unfollowed := true, recurses := true, named := ["math/bits.divideError", "math/bits.overflowError"], apart := false, narrowed := true }
def EditsRetimesUptoSaid : Prop := editsRetimesUptoRow.holds Try.pinned (OpenSpec.upto editsRetimesSpec)

/-- 'cutroomlaw24.EditsCommute', WHERE WHAT IT READS IS OF BULK AT MOST 1048576: true; the input reads as it did. -/
def editsCommuteUptoRow : OpenClaim := { program := "ytnmkcpgcdjhdjaa", sum := "018794825d0894e4d26aa7b64d5e027c29acadd57b39680bc89e9526b38b9f3f", func := "cutroom/cutroomlaw24.EditsCommute", spec := "editsCommute", inPlace := ["math/bits.Add64", "math/bits.Sub64"], unfollowed := true, recurses := true, named := ["math/bits.divideError", "math/bits.overflowError"], apart := false, narrowed := true }
def EditsCommuteUptoSaid : Prop := editsCommuteUptoRow.holds Try.pinned (OpenSpec.upto editsCommuteSpec)

end Rows
end Go.Proofs.Ytnmkcpgcdjhdjaa
