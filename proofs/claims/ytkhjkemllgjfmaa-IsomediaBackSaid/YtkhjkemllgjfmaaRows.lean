/-
  No cell of these rows narrows 'for every input' (looked for: loops, veiled, ifaces, maps, wideKeys, modest, calm, conditions, laid).
  DERIVED. THE GIVEN ROWS OF THIS SEAT. 7 by the template 'for every input the law returns true; each argument reads behind the call as it read before'; 0 by the template 'total and deterministic' (their statements: YtkhjkemllgjfmaaTotals.lean).
  GIVEN WITH THE SEED: the statements are not yours to turn. If you find one false, say at which input.
  Laid BY PROGRAM, IN A SANDBOX (cutbox-rows.mjs): the forced cells as the released guide's own fill.sh prints them over the translation d10187e04e2a3d3b… (all of the seat's roots in one cut). By AI agents, Wed Nov 11 2026. No macro, syntax, notation, axiom, sorry.
-/
import Derived.Test.YtkhjkemllgjfmaaChecked
import GoSem.Claim
import GoSem.ClaimJoined
import GoSem.ClaimMapViews
import Derived.JoinedTies
import Derived.KernelRfl
namespace Go.Proofs.Ytkhjkemllgjfmaa
/- THE CELL 'sum', in the pinned program and in every row, IS THE sha256 OF THE DUMP (.gsa) THAT YtkhjkemllgjfmaaProg.lean LOADS. Nothing in Lean hashes anything: it is a label: what it is worth is what the hold of that sum in a sandbox is worth. -/
noncomputable def Try.pinned : Pinned := { name := "ytkhjkemllgjfmaa", sum := "d10187e04e2a3d3b002884a4e8a50dd89d9d763c5ec7c7ab2653abc1cbc72804", checked := Try.checked }
namespace Rows
def none {H : Type} : Left H := { results := [], args := [] }

/-- 'cutroomlaw18.IsomediaBoxes': WHATEVER THE INPUT: true; the input reads as it did. -/
def isomediaBoxesSpec : ChangeSpec := { name := "isomediaBoxes", fn := fun _ => fun
  | [d1, d2, d3] => { results := [.lit (.bool true)], args := [d1, d2, d3] }
  | _ => none }
def isomediaBoxesRow : OpenClaim := { program := "ytkhjkemllgjfmaa", sum := "d10187e04e2a3d3b002884a4e8a50dd89d9d763c5ec7c7ab2653abc1cbc72804", func := "cutroom/cutroomlaw18.IsomediaBoxes", spec := "isomediaBoxes", unfollowed := true, recurses := true, apart := false }
def IsomediaBoxesSaid : Prop := isomediaBoxesRow.holds Try.pinned (OpenSpec.ofChange isomediaBoxesSpec)

/-- ITS FALSE NEIGHBOUR: 'it returns false'. Refute it at one input. -/
def isomediaBoxesWrong : ChangeSpec := { name := "isomediaBoxes", fn := fun _ => fun
  | [d1, d2, d3] => { results := [.lit (.bool false)], args := [d1, d2, d3] }
  | _ => none }
def IsomediaBoxesWrongFalsely : Prop := isomediaBoxesRow.holds Try.pinned (OpenSpec.ofChange isomediaBoxesWrong)

/-- 'cutroomlaw18.IsomediaLocates': WHATEVER THE INPUT: true; the input reads as it did. -/
def isomediaLocatesSpec : ChangeSpec := { name := "isomediaLocates", fn := fun _ => fun
  | [d1, d2, d3] => { results := [.lit (.bool true)], args := [d1, d2, d3] }
  | _ => none }
def isomediaLocatesRow : OpenClaim := { program := "ytkhjkemllgjfmaa", sum := "d10187e04e2a3d3b002884a4e8a50dd89d9d763c5ec7c7ab2653abc1cbc72804", func := "cutroom/cutroomlaw18.IsomediaLocates", spec := "isomediaLocates", unfollowed := true, recurses := true, apart := false }
def IsomediaLocatesSaid : Prop := isomediaLocatesRow.holds Try.pinned (OpenSpec.ofChange isomediaLocatesSpec)

/-- ITS FALSE NEIGHBOUR: 'it returns false'. Refute it at one input. -/
def isomediaLocatesWrong : ChangeSpec := { name := "isomediaLocates", fn := fun _ => fun
  | [d1, d2, d3] => { results := [.lit (.bool false)], args := [d1, d2, d3] }
  | _ => none }
def IsomediaLocatesWrongFalsely : Prop := isomediaLocatesRow.holds Try.pinned (OpenSpec.ofChange isomediaLocatesWrong)

/-- 'cutroomlaw18.IsomediaTimes': WHATEVER THE INPUT: true; the input reads as it did. -/
def isomediaTimesSpec : ChangeSpec := { name := "isomediaTimes", fn := fun _ => fun
  | [d1, d2] => { results := [.lit (.bool true)], args := [d1, d2] }
  | _ => none }
def isomediaTimesRow : OpenClaim := { program := "ytkhjkemllgjfmaa", sum := "d10187e04e2a3d3b002884a4e8a50dd89d9d763c5ec7c7ab2653abc1cbc72804", func := "cutroom/cutroomlaw18.IsomediaTimes", spec := "isomediaTimes", unfollowed := true, recurses := true, apart := false }
def IsomediaTimesSaid : Prop := isomediaTimesRow.holds Try.pinned (OpenSpec.ofChange isomediaTimesSpec)

/-- ITS FALSE NEIGHBOUR: 'it returns false'. Refute it at one input. -/
def isomediaTimesWrong : ChangeSpec := { name := "isomediaTimes", fn := fun _ => fun
  | [d1, d2] => { results := [.lit (.bool false)], args := [d1, d2] }
  | _ => none }
def IsomediaTimesWrongFalsely : Prop := isomediaTimesRow.holds Try.pinned (OpenSpec.ofChange isomediaTimesWrong)

/-- 'cutroomlaw18.IsomediaDelay': WHATEVER THE INPUT: true; the input reads as it did. -/
def isomediaDelaySpec : ChangeSpec := { name := "isomediaDelay", fn := fun _ => fun
  | [d1, d2, d3] => { results := [.lit (.bool true)], args := [d1, d2, d3] }
  | _ => none }
def isomediaDelayRow : OpenClaim := { program := "ytkhjkemllgjfmaa", sum := "d10187e04e2a3d3b002884a4e8a50dd89d9d763c5ec7c7ab2653abc1cbc72804", func := "cutroom/cutroomlaw18.IsomediaDelay", spec := "isomediaDelay", unfollowed := true, recurses := true, apart := false }
def IsomediaDelaySaid : Prop := isomediaDelayRow.holds Try.pinned (OpenSpec.ofChange isomediaDelaySpec)

/-- ITS FALSE NEIGHBOUR: 'it returns false'. Refute it at one input. -/
def isomediaDelayWrong : ChangeSpec := { name := "isomediaDelay", fn := fun _ => fun
  | [d1, d2, d3] => { results := [.lit (.bool false)], args := [d1, d2, d3] }
  | _ => none }
def IsomediaDelayWrongFalsely : Prop := isomediaDelayRow.holds Try.pinned (OpenSpec.ofChange isomediaDelayWrong)

/-- 'cutroomlaw18.IsomediaPuts': WHATEVER THE INPUT: true; the input reads as it did. -/
def isomediaPutsSpec : ChangeSpec := { name := "isomediaPuts", fn := fun _ => fun
  | [d] => { results := [.lit (.bool true)], args := [d] }
  | _ => none }
def isomediaPutsRow : OpenClaim := { program := "ytkhjkemllgjfmaa", sum := "d10187e04e2a3d3b002884a4e8a50dd89d9d763c5ec7c7ab2653abc1cbc72804", func := "cutroom/cutroomlaw18.IsomediaPuts", spec := "isomediaPuts", unfollowed := true, recurses := true, apart := false }
def IsomediaPutsSaid : Prop := isomediaPutsRow.holds Try.pinned (OpenSpec.ofChange isomediaPutsSpec)

/-- ITS FALSE NEIGHBOUR: 'it returns false'. Refute it at one input. -/
def isomediaPutsWrong : ChangeSpec := { name := "isomediaPuts", fn := fun _ => fun
  | [d] => { results := [.lit (.bool false)], args := [d] }
  | _ => none }
def IsomediaPutsWrongFalsely : Prop := isomediaPutsRow.holds Try.pinned (OpenSpec.ofChange isomediaPutsWrong)

/-- 'cutroomlaw18.IsomediaBack': WHATEVER THE INPUT: true; the input reads as it did. -/
def isomediaBackSpec : ChangeSpec := { name := "isomediaBack", fn := fun _ => fun
  | [d] => { results := [.lit (.bool true)], args := [d] }
  | _ => none }
def isomediaBackRow : OpenClaim := { program := "ytkhjkemllgjfmaa", sum := "d10187e04e2a3d3b002884a4e8a50dd89d9d763c5ec7c7ab2653abc1cbc72804", func := "cutroom/cutroomlaw18.IsomediaBack", spec := "isomediaBack", unfollowed := true, recurses := true, apart := false }
def IsomediaBackSaid : Prop := isomediaBackRow.holds Try.pinned (OpenSpec.ofChange isomediaBackSpec)

/-- ITS FALSE NEIGHBOUR: 'it returns false'. Refute it at one input. -/
def isomediaBackWrong : ChangeSpec := { name := "isomediaBack", fn := fun _ => fun
  | [d] => { results := [.lit (.bool false)], args := [d] }
  | _ => none }
def IsomediaBackWrongFalsely : Prop := isomediaBackRow.holds Try.pinned (OpenSpec.ofChange isomediaBackWrong)

/-- 'cutroomlaw18.IsomediaShort': WHATEVER THE INPUT: true; the input reads as it did. -/
def isomediaShortSpec : ChangeSpec := { name := "isomediaShort", fn := fun _ => fun
  | [d1, d2] => { results := [.lit (.bool true)], args := [d1, d2] }
  | _ => none }
def isomediaShortRow : OpenClaim := { program := "ytkhjkemllgjfmaa", sum := "d10187e04e2a3d3b002884a4e8a50dd89d9d763c5ec7c7ab2653abc1cbc72804", func := "cutroom/cutroomlaw18.IsomediaShort", spec := "isomediaShort", unfollowed := true, recurses := true, apart := false }
def IsomediaShortSaid : Prop := isomediaShortRow.holds Try.pinned (OpenSpec.ofChange isomediaShortSpec)

/-- ITS FALSE NEIGHBOUR: 'it returns false'. Refute it at one input. -/
def isomediaShortWrong : ChangeSpec := { name := "isomediaShort", fn := fun _ => fun
  | [d1, d2] => { results := [.lit (.bool false)], args := [d1, d2] }
  | _ => none }
def IsomediaShortWrongFalsely : Prop := isomediaShortRow.holds Try.pinned (OpenSpec.ofChange isomediaShortWrong)

/- THE SECOND FORM. 'bulk': how many values and letters a reading holds, each counted each time it is reached (what is shared counts as often as it is met; a slice's spare places count too). A statement '..UptoSaid' is the law's where the arguments, and the package variables that the reading takes, are together of bulk at most 1048576: NARROWER than '..Said'. Prove '..Said' where nothing that the law and all that it calls make is longer than what came in: it says more and counts as full. Else prove '..UptoSaid'. A law counts once. -/
mutual
def uptoBulk {H : Type} : DataW H → Nat
  | .lit (.string bytes) => bytes.length + 1
  | .lit _ => 1
  | .nil => 1
  | .ptr d => uptoBulk d + 1
  | .slice elems spare => uptoBulkAll elems + uptoBulkAll spare + 1
  | .agg parts => uptoBulkAll parts + 1
  | .iface _ d => uptoBulk d + 1
  | .map entries => uptoBulkEntries entries + 1
  | .held _ => 1
def uptoBulkAll {H : Type} : List (DataW H) → Nat
  | [] => 0
  | d :: r => uptoBulk d + uptoBulkAll r
def uptoBulkEntries {H : Type} : List (Lit × DataW H) → Nat
  | [] => 0
  | x :: r => uptoBulkEntry x + uptoBulkEntries r
def uptoBulkEntry {H : Type} : Lit × DataW H → Nat
  | (.string bytes, d) => bytes.length + uptoBulk d + 1
  | (_, d) => uptoBulk d + 1
 end
def uptoSmall : (H : Type) → List (DataW H) → Bool := fun _ ds => decide (uptoBulkAll ds ≤ 1048576)
def OpenSpec.upto (s : _root_.Go.ChangeSpec) : _root_.Go.OpenSpec := { _root_.Go.OpenSpec.ofChange s with cond := some uptoSmall }

/-- 'cutroomlaw18.IsomediaBoxes', WHERE WHAT IT READS IS OF BULK AT MOST 1048576: true; the input reads as it did. -/
def isomediaBoxesUptoRow : OpenClaim := { program := "ytkhjkemllgjfmaa", sum := "d10187e04e2a3d3b002884a4e8a50dd89d9d763c5ec7c7ab2653abc1cbc72804", func := "cutroom/cutroomlaw18.IsomediaBoxes", spec := "isomediaBoxes", unfollowed := true, recurses := true, apart := false, narrowed := true }
def IsomediaBoxesUptoSaid : Prop := isomediaBoxesUptoRow.holds Try.pinned (OpenSpec.upto isomediaBoxesSpec)

/-- 'cutroomlaw18.IsomediaLocates', WHERE WHAT IT READS IS OF BULK AT MOST 1048576: true; the input reads as it did. -/
def isomediaLocatesUptoRow : OpenClaim := { program := "ytkhjkemllgjfmaa", sum := "d10187e04e2a3d3b002884a4e8a50dd89d9d763c5ec7c7ab2653abc1cbc72804", func := "cutroom/cutroomlaw18.IsomediaLocates", spec := "isomediaLocates", unfollowed := true, recurses := true, apart := false, narrowed := true }
def IsomediaLocatesUptoSaid : Prop := isomediaLocatesUptoRow.holds Try.pinned (OpenSpec.upto isomediaLocatesSpec)

/-- 'cutroomlaw18.IsomediaTimes', WHERE WHAT IT READS IS OF BULK AT MOST 1048576: true; the input reads as it did. -/
def isomediaTimesUptoRow : OpenClaim := { program := "ytkhjkemllgjfmaa", sum := "d10187e04e2a3d3b002884a4e8a50dd89d9d763c5ec7c7ab2653abc1cbc72804", func := "cutroom/cutroomlaw18.IsomediaTimes", spec := "isomediaTimes", unfollowed := true, recurses := true, apart := false, narrowed := true }
def IsomediaTimesUptoSaid : Prop := isomediaTimesUptoRow.holds Try.pinned (OpenSpec.upto isomediaTimesSpec)

/-- 'cutroomlaw18.IsomediaDelay', WHERE WHAT IT READS IS OF BULK AT MOST 1048576: true; the input reads as it did. -/
def isomediaDelayUptoRow : OpenClaim := { program := "ytkhjkemllgjfmaa", sum := "d10187e04e2a3d3b002884a4e8a50dd89d9d763c5ec7c7ab2653abc1cbc72804", func := "cutroom/cutroomlaw18.IsomediaDelay", spec := "isomediaDelay", unfollowed := true, recurses := true, apart := false, narrowed := true }
def IsomediaDelayUptoSaid : Prop := isomediaDelayUptoRow.holds Try.pinned (OpenSpec.upto isomediaDelaySpec)

/-- 'cutroomlaw18.IsomediaPuts', WHERE WHAT IT READS IS OF BULK AT MOST 1048576: true; the input reads as it did. -/
def isomediaPutsUptoRow : OpenClaim := { program := "ytkhjkemllgjfmaa", sum := "d10187e04e2a3d3b002884a4e8a50dd89d9d763c5ec7c7ab2653abc1cbc72804", func := "cutroom/cutroomlaw18.IsomediaPuts", spec := "isomediaPuts", unfollowed := true, recurses := true, apart := false, narrowed := true }
def IsomediaPutsUptoSaid : Prop := isomediaPutsUptoRow.holds Try.pinned (OpenSpec.upto isomediaPutsSpec)

/-- 'cutroomlaw18.IsomediaBack', WHERE WHAT IT READS IS OF BULK AT MOST 1048576: true; the input reads as it did. -/
def isomediaBackUptoRow : OpenClaim := { program := "ytkhjkemllgjfmaa", sum := "d10187e04e2a3d3b002884a4e8a50dd89d9d763c5ec7c7ab2653abc1cbc72804", func := "cutroom/cutroomlaw18.IsomediaBack", spec := "isomediaBack", unfollowed := true, recurses := true, apart := false, narrowed := true }
def IsomediaBackUptoSaid : Prop := isomediaBackUptoRow.holds Try.pinned (OpenSpec.upto isomediaBackSpec)

/-- 'cutroomlaw18.IsomediaShort', WHERE WHAT IT READS IS OF BULK AT MOST 1048576: true; the input reads as it did. -/
def isomediaShortUptoRow : OpenClaim := { program := "ytkhjkemllgjfmaa", sum := "d10187e04e2a3d3b002884a4e8a50dd89d9d763c5ec7c7ab2653abc1cbc72804", func := "cutroom/cutroomlaw18.IsomediaShort", spec := "isomediaShort", unfollowed := true, recurses := true, apart := false, narrowed := true }
def IsomediaShortUptoSaid : Prop := isomediaShortUptoRow.holds Try.pinned (OpenSpec.upto isomediaShortSpec)

end Rows
end Go.Proofs.Ytkhjkemllgjfmaa
