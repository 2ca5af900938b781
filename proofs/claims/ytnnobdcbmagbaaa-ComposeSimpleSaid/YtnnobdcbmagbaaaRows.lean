/-
  NARROWER THAN 'FOR EVERY INPUT', by the rows' own cells (each row's printed sentence says how): ComposeEvals: loops.
  DERIVED. THE GIVEN ROWS OF THIS SEAT. 14 by the template 'for every input the law returns true; each argument reads behind the call as it read before'; 0 by the template 'total and deterministic' (their statements: YtnnobdcbmagbaaaTotals.lean).
  GIVEN WITH THE SEED: the statements are not yours to turn. If you find one false, say at which input.
  Laid BY PROGRAM, IN A SANDBOX (cutbox-rows.mjs): the forced cells as the released guide's own fill.sh prints them over the translation 2d40657f8fcc246d… (all of the seat's roots in one cut). By AI agents, Wed Nov 11 2026. No macro, syntax, notation, axiom, sorry.
-/
import Derived.Test.YtnnobdcbmagbaaaChecked
import GoSem.Claim
import GoSem.ClaimJoined
import GoSem.ClaimMapViews
import Derived.JoinedTies
import Derived.KernelRfl
namespace Go.Proofs.Ytnnobdcbmagbaaa
/- THE CELL 'sum', in the pinned program and in every row, IS THE sha256 OF THE DUMP (.gsa) THAT YtnnobdcbmagbaaaProg.lean LOADS. Nothing in Lean hashes anything: it is a label: what it is worth is what the hold of that sum in a sandbox is worth. -/
noncomputable def Try.pinned : Pinned := { name := "ytnnobdcbmagbaaa", sum := "2d40657f8fcc246d274ccee1467921db48971bb2a6cda8c96c5326ec6c637c5e", checked := Try.checked }
namespace Rows
def none {H : Type} : Left H := { results := [], args := [] }

/-- 'cutroomlaw26.ComposeBlack': WHATEVER THE INPUT: true; the input reads as it did. -/
def composeBlackSpec : ChangeSpec := { name := "composeBlack", fn := fun _ => fun
  | [d1, d2] => { results := [.lit (.bool true)], args := [d1, d2] }
  | _ => none }
def composeBlackRow : OpenClaim := { program := "ytnnobdcbmagbaaa", sum := "2d40657f8fcc246d274ccee1467921db48971bb2a6cda8c96c5326ec6c637c5e", func := "cutroom/cutroomlaw26.ComposeBlack", spec := "composeBlack", unfollowed := true, recurses := true, plainKeys := false, apart := false }
def ComposeBlackSaid : Prop := composeBlackRow.holds Try.pinned (OpenSpec.ofChange composeBlackSpec)

/-- ITS FALSE NEIGHBOUR: 'it returns false'. Refute it at one input. -/
def composeBlackWrong : ChangeSpec := { name := "composeBlack", fn := fun _ => fun
  | [d1, d2] => { results := [.lit (.bool false)], args := [d1, d2] }
  | _ => none }
def ComposeBlackWrongFalsely : Prop := composeBlackRow.holds Try.pinned (OpenSpec.ofChange composeBlackWrong)

/-- 'cutroomlaw26.ComposeMixes': WHATEVER THE INPUT: true; the input reads as it did. -/
def composeMixesSpec : ChangeSpec := { name := "composeMixes", fn := fun _ => fun
  | [d1, d2, d3, d4] => { results := [.lit (.bool true)], args := [d1, d2, d3, d4] }
  | _ => none }
def composeMixesRow : OpenClaim := { program := "ytnnobdcbmagbaaa", sum := "2d40657f8fcc246d274ccee1467921db48971bb2a6cda8c96c5326ec6c637c5e", func := "cutroom/cutroomlaw26.ComposeMixes", spec := "composeMixes", unfollowed := true, recurses := true, plainKeys := false, apart := false }
def ComposeMixesSaid : Prop := composeMixesRow.holds Try.pinned (OpenSpec.ofChange composeMixesSpec)

/-- ITS FALSE NEIGHBOUR: 'it returns false'. Refute it at one input. -/
def composeMixesWrong : ChangeSpec := { name := "composeMixes", fn := fun _ => fun
  | [d1, d2, d3, d4] => { results := [.lit (.bool false)], args := [d1, d2, d3, d4] }
  | _ => none }
def ComposeMixesWrongFalsely : Prop := composeMixesRow.holds Try.pinned (OpenSpec.ofChange composeMixesWrong)

/-- 'cutroomlaw26.ComposeMixEnds': WHATEVER THE INPUT: true; the input reads as it did. -/
def composeMixEndsSpec : ChangeSpec := { name := "composeMixEnds", fn := fun _ => fun
  | [d1, d2, d3] => { results := [.lit (.bool true)], args := [d1, d2, d3] }
  | _ => none }
def composeMixEndsRow : OpenClaim := { program := "ytnnobdcbmagbaaa", sum := "2d40657f8fcc246d274ccee1467921db48971bb2a6cda8c96c5326ec6c637c5e", func := "cutroom/cutroomlaw26.ComposeMixEnds", spec := "composeMixEnds", unfollowed := true, recurses := true, plainKeys := false, apart := false }
def ComposeMixEndsSaid : Prop := composeMixEndsRow.holds Try.pinned (OpenSpec.ofChange composeMixEndsSpec)

/-- ITS FALSE NEIGHBOUR: 'it returns false'. Refute it at one input. -/
def composeMixEndsWrong : ChangeSpec := { name := "composeMixEnds", fn := fun _ => fun
  | [d1, d2, d3] => { results := [.lit (.bool false)], args := [d1, d2, d3] }
  | _ => none }
def ComposeMixEndsWrongFalsely : Prop := composeMixEndsRow.holds Try.pinned (OpenSpec.ofChange composeMixEndsWrong)

/-- 'cutroomlaw26.ComposeMixGrows': WHATEVER THE INPUT: true; the input reads as it did. -/
def composeMixGrowsSpec : ChangeSpec := { name := "composeMixGrows", fn := fun _ => fun
  | [d1, d2, d3] => { results := [.lit (.bool true)], args := [d1, d2, d3] }
  | _ => none }
def composeMixGrowsRow : OpenClaim := { program := "ytnnobdcbmagbaaa", sum := "2d40657f8fcc246d274ccee1467921db48971bb2a6cda8c96c5326ec6c637c5e", func := "cutroom/cutroomlaw26.ComposeMixGrows", spec := "composeMixGrows", unfollowed := true, recurses := true, plainKeys := false, apart := false }
def ComposeMixGrowsSaid : Prop := composeMixGrowsRow.holds Try.pinned (OpenSpec.ofChange composeMixGrowsSpec)

/-- ITS FALSE NEIGHBOUR: 'it returns false'. Refute it at one input. -/
def composeMixGrowsWrong : ChangeSpec := { name := "composeMixGrows", fn := fun _ => fun
  | [d1, d2, d3] => { results := [.lit (.bool false)], args := [d1, d2, d3] }
  | _ => none }
def ComposeMixGrowsWrongFalsely : Prop := composeMixGrowsRow.holds Try.pinned (OpenSpec.ofChange composeMixGrowsWrong)

/-- 'cutroomlaw26.ComposeWipes': WHATEVER THE INPUT: true; the input reads as it did. -/
def composeWipesSpec : ChangeSpec := { name := "composeWipes", fn := fun _ => fun
  | [d1, d2, d3, d4, d5] => { results := [.lit (.bool true)], args := [d1, d2, d3, d4, d5] }
  | _ => none }
def composeWipesRow : OpenClaim := { program := "ytnnobdcbmagbaaa", sum := "2d40657f8fcc246d274ccee1467921db48971bb2a6cda8c96c5326ec6c637c5e", func := "cutroom/cutroomlaw26.ComposeWipes", spec := "composeWipes", unfollowed := true, recurses := true, plainKeys := false, apart := false }
def ComposeWipesSaid : Prop := composeWipesRow.holds Try.pinned (OpenSpec.ofChange composeWipesSpec)

/-- ITS FALSE NEIGHBOUR: 'it returns false'. Refute it at one input. -/
def composeWipesWrong : ChangeSpec := { name := "composeWipes", fn := fun _ => fun
  | [d1, d2, d3, d4, d5] => { results := [.lit (.bool false)], args := [d1, d2, d3, d4, d5] }
  | _ => none }
def ComposeWipesWrongFalsely : Prop := composeWipesRow.holds Try.pinned (OpenSpec.ofChange composeWipesWrong)

/-- 'cutroomlaw26.ComposeWipeSides': WHATEVER THE INPUT: true; the input reads as it did. -/
def composeWipeSidesSpec : ChangeSpec := { name := "composeWipeSides", fn := fun _ => fun
  | [d1, d2, d3] => { results := [.lit (.bool true)], args := [d1, d2, d3] }
  | _ => none }
def composeWipeSidesRow : OpenClaim := { program := "ytnnobdcbmagbaaa", sum := "2d40657f8fcc246d274ccee1467921db48971bb2a6cda8c96c5326ec6c637c5e", func := "cutroom/cutroomlaw26.ComposeWipeSides", spec := "composeWipeSides", unfollowed := true, recurses := true, plainKeys := false, apart := false }
def ComposeWipeSidesSaid : Prop := composeWipeSidesRow.holds Try.pinned (OpenSpec.ofChange composeWipeSidesSpec)

/-- ITS FALSE NEIGHBOUR: 'it returns false'. Refute it at one input. -/
def composeWipeSidesWrong : ChangeSpec := { name := "composeWipeSides", fn := fun _ => fun
  | [d1, d2, d3] => { results := [.lit (.bool false)], args := [d1, d2, d3] }
  | _ => none }
def ComposeWipeSidesWrongFalsely : Prop := composeWipeSidesRow.holds Try.pinned (OpenSpec.ofChange composeWipeSidesWrong)

/-- 'cutroomlaw26.ComposeKeys': WHATEVER THE INPUT: true; the input reads as it did. -/
def composeKeysSpec : ChangeSpec := { name := "composeKeys", fn := fun _ => fun
  | [d1, d2, d3] => { results := [.lit (.bool true)], args := [d1, d2, d3] }
  | _ => none }
def composeKeysRow : OpenClaim := { program := "ytnnobdcbmagbaaa", sum := "2d40657f8fcc246d274ccee1467921db48971bb2a6cda8c96c5326ec6c637c5e", func := "cutroom/cutroomlaw26.ComposeKeys", spec := "composeKeys", unfollowed := true, recurses := true, plainKeys := false, apart := false }
def ComposeKeysSaid : Prop := composeKeysRow.holds Try.pinned (OpenSpec.ofChange composeKeysSpec)

/-- ITS FALSE NEIGHBOUR: 'it returns false'. Refute it at one input. -/
def composeKeysWrong : ChangeSpec := { name := "composeKeys", fn := fun _ => fun
  | [d1, d2, d3] => { results := [.lit (.bool false)], args := [d1, d2, d3] }
  | _ => none }
def ComposeKeysWrongFalsely : Prop := composeKeysRow.holds Try.pinned (OpenSpec.ofChange composeKeysWrong)

/-- 'cutroomlaw26.ComposeKeyEnds': WHATEVER THE INPUT: true; the input reads as it did. -/
def composeKeyEndsSpec : ChangeSpec := { name := "composeKeyEnds", fn := fun _ => fun
  | [d1, d2] => { results := [.lit (.bool true)], args := [d1, d2] }
  | _ => none }
def composeKeyEndsRow : OpenClaim := { program := "ytnnobdcbmagbaaa", sum := "2d40657f8fcc246d274ccee1467921db48971bb2a6cda8c96c5326ec6c637c5e", func := "cutroom/cutroomlaw26.ComposeKeyEnds", spec := "composeKeyEnds", unfollowed := true, recurses := true, plainKeys := false, apart := false }
def ComposeKeyEndsSaid : Prop := composeKeyEndsRow.holds Try.pinned (OpenSpec.ofChange composeKeyEndsSpec)

/-- ITS FALSE NEIGHBOUR: 'it returns false'. Refute it at one input. -/
def composeKeyEndsWrong : ChangeSpec := { name := "composeKeyEnds", fn := fun _ => fun
  | [d1, d2] => { results := [.lit (.bool false)], args := [d1, d2] }
  | _ => none }
def ComposeKeyEndsWrongFalsely : Prop := composeKeyEndsRow.holds Try.pinned (OpenSpec.ofChange composeKeyEndsWrong)

/-- 'cutroomlaw26.ComposeGlyphs': WHATEVER THE INPUT: true; the input reads as it did. -/
def composeGlyphsSpec : ChangeSpec := { name := "composeGlyphs", fn := fun _ => fun
  | [d] => { results := [.lit (.bool true)], args := [d] }
  | _ => none }
def composeGlyphsRow : OpenClaim := { program := "ytnnobdcbmagbaaa", sum := "2d40657f8fcc246d274ccee1467921db48971bb2a6cda8c96c5326ec6c637c5e", func := "cutroom/cutroomlaw26.ComposeGlyphs", spec := "composeGlyphs", unfollowed := true, recurses := true, plainKeys := false, apart := false }
def ComposeGlyphsSaid : Prop := composeGlyphsRow.holds Try.pinned (OpenSpec.ofChange composeGlyphsSpec)

/-- ITS FALSE NEIGHBOUR: 'it returns false'. Refute it at one input. -/
def composeGlyphsWrong : ChangeSpec := { name := "composeGlyphs", fn := fun _ => fun
  | [d] => { results := [.lit (.bool false)], args := [d] }
  | _ => none }
def ComposeGlyphsWrongFalsely : Prop := composeGlyphsRow.holds Try.pinned (OpenSpec.ofChange composeGlyphsWrong)

/-- 'cutroomlaw26.ComposeTitles': WHATEVER THE INPUT: true; the input reads as it did. -/
def composeTitlesSpec : ChangeSpec := { name := "composeTitles", fn := fun _ => fun
  | [d1, d2, d3] => { results := [.lit (.bool true)], args := [d1, d2, d3] }
  | _ => none }
def composeTitlesRow : OpenClaim := { program := "ytnnobdcbmagbaaa", sum := "2d40657f8fcc246d274ccee1467921db48971bb2a6cda8c96c5326ec6c637c5e", func := "cutroom/cutroomlaw26.ComposeTitles", spec := "composeTitles", unfollowed := true, recurses := true, plainKeys := false, apart := false }
def ComposeTitlesSaid : Prop := composeTitlesRow.holds Try.pinned (OpenSpec.ofChange composeTitlesSpec)

/-- ITS FALSE NEIGHBOUR: 'it returns false'. Refute it at one input. -/
def composeTitlesWrong : ChangeSpec := { name := "composeTitles", fn := fun _ => fun
  | [d1, d2, d3] => { results := [.lit (.bool false)], args := [d1, d2, d3] }
  | _ => none }
def ComposeTitlesWrongFalsely : Prop := composeTitlesRow.holds Try.pinned (OpenSpec.ofChange composeTitlesWrong)

/-- 'cutroomlaw26.ComposeTitleArea': WHATEVER THE INPUT: true; the input reads as it did. -/
def composeTitleAreaSpec : ChangeSpec := { name := "composeTitleArea", fn := fun _ => fun
  | [d1, d2] => { results := [.lit (.bool true)], args := [d1, d2] }
  | _ => none }
def composeTitleAreaRow : OpenClaim := { program := "ytnnobdcbmagbaaa", sum := "2d40657f8fcc246d274ccee1467921db48971bb2a6cda8c96c5326ec6c637c5e", func := "cutroom/cutroomlaw26.ComposeTitleArea", spec := "composeTitleArea", unfollowed := true, recurses := true, plainKeys := false, apart := false }
def ComposeTitleAreaSaid : Prop := composeTitleAreaRow.holds Try.pinned (OpenSpec.ofChange composeTitleAreaSpec)

/-- ITS FALSE NEIGHBOUR: 'it returns false'. Refute it at one input. -/
def composeTitleAreaWrong : ChangeSpec := { name := "composeTitleArea", fn := fun _ => fun
  | [d1, d2] => { results := [.lit (.bool false)], args := [d1, d2] }
  | _ => none }
def ComposeTitleAreaWrongFalsely : Prop := composeTitleAreaRow.holds Try.pinned (OpenSpec.ofChange composeTitleAreaWrong)

/-- 'cutroomlaw26.ComposeEvals': WHATEVER THE INPUT: true; the input reads as it did. -/
def composeEvalsSpec : ChangeSpec := { name := "composeEvals", fn := fun _ => fun
  | [d1, d2, d3, d4, d5] => { results := [.lit (.bool true)], args := [d1, d2, d3, d4, d5] }
  | _ => none }
def composeEvalsRow : OpenClaim := { program := "ytnnobdcbmagbaaa", sum := "2d40657f8fcc246d274ccee1467921db48971bb2a6cda8c96c5326ec6c637c5e", func := "cutroom/cutroomlaw26.ComposeEvals", spec := "composeEvals", unfollowed := true, recurses := true, loops := true, plainKeys := false, apart := false }
def ComposeEvalsSaid : Prop := composeEvalsRow.holds Try.pinned (OpenSpec.ofChange composeEvalsSpec)

/-- ITS FALSE NEIGHBOUR: 'it returns false'. Refute it at one input. -/
def composeEvalsWrong : ChangeSpec := { name := "composeEvals", fn := fun _ => fun
  | [d1, d2, d3, d4, d5] => { results := [.lit (.bool false)], args := [d1, d2, d3, d4, d5] }
  | _ => none }
def ComposeEvalsWrongFalsely : Prop := composeEvalsRow.holds Try.pinned (OpenSpec.ofChange composeEvalsWrong)

/-- 'cutroomlaw26.ComposeNamed': WHATEVER THE INPUT: true; the input reads as it did. -/
def composeNamedSpec : ChangeSpec := { name := "composeNamed", fn := fun _ => fun
  | [d] => { results := [.lit (.bool true)], args := [d] }
  | _ => none }
def composeNamedRow : OpenClaim := { program := "ytnnobdcbmagbaaa", sum := "2d40657f8fcc246d274ccee1467921db48971bb2a6cda8c96c5326ec6c637c5e", func := "cutroom/cutroomlaw26.ComposeNamed", spec := "composeNamed", unfollowed := true, recurses := true, plainKeys := false, apart := false }
def ComposeNamedSaid : Prop := composeNamedRow.holds Try.pinned (OpenSpec.ofChange composeNamedSpec)

/-- ITS FALSE NEIGHBOUR: 'it returns false'. Refute it at one input. -/
def composeNamedWrong : ChangeSpec := { name := "composeNamed", fn := fun _ => fun
  | [d] => { results := [.lit (.bool false)], args := [d] }
  | _ => none }
def ComposeNamedWrongFalsely : Prop := composeNamedRow.holds Try.pinned (OpenSpec.ofChange composeNamedWrong)

/-- 'cutroomlaw26.ComposeSimple': WHATEVER THE INPUT: true; the input reads as it did. -/
def composeSimpleSpec : ChangeSpec := { name := "composeSimple", fn := fun _ => fun
  | [d] => { results := [.lit (.bool true)], args := [d] }
  | _ => none }
def composeSimpleRow : OpenClaim := { program := "ytnnobdcbmagbaaa", sum := "2d40657f8fcc246d274ccee1467921db48971bb2a6cda8c96c5326ec6c637c5e", func := "cutroom/cutroomlaw26.ComposeSimple", spec := "composeSimple", unfollowed := true, recurses := true, plainKeys := false, apart := false }
def ComposeSimpleSaid : Prop := composeSimpleRow.holds Try.pinned (OpenSpec.ofChange composeSimpleSpec)

/-- ITS FALSE NEIGHBOUR: 'it returns false'. Refute it at one input. -/
def composeSimpleWrong : ChangeSpec := { name := "composeSimple", fn := fun _ => fun
  | [d] => { results := [.lit (.bool false)], args := [d] }
  | _ => none }
def ComposeSimpleWrongFalsely : Prop := composeSimpleRow.holds Try.pinned (OpenSpec.ofChange composeSimpleWrong)

/- THE SECOND FORM. 'bulk': how many values and letters a reading holds, each counted each time it is reached (what is shared counts as often as it is met; a slice's spare places count too). A statement '..UptoSaid' is the law's where the arguments, and the package variables that the reading takes, are together of bulk at most 1048576: NARROWER than '..Said'. Prove '..Said' where nothing that the law and all that it calls make is longer than what came in: it says more and counts as full. Else prove '..UptoSaid'. A law counts once. -/
mutual
def uptoBulk {H : Type} : DataW H → Nat
  | .lit (.string bytes) => bytes.length + 1
  | .lit _ => 1
  | .nil => 1
  | .ptr d => uptoBulk d + 1
  | .slice elems spare => uptoBulkAll elems + uptoBulkAll spare + 1
  | .agg parts => uptoBulkAll parts + 1
  | .iface _ d => uptoBulk d + 1
  | .map entries => uptoBulkEntries entries + 1
  | .held _ => 1
def uptoBulkAll {H : Type} : List (DataW H) → Nat
  | [] => 0
  | d :: r => uptoBulk d + uptoBulkAll r
def uptoBulkEntries {H : Type} : List (Lit × DataW H) → Nat
  | [] => 0
  | x :: r => uptoBulkEntry x + uptoBulkEntries r
def uptoBulkEntry {H : Type} : Lit × DataW H → Nat
  | (.string bytes, d) => bytes.length + uptoBulk d + 1
  | (_, d) => uptoBulk d + 1
 end
def uptoSmall : (H : Type) → List (DataW H) → Bool := fun _ ds => decide (uptoBulkAll ds ≤ 1048576)
def OpenSpec.upto (s : _root_.Go.ChangeSpec) : _root_.Go.OpenSpec := { _root_.Go.OpenSpec.ofChange s with cond := some uptoSmall }

/-- 'cutroomlaw26.ComposeBlack', WHERE WHAT IT READS IS OF BULK AT MOST 1048576: true; the input reads as it did. -/
def composeBlackUptoRow : OpenClaim := { program := "ytnnobdcbmagbaaa", sum := "2d40657f8fcc246d274ccee1467921db48971bb2a6cda8c96c5326ec6c637c5e", func := "cutroom/cutroomlaw26.ComposeBlack", spec := "composeBlack", unfollowed := true, recurses := true, plainKeys := false, apart := false, narrowed := true }
def ComposeBlackUptoSaid : Prop := composeBlackUptoRow.holds Try.pinned (OpenSpec.upto composeBlackSpec)

/-- 'cutroomlaw26.ComposeMixes', WHERE WHAT IT READS IS OF BULK AT MOST 1048576: true; the input reads as it did. -/
def composeMixesUptoRow : OpenClaim := { program := "ytnnobdcbmagbaaa", sum := "2d40657f8fcc246d274ccee1467921db48971bb2a6cda8c96c5326ec6c637c5e", func := "cutroom/cutroomlaw26.ComposeMixes", spec := "composeMixes", unfollowed := true, recurses := true, plainKeys := false, apart := false, narrowed := true }
def ComposeMixesUptoSaid : Prop := composeMixesUptoRow.holds Try.pinned (OpenSpec.upto composeMixesSpec)

/-- 'cutroomlaw26.ComposeMixEnds', WHERE WHAT IT READS IS OF BULK AT MOST 1048576: true; the input reads as it did. -/
def composeMixEndsUptoRow : OpenClaim := { program := "ytnnobdcbmagbaaa", sum := "2d40657f8fcc246d274ccee1467921db48971bb2a6cda8c96c5326ec6c637c5e", func := "cutroom/cutroomlaw26.ComposeMixEnds", spec := "composeMixEnds", unfollowed := true, recurses := true, plainKeys := false, apart := false, narrowed := true }
def ComposeMixEndsUptoSaid : Prop := composeMixEndsUptoRow.holds Try.pinned (OpenSpec.upto composeMixEndsSpec)

/-- 'cutroomlaw26.ComposeMixGrows', WHERE WHAT IT READS IS OF BULK AT MOST 1048576: true; the input reads as it did. -/
def composeMixGrowsUptoRow : OpenClaim := { program := "ytnnobdcbmagbaaa", sum := "2d40657f8fcc246d274ccee1467921db48971bb2a6cda8c96c5326ec6c637c5e", func := "cutroom/cutroomlaw26.ComposeMixGrows", spec := "composeMixGrows", unfollowed := true, recurses := true, plainKeys := false, apart := false, narrowed := true }
def ComposeMixGrowsUptoSaid : Prop := composeMixGrowsUptoRow.holds Try.pinned (OpenSpec.upto composeMixGrowsSpec)

/-- 'cutroomlaw26.ComposeWipes', WHERE WHAT IT READS IS OF BULK AT MOST 1048576: true; the input reads as it did. -/
def composeWipesUptoRow : OpenClaim := { program := "ytnnobdcbmagbaaa", sum := "2d40657f8fcc246d274ccee1467921db48971bb2a6cda8c96c5326ec6c637c5e", func := "cutroom/cutroomlaw26.ComposeWipes", spec := "composeWipes", unfollowed := true, recurses := true, plainKeys := false, apart := false, narrowed := true }
def ComposeWipesUptoSaid : Prop := composeWipesUptoRow.holds Try.pinned (OpenSpec.upto composeWipesSpec)

/-- 'cutroomlaw26.ComposeWipeSides', WHERE WHAT IT READS IS OF BULK AT MOST 1048576: true; the input reads as it did. -/
def composeWipeSidesUptoRow : OpenClaim := { program := "ytnnobdcbmagbaaa", sum := "2d40657f8fcc246d274ccee1467921db48971bb2a6cda8c96c5326ec6c637c5e", func := "cutroom/cutroomlaw26.ComposeWipeSides", spec := "composeWipeSides", unfollowed := true, recurses := true, plainKeys := false, apart := false, narrowed := true }
def ComposeWipeSidesUptoSaid : Prop := composeWipeSidesUptoRow.holds Try.pinned (OpenSpec.upto composeWipeSidesSpec)

/-- 'cutroomlaw26.ComposeKeys', WHERE WHAT IT READS IS OF BULK AT MOST 1048576: true; the input reads as it did. -/
def composeKeysUptoRow : OpenClaim := { program := "ytnnobdcbmagbaaa", sum := "2d40657f8fcc246d274ccee1467921db48971bb2a6cda8c96c5326ec6c637c5e", func := "cutroom/cutroomlaw26.ComposeKeys", spec := "composeKeys", unfollowed := true, recurses := true, plainKeys := false, apart := false, narrowed := true }
def ComposeKeysUptoSaid : Prop := composeKeysUptoRow.holds Try.pinned (OpenSpec.upto composeKeysSpec)

/-- 'cutroomlaw26.ComposeKeyEnds', WHERE WHAT IT READS IS OF BULK AT MOST 1048576: true; the input reads as it did. -/
def composeKeyEndsUptoRow : OpenClaim := { program := "ytnnobdcbmagbaaa", sum := "2d40657f8fcc246d274ccee1467921db48971bb2a6cda8c96c5326ec6c637c5e", func := "cutroom/cutroomlaw26.ComposeKeyEnds", spec := "composeKeyEnds", unfollowed := true, recurses := true, plainKeys := false, apart := false, narrowed := true }
def ComposeKeyEndsUptoSaid : Prop := composeKeyEndsUptoRow.holds Try.pinned (OpenSpec.upto composeKeyEndsSpec)

/-- 'cutroomlaw26.ComposeGlyphs', WHERE WHAT IT READS IS OF BULK AT MOST 1048576: true; the input reads as it did. -/
def composeGlyphsUptoRow : OpenClaim := { program := "ytnnobdcbmagbaaa", sum := "2d40657f8fcc246d274ccee1467921db48971bb2a6cda8c96c5326ec6c637c5e", func := "cutroom/cutroomlaw26.ComposeGlyphs", spec := "composeGlyphs", unfollowed := true, recurses := true, plainKeys := false, apart := false, narrowed := true }
def ComposeGlyphsUptoSaid : Prop := composeGlyphsUptoRow.holds Try.pinned (OpenSpec.upto composeGlyphsSpec)

/-- 'cutroomlaw26.ComposeTitles', WHERE WHAT IT READS IS OF BULK AT MOST 1048576: true; the input reads as it did. -/
def composeTitlesUptoRow : OpenClaim := { program := "ytnnobdcbmagbaaa", sum := "2d40657f8fcc246d274ccee1467921db48971bb2a6cda8c96c5326ec6c637c5e", func := "cutroom/cutroomlaw26.ComposeTitles", spec := "composeTitles", unfollowed := true, recurses := true, plainKeys := false, apart := false, narrowed := true }
def ComposeTitlesUptoSaid : Prop := composeTitlesUptoRow.holds Try.pinned (OpenSpec.upto composeTitlesSpec)

/-- 'cutroomlaw26.ComposeTitleArea', WHERE WHAT IT READS IS OF BULK AT MOST 1048576: true; the input reads as it did. -/
def composeTitleAreaUptoRow : OpenClaim := { program := "ytnnobdcbmagbaaa", sum := "2d40657f8fcc246d274ccee1467921db48971bb2a6cda8c96c5326ec6c637c5e", func := "cutroom/cutroomlaw26.ComposeTitleArea", spec := "composeTitleArea", unfollowed := true, recurses := true, plainKeys := false, apart := false, narrowed := true }
def ComposeTitleAreaUptoSaid : Prop := composeTitleAreaUptoRow.holds Try.pinned (OpenSpec.upto composeTitleAreaSpec)

/-- 'cutroomlaw26.ComposeEvals', WHERE WHAT IT READS IS OF BULK AT MOST 1048576: true; the input reads as it did. -/
def composeEvalsUptoRow : OpenClaim := { program := "ytnnobdcbmagbaaa", sum := "2d40657f8fcc246d274ccee1467921db48971bb2a6cda8c96c5326ec6c637c5e", func := "cutroom/cutroomlaw26.ComposeEvals", spec := "composeEvals", unfollowed := true, recurses := true, loops := true, plainKeys := false, apart := false, narrowed := true }
def ComposeEvalsUptoSaid : Prop := composeEvalsUptoRow.holds Try.pinned (OpenSpec.upto composeEvalsSpec)

/-- 'cutroomlaw26.ComposeNamed', WHERE WHAT IT READS IS OF BULK AT MOST 1048576: true; the input reads as it did. -/
def composeNamedUptoRow : OpenClaim := { program := "ytnnobdcbmagbaaa", sum := "2d40657f8fcc246d274ccee1467921db48971bb2a6cda8c96c5326ec6c637c5e", func := "cutroom/cutroomlaw26.ComposeNamed", spec := "composeNamed", unfollowed := true, recurses := true, plainKeys := false, apart := false, narrowed := true }
def ComposeNamedUptoSaid : Prop := composeNamedUptoRow.holds Try.pinned (OpenSpec.upto composeNamedSpec)

/-- 'cutroomlaw26.ComposeSimple', WHERE WHAT IT READS IS OF BULK AT MOST 1048576: true; the input reads as it did. -/
def composeSimpleUptoRow : OpenClaim := { program := "ytnnobdcbmagbaaa", sum := "2d40657f8fcc246d274ccee1467921db48971bb2a6cda8c96c5326ec6c637c5e", func := "cutroom/cutroomlaw26.ComposeSimple", spec := "composeSimple", unfollowed := true, recurses := true, plainKeys := false, apart := false, narrowed := true }
def ComposeSimpleUptoSaid : Prop := composeSimpleUptoRow.holds Try.pinned (OpenSpec.upto composeSimpleSpec)

end Rows
end Go.Proofs.Ytnnobdcbmagbaaa
