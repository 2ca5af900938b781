/- Reading predicates for bytes; aid for walks of package isomedia and its reference. -/
import Derived.Test.YtkhjkemllgjfmaaRows
import Derived.Test.YtkhjkemllgjfmaaPlan
import Derived.WalkKit
import Derived.WalkSpells
import Derived.WalkLawsBesides
import Derived.Deep.LoopGhost
import Derived.Deep.Cut
import Derived.Deep.Light
import Derived.Lib.Hide
import Derived.BigRegion
import Derived.BigQuiet
import Derived.Deep.RegionHeld3
import Derived.Handy
import Derived.Defers
import Derived.Recover
import Derived.Laws.BytesArg
namespace Go.Proofs.Ytkhjkemllgjfmaa
open Go.RowKit
set_option linter.unusedVariables false

/-- v reads in w as a byte slice of n bytes f 0, .., f (n-1). -/
def BA (w : World) (v : Value) (n : Nat) (f : Nat → Int) : Prop :=
  ∃ ao c, v = .slice ao n c ∧ n ≤ c ∧ ∀ i, i < n → (∃ b o, ao = some ⟨b, o, none⟩ ∧ w.cell? ⟨b, o + i, none⟩ = some (.int .u8 (f i))) ∧ 0 ≤ f i ∧ f i < 256

theorem BA.open {w : World} {v : Value} {n : Nat} {f : Nat → Int} (h : BA w v n f) (hn : 0 < n) :
    ∃ b o c, v = .slice (some ⟨b, o, none⟩) n c ∧ n ≤ c ∧ (∀ i, i < n → w.cell? ⟨b, o + i, none⟩ = some (.int .u8 (f i))) ∧ ∀ i, i < n → 0 ≤ f i ∧ f i < 256 := by
  obtain ⟨ao, c, rfl, hc, H⟩ := h
  obtain ⟨⟨b, o, rfl, _⟩, _⟩ := H 0 hn
  refine ⟨b, o, c, rfl, hc, fun i hi => ?_, fun i hi => (H i hi).2⟩
  obtain ⟨⟨b', o', he, hcell⟩, _⟩ := H i hi
  simp only [Option.some.injEq, Addr.mk.injEq, and_true] at he
  obtain ⟨rfl, rfl⟩ := he
  exact hcell
theorem BA.mk {w : World} {b o n c : Nat} {f : Nat → Int} (hc : n ≤ c) (h : ∀ i, i < n → w.cell? ⟨b, o + i, none⟩ = some (.int .u8 (f i))) (hb : ∀ i, i < n → 0 ≤ f i ∧ f i < 256) :
    BA w (.slice (some ⟨b, o, none⟩) n c) n f := ⟨_, _, rfl, hc, fun i hi => ⟨⟨b, o, rfl, h i hi⟩, hb i hi⟩⟩
theorem BA.below {w w' : World} {v : Value} {n : Nat} {f : Nat → Int} (h : BA w v n f) (hb : Below w.heap.size w w') : BA w' v n f := by
  obtain ⟨ao, c, rfl, hc, H⟩ := h
  refine ⟨ao, c, rfl, hc, fun i hi => ?_⟩
  obtain ⟨⟨b, o, he, hcell⟩, h2⟩ := H i hi
  exact ⟨⟨b, o, he, (hb.cell (p := ⟨b, o + i, none⟩) (block_lt_of_cell hcell)).trans hcell⟩, h2⟩

theorem below_box (w : World) (o : Obj) : Below w.heap.size w (w.alloc o) := (Below.refl _ _).alloc (Nat.le_refl _) _
theorem ret_bool {a b : Bool} (h : a = b) : Ending.returned (.bool a) = Ending.returned (.bool b) := by rw [h]
theorem ret_i64 {a b : Int} (h : a = b) : Ending.returned (.int .i64 a) = Ending.returned (.int .i64 b) := by rw [h]

/-- Block b holds one cell and may be written. -/
structure C1 (w : World) (b : Nat) (c : Value) : Prop where
  k0 : w.cell? ⟨b, 0, none⟩ = some c
  fz : w.frozen? ⟨b, 0, none⟩ = false
theorem C1.lt {w : World} {b : Nat} {c : Value} (h : C1 w b c) : b < w.heap.size := block_lt_of_cell h.k0
theorem C1.below {w w' : World} {b : Nat} {c : Value} (h : C1 w b c) (hb : Below w.heap.size w w') : C1 w' b c := ⟨(hb.cell h.lt).trans h.k0, (hb.frozen h.lt).trans h.fz⟩

/-- Four bytes, the highest first. -/
def numI (f : Nat → Int) (at' : Nat) : Int := bits BinOp.or IntKind.i64 (bits BinOp.or IntKind.i64 (bits BinOp.or IntKind.i64 (f at' * 16777216) (f (at' + 1) * 65536)) (f (at' + 2) * 256)) (f (at' + 3))

end Go.Proofs.Ytkhjkemllgjfmaa
