/- Aid for the walks of Key and its reference: two blocks written, one cell, a clone with the other frame's size, the corner as a natural number. -/
import Derived.Test.YtnnobdcbmagbaaaCL
import Derived.Test.YtnnobdcbmagbaaaPC
import Derived.Test.YtnnobdcbmagbaaaRO
namespace Go.Proofs.Ytnnobdcbmagbaaa
open Go.RowKit
set_option linter.unusedVariables false

/-- Only the blocks g and h may have been written. -/
structure Only2 (w w' : World) (g h : Nat) : Prop where
  os : w'.os = w.os
  tape : w'.tape = w.tape
  output : w'.output = w.output
  size : w.heap.size ≤ w'.heap.size
  block : ∀ k, k < w.heap.size → k ≠ g → k ≠ h → w'.heap[k]? = w.heap[k]?
theorem Only2.refl (w : World) (g h : Nat) : Only2 w w g h := ⟨rfl, rfl, rfl, Nat.le_refl _, fun _ _ _ _ => rfl⟩
theorem Only2.drew {w w' : World} {g h : Nat} (k : Only2 w w' g h) : Only2 w w'.drew g h := ⟨k.os, k.tape, k.output, k.size, k.block⟩
theorem Only2.set1 {w w' : World} {g h : Nat} (k : Only2 w w' g h) (o : Nat) (u : Value) : Only2 w (w'.setCell ⟨g, o, none⟩ u) g h :=
  ⟨k.os, k.tape, k.output, by rw [World.size_setCell]; exact k.size, fun i hi h1 h2 => by rw [Below.heap_setCell _ _ _ _ h1]; exact k.block i hi h1 h2⟩
theorem Only2.set2 {w w' : World} {g h : Nat} (k : Only2 w w' g h) (o : Nat) (u : Value) : Only2 w (w'.setCell ⟨h, o, none⟩ u) g h :=
  ⟨k.os, k.tape, k.output, by rw [World.size_setCell]; exact k.size, fun i hi h1 h2 => by rw [Below.heap_setCell _ _ _ _ h2]; exact k.block i hi h1 h2⟩
theorem Only2.cell {w w' : World} {g h b o : Nat} {v : Value} (k : Only2 w w' g h) (hc : w.cell? ⟨b, o, none⟩ = some v) (h1 : b ≠ g) (h2 : b ≠ h) : w'.cell? ⟨b, o, none⟩ = some v :=
  (World.cell?_of_block (a := ⟨b, o, none⟩) (k.block b (block_lt_of_cell hc) h1 h2)).trans hc
theorem Only2.below {w w' : World} {g h B : Nat} (k : Only2 w w' g h) (h1 : B ≤ g) (h2 : B ≤ h) (hs : B ≤ w.heap.size) : Below B w w' :=
  ⟨k.os, k.tape, k.output, k.size, fun i hi => k.block i (Nat.lt_of_lt_of_le hi hs) (by omega) (by omega)⟩
theorem Only2.row {w w' : World} {g h B b n c : Nat} {F : Nat → Int} (k : Only2 w w' g h) (r : Row w B b n c F) (h1 : b ≠ g) (h2 : b ≠ h) : Row w' B b n c F := by
  have hl := r.le
  refine ⟨r.1, ?_⟩
  rcases r.2 with ⟨h', _⟩ | ⟨g', cap', cur, h', q1, q2, q3⟩
  · simp at h'
  · simp only [Value.slice.injEq, Option.some.injEq, Addr.mk.injEq, and_true, true_and] at h'
    obtain ⟨rfl, rfl⟩ := h'
    exact .inr ⟨b, c, cur, rfl, q1, by rw [k.block b hl.2.1 h1 h2]; exact q2, q3⟩
theorem BX.only2 {w w' : World} {b g h : Nat} {c0 c1 c2 c3 c4 : Value} (x : BX w b c0 c1 c2 c3 c4) (k : Only2 w w' g h) (h1 : b ≠ g) (h2 : b ≠ h) : BX w' b c0 c1 c2 c3 c4 :=
  ⟨k.cell x.k0 h1 h2, k.cell x.k1 h1 h2, k.cell x.k2 h1 h2, k.cell x.k3 h1 h2, k.cell x.k4 h1 h2⟩
theorem Fz.only2 {w w' : World} {b g h : Nat} (x : Fz w b) (k : Only2 w w' g h) (h1 : b ≠ g) (h2 : b ≠ h) : Fz w' b :=
  ⟨Nat.lt_of_lt_of_le x.1 k.size, fun o => (World.frozen?_of_block (a := ⟨b, o, none⟩) (k.block b x.1 h1 h2)).trans (x.2 o)⟩

/-- Block b holds one cell. -/
structure C1 (w : World) (b : Nat) (c : Value) : Prop where
  k0 : w.cell? ⟨b, 0, none⟩ = some c
theorem C1.lt {w : World} {b : Nat} {c : Value} (h : C1 w b c) : b < w.heap.size := block_lt_of_cell h.k0
theorem C1.below {w w' : World} {b : Nat} {c : Value} (h : C1 w b c) (hb : Below w.heap.size w w') : C1 w' b c := ⟨(hb.cell h.lt).trans h.k0⟩
theorem C1.only {w w' : World} {b g : Nat} {c : Value} (h : C1 w b c) (hg : w.grownBy w' (some g)) (hne : b ≠ g) : C1 w' b c := ⟨only_cell hg h.k0 hne⟩
theorem C1.only2 {w w' : World} {b g h : Nat} {c : Value} (x : C1 w b c) (k : Only2 w w' g h) (h1 : b ≠ g) (h2 : b ≠ h) : C1 w' b c := ⟨k.cell x.k0 h1 h2⟩

theorem clone_as (v : Value) (F G : Fr) (Wn : Nat) (w : World) (hv : FA w v G) (hG : G.ok = true) (d : Dim G F) (hW : F.W = (Wn : Int)) :
    Calls Try.prog 55 #[v] w fun e w' => ∃ g1 c1 g2 c2 g3 c3, e = .returned (.agg #[.int .i64 (Wn : Int), .int .i64 F.H, .slice (some ⟨g1, 0, none⟩) F.nY c1, .slice (some ⟨g2, 0, none⟩) F.nU c2, .slice (some ⟨g3, 0, none⟩) F.nV c3]) ∧
      K3 w' w.heap.size g1 g2 g3 F.nY F.nU F.nV c1 c2 c3 G.Y G.U G.V ∧ g1 ≠ g2 ∧ g1 ≠ g3 ∧ g2 ≠ g3 ∧ Below w.heap.size w w' := by
  obtain ⟨d1, d2, d3, d4, d5⟩ := d
  rw [← hW, ← d1, ← d2, ← d3, ← d4, ← d5]
  exact clone_fr v G w hv hG

theorem corner_all {F : Fr} {Wn k : Nat} (hF : F.ok = true) (hW : F.W = (Wn : Int)) (hk : k < F.nU) :
    ∃ m : Nat, (k : Int) / ((Wn : Int) / 2) * 2 * (Wn : Int) + (k : Int) % ((Wn : Int) / 2) * 2 = (m : Int) ∧ m + Wn + 1 < F.nY ∧ corner F.W k = m ∧ F.W.toNat = Wn ∧ IntKind.i64.wrap ((k : Int) / ((Wn : Int) / 2) * 2 * (Wn : Int)) = (k : Int) / ((Wn : Int) / 2) * 2 * (Wn : Int) ∧
      0 ≤ (k : Int) / ((Wn : Int) / 2) * 2 * (Wn : Int) ∧ (k : Int) / ((Wn : Int) / 2) * 2 * (Wn : Int) ≤ 4096 ∧ 0 ≤ (k : Int) / ((Wn : Int) / 2) ∧ (k : Int) / ((Wn : Int) / 2) ≤ 1024 ∧ 0 ≤ (k : Int) % ((Wn : Int) / 2) ∧ (k : Int) % ((Wn : Int) / 2) ≤ 64 := by
  obtain ⟨h0, h1, h2, h3⟩ := ok_dims hF
  obtain ⟨c1, c2, c3, c4, c5, c6, c7, c8⟩ := corner_bd h0 (i := k) (by omega)
  obtain ⟨l1, l2⟩ := corner_lt hF hk
  rw [hW] at c1 c2 c3 c4 c5 c6 c7 c8 l1 l2
  refine ⟨corner (Wn : Int) k, ?_, by simpa using l1, by rw [hW], by rw [hW]; simp, IntWalk.i64_in _ (by omega), c3, c4, c5, c6, c7, c8⟩
  rw [l2]; rfl

end Go.Proofs.Ytnnobdcbmagbaaa
