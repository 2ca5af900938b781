/- Aid for the references' loops over three planes: blocks of three cells, and what a loop that writes one row leaves. -/
import Derived.Test.YtnnobdcbmagbaaaLA
import Derived.Test.YtnnobdcbmagbaaaAlike
namespace Go.Proofs.Ytnnobdcbmagbaaa
open Go.RowKit
set_option linter.unusedVariables false

/-- Block b holds three cells. -/
structure T3 (w : World) (b : Nat) (c0 c1 c2 : Value) : Prop where
  k0 : w.cell? ⟨b, 0, none⟩ = some c0
  k1 : w.cell? ⟨b, 1, none⟩ = some c1
  k2 : w.cell? ⟨b, 2, none⟩ = some c2
theorem T3.lt {w : World} {b : Nat} {c0 c1 c2 : Value} (h : T3 w b c0 c1 c2) : b < w.heap.size := block_lt_of_cell h.k0
theorem T3.below {w w' : World} {b : Nat} {c0 c1 c2 : Value} (h : T3 w b c0 c1 c2) (hb : Below w.heap.size w w') : T3 w' b c0 c1 c2 :=
  ⟨(hb.cell h.lt).trans h.k0, (hb.cell h.lt).trans h.k1, (hb.cell h.lt).trans h.k2⟩
theorem T3.only {w w' : World} {b g : Nat} {c0 c1 c2 : Value} (h : T3 w b c0 c1 c2) (hg : w.grownBy w' (some g)) (hne : b ≠ g) : T3 w' b c0 c1 c2 :=
  ⟨only_cell hg h.k0 hne, only_cell hg h.k1 hne, only_cell hg h.k2 hne⟩
theorem T3.of_alloc (w : World) (b : Nat) (c0 c1 c2 : Value) (t : TypeId) (h : b = w.heap.size) : T3 (w.alloc (.cells #[c0, c1, c2] t)) b c0 c1 c2 := by
  subst h; exact ⟨by simp [go_sem], by simp [go_sem], by simp [go_sem]⟩
theorem BX.only {w w' : World} {b g : Nat} {c0 c1 c2 c3 c4 : Value} (h : BX w b c0 c1 c2 c3 c4) (hg : w.grownBy w' (some g)) (hne : b ≠ g) : BX w' b c0 c1 c2 c3 c4 :=
  ⟨only_cell hg h.k0 hne, only_cell hg h.k1 hne, only_cell hg h.k2 hne, only_cell hg h.k3 hne, only_cell hg h.k4 hne⟩
/-- Block b may be written. -/
def Fz (w : World) (b : Nat) : Prop := b < w.heap.size ∧ ∀ o, w.frozen? ⟨b, o, none⟩ = false
theorem Fz.below {w w' : World} {b : Nat} (h : Fz w b) (hb : Below w.heap.size w w') : Fz w' b := ⟨Nat.lt_of_lt_of_le h.1 hb.size, fun o => (hb.frozen h.1).trans (h.2 o)⟩
theorem Fz.only {w w' : World} {b g : Nat} (h : Fz w b) (hg : w.grownBy w' (some g)) (hne : b ≠ g) : Fz w' b := ⟨Nat.lt_of_lt_of_le h.1 hg.size, fun o => only_frozen hg h.1 (h.2 o) hne⟩

/-- Three rows that the call made. -/
structure R3 (w : World) (B g1 g2 g3 n1 n2 n3 : Nat) (F1 F2 F3 : Nat → Int) : Prop where
  r1 : Row w B g1 n1 n1 F1
  r2 : Row w B g2 n2 n2 F2
  r3 : Row w B g3 n3 n3 F3
theorem R3.below {w w' : World} {B g1 g2 g3 n1 n2 n3 : Nat} {F1 F2 F3 : Nat → Int} (h : R3 w B g1 g2 g3 n1 n2 n3 F1 F2 F3) (hb : Below w.heap.size w w') : R3 w' B g1 g2 g3 n1 n2 n3 F1 F2 F3 :=
  ⟨h.r1.below hb, h.r2.below hb, h.r3.below hb⟩
theorem R3.far {w : World} {B g1 g2 g3 n1 n2 n3 : Nat} {F1 F2 F3 : Nat → Int} (h : R3 w B g1 g2 g3 n1 n2 n3 F1 F2 F3) {b : Nat} (hb : b < B) (o : Nat) (u : Value) : R3 (w.setCell ⟨b, o, none⟩ u) B g1 g2 g3 n1 n2 n3 F1 F2 F3 :=
  ⟨h.r1.far (by have := h.r1.le.1; simp; omega) u, h.r2.far (by have := h.r2.le.1; simp; omega) u, h.r3.far (by have := h.r3.le.1; simp; omega) u⟩
theorem R3.FA {w : World} {B g1 g2 g3 n1 n2 n3 : Nat} {F1 F2 F3 : Nat → Int} {W H : Int} (h : R3 w B g1 g2 g3 n1 n2 n3 F1 F2 F3) (b1 : ∀ i, i < n1 → 0 ≤ F1 i ∧ F1 i < 256) (b2 : ∀ i, i < n2 → 0 ≤ F2 i ∧ F2 i < 256) (b3 : ∀ i, i < n3 → 0 ≤ F3 i ∧ F3 i < 256) :
    FA w (.agg #[.int .i64 W, .int .i64 H, .slice (some ⟨g1, 0, none⟩) n1 n1, .slice (some ⟨g2, 0, none⟩) n2 n2, .slice (some ⟨g3, 0, none⟩) n3 n3]) ⟨W, H, n1, n2, n3, F1, F2, F3⟩ :=
  ⟨_, _, _, rfl, h.r1.BA b1, h.r2.BA b2, h.r3.BA b3⟩

theorem ok_blank {F : Fr} (h : F.ok = true) : (F.W * F.H).toNat = F.nY ∧ (F.W * F.H / 4).toNat = F.nU ∧ F.nV = F.nU := by
  obtain ⟨h0, h1, h2, h3⟩ := ok_dims h
  rw [quarter h0]
  omega

theorem blank_fr (F : Fr) (w : World) (hF : F.ok = true) :
    Calls Try.prog 42 #[.int .i64 F.W, .int .i64 F.H] w fun e w' => ∃ g1 g2 g3, e = .returned (.agg #[.int .i64 F.W, .int .i64 F.H, .slice (some ⟨g1, 0, none⟩) F.nY F.nY, .slice (some ⟨g2, 0, none⟩) F.nU F.nU, .slice (some ⟨g3, 0, none⟩) F.nV F.nV]) ∧
      R3 w' w.heap.size g1 g2 g3 F.nY F.nU F.nV (fun _ => 0) (fun _ => 0) (fun _ => 0) ∧ g1 ≠ g2 ∧ g1 ≠ g3 ∧ g2 ≠ g3 ∧ Below w.heap.size w w' := by
  refine (blank_any F.W F.H w (ok_dims hF).1).mono ?_
  rintro e w' ⟨g1, g2, g3, rfl, r1, r2, r3, d1, d2, d3, hb⟩
  obtain ⟨e1, e2, e3⟩ := ok_blank hF
  rw [e1] at r1
  rw [e2] at r2 r3
  rw [e1, e2]
  refine ⟨g1, g2, g3, by rw [e3], ⟨r1, r2, by rw [e3]; exact r3⟩, d1, d2, d3, hb⟩

theorem planes_fr (F : Fr) (W H : Int) (a1 a2 a3 : Option Addr) (n1 c1 n2 c2 n3 c3 : Nat) (w : World) (hW : 0 ≤ W) (hW2 : W ≤ 64) (hH : 0 ≤ H) (hH2 : H ≤ 64) :
    Calls Try.prog 43 #[.agg #[.int .i64 W, .int .i64 H, .slice a1 n1 c1, .slice a2 n2 c2, .slice a3 n3 c3]] w fun e w' => e = .returned (.tuple #[.agg #[.slice a1 n1 c1, .slice a2 n2 c2, .slice a3 n3 c3], .agg #[.int .i64 W, .int .i64 (W / 2), .int .i64 (W / 2)], .agg #[.int .i64 H, .int .i64 (H / 2), .int .i64 (H / 2)]]) ∧ Below w.heap.size w w' :=
  planes_any W H _ _ _ w hW hW2 hH hH2 ⟨_, _, _, rfl⟩ ⟨_, _, _, rfl⟩ ⟨_, _, _, rfl⟩

end Go.Proofs.Ytnnobdcbmagbaaa
