/- The contract of compose.clone: the frame in rows of its own. -/
import Derived.Test.YtnnobdcbmagbaaaRM
import Derived.Test.YtnnobdcbmagbaaaS
import Derived.Deep.Cut
import Derived.Deep.Light
namespace Go.Proofs.Ytnnobdcbmagbaaa
open Go.RowKit
set_option linter.unusedVariables false

/-- Three rows that the call made, with room behind them. -/
structure K3 (w : World) (B g1 g2 g3 n1 n2 n3 c1 c2 c3 : Nat) (F1 F2 F3 : Nat → Int) : Prop where
  r1 : Row w B g1 n1 c1 F1
  r2 : Row w B g2 n2 c2 F2
  r3 : Row w B g3 n3 c3 F3
theorem K3.below {w w' : World} {B g1 g2 g3 n1 n2 n3 c1 c2 c3 : Nat} {F1 F2 F3 : Nat → Int} (h : K3 w B g1 g2 g3 n1 n2 n3 c1 c2 c3 F1 F2 F3) (hb : Below w.heap.size w w') : K3 w' B g1 g2 g3 n1 n2 n3 c1 c2 c3 F1 F2 F3 :=
  ⟨h.r1.below hb, h.r2.below hb, h.r3.below hb⟩
theorem K3.far {w : World} {B g1 g2 g3 n1 n2 n3 c1 c2 c3 : Nat} {F1 F2 F3 : Nat → Int} (h : K3 w B g1 g2 g3 n1 n2 n3 c1 c2 c3 F1 F2 F3) {b : Nat} (hb : b < B) (o : Nat) (u : Value) : K3 (w.setCell ⟨b, o, none⟩ u) B g1 g2 g3 n1 n2 n3 c1 c2 c3 F1 F2 F3 :=
  ⟨h.r1.far (by have := h.r1.le.1; simp; omega) u, h.r2.far (by have := h.r2.le.1; simp; omega) u, h.r3.far (by have := h.r3.le.1; simp; omega) u⟩
theorem K3.FA {w : World} {B g1 g2 g3 n1 n2 n3 c1 c2 c3 : Nat} {F1 F2 F3 : Nat → Int} {W H : Int} (h : K3 w B g1 g2 g3 n1 n2 n3 c1 c2 c3 F1 F2 F3) (b1 : ∀ i, i < n1 → 0 ≤ F1 i ∧ F1 i < 256) (b2 : ∀ i, i < n2 → 0 ≤ F2 i ∧ F2 i < 256) (b3 : ∀ i, i < n3 → 0 ≤ F3 i ∧ F3 i < 256) :
    FA w (.agg #[.int .i64 W, .int .i64 H, .slice (some ⟨g1, 0, none⟩) n1 c1, .slice (some ⟨g2, 0, none⟩) n2 c2, .slice (some ⟨g3, 0, none⟩) n3 c3]) ⟨W, H, n1, n2, n3, F1, F2, F3⟩ :=
  ⟨_, _, _, rfl, h.r1.BA b1, h.r2.BA b2, h.r3.BA b3⟩
theorem Fz.set {w : World} {b b' o : Nat} {u : Value} (h : Fz w b) : Fz (w.setCell ⟨b', o, none⟩ u) b := ⟨by rw [World.size_setCell]; exact h.1, fun o => by rw [World.frozen?_setCell]; exact h.2 o⟩

set_option maxRecDepth 100000 in
set_option maxHeartbeats 2000000 in
theorem clone_fr (v : Value) (F : Fr) (w : World) (hv : FA w v F) (hF : F.ok = true) :
    Calls Try.prog 55 #[v] w fun e w' => ∃ g1 c1 g2 c2 g3 c3, e = .returned (.agg #[.int .i64 F.W, .int .i64 F.H, .slice (some ⟨g1, 0, none⟩) F.nY c1, .slice (some ⟨g2, 0, none⟩) F.nU c2, .slice (some ⟨g3, 0, none⟩) F.nV c3]) ∧
      K3 w' w.heap.size g1 g2 g3 F.nY F.nU F.nV c1 c2 c3 F.Y F.U F.V ∧ g1 ≠ g2 ∧ g1 ≠ g3 ∧ g2 ≠ g3 ∧ Below w.heap.size w w' := by
  obtain ⟨paY, caY, paU, caU, paV, caV, rfl⟩ := hv.shape
  obtain ⟨f1, f2, f3, f4, f5⟩ := ok_bd hF
  obtain ⟨ha1, ha2, ha3, -, -, -, la1, la2, la3⟩ := hv.plane
  obtain ⟨qa1, oa1, rfl, ca1⟩ := ha1 (by omega)
  obtain ⟨qa2, oa2, rfl, ca2⟩ := ha2 (by omega)
  obtain ⟨qa3, oa3, rfl, ca3⟩ := ha3 (by omega)
  have i1 : 0 < F.nY := by omega
  have i2 : 0 < F.nU := by omega
  have i3 : 0 < F.nV := by omega
  have j3 : F.nV ≤ 1024 := by omega
  have HC := Lib.hid (And.intro ca1 (And.intro ca2 ca3))
  clear ca1 ca2 ca3 hv f5
  go_enter Try.func55, Try.ntmps55
  go_upto_region 1 with fail
  obtain ⟨w1, hw⟩ : ∃ x, x = (w.alloc (.cells #[.int .i64 F.W, .int .i64 F.H, .slice (some ⟨qa1, oa1, none⟩) F.nY caY, .slice (some ⟨qa2, oa2, none⟩) F.nU caU, .slice (some ⟨qa3, oa3, none⟩) F.nV caV] 26)).alloc (.cells #[.int .i64 0, .int .i64 0, .slice none 0 0, .slice none 0 0, .slice none 0 0] 26) := ⟨_, rfl⟩
  rw [← hw]
  have hE : Below w.heap.size w w1 := by rw [hw]; go_grown
  have BX_a := Lib.hid (show BX w1 w.heap.size _ _ _ _ _ by rw [hw]; exact (BX.of_alloc _ _ _ _ _ _ _).below (below_box _ _))
  have BX_r := Lib.hid (show BX w1 (w.heap.size + 1) _ _ _ _ _ by rw [hw]; exact BX.of_alloc' _ _ _ _ _ _ _ _ (by simp))
  have FZ_a := Lib.hid (show Fz w1 w.heap.size from ⟨by rw [hw]; simp; omega, fun o => by rw [hw]; simp [go_sem]⟩)
  have FZ_r := Lib.hid (show Fz w1 (w.heap.size + 1) from ⟨by rw [hw]; simp, fun o => by rw [hw]; simp [go_sem]⟩)
  have HB := Lib.hid hE
  clear hw hE
  obtain ⟨bla, hbla⟩ : ∃ b, b = w.heap.size := ⟨_, rfl⟩
  obtain ⟨blr, hblr⟩ : ∃ b, b = w.heap.size + 1 := ⟨_, rfl⟩
  rw [← hblr] at BX_r FZ_r ⊢
  have ea : bla ≤ w.heap.size := by omega
  have eb : w.heap.size ≤ bla := by omega
  have ec : w.heap.size < blr := by omega
  rw [← hbla] at BX_a FZ_a
  have hgoal : w.heap.size = bla := hbla.symm
  have EG := Lib.hid hgoal
  clear hbla hblr hgoal
  rw [EG.out]
  obtain ⟨a0, a1, a2, a3, a4⟩ := BX_a.out
  have fz := FZ_a.out.2
  have sz1 := BX_r.out.lt
  have sy1 := FZ_a.out.1
  go_wp2_with (at_builtin; refine wpList_clone2 _ rfl _ _ rfl _ qa1 oa1 F.nY caY F.Y rfl rfl ?_ (by omega) (by omega) ?_)
  · intro i hi
    have h := HC.out.1 i hi
    rw [World.cell?_alloc_past _ _ _ (by have := block_lt_of_cell h; have := HB.out.size; simp only at *; omega)]
    exact (HB.out.cell (block_lt_of_cell h)).trans h
  intro g1 c1 u1 hr hx
  have hE : Below w1.heap.size w1 u1 := (below_box _ _).trans (hx.mono (by simp))
  have hl := hr.le
  try simp only [World.size_alloc] at hl
  have hr' := hr.mono (B' := w.heap.size) (by have := HB.out.size; omega)
  have HR1 := Lib.hid hr'
  replace BX_a := Lib.hid (BX_a.out.below hE)
  replace BX_r := Lib.hid (BX_r.out.below hE)
  replace FZ_a := Lib.hid (FZ_a.out.below hE)
  replace FZ_r := Lib.hid (FZ_r.out.below hE)
  replace HB := Lib.hid (HB.out.trans (hE.mono HB.out.size))
  have hg1 : g1 < u1.heap.size := hl.2.1
  have hq1 : w1.heap.size < g1 + 1 := by omega
  clear hr hr' hx a0 a1 a2 a3 a4 fz hE hl
  obtain ⟨a0, a1, a2, a3, a4⟩ := BX_a.out
  have fz := FZ_a.out.2
  have nr := BX_r.out.lt
  go_upto_region 2 with fail
  obtain ⟨v1, hw⟩ : ∃ x, x = u1.setCell ⟨bla, 2, none⟩ (.slice (some ⟨g1, 0, none⟩) F.nY c1) := ⟨_, rfl⟩
  rw [← hw]
  have hE : Below w.heap.size u1 v1 := by rw [hw]; exact (Below.refl _ _).setCell (by simp; omega) _
  have hs : v1.heap.size = u1.heap.size := by rw [hw, World.size_setCell]
  replace BX_a := Lib.hid (show BX v1 bla (.int .i64 F.W) (.int .i64 F.H) (.slice (some ⟨g1, 0, none⟩) F.nY c1) (.slice (some ⟨qa2, oa2, none⟩) F.nU caU) (.slice (some ⟨qa3, oa3, none⟩) F.nV caV) from by rw [hw]; exact ⟨by simp [go_sem, a0], by simp [go_sem, a1], by simp [go_sem, a2], by simp [go_sem, a3], by simp [go_sem, a4]⟩)
  have hne : blr ≠ bla := by omega
  have hh := fun b (hb : b ≠ bla) => Below.heap_setCell u1 ⟨bla, 2, none⟩ (.slice (some ⟨g1, 0, none⟩) F.nY c1) b hb
  replace BX_r := Lib.hid (show BX v1 blr _ _ _ _ _ from by rw [hw]; exact ⟨(World.cell?_of_block (a := ⟨blr, 0, none⟩) (hh _ hne)).trans BX_r.out.k0, (World.cell?_of_block (a := ⟨blr, 1, none⟩) (hh _ hne)).trans BX_r.out.k1, (World.cell?_of_block (a := ⟨blr, 2, none⟩) (hh _ hne)).trans BX_r.out.k2, (World.cell?_of_block (a := ⟨blr, 3, none⟩) (hh _ hne)).trans BX_r.out.k3, (World.cell?_of_block (a := ⟨blr, 4, none⟩) (hh _ hne)).trans BX_r.out.k4⟩)
  replace FZ_a := Lib.hid (show Fz v1 bla from by rw [hw]; exact FZ_a.out.set)
  replace FZ_r := Lib.hid (show Fz v1 blr from by rw [hw]; exact FZ_r.out.set)
  replace HR1 := Lib.hid (show Row v1 _ _ _ _ _ from by rw [hw]; exact HR1.out.far (by simp; omega) _)
  replace HB := Lib.hid (HB.out.trans hE)
  replace hg1 : g1 < v1.heap.size := by omega
  clear hw hE hs hne hh a0 a1 a2 a3 a4 fz nr
  obtain ⟨a0, a1, a2, a3, a4⟩ := BX_a.out
  have fz := FZ_a.out.2
  have sz2 := BX_r.out.lt
  have sy2 := FZ_a.out.1
  go_wp2_with (at_builtin; refine wpList_clone2 _ rfl _ _ rfl _ qa2 oa2 F.nU caU F.U rfl rfl ?_ (by omega) (by omega) ?_)
  · intro i hi
    have h := HC.out.2.1 i hi
    rw [World.cell?_alloc_past _ _ _ (by have := block_lt_of_cell h; have := HB.out.size; simp only at *; omega)]
    exact (HB.out.cell (block_lt_of_cell h)).trans h
  intro g2 c2 u2 hr hx
  have hE : Below v1.heap.size v1 u2 := (below_box _ _).trans (hx.mono (by simp))
  have hl := hr.le
  try simp only [World.size_alloc] at hl
  have hr' := hr.mono (B' := w.heap.size) (by have := HB.out.size; omega)
  have HR2 := Lib.hid hr'
  replace BX_a := Lib.hid (BX_a.out.below hE)
  replace BX_r := Lib.hid (BX_r.out.below hE)
  replace FZ_a := Lib.hid (FZ_a.out.below hE)
  replace FZ_r := Lib.hid (FZ_r.out.below hE)
  replace HR1 := Lib.hid (HR1.out.below hE)
  replace HB := Lib.hid (HB.out.trans (hE.mono HB.out.size))
  have d12 : g1 ≠ g2 := by have := HR1.out; have h2 := hg1; omega
  have hg2 : g2 < u2.heap.size := hl.2.1
  have hq2 : v1.heap.size < g2 + 1 := by omega
  clear hr hr' hx a0 a1 a2 a3 a4 fz hE hl
  obtain ⟨a0, a1, a2, a3, a4⟩ := BX_a.out
  have fz := FZ_a.out.2
  have nr := BX_r.out.lt
  go_upto_region 3 with fail
  obtain ⟨v2, hw⟩ : ∃ x, x = u2.setCell ⟨bla, 3, none⟩ (.slice (some ⟨g2, 0, none⟩) F.nU c2) := ⟨_, rfl⟩
  rw [← hw]
  have hE : Below w.heap.size u2 v2 := by rw [hw]; exact (Below.refl _ _).setCell (by simp; omega) _
  have hs : v2.heap.size = u2.heap.size := by rw [hw, World.size_setCell]
  replace BX_a := Lib.hid (show BX v2 bla (.int .i64 F.W) (.int .i64 F.H) (.slice (some ⟨g1, 0, none⟩) F.nY c1) (.slice (some ⟨g2, 0, none⟩) F.nU c2) (.slice (some ⟨qa3, oa3, none⟩) F.nV caV) from by rw [hw]; exact ⟨by simp [go_sem, a0], by simp [go_sem, a1], by simp [go_sem, a2], by simp [go_sem, a3], by simp [go_sem, a4]⟩)
  have hne : blr ≠ bla := by omega
  have hh := fun b (hb : b ≠ bla) => Below.heap_setCell u2 ⟨bla, 3, none⟩ (.slice (some ⟨g2, 0, none⟩) F.nU c2) b hb
  replace BX_r := Lib.hid (show BX v2 blr _ _ _ _ _ from by rw [hw]; exact ⟨(World.cell?_of_block (a := ⟨blr, 0, none⟩) (hh _ hne)).trans BX_r.out.k0, (World.cell?_of_block (a := ⟨blr, 1, none⟩) (hh _ hne)).trans BX_r.out.k1, (World.cell?_of_block (a := ⟨blr, 2, none⟩) (hh _ hne)).trans BX_r.out.k2, (World.cell?_of_block (a := ⟨blr, 3, none⟩) (hh _ hne)).trans BX_r.out.k3, (World.cell?_of_block (a := ⟨blr, 4, none⟩) (hh _ hne)).trans BX_r.out.k4⟩)
  replace FZ_a := Lib.hid (show Fz v2 bla from by rw [hw]; exact FZ_a.out.set)
  replace FZ_r := Lib.hid (show Fz v2 blr from by rw [hw]; exact FZ_r.out.set)
  replace HR1 := Lib.hid (show Row v2 _ _ _ _ _ from by rw [hw]; exact HR1.out.far (by simp; omega) _)
  replace HR2 := Lib.hid (show Row v2 _ _ _ _ _ from by rw [hw]; exact HR2.out.far (by simp; omega) _)
  replace HB := Lib.hid (HB.out.trans hE)
  replace hg1 : g1 < v2.heap.size := by omega
  replace hg2 : g2 < v2.heap.size := by omega
  clear hw hE hs hne hh a0 a1 a2 a3 a4 fz nr
  obtain ⟨a0, a1, a2, a3, a4⟩ := BX_a.out
  have fz := FZ_a.out.2
  have sz3 := BX_r.out.lt
  have sy3 := FZ_a.out.1
  go_wp2_with (at_builtin; refine wpList_clone2 _ rfl _ _ rfl _ qa3 oa3 F.nV caV F.V rfl rfl ?_ (by omega) (by omega) ?_)
  · intro i hi
    have h := HC.out.2.2 i hi
    rw [World.cell?_alloc_past _ _ _ (by have := block_lt_of_cell h; have := HB.out.size; simp only at *; omega)]
    exact (HB.out.cell (block_lt_of_cell h)).trans h
  intro g3 c3 u3 hr hx
  have hE : Below v2.heap.size v2 u3 := (below_box _ _).trans (hx.mono (by simp))
  have hl := hr.le
  try simp only [World.size_alloc] at hl
  have hr' := hr.mono (B' := w.heap.size) (by have := HB.out.size; omega)
  have HR3 := Lib.hid hr'
  replace BX_a := Lib.hid (BX_a.out.below hE)
  replace BX_r := Lib.hid (BX_r.out.below hE)
  replace FZ_a := Lib.hid (FZ_a.out.below hE)
  replace FZ_r := Lib.hid (FZ_r.out.below hE)
  replace HR1 := Lib.hid (HR1.out.below hE)
  replace HR2 := Lib.hid (HR2.out.below hE)
  replace HB := Lib.hid (HB.out.trans (hE.mono HB.out.size))
  have d13 : g1 ≠ g3 := by have := HR1.out; have h2 := hg1; omega
  have d23 : g2 ≠ g3 := by have := HR2.out; have h2 := hg2; omega
  have hg3 : g3 < u3.heap.size := hl.2.1
  have hq3 : v2.heap.size < g3 + 1 := by omega
  clear hr hr' hx a0 a1 a2 a3 a4 fz hE hl
  obtain ⟨a0, a1, a2, a3, a4⟩ := BX_a.out
  have fz := FZ_a.out.2
  have nr := BX_r.out.lt
  go_upto_region 4 with fail
  obtain ⟨v3, hw⟩ : ∃ x, x = u3.setCell ⟨bla, 4, none⟩ (.slice (some ⟨g3, 0, none⟩) F.nV c3) := ⟨_, rfl⟩
  rw [← hw]
  have hE : Below w.heap.size u3 v3 := by rw [hw]; exact (Below.refl _ _).setCell (by simp; omega) _
  have hs : v3.heap.size = u3.heap.size := by rw [hw, World.size_setCell]
  replace BX_a := Lib.hid (show BX v3 bla (.int .i64 F.W) (.int .i64 F.H) (.slice (some ⟨g1, 0, none⟩) F.nY c1) (.slice (some ⟨g2, 0, none⟩) F.nU c2) (.slice (some ⟨g3, 0, none⟩) F.nV c3) from by rw [hw]; exact ⟨by simp [go_sem, a0], by simp [go_sem, a1], by simp [go_sem, a2], by simp [go_sem, a3], by simp [go_sem, a4]⟩)
  have hne : blr ≠ bla := by omega
  have hh := fun b (hb : b ≠ bla) => Below.heap_setCell u3 ⟨bla, 4, none⟩ (.slice (some ⟨g3, 0, none⟩) F.nV c3) b hb
  replace BX_r := Lib.hid (show BX v3 blr _ _ _ _ _ from by rw [hw]; exact ⟨(World.cell?_of_block (a := ⟨blr, 0, none⟩) (hh _ hne)).trans BX_r.out.k0, (World.cell?_of_block (a := ⟨blr, 1, none⟩) (hh _ hne)).trans BX_r.out.k1, (World.cell?_of_block (a := ⟨blr, 2, none⟩) (hh _ hne)).trans BX_r.out.k2, (World.cell?_of_block (a := ⟨blr, 3, none⟩) (hh _ hne)).trans BX_r.out.k3, (World.cell?_of_block (a := ⟨blr, 4, none⟩) (hh _ hne)).trans BX_r.out.k4⟩)
  replace FZ_a := Lib.hid (show Fz v3 bla from by rw [hw]; exact FZ_a.out.set)
  replace FZ_r := Lib.hid (show Fz v3 blr from by rw [hw]; exact FZ_r.out.set)
  replace HR1 := Lib.hid (show Row v3 _ _ _ _ _ from by rw [hw]; exact HR1.out.far (by simp; omega) _)
  replace HR2 := Lib.hid (show Row v3 _ _ _ _ _ from by rw [hw]; exact HR2.out.far (by simp; omega) _)
  replace HR3 := Lib.hid (show Row v3 _ _ _ _ _ from by rw [hw]; exact HR3.out.far (by simp; omega) _)
  replace HB := Lib.hid (HB.out.trans hE)
  replace hg1 : g1 < v3.heap.size := by omega
  replace hg2 : g2 < v3.heap.size := by omega
  replace hg3 : g3 < v3.heap.size := by omega
  clear hw hE hs hne hh a0 a1 a2 a3 a4 fz nr
  obtain ⟨a0, a1, a2, a3, a4⟩ := BX_a.out
  obtain ⟨r0, r1, r2, r3, r4⟩ := BX_r.out
  have fz := FZ_r.out.2
  go_wp2_with fail
  refine bodyPost_ret (v := .agg #[.int .i64 F.W, .int .i64 F.H, .slice (some ⟨g1, 0, none⟩) F.nY c1, .slice (some ⟨g2, 0, none⟩) F.nU c2, .slice (some ⟨g3, 0, none⟩) F.nV c3]) (by simp [results, Try.results55, go_sem, r0, r1, r2, r3, r4]) rfl ?_
  have hB := HB.out
  refine ⟨g1, c1, g2, c2, g3, c3, rfl, ?_, d12, d13, d23, by go_grown⟩
  have n1 : blr ≠ g1 := by omega
  have n2 : blr ≠ g2 := by omega
  have n3 : blr ≠ g3 := by omega
  exact ⟨((((HR1.out.far n1 _).far n1 _).far n1 _).far n1 _).far n1 _, ((((HR2.out.far n2 _).far n2 _).far n2 _).far n2 _).far n2 _, ((((HR3.out.far n3 _).far n3 _).far n3 _).far n3 _).far n3 _⟩

end Go.Proofs.Ytnnobdcbmagbaaa
