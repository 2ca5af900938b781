/- The contracts of the tape's Picture and of two: two frames of one size in rows of their own, and a tape. -/
import Derived.Test.YtnnobdcbmagbaaaTB
namespace Go.Proofs.Ytnnobdcbmagbaaa
open Go.RowKit
set_option linter.unusedVariables false

theorem OwnFr.far {w : World} {B b : Nat} {v : Value} {F : Fr} (h : OwnFr w B v F) (hb : b < B) (o : Nat) (u : Value) : OwnFr (w.setCell ⟨b, o, none⟩ u) B v F := by
  obtain ⟨g1, g2, g3, rfl, r1, r2, r3, b1, b2, b3, d⟩ := h
  exact ⟨g1, g2, g3, rfl, r1.far (by have := r1.le.1; simp; omega) u, r2.far (by have := r2.le.1; simp; omega) u, r3.far (by have := r3.le.1; simp; omega) u, b1, b2, b3, d⟩
theorem OwnFr.mono {w : World} {B B' : Nat} {v : Value} {F : Fr} (h : OwnFr w B v F) (hb : B' ≤ B) : OwnFr w B' v F := by
  obtain ⟨g1, g2, g3, rfl, r1, r2, r3, b1, b2, b3, d⟩ := h
  exact ⟨g1, g2, g3, rfl, r1.mono hb, r2.mono hb, r3.mono hb, b1, b2, b3, d⟩
theorem OwnFr.below {w w' : World} {B : Nat} {v : Value} {F : Fr} (h : OwnFr w B v F) (hb : Below w.heap.size w w') : OwnFr w' B v F := by
  obtain ⟨g1, g2, g3, rfl, r1, r2, r3, b1, b2, b3, d⟩ := h
  exact ⟨g1, g2, g3, rfl, r1.below hb, r2.below hb, r3.below hb, b1, b2, b3, d⟩
theorem OwnFr.only {w w' : World} {B p : Nat} {v : Value} {F : Fr} (h : OwnFr w B v F) (hg : w.grownBy w' (some p)) (hp : p < B) : OwnFr w' B v F := by
  obtain ⟨g1, g2, g3, rfl, r1, r2, r3, b1, b2, b3, d⟩ := h
  exact ⟨g1, g2, g3, rfl, only_row hg r1 (by have := r1.le.1; omega), only_row hg r2 (by have := r2.le.1; omega), only_row hg r3 (by have := r3.le.1; omega), b1, b2, b3, d⟩

/-- Five cells of block b stored. -/
def put5 (w : World) (b : Nat) (c0 c1 c2 c3 c4 : Value) : World := ((((w.setCell ⟨b, 0, none⟩ c0).setCell ⟨b, 1, none⟩ c1).setCell ⟨b, 2, none⟩ c2).setCell ⟨b, 3, none⟩ c3).setCell ⟨b, 4, none⟩ c4
theorem OwnFr.put5 {w : World} {B b : Nat} {v : Value} {F : Fr} (h : OwnFr w B v F) (hb : b < B) (c0 c1 c2 c3 c4 : Value) : OwnFr (put5 w b c0 c1 c2 c3 c4) B v F :=
  ((((h.far hb _ _).far hb _ _).far hb _ _).far hb _ _).far hb _ _
theorem TP.put5 {w : World} {B p k b : Nat} (h : TP w B p k) (h1 : b ≠ p) (h2 : B ≤ b) (c0 c1 c2 c3 c4 : Value) : TP (put5 w b c0 c1 c2 c3 c4) B p k :=
  ((((h.far h1 h2 c0).far h1 h2 c1).far h1 h2 c2).far h1 h2 c3).far h1 h2 c4
theorem below_put5 {B b : Nat} {w w' : World} (h : Below B w w') (hb : B ≤ b) (c0 c1 c2 c3 c4 : Value) : Below B w (put5 w' b c0 c1 c2 c3 c4) :=
  ((((h.setCell hb _).setCell hb _).setCell hb _).setCell hb _).setCell hb _

/-- A frame's value stored into the fresh block w.heap.size of five cells. -/
theorem put_frame {w w1 w2 : World} {N B p k : Nat} {v : Value} {F : Fr} {c0 c1 c2 c3 c4 : Value} (hO : OwnFr w1 (N + 1) v F) (ht : TP w1 B p k) (hp : p < N) (hBp : B ≤ p) (hN : w.heap.size = N) (hN1 : N < w1.heap.size)
    (hg : (w.alloc (.cells #[.int .i64 0, .int .i64 0, .slice none 0 0, .slice none 0 0, .slice none 0 0] 26)).grownBy w1 (some p)) (h2 : w2 = ((((w1.setCell ⟨N, 0, none⟩ c0).setCell ⟨N, 1, none⟩ c1).setCell ⟨N, 2, none⟩ c2).setCell ⟨N, 3, none⟩ c3).setCell ⟨N, 4, none⟩ c4) :
    OwnFr w2 N v F ∧ TP w2 B p k ∧ w.grownBy w2 (some p) := by
  subst h2
  have hg0 : w.grownBy w1 (some p) := only_trans (only_of_below (below_box _ _)) hg
  exact ⟨(((((hO.far (by omega) 0 c0).far (by omega) 1 c1).far (by omega) 2 c2).far (by omega) 3 c3).far (by omega) 4 c4).mono (by omega),
    ((((ht.far (by simp; omega) (by simp; omega) c0).far (by simp; omega) (by simp; omega) c1).far (by simp; omega) (by simp; omega) c2).far (by simp; omega) (by simp; omega) c3).far (by simp; omega) (by simp; omega) c4,
    only_far (only_far (only_far (only_far (only_far hg0 (by simp; omega) _) (by simp; omega) _) (by simp; omega) _) (by simp; omega) _) (by simp; omega) _⟩

set_option maxRecDepth 100000 in
set_option maxHeartbeats 1000000 in
theorem picture_any (B p k : Nat) (n : Int) (w : World) (ht : TP w B p k) (hk : k < 900000) (hs : okSize n n = true) :
    Calls Try.prog 44 #[.pointer (some ⟨p, 0, none⟩), .int .i64 n] w (ImgPost w B p k n n) := by
  have hp := ht.2.1
  have hBp := ht.1
  have HT := Lib.hid (ht.below (below_box w (.cells #[.int .i64 0, .int .i64 0, .slice none 0 0, .slice none 0 0, .slice none 0 0] 26)))
  have HS := Lib.hid hs
  clear ht hs
  go_enter Try.func44, Try.ntmps44
  go_wp2_with fail
  refine (image_any B p k n n _ HT.out hk HS.out).mono ?_
  rintro e w1 ⟨v, F, k', rfl, hO, hok, rfl, e2, t, hk', hg⟩
  have c := fun j v (h : _ = some v) => only_cell (b := w.heap.size) (o := j) (v := v) hg h (by omega)
  have c0 := c 0 (.int .i64 0) (by simp [go_sem])
  have c1 := c 1 (.int .i64 0) (by simp [go_sem])
  have c2 := c 2 (.slice none 0 0) (by simp [go_sem])
  have c3 := c 3 (.slice none 0 0) (by simp [go_sem])
  have c4 := c 4 (.slice none 0 0) (by simp [go_sem])
  have fz := fun o => only_frozen (b := w.heap.size) (o := o) hg (by simp) (by simp [go_sem]) (by omega)
  rw [World.size_alloc] at hO
  have hsz := hg.size
  rw [World.size_alloc] at hsz
  have HO := Lib.hid hO
  obtain ⟨g1, g2, g3, rfl, _⟩ := hO
  obtain ⟨W, H, nY, nU, nV, fY, fU, fV⟩ := F
  simp only at e2 HO HS HT ⊢
  subst e2
  have HK := Lib.hid hok
  have HG := Lib.hid hg
  have HTT := Lib.hid t
  clear c hok hg t
  go_wp2_with fail
  refine bodyPost_ret (v := .agg #[.int .i64 H, .int .i64 H, .slice (some ⟨g1, 0, none⟩) nY nY, .slice (some ⟨g2, 0, none⟩) nU nU, .slice (some ⟨g3, 0, none⟩) nV nV]) (by simp [results, Try.results44, go_sem, c0, c1, c2, c3, c4]) rfl ?_
  obtain ⟨h1, h2, h3⟩ := put_frame (w := w) HO.out HTT.out hp hBp rfl (by omega) HG.out rfl
  exact ⟨_, _, k', rfl, h1, HK.out, rfl, rfl, h2, hk', h3⟩

/-- v reads in w as a slice of integers. -/
def RI (w : World) (v : Value) : Prop := ∃ ao n c, v = .slice ao n c ∧ n ≤ c ∧ n ≤ 9223372036854775807 ∧ ∀ i, i < n → ∃ b o x, ao = some ⟨b, o, none⟩ ∧ w.cell? ⟨b, o + i, none⟩ = some (.int .i64 x)

def TwoPost (w : World) (e : Ending) (w' : World) : Prop :=
  ∃ v u F G p k, e = .returned (.tuple #[v, u, .pointer (some ⟨p, 0, none⟩)]) ∧ OwnFr w' w.heap.size v F ∧ OwnFr w' w.heap.size u G ∧ F.ok = true ∧ G.ok = true ∧ (F.W = 16 ∨ F.W = 32) ∧ F.H = F.W ∧ G.W = F.W ∧ G.H = F.W ∧ TP w' w.heap.size p k ∧ k ≤ 100 ∧ Below w.heap.size w w'

theorem TP.start {w w1 : World} {v : Value} {p : Nat} (h : RI w v) (hp : w.heap.size ≤ p) (hp1 : p < w1.heap.size) (hb : Below w.heap.size w w1) (c0 : w1.cell? ⟨p, 0, none⟩ = some v) (c1 : w1.cell? ⟨p, 1, none⟩ = some (.int .i64 0)) (hf : w1.frozen? ⟨p, 1, none⟩ = false) : TP w1 w.heap.size p 0 := by
  obtain ⟨ao, n, c, rfl, h1, h2, hx⟩ := h
  refine ⟨hp, hp1, ao, n, c, c0, c1, hf, h1, h2, fun i hi => ?_⟩
  obtain ⟨b, o, x, e, hc⟩ := hx i hi
  have hl : b < w.heap.size := block_lt_of_cell hc
  exact ⟨b, o, x, e, hl, (hb.cell (p := ⟨b, o + i, none⟩) hl).trans hc⟩

set_option maxRecDepth 100000 in
set_option maxHeartbeats 1000000 in
theorem two_any (v : Value) (w : World) (hv : RI w v) : Calls Try.prog 21 #[v] w (TwoPost w) := by
  have HV := Lib.hid hv
  obtain ⟨ao, n, c, rfl, _⟩ := hv
  go_enter Try.func21, Try.ntmps21
  go_wp2_with fail
  obtain ⟨w0, hw0⟩ : ∃ w0, w0 = ((w.alloc (.cells #[.int .i64 0, .int .i64 0, .slice none 0 0, .slice none 0 0, .slice none 0 0] 26)).alloc (.cells #[.int .i64 0, .int .i64 0, .slice none 0 0, .slice none 0 0, .slice none 0 0] 26)).alloc (.cells #[.slice ao n c, .int .i64 0] 61) := ⟨_, rfl⟩
  rw [← hw0]
  have s0 : w0.heap.size = w.heap.size + 3 := by rw [hw0]; simp
  have x00 : w0.cell? ⟨w.heap.size, 0, none⟩ = some (.int .i64 0) := by rw [hw0]; simp [go_sem]
  have x01 : w0.cell? ⟨w.heap.size, 1, none⟩ = some (.int .i64 0) := by rw [hw0]; simp [go_sem]
  have x02 : w0.cell? ⟨w.heap.size, 2, none⟩ = some (.slice none 0 0) := by rw [hw0]; simp [go_sem]
  have x03 : w0.cell? ⟨w.heap.size, 3, none⟩ = some (.slice none 0 0) := by rw [hw0]; simp [go_sem]
  have x04 : w0.cell? ⟨w.heap.size, 4, none⟩ = some (.slice none 0 0) := by rw [hw0]; simp [go_sem]
  have x10 : w0.cell? ⟨w.heap.size + 1, 0, none⟩ = some (.int .i64 0) := by rw [hw0]; simp [go_sem]
  have x11 : w0.cell? ⟨w.heap.size + 1, 1, none⟩ = some (.int .i64 0) := by rw [hw0]; simp [go_sem]
  have x12 : w0.cell? ⟨w.heap.size + 1, 2, none⟩ = some (.slice none 0 0) := by rw [hw0]; simp [go_sem]
  have x13 : w0.cell? ⟨w.heap.size + 1, 3, none⟩ = some (.slice none 0 0) := by rw [hw0]; simp [go_sem]
  have x14 : w0.cell? ⟨w.heap.size + 1, 4, none⟩ = some (.slice none 0 0) := by rw [hw0]; simp [go_sem]
  have z0 : ∀ o, w0.frozen? ⟨w.heap.size, o, none⟩ = false := fun o => by rw [hw0]; simp [go_sem]
  have z1 : ∀ o, w0.frozen? ⟨w.heap.size + 1, o, none⟩ = false := fun o => by rw [hw0]; simp [go_sem]
  have hB : Below w.heap.size w w0 := by rw [hw0]; go_grown
  have hT : TP w0 w.heap.size (w.heap.size + 1 + 1) 0 := TP.start HV.out (by omega) (by omega) hB (by rw [hw0]; simp [go_sem]) (by rw [hw0]; simp [go_sem]) (by rw [hw0]; simp [go_sem])
  have HB := Lib.hid hB
  clear hB hw0
  refine (next_any _ _ _ 2 _ hT (by omega) (by omega) (by omega)).mono ?_
  rintro e w1 ⟨r, rfl, r0, r1, hT1, hg1⟩
  replace x00 := only_cell hg1 x00 (by omega)
  replace x01 := only_cell hg1 x01 (by omega)
  replace x02 := only_cell hg1 x02 (by omega)
  replace x03 := only_cell hg1 x03 (by omega)
  replace x04 := only_cell hg1 x04 (by omega)
  replace x10 := only_cell hg1 x10 (by omega)
  replace x11 := only_cell hg1 x11 (by omega)
  replace x12 := only_cell hg1 x12 (by omega)
  replace x13 := only_cell hg1 x13 (by omega)
  replace x14 := only_cell hg1 x14 (by omega)
  replace z0 := fun o => only_frozen hg1 (by omega) (z0 o) (by omega)
  replace z1 := fun o => only_frozen hg1 (by omega) (z1 o) (by omega)
  have s1 := hg1.size
  have HG1 := Lib.hid hg1
  have HT1 := Lib.hid hT1
  clear hg1 hT hT1
  go_wp2_with fail
  have hok : okSize (16 + 16 * r) (16 + 16 * r) = true := by
    rcases (show r = 0 ∨ r = 1 by omega) with rfl | rfl <;> decide
  have hW : 16 + 16 * r = 16 ∨ 16 + 16 * r = 32 := by omega
  have HO := Lib.hid (And.intro hok hW)
  clear hok hW
  generalize 16 + 16 * r = sz at *
  refine (picture_any _ _ _ sz _ HT1.out (by omega) HO.out.1).mono ?_
  rintro e w2 ⟨v, F, k2, rfl, o2, f2, f3, f4, hT2, hk2, hg2⟩
  replace x00 := only_cell hg2 x00 (by omega)
  replace x01 := only_cell hg2 x01 (by omega)
  replace x02 := only_cell hg2 x02 (by omega)
  replace x03 := only_cell hg2 x03 (by omega)
  replace x04 := only_cell hg2 x04 (by omega)
  replace x10 := only_cell hg2 x10 (by omega)
  replace x11 := only_cell hg2 x11 (by omega)
  replace x12 := only_cell hg2 x12 (by omega)
  replace x13 := only_cell hg2 x13 (by omega)
  replace x14 := only_cell hg2 x14 (by omega)
  replace z0 := fun o => only_frozen hg2 (by omega) (z0 o) (by omega)
  replace z1 := fun o => only_frozen hg2 (by omega) (z1 o) (by omega)
  have s2 := hg2.size
  have HG2 := Lib.hid (only_trans HG1.out hg2)
  have HT2 := Lib.hid hT2
  have HF := Lib.hid (And.intro o2 (And.intro f2 (And.intro f3 f4)))
  clear hg2 hT2 o2 f2 f3 f4
  go_wp2_with fail
  refine (picture_any _ _ _ sz _ HT2.out (by omega) HO.out.1).mono ?_
  rintro e w3 ⟨u, G, k3, rfl, o3, f2, f3, f4, hT3, hk3, hg3⟩
  replace x00 := only_cell hg3 x00 (by omega)
  replace x01 := only_cell hg3 x01 (by omega)
  replace x02 := only_cell hg3 x02 (by omega)
  replace x03 := only_cell hg3 x03 (by omega)
  replace x04 := only_cell hg3 x04 (by omega)
  replace x10 := only_cell hg3 x10 (by omega)
  replace x11 := only_cell hg3 x11 (by omega)
  replace x12 := only_cell hg3 x12 (by omega)
  replace x13 := only_cell hg3 x13 (by omega)
  replace x14 := only_cell hg3 x14 (by omega)
  replace z0 := fun o => only_frozen hg3 (by omega) (z0 o) (by omega)
  replace z1 := fun o => only_frozen hg3 (by omega) (z1 o) (by omega)
  have s3 := hg3.size
  have hg4 := only_trans HG2.out hg3
  have hB3 : Below w.heap.size w w3 := HB.out.trans (only_below hg4 (by omega) (by omega))
  have o2 : OwnFr w3 (w.heap.size + 3) v F := (HF.out.1.only hg3 (by omega)).mono (by omega)
  replace o3 : OwnFr w3 (w.heap.size + 3) u G := o3.mono (by omega)
  have HR := Lib.hid (And.intro o2 (And.intro o3 (And.intro f2 (And.intro f3 (And.intro f4 (And.intro hT3 (And.intro hg4 hB3)))))))
  obtain ⟨a1, a2, a3, rfl, _⟩ := o2
  obtain ⟨b1, b2, b3, rfl, _⟩ := o3
  clear hg3 hT3 f2 f3 f4 hg4 hB3
  go_wp2_with fail
  refine bodyPost_ret (v := .tuple #[.agg #[.int .i64 F.W, .int .i64 F.H, .slice (some ⟨a1, 0, none⟩) F.nY F.nY, .slice (some ⟨a2, 0, none⟩) F.nU F.nU, .slice (some ⟨a3, 0, none⟩) F.nV F.nV],
    .agg #[.int .i64 G.W, .int .i64 G.H, .slice (some ⟨b1, 0, none⟩) G.nY G.nY, .slice (some ⟨b2, 0, none⟩) G.nU G.nU, .slice (some ⟨b3, 0, none⟩) G.nV G.nV], .pointer (some ⟨w.heap.size + 1 + 1, 0, none⟩)])
    (by simp [results, Try.results21, go_sem, x00, x01, x02, x03, x04, x10, x11, x12, x13, x14]) rfl ?_
  obtain ⟨o2, o3, g2, g3, g4, hT3, hg4, hB3⟩ := HR.out
  obtain ⟨f1, f2, f3⟩ := HF.out.2
  have hsz := HO.out.2
  exact ⟨_, _, F, G, _, k3, rfl, ((o2.put5 (b := w.heap.size) (by omega) _ _ _ _ _).put5 (b := w.heap.size + 1) (by omega) _ _ _ _ _).mono (by omega),
    ((o3.put5 (b := w.heap.size) (by omega) _ _ _ _ _).put5 (b := w.heap.size + 1) (by omega) _ _ _ _ _).mono (by omega),
    f1, g2, by omega, by omega, by omega, by omega, (hT3.put5 (b := w.heap.size) (by omega) (by omega) _ _ _ _ _).put5 (b := w.heap.size + 1) (by omega) (by omega) _ _ _ _ _, by omega,
    below_put5 (below_put5 hB3 (b := w.heap.size) (by omega) _ _ _ _ _) (b := w.heap.size + 1) (by omega) _ _ _ _ _⟩

end Go.Proofs.Ytnnobdcbmagbaaa
