/- The first number of the tape decides the size of the frames that two answers. -/
import Derived.Test.YtnnobdcbmagbaaaTC
namespace Go.Proofs.Ytnnobdcbmagbaaa
open Go.RowKit
set_option linter.unusedVariables false

def NextAt (w : World) (B p k : Nat) (n x : Int) (e : Ending) (w' : World) : Prop := e = .returned (.int .i64 ((x.tmod n + n) % n)) ∧ 0 ≤ (x.tmod n + n) % n ∧ (x.tmod n + n) % n < n ∧ TP w' B p (k + 1) ∧ w.grownBy w' (some p)

theorem next_post2 {w w' : World} {B p k : Nat} {n v r : Int} (hr : r = (v.tmod n + n) % n) (hn : 1 ≤ n) (ht : TP w B p k) (hg : w.grownBy w' (some p)) (h1 : w'.cell? ⟨p, 1, none⟩ = some (.int .i64 ((k : Int) + 1))) (h0 : w'.cell? ⟨p, 0, none⟩ = w.cell? ⟨p, 0, none⟩) (hf : w'.frozen? ⟨p, 1, none⟩ = false) :
    NextAt w B p k n v (.returned (.int .i64 r)) w' := by
  obtain ⟨q, e, q1, q2, q3, q4⟩ := next_post hr hn ht hg h1 h0 hf
  simp only [Ending.returned.injEq, Value.int.injEq, true_and] at e
  subst hr
  subst e
  exact ⟨rfl, q1, q2, q3, q4⟩

set_option maxRecDepth 100000 in
set_option maxHeartbeats 1000000 in
theorem next_in2 (B p k m c : Nat) (b o : Nat) (x : Int) (n : Int) (w : World) (ht : TP w B p k) (hk : k < 1000000) (h1 : 1 ≤ n) (h2 : n ≤ 1000000) (hm : m ≤ 9223372036854775807) (hmc : m ≤ c)
    (c0 : w.cell? ⟨p, 0, none⟩ = some (.slice (some ⟨b, o, none⟩) m c)) (c1 : w.cell? ⟨p, 1, none⟩ = some (.int .i64 (k : Int))) (hf : w.frozen? ⟨p, 1, none⟩ = false) (hlt : k < m) (hx : w.cell? ⟨b, o + k, none⟩ = some (.int .i64 x)) :
    Calls Try.prog 30 #[.pointer (some ⟨p, 0, none⟩), .int .i64 n] w (NextAt w B p k n x) := by
  have HT := Lib.hid ht
  clear ht
  have t1 := tmod_bd x n h1
  have e1 := IntWalk.i64_in (x.tmod n + n) (by omega)
  have e2 : 0 ≤ x.tmod n + n := by omega
  go_enter Try.func30, Try.ntmps30
  go_wp2_with fail
  refine Plan.wp_region_plan (fun w' => w'.cell? ⟨p, 0, none⟩ = some (.slice (some ⟨b, o, none⟩) m c) ∧ w'.cell? ⟨p, 1, none⟩ = some (.int .i64 (k : Int))) (([0, 1, 2, 3, 4, 5, 6, 7, 8, 9].map (·, true))) (by kernel_rfl) (by kernel_rfl) (by kernel_rfl) ⟨c0, c1⟩ ?_
  refine' Plan.plan_seg _ [0, 1, 2, 3, 4, 5, 6, 7, 8, 9] ([]) (by kernel_rfl) (by kernel_rfl) rfl (by exact ⟨c0, c1⟩) (fun wx hS => ?_) ?_
  rotate_left
  · obtain ⟨s0, s1⟩ := hS
    go_light
    iterate 10 (apply Plan.seg_pick; rfl; intro K hK; go_wp)
    exact Plan.seg_nil
  refine Plan.plan_done ?_
  go_wp2_with fail
  refine Plan.wp_region_plan (fun w' => w'.cell? ⟨p, 0, none⟩ = some (.slice (some ⟨b, o, none⟩) m c) ∧ w'.cell? ⟨p, 1, none⟩ = some (.int .i64 (k : Int)) ∧ w'.cell? ⟨b, o + k, none⟩ = some (.int .i64 x)) (([0, 1, 2, 3, 4, 5, 6, 7, 8, 9, 10].map (·, true))) (by kernel_rfl) (by kernel_rfl) (by kernel_rfl) ⟨c0, c1, hx⟩ ?_
  refine' Plan.plan_seg _ [0, 1, 2, 3, 4, 5, 6, 7, 8, 9, 10] ([]) (by kernel_rfl) (by kernel_rfl) rfl (by exact ⟨c0, c1, hx⟩) (fun wx hS => ?_) ?_
  rotate_left
  · obtain ⟨s0, s1, s2⟩ := hS
    go_light
    iterate 11 (apply Plan.seg_pick; rfl; intro K hK; go_wp)
    exact Plan.seg_nil
  refine Plan.plan_done ?_
  go_wp2_with fail
  go_ret
  refine next_post2 (v := x) ?_ h1 HT.out ?_ ?_ ?_ ?_
  · rfl
  · exact only_drew (only_drew (only_store (only_refl _ _) _ _))
  · simp [go_sem, c1, World.cell?_drew]
  · simp [go_sem, c0, World.cell?_drew]
  · simp [go_sem, hf]

set_option maxRecDepth 100000 in
set_option maxHeartbeats 1000000 in
theorem next_out2 (B p k m c : Nat) (ao : Option Addr) (n : Int) (w : World) (ht : TP w B p k) (hk : k < 1000000) (h1 : 1 ≤ n) (h2 : n ≤ 1000000) (hm : m ≤ 9223372036854775807) (hmc : m ≤ c)
    (c0 : w.cell? ⟨p, 0, none⟩ = some (.slice ao m c)) (c1 : w.cell? ⟨p, 1, none⟩ = some (.int .i64 (k : Int))) (hf : w.frozen? ⟨p, 1, none⟩ = false) (hlt : m ≤ k) :
    Calls Try.prog 30 #[.pointer (some ⟨p, 0, none⟩), .int .i64 n] w (NextAt w B p k n ((k : Int) * 7 + 3)) := by
  have HT := Lib.hid ht
  clear ht
  have q0 := Int.emod_nonneg ((k : Int) * 7 + 3) (show n ≠ 0 by omega)
  have q1 := Int.emod_lt_of_pos ((k : Int) * 7 + 3) (show 0 < n by omega)
  go_enter Try.func30, Try.ntmps30
  go_wp2_with fail
  refine Plan.wp_region_plan (fun w' => w'.cell? ⟨p, 0, none⟩ = some (.slice ao m c) ∧ w'.cell? ⟨p, 1, none⟩ = some (.int .i64 (k : Int))) (([0, 1, 2, 3, 4, 5, 6, 7, 8, 9].map (·, true))) (by kernel_rfl) (by kernel_rfl) (by kernel_rfl) ⟨c0, c1⟩ ?_
  refine' Plan.plan_seg _ [0, 1, 2, 3, 4, 5, 6, 7, 8, 9] ([]) (by kernel_rfl) (by kernel_rfl) rfl (by exact ⟨c0, c1⟩) (fun wx hS => ?_) ?_
  rotate_left
  · obtain ⟨s0, s1⟩ := hS
    go_light
    iterate 10 (apply Plan.seg_pick; rfl; intro K hK; go_wp)
    exact Plan.seg_nil
  refine Plan.plan_done ?_
  go_wp2_with fail
  go_ret
  refine next_post2 (v := ((k : Int) * 7 + 3)) ?_ h1 HT.out ?_ ?_ ?_ ?_
  · rw [Int.tmod_eq_emod_of_nonneg (show (0 : Int) ≤ (k : Int) * 7 + 3 by omega)]
  · exact only_drew (only_store (only_refl _ _) _ _)
  · simp [go_sem, c1, World.cell?_drew]
  · simp [go_sem, c0, World.cell?_drew]
  · simp [go_sem, hf]


/-- The first number of the tape v (3 where it is empty). -/
def headIs (w : World) (v : Value) (x : Int) : Prop := ∃ ao n c, v = .slice ao n c ∧ ((n = 0 ∧ x = 3) ∨ (0 < n ∧ ∃ b o, ao = some ⟨b, o, none⟩ ∧ w.cell? ⟨b, o, none⟩ = some (.int .i64 x)))
theorem RI.head {w : World} {v : Value} (h : RI w v) : ∃ x, headIs w v x := by
  obtain ⟨ao, n, c, rfl, h1, h2, hx⟩ := h
  by_cases hn : 0 < n
  · obtain ⟨b, o, x, e, hc⟩ := hx 0 hn
    exact ⟨x, ao, n, c, rfl, .inr ⟨hn, b, o, e, by simpa using hc⟩⟩
  · exact ⟨3, ao, n, c, rfl, .inl ⟨by omega, rfl⟩⟩
theorem headIs.below {w w' : World} {v : Value} {x : Int} (h : headIs w v x) (hb : Below w.heap.size w w') : headIs w' v x := by
  obtain ⟨ao, n, c, rfl, h1 | ⟨hn, b, o, e, hc⟩⟩ := h
  · exact ⟨ao, n, c, rfl, .inl h1⟩
  · exact ⟨ao, n, c, rfl, .inr ⟨hn, b, o, e, (hb.cell (p := ⟨b, o, none⟩) (block_lt_of_cell hc)).trans hc⟩⟩

def TwoAt (x : Int) (w : World) (e : Ending) (w' : World) : Prop :=
  ∃ v u F G p k, e = .returned (.tuple #[v, u, .pointer (some ⟨p, 0, none⟩)]) ∧ OwnFr w' w.heap.size v F ∧ OwnFr w' w.heap.size u G ∧ F.W = 16 + 16 * ((x.tmod 2 + 2) % 2) ∧ F.ok = true ∧ G.ok = true ∧ (F.W = 16 ∨ F.W = 32) ∧ F.H = F.W ∧ G.W = F.W ∧ G.H = F.W ∧ TP w' w.heap.size p k ∧ k ≤ 100 ∧ Below w.heap.size w w'

set_option maxRecDepth 100000 in
set_option maxHeartbeats 1000000 in
theorem two_at (v : Value) (x : Int) (w : World) (hv : RI w v) (hx : headIs w v x) : Calls Try.prog 21 #[v] w (TwoAt x w) := by
  have HV := Lib.hid hv
  have HX := Lib.hid hx
  clear hx
  obtain ⟨ao, n, c, rfl, _⟩ := hv
  go_enter Try.func21, Try.ntmps21
  go_wp2_with fail
  obtain ⟨w0, hw0⟩ : ∃ w0, w0 = ((w.alloc (.cells #[.int .i64 0, .int .i64 0, .slice none 0 0, .slice none 0 0, .slice none 0 0] 26)).alloc (.cells #[.int .i64 0, .int .i64 0, .slice none 0 0, .slice none 0 0, .slice none 0 0] 26)).alloc (.cells #[.slice ao n c, .int .i64 0] 61) := ⟨_, rfl⟩
  rw [← hw0]
  have s0 : w0.heap.size = w.heap.size + 3 := by rw [hw0]; simp
  have x00 : w0.cell? ⟨w.heap.size, 0, none⟩ = some (.int .i64 0) := by rw [hw0]; simp [go_sem]
  have x01 : w0.cell? ⟨w.heap.size, 1, none⟩ = some (.int .i64 0) := by rw [hw0]; simp [go_sem]
  have x02 : w0.cell? ⟨w.heap.size, 2, none⟩ = some (.slice none 0 0) := by rw [hw0]; simp [go_sem]
  have x03 : w0.cell? ⟨w.heap.size, 3, none⟩ = some (.slice none 0 0) := by rw [hw0]; simp [go_sem]
  have x04 : w0.cell? ⟨w.heap.size, 4, none⟩ = some (.slice none 0 0) := by rw [hw0]; simp [go_sem]
  have x10 : w0.cell? ⟨w.heap.size + 1, 0, none⟩ = some (.int .i64 0) := by rw [hw0]; simp [go_sem]
  have x11 : w0.cell? ⟨w.heap.size + 1, 1, none⟩ = some (.int .i64 0) := by rw [hw0]; simp [go_sem]
  have x12 : w0.cell? ⟨w.heap.size + 1, 2, none⟩ = some (.slice none 0 0) := by rw [hw0]; simp [go_sem]
  have x13 : w0.cell? ⟨w.heap.size + 1, 3, none⟩ = some (.slice none 0 0) := by rw [hw0]; simp [go_sem]
  have x14 : w0.cell? ⟨w.heap.size + 1, 4, none⟩ = some (.slice none 0 0) := by rw [hw0]; simp [go_sem]
  have z0 : ∀ o, w0.frozen? ⟨w.heap.size, o, none⟩ = false := fun o => by rw [hw0]; simp [go_sem]
  have z1 : ∀ o, w0.frozen? ⟨w.heap.size + 1, o, none⟩ = false := fun o => by rw [hw0]; simp [go_sem]
  have hB : Below w.heap.size w w0 := by rw [hw0]; go_grown
  have hT : TP w0 w.heap.size (w.heap.size + 1 + 1) 0 := TP.start HV.out (by omega) (by omega) hB (by rw [hw0]; simp [go_sem]) (by rw [hw0]; simp [go_sem]) (by rw [hw0]; simp [go_sem])
  have q00 : w0.cell? ⟨w.heap.size + 1 + 1, 0, none⟩ = some (.slice ao n c) := by rw [hw0]; simp [go_sem]
  have HB := Lib.hid hB
  clear hB hw0
  have key : Calls Try.prog 30 #[.pointer (some ⟨w.heap.size + 1 + 1, 0, none⟩), .int .i64 2] w0 (NextAt w0 w.heap.size (w.heap.size + 1 + 1) 0 2 x) := by
    have hT' := hT
    obtain ⟨_, _, ao', m, c', c0, c1, hf, hmc, hm, hxs⟩ := hT'
    obtain ⟨ao2, n2, c2, e2, hd⟩ := HX.out
    have e3 : w0.cell? ⟨w.heap.size + 1 + 1, 0, none⟩ = some (.slice ao n c) := q00
    rw [e3] at c0
    simp only [Option.some.injEq, Value.slice.injEq] at c0 e2
    obtain ⟨rfl, rfl, rfl⟩ := c0
    obtain ⟨rfl, rfl, rfl⟩ := e2
    rcases hd with ⟨h0, rfl⟩ | ⟨hn, b, o, rfl, hc⟩
    · exact next_out2 _ _ 0 _ _ _ 2 w0 hT (by omega) (by omega) (by omega) hm hmc e3 c1 hf (by omega)
    · exact next_in2 _ _ 0 _ _ b o x 2 w0 hT (by omega) (by omega) (by omega) hm hmc e3 c1 hf hn (by have := (HB.out.cell (p := ⟨b, o, none⟩) (block_lt_of_cell hc)).trans hc; simpa using this)
  refine key.mono ?_
  clear key
  rintro e w1 ⟨rfl, r0, r1, hT1, hg1⟩
  obtain ⟨r, hrr⟩ : ∃ r, r = (x.tmod 2 + 2) % 2 := ⟨_, rfl⟩
  rw [← hrr] at r0 r1 ⊢
  have HRR := Lib.hid hrr
  clear hrr q00
  replace x00 := only_cell hg1 x00 (by omega)
  replace x01 := only_cell hg1 x01 (by omega)
  replace x02 := only_cell hg1 x02 (by omega)
  replace x03 := only_cell hg1 x03 (by omega)
  replace x04 := only_cell hg1 x04 (by omega)
  replace x10 := only_cell hg1 x10 (by omega)
  replace x11 := only_cell hg1 x11 (by omega)
  replace x12 := only_cell hg1 x12 (by omega)
  replace x13 := only_cell hg1 x13 (by omega)
  replace x14 := only_cell hg1 x14 (by omega)
  replace z0 := fun o => only_frozen hg1 (by omega) (z0 o) (by omega)
  replace z1 := fun o => only_frozen hg1 (by omega) (z1 o) (by omega)
  have s1 := hg1.size
  have HG1 := Lib.hid hg1
  have HT1 := Lib.hid hT1
  clear hg1 hT hT1
  go_wp2_with fail
  have hok : okSize (16 + 16 * r) (16 + 16 * r) = true := by
    rcases (show r = 0 ∨ r = 1 by omega) with rfl | rfl <;> decide
  have hW : 16 + 16 * r = 16 ∨ 16 + 16 * r = 32 := by omega
  have hsz' : 16 + 16 * r = 16 + 16 * ((x.tmod 2 + 2) % 2) := by rw [HRR.out]
  have HO := Lib.hid (And.intro hok (And.intro hW hsz'))
  clear hok hW hsz'
  obtain ⟨sz, hsz⟩ : ∃ sz, sz = 16 + 16 * r := ⟨_, rfl⟩
  rw [← hsz] at HO ⊢
  clear hsz
  refine (picture_any _ _ _ sz _ HT1.out (by omega) HO.out.1).mono ?_
  rintro e w2 ⟨v, F, k2, rfl, o2, f2, f3, f4, hT2, hk2, hg2⟩
  replace x00 := only_cell hg2 x00 (by omega)
  replace x01 := only_cell hg2 x01 (by omega)
  replace x02 := only_cell hg2 x02 (by omega)
  replace x03 := only_cell hg2 x03 (by omega)
  replace x04 := only_cell hg2 x04 (by omega)
  replace x10 := only_cell hg2 x10 (by omega)
  replace x11 := only_cell hg2 x11 (by omega)
  replace x12 := only_cell hg2 x12 (by omega)
  replace x13 := only_cell hg2 x13 (by omega)
  replace x14 := only_cell hg2 x14 (by omega)
  replace z0 := fun o => only_frozen hg2 (by omega) (z0 o) (by omega)
  replace z1 := fun o => only_frozen hg2 (by omega) (z1 o) (by omega)
  have s2 := hg2.size
  have HG2 := Lib.hid (only_trans HG1.out hg2)
  have HT2 := Lib.hid hT2
  have HF := Lib.hid (And.intro o2 (And.intro f2 (And.intro f3 f4)))
  clear hg2 hT2 o2 f2 f3 f4
  go_wp2_with fail
  refine (picture_any _ _ _ sz _ HT2.out (by omega) HO.out.1).mono ?_
  rintro e w3 ⟨u, G, k3, rfl, o3, f2, f3, f4, hT3, hk3, hg3⟩
  replace x00 := only_cell hg3 x00 (by omega)
  replace x01 := only_cell hg3 x01 (by omega)
  replace x02 := only_cell hg3 x02 (by omega)
  replace x03 := only_cell hg3 x03 (by omega)
  replace x04 := only_cell hg3 x04 (by omega)
  replace x10 := only_cell hg3 x10 (by omega)
  replace x11 := only_cell hg3 x11 (by omega)
  replace x12 := only_cell hg3 x12 (by omega)
  replace x13 := only_cell hg3 x13 (by omega)
  replace x14 := only_cell hg3 x14 (by omega)
  replace z0 := fun o => only_frozen hg3 (by omega) (z0 o) (by omega)
  replace z1 := fun o => only_frozen hg3 (by omega) (z1 o) (by omega)
  have s3 := hg3.size
  have hg4 := only_trans HG2.out hg3
  have hB3 : Below w.heap.size w w3 := HB.out.trans (only_below hg4 (by omega) (by omega))
  have o2 : OwnFr w3 (w.heap.size + 3) v F := (HF.out.1.only hg3 (by omega)).mono (by omega)
  replace o3 : OwnFr w3 (w.heap.size + 3) u G := o3.mono (by omega)
  have HR := Lib.hid (And.intro o2 (And.intro o3 (And.intro f2 (And.intro f3 (And.intro f4 (And.intro hT3 (And.intro hg4 hB3)))))))
  obtain ⟨a1, a2, a3, rfl, _⟩ := o2
  obtain ⟨b1, b2, b3, rfl, _⟩ := o3
  clear hg3 hT3 f2 f3 f4 hg4 hB3
  go_wp2_with fail
  refine bodyPost_ret (v := .tuple #[.agg #[.int .i64 F.W, .int .i64 F.H, .slice (some ⟨a1, 0, none⟩) F.nY F.nY, .slice (some ⟨a2, 0, none⟩) F.nU F.nU, .slice (some ⟨a3, 0, none⟩) F.nV F.nV],
    .agg #[.int .i64 G.W, .int .i64 G.H, .slice (some ⟨b1, 0, none⟩) G.nY G.nY, .slice (some ⟨b2, 0, none⟩) G.nU G.nU, .slice (some ⟨b3, 0, none⟩) G.nV G.nV], .pointer (some ⟨w.heap.size + 1 + 1, 0, none⟩)])
    (by simp [results, Try.results21, go_sem, x00, x01, x02, x03, x04, x10, x11, x12, x13, x14]) rfl ?_
  obtain ⟨o2, o3, g2, g3, g4, hT3, hg4, hB3⟩ := HR.out
  obtain ⟨f1, f2, f3⟩ := HF.out.2
  have hsz := HO.out.2.1
  have hse := HO.out.2.2
  exact ⟨_, _, F, G, _, k3, rfl, ((o2.put5 (b := w.heap.size) (by omega) _ _ _ _ _).put5 (b := w.heap.size + 1) (by omega) _ _ _ _ _).mono (by omega),
    ((o3.put5 (b := w.heap.size) (by omega) _ _ _ _ _).put5 (b := w.heap.size + 1) (by omega) _ _ _ _ _).mono (by omega),
    by omega, f1, g2, by omega, by omega, by omega, by omega, (hT3.put5 (b := w.heap.size) (by omega) (by omega) _ _ _ _ _).put5 (b := w.heap.size + 1) (by omega) (by omega) _ _ _ _ _, by omega,
    below_put5 (below_put5 hB3 (b := w.heap.size) (by omega) _ _ _ _ _) (b := w.heap.size + 1) (by omega) _ _ _ _ _⟩

end Go.Proofs.Ytnnobdcbmagbaaa
