/- The contract of the tape's Next: a number below the limit; the tape's place moves on. -/
import Derived.Test.YtnnobdcbmagbaaaO
import Derived.Deep.Light
namespace Go.Proofs.Ytnnobdcbmagbaaa
open Go.RowKit
set_option linter.unusedVariables false

/-- Block p holds a tape at place k: its list reads in the blocks below B. -/
def TP (w : World) (B p k : Nat) : Prop := B ≤ p ∧ p < w.heap.size ∧ ∃ ao n c, w.cell? ⟨p, 0, none⟩ = some (.slice ao n c) ∧ w.cell? ⟨p, 1, none⟩ = some (.int .i64 (k : Int)) ∧ w.frozen? ⟨p, 1, none⟩ = false ∧ n ≤ c ∧ n ≤ 9223372036854775807 ∧
  ∀ i, i < n → ∃ b o x, ao = some ⟨b, o, none⟩ ∧ b < B ∧ w.cell? ⟨b, o + i, none⟩ = some (.int .i64 x)

theorem only_drew {w w' : World} {r : Option Nat} (h : w.grownBy w' r) : w.grownBy w'.drew r := ⟨h.os, h.tape, h.output, h.size, h.block⟩

theorem tmod_bd (v n : Int) (h : 1 ≤ n) : -n < v.tmod n ∧ v.tmod n < n := by
  rcases Int.le_total 0 v with h0 | h0
  · rw [Int.tmod_eq_emod_of_nonneg h0]
    have := Int.emod_nonneg v (show n ≠ 0 by omega)
    have := Int.emod_lt_of_pos v (show 0 < n by omega)
    omega
  · have e : v.tmod n = -((-v).tmod n) := by rw [Int.neg_tmod]; omega
    rw [e, Int.tmod_eq_emod_of_nonneg (show 0 ≤ -v by omega)]
    have := Int.emod_nonneg (-v) (show n ≠ 0 by omega)
    have := Int.emod_lt_of_pos (-v) (show 0 < n by omega)
    omega

def NextPost (w : World) (B p k : Nat) (n : Int) (e : Ending) (w' : World) : Prop := ∃ r : Int, e = .returned (.int .i64 r) ∧ 0 ≤ r ∧ r < n ∧ TP w' B p (k + 1) ∧ w.grownBy w' (some p)

theorem next_post {w w' : World} {B p k : Nat} {n v r : Int} (hr : r = (v.tmod n + n) % n) (hn : 1 ≤ n) (ht : TP w B p k) (hg : w.grownBy w' (some p)) (h1 : w'.cell? ⟨p, 1, none⟩ = some (.int .i64 ((k : Int) + 1))) (h0 : w'.cell? ⟨p, 0, none⟩ = w.cell? ⟨p, 0, none⟩) (hf : w'.frozen? ⟨p, 1, none⟩ = false) :
    NextPost w B p k n (.returned (.int .i64 r)) w' := by
  subst hr
  refine ⟨_, rfl, Int.emod_nonneg _ (by omega), Int.emod_lt_of_pos _ (by omega), ?_, hg⟩
  obtain ⟨hB, hs, ao, m, c, c0, _, _, hm, hm2, hx⟩ := ht
  refine ⟨hB, Nat.lt_of_lt_of_le hs hg.size, ao, m, c, h0.trans c0, h1, hf, hm, hm2, fun i hi => ?_⟩
  obtain ⟨b, o, x, e, hb, hc⟩ := hx i hi
  exact ⟨b, o, x, e, hb, only_cell hg hc (by omega)⟩

set_option maxRecDepth 100000 in
set_option maxHeartbeats 1000000 in
theorem next_in (B p k m c : Nat) (b o : Nat) (x : Int) (n : Int) (w : World) (ht : TP w B p k) (hk : k < 1000000) (h1 : 1 ≤ n) (h2 : n ≤ 1000000) (hm : m ≤ 9223372036854775807) (hmc : m ≤ c)
    (c0 : w.cell? ⟨p, 0, none⟩ = some (.slice (some ⟨b, o, none⟩) m c)) (c1 : w.cell? ⟨p, 1, none⟩ = some (.int .i64 (k : Int))) (hf : w.frozen? ⟨p, 1, none⟩ = false) (hlt : k < m) (hx : w.cell? ⟨b, o + k, none⟩ = some (.int .i64 x)) :
    Calls Try.prog 30 #[.pointer (some ⟨p, 0, none⟩), .int .i64 n] w (NextPost w B p k n) := by
  have HT := Lib.hid ht
  clear ht
  have t1 := tmod_bd x n h1
  have e1 := IntWalk.i64_in (x.tmod n + n) (by omega)
  have e2 : 0 ≤ x.tmod n + n := by omega
  go_enter Try.func30, Try.ntmps30
  go_wp2_with fail
  refine Plan.wp_region_plan (fun w' => w'.cell? ⟨p, 0, none⟩ = some (.slice (some ⟨b, o, none⟩) m c) ∧ w'.cell? ⟨p, 1, none⟩ = some (.int .i64 (k : Int))) (([0, 1, 2, 3, 4, 5, 6, 7, 8, 9].map (·, true))) (by kernel_rfl) (by kernel_rfl) (by kernel_rfl) ⟨c0, c1⟩ ?_
  refine' Plan.plan_seg _ [0, 1, 2, 3, 4, 5, 6, 7, 8, 9] ([]) (by kernel_rfl) (by kernel_rfl) rfl (by exact ⟨c0, c1⟩) (fun wx hS => ?_) ?_
  rotate_left
  · obtain ⟨s0, s1⟩ := hS
    go_light
    iterate 10 (apply Plan.seg_pick; rfl; intro K hK; go_wp)
    exact Plan.seg_nil
  refine Plan.plan_done ?_
  go_wp2_with fail
  refine Plan.wp_region_plan (fun w' => w'.cell? ⟨p, 0, none⟩ = some (.slice (some ⟨b, o, none⟩) m c) ∧ w'.cell? ⟨p, 1, none⟩ = some (.int .i64 (k : Int)) ∧ w'.cell? ⟨b, o + k, none⟩ = some (.int .i64 x)) (([0, 1, 2, 3, 4, 5, 6, 7, 8, 9, 10].map (·, true))) (by kernel_rfl) (by kernel_rfl) (by kernel_rfl) ⟨c0, c1, hx⟩ ?_
  refine' Plan.plan_seg _ [0, 1, 2, 3, 4, 5, 6, 7, 8, 9, 10] ([]) (by kernel_rfl) (by kernel_rfl) rfl (by exact ⟨c0, c1, hx⟩) (fun wx hS => ?_) ?_
  rotate_left
  · obtain ⟨s0, s1, s2⟩ := hS
    go_light
    iterate 11 (apply Plan.seg_pick; rfl; intro K hK; go_wp)
    exact Plan.seg_nil
  refine Plan.plan_done ?_
  go_wp2_with fail
  go_ret
  refine next_post (v := x) ?_ h1 HT.out ?_ ?_ ?_ ?_
  · rfl
  · exact only_drew (only_drew (only_store (only_refl _ _) _ _))
  · simp [go_sem, c1, World.cell?_drew]
  · simp [go_sem, c0, World.cell?_drew]
  · simp [go_sem, hf]

set_option maxRecDepth 100000 in
set_option maxHeartbeats 1000000 in
theorem next_out (B p k m c : Nat) (ao : Option Addr) (n : Int) (w : World) (ht : TP w B p k) (hk : k < 1000000) (h1 : 1 ≤ n) (h2 : n ≤ 1000000) (hm : m ≤ 9223372036854775807) (hmc : m ≤ c)
    (c0 : w.cell? ⟨p, 0, none⟩ = some (.slice ao m c)) (c1 : w.cell? ⟨p, 1, none⟩ = some (.int .i64 (k : Int))) (hf : w.frozen? ⟨p, 1, none⟩ = false) (hlt : m ≤ k) :
    Calls Try.prog 30 #[.pointer (some ⟨p, 0, none⟩), .int .i64 n] w (NextPost w B p k n) := by
  have HT := Lib.hid ht
  clear ht
  have q0 := Int.emod_nonneg ((k : Int) * 7 + 3) (show n ≠ 0 by omega)
  have q1 := Int.emod_lt_of_pos ((k : Int) * 7 + 3) (show 0 < n by omega)
  go_enter Try.func30, Try.ntmps30
  go_wp2_with fail
  refine Plan.wp_region_plan (fun w' => w'.cell? ⟨p, 0, none⟩ = some (.slice ao m c) ∧ w'.cell? ⟨p, 1, none⟩ = some (.int .i64 (k : Int))) (([0, 1, 2, 3, 4, 5, 6, 7, 8, 9].map (·, true))) (by kernel_rfl) (by kernel_rfl) (by kernel_rfl) ⟨c0, c1⟩ ?_
  refine' Plan.plan_seg _ [0, 1, 2, 3, 4, 5, 6, 7, 8, 9] ([]) (by kernel_rfl) (by kernel_rfl) rfl (by exact ⟨c0, c1⟩) (fun wx hS => ?_) ?_
  rotate_left
  · obtain ⟨s0, s1⟩ := hS
    go_light
    iterate 10 (apply Plan.seg_pick; rfl; intro K hK; go_wp)
    exact Plan.seg_nil
  refine Plan.plan_done ?_
  go_wp2_with fail
  go_ret
  refine next_post (v := ((k : Int) * 7 + 3)) ?_ h1 HT.out ?_ ?_ ?_ ?_
  · rw [Int.tmod_eq_emod_of_nonneg (show (0 : Int) ≤ (k : Int) * 7 + 3 by omega)]
  · exact only_drew (only_store (only_refl _ _) _ _)
  · simp [go_sem, c1, World.cell?_drew]
  · simp [go_sem, c0, World.cell?_drew]
  · simp [go_sem, hf]


theorem next_any (B p k : Nat) (n : Int) (w : World) (ht : TP w B p k) (hk : k < 1000000) (h1 : 1 ≤ n) (h2 : n ≤ 1000000) :
    Calls Try.prog 30 #[.pointer (some ⟨p, 0, none⟩), .int .i64 n] w (NextPost w B p k n) := by
  have ht' := ht
  obtain ⟨hB, hs, ao, m, c, c0, c1, hf, hmc, hm, hx⟩ := ht
  by_cases hlt : k < m
  · obtain ⟨b, o, x, rfl, hb, hc⟩ := hx k hlt
    exact next_in B p k m c b o x n w ht' hk h1 h2 hm hmc c0 c1 hf hlt hc
  · exact next_out B p k m c ao n w ht' hk h1 h2 hm hmc c0 c1 hf (by omega)

end Go.Proofs.Ytnnobdcbmagbaaa
