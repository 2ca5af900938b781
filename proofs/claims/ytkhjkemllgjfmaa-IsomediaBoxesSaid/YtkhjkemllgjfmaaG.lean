/- The contract of cutroomlaw18.IsomediaBoxes: it answers true. -/
import Derived.Test.YtkhjkemllgjfmaaF
namespace Go.Proofs.Ytkhjkemllgjfmaa
open Go.RowKit
set_option linter.unusedVariables false

/-- Two slices of boxes that hold the same. -/
def Same4 (w : World) (n : Nat) (a1 a2 : Option Addr) : Prop := ∀ i, i < n → ∃ g1 g2 s0 x1 x2 x3, a1 = some ⟨g1, 0, none⟩ ∧ a2 = some ⟨g2, 0, none⟩ ∧
  w.cell? ⟨g1, i * 4, none⟩ = some (.string s0) ∧ w.cell? ⟨g1, i * 4 + 1, none⟩ = some (.int .i64 x1) ∧ w.cell? ⟨g1, i * 4 + 2, none⟩ = some (.int .i64 x2) ∧ w.cell? ⟨g1, i * 4 + 3, none⟩ = some (.int .i64 x3) ∧
  w.cell? ⟨g2, i * 4, none⟩ = some (.string s0) ∧ w.cell? ⟨g2, i * 4 + 1, none⟩ = some (.int .i64 x1) ∧ w.cell? ⟨g2, i * 4 + 2, none⟩ = some (.int .i64 x2) ∧ w.cell? ⟨g2, i * 4 + 3, none⟩ = some (.int .i64 x3)

theorem both (w w1 w2 : World) (f : Nat → Int) (n : Nat) (fr to : Int) (e1 e2 : Ending) (hn : n ≤ 100000000) (h1 : BoxesPost 31 w f n fr to e1 w1) (h2 : BoxesPost 32 w1 f n fr to e2 w2) :
    ∃ c m a1 c1 a2 c2, e1 = .returned (.tuple #[.slice a1 m c1, .int .i64 c]) ∧ e2 = .returned (.tuple #[.slice a2 m c2, .int .i64 c]) ∧ m ≤ 100000000 ∧ Below w.heap.size w w1 ∧ Below w1.heap.size w1 w2 ∧ Same4 w2 m a1 a2 := by
  obtain ⟨v, c, rfl, hb, hr⟩ := h1
  obtain ⟨v', c', rfl, hb', hr'⟩ := h2
  by_cases hbad : fr < 0 ∨ to < fr ∨ (n : Int) < to
  · rw [if_pos hbad] at hr hr'
    obtain ⟨rfl, rfl⟩ := hr
    obtain ⟨rfl, rfl⟩ := hr'
    exact ⟨_, _, _, _, _, _, rfl, rfl, Nat.zero_le _, hb, hb', fun i hi => absurd hi (Nat.not_lt_zero i)⟩
  · rw [if_neg hbad] at hr hr'
    obtain ⟨k, hw, hg, hc, hz, ho⟩ := hr
    obtain ⟨k', hw', hg', hc', hz', ho'⟩ := hr'
    obtain rfl := hw.unique hw' hg hg'
    obtain rfl : c' = c := by rw [hc, hc']
    by_cases h0 : c' = 0
    · have r1 := owns_below (ho h0) hb'
      have r2 := ho' h0
      have hk : k ≤ 100000000 := by have := (hw.le (by omega)); omega
      rcases Nat.eq_zero_or_pos k with hk0 | hk0
      · subst hk0
        have s1 : ∃ a m, v = .slice a 0 m := by
          rcases r1.2 with ⟨rfl, _⟩ | ⟨g, cap, cur, rfl, _⟩
          · exact ⟨_, _, rfl⟩
          · exact ⟨_, _, rfl⟩
        have s2 : ∃ a m, v' = .slice a 0 m := by
          rcases r2.2 with ⟨rfl, _⟩ | ⟨g, cap, cur, rfl, _⟩
          · exact ⟨_, _, rfl⟩
          · exact ⟨_, _, rfl⟩
        obtain ⟨a1, m1, rfl⟩ := s1
        obtain ⟨a2, m2, rfl⟩ := s2
        exact ⟨_, _, _, _, _, _, rfl, rfl, Nat.zero_le _, hb, hb', fun i hi => absurd hi (Nat.not_lt_zero i)⟩
      · obtain ⟨g1, c1, rfl, _, H1⟩ := owns_open r1 hk0
        obtain ⟨g2, c2, rfl, _, H2⟩ := owns_open r2 hk0
        refine ⟨_, _, _, _, _, _, rfl, rfl, hk, hb, hb', fun i hi => ⟨g1, g2, _, _, _, _, rfl, rfl, H1 _ _ (rowsV_at f _ k i 0 hi (by omega)), H1 _ _ (rowsV_at f _ k i 1 hi (by omega)), H1 _ _ (rowsV_at f _ k i 2 hi (by omega)), H1 _ _ (rowsV_at f _ k i 3 hi (by omega)),
          H2 _ _ (rowsV_at f _ k i 0 hi (by omega)), H2 _ _ (rowsV_at f _ k i 1 hi (by omega)), H2 _ _ (rowsV_at f _ k i 2 hi (by omega)), H2 _ _ (rowsV_at f _ k i 3 hi (by omega))⟩⟩
    · obtain rfl := hz h0
      obtain rfl := hz' h0
      exact ⟨_, _, _, _, _, _, rfl, rfl, Nat.zero_le _, hb, hb', fun i hi => absurd hi (Nat.not_lt_zero i)⟩

set_option maxRecDepth 100000 in
set_option maxHeartbeats 4000000 in
theorem law_boxes (v : Value) (n : Nat) (f : Nat → Int) (fr to : Int) (w : World) (hv : BA w v n f) (hm : n ≤ 9223372036854775807) :
    Calls Try.prog 3 #[v, .int .i64 fr, .int .i64 to] w fun e w' => e = .returned (.bool true) ∧ Below w.heap.size w w' := by
  have HV := Lib.hid hv
  obtain ⟨ao, c, rfl, hc, _⟩ := hv
  by_cases hbig : 1000 < n
  · have hbd : decide (1000 < n) = true := by simpa using hbig
    have hbz : (1000 : Int) < (n : Int) := by omega
    go_enter Try.func3, Try.ntmps3
    go_wp2_with fail
    go_ret
    exact ⟨rfl, Below.refl _ _⟩
  have hbd : decide (1000 < n) = false := by simpa using hbig
  have hbz : ¬ (1000 : Int) < (n : Int) := by omega
  go_enter Try.func3, Try.ntmps3
  go_wp2_with fail
  refine (boxes_any _ n f fr to w HV.out (by omega)).mono ?_
  intro e1 w1 h1
  have h1' := h1
  obtain ⟨v1, cc, rfl, hb1, _⟩ := h1'
  have H1 := Lib.hid h1
  have HB1 := Lib.hid hb1
  have HV1 := Lib.hid (HV.out.below hb1)
  clear h1 hb1
  go_wp2_with fail
  refine (rboxes_any _ n f fr to w1 HV1.out (by omega)).mono ?_
  intro e2 w2 h2
  obtain ⟨c0, m, a1, c1, a2, c2, he1, rfl, hm0, hb1, hb2, hs⟩ := both w w1 w2 f n fr to _ e2 (by omega) H1.out h2
  simp only [Ending.returned.injEq, Value.tuple.injEq, Array.mk.injEq, List.cons.injEq, Value.int.injEq, true_and, and_true] at he1
  obtain ⟨rfl, rfl⟩ := he1
  have HB := Lib.hid (hb1.trans (hb2.mono hb1.size))
  have HS := Lib.hid hs
  clear H1 h2 hb1 hb2 hs HB1 HV HV1
  go_wp2_with fail
  go_loopw [11] (fun i wr => ∃ j : Nat, j ≤ m ∧ i = .int .i64 (j : Int) ∧ Below w2.heap.size w2 wr) (fun i _ => m - (intOf i).toNat)
  case atStart => exact ⟨0, by omega, rfl, Below.refl _ _⟩
  case round =>
    obtain ⟨i, hi, rfl, hb⟩ := hrel
    by_cases hlt : i < m
    · obtain ⟨g1, g2, s0, x1, x2, x3, rfl, rfl, p0, p1, p2, p3, q0, q1, q2, q3⟩ := HS.out i hlt
      replace p0 := (hb.cell (block_lt_of_cell p0)).trans p0
      replace p1 := (hb.cell (block_lt_of_cell p1)).trans p1
      replace p2 := (hb.cell (block_lt_of_cell p2)).trans p2
      replace p3 := (hb.cell (block_lt_of_cell p3)).trans p3
      replace q0 := (hb.cell (block_lt_of_cell q0)).trans q0
      replace q1 := (hb.cell (block_lt_of_cell q1)).trans q1
      replace q2 := (hb.cell (block_lt_of_cell q2)).trans q2
      replace q3 := (hb.cell (block_lt_of_cell q3)).trans q3
      have HBW := Lib.hid hb
      clear hb
      go_wp2_with fail
      refine Plan.wp_region_plan (fun w' => w'.cell? ⟨g1, i * 4, none⟩ = some (.string s0) ∧ w'.cell? ⟨g1, i * 4 + 1, none⟩ = some (.int .i64 x1) ∧ w'.cell? ⟨g1, i * 4 + 2, none⟩ = some (.int .i64 x2) ∧ w'.cell? ⟨g1, i * 4 + 3, none⟩ = some (.int .i64 x3) ∧ w'.cell? ⟨g2, i * 4, none⟩ = some (.string s0) ∧ w'.cell? ⟨g2, i * 4 + 1, none⟩ = some (.int .i64 x1) ∧ w'.cell? ⟨g2, i * 4 + 2, none⟩ = some (.int .i64 x2) ∧ w'.cell? ⟨g2, i * 4 + 3, none⟩ = some (.int .i64 x3)) (([0, 1, 2, 3, 4, 5, 6, 7, 8, 9, 10, 11, 12, 13, 14, 15, 16, 17, 18, 19, 20, 21, 22, 23, 24, 25, 26, 27, 28, 29, 30, 31, 32, 33, 34, 35, 36, 37, 38, 39, 40, 41, 42, 43, 44, 45, 46, 47, 48, 49].map (·, true))) (by kernel_rfl) (by kernel_rfl) (by kernel_rfl) ⟨p0, p1, p2, p3, q0, q1, q2, q3⟩ ?_
      refine' Plan.plan_seg _ [0, 1, 2, 3, 4, 5, 6, 7, 8, 9, 10, 11, 12, 13, 14, 15, 16, 17, 18, 19, 20, 21, 22, 23, 24, 25, 26, 27, 28, 29, 30, 31, 32, 33, 34, 35, 36, 37, 38, 39, 40, 41, 42, 43, 44, 45, 46, 47, 48, 49] ([]) (by kernel_rfl) (by kernel_rfl) rfl (by exact ⟨p0, p1, p2, p3, q0, q1, q2, q3⟩) (fun wx hS => ?_) ?_
      rotate_left
      · obtain ⟨y0, y1, y2, y3, y4, y5, y6, y7⟩ := hS
        go_light
        iterate 50 (apply Plan.seg_pick; rfl; intro K hK; go_wp)
        exact Plan.seg_nil
      refine Plan.plan_done ?_
      go_wp2_with fail
      go_roundw
      case rel => exact ⟨i + 1, by omega, by go_num, HBW.out.drew⟩
      case measure => simp [intOf]; omega
    · obtain rfl : i = m := by omega
      have HBW := Lib.hid hb
      clear hb
      go_wp2_with fail
      refine (awake_any _).mono ?_
      rintro e wz ⟨rfl, hb5⟩
      have HB5 := Lib.hid hb5
      clear hb5
      go_wp2_with fail
      go_ret
      exact ⟨rfl, HB.out.trans ((HBW.out.trans (HB5.out.mono HBW.out.size)).mono HB.out.size)⟩

end Go.Proofs.Ytkhjkemllgjfmaa
