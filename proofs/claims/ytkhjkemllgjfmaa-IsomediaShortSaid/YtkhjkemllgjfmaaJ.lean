/- The contracts of validTrack, both. -/
import Derived.Test.YtkhjkemllgjfmaaH
namespace Go.Proofs.Ytkhjkemllgjfmaa
open Go.RowKit
set_option linter.unusedVariables false

/-- n lies from lo to hi. -/
def wB (n lo hi : Int) : Bool := decide (lo ≤ n ∧ n ≤ hi)
set_option maxHeartbeats 400000 in
theorem within_any (n lo hi : Int) (w : World) : Calls Try.prog 46 #[.int .i64 n, .int .i64 lo, .int .i64 hi] w fun e w' => e = .returned (.bool (wB n lo hi)) ∧ w = w' := by
  go_enter Try.func46, Try.ntmps46
  go_wp2
  all_goals go_ret
  all_goals exact ⟨ret_bool (by unfold wB; rw [Bool.eq_iff_iff]; simp; try omega), rfl⟩
set_option maxHeartbeats 400000 in
theorem rwithin_any (n lo hi : Int) (w : World) : Calls Try.prog 36 #[.int .i64 n, .int .i64 lo, .int .i64 hi] w fun e w' => e = .returned (.bool (wB n lo hi)) ∧ w = w' := by
  go_enter Try.func36, Try.ntmps36
  go_wp2
  all_goals go_ret
  all_goals exact ⟨ret_bool (by unfold wB; rw [Bool.eq_iff_iff]; simp; try omega), rfl⟩
theorem wB_no {n lo hi : Int} (h : wB n lo hi = false) : ¬ (lo ≤ n ∧ n ≤ hi) := by simpa [wB] using h
theorem wB_yes {n lo hi : Int} (h : wB n lo hi = true) : lo ≤ n ∧ n ≤ hi := by simpa [wB] using h

theorem okTr_head {T : Tr} (h : ¬ (T.h.size = 4 ∧ 1 ≤ T.sc ∧ T.sc ≤ 16777216 ∧ T.nC ≤ 4096 ∧ T.nS ≤ 4096 ∧ T.nE ≤ 64)) : okTr T = false := by
  unfold okTr; rw [show decide (T.h.size = 4 ∧ 1 ≤ T.sc ∧ T.sc ≤ 16777216 ∧ T.nC ≤ 4096 ∧ T.nS ≤ 4096 ∧ T.nE ≤ 64) = false by simpa using h]; simp
theorem okTr_sm {T : Tr} {i : Nat} (hi : i < T.nS) (h : okSm (T.S i) = false) : okTr T = false := by
  unfold okTr; rw [all_range_no hi h]; simp
theorem okTr_ed {T : Tr} {i : Nat} (hi : i < T.nE) (h : okEd (T.E i) = false) : okTr T = false := by
  unfold okTr; rw [all_range_no hi h]; simp
theorem okSm_no {s : Sm} (h : ¬ (s.n ≤ 1048576 ∧ 0 ≤ s.dur ∧ s.dur ≤ 16777216 ∧ 0 ≤ s.shift ∧ s.shift ≤ 16777216)) : okSm s = false := by unfold okSm; simpa using h
theorem okEd_no {s : Ed} (h : ¬ (0 ≤ s.dur ∧ s.dur ≤ 2147483647 ∧ -1 ≤ s.time ∧ s.time ≤ 2147483647)) : okEd s = false := by unfold okEd; simpa using h

set_option maxRecDepth 100000 in
set_option maxHeartbeats 4000000 in
theorem valid_any (v : Value) (T : Tr) (w : World) (hv : TA w v T) :
    Calls Try.prog 31 #[v] w fun e w' => e = .returned (.bool (okTr T)) ∧ Below w.heap.size w w' := by
  obtain ⟨c0, c1, c2, c3, c4, rfl, rfl, rfl, b2, b3, b4⟩ := hv
  obtain ⟨a2, d2, rfl⟩ := b2.shape
  obtain ⟨a3, d3, rfl⟩ := b3.shape
  obtain ⟨a4, d4, rfl⟩ := b4.shape
  have HB3 := Lib.hid b3
  have HB4 := Lib.hid b4
  clear b2 b3 b4
  by_cases q1 : ¬ T.h.size = 4
  · have HL := Lib.hid (okTr_head (T := T) (by omega))
    have k1 : ((T.h.size : Int) == 4) = false := by simp; omega
    have k1' : ((T.h.size : Int) != 4) = true := by simp; omega
    go_enter Try.func31, Try.ntmps31
    go_wp2_with (go_at_call 46; refine (within_any _ _ _ _).mono ?_; rintro e w' ⟨rfl, rfl⟩)
    go_ret
    exact ⟨ret_bool HL.out.symm, below_box _ _⟩
  have q1' : T.h.size = 4 := by omega
  have k1 : ((T.h.size : Int) == 4) = true := by simp; omega
  have k1' : ((T.h.size : Int) != 4) = false := by simp; omega
  have HQ1 := Lib.hid q1'
  clear q1 q1'
  cases q2 : wB T.sc 1 16777216
  · have HL := Lib.hid (okTr_head (T := T) (by have := wB_no q2; omega))
    go_enter Try.func31, Try.ntmps31
    go_wp2_with (go_at_call 46; refine (within_any _ _ _ _).mono ?_; rintro e w' ⟨rfl, rfl⟩)
    go_ret
    exact ⟨ret_bool HL.out.symm, below_box _ _⟩
  have HQ2 := Lib.hid (wB_yes q2)
  by_cases q3 : 4096 < T.nC
  · have HL := Lib.hid (okTr_head (T := T) (by omega))
    have k3 : (4096 : Int) < (T.nC : Int) := by omega
    have k3' : decide (4096 < T.nC) = true := by simpa using q3
    go_enter Try.func31, Try.ntmps31
    go_wp2_with (go_at_call 46; refine (within_any _ _ _ _).mono ?_; rintro e w' ⟨rfl, rfl⟩)
    go_ret
    exact ⟨ret_bool HL.out.symm, below_box _ _⟩
  have k3 : ¬ (4096 : Int) < (T.nC : Int) := by omega
  have k3' : decide (4096 < T.nC) = false := by simpa using q3
  by_cases q4 : 4096 < T.nS
  · have HL := Lib.hid (okTr_head (T := T) (by omega))
    have k4 : (4096 : Int) < (T.nS : Int) := by omega
    have k4' : decide (4096 < T.nS) = true := by simpa using q4
    go_enter Try.func31, Try.ntmps31
    go_wp2_with (go_at_call 46; refine (within_any _ _ _ _).mono ?_; rintro e w' ⟨rfl, rfl⟩)
    go_ret
    exact ⟨ret_bool HL.out.symm, below_box _ _⟩
  have k4 : ¬ (4096 : Int) < (T.nS : Int) := by omega
  have k4' : decide (4096 < T.nS) = false := by simpa using q4
  by_cases q5 : 64 < T.nE
  · have HL := Lib.hid (okTr_head (T := T) (by omega))
    have k5 : (64 : Int) < (T.nE : Int) := by omega
    have k5' : decide (64 < T.nE) = true := by simpa using q5
    go_enter Try.func31, Try.ntmps31
    go_wp2_with (go_at_call 46; refine (within_any _ _ _ _).mono ?_; rintro e w' ⟨rfl, rfl⟩)
    go_ret
    exact ⟨ret_bool HL.out.symm, below_box _ _⟩
  have k5 : ¬ (64 : Int) < (T.nE : Int) := by omega
  have k5' : decide (64 < T.nE) = false := by simpa using q5
  go_enter Try.func31, Try.ntmps31
  go_wp2_with (go_at_call 46; refine (within_any _ _ _ _).mono ?_; rintro e w' ⟨rfl, rfl⟩)
  obtain ⟨w1, hw⟩ : ∃ x, x = w.alloc (.cells #[.string T.h, .int .i64 T.sc, .slice a2 T.nC d2, .slice a3 T.nS d3, .slice a4 T.nE d4] 43) := ⟨_, rfl⟩
  rw [← hw]
  have hE : Below w.heap.size w w1 := by rw [hw]; exact below_box _ _
  have y3 : w1.cell? ⟨w.heap.size, 3, none⟩ = some (.slice a3 T.nS d3) := by rw [hw]; simp [go_sem]
  have y4 : w1.cell? ⟨w.heap.size, 4, none⟩ = some (.slice a4 T.nE d4) := by rw [hw]; simp [go_sem]
  have hs1 : w.heap.size < w1.heap.size := by rw [hw]; simp
  have HB := Lib.hid hE
  clear hw hE
  go_loopw [38] (fun i wr => ∃ k : Nat, k ≤ T.nS ∧ i = .int .i64 (k : Int) ∧ Below w1.heap.size w1 wr ∧ Hid (∀ i, i < k → okSm (T.S i) = true)) (fun i _ => T.nS - (intOf i).toNat)
  case atStart => exact ⟨0, Nat.zero_le _, rfl, Below.refl _ _, Lib.hid (fun i hi => absurd hi (Nat.not_lt_zero i))⟩
  case round =>
    obtain ⟨k, hk, rfl, hb, HA⟩ := hrel
    have z3 := (hb.cell (p := ⟨w.heap.size, 3, none⟩) hs1).trans y3
    have z4 := (hb.cell (p := ⟨w.heap.size, 4, none⟩) hs1).trans y4
    have HBW := Lib.hid hb
    have hb2 := HB.out.trans (hb.mono HB.out.size)
    have HB2 := Lib.hid hb2
    clear hb
    by_cases hlt : k < T.nS
    · have hx3 := HB3.out.below hb2
      obtain ⟨ao', c', e, hcc', H⟩ := hx3
      simp only [Value.slice.injEq, true_and] at e
      obtain ⟨rfl, rfl⟩ := e
      obtain ⟨b', o', x, rfl, h0, h1, h2, h3, hx⟩ := H k hlt
      obtain ⟨ax, dx, rfl⟩ := hx.shape
      obtain ⟨s, hs⟩ : ∃ s, s = T.S k := ⟨_, rfl⟩
      rw [← hs] at h0 h1 h2 h3
      have ES := Lib.hid hs
      clear H hx hs hb2
      by_cases p1 : 1048576 < s.n
      · have HL := Lib.hid (okTr_sm hlt (by rw [← ES.out]; exact okSm_no (by omega)))
        have p1' : (1048576 : Int) < (s.n : Int) := by omega
        have p1d : decide (1048576 < s.n) = true := by simpa using p1
        go_wp2_with (go_at_call 46; refine (within_any _ _ _ _).mono ?_; rintro e w' ⟨rfl, rfl⟩)
        go_ret
        exact ⟨ret_bool HL.out.symm, HB2.out.alloc HB2.out.size _⟩
      have p1' : ¬ (1048576 : Int) < (s.n : Int) := by omega
      have p1d : decide (1048576 < s.n) = false := by simpa using p1
      cases p2 : wB s.dur 0 16777216
      · have HL := Lib.hid (okTr_sm hlt (by rw [← ES.out]; exact okSm_no (by have := wB_no p2; omega)))
        go_wp2_with (go_at_call 46; refine (within_any _ _ _ _).mono ?_; rintro e w' ⟨rfl, rfl⟩)
        go_ret
        exact ⟨ret_bool HL.out.symm, HB2.out.alloc HB2.out.size _⟩
      have HP2 := Lib.hid (wB_yes p2)
      cases p3 : wB s.shift 0 16777216
      · have HL := Lib.hid (okTr_sm hlt (by rw [← ES.out]; exact okSm_no (by have := wB_no p3; omega)))
        go_wp2_with (go_at_call 46; refine (within_any _ _ _ _).mono ?_; rintro e w' ⟨rfl, rfl⟩)
        go_ret
        exact ⟨ret_bool HL.out.symm, HB2.out.alloc HB2.out.size _⟩
      have HP3 := Lib.hid (wB_yes p3)
      have HA2 := Lib.hid (all_step (p := fun i => okSm (T.S i)) HA.out (by
        show okSm (T.S k) = true
        rw [← ES.out]; unfold okSm; simp only [decide_eq_true_eq]
        exact ⟨by omega, HP2.out.1, HP2.out.2, HP3.out.1, HP3.out.2⟩))
      go_wp2_with (go_at_call 46; refine (within_any _ _ _ _).mono ?_; rintro e w' ⟨rfl, rfl⟩)
      go_roundw
      case rel => exact ⟨k + 1, by omega, by go_num, HBW.out.alloc HBW.out.size _, HA2⟩
      case measure => simp [intOf]; omega
    · obtain rfl : k = T.nS := by omega
      have HSA := HA
      clear hb2
      go_wp2_with (go_at_call 46; refine (within_any _ _ _ _).mono ?_; rintro e w' ⟨rfl, rfl⟩)
      obtain ⟨w2, hw2⟩ : ∃ x, x = wr := ⟨_, rfl⟩
      rw [← hw2] at z4 HBW HB2 ⊢
      have hs2 : w.heap.size < w2.heap.size := by have := HBW.out.size; omega
      clear hw2 z3 HA
      go_loopw [62] (fun i wx => ∃ k : Nat, k ≤ T.nE ∧ i = .int .i64 (k : Int) ∧ Below w2.heap.size w2 wx ∧ Hid (∀ i, i < k → okEd (T.E i) = true)) (fun i _ => T.nE - (intOf i).toNat)
      case atStart => exact ⟨0, Nat.zero_le _, rfl, Below.refl _ _, Lib.hid (fun i hi => absurd hi (Nat.not_lt_zero i))⟩
      case round =>
        obtain ⟨k, hk, rfl, hb, HA⟩ := hrel
        have u4 := (hb.cell (p := ⟨w.heap.size, 4, none⟩) hs2).trans z4
        have HBX := Lib.hid (HB2.out.trans (hb.mono HB2.out.size))
        have HBX2 := Lib.hid hb
        clear hb
        by_cases hlt : k < T.nE
        · have hx4 := HB4.out.below HBX.out
          obtain ⟨ao', c', e, hcc', H⟩ := hx4
          simp only [Value.slice.injEq, true_and] at e
          obtain ⟨rfl, rfl⟩ := e
          obtain ⟨b', o', rfl, h0, h1⟩ := H k hlt
          obtain ⟨s, hs⟩ : ∃ s, s = T.E k := ⟨_, rfl⟩
          rw [← hs] at h0 h1
          have ES := Lib.hid hs
          clear H hs
          cases p2 : wB s.dur 0 2147483647
          · have HL := Lib.hid (okTr_ed hlt (by rw [← ES.out]; exact okEd_no (by have := wB_no p2; omega)))
            go_wp2_with (go_at_call 46; refine (within_any _ _ _ _).mono ?_; rintro e w' ⟨rfl, rfl⟩)
            go_ret
            exact ⟨ret_bool HL.out.symm, HBX.out.alloc HBX.out.size _⟩
          have HP2 := Lib.hid (wB_yes p2)
          cases p3 : wB s.time (-1) 2147483647
          · have HL := Lib.hid (okTr_ed hlt (by rw [← ES.out]; exact okEd_no (by have := wB_no p3; omega)))
            go_wp2_with (go_at_call 46; refine (within_any _ _ _ _).mono ?_; rintro e w' ⟨rfl, rfl⟩)
            go_ret
            exact ⟨ret_bool HL.out.symm, HBX.out.alloc HBX.out.size _⟩
          have HP3 := Lib.hid (wB_yes p3)
          have HA2 := Lib.hid (all_step (p := fun i => okEd (T.E i)) HA.out (by
            show okEd (T.E k) = true
            rw [← ES.out]; unfold okEd; simp only [decide_eq_true_eq]
            exact ⟨HP2.out.1, HP2.out.2, HP3.out.1, HP3.out.2⟩))
          go_wp2_with (go_at_call 46; refine (within_any _ _ _ _).mono ?_; rintro e w' ⟨rfl, rfl⟩)
          go_roundw
          case rel => exact ⟨k + 1, by omega, by go_num, HBX2.out.alloc HBX2.out.size _, HA2⟩
          case measure => simp [intOf]; omega
        · obtain rfl : k = T.nE := by omega
          have HL := Lib.hid (show okTr T = true by
            unfold okTr
            simp only [Bool.and_eq_true, decide_eq_true_eq, all_range]
            exact ⟨⟨⟨HQ1.out, HQ2.out.1, HQ2.out.2, by omega, by omega, by omega⟩, HSA.out⟩, HA.out⟩)
          go_wp2_with (go_at_call 46; refine (within_any _ _ _ _).mono ?_; rintro e w' ⟨rfl, rfl⟩)
          go_ret
          exact ⟨ret_bool HL.out.symm, HBX.out⟩

set_option maxRecDepth 100000 in
set_option maxHeartbeats 4000000 in
theorem rvalid_any (v : Value) (T : Tr) (w : World) (hv : TA w v T) :
    Calls Try.prog 32 #[v] w fun e w' => e = .returned (.bool (okTr T)) ∧ Below w.heap.size w w' := by
  obtain ⟨c0, c1, c2, c3, c4, rfl, rfl, rfl, b2, b3, b4⟩ := hv
  obtain ⟨a2, d2, rfl⟩ := b2.shape
  obtain ⟨a3, d3, rfl⟩ := b3.shape
  obtain ⟨a4, d4, rfl⟩ := b4.shape
  have HB3 := Lib.hid b3
  have HB4 := Lib.hid b4
  clear b2 b3 b4
  by_cases q1 : ¬ T.h.size = 4
  · have HL := Lib.hid (okTr_head (T := T) (by omega))
    have k1 : ((T.h.size : Int) == 4) = false := by simp; omega
    have k1' : ((T.h.size : Int) != 4) = true := by simp; omega
    go_enter Try.func32, Try.ntmps32
    go_wp2_with (go_at_call 36; refine (rwithin_any _ _ _ _).mono ?_; rintro e w' ⟨rfl, rfl⟩)
    go_ret
    exact ⟨ret_bool HL.out.symm, below_box _ _⟩
  have q1' : T.h.size = 4 := by omega
  have k1 : ((T.h.size : Int) == 4) = true := by simp; omega
  have k1' : ((T.h.size : Int) != 4) = false := by simp; omega
  have HQ1 := Lib.hid q1'
  clear q1 q1'
  cases q2 : wB T.sc 1 16777216
  · have HL := Lib.hid (okTr_head (T := T) (by have := wB_no q2; omega))
    go_enter Try.func32, Try.ntmps32
    go_wp2_with (go_at_call 36; refine (rwithin_any _ _ _ _).mono ?_; rintro e w' ⟨rfl, rfl⟩)
    go_ret
    exact ⟨ret_bool HL.out.symm, below_box _ _⟩
  have HQ2 := Lib.hid (wB_yes q2)
  by_cases q3 : 4096 < T.nC
  · have HL := Lib.hid (okTr_head (T := T) (by omega))
    have k3 : (4096 : Int) < (T.nC : Int) := by omega
    have k3' : decide (4096 < T.nC) = true := by simpa using q3
    go_enter Try.func32, Try.ntmps32
    go_wp2_with (go_at_call 36; refine (rwithin_any _ _ _ _).mono ?_; rintro e w' ⟨rfl, rfl⟩)
    go_ret
    exact ⟨ret_bool HL.out.symm, below_box _ _⟩
  have k3 : ¬ (4096 : Int) < (T.nC : Int) := by omega
  have k3' : decide (4096 < T.nC) = false := by simpa using q3
  by_cases q4 : 4096 < T.nS
  · have HL := Lib.hid (okTr_head (T := T) (by omega))
    have k4 : (4096 : Int) < (T.nS : Int) := by omega
    have k4' : decide (4096 < T.nS) = true := by simpa using q4
    go_enter Try.func32, Try.ntmps32
    go_wp2_with (go_at_call 36; refine (rwithin_any _ _ _ _).mono ?_; rintro e w' ⟨rfl, rfl⟩)
    go_ret
    exact ⟨ret_bool HL.out.symm, below_box _ _⟩
  have k4 : ¬ (4096 : Int) < (T.nS : Int) := by omega
  have k4' : decide (4096 < T.nS) = false := by simpa using q4
  by_cases q5 : 64 < T.nE
  · have HL := Lib.hid (okTr_head (T := T) (by omega))
    have k5 : (64 : Int) < (T.nE : Int) := by omega
    have k5' : decide (64 < T.nE) = true := by simpa using q5
    go_enter Try.func32, Try.ntmps32
    go_wp2_with (go_at_call 36; refine (rwithin_any _ _ _ _).mono ?_; rintro e w' ⟨rfl, rfl⟩)
    go_ret
    exact ⟨ret_bool HL.out.symm, below_box _ _⟩
  have k5 : ¬ (64 : Int) < (T.nE : Int) := by omega
  have k5' : decide (64 < T.nE) = false := by simpa using q5
  go_enter Try.func32, Try.ntmps32
  go_wp2_with (go_at_call 36; refine (rwithin_any _ _ _ _).mono ?_; rintro e w' ⟨rfl, rfl⟩)
  obtain ⟨w1, hw⟩ : ∃ x, x = w.alloc (.cells #[.string T.h, .int .i64 T.sc, .slice a2 T.nC d2, .slice a3 T.nS d3, .slice a4 T.nE d4] 48) := ⟨_, rfl⟩
  rw [← hw]
  have hE : Below w.heap.size w w1 := by rw [hw]; exact below_box _ _
  have y3 : w1.cell? ⟨w.heap.size, 3, none⟩ = some (.slice a3 T.nS d3) := by rw [hw]; simp [go_sem]
  have y4 : w1.cell? ⟨w.heap.size, 4, none⟩ = some (.slice a4 T.nE d4) := by rw [hw]; simp [go_sem]
  have hs1 : w.heap.size < w1.heap.size := by rw [hw]; simp
  have HB := Lib.hid hE
  clear hw hE
  go_loopw [3] (fun i wr => ∃ k : Nat, k ≤ T.nS ∧ i = .int .i64 (k : Int) ∧ Below w1.heap.size w1 wr ∧ Hid (∀ i, i < k → okSm (T.S i) = true)) (fun i _ => T.nS - (intOf i).toNat)
  case atStart => exact ⟨0, Nat.zero_le _, rfl, Below.refl _ _, Lib.hid (fun i hi => absurd hi (Nat.not_lt_zero i))⟩
  case round =>
    obtain ⟨k, hk, rfl, hb, HA⟩ := hrel
    have z3 := (hb.cell (p := ⟨w.heap.size, 3, none⟩) hs1).trans y3
    have z4 := (hb.cell (p := ⟨w.heap.size, 4, none⟩) hs1).trans y4
    have HBW := Lib.hid hb
    have hb2 := HB.out.trans (hb.mono HB.out.size)
    have HB2 := Lib.hid hb2
    clear hb
    by_cases hlt : k < T.nS
    · have hx3 := HB3.out.below hb2
      obtain ⟨ao', c', e, hcc', H⟩ := hx3
      simp only [Value.slice.injEq, true_and] at e
      obtain ⟨rfl, rfl⟩ := e
      obtain ⟨b', o', x, rfl, h0, h1, h2, h3, hx⟩ := H k hlt
      obtain ⟨ax, dx, rfl⟩ := hx.shape
      obtain ⟨s, hs⟩ : ∃ s, s = T.S k := ⟨_, rfl⟩
      rw [← hs] at h0 h1 h2 h3
      have ES := Lib.hid hs
      clear H hx hs hb2
      by_cases p1 : 1048576 < s.n
      · have HL := Lib.hid (okTr_sm hlt (by rw [← ES.out]; exact okSm_no (by omega)))
        have p1' : (1048576 : Int) < (s.n : Int) := by omega
        have p1d : decide (1048576 < s.n) = true := by simpa using p1
        go_wp2_with (go_at_call 36; refine (rwithin_any _ _ _ _).mono ?_; rintro e w' ⟨rfl, rfl⟩)
        go_ret
        exact ⟨ret_bool HL.out.symm, HB2.out.alloc HB2.out.size _⟩
      have p1' : ¬ (1048576 : Int) < (s.n : Int) := by omega
      have p1d : decide (1048576 < s.n) = false := by simpa using p1
      cases p2 : wB s.dur 0 16777216
      · have HL := Lib.hid (okTr_sm hlt (by rw [← ES.out]; exact okSm_no (by have := wB_no p2; omega)))
        go_wp2_with (go_at_call 36; refine (rwithin_any _ _ _ _).mono ?_; rintro e w' ⟨rfl, rfl⟩)
        go_ret
        exact ⟨ret_bool HL.out.symm, HB2.out.alloc HB2.out.size _⟩
      have HP2 := Lib.hid (wB_yes p2)
      cases p3 : wB s.shift 0 16777216
      · have HL := Lib.hid (okTr_sm hlt (by rw [← ES.out]; exact okSm_no (by have := wB_no p3; omega)))
        go_wp2_with (go_at_call 36; refine (rwithin_any _ _ _ _).mono ?_; rintro e w' ⟨rfl, rfl⟩)
        go_ret
        exact ⟨ret_bool HL.out.symm, HB2.out.alloc HB2.out.size _⟩
      have HP3 := Lib.hid (wB_yes p3)
      have HA2 := Lib.hid (all_step (p := fun i => okSm (T.S i)) HA.out (by
        show okSm (T.S k) = true
        rw [← ES.out]; unfold okSm; simp only [decide_eq_true_eq]
        exact ⟨by omega, HP2.out.1, HP2.out.2, HP3.out.1, HP3.out.2⟩))
      go_wp2_with (go_at_call 36; refine (rwithin_any _ _ _ _).mono ?_; rintro e w' ⟨rfl, rfl⟩)
      go_roundw
      case rel => exact ⟨k + 1, by omega, by go_num, HBW.out.alloc HBW.out.size _, HA2⟩
      case measure => simp [intOf]; omega
    · obtain rfl : k = T.nS := by omega
      have HSA := HA
      clear hb2
      go_wp2_with (go_at_call 36; refine (rwithin_any _ _ _ _).mono ?_; rintro e w' ⟨rfl, rfl⟩)
      obtain ⟨w2, hw2⟩ : ∃ x, x = wr := ⟨_, rfl⟩
      rw [← hw2] at z4 HBW HB2 ⊢
      have hs2 : w.heap.size < w2.heap.size := by have := HBW.out.size; omega
      clear hw2 z3 HA
      go_loopw [5] (fun i wx => ∃ k : Nat, k ≤ T.nE ∧ i = .int .i64 (k : Int) ∧ Below w2.heap.size w2 wx ∧ Hid (∀ i, i < k → okEd (T.E i) = true)) (fun i _ => T.nE - (intOf i).toNat)
      case atStart => exact ⟨0, Nat.zero_le _, rfl, Below.refl _ _, Lib.hid (fun i hi => absurd hi (Nat.not_lt_zero i))⟩
      case round =>
        obtain ⟨k, hk, rfl, hb, HA⟩ := hrel
        have u4 := (hb.cell (p := ⟨w.heap.size, 4, none⟩) hs2).trans z4
        have HBX := Lib.hid (HB2.out.trans (hb.mono HB2.out.size))
        have HBX2 := Lib.hid hb
        clear hb
        by_cases hlt : k < T.nE
        · have hx4 := HB4.out.below HBX.out
          obtain ⟨ao', c', e, hcc', H⟩ := hx4
          simp only [Value.slice.injEq, true_and] at e
          obtain ⟨rfl, rfl⟩ := e
          obtain ⟨b', o', rfl, h0, h1⟩ := H k hlt
          obtain ⟨s, hs⟩ : ∃ s, s = T.E k := ⟨_, rfl⟩
          rw [← hs] at h0 h1
          have ES := Lib.hid hs
          clear H hs
          cases p2 : wB s.dur 0 2147483647
          · have HL := Lib.hid (okTr_ed hlt (by rw [← ES.out]; exact okEd_no (by have := wB_no p2; omega)))
            go_wp2_with (go_at_call 36; refine (rwithin_any _ _ _ _).mono ?_; rintro e w' ⟨rfl, rfl⟩)
            go_ret
            exact ⟨ret_bool HL.out.symm, HBX.out⟩
          have HP2 := Lib.hid (wB_yes p2)
          cases p3 : wB s.time (-1) 2147483647
          · have HL := Lib.hid (okTr_ed hlt (by rw [← ES.out]; exact okEd_no (by have := wB_no p3; omega)))
            go_wp2_with (go_at_call 36; refine (rwithin_any _ _ _ _).mono ?_; rintro e w' ⟨rfl, rfl⟩)
            go_ret
            exact ⟨ret_bool HL.out.symm, HBX.out⟩
          have HP3 := Lib.hid (wB_yes p3)
          have HA2 := Lib.hid (all_step (p := fun i => okEd (T.E i)) HA.out (by
            show okEd (T.E k) = true
            rw [← ES.out]; unfold okEd; simp only [decide_eq_true_eq]
            exact ⟨HP2.out.1, HP2.out.2, HP3.out.1, HP3.out.2⟩))
          go_wp2_with (go_at_call 36; refine (rwithin_any _ _ _ _).mono ?_; rintro e w' ⟨rfl, rfl⟩)
          go_roundw
          case rel => exact ⟨k + 1, by omega, by go_num, HBX2.out, HA2⟩
          case measure => simp [intOf]; omega
        · obtain rfl : k = T.nE := by omega
          have HL := Lib.hid (show okTr T = true by
            unfold okTr
            simp only [Bool.and_eq_true, decide_eq_true_eq, all_range]
            exact ⟨⟨⟨HQ1.out, HQ2.out.1, HQ2.out.2, by omega, by omega, by omega⟩, HSA.out⟩, HA.out⟩)
          go_wp2_with (go_at_call 36; refine (rwithin_any _ _ _ _).mono ?_; rintro e w' ⟨rfl, rfl⟩)
          go_ret
          exact ⟨ret_bool HL.out.symm, HBX.out⟩

end Go.Proofs.Ytkhjkemllgjfmaa
