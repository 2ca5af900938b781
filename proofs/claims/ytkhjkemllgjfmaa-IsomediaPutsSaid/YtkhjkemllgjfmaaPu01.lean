/- Texts of this claim joined: J K N O. -/
import Derived.Test.YtkhjkemllgjfmaaPu00
set_option linter.unusedVariables false
set_option linter.unusedSimpArgs false

/- The contracts of validTrack, both. -/
namespace Go.Proofs.Ytkhjkemllgjfmaa
open Go.RowKit
set_option linter.unusedVariables false

/-- n lies from lo to hi. -/
def wB (n lo hi : Int) : Bool := decide (lo ≤ n ∧ n ≤ hi)
set_option maxHeartbeats 400000 in
theorem within_any (n lo hi : Int) (w : World) : Calls Try.prog 46 #[.int .i64 n, .int .i64 lo, .int .i64 hi] w fun e w' => e = .returned (.bool (wB n lo hi)) ∧ w = w' := by
  go_enter Try.func46, Try.ntmps46
  go_wp2
  all_goals go_ret
  all_goals exact ⟨ret_bool (by unfold wB; rw [Bool.eq_iff_iff]; simp; try omega), rfl⟩
set_option maxHeartbeats 400000 in
theorem rwithin_any (n lo hi : Int) (w : World) : Calls Try.prog 36 #[.int .i64 n, .int .i64 lo, .int .i64 hi] w fun e w' => e = .returned (.bool (wB n lo hi)) ∧ w = w' := by
  go_enter Try.func36, Try.ntmps36
  go_wp2
  all_goals go_ret
  all_goals exact ⟨ret_bool (by unfold wB; rw [Bool.eq_iff_iff]; simp; try omega), rfl⟩
theorem wB_no {n lo hi : Int} (h : wB n lo hi = false) : ¬ (lo ≤ n ∧ n ≤ hi) := by simpa [wB] using h
theorem wB_yes {n lo hi : Int} (h : wB n lo hi = true) : lo ≤ n ∧ n ≤ hi := by simpa [wB] using h

theorem okTr_head {T : Tr} (h : ¬ (T.h.size = 4 ∧ 1 ≤ T.sc ∧ T.sc ≤ 16777216 ∧ T.nC ≤ 4096 ∧ T.nS ≤ 4096 ∧ T.nE ≤ 64)) : okTr T = false := by
  unfold okTr; rw [show decide (T.h.size = 4 ∧ 1 ≤ T.sc ∧ T.sc ≤ 16777216 ∧ T.nC ≤ 4096 ∧ T.nS ≤ 4096 ∧ T.nE ≤ 64) = false by simpa using h]; simp
theorem okTr_sm {T : Tr} {i : Nat} (hi : i < T.nS) (h : okSm (T.S i) = false) : okTr T = false := by
  unfold okTr; rw [all_range_no hi h]; simp
theorem okTr_ed {T : Tr} {i : Nat} (hi : i < T.nE) (h : okEd (T.E i) = false) : okTr T = false := by
  unfold okTr; rw [all_range_no hi h]; simp
theorem okSm_no {s : Sm} (h : ¬ (s.n ≤ 1048576 ∧ 0 ≤ s.dur ∧ s.dur ≤ 16777216 ∧ 0 ≤ s.shift ∧ s.shift ≤ 16777216)) : okSm s = false := by unfold okSm; simpa using h
theorem okEd_no {s : Ed} (h : ¬ (0 ≤ s.dur ∧ s.dur ≤ 2147483647 ∧ -1 ≤ s.time ∧ s.time ≤ 2147483647)) : okEd s = false := by unfold okEd; simpa using h

set_option maxRecDepth 100000 in
set_option maxHeartbeats 4000000 in
theorem valid_any (v : Value) (T : Tr) (w : World) (hv : TA w v T) :
    Calls Try.prog 31 #[v] w fun e w' => e = .returned (.bool (okTr T)) ∧ Below w.heap.size w w' := by
  obtain ⟨c0, c1, c2, c3, c4, rfl, rfl, rfl, b2, b3, b4⟩ := hv
  obtain ⟨a2, d2, rfl⟩ := b2.shape
  obtain ⟨a3, d3, rfl⟩ := b3.shape
  obtain ⟨a4, d4, rfl⟩ := b4.shape
  have HB3 := Lib.hid b3
  have HB4 := Lib.hid b4
  clear b2 b3 b4
  by_cases q1 : ¬ T.h.size = 4
  · have HL := Lib.hid (okTr_head (T := T) (by omega))
    have k1 : ((T.h.size : Int) == 4) = false := by simp; omega
    have k1' : ((T.h.size : Int) != 4) = true := by simp; omega
    go_enter Try.func31, Try.ntmps31
    go_wp2_with (go_at_call 46; refine (within_any _ _ _ _).mono ?_; rintro e w' ⟨rfl, rfl⟩)
    go_ret
    exact ⟨ret_bool HL.out.symm, below_box _ _⟩
  have q1' : T.h.size = 4 := by omega
  have k1 : ((T.h.size : Int) == 4) = true := by simp; omega
  have k1' : ((T.h.size : Int) != 4) = false := by simp; omega
  have HQ1 := Lib.hid q1'
  clear q1 q1'
  cases q2 : wB T.sc 1 16777216
  · have HL := Lib.hid (okTr_head (T := T) (by have := wB_no q2; omega))
    go_enter Try.func31, Try.ntmps31
    go_wp2_with (go_at_call 46; refine (within_any _ _ _ _).mono ?_; rintro e w' ⟨rfl, rfl⟩)
    go_ret
    exact ⟨ret_bool HL.out.symm, below_box _ _⟩
  have HQ2 := Lib.hid (wB_yes q2)
  by_cases q3 : 4096 < T.nC
  · have HL := Lib.hid (okTr_head (T := T) (by omega))
    have k3 : (4096 : Int) < (T.nC : Int) := by omega
    have k3' : decide (4096 < T.nC) = true := by simpa using q3
    go_enter Try.func31, Try.ntmps31
    go_wp2_with (go_at_call 46; refine (within_any _ _ _ _).mono ?_; rintro e w' ⟨rfl, rfl⟩)
    go_ret
    exact ⟨ret_bool HL.out.symm, below_box _ _⟩
  have k3 : ¬ (4096 : Int) < (T.nC : Int) := by omega
  have k3' : decide (4096 < T.nC) = false := by simpa using q3
  by_cases q4 : 4096 < T.nS
  · have HL := Lib.hid (okTr_head (T := T) (by omega))
    have k4 : (4096 : Int) < (T.nS : Int) := by omega
    have k4' : decide (4096 < T.nS) = true := by simpa using q4
    go_enter Try.func31, Try.ntmps31
    go_wp2_with (go_at_call 46; refine (within_any _ _ _ _).mono ?_; rintro e w' ⟨rfl, rfl⟩)
    go_ret
    exact ⟨ret_bool HL.out.symm, below_box _ _⟩
  have k4 : ¬ (4096 : Int) < (T.nS : Int) := by omega
  have k4' : decide (4096 < T.nS) = false := by simpa using q4
  by_cases q5 : 64 < T.nE
  · have HL := Lib.hid (okTr_head (T := T) (by omega))
    have k5 : (64 : Int) < (T.nE : Int) := by omega
    have k5' : decide (64 < T.nE) = true := by simpa using q5
    go_enter Try.func31, Try.ntmps31
    go_wp2_with (go_at_call 46; refine (within_any _ _ _ _).mono ?_; rintro e w' ⟨rfl, rfl⟩)
    go_ret
    exact ⟨ret_bool HL.out.symm, below_box _ _⟩
  have k5 : ¬ (64 : Int) < (T.nE : Int) := by omega
  have k5' : decide (64 < T.nE) = false := by simpa using q5
  go_enter Try.func31, Try.ntmps31
  go_wp2_with (go_at_call 46; refine (within_any _ _ _ _).mono ?_; rintro e w' ⟨rfl, rfl⟩)
  obtain ⟨w1, hw⟩ : ∃ x, x = w.alloc (.cells #[.string T.h, .int .i64 T.sc, .slice a2 T.nC d2, .slice a3 T.nS d3, .slice a4 T.nE d4] 43) := ⟨_, rfl⟩
  rw [← hw]
  have hE : Below w.heap.size w w1 := by rw [hw]; exact below_box _ _
  have y3 : w1.cell? ⟨w.heap.size, 3, none⟩ = some (.slice a3 T.nS d3) := by rw [hw]; simp [go_sem]
  have y4 : w1.cell? ⟨w.heap.size, 4, none⟩ = some (.slice a4 T.nE d4) := by rw [hw]; simp [go_sem]
  have hs1 : w.heap.size < w1.heap.size := by rw [hw]; simp
  have HB := Lib.hid hE
  clear hw hE
  go_loopw [38] (fun i wr => ∃ k : Nat, k ≤ T.nS ∧ i = .int .i64 (k : Int) ∧ Below w1.heap.size w1 wr ∧ Hid (∀ i, i < k → okSm (T.S i) = true)) (fun i _ => T.nS - (intOf i).toNat)
  case atStart => exact ⟨0, Nat.zero_le _, rfl, Below.refl _ _, Lib.hid (fun i hi => absurd hi (Nat.not_lt_zero i))⟩
  case round =>
    obtain ⟨k, hk, rfl, hb, HA⟩ := hrel
    have z3 := (hb.cell (p := ⟨w.heap.size, 3, none⟩) hs1).trans y3
    have z4 := (hb.cell (p := ⟨w.heap.size, 4, none⟩) hs1).trans y4
    have HBW := Lib.hid hb
    have hb2 := HB.out.trans (hb.mono HB.out.size)
    have HB2 := Lib.hid hb2
    clear hb
    by_cases hlt : k < T.nS
    · have hx3 := HB3.out.below hb2
      obtain ⟨ao', c', e, hcc', H⟩ := hx3
      simp only [Value.slice.injEq, true_and] at e
      obtain ⟨rfl, rfl⟩ := e
      obtain ⟨b', o', x, rfl, h0, h1, h2, h3, hx⟩ := H k hlt
      obtain ⟨ax, dx, rfl⟩ := hx.shape
      obtain ⟨s, hs⟩ : ∃ s, s = T.S k := ⟨_, rfl⟩
      rw [← hs] at h0 h1 h2 h3
      have ES := Lib.hid hs
      clear H hx hs hb2
      by_cases p1 : 1048576 < s.n
      · have HL := Lib.hid (okTr_sm hlt (by rw [← ES.out]; exact okSm_no (by omega)))
        have p1' : (1048576 : Int) < (s.n : Int) := by omega
        have p1d : decide (1048576 < s.n) = true := by simpa using p1
        go_wp2_with (go_at_call 46; refine (within_any _ _ _ _).mono ?_; rintro e w' ⟨rfl, rfl⟩)
        go_ret
        exact ⟨ret_bool HL.out.symm, HB2.out.alloc HB2.out.size _⟩
      have p1' : ¬ (1048576 : Int) < (s.n : Int) := by omega
      have p1d : decide (1048576 < s.n) = false := by simpa using p1
      cases p2 : wB s.dur 0 16777216
      · have HL := Lib.hid (okTr_sm hlt (by rw [← ES.out]; exact okSm_no (by have := wB_no p2; omega)))
        go_wp2_with (go_at_call 46; refine (within_any _ _ _ _).mono ?_; rintro e w' ⟨rfl, rfl⟩)
        go_ret
        exact ⟨ret_bool HL.out.symm, HB2.out.alloc HB2.out.size _⟩
      have HP2 := Lib.hid (wB_yes p2)
      cases p3 : wB s.shift 0 16777216
      · have HL := Lib.hid (okTr_sm hlt (by rw [← ES.out]; exact okSm_no (by have := wB_no p3; omega)))
        go_wp2_with (go_at_call 46; refine (within_any _ _ _ _).mono ?_; rintro e w' ⟨rfl, rfl⟩)
        go_ret
        exact ⟨ret_bool HL.out.symm, HB2.out.alloc HB2.out.size _⟩
      have HP3 := Lib.hid (wB_yes p3)
      have HA2 := Lib.hid (all_step (p := fun i => okSm (T.S i)) HA.out (by
        show okSm (T.S k) = true
        rw [← ES.out]; unfold okSm; simp only [decide_eq_true_eq]
        exact ⟨by omega, HP2.out.1, HP2.out.2, HP3.out.1, HP3.out.2⟩))
      go_wp2_with (go_at_call 46; refine (within_any _ _ _ _).mono ?_; rintro e w' ⟨rfl, rfl⟩)
      go_roundw
      case rel => exact ⟨k + 1, by omega, by go_num, HBW.out.alloc HBW.out.size _, HA2⟩
      case measure => simp [intOf]; omega
    · obtain rfl : k = T.nS := by omega
      have HSA := HA
      clear hb2
      go_wp2_with (go_at_call 46; refine (within_any _ _ _ _).mono ?_; rintro e w' ⟨rfl, rfl⟩)
      obtain ⟨w2, hw2⟩ : ∃ x, x = wr := ⟨_, rfl⟩
      rw [← hw2] at z4 HBW HB2 ⊢
      have hs2 : w.heap.size < w2.heap.size := by have := HBW.out.size; omega
      clear hw2 z3 HA
      go_loopw [62] (fun i wx => ∃ k : Nat, k ≤ T.nE ∧ i = .int .i64 (k : Int) ∧ Below w2.heap.size w2 wx ∧ Hid (∀ i, i < k → okEd (T.E i) = true)) (fun i _ => T.nE - (intOf i).toNat)
      case atStart => exact ⟨0, Nat.zero_le _, rfl, Below.refl _ _, Lib.hid (fun i hi => absurd hi (Nat.not_lt_zero i))⟩
      case round =>
        obtain ⟨k, hk, rfl, hb, HA⟩ := hrel
        have u4 := (hb.cell (p := ⟨w.heap.size, 4, none⟩) hs2).trans z4
        have HBX := Lib.hid (HB2.out.trans (hb.mono HB2.out.size))
        have HBX2 := Lib.hid hb
        clear hb
        by_cases hlt : k < T.nE
        · have hx4 := HB4.out.below HBX.out
          obtain ⟨ao', c', e, hcc', H⟩ := hx4
          simp only [Value.slice.injEq, true_and] at e
          obtain ⟨rfl, rfl⟩ := e
          obtain ⟨b', o', rfl, h0, h1⟩ := H k hlt
          obtain ⟨s, hs⟩ : ∃ s, s = T.E k := ⟨_, rfl⟩
          rw [← hs] at h0 h1
          have ES := Lib.hid hs
          clear H hs
          cases p2 : wB s.dur 0 2147483647
          · have HL := Lib.hid (okTr_ed hlt (by rw [← ES.out]; exact okEd_no (by have := wB_no p2; omega)))
            go_wp2_with (go_at_call 46; refine (within_any _ _ _ _).mono ?_; rintro e w' ⟨rfl, rfl⟩)
            go_ret
            exact ⟨ret_bool HL.out.symm, HBX.out.alloc HBX.out.size _⟩
          have HP2 := Lib.hid (wB_yes p2)
          cases p3 : wB s.time (-1) 2147483647
          · have HL := Lib.hid (okTr_ed hlt (by rw [← ES.out]; exact okEd_no (by have := wB_no p3; omega)))
            go_wp2_with (go_at_call 46; refine (within_any _ _ _ _).mono ?_; rintro e w' ⟨rfl, rfl⟩)
            go_ret
            exact ⟨ret_bool HL.out.symm, HBX.out.alloc HBX.out.size _⟩
          have HP3 := Lib.hid (wB_yes p3)
          have HA2 := Lib.hid (all_step (p := fun i => okEd (T.E i)) HA.out (by
            show okEd (T.E k) = true
            rw [← ES.out]; unfold okEd; simp only [decide_eq_true_eq]
            exact ⟨HP2.out.1, HP2.out.2, HP3.out.1, HP3.out.2⟩))
          go_wp2_with (go_at_call 46; refine (within_any _ _ _ _).mono ?_; rintro e w' ⟨rfl, rfl⟩)
          go_roundw
          case rel => exact ⟨k + 1, by omega, by go_num, HBX2.out.alloc HBX2.out.size _, HA2⟩
          case measure => simp [intOf]; omega
        · obtain rfl : k = T.nE := by omega
          have HL := Lib.hid (show okTr T = true by
            unfold okTr
            simp only [Bool.and_eq_true, decide_eq_true_eq, all_range]
            exact ⟨⟨⟨HQ1.out, HQ2.out.1, HQ2.out.2, by omega, by omega, by omega⟩, HSA.out⟩, HA.out⟩)
          go_wp2_with (go_at_call 46; refine (within_any _ _ _ _).mono ?_; rintro e w' ⟨rfl, rfl⟩)
          go_ret
          exact ⟨ret_bool HL.out.symm, HBX.out⟩

set_option maxRecDepth 100000 in
set_option maxHeartbeats 4000000 in
theorem rvalid_any (v : Value) (T : Tr) (w : World) (hv : TA w v T) :
    Calls Try.prog 32 #[v] w fun e w' => e = .returned (.bool (okTr T)) ∧ Below w.heap.size w w' := by
  obtain ⟨c0, c1, c2, c3, c4, rfl, rfl, rfl, b2, b3, b4⟩ := hv
  obtain ⟨a2, d2, rfl⟩ := b2.shape
  obtain ⟨a3, d3, rfl⟩ := b3.shape
  obtain ⟨a4, d4, rfl⟩ := b4.shape
  have HB3 := Lib.hid b3
  have HB4 := Lib.hid b4
  clear b2 b3 b4
  by_cases q1 : ¬ T.h.size = 4
  · have HL := Lib.hid (okTr_head (T := T) (by omega))
    have k1 : ((T.h.size : Int) == 4) = false := by simp; omega
    have k1' : ((T.h.size : Int) != 4) = true := by simp; omega
    go_enter Try.func32, Try.ntmps32
    go_wp2_with (go_at_call 36; refine (rwithin_any _ _ _ _).mono ?_; rintro e w' ⟨rfl, rfl⟩)
    go_ret
    exact ⟨ret_bool HL.out.symm, below_box _ _⟩
  have q1' : T.h.size = 4 := by omega
  have k1 : ((T.h.size : Int) == 4) = true := by simp; omega
  have k1' : ((T.h.size : Int) != 4) = false := by simp; omega
  have HQ1 := Lib.hid q1'
  clear q1 q1'
  cases q2 : wB T.sc 1 16777216
  · have HL := Lib.hid (okTr_head (T := T) (by have := wB_no q2; omega))
    go_enter Try.func32, Try.ntmps32
    go_wp2_with (go_at_call 36; refine (rwithin_any _ _ _ _).mono ?_; rintro e w' ⟨rfl, rfl⟩)
    go_ret
    exact ⟨ret_bool HL.out.symm, below_box _ _⟩
  have HQ2 := Lib.hid (wB_yes q2)
  by_cases q3 : 4096 < T.nC
  · have HL := Lib.hid (okTr_head (T := T) (by omega))
    have k3 : (4096 : Int) < (T.nC : Int) := by omega
    have k3' : decide (4096 < T.nC) = true := by simpa using q3
    go_enter Try.func32, Try.ntmps32
    go_wp2_with (go_at_call 36; refine (rwithin_any _ _ _ _).mono ?_; rintro e w' ⟨rfl, rfl⟩)
    go_ret
    exact ⟨ret_bool HL.out.symm, below_box _ _⟩
  have k3 : ¬ (4096 : Int) < (T.nC : Int) := by omega
  have k3' : decide (4096 < T.nC) = false := by simpa using q3
  by_cases q4 : 4096 < T.nS
  · have HL := Lib.hid (okTr_head (T := T) (by omega))
    have k4 : (4096 : Int) < (T.nS : Int) := by omega
    have k4' : decide (4096 < T.nS) = true := by simpa using q4
    go_enter Try.func32, Try.ntmps32
    go_wp2_with (go_at_call 36; refine (rwithin_any _ _ _ _).mono ?_; rintro e w' ⟨rfl, rfl⟩)
    go_ret
    exact ⟨ret_bool HL.out.symm, below_box _ _⟩
  have k4 : ¬ (4096 : Int) < (T.nS : Int) := by omega
  have k4' : decide (4096 < T.nS) = false := by simpa using q4
  by_cases q5 : 64 < T.nE
  · have HL := Lib.hid (okTr_head (T := T) (by omega))
    have k5 : (64 : Int) < (T.nE : Int) := by omega
    have k5' : decide (64 < T.nE) = true := by simpa using q5
    go_enter Try.func32, Try.ntmps32
    go_wp2_with (go_at_call 36; refine (rwithin_any _ _ _ _).mono ?_; rintro e w' ⟨rfl, rfl⟩)
    go_ret
    exact ⟨ret_bool HL.out.symm, below_box _ _⟩
  have k5 : ¬ (64 : Int) < (T.nE : Int) := by omega
  have k5' : decide (64 < T.nE) = false := by simpa using q5
  go_enter Try.func32, Try.ntmps32
  go_wp2_with (go_at_call 36; refine (rwithin_any _ _ _ _).mono ?_; rintro e w' ⟨rfl, rfl⟩)
  obtain ⟨w1, hw⟩ : ∃ x, x = w.alloc (.cells #[.string T.h, .int .i64 T.sc, .slice a2 T.nC d2, .slice a3 T.nS d3, .slice a4 T.nE d4] 48) := ⟨_, rfl⟩
  rw [← hw]
  have hE : Below w.heap.size w w1 := by rw [hw]; exact below_box _ _
  have y3 : w1.cell? ⟨w.heap.size, 3, none⟩ = some (.slice a3 T.nS d3) := by rw [hw]; simp [go_sem]
  have y4 : w1.cell? ⟨w.heap.size, 4, none⟩ = some (.slice a4 T.nE d4) := by rw [hw]; simp [go_sem]
  have hs1 : w.heap.size < w1.heap.size := by rw [hw]; simp
  have HB := Lib.hid hE
  clear hw hE
  go_loopw [3] (fun i wr => ∃ k : Nat, k ≤ T.nS ∧ i = .int .i64 (k : Int) ∧ Below w1.heap.size w1 wr ∧ Hid (∀ i, i < k → okSm (T.S i) = true)) (fun i _ => T.nS - (intOf i).toNat)
  case atStart => exact ⟨0, Nat.zero_le _, rfl, Below.refl _ _, Lib.hid (fun i hi => absurd hi (Nat.not_lt_zero i))⟩
  case round =>
    obtain ⟨k, hk, rfl, hb, HA⟩ := hrel
    have z3 := (hb.cell (p := ⟨w.heap.size, 3, none⟩) hs1).trans y3
    have z4 := (hb.cell (p := ⟨w.heap.size, 4, none⟩) hs1).trans y4
    have HBW := Lib.hid hb
    have hb2 := HB.out.trans (hb.mono HB.out.size)
    have HB2 := Lib.hid hb2
    clear hb
    by_cases hlt : k < T.nS
    · have hx3 := HB3.out.below hb2
      obtain ⟨ao', c', e, hcc', H⟩ := hx3
      simp only [Value.slice.injEq, true_and] at e
      obtain ⟨rfl, rfl⟩ := e
      obtain ⟨b', o', x, rfl, h0, h1, h2, h3, hx⟩ := H k hlt
      obtain ⟨ax, dx, rfl⟩ := hx.shape
      obtain ⟨s, hs⟩ : ∃ s, s = T.S k := ⟨_, rfl⟩
      rw [← hs] at h0 h1 h2 h3
      have ES := Lib.hid hs
      clear H hx hs hb2
      by_cases p1 : 1048576 < s.n
      · have HL := Lib.hid (okTr_sm hlt (by rw [← ES.out]; exact okSm_no (by omega)))
        have p1' : (1048576 : Int) < (s.n : Int) := by omega
        have p1d : decide (1048576 < s.n) = true := by simpa using p1
        go_wp2_with (go_at_call 36; refine (rwithin_any _ _ _ _).mono ?_; rintro e w' ⟨rfl, rfl⟩)
        go_ret
        exact ⟨ret_bool HL.out.symm, HB2.out.alloc HB2.out.size _⟩
      have p1' : ¬ (1048576 : Int) < (s.n : Int) := by omega
      have p1d : decide (1048576 < s.n) = false := by simpa using p1
      cases p2 : wB s.dur 0 16777216
      · have HL := Lib.hid (okTr_sm hlt (by rw [← ES.out]; exact okSm_no (by have := wB_no p2; omega)))
        go_wp2_with (go_at_call 36; refine (rwithin_any _ _ _ _).mono ?_; rintro e w' ⟨rfl, rfl⟩)
        go_ret
        exact ⟨ret_bool HL.out.symm, HB2.out.alloc HB2.out.size _⟩
      have HP2 := Lib.hid (wB_yes p2)
      cases p3 : wB s.shift 0 16777216
      · have HL := Lib.hid (okTr_sm hlt (by rw [← ES.out]; exact okSm_no (by have := wB_no p3; omega)))
        go_wp2_with (go_at_call 36; refine (rwithin_any _ _ _ _).mono ?_; rintro e w' ⟨rfl, rfl⟩)
        go_ret
        exact ⟨ret_bool HL.out.symm, HB2.out.alloc HB2.out.size _⟩
      have HP3 := Lib.hid (wB_yes p3)
      have HA2 := Lib.hid (all_step (p := fun i => okSm (T.S i)) HA.out (by
        show okSm (T.S k) = true
        rw [← ES.out]; unfold okSm; simp only [decide_eq_true_eq]
        exact ⟨by omega, HP2.out.1, HP2.out.2, HP3.out.1, HP3.out.2⟩))
      go_wp2_with (go_at_call 36; refine (rwithin_any _ _ _ _).mono ?_; rintro e w' ⟨rfl, rfl⟩)
      go_roundw
      case rel => exact ⟨k + 1, by omega, by go_num, HBW.out.alloc HBW.out.size _, HA2⟩
      case measure => simp [intOf]; omega
    · obtain rfl : k = T.nS := by omega
      have HSA := HA
      clear hb2
      go_wp2_with (go_at_call 36; refine (rwithin_any _ _ _ _).mono ?_; rintro e w' ⟨rfl, rfl⟩)
      obtain ⟨w2, hw2⟩ : ∃ x, x = wr := ⟨_, rfl⟩
      rw [← hw2] at z4 HBW HB2 ⊢
      have hs2 : w.heap.size < w2.heap.size := by have := HBW.out.size; omega
      clear hw2 z3 HA
      go_loopw [5] (fun i wx => ∃ k : Nat, k ≤ T.nE ∧ i = .int .i64 (k : Int) ∧ Below w2.heap.size w2 wx ∧ Hid (∀ i, i < k → okEd (T.E i) = true)) (fun i _ => T.nE - (intOf i).toNat)
      case atStart => exact ⟨0, Nat.zero_le _, rfl, Below.refl _ _, Lib.hid (fun i hi => absurd hi (Nat.not_lt_zero i))⟩
      case round =>
        obtain ⟨k, hk, rfl, hb, HA⟩ := hrel
        have u4 := (hb.cell (p := ⟨w.heap.size, 4, none⟩) hs2).trans z4
        have HBX := Lib.hid (HB2.out.trans (hb.mono HB2.out.size))
        have HBX2 := Lib.hid hb
        clear hb
        by_cases hlt : k < T.nE
        · have hx4 := HB4.out.below HBX.out
          obtain ⟨ao', c', e, hcc', H⟩ := hx4
          simp only [Value.slice.injEq, true_and] at e
          obtain ⟨rfl, rfl⟩ := e
          obtain ⟨b', o', rfl, h0, h1⟩ := H k hlt
          obtain ⟨s, hs⟩ : ∃ s, s = T.E k := ⟨_, rfl⟩
          rw [← hs] at h0 h1
          have ES := Lib.hid hs
          clear H hs
          cases p2 : wB s.dur 0 2147483647
          · have HL := Lib.hid (okTr_ed hlt (by rw [← ES.out]; exact okEd_no (by have := wB_no p2; omega)))
            go_wp2_with (go_at_call 36; refine (rwithin_any _ _ _ _).mono ?_; rintro e w' ⟨rfl, rfl⟩)
            go_ret
            exact ⟨ret_bool HL.out.symm, HBX.out⟩
          have HP2 := Lib.hid (wB_yes p2)
          cases p3 : wB s.time (-1) 2147483647
          · have HL := Lib.hid (okTr_ed hlt (by rw [← ES.out]; exact okEd_no (by have := wB_no p3; omega)))
            go_wp2_with (go_at_call 36; refine (rwithin_any _ _ _ _).mono ?_; rintro e w' ⟨rfl, rfl⟩)
            go_ret
            exact ⟨ret_bool HL.out.symm, HBX.out⟩
          have HP3 := Lib.hid (wB_yes p3)
          have HA2 := Lib.hid (all_step (p := fun i => okEd (T.E i)) HA.out (by
            show okEd (T.E k) = true
            rw [← ES.out]; unfold okEd; simp only [decide_eq_true_eq]
            exact ⟨HP2.out.1, HP2.out.2, HP3.out.1, HP3.out.2⟩))
          go_wp2_with (go_at_call 36; refine (rwithin_any _ _ _ _).mono ?_; rintro e w' ⟨rfl, rfl⟩)
          go_roundw
          case rel => exact ⟨k + 1, by omega, by go_num, HBX2.out, HA2⟩
          case measure => simp [intOf]; omega
        · obtain rfl : k = T.nE := by omega
          have HL := Lib.hid (show okTr T = true by
            unfold okTr
            simp only [Bool.and_eq_true, decide_eq_true_eq, all_range]
            exact ⟨⟨⟨HQ1.out, HQ2.out.1, HQ2.out.2, by omega, by omega, by omega⟩, HSA.out⟩, HA.out⟩)
          go_wp2_with (go_at_call 36; refine (rwithin_any _ _ _ _).mono ?_; rintro e w' ⟨rfl, rfl⟩)
          go_ret
          exact ⟨ret_bool HL.out.symm, HBX.out⟩

end Go.Proofs.Ytkhjkemllgjfmaa

/- The contracts of Locate, both. -/
namespace Go.Proofs.Ytkhjkemllgjfmaa
open Go.RowKit
set_option linter.unusedVariables false

def decS (S : Nat → Sm) : Nat → Int
  | 0 => 0
  | k + 1 => decS S k + (S k).dur
def locI (S : Nat → Sm) (t : Int) : Nat → Int
  | 0 => -1
  | k + 1 => if (S k).sync = true ∧ decS S k ≤ t then (k : Int) else locI S t k
def locF (T : Tr) (t : Int) : Int := if okTr T = true then locI T.S t T.nS else -1
theorem okSm_yes {s : Sm} (h : okSm s = true) : s.n ≤ 1048576 ∧ 0 ≤ s.dur ∧ s.dur ≤ 16777216 ∧ 0 ≤ s.shift ∧ s.shift ≤ 16777216 := by simpa [okSm] using h
theorem okEd_yes {s : Ed} (h : okEd s = true) : 0 ≤ s.dur ∧ s.dur ≤ 2147483647 ∧ -1 ≤ s.time ∧ s.time ≤ 2147483647 := by simpa [okEd] using h
theorem okTr_yes {T : Tr} (h : okTr T = true) : (T.h.size = 4 ∧ 1 ≤ T.sc ∧ T.sc ≤ 16777216 ∧ T.nC ≤ 4096 ∧ T.nS ≤ 4096 ∧ T.nE ≤ 64) ∧ (∀ i, i < T.nS → okSm (T.S i) = true) ∧ ∀ i, i < T.nE → okEd (T.E i) = true := by
  unfold okTr at h
  simp only [Bool.and_eq_true, decide_eq_true_eq, all_range] at h
  exact ⟨h.1.1, h.1.2, h.2⟩
theorem decS_bd {S : Nat → Sm} {n k : Nat} (h : ∀ i, i < n → okSm (S i) = true) (hk : k ≤ n) : 0 ≤ decS S k ∧ decS S k ≤ (k : Int) * 16777216 := by
  induction k with
  | zero => simp [decS]
  | succ k ih =>
    have h1 := ih (by omega)
    have h2 := okSm_yes (h k (by omega))
    simp only [decS]
    omega

set_option maxRecDepth 100000 in
set_option maxHeartbeats 4000000 in
theorem locate_any (v : Value) (T : Tr) (t : Int) (w : World) (hv : TA w v T) :
    Calls Try.prog 14 #[v, .int .i64 t] w fun e w' => e = .returned (.int .i64 (locF T t)) ∧ Below w.heap.size w w' := by
  have hv0 := hv
  obtain ⟨c0, c1, c2, c3, c4, rfl, rfl, rfl, b2, b3, b4⟩ := hv
  obtain ⟨a2, d2, rfl⟩ := b2.shape
  obtain ⟨a3, d3, rfl⟩ := b3.shape
  obtain ⟨a4, d4, rfl⟩ := b4.shape
  have HB3 := Lib.hid b3
  have HV := Lib.hid (hv0.below (below_box w (.cells #[.string T.h, .int .i64 T.sc, .slice a2 T.nC d2, .slice a3 T.nS d3, .slice a4 T.nE d4] 43)))
  clear b2 b3 b4 hv0
  go_enter Try.func14, Try.ntmps14
  go_wp2_with fail
  refine (valid_any _ T _ HV.out).mono ?_
  rintro e w1 ⟨rfl, hb⟩
  have y3 : w1.cell? ⟨w.heap.size, 3, none⟩ = some (.slice a3 T.nS d3) := (hb.cell (by simp)).trans (by simp [go_sem])
  have hs1 : w.heap.size < w1.heap.size := by have := hb.size; simp at this; omega
  have HB := Lib.hid (show Below w.heap.size w w1 from (below_box _ _).trans (hb.mono (by simp)))
  clear hb HV
  cases hok : okTr T
  · have HL := Lib.hid (show locF T t = -1 by unfold locF; rw [hok]; rfl)
    go_wp2_with fail
    go_ret
    exact ⟨ret_i64 HL.out.symm, HB.out⟩
  have HOK := Lib.hid (okTr_yes hok)
  have HL := Lib.hid (show locF T t = locI T.S t T.nS by unfold locF; rw [hok]; rfl)
  go_wp2_with fail
  clear hok
  have hn : T.nS ≤ 4096 := HOK.out.1.2.2.2.2.1
  go_loopw [15, 5, 6] (fun i l d wr => ∃ k : Nat, k ≤ T.nS ∧ i = .int .i64 (k : Int) ∧ l = .int .i64 (locI T.S t k) ∧ d = .int .i64 (decS T.S k) ∧ Below w1.heap.size w1 wr) (fun i _ _ _ => T.nS - (intOf i).toNat)
  case atStart => exact ⟨0, Nat.zero_le _, rfl, rfl, rfl, Below.refl _ _⟩
  case round =>
    obtain ⟨k, hk, rfl, rfl, rfl, hb⟩ := hrel
    have z3 := (hb.cell (p := ⟨w.heap.size, 3, none⟩) hs1).trans y3
    have HBW := Lib.hid hb
    have HB2 := Lib.hid (HB.out.trans (hb.mono HB.out.size))
    clear hb
    by_cases hlt : k < T.nS
    · obtain ⟨ao', c', e, hcc', H⟩ := HB3.out.below HB2.out
      simp only [Value.slice.injEq, true_and] at e
      obtain ⟨rfl, rfl⟩ := e
      obtain ⟨b', o', x, rfl, h0, h1, h2, h3, hx⟩ := H k hlt
      obtain ⟨ax, dx, rfl⟩ := hx.shape
      have dd := decS_bd HOK.out.2.1 (show k ≤ T.nS by omega)
      have ds := okSm_yes (HOK.out.2.1 k hlt)
      obtain ⟨s, hs⟩ : ∃ s, s = T.S k := ⟨_, rfl⟩
      rw [← hs] at h0 h1 h2 h3 ds
      have s1 := ds.2.1
      have s2 := ds.2.2.1
      obtain ⟨D, hD⟩ : ∃ D, D = decS T.S k := ⟨_, rfl⟩
      rw [← hD] at dd ⊢
      have dd1 := dd.1
      have dd2 : D ≤ 68719476736 := by omega
      have ES := Lib.hid hs
      have ED := Lib.hid hD
      have hstep : decS T.S (k + 1) = D + s.dur := by simp only [decS]; rw [← hs, ← hD]
      have HST := Lib.hid hstep
      clear H hx hs hD dd ds hstep
      cases hsy : s.sync
      · have HLI := Lib.hid (show locI T.S t (k + 1) = locI T.S t k by simp only [locI]; rw [← ES.out, if_neg (by simp [hsy])])
        rw [hsy] at h3
        go_wp2_with fail
        go_roundw
        case rel => exact ⟨k + 1, by omega, by go_num, by rw [HLI.out], by rw [HST.out], HBW.out.alloc HBW.out.size _⟩
        case measure => simp [intOf]; omega
      · rw [hsy] at h3
        by_cases hle : D ≤ t
        · have HLI := Lib.hid (show locI T.S t (k + 1) = (k : Int) by simp only [locI]; rw [← ES.out, ← ED.out, if_pos ⟨hsy, hle⟩])
          clear hsy
          go_wp2_with fail
          go_roundw
          case rel => exact ⟨k + 1, by omega, by go_num, by rw [HLI.out], by rw [HST.out], HBW.out.alloc HBW.out.size _⟩
          case measure => simp [intOf]; omega
        · have HLI := Lib.hid (show locI T.S t (k + 1) = locI T.S t k by simp only [locI]; rw [← ES.out, ← ED.out, if_neg (fun h => hle h.2)])
          clear hsy
          go_wp2_with fail
          go_roundw
          case rel => exact ⟨k + 1, by omega, by go_num, by rw [HLI.out], by rw [HST.out], HBW.out.alloc HBW.out.size _⟩
          case measure => simp [intOf]; omega
    · obtain rfl : k = T.nS := by omega
      go_wp2_with fail
      go_ret
      exact ⟨ret_i64 HL.out.symm, HB2.out⟩

set_option maxRecDepth 100000 in
set_option maxHeartbeats 4000000 in
theorem rlocate_any (v : Value) (T : Tr) (t : Int) (w : World) (hv : TA w v T) (hm : T.nS ≤ 9223372036854775807) :
    Calls Try.prog 16 #[v, .int .i64 t] w fun e w' => e = .returned (.int .i64 (locF T t)) ∧ Below w.heap.size w w' := by
  have hv0 := hv
  obtain ⟨c0, c1, c2, c3, c4, rfl, rfl, rfl, b2, b3, b4⟩ := hv
  obtain ⟨a2, d2, rfl⟩ := b2.shape
  obtain ⟨a3, d3, rfl⟩ := b3.shape
  obtain ⟨a4, d4, rfl⟩ := b4.shape
  have HB3 := Lib.hid b3
  have HV := Lib.hid hv0
  clear b2 b3 b4 hv0
  go_enter Try.func16, Try.ntmps16
  go_wp2_with fail
  obtain ⟨w1, hw⟩ : ∃ x, x = w.alloc (.cells #[.string T.h, .int .i64 T.sc, .slice a2 T.nC d2, .slice a3 T.nS d3, .slice a4 T.nE d4] 48) := ⟨_, rfl⟩
  rw [← hw]
  have hE : Below w.heap.size w w1 := by rw [hw]; exact below_box _ _
  have y0 : w1.cell? ⟨w.heap.size, 0, none⟩ = some (.string T.h) := by rw [hw]; simp [go_sem]
  have y1 : w1.cell? ⟨w.heap.size, 1, none⟩ = some (.int .i64 T.sc) := by rw [hw]; simp [go_sem]
  have y2 : w1.cell? ⟨w.heap.size, 2, none⟩ = some (.slice a2 T.nC d2) := by rw [hw]; simp [go_sem]
  have y3 : w1.cell? ⟨w.heap.size, 3, none⟩ = some (.slice a3 T.nS d3) := by rw [hw]; simp [go_sem]
  have y4 : w1.cell? ⟨w.heap.size, 4, none⟩ = some (.slice a4 T.nE d4) := by rw [hw]; simp [go_sem]
  have hs1 : w.heap.size < w1.heap.size := by rw [hw]; simp
  have HB := Lib.hid hE
  have HY := Lib.hid (And.intro y0 (And.intro y1 (And.intro y2 (And.intro y3 y4))))
  clear hw hE y0 y1 y2 y3 y4
  go_loopw [7, 5, 6] (fun i d l wr => ∃ k : Nat, k ≤ T.nS ∧ i = .int .i64 (k : Int) ∧ (okTr T = false → k = 0) ∧ l = .int .i64 (locI T.S t k) ∧ d = .int .i64 (decS T.S k) ∧ Below w1.heap.size w1 wr) (fun i _ _ _ => T.nS - (intOf i).toNat)
  case atStart => exact ⟨0, Nat.zero_le _, rfl, fun _ => rfl, rfl, rfl, Below.refl _ _⟩
  case round =>
    obtain ⟨k, hk, rfl, hk0, rfl, rfl, hb⟩ := hrel
    have HK0 := Lib.hid hk0
    have z0 := (hb.cell (p := ⟨w.heap.size, 0, none⟩) hs1).trans HY.out.1
    have z1 := (hb.cell (p := ⟨w.heap.size, 1, none⟩) hs1).trans HY.out.2.1
    have z2 := (hb.cell (p := ⟨w.heap.size, 2, none⟩) hs1).trans HY.out.2.2.1
    have z3 := (hb.cell (p := ⟨w.heap.size, 3, none⟩) hs1).trans HY.out.2.2.2.1
    have z4 := (hb.cell (p := ⟨w.heap.size, 4, none⟩) hs1).trans HY.out.2.2.2.2
    have HBW := Lib.hid hb
    have HB2 := Lib.hid (HB.out.trans (hb.mono HB.out.size))
    clear hb hk0
    by_cases hlt : k < T.nS
    · have HVV := Lib.hid (HV.out.below HB2.out)
      obtain ⟨D, hD⟩ : ∃ D, D = decS T.S k := ⟨_, rfl⟩
      rw [← hD]
      have ED := Lib.hid hD
      clear hD
      go_wp2_with fail
      refine (rvalid_any _ T _ HVV.out).mono ?_
      rintro e w3 ⟨rfl, hb3⟩
      replace z3 := (hb3.cell (p := ⟨w.heap.size, 3, none⟩) (by have := HBW.out.size; simp; omega)).trans z3
      replace HB2 := Lib.hid (HB2.out.trans (hb3.mono HB2.out.size))
      replace HBW := Lib.hid (HBW.out.trans (hb3.mono HBW.out.size))
      clear hb3 z0 z1 z2 z4 HVV
      cases hok : okTr T
      · have hk00 := HK0.out hok
        have HL := Lib.hid (show locF T t = -1 by unfold locF; rw [hok]; rfl)
        have HK00 := Lib.hid hk00
        clear hk00
        go_wp2_with fail
        go_ret
        exact ⟨ret_i64 (by rw [HL.out, HK00.out]; rfl), HB2.out⟩
      have HOK := Lib.hid (okTr_yes hok)
      obtain ⟨ao', c', e, hcc', H⟩ := HB3.out.below HB2.out
      simp only [Value.slice.injEq, true_and] at e
      obtain ⟨rfl, rfl⟩ := e
      obtain ⟨b', o', x, rfl, h0, h1, h2, h3, hx⟩ := H k hlt
      have dd := decS_bd HOK.out.2.1 (show k ≤ T.nS by omega)
      have ds := okSm_yes (HOK.out.2.1 k hlt)
      have hn : T.nS ≤ 4096 := HOK.out.1.2.2.2.2.1
      obtain ⟨s, hs⟩ : ∃ s, s = T.S k := ⟨_, rfl⟩
      rw [← hs] at h1 h2 h3 ds
      have s1 := ds.2.1
      have s2 := ds.2.2.1
      rw [← ED.out] at dd
      have dd1 := dd.1
      have dd2 : D ≤ 68719476736 := by omega
      have ES := Lib.hid hs
      have HOKB := Lib.hid hok
      have hstep : decS T.S (k + 1) = D + s.dur := by simp only [decS]; rw [← hs, ← ED.out]
      have HST := Lib.hid hstep
      clear H hx hs dd ds hstep hok
      cases hsy : s.sync
      · have HLI := Lib.hid (show locI T.S t (k + 1) = locI T.S t k by simp only [locI]; rw [← ES.out, if_neg (by simp [hsy])])
        rw [hsy] at h3
        go_wp2_with fail
        go_roundw
        case rel => exact ⟨k + 1, by omega, by go_num, fun h => by (rw [HOKB.out] at h; cases h), by rw [HLI.out], by rw [HST.out], HBW.out⟩
        case measure => simp [intOf]; omega
      · rw [hsy] at h3
        by_cases hle : D ≤ t
        · have HLI := Lib.hid (show locI T.S t (k + 1) = (k : Int) by simp only [locI]; rw [← ES.out, ← ED.out, if_pos ⟨hsy, hle⟩])
          clear hsy
          go_wp2_with fail
          go_roundw
          case rel => exact ⟨k + 1, by omega, by go_num, fun h => by (rw [HOKB.out] at h; cases h), by rw [HLI.out], by rw [HST.out], HBW.out⟩
          case measure => simp [intOf]; omega
        · have HLI := Lib.hid (show locI T.S t (k + 1) = locI T.S t k by simp only [locI]; rw [← ES.out, ← ED.out, if_neg (fun h => hle h.2)])
          clear hsy
          go_wp2_with fail
          go_roundw
          case rel => exact ⟨k + 1, by omega, by go_num, fun h => by (rw [HOKB.out] at h; cases h), by rw [HLI.out], by rw [HST.out], HBW.out⟩
          case measure => simp [intOf]; omega
    · obtain rfl : k = T.nS := by omega
      have HL := Lib.hid (show locF T t = locI T.S t T.nS by
        unfold locF
        cases hok : okTr T
        · have h0 := HK0.out hok
          rw [h0]; rfl
        · rfl)
      go_wp2_with fail
      go_ret
      exact ⟨ret_i64 HL.out.symm, HB2.out⟩

end Go.Proofs.Ytkhjkemllgjfmaa

/- The contracts of Valid, both: files. -/
namespace Go.Proofs.Ytkhjkemllgjfmaa
open Go.RowKit
set_option linter.unusedVariables false

theorem okFl_head {F : Fl} (h : ¬ (1 ≤ F.sc ∧ F.sc ≤ 16777216 ∧ F.nT ≤ 4)) : okFl F = false := by
  unfold okFl; rw [show decide (1 ≤ F.sc ∧ F.sc ≤ 16777216 ∧ F.nT ≤ 4) = false by simpa using h]; simp
theorem okFl_tr {F : Fl} {i : Nat} (hi : i < F.nT) (h : okTr (F.T i) = false) : okFl F = false := by
  unfold okFl; rw [all_range_no hi h]; simp
theorem okFl_yes {F : Fl} (h : okFl F = true) : (1 ≤ F.sc ∧ F.sc ≤ 16777216 ∧ F.nT ≤ 4) ∧ ∀ i, i < F.nT → okTr (F.T i) = true := by
  unfold okFl at h
  simp only [Bool.and_eq_true, decide_eq_true_eq, all_range] at h
  exact h
/-- A track in its place, as a value. -/
theorem TSA.at {w : World} {ao : Option Addr} {n c : Nat} {T : Nat → Tr} (h : TSA w (.slice ao n c) n T) {k : Nat} (hk : k < n) : ∃ b o a2 d2 a3 d3 a4 d4, ao = some ⟨b, o, none⟩ ∧ w.cell? ⟨b, o + k * 5, none⟩ = some (.string (T k).h) ∧ w.cell? ⟨b, o + k * 5 + 1, none⟩ = some (.int .i64 (T k).sc) ∧ w.cell? ⟨b, o + k * 5 + 2, none⟩ = some (.slice a2 (T k).nC d2) ∧ w.cell? ⟨b, o + k * 5 + 3, none⟩ = some (.slice a3 (T k).nS d3) ∧ w.cell? ⟨b, o + k * 5 + 4, none⟩ = some (.slice a4 (T k).nE d4) ∧
    TA w (.agg #[.string (T k).h, .int .i64 (T k).sc, .slice a2 (T k).nC d2, .slice a3 (T k).nS d3, .slice a4 (T k).nE d4]) (T k) := by
  obtain ⟨ao', c', e, _, H⟩ := h
  simp only [Value.slice.injEq, true_and] at e
  obtain ⟨rfl, rfl⟩ := e
  obtain ⟨b, o, c0, c1, c2, c3, c4, rfl, t0, t1, t2, t3, t4, hc⟩ := H k hk
  obtain ⟨rfl, rfl, b2, b3, b4⟩ := hc
  obtain ⟨a2, d2, rfl⟩ := b2.shape
  obtain ⟨a3, d3, rfl⟩ := b3.shape
  obtain ⟨a4, d4, rfl⟩ := b4.shape
  exact ⟨b, o, a2, d2, a3, d3, a4, d4, rfl, t0, t1, t2, t3, t4, ⟨_, _, _, _, _, rfl, ⟨rfl, rfl, b2, b3, b4⟩⟩⟩

set_option maxRecDepth 100000 in
set_option maxHeartbeats 4000000 in
theorem validF_any (v : Value) (F : Fl) (w : World) (hv : FA w v F) (hm : F.nT ≤ 9223372036854775807) :
    Calls Try.prog 23 #[v] w fun e w' => e = .returned (.bool (okFl F)) ∧ Below w.heap.size w w' := by
  obtain ⟨ts, rfl, hts⟩ := hv
  obtain ⟨ao, c, rfl⟩ := hts.shape
  have HT := Lib.hid hts
  clear hts
  cases q1 : wB F.sc 1 16777216
  · have HL := Lib.hid (okFl_head (F := F) (by have := wB_no q1; omega))
    go_enter Try.func23, Try.ntmps23
    go_wp2_with (go_at_call 46; refine (within_any _ _ _ _).mono ?_; rintro e w' ⟨rfl, rfl⟩)
    go_ret
    exact ⟨ret_bool HL.out.symm, below_box _ _⟩
  have HQ1 := Lib.hid (wB_yes q1)
  by_cases q2 : 4 < F.nT
  · have HL := Lib.hid (okFl_head (F := F) (by omega))
    have k2 : (4 : Int) < (F.nT : Int) := by omega
    have k2' : decide (4 < F.nT) = true := by simpa using q2
    go_enter Try.func23, Try.ntmps23
    go_wp2_with (go_at_call 46; refine (within_any _ _ _ _).mono ?_; rintro e w' ⟨rfl, rfl⟩)
    go_ret
    exact ⟨ret_bool HL.out.symm, below_box _ _⟩
  have k2 : ¬ (4 : Int) < (F.nT : Int) := by omega
  have k2' : decide (4 < F.nT) = false := by simpa using q2
  go_enter Try.func23, Try.ntmps23
  go_wp2_with (go_at_call 46; refine (within_any _ _ _ _).mono ?_; rintro e w' ⟨rfl, rfl⟩)
  obtain ⟨w1, hw⟩ : ∃ x, x = w.alloc (.cells #[.int .i64 F.sc, .slice ao F.nT c] 56) := ⟨_, rfl⟩
  rw [← hw]
  have hE : Below w.heap.size w w1 := by rw [hw]; exact below_box _ _
  have y1 : w1.cell? ⟨w.heap.size, 1, none⟩ = some (.slice ao F.nT c) := by rw [hw]; simp [go_sem]
  have hs1 : w.heap.size < w1.heap.size := by rw [hw]; simp
  have HB := Lib.hid hE
  clear hw hE
  go_loopw [18] (fun i wr => ∃ k : Nat, k ≤ F.nT ∧ i = .int .i64 (k : Int) ∧ Below w1.heap.size w1 wr ∧ Hid (∀ i, i < k → okTr (F.T i) = true)) (fun i _ => F.nT - (intOf i).toNat)
  case atStart => exact ⟨0, Nat.zero_le _, rfl, Below.refl _ _, Lib.hid (fun i hi => absurd hi (Nat.not_lt_zero i))⟩
  case round =>
    obtain ⟨k, hk, rfl, hb, HA⟩ := hrel
    have z1 := (hb.cell (p := ⟨w.heap.size, 1, none⟩) hs1).trans y1
    have HBW := Lib.hid hb
    have HB2 := Lib.hid (HB.out.trans (hb.mono HB.out.size))
    clear hb
    by_cases hlt : k < F.nT
    · obtain ⟨b, o, a2, d2, a3, d3, a4, d4, rfl, t0, t1, t2, t3, t4, hta⟩ := (HT.out.below HB2.out).at hlt
      have TT := Lib.hid (hta.below (below_box wr (.cells #[.string (F.T k).h, .int .i64 (F.T k).sc, .slice a2 (F.T k).nC d2, .slice a3 (F.T k).nS d3, .slice a4 (F.T k).nE d4] 43)))
      clear hta
      go_wp2_with fail
      refine (valid_any _ (F.T k) _ TT.out).mono ?_
      rintro e w3 ⟨rfl, hb3⟩
      have hb3' : Below wr.heap.size wr w3 := (below_box _ _).trans (hb3.mono (by simp))
      have HB3 := Lib.hid (HB2.out.trans (hb3'.mono HB2.out.size))
      have HBW3 := Lib.hid (HBW.out.trans (hb3'.mono HBW.out.size))
      clear hb3 hb3' t0 t1 t2 t3 t4 TT z1
      cases hok : okTr (F.T k)
      · have HL := Lib.hid (okFl_tr hlt hok)
        go_wp2_with fail
        go_ret
        exact ⟨ret_bool HL.out.symm, HB3.out⟩
      · have HA2 := Lib.hid (all_step (p := fun i => okTr (F.T i)) HA.out hok)
        go_wp2_with fail
        go_roundw
        case rel => exact ⟨k + 1, by omega, by go_num, HBW3.out, HA2⟩
        case measure => simp [intOf]; omega
    · obtain rfl : k = F.nT := by omega
      have HL := Lib.hid (show okFl F = true by
        unfold okFl
        simp only [Bool.and_eq_true, decide_eq_true_eq, all_range]
        exact ⟨⟨HQ1.out.1, HQ1.out.2, by omega⟩, HA.out⟩)
      go_wp2_with fail
      go_ret
      exact ⟨ret_bool HL.out.symm, HB2.out⟩

set_option maxRecDepth 100000 in
set_option maxHeartbeats 4000000 in
theorem rvalidF_any (v : Value) (F : Fl) (w : World) (hv : FA w v F) (hm : F.nT ≤ 9223372036854775807) :
    Calls Try.prog 20 #[v] w fun e w' => e = .returned (.bool (okFl F)) ∧ Below w.heap.size w w' := by
  obtain ⟨ts, rfl, hts⟩ := hv
  obtain ⟨ao, c, rfl⟩ := hts.shape
  have HT := Lib.hid hts
  clear hts
  cases q1 : wB F.sc 1 16777216
  · have HL := Lib.hid (okFl_head (F := F) (by have := wB_no q1; omega))
    go_enter Try.func20, Try.ntmps20
    go_wp2_with (go_at_call 36; refine (rwithin_any _ _ _ _).mono ?_; rintro e w' ⟨rfl, rfl⟩)
    go_ret
    exact ⟨ret_bool HL.out.symm, below_box _ _⟩
  have HQ1 := Lib.hid (wB_yes q1)
  by_cases q2 : 4 < F.nT
  · have HL := Lib.hid (okFl_head (F := F) (by omega))
    have k2 : (4 : Int) < (F.nT : Int) := by omega
    have k2' : decide (4 < F.nT) = true := by simpa using q2
    go_enter Try.func20, Try.ntmps20
    go_wp2_with (go_at_call 36; refine (rwithin_any _ _ _ _).mono ?_; rintro e w' ⟨rfl, rfl⟩)
    go_ret
    exact ⟨ret_bool HL.out.symm, below_box _ _⟩
  have k2 : ¬ (4 : Int) < (F.nT : Int) := by omega
  have k2' : decide (4 < F.nT) = false := by simpa using q2
  go_enter Try.func20, Try.ntmps20
  go_wp2_with (go_at_call 36; refine (rwithin_any _ _ _ _).mono ?_; rintro e w' ⟨rfl, rfl⟩)
  obtain ⟨w1, hw⟩ : ∃ x, x = w.alloc (.cells #[.int .i64 F.sc, .slice ao F.nT c] 37) := ⟨_, rfl⟩
  rw [← hw]
  have hE : Below w.heap.size w w1 := by rw [hw]; exact below_box _ _
  have y1 : w1.cell? ⟨w.heap.size, 1, none⟩ = some (.slice ao F.nT c) := by rw [hw]; simp [go_sem]
  have hs1 : w.heap.size < w1.heap.size := by rw [hw]; simp
  have HB := Lib.hid hE
  clear hw hE
  go_loopw [3] (fun i wr => ∃ k : Nat, k ≤ F.nT ∧ i = .int .i64 (k : Int) ∧ Below w1.heap.size w1 wr ∧ Hid (∀ i, i < k → okTr (F.T i) = true)) (fun i _ => F.nT - (intOf i).toNat)
  case atStart => exact ⟨0, Nat.zero_le _, rfl, Below.refl _ _, Lib.hid (fun i hi => absurd hi (Nat.not_lt_zero i))⟩
  case round =>
    obtain ⟨k, hk, rfl, hb, HA⟩ := hrel
    have z1 := (hb.cell (p := ⟨w.heap.size, 1, none⟩) hs1).trans y1
    have HBW := Lib.hid hb
    have HB2 := Lib.hid (HB.out.trans (hb.mono HB.out.size))
    clear hb
    by_cases hlt : k < F.nT
    · obtain ⟨b, o, a2, d2, a3, d3, a4, d4, rfl, t0, t1, t2, t3, t4, hta⟩ := (HT.out.below HB2.out).at hlt
      have TT := Lib.hid (hta.below (Below.refl wr.heap.size wr))
      clear hta
      go_wp2_with fail
      refine (rvalid_any _ (F.T k) _ TT.out).mono ?_
      rintro e w3 ⟨rfl, hb3⟩
      have hb3' : Below wr.heap.size wr w3 := hb3
      have HB3 := Lib.hid (HB2.out.trans (hb3'.mono HB2.out.size))
      have HBW3 := Lib.hid (HBW.out.trans (hb3'.mono HBW.out.size))
      clear hb3 hb3' t0 t1 t2 t3 t4 TT z1
      cases hok : okTr (F.T k)
      · have HL := Lib.hid (okFl_tr hlt hok)
        go_wp2_with fail
        go_ret
        exact ⟨ret_bool HL.out.symm, HB3.out⟩
      · have HA2 := Lib.hid (all_step (p := fun i => okTr (F.T i)) HA.out hok)
        go_wp2_with fail
        go_roundw
        case rel => exact ⟨k + 1, by omega, by go_num, HBW3.out, HA2⟩
        case measure => simp [intOf]; omega
    · obtain rfl : k = F.nT := by omega
      have HL := Lib.hid (show okFl F = true by
        unfold okFl
        simp only [Bool.and_eq_true, decide_eq_true_eq, all_range]
        exact ⟨⟨HQ1.out.1, HQ1.out.2, by omega⟩, HA.out⟩)
      go_wp2_with fail
      go_ret
      exact ⟨ret_bool HL.out.symm, HB2.out⟩

end Go.Proofs.Ytkhjkemllgjfmaa

/- The contracts of presented and shown: when a sample is displayed. -/
namespace Go.Proofs.Ytkhjkemllgjfmaa
open Go.RowKit
set_option linter.unusedVariables false

def begE (E : Nat → Ed) : Nat → Int
  | 0 => 0
  | k + 1 => begE E k + (E k).dur
def hitE (T : Tr) (d sc : Int) (i : Nat) : Bool := decide (0 ≤ (T.E i).time ∧ (T.E i).time ≤ d ∧ (d - (T.E i).time) * sc / T.sc < (T.E i).dur)
def showF (T : Tr) (d sc : Int) : Int := if T.nE = 0 then d * sc / T.sc else match (List.range T.nE).find? (hitE T d sc) with
  | some i => begE T.E i + (d - (T.E i).time) * sc / T.sc
  | none => -1
theorem showF_zero {T : Tr} {d sc : Int} (h : T.nE = 0) : showF T d sc = d * sc / T.sc := by unfold showF; rw [if_pos h]
theorem showF_hit {T : Tr} {d sc : Int} {k : Nat} (hk : k < T.nE) (ho : ∀ j, j < k → hitE T d sc j = false) (h : hitE T d sc k = true) : showF T d sc = begE T.E k + (d - (T.E k).time) * sc / T.sc := by
  have : (List.range T.nE).find? (hitE T d sc) = some k := by
    rw [List.find?_range_eq_some]
    exact ⟨h, by simpa using hk, fun j hj => by simp [ho j hj]⟩
  unfold showF; rw [if_neg (by omega), this]
theorem showF_none {T : Tr} {d sc : Int} (hn : T.nE ≠ 0) (ho : ∀ j, j < T.nE → hitE T d sc j = false) : showF T d sc = -1 := by
  have : (List.range T.nE).find? (hitE T d sc) = none := by
    rw [List.find?_eq_none]
    intro j hj
    simp [ho j (by simpa using hj)]
  unfold showF; rw [if_neg hn, this]
theorem begE_bd {E : Nat → Ed} {n k : Nat} (h : ∀ i, i < n → okEd (E i) = true) (hk : k ≤ n) : 0 ≤ begE E k ∧ begE E k ≤ (k : Int) * 2147483647 := by
  induction k with
  | zero => simp [begE]
  | succ k ih =>
    have h1 := ih (by omega)
    have h2 := okEd_yes (h k (by omega))
    simp only [begE]
    omega
theorem mul_in {a b : Int} (ha : 0 ≤ a) (ha2 : a ≤ 137438953472) (hb : 0 ≤ b) (hb2 : b ≤ 16777216) : IntKind.i64.wrap (a * b) = a * b ∧ 0 ≤ a * b ∧ a * b ≤ 2305843009213693952 := by
  have h1 : 0 ≤ a * b := Int.mul_nonneg ha hb
  have h2 : a * b ≤ 137438953472 * 16777216 := Int.mul_le_mul ha2 hb2 hb (by omega)
  exact ⟨IntWalk.i64_in _ (by omega), h1, by omega⟩
theorem no_step {T : Tr} {d sc : Int} {k : Nat} (h : ∀ j, j < k → hitE T d sc j = false) (hk : hitE T d sc k = false) : ∀ j, j < k + 1 → hitE T d sc j = false := by
  intro j hj
  by_cases e : j = k
  · subst e; exact hk
  · exact h j (by omega)

set_option maxRecDepth 100000 in
set_option maxHeartbeats 4000000 in
theorem presented_any (v : Value) (T : Tr) (d sc : Int) (w : World) (hv : TA w v T) (hok : okTr T = true) (hd : 0 ≤ d) (hd2 : d ≤ 137438953472) (hs : 1 ≤ sc) (hs2 : sc ≤ 16777216) :
    Calls Try.prog 34 #[v, .int .i64 d, .int .i64 sc] w fun e w' => e = .returned (.int .i64 (showF T d sc)) ∧ Below w.heap.size w w' := by
  obtain ⟨c0, c1, c2, c3, c4, rfl, rfl, rfl, b2, b3, b4⟩ := hv
  obtain ⟨a2, d2, rfl⟩ := b2.shape
  obtain ⟨a3, d3, rfl⟩ := b3.shape
  obtain ⟨a4, d4, rfl⟩ := b4.shape
  have HB4 := Lib.hid b4
  have ho := okTr_yes hok
  have HOK := Lib.hid ho
  have ts1 := ho.1.2.1
  have ts2 := ho.1.2.2.1
  have tn := ho.1.2.2.2.2.2
  clear b2 b3 b4 hok ho
  by_cases h0 : T.nE = 0
  · have HL := Lib.hid (showF_zero (d := d) (sc := sc) h0)
    obtain ⟨m1, m2, m3⟩ := mul_in hd hd2 (show 0 ≤ sc by omega) hs2
    have k0 : ((T.nE : Int) == 0) = true := by simp; omega
    have H0 := Lib.hid h0
    clear h0
    go_enter Try.func34, Try.ntmps34
    go_wp2_with fail
    go_ret
    exact ⟨ret_i64 HL.out.symm, below_box _ _⟩
  have k0 : ((T.nE : Int) == 0) = false := by simp; omega
  have hn0 : 0 < T.nE := by omega
  go_enter Try.func34, Try.ntmps34
  go_wp2_with fail
  obtain ⟨w1, hw⟩ : ∃ x, x = w.alloc (.cells #[.string T.h, .int .i64 T.sc, .slice a2 T.nC d2, .slice a3 T.nS d3, .slice a4 T.nE d4] 43) := ⟨_, rfl⟩
  rw [← hw]
  have hE : Below w.heap.size w w1 := by rw [hw]; exact below_box _ _
  have y1 : w1.cell? ⟨w.heap.size, 1, none⟩ = some (.int .i64 T.sc) := by rw [hw]; simp [go_sem]
  have y4 : w1.cell? ⟨w.heap.size, 4, none⟩ = some (.slice a4 T.nE d4) := by rw [hw]; simp [go_sem]
  have hs1 : w.heap.size < w1.heap.size := by rw [hw]; simp
  have HB := Lib.hid hE
  clear hw hE
  go_loopw [24, 7] (fun i g wr => ∃ k : Nat, k ≤ T.nE ∧ i = .int .i64 (k : Int) ∧ g = .int .i64 (begE T.E k) ∧ Below w1.heap.size w1 wr ∧ Hid (∀ j, j < k → hitE T d sc j = false)) (fun i _ _ => T.nE - (intOf i).toNat)
  case atStart => exact ⟨0, Nat.zero_le _, rfl, rfl, Below.refl _ _, Lib.hid (fun i hi => absurd hi (Nat.not_lt_zero i))⟩
  case round =>
    obtain ⟨k, hk, rfl, rfl, hb, HA⟩ := hrel
    have z1 := (hb.cell (p := ⟨w.heap.size, 1, none⟩) hs1).trans y1
    have z4 := (hb.cell (p := ⟨w.heap.size, 4, none⟩) hs1).trans y4
    have zs : w.heap.size < wr.heap.size := by have := hb.size; omega
    have zne : (w.heap.size == wr.heap.size) = false := by simp; omega
    have HBW := Lib.hid hb
    have HB2 := Lib.hid (HB.out.trans (hb.mono HB.out.size))
    clear hb
    by_cases hlt : k < T.nE
    · have gb := begE_bd HOK.out.2.2 (show k ≤ T.nE by omega)
      have es := okEd_yes (HOK.out.2.2 k hlt)
      obtain ⟨G, hG⟩ : ∃ G, G = begE T.E k := ⟨_, rfl⟩
      rw [← hG] at gb ⊢
      obtain ⟨ao', c', e, hcc', H⟩ := HB4.out.below HB2.out
      simp only [Value.slice.injEq, true_and] at e
      obtain ⟨rfl, rfl⟩ := e
      obtain ⟨b', o', rfl, h0', h1'⟩ := H k hlt
      obtain ⟨s, hs'⟩ : ∃ s, s = T.E k := ⟨_, rfl⟩
      rw [← hs'] at h0' h1' es
      have g1 := gb.1
      have g2 : G ≤ 137438953472 := by omega
      have e1 := es.1
      have e2 := es.2.1
      have e3 := es.2.2.1
      have hst : begE T.E (k + 1) = G + s.dur := by simp only [begE]; rw [← hs', ← hG]
      have HST := Lib.hid hst
      have EG := Lib.hid hG
      have ES := Lib.hid hs'
      clear H gb es hst hG hs'
      by_cases p1 : s.time < 0
      · have em : s.time = -1 := by omega
        have HN := Lib.hid (no_step HA.out (show hitE T d sc k = false by unfold hitE; rw [← ES.out]; simp; intro h; omega))
        have km : (s.time == -1) = true := by simp [em]
        have km' : (s.time != -1) = false := by simp [em]
        have HEM := Lib.hid em
        have kn : decide (0 ≤ s.time) = false := by simp; omega
        clear em
        go_wp2_with fail
        go_roundw
        case rel => exact ⟨k + 1, by omega, by go_num, by rw [HST.out], HBW.out.alloc HBW.out.size _, HN⟩
        case measure => simp [intOf]; omega
      have km : (s.time == -1) = false := by simp; omega
      have km' : (s.time != -1) = true := by simp; omega
      have kn : decide (0 ≤ s.time) = true := by simp; omega
      have kn' : 0 ≤ s.time := by omega
      by_cases p2 : d < s.time
      · have HN := Lib.hid (no_step HA.out (show hitE T d sc k = false by unfold hitE; rw [← ES.out]; simp; intro h1 h2; omega))
        have kp : decide (s.time ≤ d) = false := by simp; omega
        go_wp2_with fail
        go_roundw
        case rel => exact ⟨k + 1, by omega, by go_num, by rw [HST.out], HBW.out.alloc HBW.out.size _, HN⟩
        case measure => simp [intOf]; omega
      have p2' : s.time ≤ d := by omega
      have kp : decide (s.time ≤ d) = true := by simp; omega
      obtain ⟨m1, m2, m3⟩ := mul_in (show 0 ≤ d - s.time by omega) (by omega) (show 0 ≤ sc by omega) hs2
      obtain ⟨P, hP⟩ : ∃ P, (d - s.time) * sc / T.sc = P := ⟨_, rfl⟩
      have q1 : 0 ≤ P := by rw [← hP]; exact Int.ediv_nonneg m2 (by omega)
      have q2 : P ≤ 2305843009213693952 := by rw [← hP]; exact Int.le_trans (Int.ediv_le_self _ m2) m3
      have HPE := Lib.hid hP
      by_cases p3 : P < s.dur
      · have HL := Lib.hid (showF_hit hlt HA.out (show hitE T d sc k = true by unfold hitE; rw [← ES.out, HPE.out]; simp; omega))
        have HL2 := Lib.hid (show showF T d sc = G + P by rw [HL.out, ← ES.out, ← EG.out, HPE.out])
        go_wp2_with fail
        go_ret
        exact ⟨ret_i64 HL2.out.symm, HB2.out.alloc HB2.out.size _⟩
      · have HN := Lib.hid (no_step HA.out (show hitE T d sc k = false by unfold hitE; rw [← ES.out, HPE.out]; simp; intro h1 h2; omega))
        go_wp2_with fail
        go_roundw
        case rel => exact ⟨k + 1, by omega, by go_num, by rw [HST.out], HBW.out.alloc HBW.out.size _, HN⟩
        case measure => simp [intOf]; omega
    · obtain rfl : k = T.nE := by omega
      have HL := Lib.hid (showF_none (by omega) HA.out)
      go_wp2_with fail
      go_ret
      exact ⟨ret_i64 HL.out.symm, HB2.out⟩

set_option maxRecDepth 100000 in
set_option maxHeartbeats 4000000 in
theorem shown_any (v : Value) (T : Tr) (d sc : Int) (w : World) (x : Value) (hv : TA w v T) (hok : okTr T = true) (hd : 0 ≤ d) (hd2 : d ≤ 137438953472) (hs : 1 ≤ sc) (hs2 : sc ≤ 16777216) (hx : ∃ y, x = .agg #[.int .i64 sc, y] ∧ ∃ a n c, y = .slice a n c) :
    Calls Try.prog 35 #[x, v, .int .i64 d] w fun e w' => e = .returned (.int .i64 (showF T d sc)) ∧ Below w.heap.size w w' := by
  obtain ⟨c0, c1, c2, c3, c4, rfl, rfl, rfl, b2, b3, b4⟩ := hv
  obtain ⟨a2, d2, rfl⟩ := b2.shape
  obtain ⟨a3, d3, rfl⟩ := b3.shape
  obtain ⟨a4, d4, rfl⟩ := b4.shape
  have HB4 := Lib.hid b4
  have ho := okTr_yes hok
  have HOK := Lib.hid ho
  have ts1 := ho.1.2.1
  have ts2 := ho.1.2.2.1
  have tn := ho.1.2.2.2.2.2
  clear b2 b3 b4 hok ho
  obtain ⟨_, rfl, xa, xn, xc, rfl⟩ := hx
  by_cases h0 : T.nE = 0
  · have HL := Lib.hid (showF_zero (d := d) (sc := sc) h0)
    obtain ⟨m1, m2, m3⟩ := mul_in hd hd2 (show 0 ≤ sc by omega) hs2
    have k0 : ((T.nE : Int) == 0) = true := by simp; omega
    have H0 := Lib.hid h0
    clear h0
    go_enter Try.func35, Try.ntmps35
    go_wp2_with fail
    go_ret
    exact ⟨ret_i64 HL.out.symm, by go_grown⟩
  have k0 : ((T.nE : Int) == 0) = false := by simp; omega
  have hn0 : 0 < T.nE := by omega
  go_enter Try.func35, Try.ntmps35
  go_wp2_with fail
  obtain ⟨w1, hw⟩ : ∃ x, x = (w.alloc (.cells #[.int .i64 sc, .slice xa xn xc] 37)).alloc (.cells #[.string T.h, .int .i64 T.sc, .slice a2 T.nC d2, .slice a3 T.nS d3, .slice a4 T.nE d4] 48) := ⟨_, rfl⟩
  rw [← hw]
  have hE : Below w.heap.size w w1 := by rw [hw]; go_grown
  have y1 : w1.cell? ⟨(w.heap.size + 1), 1, none⟩ = some (.int .i64 T.sc) := by rw [hw]; simp [go_sem]
  have y4 : w1.cell? ⟨(w.heap.size + 1), 4, none⟩ = some (.slice a4 T.nE d4) := by rw [hw]; simp [go_sem]
  have x0 : w1.cell? ⟨w.heap.size, 0, none⟩ = some (.int .i64 sc) := by rw [hw]; simp [go_sem]
  have hs1 : (w.heap.size + 1) < w1.heap.size := by rw [hw]; simp
  have HB := Lib.hid hE
  clear hw hE
  go_loopw [8, 7] (fun i g wr => ∃ k : Nat, k ≤ T.nE ∧ i = .int .i64 (k : Int) ∧ g = .int .i64 (begE T.E k) ∧ Below w1.heap.size w1 wr ∧ Hid (∀ j, j < k → hitE T d sc j = false)) (fun i _ _ => T.nE - (intOf i).toNat)
  case atStart => exact ⟨0, Nat.zero_le _, rfl, rfl, Below.refl _ _, Lib.hid (fun i hi => absurd hi (Nat.not_lt_zero i))⟩
  case round =>
    obtain ⟨k, hk, rfl, rfl, hb, HA⟩ := hrel
    have z1 := (hb.cell (p := ⟨(w.heap.size + 1), 1, none⟩) hs1).trans y1
    have z4 := (hb.cell (p := ⟨(w.heap.size + 1), 4, none⟩) hs1).trans y4
    have zx := (hb.cell (p := ⟨w.heap.size, 0, none⟩) (by simp; omega)).trans x0
    have zs : (w.heap.size + 1) < wr.heap.size := by have := hb.size; omega
    have zs0 : w.heap.size < wr.heap.size := by omega
    have zne : ((w.heap.size + 1) == wr.heap.size) = false := by simp; omega
    have HBW := Lib.hid hb
    have HB2 := Lib.hid (HB.out.trans (hb.mono HB.out.size))
    clear hb
    by_cases hlt : k < T.nE
    · have gb := begE_bd HOK.out.2.2 (show k ≤ T.nE by omega)
      have es := okEd_yes (HOK.out.2.2 k hlt)
      obtain ⟨G, hG⟩ : ∃ G, G = begE T.E k := ⟨_, rfl⟩
      rw [← hG] at gb ⊢
      obtain ⟨ao', c', e, hcc', H⟩ := HB4.out.below HB2.out
      simp only [Value.slice.injEq, true_and] at e
      obtain ⟨rfl, rfl⟩ := e
      obtain ⟨b', o', rfl, h0', h1'⟩ := H k hlt
      obtain ⟨s, hs'⟩ : ∃ s, s = T.E k := ⟨_, rfl⟩
      rw [← hs'] at h0' h1' es
      have g1 := gb.1
      have g2 : G ≤ 137438953472 := by omega
      have e1 := es.1
      have e2 := es.2.1
      have e3 := es.2.2.1
      have hst : begE T.E (k + 1) = G + s.dur := by simp only [begE]; rw [← hs', ← hG]
      have HST := Lib.hid hst
      have EG := Lib.hid hG
      have ES := Lib.hid hs'
      clear H gb es hst hG hs'
      by_cases p1 : s.time < 0
      · have em : s.time = -1 := by omega
        have HN := Lib.hid (no_step HA.out (show hitE T d sc k = false by unfold hitE; rw [← ES.out]; simp; intro h; omega))
        have km : (s.time == -1) = true := by simp [em]
        have km' : (s.time != -1) = false := by simp [em]
        have HEM := Lib.hid em
        have kn : decide (0 ≤ s.time) = false := by simp; omega
        clear em
        go_wp2_with fail
        go_roundw
        case rel => exact ⟨k + 1, by omega, by go_num, by rw [HST.out], HBW.out.alloc HBW.out.size _, HN⟩
        case measure => simp [intOf]; omega
      have km : (s.time == -1) = false := by simp; omega
      have km' : (s.time != -1) = true := by simp; omega
      have kn : decide (0 ≤ s.time) = true := by simp; omega
      have kn' : 0 ≤ s.time := by omega
      by_cases p2 : d < s.time
      · have HN := Lib.hid (no_step HA.out (show hitE T d sc k = false by unfold hitE; rw [← ES.out]; simp; intro h1 h2; omega))
        have kp : decide (s.time ≤ d) = false := by simp; omega
        go_wp2_with fail
        go_roundw
        case rel => exact ⟨k + 1, by omega, by go_num, by rw [HST.out], HBW.out.alloc HBW.out.size _, HN⟩
        case measure => simp [intOf]; omega
      have p2' : s.time ≤ d := by omega
      have kp : decide (s.time ≤ d) = true := by simp; omega
      obtain ⟨m1, m2, m3⟩ := mul_in (show 0 ≤ d - s.time by omega) (by omega) (show 0 ≤ sc by omega) hs2
      obtain ⟨P, hP⟩ : ∃ P, (d - s.time) * sc / T.sc = P := ⟨_, rfl⟩
      have q1 : 0 ≤ P := by rw [← hP]; exact Int.ediv_nonneg m2 (by omega)
      have q2 : P ≤ 2305843009213693952 := by rw [← hP]; exact Int.le_trans (Int.ediv_le_self _ m2) m3
      have HPE := Lib.hid hP
      by_cases p3 : P < s.dur
      · have HL := Lib.hid (showF_hit hlt HA.out (show hitE T d sc k = true by unfold hitE; rw [← ES.out, HPE.out]; simp; omega))
        have HL2 := Lib.hid (show showF T d sc = G + P by rw [HL.out, ← ES.out, ← EG.out, HPE.out])
        go_wp2_with fail
        go_ret
        exact ⟨ret_i64 HL2.out.symm, HB2.out.alloc HB2.out.size _⟩
      · have HN := Lib.hid (no_step HA.out (show hitE T d sc k = false by unfold hitE; rw [← ES.out, HPE.out]; simp; intro h1 h2; omega))
        go_wp2_with fail
        go_roundw
        case rel => exact ⟨k + 1, by omega, by go_num, by rw [HST.out], HBW.out.alloc HBW.out.size _, HN⟩
        case measure => simp [intOf]; omega
    · obtain rfl : k = T.nE := by omega
      have HL := Lib.hid (showF_none (by omega) HA.out)
      go_wp2_with fail
      go_ret
      exact ⟨ret_i64 HL.out.symm, HB2.out⟩

end Go.Proofs.Ytkhjkemllgjfmaa
