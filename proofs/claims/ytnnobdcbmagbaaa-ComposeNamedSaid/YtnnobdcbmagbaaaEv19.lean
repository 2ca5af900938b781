/- Texts of this claim joined: XB XD XE. -/
import Derived.Test.YtnnobdcbmagbaaaEv08
set_option linter.unusedVariables false
set_option linter.unusedSimpArgs false

/- The contracts of timeline.ValidName and cutroomref23.ValidName. -/
namespace Go.Proofs.Ytnnobdcbmagbaaa
open Go.RowKit
set_option linter.unusedVariables false

theorem okName_no {s : ByteArray} {k : Nat} (h : k < s.size) (hb : okB (sB s k) = false) : okName s = false := by
  simp only [okName, decide_eq_false_iff_not]
  rintro ⟨_, _, hh⟩
  rw [hh k h] at hb
  exact absurd hb (by decide)
theorem okName_yes {s : ByteArray} (h1 : 1 ≤ s.size) (h2 : s.size ≤ 32) (hh : ∀ i, i < s.size → okB (sB s i) = true) : okName s = true := by
  simp only [okName, decide_eq_true_eq]
  exact ⟨h1, h2, hh⟩
theorem okName_size {s : ByteArray} (h : s.size < 1 ∨ 32 < s.size) : okName s = false := by
  simp only [okName, decide_eq_false_iff_not]
  rintro ⟨_, _, _⟩
  omega
theorem okB_no {c : Int} (h : (c < 97 ∨ 122 < c) ∧ (c < 48 ∨ 57 < c) ∧ c ≠ 45 ∧ c ≠ 95 ∧ c ≠ 46) : okB c = false := by
  simp only [okB, decide_eq_false_iff_not]; omega
theorem okB_yes {c : Int} (h : (97 ≤ c ∧ c ≤ 122) ∨ (48 ≤ c ∧ c ≤ 57) ∨ c = 45 ∨ c = 95 ∨ c = 46) : okB c = true := by
  simp only [okB, decide_eq_true_eq]; exact h

set_option maxHeartbeats 2000000 in
theorem validName_any (s : ByteArray) (w : World) (hm : s.size ≤ 9223372036854775807) :
    Calls Try.prog 77 #[.string s] w fun e w' => e = .returned (.bool (okName s)) ∧ w = w' := by
  by_cases h1 : s.size < 1
  · have HS := Lib.hid (okName_size (Or.inl h1))
    go_enter Try.func77, Try.ntmps77
    go_wp2
    all_goals go_ret
    all_goals exact ⟨ret_bool HS.out.symm, rfl⟩
  by_cases h2 : 32 < s.size
  · have HS := Lib.hid (okName_size (Or.inr h2))
    go_enter Try.func77, Try.ntmps77
    go_wp2
    all_goals go_ret
    all_goals exact ⟨ret_bool HS.out.symm, rfl⟩
  go_enter Try.func77, Try.ntmps77
  go_wp2
  go_loop [15] (fun i => ∃ k : Nat, k ≤ s.size ∧ i = .int .i64 (k : Int) ∧ Hid (∀ i, i < k → okB (sB s i) = true)) (fun i => s.size - (intOf i).toNat)
  case atStart => exact ⟨0, Nat.zero_le _, rfl, Lib.hid (fun i hi => absurd hi (Nat.not_lt_zero i))⟩
  case round =>
    obtain ⟨k, hk, rfl, HA⟩ := hrel
    by_cases hlt : k < s.size
    · have HB := Lib.hid (sB_at s k hlt)
      by_cases ok : ((97:Int) ≤ (s[k].toNat : Nat) ∧ ((s[k].toNat : Nat) : Int) ≤ 122) ∨ ((48:Int) ≤ (s[k].toNat : Nat) ∧ ((s[k].toNat : Nat) : Int) ≤ 57) ∨ ((s[k].toNat : Nat) : Int) = 45 ∨ ((s[k].toNat : Nat) : Int) = 95 ∨ ((s[k].toNat : Nat) : Int) = 46
      · have HC := Lib.hid (show ∀ i, i < k + 1 → okB (sB s i) = true from fun i hi => by
          by_cases e : i = k
          · subst e; rw [HB.out]; exact okB_yes ok
          · exact HA.out i (by omega))
        rcases ok with ⟨o1, o2⟩ | ⟨o1, o2⟩ | o1 | o1 | o1
        · have t1 : ¬ ((s[k].toNat : Nat) : Int) < 97 := by omega
          have t2 : ¬ 122 < ((s[k].toNat : Nat) : Int) := by omega
          go_wp2
          go_round
          case rel => exact ⟨k + 1, by omega, by go_num, HC⟩
          case measure => simp [intOf]; omega
        · have t1 : ((s[k].toNat : Nat) : Int) < 97 := by omega
          have t3 : ¬ ((s[k].toNat : Nat) : Int) < 48 := by omega
          have t4 : ¬ 57 < ((s[k].toNat : Nat) : Int) := by omega
          go_wp2
          go_round
          case rel => exact ⟨k + 1, by omega, by go_num, HC⟩
          case measure => simp [intOf]; omega
        · have t1 : ((s[k].toNat : Nat) : Int) < 97 := by omega
          have t3 : ((s[k].toNat : Nat) : Int) < 48 := by omega
          go_wp2
          go_round
          case rel => exact ⟨k + 1, by omega, by go_num, HC⟩
          case measure => simp [intOf]; omega
        · have t1 : ((s[k].toNat : Nat) : Int) < 97 := by omega
          have t3 : ¬ ((s[k].toNat : Nat) : Int) < 48 := by omega
          have t4 : 57 < ((s[k].toNat : Nat) : Int) := by omega
          go_wp2
          go_round
          case rel => exact ⟨k + 1, by omega, by go_num, HC⟩
          case measure => simp [intOf]; omega
        · have t1 : ((s[k].toNat : Nat) : Int) < 97 := by omega
          have t3 : ((s[k].toNat : Nat) : Int) < 48 := by omega
          go_wp2
          go_round
          case rel => exact ⟨k + 1, by omega, by go_num, HC⟩
          case measure => simp [intOf]; omega
      · have HN := Lib.hid (okName_no hlt (by rw [HB.out]; exact okB_no (by omega)))
        have t5 : (((s[k].toNat : Nat) : Int) != 45) = true := by rw [bne_iff_ne]; omega
        have t6 : (((s[k].toNat : Nat) : Int) != 95) = true := by rw [bne_iff_ne]; omega
        have t7 : (((s[k].toNat : Nat) : Int) != 46) = true := by rw [bne_iff_ne]; omega
        by_cases a1 : ((s[k].toNat : Nat) : Int) < 48
        · have t1 : ((s[k].toNat : Nat) : Int) < 97 := by omega
          have t3 : ((s[k].toNat : Nat) : Int) < 48 := by omega
          go_wp2
          all_goals go_ret
          all_goals exact ⟨ret_bool HN.out.symm, rfl⟩
        by_cases a2 : ((s[k].toNat : Nat) : Int) < 97
        · have t1 : ((s[k].toNat : Nat) : Int) < 97 := by omega
          have t3 : ¬ ((s[k].toNat : Nat) : Int) < 48 := by omega
          have t4 : 57 < ((s[k].toNat : Nat) : Int) := by omega
          go_wp2
          all_goals go_ret
          all_goals exact ⟨ret_bool HN.out.symm, rfl⟩
        · have t1 : ¬ ((s[k].toNat : Nat) : Int) < 97 := by omega
          have t2 : 122 < ((s[k].toNat : Nat) : Int) := by omega
          have t3 : ¬ ((s[k].toNat : Nat) : Int) < 48 := by omega
          have t4 : 57 < ((s[k].toNat : Nat) : Int) := by omega
          go_wp2
          all_goals go_ret
          all_goals exact ⟨ret_bool HN.out.symm, rfl⟩
    · obtain rfl : k = s.size := by omega
      have HY := Lib.hid (okName_yes (by omega) (by omega) HA.out)
      go_wp2
      go_ret
      exact ⟨ret_bool HY.out.symm, rfl⟩

set_option maxHeartbeats 2000000 in
theorem rvalidName_any (s : ByteArray) (w : World) (hm : s.size ≤ 9223372036854775807) :
    Calls Try.prog 72 #[.string s] w fun e w' => e = .returned (.bool (okName s)) ∧ w = w' := by
  go_enter Try.func72, Try.ntmps72
  go_wp2
  go_loop [3] (fun i => ∃ k : Nat, k ≤ s.size ∧ i = .int .i64 (k : Int) ∧ Hid (∀ i, i < k → okB (sB s i) = true)) (fun i => s.size - (intOf i).toNat)
  case atStart => exact ⟨0, Nat.zero_le _, rfl, Lib.hid (fun i hi => absurd hi (Nat.not_lt_zero i))⟩
  case round =>
    obtain ⟨k, hk, rfl, HA⟩ := hrel
    by_cases hlt : k < s.size
    · have HB := Lib.hid (sB_at s k hlt)
      by_cases ok : ((97:Int) ≤ (s[k].toNat : Nat) ∧ ((s[k].toNat : Nat) : Int) ≤ 122) ∨ ((48:Int) ≤ (s[k].toNat : Nat) ∧ ((s[k].toNat : Nat) : Int) ≤ 57) ∨ ((s[k].toNat : Nat) : Int) = 45 ∨ ((s[k].toNat : Nat) : Int) = 95 ∨ ((s[k].toNat : Nat) : Int) = 46
      · have HC := Lib.hid (show ∀ i, i < k + 1 → okB (sB s i) = true from fun i hi => by
          by_cases e : i = k
          · subst e; rw [HB.out]; exact okB_yes ok
          · exact HA.out i (by omega))
        rcases ok with ⟨o1, o2⟩ | ⟨o1, o2⟩ | o1 | o1 | o1
        · have t1 : ¬ ((s[k].toNat : Nat) : Int) < 97 := by omega
          have t2 : ¬ 122 < ((s[k].toNat : Nat) : Int) := by omega
          go_wp2
          go_round
          case rel => exact ⟨k + 1, by omega, by go_num, HC⟩
          case measure => simp [intOf]; omega
        · have t1 : ((s[k].toNat : Nat) : Int) < 97 := by omega
          have t3 : ¬ ((s[k].toNat : Nat) : Int) < 48 := by omega
          have t4 : ¬ 57 < ((s[k].toNat : Nat) : Int) := by omega
          go_wp2
          go_round
          case rel => exact ⟨k + 1, by omega, by go_num, HC⟩
          case measure => simp [intOf]; omega
        · have t1 : ((s[k].toNat : Nat) : Int) < 97 := by omega
          have t3 : ((s[k].toNat : Nat) : Int) < 48 := by omega
          go_wp2
          go_round
          case rel => exact ⟨k + 1, by omega, by go_num, HC⟩
          case measure => simp [intOf]; omega
        · have t1 : ((s[k].toNat : Nat) : Int) < 97 := by omega
          have t3 : ¬ ((s[k].toNat : Nat) : Int) < 48 := by omega
          have t4 : 57 < ((s[k].toNat : Nat) : Int) := by omega
          go_wp2
          go_round
          case rel => exact ⟨k + 1, by omega, by go_num, HC⟩
          case measure => simp [intOf]; omega
        · have t1 : ((s[k].toNat : Nat) : Int) < 97 := by omega
          have t3 : ((s[k].toNat : Nat) : Int) < 48 := by omega
          go_wp2
          go_round
          case rel => exact ⟨k + 1, by omega, by go_num, HC⟩
          case measure => simp [intOf]; omega
      · have HN := Lib.hid (okName_no hlt (by rw [HB.out]; exact okB_no (by omega)))
        have t5 : (((s[k].toNat : Nat) : Int) != 45) = true := by rw [bne_iff_ne]; omega
        have t6 : (((s[k].toNat : Nat) : Int) != 95) = true := by rw [bne_iff_ne]; omega
        have t7 : (((s[k].toNat : Nat) : Int) != 46) = true := by rw [bne_iff_ne]; omega
        by_cases a1 : ((s[k].toNat : Nat) : Int) < 48
        · have t1 : ((s[k].toNat : Nat) : Int) < 97 := by omega
          have t3 : ((s[k].toNat : Nat) : Int) < 48 := by omega
          go_wp2
          all_goals go_ret
          all_goals exact ⟨ret_bool HN.out.symm, rfl⟩
        by_cases a2 : ((s[k].toNat : Nat) : Int) < 97
        · have t1 : ((s[k].toNat : Nat) : Int) < 97 := by omega
          have t3 : ¬ ((s[k].toNat : Nat) : Int) < 48 := by omega
          have t4 : 57 < ((s[k].toNat : Nat) : Int) := by omega
          go_wp2
          all_goals go_ret
          all_goals exact ⟨ret_bool HN.out.symm, rfl⟩
        · have t1 : ¬ ((s[k].toNat : Nat) : Int) < 97 := by omega
          have t2 : 122 < ((s[k].toNat : Nat) : Int) := by omega
          have t3 : ¬ ((s[k].toNat : Nat) : Int) < 48 := by omega
          have t4 : 57 < ((s[k].toNat : Nat) : Int) := by omega
          go_wp2
          all_goals go_ret
          all_goals exact ⟨ret_bool HN.out.symm, rfl⟩
    · obtain rfl : k = s.size := by omega
      by_cases h1 : s.size < 1
      · have HS := Lib.hid (okName_size (Or.inl h1))
        go_wp2
        all_goals go_ret
        all_goals exact ⟨ret_bool HS.out.symm, rfl⟩
      by_cases h2 : 32 < s.size
      · have HS := Lib.hid (okName_size (Or.inr h2))
        go_wp2
        all_goals go_ret
        all_goals exact ⟨ret_bool (by rw [HS.out]; simp; omega), rfl⟩
      have HY := Lib.hid (okName_yes (by omega) (by omega) HA.out)
      go_wp2
      all_goals go_ret
      all_goals exact ⟨ret_bool (by rw [HY.out]; simp; omega), rfl⟩

end Go.Proofs.Ytnnobdcbmagbaaa

/- The contract of denote.validText. -/
namespace Go.Proofs.Ytnnobdcbmagbaaa
open Go.RowKit
set_option linter.unusedVariables false

set_option maxHeartbeats 1000000 in
theorem dvalidText_any (s : ByteArray) (w : World) (hm : s.size ≤ 9223372036854775807) :
    Calls Try.prog 79 #[.string s] w fun e w' => e = .returned (.bool (okText s)) ∧ w = w' := by
  by_cases h1 : s.size < 1
  · have HS := Lib.hid (okText_size (Or.inl h1))
    go_enter Try.func79, Try.ntmps79
    go_wp2
    all_goals go_ret
    all_goals exact ⟨ret_bool HS.out.symm, rfl⟩
  by_cases h2 : 64 < s.size
  · have HS := Lib.hid (okText_size (Or.inr h2))
    go_enter Try.func79, Try.ntmps79
    go_wp2
    all_goals go_ret
    all_goals exact ⟨ret_bool HS.out.symm, rfl⟩
  go_enter Try.func79, Try.ntmps79
  go_wp2
  go_loop [14] (fun i => ∃ k : Nat, k ≤ s.size ∧ i = .int .i64 (k : Int) ∧ Hid (∀ i, i < k → 32 ≤ sB s i ∧ sB s i ≤ 126)) (fun i => s.size - (intOf i).toNat)
  case atStart => exact ⟨0, Nat.zero_le _, rfl, Lib.hid (fun i hi => absurd hi (Nat.not_lt_zero i))⟩
  case round =>
    obtain ⟨k, hk, rfl, HA⟩ := hrel
    by_cases hlt : k < s.size
    · have HB := Lib.hid (sB_at s k hlt)
      by_cases b1 : ((s[k].toNat : Nat) : Int) < 32
      · have HN := Lib.hid (okText_no hlt (Or.inl (by rw [HB.out]; exact b1)))
        go_wp2
        all_goals go_ret
        all_goals exact ⟨ret_bool HN.out.symm, rfl⟩
      by_cases b2 : 126 < ((s[k].toNat : Nat) : Int)
      · have HN := Lib.hid (okText_no hlt (Or.inr (by rw [HB.out]; exact b2)))
        go_wp2
        all_goals go_ret
        all_goals exact ⟨ret_bool HN.out.symm, rfl⟩
      have HC := Lib.hid (show ∀ i, i < k + 1 → 32 ≤ sB s i ∧ sB s i ≤ 126 from fun i hi => by
        by_cases e : i = k
        · subst e; rw [HB.out]; omega
        · exact HA.out i (by omega))
      go_wp2
      go_round
      case rel => exact ⟨k + 1, by omega, by go_num, HC⟩
      case measure => simp [intOf]; omega
    · obtain rfl : k = s.size := by omega
      have HY := Lib.hid (okText_yes (by omega) (by omega) HA.out)
      go_wp2
      go_ret
      exact ⟨ret_bool HY.out.symm, rfl⟩


end Go.Proofs.Ytnnobdcbmagbaaa

/- The contract of denote.validFields (operations 0, 1, 4). -/
namespace Go.Proofs.Ytnnobdcbmagbaaa
open Go.RowKit
set_option linter.unusedVariables false

theorem be_nil (s : ByteArray) : s = ByteArray.empty ↔ s.toList = [] := by
  constructor
  · rintro rfl; rw [ByteArray.toList_eq]; rfl
  · intro h
    rw [ByteArray.toList_eq] at h
    obtain ⟨⟨l⟩⟩ := s
    simp only at h
    subst h; rfl

set_option maxRecDepth 100000 in
set_option maxHeartbeats 8000000 in
theorem fields_0 (f : Fld) (ao : Option Addr) (c : Nat) (w : World) (hf : f.fit) (ho : f.op = 0) :
    Calls Try.prog 71 #[f.val (.slice ao f.n c)] w fun e w' => e = .returned (.bool (okFld f)) ∧ Below w.heap.size w w' := by
  obtain ⟨op, media, frame, num, den, par, text, n⟩ := f
  obtain ⟨hm, ht, hn⟩ := hf
  simp only at ho hm ht hn
  subst ho
  show Calls Try.prog 71 #[.agg #[.int .i64 0, .string media, .int .i64 frame, .int .i64 num, .int .i64 den, .int .i64 par, .string text, .slice ao n c]] w _
  go_enter Try.func71, Try.ntmps71
  go_wp2
  all_goals go_quiet (fail)
  all_goals go_wp2_with fail
  all_goals go_ret
  all_goals refine ⟨ret_bool ?_, by first | exact below_drewN (below_box w _) _ | exact (below_drewN (below_box w _) _).trans (hb.mono (by simp [go_sem]))⟩
  all_goals clear hm ht hn
  all_goals (rw [Bool.eq_iff_iff]; simp [okFld, be_nil, *])
  all_goals (first | omega | trace_state)

set_option maxRecDepth 100000 in
set_option maxHeartbeats 8000000 in
theorem fields_1 (f : Fld) (ao : Option Addr) (c : Nat) (w : World) (hf : f.fit) (ho : f.op = 1) :
    Calls Try.prog 71 #[f.val (.slice ao f.n c)] w fun e w' => e = .returned (.bool (okFld f)) ∧ Below w.heap.size w w' := by
  obtain ⟨op, media, frame, num, den, par, text, n⟩ := f
  obtain ⟨hm, ht, hn⟩ := hf
  simp only at ho hm ht hn
  subst ho
  show Calls Try.prog 71 #[.agg #[.int .i64 1, .string media, .int .i64 frame, .int .i64 num, .int .i64 den, .int .i64 par, .string text, .slice ao n c]] w _
  go_enter Try.func71, Try.ntmps71
  go_wp2
  all_goals go_quiet (fail)
  all_goals go_wp2_with (first | (go_at_call 77; refine (validName_any _ _ hm).mono ?_; rintro e w1 ⟨rfl, rfl⟩) | fail)
  all_goals go_ret
  all_goals refine ⟨ret_bool ?_, by first | exact below_drewN (below_box w _) _ | exact (below_drewN (below_box w _) _).trans (hb.mono (by simp [go_sem]))⟩
  all_goals clear hm ht hn
  all_goals (rw [Bool.eq_iff_iff]; simp [okFld, be_nil, *])
  all_goals (first | omega | trace_state)

set_option maxRecDepth 100000 in
set_option maxHeartbeats 8000000 in
theorem fields_4 (f : Fld) (ao : Option Addr) (c : Nat) (w : World) (hf : f.fit) (ho : f.op = 4) :
    Calls Try.prog 71 #[f.val (.slice ao f.n c)] w fun e w' => e = .returned (.bool (okFld f)) ∧ Below w.heap.size w w' := by
  obtain ⟨op, media, frame, num, den, par, text, n⟩ := f
  obtain ⟨hm, ht, hn⟩ := hf
  simp only at ho hm ht hn
  subst ho
  show Calls Try.prog 71 #[.agg #[.int .i64 4, .string media, .int .i64 frame, .int .i64 num, .int .i64 den, .int .i64 par, .string text, .slice ao n c]] w _
  go_enter Try.func71, Try.ntmps71
  go_wp2
  all_goals go_quiet (fail)
  all_goals go_wp2_with fail
  all_goals go_ret
  all_goals refine ⟨ret_bool ?_, by first | exact below_drewN (below_box w _) _ | exact (below_drewN (below_box w _) _).trans (hb.mono (by simp [go_sem]))⟩
  all_goals clear hm ht hn
  all_goals (rw [Bool.eq_iff_iff]; simp [okFld, be_nil, *])
  all_goals (first | omega | trace_state)

end Go.Proofs.Ytnnobdcbmagbaaa
