/- The contracts of validText and cutroomref23.ValidLine. -/
import Derived.Test.YtnnobdcbmagbaaaUC
namespace Go.Proofs.Ytnnobdcbmagbaaa
open Go.RowKit
set_option linter.unusedVariables false

theorem okText_no {s : ByteArray} {k : Nat} (h : k < s.size) (hb : sB s k < 32 ∨ 126 < sB s k) : okText s = false := by
  simp only [okText, decide_eq_false_iff_not]
  rintro ⟨_, _, hh⟩
  have := hh k h
  omega
theorem okText_yes {s : ByteArray} (h1 : 1 ≤ s.size) (h2 : s.size ≤ 64) (hh : ∀ i, i < s.size → 32 ≤ sB s i ∧ sB s i ≤ 126) : okText s = true := by
  simp only [okText, decide_eq_true_eq]
  exact ⟨h1, h2, hh⟩
theorem okText_size {s : ByteArray} (h : s.size < 1 ∨ 64 < s.size) : okText s = false := by
  simp only [okText, decide_eq_false_iff_not]
  rintro ⟨_, _, _⟩
  omega

set_option maxHeartbeats 1000000 in
theorem validText_any (s : ByteArray) (w : World) (hm : s.size ≤ 9223372036854775807) :
    Calls Try.prog 58 #[.string s] w fun e w' => e = .returned (.bool (okText s)) ∧ w = w' := by
  by_cases h1 : s.size < 1
  · have HS := Lib.hid (okText_size (Or.inl h1))
    go_enter Try.func58, Try.ntmps58
    go_wp2
    all_goals go_ret
    all_goals exact ⟨ret_bool HS.out.symm, rfl⟩
  by_cases h2 : 64 < s.size
  · have HS := Lib.hid (okText_size (Or.inr h2))
    go_enter Try.func58, Try.ntmps58
    go_wp2
    all_goals go_ret
    all_goals exact ⟨ret_bool HS.out.symm, rfl⟩
  go_enter Try.func58, Try.ntmps58
  go_wp2
  go_loop [14] (fun i => ∃ k : Nat, k ≤ s.size ∧ i = .int .i64 (k : Int) ∧ Hid (∀ i, i < k → 32 ≤ sB s i ∧ sB s i ≤ 126)) (fun i => s.size - (intOf i).toNat)
  case atStart => exact ⟨0, Nat.zero_le _, rfl, Lib.hid (fun i hi => absurd hi (Nat.not_lt_zero i))⟩
  case round =>
    obtain ⟨k, hk, rfl, HA⟩ := hrel
    by_cases hlt : k < s.size
    · have HB := Lib.hid (sB_at s k hlt)
      by_cases b1 : ((s[k].toNat : Nat) : Int) < 32
      · have HN := Lib.hid (okText_no hlt (Or.inl (by rw [HB.out]; exact b1)))
        go_wp2
        all_goals go_ret
        all_goals exact ⟨ret_bool HN.out.symm, rfl⟩
      by_cases b2 : 126 < ((s[k].toNat : Nat) : Int)
      · have HN := Lib.hid (okText_no hlt (Or.inr (by rw [HB.out]; exact b2)))
        go_wp2
        all_goals go_ret
        all_goals exact ⟨ret_bool HN.out.symm, rfl⟩
      have HC := Lib.hid (show ∀ i, i < k + 1 → 32 ≤ sB s i ∧ sB s i ≤ 126 from fun i hi => by
        by_cases e : i = k
        · subst e; rw [HB.out]; omega
        · exact HA.out i (by omega))
      go_wp2
      go_round
      case rel => exact ⟨k + 1, by omega, by go_num, HC⟩
      case measure => simp [intOf]; omega
    · obtain rfl : k = s.size := by omega
      have HY := Lib.hid (okText_yes (by omega) (by omega) HA.out)
      go_wp2
      go_ret
      exact ⟨ret_bool HY.out.symm, rfl⟩

set_option maxHeartbeats 1000000 in
theorem validLine_any (s : ByteArray) (w : World) (hm : s.size ≤ 9223372036854775807) :
    Calls Try.prog 60 #[.string s] w fun e w' => e = .returned (.bool (okText s)) ∧ w = w' := by
  go_enter Try.func60, Try.ntmps60
  go_wp2
  go_loop [3] (fun i => ∃ k : Nat, k ≤ s.size ∧ i = .int .i64 (k : Int) ∧ Hid (∀ i, i < k → 32 ≤ sB s i ∧ sB s i ≤ 126)) (fun i => s.size - (intOf i).toNat)
  case atStart => exact ⟨0, Nat.zero_le _, rfl, Lib.hid (fun i hi => absurd hi (Nat.not_lt_zero i))⟩
  case round =>
    obtain ⟨k, hk, rfl, HA⟩ := hrel
    by_cases hlt : k < s.size
    · have HB := Lib.hid (sB_at s k hlt)
      by_cases b1 : ((s[k].toNat : Nat) : Int) < 32
      · have HN := Lib.hid (okText_no hlt (Or.inl (by rw [HB.out]; exact b1)))
        go_wp2
        all_goals go_ret
        all_goals exact ⟨ret_bool HN.out.symm, rfl⟩
      by_cases b2 : 126 < ((s[k].toNat : Nat) : Int)
      · have HN := Lib.hid (okText_no hlt (Or.inr (by rw [HB.out]; exact b2)))
        go_wp2
        all_goals go_ret
        all_goals exact ⟨ret_bool HN.out.symm, rfl⟩
      have HC := Lib.hid (show ∀ i, i < k + 1 → 32 ≤ sB s i ∧ sB s i ≤ 126 from fun i hi => by
        by_cases e : i = k
        · subst e; rw [HB.out]; omega
        · exact HA.out i (by omega))
      go_wp2
      go_round
      case rel => exact ⟨k + 1, by omega, by go_num, HC⟩
      case measure => simp [intOf]; omega
    · obtain rfl : k = s.size := by omega
      by_cases h1 : s.size < 1
      · have HS := Lib.hid (okText_size (Or.inl h1))
        go_wp2
        all_goals go_ret
        all_goals exact ⟨ret_bool HS.out.symm, rfl⟩
      by_cases h2 : 64 < s.size
      · have HS := Lib.hid (okText_size (Or.inr h2))
        go_wp2
        all_goals go_ret
        all_goals exact ⟨ret_bool (by rw [HS.out]; simp; omega), rfl⟩
      have HY := Lib.hid (okText_yes (by omega) (by omega) HA.out)
      go_wp2
      all_goals go_ret
      all_goals exact ⟨ret_bool (by rw [HY.out]; simp; omega), rfl⟩

end Go.Proofs.Ytnnobdcbmagbaaa
