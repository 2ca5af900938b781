/- Texts of this claim joined: AS. -/
import Derived.Deep.CutRange
import Derived.Test.YtnmkcpgcdjhdjaaVa18
set_option linter.unusedVariables false
set_option linter.unusedSimpArgs false

/- Valid of the reference at any edit: kinds 5, 6. -/
namespace Go.Proofs.Ytnmkcpgcdjhdjaa
open Go.RowKit
set_option linter.unusedVariables false
set_option linter.unusedSimpArgs false
set_option maxRecDepth 100000 in
set_option maxHeartbeats 16000000 in
theorem rvalid_5 (p n c d sn sd : Int) (v : Value) (l : List Trk.Clip) (w : World) (h : GT w v l) (hI : InE 5 p n c d sn sd) (hS : TrackSays 40) :
    Calls Try.prog 17 #[edV 5 p n c d sn sd v] w fun e w' => e = .returned (.bool (editB 5 p n c d sn sd l)) ∧ Below w.heap.size w w' := by
  have HU := Lib.hid h
  have HS := Lib.hid hS
  have HIN := Lib.hid hI
  obtain ⟨R, hR⟩ : ∃ R, R = editB 5 p n c d sn sd l := ⟨_, rfl⟩
  rw [← hR]
  have HR := Lib.hid hR
  obtain ⟨ao, cap, rfl, -⟩ := h
  obtain ⟨N, hN⟩ : ∃ N, N = l.length := ⟨_, rfl⟩
  rw [← hN] at HU
  unfold edV
  rw [← hN]
  have HN := Lib.hid hN
  clear hN hR hS hI
  obtain ⟨EE, hEE⟩ : ∃ E, E = edC 5 p n c d sn sd (.slice ao N cap) := ⟨_, rfl⟩
  rw [← hEE]
  have HEE := Lib.hid hEE
  clear hEE
  go_enter Try.func17, Try.ntmps17
  go_upto_region 1 with fail
  obtain ⟨w1, hw1⟩ : ∃ y, y = w.alloc (.cells EE 26) := ⟨_, rfl⟩
  rw [← hw1]
  obtain ⟨g, hg⟩ : ∃ y, y = w.heap.size := ⟨_, rfl⟩
  rw [← hg]
  have HE := Lib.hid (show ED w1 g 5 p n c d sn sd (.slice ao N cap) by rw [hw1, hg, HEE.out]; exact ED.box w 5 p n c d sn sd (.slice ao N cap) rfl 26)
  have HB := Lib.hid (show Below w.heap.size w w1 by rw [hw1]; exact below_box _ _)
  clear hw1 hg HEE
  by_cases p0 : p = 0
  rotate_left
  · have HRR : Hid (R = false) := Lib.hid (by rw [HR.out]; exact editB_no (fun h => by unfold EditP at h; omega))
    have gp0 : (p != 0) = true := by simp; omega
    obtain ⟨e0, e1, e2, e3, e4, e5, e6, e7, ef⟩ := HE.out
    go_wp2_with fail
    go_ret
    exact ⟨ret_bool (HRR.out).symm, HB.out⟩
  have Tp0 := Lib.hid p0
  have gp0 : (p != 0) = false := by simp [p0]
  clear p0
  by_cases n0 : n = 0
  rotate_left
  · have HRR : Hid (R = false) := Lib.hid (by rw [HR.out]; exact editB_no (fun h => by unfold EditP at h; omega))
    have gn0 : (n != 0) = true := by simp; omega
    obtain ⟨e0, e1, e2, e3, e4, e5, e6, e7, ef⟩ := HE.out
    go_wp2_with fail
    go_ret
    exact ⟨ret_bool (HRR.out).symm, HB.out⟩
  have Tn0 := Lib.hid n0
  have gn0 : (n != 0) = false := by simp [n0]
  clear n0
  obtain ⟨e0, e1, e2, e3, e4, e5, e6, e7, ef⟩ := HE.out
  go_upto_region 20 with fail
  clear e0 e1 e2 e3 e4 e5 e6 e7 ef
  by_cases c0 : 0 ≤ c
  rotate_left
  · have HRR : Hid (R = false) := Lib.hid (by rw [HR.out]; exact editB_no (fun h => by unfold EditP at h; omega))
    obtain ⟨e0, e1, e2, e3, e4, e5, e6, e7, ef⟩ := HE.out
    go_wp2_with fail
    go_ret
    exact ⟨ret_bool (HRR.out).symm, HB.out⟩
  by_cases tl : N = 0
  rotate_left
  · have HRR : Hid (R = false) := Lib.hid (by rw [HR.out]; have := HN.out; exact editB_no (fun h => by unfold EditP at h; omega))
    have gl : decide ((N : Int) > 0) = true := decide_eq_true (by omega)
    obtain ⟨e0, e1, e2, e3, e4, e5, e6, e7, ef⟩ := HE.out
    go_wp2_with fail
    go_ret
    exact ⟨ret_bool (HRR.out).symm, HB.out⟩
  have TL := Lib.hid (show l.length = 0 by rw [← HN.out]; exact tl)
  subst tl
  obtain ⟨e0, e1, e2, e3, e4, e5, e6, e7, ef⟩ := HE.out
  go_upto_region 22 with fail
  clear e0 e1 e2 e3 e4 e5 e6 e7 ef
  by_cases d0 : d = 0
  · have HRR : Hid (R = false) := Lib.hid (by rw [HR.out]; exact editB_no (fun h => by unfold EditP at h; omega))
    have gd : (d == 0) = true := by simp [d0]
    obtain ⟨e0, e1, e2, e3, e4, e5, e6, e7, ef⟩ := HE.out
    go_wp2_with fail
    go_ret
    exact ⟨ret_bool (HRR.out).symm, HB.out⟩
  have gd : (d == 0) = false := by simp [d0]
  have Td0 := Lib.hid d0
  clear d0
  by_cases d1 : -2147483647 ≤ d
  rotate_left
  · have HRR : Hid (R = false) := Lib.hid (by rw [HR.out]; exact editB_no (fun h => by unfold EditP at h; omega))
    obtain ⟨e0, e1, e2, e3, e4, e5, e6, e7, ef⟩ := HE.out
    go_wp2_with fail
    go_ret
    exact ⟨ret_bool (HRR.out).symm, HB.out⟩
  by_cases d2 : d ≤ 2147483647
  rotate_left
  · have HRR : Hid (R = false) := Lib.hid (by rw [HR.out]; exact editB_no (fun h => by unfold EditP at h; omega))
    obtain ⟨e0, e1, e2, e3, e4, e5, e6, e7, ef⟩ := HE.out
    go_wp2_with fail
    go_ret
    exact ⟨ret_bool (HRR.out).symm, HB.out⟩
  obtain ⟨e0, e1, e2, e3, e4, e5, e6, e7, ef⟩ := HE.out
  go_upto_region 24 with fail
  clear e0 e1 e2 e3 e4 e5 e6 e7 ef
  by_cases sa : sn = 0
  rotate_left
  · have HRR : Hid (R = false) := Lib.hid (by rw [HR.out]; exact editB_no (fun h => by unfold EditP at h; omega))
    obtain ⟨e0, e1, e2, e3, e4, e5, e6, e7, ef⟩ := HE.out
    go_wp2_with fail
    go_ret
    exact ⟨ret_bool (HRR.out).symm, HB.out⟩
  by_cases sb : sd = 0
  rotate_left
  · have HRR : Hid (R = false) := Lib.hid (by rw [HR.out]; exact editB_no (fun h => by unfold EditP at h; omega))
    obtain ⟨e0, e1, e2, e3, e4, e5, e6, e7, ef⟩ := HE.out
    go_wp2_with fail
    go_ret
    exact ⟨ret_bool (HRR.out).symm, HB.out⟩
  have HRR : Hid (R = true) := Lib.hid (by rw [HR.out]; exact editB_yes (.inr (.inr (.inl ⟨by decide, Tp0.out, Tn0.out, c0, Td0.out, d1, d2, sa, sb, TL.out⟩))))
  obtain ⟨e0, e1, e2, e3, e4, e5, e6, e7, ef⟩ := HE.out
  go_wp2_with fail
  go_ret
  exact ⟨ret_bool (HRR.out).symm, HB.out⟩
set_option maxRecDepth 100000 in
set_option maxHeartbeats 16000000 in
theorem rvalid_6 (p n c d sn sd : Int) (v : Value) (l : List Trk.Clip) (w : World) (h : GT w v l) (hI : InE 6 p n c d sn sd) (hS : TrackSays 40) :
    Calls Try.prog 17 #[edV 6 p n c d sn sd v] w fun e w' => e = .returned (.bool (editB 6 p n c d sn sd l)) ∧ Below w.heap.size w w' := by
  have HU := Lib.hid h
  have HS := Lib.hid hS
  have HIN := Lib.hid hI
  obtain ⟨R, hR⟩ : ∃ R, R = editB 6 p n c d sn sd l := ⟨_, rfl⟩
  rw [← hR]
  have HR := Lib.hid hR
  obtain ⟨ao, cap, rfl, -⟩ := h
  obtain ⟨N, hN⟩ : ∃ N, N = l.length := ⟨_, rfl⟩
  rw [← hN] at HU
  unfold edV
  rw [← hN]
  have HN := Lib.hid hN
  clear hN hR hS hI
  obtain ⟨EE, hEE⟩ : ∃ E, E = edC 6 p n c d sn sd (.slice ao N cap) := ⟨_, rfl⟩
  rw [← hEE]
  have HEE := Lib.hid hEE
  clear hEE
  go_enter Try.func17, Try.ntmps17
  go_upto_region 1 with fail
  obtain ⟨w1, hw1⟩ : ∃ y, y = w.alloc (.cells EE 26) := ⟨_, rfl⟩
  rw [← hw1]
  obtain ⟨g, hg⟩ : ∃ y, y = w.heap.size := ⟨_, rfl⟩
  rw [← hg]
  have HE := Lib.hid (show ED w1 g 6 p n c d sn sd (.slice ao N cap) by rw [hw1, hg, HEE.out]; exact ED.box w 6 p n c d sn sd (.slice ao N cap) rfl 26)
  have HB := Lib.hid (show Below w.heap.size w w1 by rw [hw1]; exact below_box _ _)
  clear hw1 hg HEE
  by_cases p0 : p = 0
  rotate_left
  · have HRR : Hid (R = false) := Lib.hid (by rw [HR.out]; exact editB_no (fun h => by unfold EditP at h; omega))
    have gp0 : (p != 0) = true := by simp; omega
    obtain ⟨e0, e1, e2, e3, e4, e5, e6, e7, ef⟩ := HE.out
    go_wp2_with fail
    go_ret
    exact ⟨ret_bool (HRR.out).symm, HB.out⟩
  have Tp0 := Lib.hid p0
  have gp0 : (p != 0) = false := by simp [p0]
  clear p0
  by_cases n0 : n = 0
  rotate_left
  · have HRR : Hid (R = false) := Lib.hid (by rw [HR.out]; exact editB_no (fun h => by unfold EditP at h; omega))
    have gn0 : (n != 0) = true := by simp; omega
    obtain ⟨e0, e1, e2, e3, e4, e5, e6, e7, ef⟩ := HE.out
    go_wp2_with fail
    go_ret
    exact ⟨ret_bool (HRR.out).symm, HB.out⟩
  have Tn0 := Lib.hid n0
  have gn0 : (n != 0) = false := by simp [n0]
  clear n0
  obtain ⟨e0, e1, e2, e3, e4, e5, e6, e7, ef⟩ := HE.out
  go_upto_region 20 with fail
  clear e0 e1 e2 e3 e4 e5 e6 e7 ef
  by_cases c0 : 0 ≤ c
  rotate_left
  · have HRR : Hid (R = false) := Lib.hid (by rw [HR.out]; exact editB_no (fun h => by unfold EditP at h; omega))
    obtain ⟨e0, e1, e2, e3, e4, e5, e6, e7, ef⟩ := HE.out
    go_wp2_with fail
    go_ret
    exact ⟨ret_bool (HRR.out).symm, HB.out⟩
  by_cases tl : N = 0
  rotate_left
  · have HRR : Hid (R = false) := Lib.hid (by rw [HR.out]; have := HN.out; exact editB_no (fun h => by unfold EditP at h; omega))
    have gl : decide ((N : Int) > 0) = true := decide_eq_true (by omega)
    obtain ⟨e0, e1, e2, e3, e4, e5, e6, e7, ef⟩ := HE.out
    go_wp2_with fail
    go_ret
    exact ⟨ret_bool (HRR.out).symm, HB.out⟩
  have TL := Lib.hid (show l.length = 0 by rw [← HN.out]; exact tl)
  subst tl
  obtain ⟨e0, e1, e2, e3, e4, e5, e6, e7, ef⟩ := HE.out
  go_upto_region 22 with fail
  clear e0 e1 e2 e3 e4 e5 e6 e7 ef
  by_cases d0 : d = 0
  · have HRR : Hid (R = false) := Lib.hid (by rw [HR.out]; exact editB_no (fun h => by unfold EditP at h; omega))
    have gd : (d == 0) = true := by simp [d0]
    obtain ⟨e0, e1, e2, e3, e4, e5, e6, e7, ef⟩ := HE.out
    go_wp2_with fail
    go_ret
    exact ⟨ret_bool (HRR.out).symm, HB.out⟩
  have gd : (d == 0) = false := by simp [d0]
  have Td0 := Lib.hid d0
  clear d0
  by_cases d1 : -2147483647 ≤ d
  rotate_left
  · have HRR : Hid (R = false) := Lib.hid (by rw [HR.out]; exact editB_no (fun h => by unfold EditP at h; omega))
    obtain ⟨e0, e1, e2, e3, e4, e5, e6, e7, ef⟩ := HE.out
    go_wp2_with fail
    go_ret
    exact ⟨ret_bool (HRR.out).symm, HB.out⟩
  by_cases d2 : d ≤ 2147483647
  rotate_left
  · have HRR : Hid (R = false) := Lib.hid (by rw [HR.out]; exact editB_no (fun h => by unfold EditP at h; omega))
    obtain ⟨e0, e1, e2, e3, e4, e5, e6, e7, ef⟩ := HE.out
    go_wp2_with fail
    go_ret
    exact ⟨ret_bool (HRR.out).symm, HB.out⟩
  obtain ⟨e0, e1, e2, e3, e4, e5, e6, e7, ef⟩ := HE.out
  go_upto_region 24 with fail
  clear e0 e1 e2 e3 e4 e5 e6 e7 ef
  by_cases sa : sn = 0
  rotate_left
  · have HRR : Hid (R = false) := Lib.hid (by rw [HR.out]; exact editB_no (fun h => by unfold EditP at h; omega))
    obtain ⟨e0, e1, e2, e3, e4, e5, e6, e7, ef⟩ := HE.out
    go_wp2_with fail
    go_ret
    exact ⟨ret_bool (HRR.out).symm, HB.out⟩
  by_cases sb : sd = 0
  rotate_left
  · have HRR : Hid (R = false) := Lib.hid (by rw [HR.out]; exact editB_no (fun h => by unfold EditP at h; omega))
    obtain ⟨e0, e1, e2, e3, e4, e5, e6, e7, ef⟩ := HE.out
    go_wp2_with fail
    go_ret
    exact ⟨ret_bool (HRR.out).symm, HB.out⟩
  have HRR : Hid (R = true) := Lib.hid (by rw [HR.out]; exact editB_yes (.inr (.inr (.inl ⟨by decide, Tp0.out, Tn0.out, c0, Td0.out, d1, d2, sa, sb, TL.out⟩))))
  obtain ⟨e0, e1, e2, e3, e4, e5, e6, e7, ef⟩ := HE.out
  go_wp2_with fail
  go_ret
  exact ⟨ret_bool (HRR.out).symm, HB.out⟩
end Go.Proofs.Ytnmkcpgcdjhdjaa
