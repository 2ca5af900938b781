/- Texts of this claim joined: AU XB XC XD XE. -/
import Derived.Deep.CutRange
import Derived.Test.YtnmkcpgcdjhdjaaVa13
import Derived.Test.YtnmkcpgcdjhdjaaVa21
import Derived.Test.YtnmkcpgcdjhdjaaVa22
import Derived.Test.YtnmkcpgcdjhdjaaVa23
import Derived.Test.YtnmkcpgcdjhdjaaVa24
set_option linter.unusedVariables false
set_option linter.unusedSimpArgs false

/- Valid of the reference at any edit: kinds 9, 10. -/
namespace Go.Proofs.Ytnmkcpgcdjhdjaa
open Go.RowKit
set_option linter.unusedVariables false
set_option linter.unusedSimpArgs false
set_option maxRecDepth 100000 in
set_option maxHeartbeats 16000000 in
theorem rvalid_9 (p n c d sn sd : Int) (v : Value) (l : List Trk.Clip) (w : World) (h : GT w v l) (hI : InE 9 p n c d sn sd) (hS : TrackSays 40) :
    Calls Try.prog 17 #[edV 9 p n c d sn sd v] w fun e w' => e = .returned (.bool (editB 9 p n c d sn sd l)) ∧ Below w.heap.size w w' := by
  have HU := Lib.hid h
  have HS := Lib.hid hS
  have HIN := Lib.hid hI
  obtain ⟨R, hR⟩ : ∃ R, R = editB 9 p n c d sn sd l := ⟨_, rfl⟩
  rw [← hR]
  have HR := Lib.hid hR
  obtain ⟨ao, cap, rfl, -⟩ := h
  obtain ⟨N, hN⟩ : ∃ N, N = l.length := ⟨_, rfl⟩
  rw [← hN] at HU
  unfold edV
  rw [← hN]
  have HN := Lib.hid hN
  clear hN hR hS hI
  obtain ⟨EE, hEE⟩ : ∃ E, E = edC 9 p n c d sn sd (.slice ao N cap) := ⟨_, rfl⟩
  rw [← hEE]
  have HEE := Lib.hid hEE
  clear hEE
  go_enter Try.func17, Try.ntmps17
  go_upto_region 1 with fail
  obtain ⟨w1, hw1⟩ : ∃ y, y = w.alloc (.cells EE 26) := ⟨_, rfl⟩
  rw [← hw1]
  obtain ⟨g, hg⟩ : ∃ y, y = w.heap.size := ⟨_, rfl⟩
  rw [← hg]
  have HE := Lib.hid (show ED w1 g 9 p n c d sn sd (.slice ao N cap) by rw [hw1, hg, HEE.out]; exact ED.box w 9 p n c d sn sd (.slice ao N cap) rfl 26)
  have HB := Lib.hid (show Below w.heap.size w w1 by rw [hw1]; exact below_box _ _)
  clear hw1 hg HEE
  by_cases p0 : p = 0
  rotate_left
  · have HRR : Hid (R = false) := Lib.hid (by rw [HR.out]; exact editB_no (fun h => by unfold EditP at h; omega))
    have gp0 : (p != 0) = true := by simp; omega
    obtain ⟨e0, e1, e2, e3, e4, e5, e6, e7, ef⟩ := HE.out
    go_wp2_with fail
    go_ret
    exact ⟨ret_bool (HRR.out).symm, HB.out⟩
  have Tp0 := Lib.hid p0
  have gp0 : (p != 0) = false := by simp [p0]
  clear p0
  by_cases n0 : n = 0
  rotate_left
  · have HRR : Hid (R = false) := Lib.hid (by rw [HR.out]; exact editB_no (fun h => by unfold EditP at h; omega))
    have gn0 : (n != 0) = true := by simp; omega
    obtain ⟨e0, e1, e2, e3, e4, e5, e6, e7, ef⟩ := HE.out
    go_wp2_with fail
    go_ret
    exact ⟨ret_bool (HRR.out).symm, HB.out⟩
  have Tn0 := Lib.hid n0
  have gn0 : (n != 0) = false := by simp [n0]
  clear n0
  obtain ⟨e0, e1, e2, e3, e4, e5, e6, e7, ef⟩ := HE.out
  go_upto_region 20 with fail
  clear e0 e1 e2 e3 e4 e5 e6 e7 ef
  by_cases c0 : 0 ≤ c
  rotate_left
  · have HRR : Hid (R = false) := Lib.hid (by rw [HR.out]; exact editB_no (fun h => by unfold EditP at h; omega))
    obtain ⟨e0, e1, e2, e3, e4, e5, e6, e7, ef⟩ := HE.out
    go_wp2_with fail
    go_ret
    exact ⟨ret_bool (HRR.out).symm, HB.out⟩
  by_cases tl : N = 0
  rotate_left
  · have HRR : Hid (R = false) := Lib.hid (by rw [HR.out]; have := HN.out; exact editB_no (fun h => by unfold EditP at h; omega))
    have gl : decide ((N : Int) > 0) = true := decide_eq_true (by omega)
    obtain ⟨e0, e1, e2, e3, e4, e5, e6, e7, ef⟩ := HE.out
    go_wp2_with fail
    go_ret
    exact ⟨ret_bool (HRR.out).symm, HB.out⟩
  have TL := Lib.hid (show l.length = 0 by rw [← HN.out]; exact tl)
  subst tl
  obtain ⟨e0, e1, e2, e3, e4, e5, e6, e7, ef⟩ := HE.out
  go_upto_region 22 with fail
  clear e0 e1 e2 e3 e4 e5 e6 e7 ef
  by_cases d0 : d = 0
  · have HRR : Hid (R = false) := Lib.hid (by rw [HR.out]; exact editB_no (fun h => by unfold EditP at h; omega))
    have gd : (d == 0) = true := by simp [d0]
    obtain ⟨e0, e1, e2, e3, e4, e5, e6, e7, ef⟩ := HE.out
    go_wp2_with fail
    go_ret
    exact ⟨ret_bool (HRR.out).symm, HB.out⟩
  have gd : (d == 0) = false := by simp [d0]
  have Td0 := Lib.hid d0
  clear d0
  by_cases d1 : -2147483647 ≤ d
  rotate_left
  · have HRR : Hid (R = false) := Lib.hid (by rw [HR.out]; exact editB_no (fun h => by unfold EditP at h; omega))
    obtain ⟨e0, e1, e2, e3, e4, e5, e6, e7, ef⟩ := HE.out
    go_wp2_with fail
    go_ret
    exact ⟨ret_bool (HRR.out).symm, HB.out⟩
  by_cases d2 : d ≤ 2147483647
  rotate_left
  · have HRR : Hid (R = false) := Lib.hid (by rw [HR.out]; exact editB_no (fun h => by unfold EditP at h; omega))
    obtain ⟨e0, e1, e2, e3, e4, e5, e6, e7, ef⟩ := HE.out
    go_wp2_with fail
    go_ret
    exact ⟨ret_bool (HRR.out).symm, HB.out⟩
  obtain ⟨e0, e1, e2, e3, e4, e5, e6, e7, ef⟩ := HE.out
  go_upto_region 24 with fail
  clear e0 e1 e2 e3 e4 e5 e6 e7 ef
  by_cases sa : sn = 0
  rotate_left
  · have HRR : Hid (R = false) := Lib.hid (by rw [HR.out]; exact editB_no (fun h => by unfold EditP at h; omega))
    obtain ⟨e0, e1, e2, e3, e4, e5, e6, e7, ef⟩ := HE.out
    go_wp2_with fail
    go_ret
    exact ⟨ret_bool (HRR.out).symm, HB.out⟩
  by_cases sb : sd = 0
  rotate_left
  · have HRR : Hid (R = false) := Lib.hid (by rw [HR.out]; exact editB_no (fun h => by unfold EditP at h; omega))
    obtain ⟨e0, e1, e2, e3, e4, e5, e6, e7, ef⟩ := HE.out
    go_wp2_with fail
    go_ret
    exact ⟨ret_bool (HRR.out).symm, HB.out⟩
  have HRR : Hid (R = true) := Lib.hid (by rw [HR.out]; exact editB_yes (.inr (.inr (.inl ⟨by decide, Tp0.out, Tn0.out, c0, Td0.out, d1, d2, sa, sb, TL.out⟩))))
  obtain ⟨e0, e1, e2, e3, e4, e5, e6, e7, ef⟩ := HE.out
  go_wp2_with fail
  go_ret
  exact ⟨ret_bool (HRR.out).symm, HB.out⟩
set_option maxRecDepth 100000 in
set_option maxHeartbeats 16000000 in
theorem rvalid_10 (p n c d sn sd : Int) (v : Value) (l : List Trk.Clip) (w : World) (h : GT w v l) (hI : InE 10 p n c d sn sd) (hS : TrackSays 40) :
    Calls Try.prog 17 #[edV 10 p n c d sn sd v] w fun e w' => e = .returned (.bool (editB 10 p n c d sn sd l)) ∧ Below w.heap.size w w' := by
  have HU := Lib.hid h
  have HS := Lib.hid hS
  have HIN := Lib.hid hI
  obtain ⟨R, hR⟩ : ∃ R, R = editB 10 p n c d sn sd l := ⟨_, rfl⟩
  rw [← hR]
  have HR := Lib.hid hR
  obtain ⟨ao, cap, rfl, -⟩ := h
  obtain ⟨N, hN⟩ : ∃ N, N = l.length := ⟨_, rfl⟩
  rw [← hN] at HU
  unfold edV
  rw [← hN]
  have HN := Lib.hid hN
  clear hN hR hS hI
  obtain ⟨EE, hEE⟩ : ∃ E, E = edC 10 p n c d sn sd (.slice ao N cap) := ⟨_, rfl⟩
  rw [← hEE]
  have HEE := Lib.hid hEE
  clear hEE
  go_enter Try.func17, Try.ntmps17
  go_upto_region 1 with fail
  obtain ⟨w1, hw1⟩ : ∃ y, y = w.alloc (.cells EE 26) := ⟨_, rfl⟩
  rw [← hw1]
  obtain ⟨g, hg⟩ : ∃ y, y = w.heap.size := ⟨_, rfl⟩
  rw [← hg]
  have HE := Lib.hid (show ED w1 g 10 p n c d sn sd (.slice ao N cap) by rw [hw1, hg, HEE.out]; exact ED.box w 10 p n c d sn sd (.slice ao N cap) rfl 26)
  have HB := Lib.hid (show Below w.heap.size w w1 by rw [hw1]; exact below_box _ _)
  clear hw1 hg HEE
  by_cases p0 : p = 0
  rotate_left
  · have HRR : Hid (R = false) := Lib.hid (by rw [HR.out]; exact editB_no (fun h => by unfold EditP at h; omega))
    have gp0 : (p != 0) = true := by simp; omega
    obtain ⟨e0, e1, e2, e3, e4, e5, e6, e7, ef⟩ := HE.out
    go_wp2_with fail
    go_ret
    exact ⟨ret_bool (HRR.out).symm, HB.out⟩
  have Tp0 := Lib.hid p0
  have gp0 : (p != 0) = false := by simp [p0]
  clear p0
  by_cases n0 : n = 0
  rotate_left
  · have HRR : Hid (R = false) := Lib.hid (by rw [HR.out]; exact editB_no (fun h => by unfold EditP at h; omega))
    have gn0 : (n != 0) = true := by simp; omega
    obtain ⟨e0, e1, e2, e3, e4, e5, e6, e7, ef⟩ := HE.out
    go_wp2_with fail
    go_ret
    exact ⟨ret_bool (HRR.out).symm, HB.out⟩
  have Tn0 := Lib.hid n0
  have gn0 : (n != 0) = false := by simp [n0]
  clear n0
  obtain ⟨e0, e1, e2, e3, e4, e5, e6, e7, ef⟩ := HE.out
  go_upto_region 20 with fail
  clear e0 e1 e2 e3 e4 e5 e6 e7 ef
  by_cases c0 : 0 ≤ c
  rotate_left
  · have HRR : Hid (R = false) := Lib.hid (by rw [HR.out]; exact editB_no (fun h => by unfold EditP at h; omega))
    obtain ⟨e0, e1, e2, e3, e4, e5, e6, e7, ef⟩ := HE.out
    go_wp2_with fail
    go_ret
    exact ⟨ret_bool (HRR.out).symm, HB.out⟩
  by_cases tl : N = 0
  rotate_left
  · have HRR : Hid (R = false) := Lib.hid (by rw [HR.out]; have := HN.out; exact editB_no (fun h => by unfold EditP at h; omega))
    have gl : decide ((N : Int) > 0) = true := decide_eq_true (by omega)
    obtain ⟨e0, e1, e2, e3, e4, e5, e6, e7, ef⟩ := HE.out
    go_wp2_with fail
    go_ret
    exact ⟨ret_bool (HRR.out).symm, HB.out⟩
  have TL := Lib.hid (show l.length = 0 by rw [← HN.out]; exact tl)
  subst tl
  obtain ⟨e0, e1, e2, e3, e4, e5, e6, e7, ef⟩ := HE.out
  go_upto_region 22 with fail
  clear e0 e1 e2 e3 e4 e5 e6 e7 ef
  by_cases d0 : d = 0
  rotate_left
  · have HRR : Hid (R = false) := Lib.hid (by rw [HR.out]; exact editB_no (fun h => by unfold EditP at h; omega))
    have gd0 : (d != 0) = true := by simp; omega
    obtain ⟨e0, e1, e2, e3, e4, e5, e6, e7, ef⟩ := HE.out
    go_wp2_with fail
    go_ret
    exact ⟨ret_bool (HRR.out).symm, HB.out⟩
  have Td0 := Lib.hid d0
  have gd0 : (d != 0) = false := by simp [d0]
  clear d0
  obtain ⟨e0, e1, e2, e3, e4, e5, e6, e7, ef⟩ := HE.out
  go_upto_region 24 with fail
  clear e0 e1 e2 e3 e4 e5 e6 e7 ef
  have HRR : Hid (R = validR sn sd) := Lib.hid (by rw [HR.out]; exact editB_spd Tp0.out Tn0.out c0 Td0.out TL.out)
  obtain ⟨e0, e1, e2, e3, e4, e5, e6, e7, ef⟩ := HE.out
  go_wp2_with fail
  refine (rvalid_all sn sd _ HIN.out.a0 HIN.out.a1 HIN.out.b0 HIN.out.b1).mono ?_
  rintro e w2 ⟨rfl, hb⟩
  have HE2 := Lib.hid (HE.out.below hb)
  have HB2 := Lib.hid (HB.out.trans (hb.mono HB.out.size))
  clear hb e0 e1 e2 e3 e4 e5 e6 e7 ef
  rw [← HRR.out]
  cases hv : R with
  | false =>
    have HVV := Lib.hid hv
    clear hv
    obtain ⟨e0, e1, e2, e3, e4, e5, e6, e7, ef⟩ := HE2.out
    go_wp2_with fail
    go_ret
    exact ⟨ret_bool (HVV.out).symm, HB2.out⟩
  | true =>
    have HVV := Lib.hid hv
    clear hv
    obtain ⟨e0, e1, e2, e3, e4, e5, e6, e7, ef⟩ := HE2.out
    go_wp2_with fail
    go_ret
    exact ⟨ret_bool (HVV.out).symm, HB2.out⟩
theorem grvalid_all (k p n c d sn sd : Int) (v : Value) (l : List Trk.Clip) (w : World) (h : GT w v l) (hI : InE k p n c d sn sd) (hS : TrackSays 40) :
    Calls Try.prog 17 #[edV k p n c d sn sd v] w fun e w' => e = .returned (.bool (editB k p n c d sn sd l)) ∧ Below w.heap.size w w' := by
  by_cases hk : k < 1 ∨ 10 < k
  · exact rvalid_else k p n c d sn sd v l w h hI hS hk
  rcases (show k = 1 ∨ k = 2 ∨ k = 3 ∨ k = 4 ∨ k = 5 ∨ k = 6 ∨ k = 7 ∨ k = 8 ∨ k = 9 ∨ k = 10 by omega) with rfl | rfl | rfl | rfl | rfl | rfl | rfl | rfl | rfl | rfl
  · exact rvalid_1 p n c d sn sd v l w h hI hS
  · exact rvalid_2 p n c d sn sd v l w h hI hS
  · exact rvalid_3 p n c d sn sd v l w h hI hS
  · exact rvalid_4 p n c d sn sd v l w h hI hS
  · exact rvalid_5 p n c d sn sd v l w h hI hS
  · exact rvalid_6 p n c d sn sd v l w h hI hS
  · exact rvalid_7 p n c d sn sd v l w h hI hS
  · exact rvalid_8 p n c d sn sd v l w h hI hS
  · exact rvalid_9 p n c d sn sd v l w h hI hS
  · exact rvalid_10 p n c d sn sd v l w h hI hS
end Go.Proofs.Ytnmkcpgcdjhdjaa

/- The law of the insertions. -/
namespace Go.Proofs.Ytnmkcpgcdjhdjaa
open Go.RowKit
set_option linter.unusedVariables false
set_option linter.unusedSimpArgs false
end Go.Proofs.Ytnmkcpgcdjhdjaa

/- The law of the overwrites and lifts. -/
namespace Go.Proofs.Ytnmkcpgcdjhdjaa
open Go.RowKit
set_option linter.unusedVariables false
set_option linter.unusedSimpArgs false
end Go.Proofs.Ytnmkcpgcdjhdjaa

/- Two edits of frames in either order; the contracts of interval and change. -/
namespace Go.Trk
set_option linter.unusedVariables false
end Go.Trk
namespace Go.Proofs.Ytnmkcpgcdjhdjaa
open Go.RowKit
set_option linter.unusedVariables false
set_option linter.unusedSimpArgs false
end Go.Proofs.Ytnmkcpgcdjhdjaa

/- The law of two edits in either order. -/
namespace Go.Proofs.Ytnmkcpgcdjhdjaa
open Go.RowKit
set_option linter.unusedVariables false
set_option linter.unusedSimpArgs false
theorem ClipsOK.mono {l : List Trk.Clip} {m n : Nat} (h : ClipsOK l m) (hm : m ≤ n) : ClipsOK l n := ⟨h.v, Nat.le_trans h.n hm, h.t1, by have := h.t2; omega⟩
/-- An edit as interval makes it. -/
structure IV (k a m en : Int) (ins : List Trk.Clip) : Prop where
  x : ExV 1000000 ⟨k, a, m, 0, 0, 0, 0, ins⟩
  e : en = a + (⟨k, a, m, 0, 0, 0, 0, ins⟩ : Trk.Ed).rem
  ch : (if k = 1 then Trk.total ins else if k = 2 then -m else 0) = Trk.total (⟨k, a, m, 0, 0, 0, 0, ins⟩ : Trk.Ed).put - (⟨k, a, m, 0, 0, 0, 0, ins⟩ : Trk.Ed).rem
  r0 : 0 ≤ (⟨k, a, m, 0, 0, 0, 0, ins⟩ : Trk.Ed).rem
  r1 : (⟨k, a, m, 0, 0, 0, 0, ins⟩ : Trk.Ed).rem ≤ 100
  q0 : 0 ≤ Trk.total (⟨k, a, m, 0, 0, 0, 0, ins⟩ : Trk.Ed).put
  q1 : Trk.total (⟨k, a, m, 0, 0, 0, 0, ins⟩ : Trk.Ed).put ≤ 100
  l : (⟨k, a, m, 0, 0, 0, 0, ins⟩ : Trk.Ed).put.length ≤ 5
  t : (⟨k, a, m, 0, 0, 0, 0, ins⟩ : Trk.Ed).T ≤ 100
  m0 : 0 ≤ m
  m1 : m ≤ 100
  k : k = 1 ∨ k = 2 ∨ k = 3 ∨ k = 4
  v : VT 1000000 ins
theorem IV.move {k a m en : Int} {ins : List Trk.Clip} (h : IV k a m en ins) {b : Int} (b0 : 0 ≤ b) (b1 : b ≤ 10000) : ExV 1000000 ⟨k, b, m, 0, 0, 0, 0, ins⟩ := by
  obtain ⟨⟨⟨x1, x2, x3, x4, x5⟩, v, mm, p, t, c, d, sn, sd⟩, _⟩ := h
  exact ⟨⟨x1, b0, x3, x4, x5⟩, v, mm, by show b ≤ _; omega, t, rfl, rfl, rfl, rfl⟩
end Go.Proofs.Ytnmkcpgcdjhdjaa
