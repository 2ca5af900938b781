/- Texts of this claim joined: AQ. -/
import Derived.Deep.CutRange
import Derived.Test.YtnmkcpgcdjhdjaaVa19
set_option linter.unusedVariables false
set_option linter.unusedSimpArgs false

/- Valid of the program at any edit: kinds 5, 6, 7, 8, 9, 10. -/
namespace Go.Proofs.Ytnmkcpgcdjhdjaa
open Go.RowKit
set_option linter.unusedVariables false
set_option linter.unusedSimpArgs false
set_option maxRecDepth 100000 in
set_option maxHeartbeats 16000000 in
theorem gvalid_5 (p n c d sn sd : Int) (v : Value) (l : List Trk.Clip) (w : World) (h : GT w v l) (hI : InE 5 p n c d sn sd) (hS : TrackSays 44) :
    Calls Try.prog 16 #[edV 5 p n c d sn sd v] w fun e w' => e = .returned (.bool (editB 5 p n c d sn sd l)) ∧ Below w.heap.size w w' := by
  have HU := Lib.hid h
  have HS := Lib.hid hS
  have HIN := Lib.hid hI
  obtain ⟨R, hR⟩ : ∃ R, R = editB 5 p n c d sn sd l := ⟨_, rfl⟩
  rw [← hR]
  have HR := Lib.hid hR
  obtain ⟨ao, cap, rfl, -⟩ := h
  obtain ⟨N, hN⟩ : ∃ N, N = l.length := ⟨_, rfl⟩
  rw [← hN] at HU
  unfold edV
  rw [← hN]
  have HN := Lib.hid hN
  clear hN hR hS hI
  obtain ⟨EE, hEE⟩ : ∃ E, E = edC 5 p n c d sn sd (.slice ao N cap) := ⟨_, rfl⟩
  rw [← hEE]
  have HEE := Lib.hid hEE
  clear hEE
  go_enter Try.func16, Try.ntmps16
  go_upto_region 1 with fail
  obtain ⟨w1, hw1⟩ : ∃ y, y = w.alloc (.cells EE 26) := ⟨_, rfl⟩
  rw [← hw1]
  obtain ⟨g, hg⟩ : ∃ y, y = w.heap.size := ⟨_, rfl⟩
  rw [← hg]
  have HE := Lib.hid (show ED w1 g 5 p n c d sn sd (.slice ao N cap) by rw [hw1, hg, HEE.out]; exact ED.box w 5 p n c d sn sd (.slice ao N cap) rfl 26)
  have HB := Lib.hid (show Below w.heap.size w w1 by rw [hw1]; exact below_box _ _)
  clear hw1 hg HEE
  obtain ⟨nr, hnr⟩ : ∃ r, r = decide (p = 0 ∧ n = 0) := ⟨_, rfl⟩
  have Hnr := Lib.hid hnr
  clear hnr
  obtain ⟨nc, hnc⟩ : ∃ r, r = decide (c = 0 ∧ d = 0) := ⟨_, rfl⟩
  have Hnc := Lib.hid hnc
  clear hnc
  obtain ⟨ns, hns⟩ : ∃ r, r = decide (sn = 0 ∧ sd = 0) := ⟨_, rfl⟩
  have Hns := Lib.hid hns
  clear hns
  obtain ⟨e0, e1, e2, e3, e4, e5, e6, e7, ef⟩ := HE.out
  go_upto_region 1 with fail
  go_cut [3] from 7 to 14 (fun a wx => a = .bool nr ∧ wx = w1)
  case first J K' h1' h2' =>
    by_cases z0 : p = 0
    · by_cases z1 : n = 0
      · have e : nr = true := by rw [Hnr.out]; exact decide_eq_true ⟨z0, z1⟩
        go_wp2_with fail
        refine Met.intro (h1' _ _ ?_)
        (repeat apply Exists.intro)
        exact ⟨⟨by first | (rw [e]; done) | (rw [e]; rfl) | (rw [e]; simp [z0, z1]), rfl⟩, rfl⟩
      · have e : nr = false := by rw [Hnr.out]; exact decide_eq_false (fun h => z1 h.2)
        go_wp2_with fail
        refine Met.intro (h1' _ _ ?_)
        (repeat apply Exists.intro)
        exact ⟨⟨by first | (rw [e]; done) | (rw [e]; rfl) | (rw [e]; simp [z1]), rfl⟩, rfl⟩
    · have e : nr = false := by rw [Hnr.out]; exact decide_eq_false (fun h => z0 h.1)
      go_wp2_with fail
      refine Met.intro (h1' _ _ ?_)
      (repeat apply Exists.intro)
      exact ⟨⟨by first | (rw [e]; done) | (rw [e]; rfl) | (rw [e]; simp [z0]), rfl⟩, rfl⟩
  obtain ⟨rfl, hw⟩ := hcut
  have hw2 := hw.symm
  subst hw2
  clear e0 e1 e2 e3 e4 e5 e6 e7 ef
  obtain ⟨e0, e1, e2, e3, e4, e5, e6, e7, ef⟩ := HE.out
  go_upto_region 2 with fail
  go_cut [4] from 15 to 22 (fun a wx => a = .bool nc ∧ wx = w1)
  case first J K' h1' h2' =>
    by_cases z0 : c = 0
    · by_cases z1 : d = 0
      · have e : nc = true := by rw [Hnc.out]; exact decide_eq_true ⟨z0, z1⟩
        go_wp2_with fail
        refine Met.intro (h1' _ _ ?_)
        (repeat apply Exists.intro)
        exact ⟨⟨by first | (rw [e]; done) | (rw [e]; rfl) | (rw [e]; simp [z0, z1]), rfl⟩, rfl⟩
      · have e : nc = false := by rw [Hnc.out]; exact decide_eq_false (fun h => z1 h.2)
        go_wp2_with fail
        refine Met.intro (h1' _ _ ?_)
        (repeat apply Exists.intro)
        exact ⟨⟨by first | (rw [e]; done) | (rw [e]; rfl) | (rw [e]; simp [z1]), rfl⟩, rfl⟩
    · have e : nc = false := by rw [Hnc.out]; exact decide_eq_false (fun h => z0 h.1)
      go_wp2_with fail
      refine Met.intro (h1' _ _ ?_)
      (repeat apply Exists.intro)
      exact ⟨⟨by first | (rw [e]; done) | (rw [e]; rfl) | (rw [e]; simp [z0]), rfl⟩, rfl⟩
  obtain ⟨rfl, hw⟩ := hcut
  have hw2 := hw.symm
  subst hw2
  clear e0 e1 e2 e3 e4 e5 e6 e7 ef
  obtain ⟨e0, e1, e2, e3, e4, e5, e6, e7, ef⟩ := HE.out
  go_upto_region 3 with fail
  go_cut [5] from 23 to 26 (fun a wx => a = .bool ns ∧ wx = w1)
  case first J K' h1' h2' =>
    by_cases z0 : sn = 0
    · by_cases z1 : sd = 0
      · have e : ns = true := by rw [Hns.out]; exact decide_eq_true ⟨z0, z1⟩
        go_wp2_with fail
        refine Met.intro (h1' _ _ ?_)
        (repeat apply Exists.intro)
        exact ⟨⟨by first | (rw [e]; done) | (rw [e]; rfl) | (rw [e]; simp [z0, z1]), rfl⟩, rfl⟩
      · have e : ns = false := by rw [Hns.out]; exact decide_eq_false (fun h => z1 h.2)
        go_wp2_with fail
        refine Met.intro (h1' _ _ ?_)
        (repeat apply Exists.intro)
        exact ⟨⟨by first | (rw [e]; done) | (rw [e]; rfl) | (rw [e]; simp [z1]), rfl⟩, rfl⟩
    · have e : ns = false := by rw [Hns.out]; exact decide_eq_false (fun h => z0 h.1)
      go_wp2_with fail
      refine Met.intro (h1' _ _ ?_)
      (repeat apply Exists.intro)
      exact ⟨⟨by first | (rw [e]; done) | (rw [e]; rfl) | (rw [e]; simp [z0]), rfl⟩, rfl⟩
  obtain ⟨rfl, hw⟩ := hcut
  have hw2 := hw.symm
  subst hw2
  clear e0 e1 e2 e3 e4 e5 e6 e7 ef
  cases hv : nr with
  | false =>
    have HRR : Hid (R = false) := Lib.hid (by rw [HR.out]; have hq := of_decide_eq_false (Hnr.out.symm.trans hv); exact editB_no (fun h => by unfold EditP at h; omega))
    clear hv
    obtain ⟨e0, e1, e2, e3, e4, e5, e6, e7, ef⟩ := HE.out
    go_wp2_with fail
    go_ret
    exact ⟨ret_bool (HRR.out).symm, HB.out⟩
  | true =>
  have Tnr := Lib.hid (of_decide_eq_true (Hnr.out.symm.trans hv))
  clear hv
  by_cases t1 : 0 ≤ c
  rotate_left
  · have HRR : Hid (R = false) := Lib.hid (by rw [HR.out]; exact editB_no (fun h => by unfold EditP at h; omega))
    obtain ⟨e0, e1, e2, e3, e4, e5, e6, e7, ef⟩ := HE.out
    go_wp2_with fail
    go_ret
    exact ⟨ret_bool (HRR.out).symm, HB.out⟩
  by_cases t2 : d ≠ 0
  rotate_left
  · have HRR : Hid (R = false) := Lib.hid (by rw [HR.out]; exact editB_no (fun h => by unfold EditP at h; omega))
    obtain ⟨e0, e1, e2, e3, e4, e5, e6, e7, ef⟩ := HE.out
    go_wp2_with fail
    go_ret
    exact ⟨ret_bool (HRR.out).symm, HB.out⟩
  have g2 : (d != 0) = true := by simp [t2]
  have T2 := Lib.hid t2
  clear t2
  by_cases hd : -2147483647 ≤ d ∧ d ≤ 2147483647
  rotate_left
  · have HRR : Hid (R = false) := Lib.hid (by rw [HR.out]; exact editB_no (fun h => by unfold EditP at h; omega))
    obtain ⟨e0, e1, e2, e3, e4, e5, e6, e7, ef⟩ := HE.out
    go_wp2_with fail
    refine (within_no d (-2147483647) _ (by omega)).mono ?_
    rintro e w' ⟨rfl, rfl⟩
    go_wp2_with fail
    go_ret
    exact ⟨ret_bool (HRR.out).symm, HB.out⟩
  have Thd := Lib.hid hd
  clear hd
  obtain ⟨e0, e1, e2, e3, e4, e5, e6, e7, ef⟩ := HE.out
  go_wp2_with fail
  refine (within_yes d (-2147483647) _ Thd.out.1 Thd.out.2).mono ?_
  rintro e w' ⟨rfl, rfl⟩
  clear e0 e1 e2 e3 e4 e5 e6 e7 ef
  cases hv : ns with
  | false =>
    have HRR : Hid (R = false) := Lib.hid (by rw [HR.out]; have hq := of_decide_eq_false (Hns.out.symm.trans hv); exact editB_no (fun h => by unfold EditP at h; omega))
    clear hv
    obtain ⟨e0, e1, e2, e3, e4, e5, e6, e7, ef⟩ := HE.out
    go_wp2_with fail
    go_ret
    exact ⟨ret_bool (HRR.out).symm, HB.out⟩
  | true =>
  have Tns := Lib.hid (of_decide_eq_true (Hns.out.symm.trans hv))
  clear hv
  by_cases hl : N = 0
  rotate_left
  · have HRR : Hid (R = false) := Lib.hid (by rw [HR.out]; have := HN.out; exact editB_no (fun h => by unfold EditP at h; omega))
    have gl : ((N : Int) == 0) = false := by simp; omega
    obtain ⟨e0, e1, e2, e3, e4, e5, e6, e7, ef⟩ := HE.out
    go_wp2_with fail
    go_ret
    exact ⟨ret_bool (HRR.out).symm, HB.out⟩
  have TL := Lib.hid (show l.length = 0 by rw [← HN.out]; exact hl)
  subst hl
  have HRR : Hid (R = true) := Lib.hid (by rw [HR.out]; exact editB_yes (.inr (.inr (.inl ⟨by decide, Tnr.out.1, Tnr.out.2, t1, T2.out, Thd.out.1, Thd.out.2, Tns.out.1, Tns.out.2, TL.out⟩))))
  obtain ⟨e0, e1, e2, e3, e4, e5, e6, e7, ef⟩ := HE.out
  go_wp2_with fail
  go_ret
  exact ⟨ret_bool (HRR.out).symm, HB.out⟩
set_option maxRecDepth 100000 in
set_option maxHeartbeats 16000000 in
theorem gvalid_6 (p n c d sn sd : Int) (v : Value) (l : List Trk.Clip) (w : World) (h : GT w v l) (hI : InE 6 p n c d sn sd) (hS : TrackSays 44) :
    Calls Try.prog 16 #[edV 6 p n c d sn sd v] w fun e w' => e = .returned (.bool (editB 6 p n c d sn sd l)) ∧ Below w.heap.size w w' := by
  have HU := Lib.hid h
  have HS := Lib.hid hS
  have HIN := Lib.hid hI
  obtain ⟨R, hR⟩ : ∃ R, R = editB 6 p n c d sn sd l := ⟨_, rfl⟩
  rw [← hR]
  have HR := Lib.hid hR
  obtain ⟨ao, cap, rfl, -⟩ := h
  obtain ⟨N, hN⟩ : ∃ N, N = l.length := ⟨_, rfl⟩
  rw [← hN] at HU
  unfold edV
  rw [← hN]
  have HN := Lib.hid hN
  clear hN hR hS hI
  obtain ⟨EE, hEE⟩ : ∃ E, E = edC 6 p n c d sn sd (.slice ao N cap) := ⟨_, rfl⟩
  rw [← hEE]
  have HEE := Lib.hid hEE
  clear hEE
  go_enter Try.func16, Try.ntmps16
  go_upto_region 1 with fail
  obtain ⟨w1, hw1⟩ : ∃ y, y = w.alloc (.cells EE 26) := ⟨_, rfl⟩
  rw [← hw1]
  obtain ⟨g, hg⟩ : ∃ y, y = w.heap.size := ⟨_, rfl⟩
  rw [← hg]
  have HE := Lib.hid (show ED w1 g 6 p n c d sn sd (.slice ao N cap) by rw [hw1, hg, HEE.out]; exact ED.box w 6 p n c d sn sd (.slice ao N cap) rfl 26)
  have HB := Lib.hid (show Below w.heap.size w w1 by rw [hw1]; exact below_box _ _)
  clear hw1 hg HEE
  obtain ⟨nr, hnr⟩ : ∃ r, r = decide (p = 0 ∧ n = 0) := ⟨_, rfl⟩
  have Hnr := Lib.hid hnr
  clear hnr
  obtain ⟨nc, hnc⟩ : ∃ r, r = decide (c = 0 ∧ d = 0) := ⟨_, rfl⟩
  have Hnc := Lib.hid hnc
  clear hnc
  obtain ⟨ns, hns⟩ : ∃ r, r = decide (sn = 0 ∧ sd = 0) := ⟨_, rfl⟩
  have Hns := Lib.hid hns
  clear hns
  obtain ⟨e0, e1, e2, e3, e4, e5, e6, e7, ef⟩ := HE.out
  go_upto_region 1 with fail
  go_cut [3] from 7 to 14 (fun a wx => a = .bool nr ∧ wx = w1)
  case first J K' h1' h2' =>
    by_cases z0 : p = 0
    · by_cases z1 : n = 0
      · have e : nr = true := by rw [Hnr.out]; exact decide_eq_true ⟨z0, z1⟩
        go_wp2_with fail
        refine Met.intro (h1' _ _ ?_)
        (repeat apply Exists.intro)
        exact ⟨⟨by first | (rw [e]; done) | (rw [e]; rfl) | (rw [e]; simp [z0, z1]), rfl⟩, rfl⟩
      · have e : nr = false := by rw [Hnr.out]; exact decide_eq_false (fun h => z1 h.2)
        go_wp2_with fail
        refine Met.intro (h1' _ _ ?_)
        (repeat apply Exists.intro)
        exact ⟨⟨by first | (rw [e]; done) | (rw [e]; rfl) | (rw [e]; simp [z1]), rfl⟩, rfl⟩
    · have e : nr = false := by rw [Hnr.out]; exact decide_eq_false (fun h => z0 h.1)
      go_wp2_with fail
      refine Met.intro (h1' _ _ ?_)
      (repeat apply Exists.intro)
      exact ⟨⟨by first | (rw [e]; done) | (rw [e]; rfl) | (rw [e]; simp [z0]), rfl⟩, rfl⟩
  obtain ⟨rfl, hw⟩ := hcut
  have hw2 := hw.symm
  subst hw2
  clear e0 e1 e2 e3 e4 e5 e6 e7 ef
  obtain ⟨e0, e1, e2, e3, e4, e5, e6, e7, ef⟩ := HE.out
  go_upto_region 2 with fail
  go_cut [4] from 15 to 22 (fun a wx => a = .bool nc ∧ wx = w1)
  case first J K' h1' h2' =>
    by_cases z0 : c = 0
    · by_cases z1 : d = 0
      · have e : nc = true := by rw [Hnc.out]; exact decide_eq_true ⟨z0, z1⟩
        go_wp2_with fail
        refine Met.intro (h1' _ _ ?_)
        (repeat apply Exists.intro)
        exact ⟨⟨by first | (rw [e]; done) | (rw [e]; rfl) | (rw [e]; simp [z0, z1]), rfl⟩, rfl⟩
      · have e : nc = false := by rw [Hnc.out]; exact decide_eq_false (fun h => z1 h.2)
        go_wp2_with fail
        refine Met.intro (h1' _ _ ?_)
        (repeat apply Exists.intro)
        exact ⟨⟨by first | (rw [e]; done) | (rw [e]; rfl) | (rw [e]; simp [z1]), rfl⟩, rfl⟩
    · have e : nc = false := by rw [Hnc.out]; exact decide_eq_false (fun h => z0 h.1)
      go_wp2_with fail
      refine Met.intro (h1' _ _ ?_)
      (repeat apply Exists.intro)
      exact ⟨⟨by first | (rw [e]; done) | (rw [e]; rfl) | (rw [e]; simp [z0]), rfl⟩, rfl⟩
  obtain ⟨rfl, hw⟩ := hcut
  have hw2 := hw.symm
  subst hw2
  clear e0 e1 e2 e3 e4 e5 e6 e7 ef
  obtain ⟨e0, e1, e2, e3, e4, e5, e6, e7, ef⟩ := HE.out
  go_upto_region 3 with fail
  go_cut [5] from 23 to 26 (fun a wx => a = .bool ns ∧ wx = w1)
  case first J K' h1' h2' =>
    by_cases z0 : sn = 0
    · by_cases z1 : sd = 0
      · have e : ns = true := by rw [Hns.out]; exact decide_eq_true ⟨z0, z1⟩
        go_wp2_with fail
        refine Met.intro (h1' _ _ ?_)
        (repeat apply Exists.intro)
        exact ⟨⟨by first | (rw [e]; done) | (rw [e]; rfl) | (rw [e]; simp [z0, z1]), rfl⟩, rfl⟩
      · have e : ns = false := by rw [Hns.out]; exact decide_eq_false (fun h => z1 h.2)
        go_wp2_with fail
        refine Met.intro (h1' _ _ ?_)
        (repeat apply Exists.intro)
        exact ⟨⟨by first | (rw [e]; done) | (rw [e]; rfl) | (rw [e]; simp [z1]), rfl⟩, rfl⟩
    · have e : ns = false := by rw [Hns.out]; exact decide_eq_false (fun h => z0 h.1)
      go_wp2_with fail
      refine Met.intro (h1' _ _ ?_)
      (repeat apply Exists.intro)
      exact ⟨⟨by first | (rw [e]; done) | (rw [e]; rfl) | (rw [e]; simp [z0]), rfl⟩, rfl⟩
  obtain ⟨rfl, hw⟩ := hcut
  have hw2 := hw.symm
  subst hw2
  clear e0 e1 e2 e3 e4 e5 e6 e7 ef
  cases hv : nr with
  | false =>
    have HRR : Hid (R = false) := Lib.hid (by rw [HR.out]; have hq := of_decide_eq_false (Hnr.out.symm.trans hv); exact editB_no (fun h => by unfold EditP at h; omega))
    clear hv
    obtain ⟨e0, e1, e2, e3, e4, e5, e6, e7, ef⟩ := HE.out
    go_wp2_with fail
    go_ret
    exact ⟨ret_bool (HRR.out).symm, HB.out⟩
  | true =>
  have Tnr := Lib.hid (of_decide_eq_true (Hnr.out.symm.trans hv))
  clear hv
  by_cases t1 : 0 ≤ c
  rotate_left
  · have HRR : Hid (R = false) := Lib.hid (by rw [HR.out]; exact editB_no (fun h => by unfold EditP at h; omega))
    obtain ⟨e0, e1, e2, e3, e4, e5, e6, e7, ef⟩ := HE.out
    go_wp2_with fail
    go_ret
    exact ⟨ret_bool (HRR.out).symm, HB.out⟩
  by_cases t2 : d ≠ 0
  rotate_left
  · have HRR : Hid (R = false) := Lib.hid (by rw [HR.out]; exact editB_no (fun h => by unfold EditP at h; omega))
    obtain ⟨e0, e1, e2, e3, e4, e5, e6, e7, ef⟩ := HE.out
    go_wp2_with fail
    go_ret
    exact ⟨ret_bool (HRR.out).symm, HB.out⟩
  have g2 : (d != 0) = true := by simp [t2]
  have T2 := Lib.hid t2
  clear t2
  by_cases hd : -2147483647 ≤ d ∧ d ≤ 2147483647
  rotate_left
  · have HRR : Hid (R = false) := Lib.hid (by rw [HR.out]; exact editB_no (fun h => by unfold EditP at h; omega))
    obtain ⟨e0, e1, e2, e3, e4, e5, e6, e7, ef⟩ := HE.out
    go_wp2_with fail
    refine (within_no d (-2147483647) _ (by omega)).mono ?_
    rintro e w' ⟨rfl, rfl⟩
    go_wp2_with fail
    go_ret
    exact ⟨ret_bool (HRR.out).symm, HB.out⟩
  have Thd := Lib.hid hd
  clear hd
  obtain ⟨e0, e1, e2, e3, e4, e5, e6, e7, ef⟩ := HE.out
  go_wp2_with fail
  refine (within_yes d (-2147483647) _ Thd.out.1 Thd.out.2).mono ?_
  rintro e w' ⟨rfl, rfl⟩
  clear e0 e1 e2 e3 e4 e5 e6 e7 ef
  cases hv : ns with
  | false =>
    have HRR : Hid (R = false) := Lib.hid (by rw [HR.out]; have hq := of_decide_eq_false (Hns.out.symm.trans hv); exact editB_no (fun h => by unfold EditP at h; omega))
    clear hv
    obtain ⟨e0, e1, e2, e3, e4, e5, e6, e7, ef⟩ := HE.out
    go_wp2_with fail
    go_ret
    exact ⟨ret_bool (HRR.out).symm, HB.out⟩
  | true =>
  have Tns := Lib.hid (of_decide_eq_true (Hns.out.symm.trans hv))
  clear hv
  by_cases hl : N = 0
  rotate_left
  · have HRR : Hid (R = false) := Lib.hid (by rw [HR.out]; have := HN.out; exact editB_no (fun h => by unfold EditP at h; omega))
    have gl : ((N : Int) == 0) = false := by simp; omega
    obtain ⟨e0, e1, e2, e3, e4, e5, e6, e7, ef⟩ := HE.out
    go_wp2_with fail
    go_ret
    exact ⟨ret_bool (HRR.out).symm, HB.out⟩
  have TL := Lib.hid (show l.length = 0 by rw [← HN.out]; exact hl)
  subst hl
  have HRR : Hid (R = true) := Lib.hid (by rw [HR.out]; exact editB_yes (.inr (.inr (.inl ⟨by decide, Tnr.out.1, Tnr.out.2, t1, T2.out, Thd.out.1, Thd.out.2, Tns.out.1, Tns.out.2, TL.out⟩))))
  obtain ⟨e0, e1, e2, e3, e4, e5, e6, e7, ef⟩ := HE.out
  go_wp2_with fail
  go_ret
  exact ⟨ret_bool (HRR.out).symm, HB.out⟩
set_option maxRecDepth 100000 in
set_option maxHeartbeats 16000000 in
theorem gvalid_7 (p n c d sn sd : Int) (v : Value) (l : List Trk.Clip) (w : World) (h : GT w v l) (hI : InE 7 p n c d sn sd) (hS : TrackSays 44) :
    Calls Try.prog 16 #[edV 7 p n c d sn sd v] w fun e w' => e = .returned (.bool (editB 7 p n c d sn sd l)) ∧ Below w.heap.size w w' := by
  have HU := Lib.hid h
  have HS := Lib.hid hS
  have HIN := Lib.hid hI
  obtain ⟨R, hR⟩ : ∃ R, R = editB 7 p n c d sn sd l := ⟨_, rfl⟩
  rw [← hR]
  have HR := Lib.hid hR
  obtain ⟨ao, cap, rfl, -⟩ := h
  obtain ⟨N, hN⟩ : ∃ N, N = l.length := ⟨_, rfl⟩
  rw [← hN] at HU
  unfold edV
  rw [← hN]
  have HN := Lib.hid hN
  clear hN hR hS hI
  obtain ⟨EE, hEE⟩ : ∃ E, E = edC 7 p n c d sn sd (.slice ao N cap) := ⟨_, rfl⟩
  rw [← hEE]
  have HEE := Lib.hid hEE
  clear hEE
  go_enter Try.func16, Try.ntmps16
  go_upto_region 1 with fail
  obtain ⟨w1, hw1⟩ : ∃ y, y = w.alloc (.cells EE 26) := ⟨_, rfl⟩
  rw [← hw1]
  obtain ⟨g, hg⟩ : ∃ y, y = w.heap.size := ⟨_, rfl⟩
  rw [← hg]
  have HE := Lib.hid (show ED w1 g 7 p n c d sn sd (.slice ao N cap) by rw [hw1, hg, HEE.out]; exact ED.box w 7 p n c d sn sd (.slice ao N cap) rfl 26)
  have HB := Lib.hid (show Below w.heap.size w w1 by rw [hw1]; exact below_box _ _)
  clear hw1 hg HEE
  obtain ⟨nr, hnr⟩ : ∃ r, r = decide (p = 0 ∧ n = 0) := ⟨_, rfl⟩
  have Hnr := Lib.hid hnr
  clear hnr
  obtain ⟨nc, hnc⟩ : ∃ r, r = decide (c = 0 ∧ d = 0) := ⟨_, rfl⟩
  have Hnc := Lib.hid hnc
  clear hnc
  obtain ⟨ns, hns⟩ : ∃ r, r = decide (sn = 0 ∧ sd = 0) := ⟨_, rfl⟩
  have Hns := Lib.hid hns
  clear hns
  obtain ⟨e0, e1, e2, e3, e4, e5, e6, e7, ef⟩ := HE.out
  go_upto_region 1 with fail
  go_cut [3] from 7 to 14 (fun a wx => a = .bool nr ∧ wx = w1)
  case first J K' h1' h2' =>
    by_cases z0 : p = 0
    · by_cases z1 : n = 0
      · have e : nr = true := by rw [Hnr.out]; exact decide_eq_true ⟨z0, z1⟩
        go_wp2_with fail
        refine Met.intro (h1' _ _ ?_)
        (repeat apply Exists.intro)
        exact ⟨⟨by first | (rw [e]; done) | (rw [e]; rfl) | (rw [e]; simp [z0, z1]), rfl⟩, rfl⟩
      · have e : nr = false := by rw [Hnr.out]; exact decide_eq_false (fun h => z1 h.2)
        go_wp2_with fail
        refine Met.intro (h1' _ _ ?_)
        (repeat apply Exists.intro)
        exact ⟨⟨by first | (rw [e]; done) | (rw [e]; rfl) | (rw [e]; simp [z1]), rfl⟩, rfl⟩
    · have e : nr = false := by rw [Hnr.out]; exact decide_eq_false (fun h => z0 h.1)
      go_wp2_with fail
      refine Met.intro (h1' _ _ ?_)
      (repeat apply Exists.intro)
      exact ⟨⟨by first | (rw [e]; done) | (rw [e]; rfl) | (rw [e]; simp [z0]), rfl⟩, rfl⟩
  obtain ⟨rfl, hw⟩ := hcut
  have hw2 := hw.symm
  subst hw2
  clear e0 e1 e2 e3 e4 e5 e6 e7 ef
  obtain ⟨e0, e1, e2, e3, e4, e5, e6, e7, ef⟩ := HE.out
  go_upto_region 2 with fail
  go_cut [4] from 15 to 22 (fun a wx => a = .bool nc ∧ wx = w1)
  case first J K' h1' h2' =>
    by_cases z0 : c = 0
    · by_cases z1 : d = 0
      · have e : nc = true := by rw [Hnc.out]; exact decide_eq_true ⟨z0, z1⟩
        go_wp2_with fail
        refine Met.intro (h1' _ _ ?_)
        (repeat apply Exists.intro)
        exact ⟨⟨by first | (rw [e]; done) | (rw [e]; rfl) | (rw [e]; simp [z0, z1]), rfl⟩, rfl⟩
      · have e : nc = false := by rw [Hnc.out]; exact decide_eq_false (fun h => z1 h.2)
        go_wp2_with fail
        refine Met.intro (h1' _ _ ?_)
        (repeat apply Exists.intro)
        exact ⟨⟨by first | (rw [e]; done) | (rw [e]; rfl) | (rw [e]; simp [z1]), rfl⟩, rfl⟩
    · have e : nc = false := by rw [Hnc.out]; exact decide_eq_false (fun h => z0 h.1)
      go_wp2_with fail
      refine Met.intro (h1' _ _ ?_)
      (repeat apply Exists.intro)
      exact ⟨⟨by first | (rw [e]; done) | (rw [e]; rfl) | (rw [e]; simp [z0]), rfl⟩, rfl⟩
  obtain ⟨rfl, hw⟩ := hcut
  have hw2 := hw.symm
  subst hw2
  clear e0 e1 e2 e3 e4 e5 e6 e7 ef
  obtain ⟨e0, e1, e2, e3, e4, e5, e6, e7, ef⟩ := HE.out
  go_upto_region 3 with fail
  go_cut [5] from 23 to 26 (fun a wx => a = .bool ns ∧ wx = w1)
  case first J K' h1' h2' =>
    by_cases z0 : sn = 0
    · by_cases z1 : sd = 0
      · have e : ns = true := by rw [Hns.out]; exact decide_eq_true ⟨z0, z1⟩
        go_wp2_with fail
        refine Met.intro (h1' _ _ ?_)
        (repeat apply Exists.intro)
        exact ⟨⟨by first | (rw [e]; done) | (rw [e]; rfl) | (rw [e]; simp [z0, z1]), rfl⟩, rfl⟩
      · have e : ns = false := by rw [Hns.out]; exact decide_eq_false (fun h => z1 h.2)
        go_wp2_with fail
        refine Met.intro (h1' _ _ ?_)
        (repeat apply Exists.intro)
        exact ⟨⟨by first | (rw [e]; done) | (rw [e]; rfl) | (rw [e]; simp [z1]), rfl⟩, rfl⟩
    · have e : ns = false := by rw [Hns.out]; exact decide_eq_false (fun h => z0 h.1)
      go_wp2_with fail
      refine Met.intro (h1' _ _ ?_)
      (repeat apply Exists.intro)
      exact ⟨⟨by first | (rw [e]; done) | (rw [e]; rfl) | (rw [e]; simp [z0]), rfl⟩, rfl⟩
  obtain ⟨rfl, hw⟩ := hcut
  have hw2 := hw.symm
  subst hw2
  clear e0 e1 e2 e3 e4 e5 e6 e7 ef
  cases hv : nr with
  | false =>
    have HRR : Hid (R = false) := Lib.hid (by rw [HR.out]; have hq := of_decide_eq_false (Hnr.out.symm.trans hv); exact editB_no (fun h => by unfold EditP at h; omega))
    clear hv
    obtain ⟨e0, e1, e2, e3, e4, e5, e6, e7, ef⟩ := HE.out
    go_wp2_with fail
    go_ret
    exact ⟨ret_bool (HRR.out).symm, HB.out⟩
  | true =>
  have Tnr := Lib.hid (of_decide_eq_true (Hnr.out.symm.trans hv))
  clear hv
  by_cases t1 : 0 ≤ c
  rotate_left
  · have HRR : Hid (R = false) := Lib.hid (by rw [HR.out]; exact editB_no (fun h => by unfold EditP at h; omega))
    obtain ⟨e0, e1, e2, e3, e4, e5, e6, e7, ef⟩ := HE.out
    go_wp2_with fail
    go_ret
    exact ⟨ret_bool (HRR.out).symm, HB.out⟩
  by_cases t2 : d ≠ 0
  rotate_left
  · have HRR : Hid (R = false) := Lib.hid (by rw [HR.out]; exact editB_no (fun h => by unfold EditP at h; omega))
    obtain ⟨e0, e1, e2, e3, e4, e5, e6, e7, ef⟩ := HE.out
    go_wp2_with fail
    go_ret
    exact ⟨ret_bool (HRR.out).symm, HB.out⟩
  have g2 : (d != 0) = true := by simp [t2]
  have T2 := Lib.hid t2
  clear t2
  by_cases hd : -2147483647 ≤ d ∧ d ≤ 2147483647
  rotate_left
  · have HRR : Hid (R = false) := Lib.hid (by rw [HR.out]; exact editB_no (fun h => by unfold EditP at h; omega))
    obtain ⟨e0, e1, e2, e3, e4, e5, e6, e7, ef⟩ := HE.out
    go_wp2_with fail
    refine (within_no d (-2147483647) _ (by omega)).mono ?_
    rintro e w' ⟨rfl, rfl⟩
    go_wp2_with fail
    go_ret
    exact ⟨ret_bool (HRR.out).symm, HB.out⟩
  have Thd := Lib.hid hd
  clear hd
  obtain ⟨e0, e1, e2, e3, e4, e5, e6, e7, ef⟩ := HE.out
  go_wp2_with fail
  refine (within_yes d (-2147483647) _ Thd.out.1 Thd.out.2).mono ?_
  rintro e w' ⟨rfl, rfl⟩
  clear e0 e1 e2 e3 e4 e5 e6 e7 ef
  cases hv : ns with
  | false =>
    have HRR : Hid (R = false) := Lib.hid (by rw [HR.out]; have hq := of_decide_eq_false (Hns.out.symm.trans hv); exact editB_no (fun h => by unfold EditP at h; omega))
    clear hv
    obtain ⟨e0, e1, e2, e3, e4, e5, e6, e7, ef⟩ := HE.out
    go_wp2_with fail
    go_ret
    exact ⟨ret_bool (HRR.out).symm, HB.out⟩
  | true =>
  have Tns := Lib.hid (of_decide_eq_true (Hns.out.symm.trans hv))
  clear hv
  by_cases hl : N = 0
  rotate_left
  · have HRR : Hid (R = false) := Lib.hid (by rw [HR.out]; have := HN.out; exact editB_no (fun h => by unfold EditP at h; omega))
    have gl : ((N : Int) == 0) = false := by simp; omega
    obtain ⟨e0, e1, e2, e3, e4, e5, e6, e7, ef⟩ := HE.out
    go_wp2_with fail
    go_ret
    exact ⟨ret_bool (HRR.out).symm, HB.out⟩
  have TL := Lib.hid (show l.length = 0 by rw [← HN.out]; exact hl)
  subst hl
  have HRR : Hid (R = true) := Lib.hid (by rw [HR.out]; exact editB_yes (.inr (.inr (.inl ⟨by decide, Tnr.out.1, Tnr.out.2, t1, T2.out, Thd.out.1, Thd.out.2, Tns.out.1, Tns.out.2, TL.out⟩))))
  obtain ⟨e0, e1, e2, e3, e4, e5, e6, e7, ef⟩ := HE.out
  go_wp2_with fail
  go_ret
  exact ⟨ret_bool (HRR.out).symm, HB.out⟩
set_option maxRecDepth 100000 in
set_option maxHeartbeats 16000000 in
theorem gvalid_8 (p n c d sn sd : Int) (v : Value) (l : List Trk.Clip) (w : World) (h : GT w v l) (hI : InE 8 p n c d sn sd) (hS : TrackSays 44) :
    Calls Try.prog 16 #[edV 8 p n c d sn sd v] w fun e w' => e = .returned (.bool (editB 8 p n c d sn sd l)) ∧ Below w.heap.size w w' := by
  have HU := Lib.hid h
  have HS := Lib.hid hS
  have HIN := Lib.hid hI
  obtain ⟨R, hR⟩ : ∃ R, R = editB 8 p n c d sn sd l := ⟨_, rfl⟩
  rw [← hR]
  have HR := Lib.hid hR
  obtain ⟨ao, cap, rfl, -⟩ := h
  obtain ⟨N, hN⟩ : ∃ N, N = l.length := ⟨_, rfl⟩
  rw [← hN] at HU
  unfold edV
  rw [← hN]
  have HN := Lib.hid hN
  clear hN hR hS hI
  obtain ⟨EE, hEE⟩ : ∃ E, E = edC 8 p n c d sn sd (.slice ao N cap) := ⟨_, rfl⟩
  rw [← hEE]
  have HEE := Lib.hid hEE
  clear hEE
  go_enter Try.func16, Try.ntmps16
  go_upto_region 1 with fail
  obtain ⟨w1, hw1⟩ : ∃ y, y = w.alloc (.cells EE 26) := ⟨_, rfl⟩
  rw [← hw1]
  obtain ⟨g, hg⟩ : ∃ y, y = w.heap.size := ⟨_, rfl⟩
  rw [← hg]
  have HE := Lib.hid (show ED w1 g 8 p n c d sn sd (.slice ao N cap) by rw [hw1, hg, HEE.out]; exact ED.box w 8 p n c d sn sd (.slice ao N cap) rfl 26)
  have HB := Lib.hid (show Below w.heap.size w w1 by rw [hw1]; exact below_box _ _)
  clear hw1 hg HEE
  obtain ⟨nr, hnr⟩ : ∃ r, r = decide (p = 0 ∧ n = 0) := ⟨_, rfl⟩
  have Hnr := Lib.hid hnr
  clear hnr
  obtain ⟨nc, hnc⟩ : ∃ r, r = decide (c = 0 ∧ d = 0) := ⟨_, rfl⟩
  have Hnc := Lib.hid hnc
  clear hnc
  obtain ⟨ns, hns⟩ : ∃ r, r = decide (sn = 0 ∧ sd = 0) := ⟨_, rfl⟩
  have Hns := Lib.hid hns
  clear hns
  obtain ⟨e0, e1, e2, e3, e4, e5, e6, e7, ef⟩ := HE.out
  go_upto_region 1 with fail
  go_cut [3] from 7 to 14 (fun a wx => a = .bool nr ∧ wx = w1)
  case first J K' h1' h2' =>
    by_cases z0 : p = 0
    · by_cases z1 : n = 0
      · have e : nr = true := by rw [Hnr.out]; exact decide_eq_true ⟨z0, z1⟩
        go_wp2_with fail
        refine Met.intro (h1' _ _ ?_)
        (repeat apply Exists.intro)
        exact ⟨⟨by first | (rw [e]; done) | (rw [e]; rfl) | (rw [e]; simp [z0, z1]), rfl⟩, rfl⟩
      · have e : nr = false := by rw [Hnr.out]; exact decide_eq_false (fun h => z1 h.2)
        go_wp2_with fail
        refine Met.intro (h1' _ _ ?_)
        (repeat apply Exists.intro)
        exact ⟨⟨by first | (rw [e]; done) | (rw [e]; rfl) | (rw [e]; simp [z1]), rfl⟩, rfl⟩
    · have e : nr = false := by rw [Hnr.out]; exact decide_eq_false (fun h => z0 h.1)
      go_wp2_with fail
      refine Met.intro (h1' _ _ ?_)
      (repeat apply Exists.intro)
      exact ⟨⟨by first | (rw [e]; done) | (rw [e]; rfl) | (rw [e]; simp [z0]), rfl⟩, rfl⟩
  obtain ⟨rfl, hw⟩ := hcut
  have hw2 := hw.symm
  subst hw2
  clear e0 e1 e2 e3 e4 e5 e6 e7 ef
  obtain ⟨e0, e1, e2, e3, e4, e5, e6, e7, ef⟩ := HE.out
  go_upto_region 2 with fail
  go_cut [4] from 15 to 22 (fun a wx => a = .bool nc ∧ wx = w1)
  case first J K' h1' h2' =>
    by_cases z0 : c = 0
    · by_cases z1 : d = 0
      · have e : nc = true := by rw [Hnc.out]; exact decide_eq_true ⟨z0, z1⟩
        go_wp2_with fail
        refine Met.intro (h1' _ _ ?_)
        (repeat apply Exists.intro)
        exact ⟨⟨by first | (rw [e]; done) | (rw [e]; rfl) | (rw [e]; simp [z0, z1]), rfl⟩, rfl⟩
      · have e : nc = false := by rw [Hnc.out]; exact decide_eq_false (fun h => z1 h.2)
        go_wp2_with fail
        refine Met.intro (h1' _ _ ?_)
        (repeat apply Exists.intro)
        exact ⟨⟨by first | (rw [e]; done) | (rw [e]; rfl) | (rw [e]; simp [z1]), rfl⟩, rfl⟩
    · have e : nc = false := by rw [Hnc.out]; exact decide_eq_false (fun h => z0 h.1)
      go_wp2_with fail
      refine Met.intro (h1' _ _ ?_)
      (repeat apply Exists.intro)
      exact ⟨⟨by first | (rw [e]; done) | (rw [e]; rfl) | (rw [e]; simp [z0]), rfl⟩, rfl⟩
  obtain ⟨rfl, hw⟩ := hcut
  have hw2 := hw.symm
  subst hw2
  clear e0 e1 e2 e3 e4 e5 e6 e7 ef
  obtain ⟨e0, e1, e2, e3, e4, e5, e6, e7, ef⟩ := HE.out
  go_upto_region 3 with fail
  go_cut [5] from 23 to 26 (fun a wx => a = .bool ns ∧ wx = w1)
  case first J K' h1' h2' =>
    by_cases z0 : sn = 0
    · by_cases z1 : sd = 0
      · have e : ns = true := by rw [Hns.out]; exact decide_eq_true ⟨z0, z1⟩
        go_wp2_with fail
        refine Met.intro (h1' _ _ ?_)
        (repeat apply Exists.intro)
        exact ⟨⟨by first | (rw [e]; done) | (rw [e]; rfl) | (rw [e]; simp [z0, z1]), rfl⟩, rfl⟩
      · have e : ns = false := by rw [Hns.out]; exact decide_eq_false (fun h => z1 h.2)
        go_wp2_with fail
        refine Met.intro (h1' _ _ ?_)
        (repeat apply Exists.intro)
        exact ⟨⟨by first | (rw [e]; done) | (rw [e]; rfl) | (rw [e]; simp [z1]), rfl⟩, rfl⟩
    · have e : ns = false := by rw [Hns.out]; exact decide_eq_false (fun h => z0 h.1)
      go_wp2_with fail
      refine Met.intro (h1' _ _ ?_)
      (repeat apply Exists.intro)
      exact ⟨⟨by first | (rw [e]; done) | (rw [e]; rfl) | (rw [e]; simp [z0]), rfl⟩, rfl⟩
  obtain ⟨rfl, hw⟩ := hcut
  have hw2 := hw.symm
  subst hw2
  clear e0 e1 e2 e3 e4 e5 e6 e7 ef
  cases hv : nr with
  | false =>
    have HRR : Hid (R = false) := Lib.hid (by rw [HR.out]; have hq := of_decide_eq_false (Hnr.out.symm.trans hv); exact editB_no (fun h => by unfold EditP at h; omega))
    clear hv
    obtain ⟨e0, e1, e2, e3, e4, e5, e6, e7, ef⟩ := HE.out
    go_wp2_with fail
    go_ret
    exact ⟨ret_bool (HRR.out).symm, HB.out⟩
  | true =>
  have Tnr := Lib.hid (of_decide_eq_true (Hnr.out.symm.trans hv))
  clear hv
  by_cases t1 : 0 ≤ c
  rotate_left
  · have HRR : Hid (R = false) := Lib.hid (by rw [HR.out]; exact editB_no (fun h => by unfold EditP at h; omega))
    obtain ⟨e0, e1, e2, e3, e4, e5, e6, e7, ef⟩ := HE.out
    go_wp2_with fail
    go_ret
    exact ⟨ret_bool (HRR.out).symm, HB.out⟩
  by_cases t2 : d ≠ 0
  rotate_left
  · have HRR : Hid (R = false) := Lib.hid (by rw [HR.out]; exact editB_no (fun h => by unfold EditP at h; omega))
    obtain ⟨e0, e1, e2, e3, e4, e5, e6, e7, ef⟩ := HE.out
    go_wp2_with fail
    go_ret
    exact ⟨ret_bool (HRR.out).symm, HB.out⟩
  have g2 : (d != 0) = true := by simp [t2]
  have T2 := Lib.hid t2
  clear t2
  by_cases hd : -2147483647 ≤ d ∧ d ≤ 2147483647
  rotate_left
  · have HRR : Hid (R = false) := Lib.hid (by rw [HR.out]; exact editB_no (fun h => by unfold EditP at h; omega))
    obtain ⟨e0, e1, e2, e3, e4, e5, e6, e7, ef⟩ := HE.out
    go_wp2_with fail
    refine (within_no d (-2147483647) _ (by omega)).mono ?_
    rintro e w' ⟨rfl, rfl⟩
    go_wp2_with fail
    go_ret
    exact ⟨ret_bool (HRR.out).symm, HB.out⟩
  have Thd := Lib.hid hd
  clear hd
  obtain ⟨e0, e1, e2, e3, e4, e5, e6, e7, ef⟩ := HE.out
  go_wp2_with fail
  refine (within_yes d (-2147483647) _ Thd.out.1 Thd.out.2).mono ?_
  rintro e w' ⟨rfl, rfl⟩
  clear e0 e1 e2 e3 e4 e5 e6 e7 ef
  cases hv : ns with
  | false =>
    have HRR : Hid (R = false) := Lib.hid (by rw [HR.out]; have hq := of_decide_eq_false (Hns.out.symm.trans hv); exact editB_no (fun h => by unfold EditP at h; omega))
    clear hv
    obtain ⟨e0, e1, e2, e3, e4, e5, e6, e7, ef⟩ := HE.out
    go_wp2_with fail
    go_ret
    exact ⟨ret_bool (HRR.out).symm, HB.out⟩
  | true =>
  have Tns := Lib.hid (of_decide_eq_true (Hns.out.symm.trans hv))
  clear hv
  by_cases hl : N = 0
  rotate_left
  · have HRR : Hid (R = false) := Lib.hid (by rw [HR.out]; have := HN.out; exact editB_no (fun h => by unfold EditP at h; omega))
    have gl : ((N : Int) == 0) = false := by simp; omega
    obtain ⟨e0, e1, e2, e3, e4, e5, e6, e7, ef⟩ := HE.out
    go_wp2_with fail
    go_ret
    exact ⟨ret_bool (HRR.out).symm, HB.out⟩
  have TL := Lib.hid (show l.length = 0 by rw [← HN.out]; exact hl)
  subst hl
  have HRR : Hid (R = true) := Lib.hid (by rw [HR.out]; exact editB_yes (.inr (.inr (.inl ⟨by decide, Tnr.out.1, Tnr.out.2, t1, T2.out, Thd.out.1, Thd.out.2, Tns.out.1, Tns.out.2, TL.out⟩))))
  obtain ⟨e0, e1, e2, e3, e4, e5, e6, e7, ef⟩ := HE.out
  go_wp2_with fail
  go_ret
  exact ⟨ret_bool (HRR.out).symm, HB.out⟩
set_option maxRecDepth 100000 in
set_option maxHeartbeats 16000000 in
theorem gvalid_9 (p n c d sn sd : Int) (v : Value) (l : List Trk.Clip) (w : World) (h : GT w v l) (hI : InE 9 p n c d sn sd) (hS : TrackSays 44) :
    Calls Try.prog 16 #[edV 9 p n c d sn sd v] w fun e w' => e = .returned (.bool (editB 9 p n c d sn sd l)) ∧ Below w.heap.size w w' := by
  have HU := Lib.hid h
  have HS := Lib.hid hS
  have HIN := Lib.hid hI
  obtain ⟨R, hR⟩ : ∃ R, R = editB 9 p n c d sn sd l := ⟨_, rfl⟩
  rw [← hR]
  have HR := Lib.hid hR
  obtain ⟨ao, cap, rfl, -⟩ := h
  obtain ⟨N, hN⟩ : ∃ N, N = l.length := ⟨_, rfl⟩
  rw [← hN] at HU
  unfold edV
  rw [← hN]
  have HN := Lib.hid hN
  clear hN hR hS hI
  obtain ⟨EE, hEE⟩ : ∃ E, E = edC 9 p n c d sn sd (.slice ao N cap) := ⟨_, rfl⟩
  rw [← hEE]
  have HEE := Lib.hid hEE
  clear hEE
  go_enter Try.func16, Try.ntmps16
  go_upto_region 1 with fail
  obtain ⟨w1, hw1⟩ : ∃ y, y = w.alloc (.cells EE 26) := ⟨_, rfl⟩
  rw [← hw1]
  obtain ⟨g, hg⟩ : ∃ y, y = w.heap.size := ⟨_, rfl⟩
  rw [← hg]
  have HE := Lib.hid (show ED w1 g 9 p n c d sn sd (.slice ao N cap) by rw [hw1, hg, HEE.out]; exact ED.box w 9 p n c d sn sd (.slice ao N cap) rfl 26)
  have HB := Lib.hid (show Below w.heap.size w w1 by rw [hw1]; exact below_box _ _)
  clear hw1 hg HEE
  obtain ⟨nr, hnr⟩ : ∃ r, r = decide (p = 0 ∧ n = 0) := ⟨_, rfl⟩
  have Hnr := Lib.hid hnr
  clear hnr
  obtain ⟨nc, hnc⟩ : ∃ r, r = decide (c = 0 ∧ d = 0) := ⟨_, rfl⟩
  have Hnc := Lib.hid hnc
  clear hnc
  obtain ⟨ns, hns⟩ : ∃ r, r = decide (sn = 0 ∧ sd = 0) := ⟨_, rfl⟩
  have Hns := Lib.hid hns
  clear hns
  obtain ⟨e0, e1, e2, e3, e4, e5, e6, e7, ef⟩ := HE.out
  go_upto_region 1 with fail
  go_cut [3] from 7 to 14 (fun a wx => a = .bool nr ∧ wx = w1)
  case first J K' h1' h2' =>
    by_cases z0 : p = 0
    · by_cases z1 : n = 0
      · have e : nr = true := by rw [Hnr.out]; exact decide_eq_true ⟨z0, z1⟩
        go_wp2_with fail
        refine Met.intro (h1' _ _ ?_)
        (repeat apply Exists.intro)
        exact ⟨⟨by first | (rw [e]; done) | (rw [e]; rfl) | (rw [e]; simp [z0, z1]), rfl⟩, rfl⟩
      · have e : nr = false := by rw [Hnr.out]; exact decide_eq_false (fun h => z1 h.2)
        go_wp2_with fail
        refine Met.intro (h1' _ _ ?_)
        (repeat apply Exists.intro)
        exact ⟨⟨by first | (rw [e]; done) | (rw [e]; rfl) | (rw [e]; simp [z1]), rfl⟩, rfl⟩
    · have e : nr = false := by rw [Hnr.out]; exact decide_eq_false (fun h => z0 h.1)
      go_wp2_with fail
      refine Met.intro (h1' _ _ ?_)
      (repeat apply Exists.intro)
      exact ⟨⟨by first | (rw [e]; done) | (rw [e]; rfl) | (rw [e]; simp [z0]), rfl⟩, rfl⟩
  obtain ⟨rfl, hw⟩ := hcut
  have hw2 := hw.symm
  subst hw2
  clear e0 e1 e2 e3 e4 e5 e6 e7 ef
  obtain ⟨e0, e1, e2, e3, e4, e5, e6, e7, ef⟩ := HE.out
  go_upto_region 2 with fail
  go_cut [4] from 15 to 22 (fun a wx => a = .bool nc ∧ wx = w1)
  case first J K' h1' h2' =>
    by_cases z0 : c = 0
    · by_cases z1 : d = 0
      · have e : nc = true := by rw [Hnc.out]; exact decide_eq_true ⟨z0, z1⟩
        go_wp2_with fail
        refine Met.intro (h1' _ _ ?_)
        (repeat apply Exists.intro)
        exact ⟨⟨by first | (rw [e]; done) | (rw [e]; rfl) | (rw [e]; simp [z0, z1]), rfl⟩, rfl⟩
      · have e : nc = false := by rw [Hnc.out]; exact decide_eq_false (fun h => z1 h.2)
        go_wp2_with fail
        refine Met.intro (h1' _ _ ?_)
        (repeat apply Exists.intro)
        exact ⟨⟨by first | (rw [e]; done) | (rw [e]; rfl) | (rw [e]; simp [z1]), rfl⟩, rfl⟩
    · have e : nc = false := by rw [Hnc.out]; exact decide_eq_false (fun h => z0 h.1)
      go_wp2_with fail
      refine Met.intro (h1' _ _ ?_)
      (repeat apply Exists.intro)
      exact ⟨⟨by first | (rw [e]; done) | (rw [e]; rfl) | (rw [e]; simp [z0]), rfl⟩, rfl⟩
  obtain ⟨rfl, hw⟩ := hcut
  have hw2 := hw.symm
  subst hw2
  clear e0 e1 e2 e3 e4 e5 e6 e7 ef
  obtain ⟨e0, e1, e2, e3, e4, e5, e6, e7, ef⟩ := HE.out
  go_upto_region 3 with fail
  go_cut [5] from 23 to 26 (fun a wx => a = .bool ns ∧ wx = w1)
  case first J K' h1' h2' =>
    by_cases z0 : sn = 0
    · by_cases z1 : sd = 0
      · have e : ns = true := by rw [Hns.out]; exact decide_eq_true ⟨z0, z1⟩
        go_wp2_with fail
        refine Met.intro (h1' _ _ ?_)
        (repeat apply Exists.intro)
        exact ⟨⟨by first | (rw [e]; done) | (rw [e]; rfl) | (rw [e]; simp [z0, z1]), rfl⟩, rfl⟩
      · have e : ns = false := by rw [Hns.out]; exact decide_eq_false (fun h => z1 h.2)
        go_wp2_with fail
        refine Met.intro (h1' _ _ ?_)
        (repeat apply Exists.intro)
        exact ⟨⟨by first | (rw [e]; done) | (rw [e]; rfl) | (rw [e]; simp [z1]), rfl⟩, rfl⟩
    · have e : ns = false := by rw [Hns.out]; exact decide_eq_false (fun h => z0 h.1)
      go_wp2_with fail
      refine Met.intro (h1' _ _ ?_)
      (repeat apply Exists.intro)
      exact ⟨⟨by first | (rw [e]; done) | (rw [e]; rfl) | (rw [e]; simp [z0]), rfl⟩, rfl⟩
  obtain ⟨rfl, hw⟩ := hcut
  have hw2 := hw.symm
  subst hw2
  clear e0 e1 e2 e3 e4 e5 e6 e7 ef
  cases hv : nr with
  | false =>
    have HRR : Hid (R = false) := Lib.hid (by rw [HR.out]; have hq := of_decide_eq_false (Hnr.out.symm.trans hv); exact editB_no (fun h => by unfold EditP at h; omega))
    clear hv
    obtain ⟨e0, e1, e2, e3, e4, e5, e6, e7, ef⟩ := HE.out
    go_wp2_with fail
    go_ret
    exact ⟨ret_bool (HRR.out).symm, HB.out⟩
  | true =>
  have Tnr := Lib.hid (of_decide_eq_true (Hnr.out.symm.trans hv))
  clear hv
  by_cases t1 : 0 ≤ c
  rotate_left
  · have HRR : Hid (R = false) := Lib.hid (by rw [HR.out]; exact editB_no (fun h => by unfold EditP at h; omega))
    obtain ⟨e0, e1, e2, e3, e4, e5, e6, e7, ef⟩ := HE.out
    go_wp2_with fail
    go_ret
    exact ⟨ret_bool (HRR.out).symm, HB.out⟩
  by_cases t2 : d ≠ 0
  rotate_left
  · have HRR : Hid (R = false) := Lib.hid (by rw [HR.out]; exact editB_no (fun h => by unfold EditP at h; omega))
    obtain ⟨e0, e1, e2, e3, e4, e5, e6, e7, ef⟩ := HE.out
    go_wp2_with fail
    go_ret
    exact ⟨ret_bool (HRR.out).symm, HB.out⟩
  have g2 : (d != 0) = true := by simp [t2]
  have T2 := Lib.hid t2
  clear t2
  by_cases hd : -2147483647 ≤ d ∧ d ≤ 2147483647
  rotate_left
  · have HRR : Hid (R = false) := Lib.hid (by rw [HR.out]; exact editB_no (fun h => by unfold EditP at h; omega))
    obtain ⟨e0, e1, e2, e3, e4, e5, e6, e7, ef⟩ := HE.out
    go_wp2_with fail
    refine (within_no d (-2147483647) _ (by omega)).mono ?_
    rintro e w' ⟨rfl, rfl⟩
    go_wp2_with fail
    go_ret
    exact ⟨ret_bool (HRR.out).symm, HB.out⟩
  have Thd := Lib.hid hd
  clear hd
  obtain ⟨e0, e1, e2, e3, e4, e5, e6, e7, ef⟩ := HE.out
  go_wp2_with fail
  refine (within_yes d (-2147483647) _ Thd.out.1 Thd.out.2).mono ?_
  rintro e w' ⟨rfl, rfl⟩
  clear e0 e1 e2 e3 e4 e5 e6 e7 ef
  cases hv : ns with
  | false =>
    have HRR : Hid (R = false) := Lib.hid (by rw [HR.out]; have hq := of_decide_eq_false (Hns.out.symm.trans hv); exact editB_no (fun h => by unfold EditP at h; omega))
    clear hv
    obtain ⟨e0, e1, e2, e3, e4, e5, e6, e7, ef⟩ := HE.out
    go_wp2_with fail
    go_ret
    exact ⟨ret_bool (HRR.out).symm, HB.out⟩
  | true =>
  have Tns := Lib.hid (of_decide_eq_true (Hns.out.symm.trans hv))
  clear hv
  by_cases hl : N = 0
  rotate_left
  · have HRR : Hid (R = false) := Lib.hid (by rw [HR.out]; have := HN.out; exact editB_no (fun h => by unfold EditP at h; omega))
    have gl : ((N : Int) == 0) = false := by simp; omega
    obtain ⟨e0, e1, e2, e3, e4, e5, e6, e7, ef⟩ := HE.out
    go_wp2_with fail
    go_ret
    exact ⟨ret_bool (HRR.out).symm, HB.out⟩
  have TL := Lib.hid (show l.length = 0 by rw [← HN.out]; exact hl)
  subst hl
  have HRR : Hid (R = true) := Lib.hid (by rw [HR.out]; exact editB_yes (.inr (.inr (.inl ⟨by decide, Tnr.out.1, Tnr.out.2, t1, T2.out, Thd.out.1, Thd.out.2, Tns.out.1, Tns.out.2, TL.out⟩))))
  obtain ⟨e0, e1, e2, e3, e4, e5, e6, e7, ef⟩ := HE.out
  go_wp2_with fail
  go_ret
  exact ⟨ret_bool (HRR.out).symm, HB.out⟩
set_option maxRecDepth 100000 in
set_option maxHeartbeats 16000000 in
theorem gvalid_10 (p n c d sn sd : Int) (v : Value) (l : List Trk.Clip) (w : World) (h : GT w v l) (hI : InE 10 p n c d sn sd) (hS : TrackSays 44) :
    Calls Try.prog 16 #[edV 10 p n c d sn sd v] w fun e w' => e = .returned (.bool (editB 10 p n c d sn sd l)) ∧ Below w.heap.size w w' := by
  have HU := Lib.hid h
  have HS := Lib.hid hS
  have HIN := Lib.hid hI
  obtain ⟨R, hR⟩ : ∃ R, R = editB 10 p n c d sn sd l := ⟨_, rfl⟩
  rw [← hR]
  have HR := Lib.hid hR
  obtain ⟨ao, cap, rfl, -⟩ := h
  obtain ⟨N, hN⟩ : ∃ N, N = l.length := ⟨_, rfl⟩
  rw [← hN] at HU
  unfold edV
  rw [← hN]
  have HN := Lib.hid hN
  clear hN hR hS hI
  obtain ⟨EE, hEE⟩ : ∃ E, E = edC 10 p n c d sn sd (.slice ao N cap) := ⟨_, rfl⟩
  rw [← hEE]
  have HEE := Lib.hid hEE
  clear hEE
  go_enter Try.func16, Try.ntmps16
  go_upto_region 1 with fail
  obtain ⟨w1, hw1⟩ : ∃ y, y = w.alloc (.cells EE 26) := ⟨_, rfl⟩
  rw [← hw1]
  obtain ⟨g, hg⟩ : ∃ y, y = w.heap.size := ⟨_, rfl⟩
  rw [← hg]
  have HE := Lib.hid (show ED w1 g 10 p n c d sn sd (.slice ao N cap) by rw [hw1, hg, HEE.out]; exact ED.box w 10 p n c d sn sd (.slice ao N cap) rfl 26)
  have HB := Lib.hid (show Below w.heap.size w w1 by rw [hw1]; exact below_box _ _)
  clear hw1 hg HEE
  obtain ⟨nr, hnr⟩ : ∃ r, r = decide (p = 0 ∧ n = 0) := ⟨_, rfl⟩
  have Hnr := Lib.hid hnr
  clear hnr
  obtain ⟨nc, hnc⟩ : ∃ r, r = decide (c = 0 ∧ d = 0) := ⟨_, rfl⟩
  have Hnc := Lib.hid hnc
  clear hnc
  obtain ⟨ns, hns⟩ : ∃ r, r = decide (sn = 0 ∧ sd = 0) := ⟨_, rfl⟩
  have Hns := Lib.hid hns
  clear hns
  obtain ⟨e0, e1, e2, e3, e4, e5, e6, e7, ef⟩ := HE.out
  go_upto_region 1 with fail
  go_cut [3] from 7 to 14 (fun a wx => a = .bool nr ∧ wx = w1)
  case first J K' h1' h2' =>
    by_cases z0 : p = 0
    · by_cases z1 : n = 0
      · have e : nr = true := by rw [Hnr.out]; exact decide_eq_true ⟨z0, z1⟩
        go_wp2_with fail
        refine Met.intro (h1' _ _ ?_)
        (repeat apply Exists.intro)
        exact ⟨⟨by first | (rw [e]; done) | (rw [e]; rfl) | (rw [e]; simp [z0, z1]), rfl⟩, rfl⟩
      · have e : nr = false := by rw [Hnr.out]; exact decide_eq_false (fun h => z1 h.2)
        go_wp2_with fail
        refine Met.intro (h1' _ _ ?_)
        (repeat apply Exists.intro)
        exact ⟨⟨by first | (rw [e]; done) | (rw [e]; rfl) | (rw [e]; simp [z1]), rfl⟩, rfl⟩
    · have e : nr = false := by rw [Hnr.out]; exact decide_eq_false (fun h => z0 h.1)
      go_wp2_with fail
      refine Met.intro (h1' _ _ ?_)
      (repeat apply Exists.intro)
      exact ⟨⟨by first | (rw [e]; done) | (rw [e]; rfl) | (rw [e]; simp [z0]), rfl⟩, rfl⟩
  obtain ⟨rfl, hw⟩ := hcut
  have hw2 := hw.symm
  subst hw2
  clear e0 e1 e2 e3 e4 e5 e6 e7 ef
  obtain ⟨e0, e1, e2, e3, e4, e5, e6, e7, ef⟩ := HE.out
  go_upto_region 2 with fail
  go_cut [4] from 15 to 22 (fun a wx => a = .bool nc ∧ wx = w1)
  case first J K' h1' h2' =>
    by_cases z0 : c = 0
    · by_cases z1 : d = 0
      · have e : nc = true := by rw [Hnc.out]; exact decide_eq_true ⟨z0, z1⟩
        go_wp2_with fail
        refine Met.intro (h1' _ _ ?_)
        (repeat apply Exists.intro)
        exact ⟨⟨by first | (rw [e]; done) | (rw [e]; rfl) | (rw [e]; simp [z0, z1]), rfl⟩, rfl⟩
      · have e : nc = false := by rw [Hnc.out]; exact decide_eq_false (fun h => z1 h.2)
        go_wp2_with fail
        refine Met.intro (h1' _ _ ?_)
        (repeat apply Exists.intro)
        exact ⟨⟨by first | (rw [e]; done) | (rw [e]; rfl) | (rw [e]; simp [z1]), rfl⟩, rfl⟩
    · have e : nc = false := by rw [Hnc.out]; exact decide_eq_false (fun h => z0 h.1)
      go_wp2_with fail
      refine Met.intro (h1' _ _ ?_)
      (repeat apply Exists.intro)
      exact ⟨⟨by first | (rw [e]; done) | (rw [e]; rfl) | (rw [e]; simp [z0]), rfl⟩, rfl⟩
  obtain ⟨rfl, hw⟩ := hcut
  have hw2 := hw.symm
  subst hw2
  clear e0 e1 e2 e3 e4 e5 e6 e7 ef
  obtain ⟨e0, e1, e2, e3, e4, e5, e6, e7, ef⟩ := HE.out
  go_upto_region 3 with fail
  go_cut [5] from 23 to 26 (fun a wx => a = .bool ns ∧ wx = w1)
  case first J K' h1' h2' =>
    by_cases z0 : sn = 0
    · by_cases z1 : sd = 0
      · have e : ns = true := by rw [Hns.out]; exact decide_eq_true ⟨z0, z1⟩
        go_wp2_with fail
        refine Met.intro (h1' _ _ ?_)
        (repeat apply Exists.intro)
        exact ⟨⟨by first | (rw [e]; done) | (rw [e]; rfl) | (rw [e]; simp [z0, z1]), rfl⟩, rfl⟩
      · have e : ns = false := by rw [Hns.out]; exact decide_eq_false (fun h => z1 h.2)
        go_wp2_with fail
        refine Met.intro (h1' _ _ ?_)
        (repeat apply Exists.intro)
        exact ⟨⟨by first | (rw [e]; done) | (rw [e]; rfl) | (rw [e]; simp [z1]), rfl⟩, rfl⟩
    · have e : ns = false := by rw [Hns.out]; exact decide_eq_false (fun h => z0 h.1)
      go_wp2_with fail
      refine Met.intro (h1' _ _ ?_)
      (repeat apply Exists.intro)
      exact ⟨⟨by first | (rw [e]; done) | (rw [e]; rfl) | (rw [e]; simp [z0]), rfl⟩, rfl⟩
  obtain ⟨rfl, hw⟩ := hcut
  have hw2 := hw.symm
  subst hw2
  clear e0 e1 e2 e3 e4 e5 e6 e7 ef
  cases hv : nr with
  | false =>
    have HRR : Hid (R = false) := Lib.hid (by rw [HR.out]; have hq := of_decide_eq_false (Hnr.out.symm.trans hv); exact editB_no (fun h => by unfold EditP at h; omega))
    clear hv
    obtain ⟨e0, e1, e2, e3, e4, e5, e6, e7, ef⟩ := HE.out
    go_wp2_with fail
    go_ret
    exact ⟨ret_bool (HRR.out).symm, HB.out⟩
  | true =>
  have Tnr := Lib.hid (of_decide_eq_true (Hnr.out.symm.trans hv))
  clear hv
  by_cases t1 : 0 ≤ c
  rotate_left
  · have HRR : Hid (R = false) := Lib.hid (by rw [HR.out]; exact editB_no (fun h => by unfold EditP at h; omega))
    obtain ⟨e0, e1, e2, e3, e4, e5, e6, e7, ef⟩ := HE.out
    go_wp2_with fail
    go_ret
    exact ⟨ret_bool (HRR.out).symm, HB.out⟩
  by_cases t2 : d = 0
  rotate_left
  · have HRR : Hid (R = false) := Lib.hid (by rw [HR.out]; exact editB_no (fun h => by unfold EditP at h; omega))
    have gt2 : (d == 0) = false := by simp; omega
    obtain ⟨e0, e1, e2, e3, e4, e5, e6, e7, ef⟩ := HE.out
    go_wp2_with fail
    go_ret
    exact ⟨ret_bool (HRR.out).symm, HB.out⟩
  have T2 := Lib.hid t2
  have g2 : (d == 0) = true := by simp [t2]
  clear t2
  obtain ⟨e0, e1, e2, e3, e4, e5, e6, e7, ef⟩ := HE.out
  go_wp2_with fail
  refine (valid_any sn sd _ HIN.out.a0 HIN.out.a1 HIN.out.b0 HIN.out.b1).mono ?_
  rintro e w2 ⟨rfl, hb⟩
  have HE2 := Lib.hid (HE.out.below hb)
  have HB2 := Lib.hid (HB.out.trans (hb.mono HB.out.size))
  clear hb HE HB e0 e1 e2 e3 e4 e5 e6 e7 ef
  cases hv : validR sn sd with
  | false =>
    have HRR : Hid (R = false) := Lib.hid (by rw [HR.out]; exact editB_no (fun h => by unfold EditP at h; rw [hv] at h; simp at h))
    clear hv
    obtain ⟨e0, e1, e2, e3, e4, e5, e6, e7, ef⟩ := HE2.out
    go_wp2_with fail
    go_ret
    exact ⟨ret_bool (HRR.out).symm, HB2.out⟩
  | true =>
  have TV := Lib.hid hv
  clear hv
  by_cases hl : N = 0
  rotate_left
  · have HRR : Hid (R = false) := Lib.hid (by rw [HR.out]; have := HN.out; exact editB_no (fun h => by unfold EditP at h; omega))
    have gl : ((N : Int) == 0) = false := by simp; omega
    obtain ⟨e0, e1, e2, e3, e4, e5, e6, e7, ef⟩ := HE2.out
    go_wp2_with fail
    go_ret
    exact ⟨ret_bool (HRR.out).symm, HB2.out⟩
  have TL := Lib.hid (show l.length = 0 by rw [← HN.out]; exact hl)
  subst hl
  have HRR : Hid (R = true) := Lib.hid (by rw [HR.out]; exact editB_yes (.inr (.inr (.inr ⟨rfl, Tnr.out.1, Tnr.out.2, t1, T2.out, TV.out, TL.out⟩))))
  obtain ⟨e0, e1, e2, e3, e4, e5, e6, e7, ef⟩ := HE2.out
  go_wp2_with fail
  go_ret
  exact ⟨ret_bool (HRR.out).symm, HB2.out⟩
theorem gvalid_all (k p n c d sn sd : Int) (v : Value) (l : List Trk.Clip) (w : World) (h : GT w v l) (hI : InE k p n c d sn sd) (hS : TrackSays 44) :
    Calls Try.prog 16 #[edV k p n c d sn sd v] w fun e w' => e = .returned (.bool (editB k p n c d sn sd l)) ∧ Below w.heap.size w w' := by
  by_cases hk : k < 1 ∨ 10 < k
  · exact gvalid_else k p n c d sn sd v l w h hI hS hk
  rcases (show k = 1 ∨ k = 2 ∨ k = 3 ∨ k = 4 ∨ k = 5 ∨ k = 6 ∨ k = 7 ∨ k = 8 ∨ k = 9 ∨ k = 10 by omega) with rfl | rfl | rfl | rfl | rfl | rfl | rfl | rfl | rfl | rfl
  · exact gvalid_1 p n c d sn sd v l w h hI hS
  · exact gvalid_2 p n c d sn sd v l w h hI hS
  · exact gvalid_3 p n c d sn sd v l w h hI hS
  · exact gvalid_4 p n c d sn sd v l w h hI hS
  · exact gvalid_5 p n c d sn sd v l w h hI hS
  · exact gvalid_6 p n c d sn sd v l w h hI hS
  · exact gvalid_7 p n c d sn sd v l w h hI hS
  · exact gvalid_8 p n c d sn sd v l w h hI hS
  · exact gvalid_9 p n c d sn sd v l w h hI hS
  · exact gvalid_10 p n c d sn sd v l w h hI hS
end Go.Proofs.Ytnmkcpgcdjhdjaa
