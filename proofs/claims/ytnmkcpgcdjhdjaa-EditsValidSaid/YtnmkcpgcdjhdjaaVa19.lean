/- Texts of this claim joined: AN. -/
import Derived.Deep.CutRange
import Derived.Test.YtnmkcpgcdjhdjaaVa18
set_option linter.unusedVariables false
set_option linter.unusedSimpArgs false

/- Valid of the program at any edit: kinds none, 1, 2, 3, 4. -/
namespace Go.Proofs.Ytnmkcpgcdjhdjaa
open Go.RowKit
set_option linter.unusedVariables false
set_option linter.unusedSimpArgs false
set_option maxRecDepth 100000 in
set_option maxHeartbeats 16000000 in
theorem gvalid_else (k : Int) (p n c d sn sd : Int) (v : Value) (l : List Trk.Clip) (w : World) (h : GT w v l) (hI : InE k p n c d sn sd) (hS : TrackSays 44) (hk : k < 1 ∨ 10 < k) :
    Calls Try.prog 16 #[edV k p n c d sn sd v] w fun e w' => e = .returned (.bool (editB k p n c d sn sd l)) ∧ Below w.heap.size w w' := by
  have HU := Lib.hid h
  have HS := Lib.hid hS
  have HIN := Lib.hid hI
  obtain ⟨R, hR⟩ : ∃ R, R = editB k p n c d sn sd l := ⟨_, rfl⟩
  rw [← hR]
  have HR := Lib.hid hR
  obtain ⟨ao, cap, rfl, -⟩ := h
  obtain ⟨N, hN⟩ : ∃ N, N = l.length := ⟨_, rfl⟩
  rw [← hN] at HU
  unfold edV
  rw [← hN]
  have HN := Lib.hid hN
  clear hN hR hS hI
  obtain ⟨EE, hEE⟩ : ∃ E, E = edC k p n c d sn sd (.slice ao N cap) := ⟨_, rfl⟩
  rw [← hEE]
  have HEE := Lib.hid hEE
  clear hEE
  go_enter Try.func16, Try.ntmps16
  go_upto_region 1 with fail
  obtain ⟨w1, hw1⟩ : ∃ y, y = w.alloc (.cells EE 26) := ⟨_, rfl⟩
  rw [← hw1]
  obtain ⟨g, hg⟩ : ∃ y, y = w.heap.size := ⟨_, rfl⟩
  rw [← hg]
  have HE := Lib.hid (show ED w1 g k p n c d sn sd (.slice ao N cap) by rw [hw1, hg, HEE.out]; exact ED.box w k p n c d sn sd (.slice ao N cap) rfl 26)
  have HB := Lib.hid (show Below w.heap.size w w1 by rw [hw1]; exact below_box _ _)
  clear hw1 hg HEE
  have q1 : (k == 1) = false := by simp; omega
  have q2 : (k == 2) = false := by simp; omega
  have q3 : (k == 3) = false := by simp; omega
  have q4 : (k == 4) = false := by simp; omega
  have q5 : (k == 5) = false := by simp; omega
  have q6 : (k == 6) = false := by simp; omega
  have q7 : (k == 7) = false := by simp; omega
  have q8 : (k == 8) = false := by simp; omega
  have q9 : (k == 9) = false := by simp; omega
  have q10 : (k == 10) = false := by simp; omega
  obtain ⟨nr, hnr⟩ : ∃ r, r = decide (p = 0 ∧ n = 0) := ⟨_, rfl⟩
  have Hnr := Lib.hid hnr
  clear hnr
  obtain ⟨nc, hnc⟩ : ∃ r, r = decide (c = 0 ∧ d = 0) := ⟨_, rfl⟩
  have Hnc := Lib.hid hnc
  clear hnc
  obtain ⟨ns, hns⟩ : ∃ r, r = decide (sn = 0 ∧ sd = 0) := ⟨_, rfl⟩
  have Hns := Lib.hid hns
  clear hns
  obtain ⟨e0, e1, e2, e3, e4, e5, e6, e7, ef⟩ := HE.out
  go_upto_region 1 with fail
  go_cut [3] from 7 to 14 (fun a wx => a = .bool nr ∧ wx = w1)
  case first J K' h1' h2' =>
    by_cases z0 : p = 0
    · by_cases z1 : n = 0
      · have e : nr = true := by rw [Hnr.out]; exact decide_eq_true ⟨z0, z1⟩
        go_wp2_with fail
        refine Met.intro (h1' _ _ ?_)
        (repeat apply Exists.intro)
        exact ⟨⟨by first | (rw [e]; done) | (rw [e]; rfl) | (rw [e]; simp [z0, z1]), rfl⟩, rfl⟩
      · have e : nr = false := by rw [Hnr.out]; exact decide_eq_false (fun h => z1 h.2)
        go_wp2_with fail
        refine Met.intro (h1' _ _ ?_)
        (repeat apply Exists.intro)
        exact ⟨⟨by first | (rw [e]; done) | (rw [e]; rfl) | (rw [e]; simp [z1]), rfl⟩, rfl⟩
    · have e : nr = false := by rw [Hnr.out]; exact decide_eq_false (fun h => z0 h.1)
      go_wp2_with fail
      refine Met.intro (h1' _ _ ?_)
      (repeat apply Exists.intro)
      exact ⟨⟨by first | (rw [e]; done) | (rw [e]; rfl) | (rw [e]; simp [z0]), rfl⟩, rfl⟩
  obtain ⟨rfl, hw⟩ := hcut
  have hw2 := hw.symm
  subst hw2
  clear e0 e1 e2 e3 e4 e5 e6 e7 ef
  obtain ⟨e0, e1, e2, e3, e4, e5, e6, e7, ef⟩ := HE.out
  go_upto_region 2 with fail
  go_cut [4] from 15 to 22 (fun a wx => a = .bool nc ∧ wx = w1)
  case first J K' h1' h2' =>
    by_cases z0 : c = 0
    · by_cases z1 : d = 0
      · have e : nc = true := by rw [Hnc.out]; exact decide_eq_true ⟨z0, z1⟩
        go_wp2_with fail
        refine Met.intro (h1' _ _ ?_)
        (repeat apply Exists.intro)
        exact ⟨⟨by first | (rw [e]; done) | (rw [e]; rfl) | (rw [e]; simp [z0, z1]), rfl⟩, rfl⟩
      · have e : nc = false := by rw [Hnc.out]; exact decide_eq_false (fun h => z1 h.2)
        go_wp2_with fail
        refine Met.intro (h1' _ _ ?_)
        (repeat apply Exists.intro)
        exact ⟨⟨by first | (rw [e]; done) | (rw [e]; rfl) | (rw [e]; simp [z1]), rfl⟩, rfl⟩
    · have e : nc = false := by rw [Hnc.out]; exact decide_eq_false (fun h => z0 h.1)
      go_wp2_with fail
      refine Met.intro (h1' _ _ ?_)
      (repeat apply Exists.intro)
      exact ⟨⟨by first | (rw [e]; done) | (rw [e]; rfl) | (rw [e]; simp [z0]), rfl⟩, rfl⟩
  obtain ⟨rfl, hw⟩ := hcut
  have hw2 := hw.symm
  subst hw2
  clear e0 e1 e2 e3 e4 e5 e6 e7 ef
  obtain ⟨e0, e1, e2, e3, e4, e5, e6, e7, ef⟩ := HE.out
  go_upto_region 3 with fail
  go_cut [5] from 23 to 26 (fun a wx => a = .bool ns ∧ wx = w1)
  case first J K' h1' h2' =>
    by_cases z0 : sn = 0
    · by_cases z1 : sd = 0
      · have e : ns = true := by rw [Hns.out]; exact decide_eq_true ⟨z0, z1⟩
        go_wp2_with fail
        refine Met.intro (h1' _ _ ?_)
        (repeat apply Exists.intro)
        exact ⟨⟨by first | (rw [e]; done) | (rw [e]; rfl) | (rw [e]; simp [z0, z1]), rfl⟩, rfl⟩
      · have e : ns = false := by rw [Hns.out]; exact decide_eq_false (fun h => z1 h.2)
        go_wp2_with fail
        refine Met.intro (h1' _ _ ?_)
        (repeat apply Exists.intro)
        exact ⟨⟨by first | (rw [e]; done) | (rw [e]; rfl) | (rw [e]; simp [z1]), rfl⟩, rfl⟩
    · have e : ns = false := by rw [Hns.out]; exact decide_eq_false (fun h => z0 h.1)
      go_wp2_with fail
      refine Met.intro (h1' _ _ ?_)
      (repeat apply Exists.intro)
      exact ⟨⟨by first | (rw [e]; done) | (rw [e]; rfl) | (rw [e]; simp [z0]), rfl⟩, rfl⟩
  obtain ⟨rfl, hw⟩ := hcut
  have hw2 := hw.symm
  subst hw2
  clear e0 e1 e2 e3 e4 e5 e6 e7 ef
  have HRR : Hid (R = false) := Lib.hid (by rw [HR.out]; exact editB_no (fun h => by unfold EditP at h; omega))
  obtain ⟨e0, e1, e2, e3, e4, e5, e6, e7, ef⟩ := HE.out
  go_wp2_with fail
  go_ret
  exact ⟨ret_bool (HRR.out).symm, HB.out⟩
set_option maxRecDepth 100000 in
set_option maxHeartbeats 16000000 in
theorem gvalid_1 (p n c d sn sd : Int) (v : Value) (l : List Trk.Clip) (w : World) (h : GT w v l) (hI : InE 1 p n c d sn sd) (hS : TrackSays 44) :
    Calls Try.prog 16 #[edV 1 p n c d sn sd v] w fun e w' => e = .returned (.bool (editB 1 p n c d sn sd l)) ∧ Below w.heap.size w w' := by
  have HU := Lib.hid h
  have HS := Lib.hid hS
  have HIN := Lib.hid hI
  obtain ⟨R, hR⟩ : ∃ R, R = editB 1 p n c d sn sd l := ⟨_, rfl⟩
  rw [← hR]
  have HR := Lib.hid hR
  obtain ⟨ao, cap, rfl, -⟩ := h
  obtain ⟨N, hN⟩ : ∃ N, N = l.length := ⟨_, rfl⟩
  rw [← hN] at HU
  unfold edV
  rw [← hN]
  have HN := Lib.hid hN
  clear hN hR hS hI
  obtain ⟨EE, hEE⟩ : ∃ E, E = edC 1 p n c d sn sd (.slice ao N cap) := ⟨_, rfl⟩
  rw [← hEE]
  have HEE := Lib.hid hEE
  clear hEE
  go_enter Try.func16, Try.ntmps16
  go_upto_region 1 with fail
  obtain ⟨w1, hw1⟩ : ∃ y, y = w.alloc (.cells EE 26) := ⟨_, rfl⟩
  rw [← hw1]
  obtain ⟨g, hg⟩ : ∃ y, y = w.heap.size := ⟨_, rfl⟩
  rw [← hg]
  have HE := Lib.hid (show ED w1 g 1 p n c d sn sd (.slice ao N cap) by rw [hw1, hg, HEE.out]; exact ED.box w 1 p n c d sn sd (.slice ao N cap) rfl 26)
  have HB := Lib.hid (show Below w.heap.size w w1 by rw [hw1]; exact below_box _ _)
  clear hw1 hg HEE
  obtain ⟨nr, hnr⟩ : ∃ r, r = decide (p = 0 ∧ n = 0) := ⟨_, rfl⟩
  have Hnr := Lib.hid hnr
  clear hnr
  obtain ⟨nc, hnc⟩ : ∃ r, r = decide (c = 0 ∧ d = 0) := ⟨_, rfl⟩
  have Hnc := Lib.hid hnc
  clear hnc
  obtain ⟨ns, hns⟩ : ∃ r, r = decide (sn = 0 ∧ sd = 0) := ⟨_, rfl⟩
  have Hns := Lib.hid hns
  clear hns
  obtain ⟨e0, e1, e2, e3, e4, e5, e6, e7, ef⟩ := HE.out
  go_upto_region 1 with fail
  go_cut [3] from 7 to 14 (fun a wx => a = .bool nr ∧ wx = w1)
  case first J K' h1' h2' =>
    by_cases z0 : p = 0
    · by_cases z1 : n = 0
      · have e : nr = true := by rw [Hnr.out]; exact decide_eq_true ⟨z0, z1⟩
        go_wp2_with fail
        refine Met.intro (h1' _ _ ?_)
        (repeat apply Exists.intro)
        exact ⟨⟨by first | (rw [e]; done) | (rw [e]; rfl) | (rw [e]; simp [z0, z1]), rfl⟩, rfl⟩
      · have e : nr = false := by rw [Hnr.out]; exact decide_eq_false (fun h => z1 h.2)
        go_wp2_with fail
        refine Met.intro (h1' _ _ ?_)
        (repeat apply Exists.intro)
        exact ⟨⟨by first | (rw [e]; done) | (rw [e]; rfl) | (rw [e]; simp [z1]), rfl⟩, rfl⟩
    · have e : nr = false := by rw [Hnr.out]; exact decide_eq_false (fun h => z0 h.1)
      go_wp2_with fail
      refine Met.intro (h1' _ _ ?_)
      (repeat apply Exists.intro)
      exact ⟨⟨by first | (rw [e]; done) | (rw [e]; rfl) | (rw [e]; simp [z0]), rfl⟩, rfl⟩
  obtain ⟨rfl, hw⟩ := hcut
  have hw2 := hw.symm
  subst hw2
  clear e0 e1 e2 e3 e4 e5 e6 e7 ef
  obtain ⟨e0, e1, e2, e3, e4, e5, e6, e7, ef⟩ := HE.out
  go_upto_region 2 with fail
  go_cut [4] from 15 to 22 (fun a wx => a = .bool nc ∧ wx = w1)
  case first J K' h1' h2' =>
    by_cases z0 : c = 0
    · by_cases z1 : d = 0
      · have e : nc = true := by rw [Hnc.out]; exact decide_eq_true ⟨z0, z1⟩
        go_wp2_with fail
        refine Met.intro (h1' _ _ ?_)
        (repeat apply Exists.intro)
        exact ⟨⟨by first | (rw [e]; done) | (rw [e]; rfl) | (rw [e]; simp [z0, z1]), rfl⟩, rfl⟩
      · have e : nc = false := by rw [Hnc.out]; exact decide_eq_false (fun h => z1 h.2)
        go_wp2_with fail
        refine Met.intro (h1' _ _ ?_)
        (repeat apply Exists.intro)
        exact ⟨⟨by first | (rw [e]; done) | (rw [e]; rfl) | (rw [e]; simp [z1]), rfl⟩, rfl⟩
    · have e : nc = false := by rw [Hnc.out]; exact decide_eq_false (fun h => z0 h.1)
      go_wp2_with fail
      refine Met.intro (h1' _ _ ?_)
      (repeat apply Exists.intro)
      exact ⟨⟨by first | (rw [e]; done) | (rw [e]; rfl) | (rw [e]; simp [z0]), rfl⟩, rfl⟩
  obtain ⟨rfl, hw⟩ := hcut
  have hw2 := hw.symm
  subst hw2
  clear e0 e1 e2 e3 e4 e5 e6 e7 ef
  obtain ⟨e0, e1, e2, e3, e4, e5, e6, e7, ef⟩ := HE.out
  go_upto_region 3 with fail
  go_cut [5] from 23 to 26 (fun a wx => a = .bool ns ∧ wx = w1)
  case first J K' h1' h2' =>
    by_cases z0 : sn = 0
    · by_cases z1 : sd = 0
      · have e : ns = true := by rw [Hns.out]; exact decide_eq_true ⟨z0, z1⟩
        go_wp2_with fail
        refine Met.intro (h1' _ _ ?_)
        (repeat apply Exists.intro)
        exact ⟨⟨by first | (rw [e]; done) | (rw [e]; rfl) | (rw [e]; simp [z0, z1]), rfl⟩, rfl⟩
      · have e : ns = false := by rw [Hns.out]; exact decide_eq_false (fun h => z1 h.2)
        go_wp2_with fail
        refine Met.intro (h1' _ _ ?_)
        (repeat apply Exists.intro)
        exact ⟨⟨by first | (rw [e]; done) | (rw [e]; rfl) | (rw [e]; simp [z1]), rfl⟩, rfl⟩
    · have e : ns = false := by rw [Hns.out]; exact decide_eq_false (fun h => z0 h.1)
      go_wp2_with fail
      refine Met.intro (h1' _ _ ?_)
      (repeat apply Exists.intro)
      exact ⟨⟨by first | (rw [e]; done) | (rw [e]; rfl) | (rw [e]; simp [z0]), rfl⟩, rfl⟩
  obtain ⟨rfl, hw⟩ := hcut
  have hw2 := hw.symm
  subst hw2
  clear e0 e1 e2 e3 e4 e5 e6 e7 ef
  by_cases hp : 0 ≤ p ∧ p ≤ 2147483647
  rotate_left
  · have HRR : Hid (R = false) := Lib.hid (by rw [HR.out]; exact editB_no (fun h => by unfold EditP at h; omega))
    obtain ⟨e0, e1, e2, e3, e4, e5, e6, e7, ef⟩ := HE.out
    go_wp2_with fail
    refine (within_no p (0) _ (by omega)).mono ?_
    rintro e w' ⟨rfl, rfl⟩
    go_wp2_with fail
    go_ret
    exact ⟨ret_bool (HRR.out).symm, HB.out⟩
  have Thp := Lib.hid hp
  clear hp
  obtain ⟨e0, e1, e2, e3, e4, e5, e6, e7, ef⟩ := HE.out
  go_wp2_with fail
  refine (within_yes p (0) _ Thp.out.1 Thp.out.2).mono ?_
  rintro e w' ⟨rfl, rfl⟩
  clear e0 e1 e2 e3 e4 e5 e6 e7 ef
  by_cases t1 : n = 0
  rotate_left
  · have HRR : Hid (R = false) := Lib.hid (by rw [HR.out]; exact editB_no (fun h => by unfold EditP at h; omega))
    have gt1 : (n == 0) = false := by simp; omega
    obtain ⟨e0, e1, e2, e3, e4, e5, e6, e7, ef⟩ := HE.out
    go_wp2_with fail
    go_ret
    exact ⟨ret_bool (HRR.out).symm, HB.out⟩
  have T1 := Lib.hid t1
  have g1 : (n == 0) = true := by simp [t1]
  clear t1
  cases hv : nc with
  | false =>
    have HRR : Hid (R = false) := Lib.hid (by rw [HR.out]; have hq := of_decide_eq_false (Hnc.out.symm.trans hv); exact editB_no (fun h => by unfold EditP at h; omega))
    clear hv
    obtain ⟨e0, e1, e2, e3, e4, e5, e6, e7, ef⟩ := HE.out
    go_wp2_with fail
    go_ret
    exact ⟨ret_bool (HRR.out).symm, HB.out⟩
  | true =>
  have Tnc := Lib.hid (of_decide_eq_true (Hnc.out.symm.trans hv))
  clear hv
  cases hv : ns with
  | false =>
    have HRR : Hid (R = false) := Lib.hid (by rw [HR.out]; have hq := of_decide_eq_false (Hns.out.symm.trans hv); exact editB_no (fun h => by unfold EditP at h; omega))
    clear hv
    obtain ⟨e0, e1, e2, e3, e4, e5, e6, e7, ef⟩ := HE.out
    go_wp2_with fail
    go_ret
    exact ⟨ret_bool (HRR.out).symm, HB.out⟩
  | true =>
  have Tns := Lib.hid (of_decide_eq_true (Hns.out.symm.trans hv))
  clear hv
  have HRR : Hid (R = clipsB l) := Lib.hid (by rw [HR.out]; exact editB_ins (by decide) Thp.out.1 Thp.out.2 T1.out Tnc.out.1 Tnc.out.2 Tns.out.1 Tns.out.2)
  obtain ⟨e0, e1, e2, e3, e4, e5, e6, e7, ef⟩ := HE.out
  go_wp2_with fail
  refine (vclips_all _ l _ (HU.out.below HB.out) HS.out).mono ?_
  rintro e w2 ⟨rfl, hb⟩
  have HB2 := Lib.hid (HB.out.trans (hb.mono HB.out.size))
  clear hb e0 e1 e2 e3 e4 e5 e6 e7 ef
  rw [← HRR.out]
  go_wp2_with fail
  go_ret
  exact ⟨rfl, HB2.out⟩
set_option maxRecDepth 100000 in
set_option maxHeartbeats 16000000 in
theorem gvalid_2 (p n c d sn sd : Int) (v : Value) (l : List Trk.Clip) (w : World) (h : GT w v l) (hI : InE 2 p n c d sn sd) (hS : TrackSays 44) :
    Calls Try.prog 16 #[edV 2 p n c d sn sd v] w fun e w' => e = .returned (.bool (editB 2 p n c d sn sd l)) ∧ Below w.heap.size w w' := by
  have HU := Lib.hid h
  have HS := Lib.hid hS
  have HIN := Lib.hid hI
  obtain ⟨R, hR⟩ : ∃ R, R = editB 2 p n c d sn sd l := ⟨_, rfl⟩
  rw [← hR]
  have HR := Lib.hid hR
  obtain ⟨ao, cap, rfl, -⟩ := h
  obtain ⟨N, hN⟩ : ∃ N, N = l.length := ⟨_, rfl⟩
  rw [← hN] at HU
  unfold edV
  rw [← hN]
  have HN := Lib.hid hN
  clear hN hR hS hI
  obtain ⟨EE, hEE⟩ : ∃ E, E = edC 2 p n c d sn sd (.slice ao N cap) := ⟨_, rfl⟩
  rw [← hEE]
  have HEE := Lib.hid hEE
  clear hEE
  go_enter Try.func16, Try.ntmps16
  go_upto_region 1 with fail
  obtain ⟨w1, hw1⟩ : ∃ y, y = w.alloc (.cells EE 26) := ⟨_, rfl⟩
  rw [← hw1]
  obtain ⟨g, hg⟩ : ∃ y, y = w.heap.size := ⟨_, rfl⟩
  rw [← hg]
  have HE := Lib.hid (show ED w1 g 2 p n c d sn sd (.slice ao N cap) by rw [hw1, hg, HEE.out]; exact ED.box w 2 p n c d sn sd (.slice ao N cap) rfl 26)
  have HB := Lib.hid (show Below w.heap.size w w1 by rw [hw1]; exact below_box _ _)
  clear hw1 hg HEE
  obtain ⟨nr, hnr⟩ : ∃ r, r = decide (p = 0 ∧ n = 0) := ⟨_, rfl⟩
  have Hnr := Lib.hid hnr
  clear hnr
  obtain ⟨nc, hnc⟩ : ∃ r, r = decide (c = 0 ∧ d = 0) := ⟨_, rfl⟩
  have Hnc := Lib.hid hnc
  clear hnc
  obtain ⟨ns, hns⟩ : ∃ r, r = decide (sn = 0 ∧ sd = 0) := ⟨_, rfl⟩
  have Hns := Lib.hid hns
  clear hns
  obtain ⟨e0, e1, e2, e3, e4, e5, e6, e7, ef⟩ := HE.out
  go_upto_region 1 with fail
  go_cut [3] from 7 to 14 (fun a wx => a = .bool nr ∧ wx = w1)
  case first J K' h1' h2' =>
    by_cases z0 : p = 0
    · by_cases z1 : n = 0
      · have e : nr = true := by rw [Hnr.out]; exact decide_eq_true ⟨z0, z1⟩
        go_wp2_with fail
        refine Met.intro (h1' _ _ ?_)
        (repeat apply Exists.intro)
        exact ⟨⟨by first | (rw [e]; done) | (rw [e]; rfl) | (rw [e]; simp [z0, z1]), rfl⟩, rfl⟩
      · have e : nr = false := by rw [Hnr.out]; exact decide_eq_false (fun h => z1 h.2)
        go_wp2_with fail
        refine Met.intro (h1' _ _ ?_)
        (repeat apply Exists.intro)
        exact ⟨⟨by first | (rw [e]; done) | (rw [e]; rfl) | (rw [e]; simp [z1]), rfl⟩, rfl⟩
    · have e : nr = false := by rw [Hnr.out]; exact decide_eq_false (fun h => z0 h.1)
      go_wp2_with fail
      refine Met.intro (h1' _ _ ?_)
      (repeat apply Exists.intro)
      exact ⟨⟨by first | (rw [e]; done) | (rw [e]; rfl) | (rw [e]; simp [z0]), rfl⟩, rfl⟩
  obtain ⟨rfl, hw⟩ := hcut
  have hw2 := hw.symm
  subst hw2
  clear e0 e1 e2 e3 e4 e5 e6 e7 ef
  obtain ⟨e0, e1, e2, e3, e4, e5, e6, e7, ef⟩ := HE.out
  go_upto_region 2 with fail
  go_cut [4] from 15 to 22 (fun a wx => a = .bool nc ∧ wx = w1)
  case first J K' h1' h2' =>
    by_cases z0 : c = 0
    · by_cases z1 : d = 0
      · have e : nc = true := by rw [Hnc.out]; exact decide_eq_true ⟨z0, z1⟩
        go_wp2_with fail
        refine Met.intro (h1' _ _ ?_)
        (repeat apply Exists.intro)
        exact ⟨⟨by first | (rw [e]; done) | (rw [e]; rfl) | (rw [e]; simp [z0, z1]), rfl⟩, rfl⟩
      · have e : nc = false := by rw [Hnc.out]; exact decide_eq_false (fun h => z1 h.2)
        go_wp2_with fail
        refine Met.intro (h1' _ _ ?_)
        (repeat apply Exists.intro)
        exact ⟨⟨by first | (rw [e]; done) | (rw [e]; rfl) | (rw [e]; simp [z1]), rfl⟩, rfl⟩
    · have e : nc = false := by rw [Hnc.out]; exact decide_eq_false (fun h => z0 h.1)
      go_wp2_with fail
      refine Met.intro (h1' _ _ ?_)
      (repeat apply Exists.intro)
      exact ⟨⟨by first | (rw [e]; done) | (rw [e]; rfl) | (rw [e]; simp [z0]), rfl⟩, rfl⟩
  obtain ⟨rfl, hw⟩ := hcut
  have hw2 := hw.symm
  subst hw2
  clear e0 e1 e2 e3 e4 e5 e6 e7 ef
  obtain ⟨e0, e1, e2, e3, e4, e5, e6, e7, ef⟩ := HE.out
  go_upto_region 3 with fail
  go_cut [5] from 23 to 26 (fun a wx => a = .bool ns ∧ wx = w1)
  case first J K' h1' h2' =>
    by_cases z0 : sn = 0
    · by_cases z1 : sd = 0
      · have e : ns = true := by rw [Hns.out]; exact decide_eq_true ⟨z0, z1⟩
        go_wp2_with fail
        refine Met.intro (h1' _ _ ?_)
        (repeat apply Exists.intro)
        exact ⟨⟨by first | (rw [e]; done) | (rw [e]; rfl) | (rw [e]; simp [z0, z1]), rfl⟩, rfl⟩
      · have e : ns = false := by rw [Hns.out]; exact decide_eq_false (fun h => z1 h.2)
        go_wp2_with fail
        refine Met.intro (h1' _ _ ?_)
        (repeat apply Exists.intro)
        exact ⟨⟨by first | (rw [e]; done) | (rw [e]; rfl) | (rw [e]; simp [z1]), rfl⟩, rfl⟩
    · have e : ns = false := by rw [Hns.out]; exact decide_eq_false (fun h => z0 h.1)
      go_wp2_with fail
      refine Met.intro (h1' _ _ ?_)
      (repeat apply Exists.intro)
      exact ⟨⟨by first | (rw [e]; done) | (rw [e]; rfl) | (rw [e]; simp [z0]), rfl⟩, rfl⟩
  obtain ⟨rfl, hw⟩ := hcut
  have hw2 := hw.symm
  subst hw2
  clear e0 e1 e2 e3 e4 e5 e6 e7 ef
  by_cases hp : 0 ≤ p ∧ p ≤ 2147483647
  rotate_left
  · have HRR : Hid (R = false) := Lib.hid (by rw [HR.out]; exact editB_no (fun h => by unfold EditP at h; omega))
    obtain ⟨e0, e1, e2, e3, e4, e5, e6, e7, ef⟩ := HE.out
    go_wp2_with fail
    refine (within_no p (0) _ (by omega)).mono ?_
    rintro e w' ⟨rfl, rfl⟩
    go_wp2_with fail
    go_ret
    exact ⟨ret_bool (HRR.out).symm, HB.out⟩
  have Thp := Lib.hid hp
  clear hp
  obtain ⟨e0, e1, e2, e3, e4, e5, e6, e7, ef⟩ := HE.out
  go_wp2_with fail
  refine (within_yes p (0) _ Thp.out.1 Thp.out.2).mono ?_
  rintro e w' ⟨rfl, rfl⟩
  clear e0 e1 e2 e3 e4 e5 e6 e7 ef
  by_cases hn : 1 ≤ n ∧ n ≤ 2147483647
  rotate_left
  · have HRR : Hid (R = false) := Lib.hid (by rw [HR.out]; exact editB_no (fun h => by unfold EditP at h; omega))
    obtain ⟨e0, e1, e2, e3, e4, e5, e6, e7, ef⟩ := HE.out
    go_wp2_with fail
    refine (within_no n (1) _ (by omega)).mono ?_
    rintro e w' ⟨rfl, rfl⟩
    go_wp2_with fail
    go_ret
    exact ⟨ret_bool (HRR.out).symm, HB.out⟩
  have Thn := Lib.hid hn
  clear hn
  obtain ⟨e0, e1, e2, e3, e4, e5, e6, e7, ef⟩ := HE.out
  go_wp2_with fail
  refine (within_yes n (1) _ Thn.out.1 Thn.out.2).mono ?_
  rintro e w' ⟨rfl, rfl⟩
  clear e0 e1 e2 e3 e4 e5 e6 e7 ef
  cases hv : nc with
  | false =>
    have HRR : Hid (R = false) := Lib.hid (by rw [HR.out]; have hq := of_decide_eq_false (Hnc.out.symm.trans hv); exact editB_no (fun h => by unfold EditP at h; omega))
    clear hv
    obtain ⟨e0, e1, e2, e3, e4, e5, e6, e7, ef⟩ := HE.out
    go_wp2_with fail
    go_ret
    exact ⟨ret_bool (HRR.out).symm, HB.out⟩
  | true =>
  have Tnc := Lib.hid (of_decide_eq_true (Hnc.out.symm.trans hv))
  clear hv
  cases hv : ns with
  | false =>
    have HRR : Hid (R = false) := Lib.hid (by rw [HR.out]; have hq := of_decide_eq_false (Hns.out.symm.trans hv); exact editB_no (fun h => by unfold EditP at h; omega))
    clear hv
    obtain ⟨e0, e1, e2, e3, e4, e5, e6, e7, ef⟩ := HE.out
    go_wp2_with fail
    go_ret
    exact ⟨ret_bool (HRR.out).symm, HB.out⟩
  | true =>
  have Tns := Lib.hid (of_decide_eq_true (Hns.out.symm.trans hv))
  clear hv
  by_cases hl : N = 0
  rotate_left
  · have HRR : Hid (R = false) := Lib.hid (by rw [HR.out]; have := HN.out; exact editB_no (fun h => by unfold EditP at h; omega))
    have gl : ((N : Int) == 0) = false := by simp; omega
    obtain ⟨e0, e1, e2, e3, e4, e5, e6, e7, ef⟩ := HE.out
    go_wp2_with fail
    go_ret
    exact ⟨ret_bool (HRR.out).symm, HB.out⟩
  have TL := Lib.hid (show l.length = 0 by rw [← HN.out]; exact hl)
  subst hl
  have HRR : Hid (R = true) := Lib.hid (by rw [HR.out]; exact editB_yes (.inr (.inl ⟨by decide, Thp.out.1, Thp.out.2, Thn.out.1, Thn.out.2, Tnc.out.1, Tnc.out.2, Tns.out.1, Tns.out.2, TL.out⟩)))
  obtain ⟨e0, e1, e2, e3, e4, e5, e6, e7, ef⟩ := HE.out
  go_wp2_with fail
  go_ret
  exact ⟨ret_bool (HRR.out).symm, HB.out⟩
set_option maxRecDepth 100000 in
set_option maxHeartbeats 16000000 in
theorem gvalid_3 (p n c d sn sd : Int) (v : Value) (l : List Trk.Clip) (w : World) (h : GT w v l) (hI : InE 3 p n c d sn sd) (hS : TrackSays 44) :
    Calls Try.prog 16 #[edV 3 p n c d sn sd v] w fun e w' => e = .returned (.bool (editB 3 p n c d sn sd l)) ∧ Below w.heap.size w w' := by
  have HU := Lib.hid h
  have HS := Lib.hid hS
  have HIN := Lib.hid hI
  obtain ⟨R, hR⟩ : ∃ R, R = editB 3 p n c d sn sd l := ⟨_, rfl⟩
  rw [← hR]
  have HR := Lib.hid hR
  obtain ⟨ao, cap, rfl, -⟩ := h
  obtain ⟨N, hN⟩ : ∃ N, N = l.length := ⟨_, rfl⟩
  rw [← hN] at HU
  unfold edV
  rw [← hN]
  have HN := Lib.hid hN
  clear hN hR hS hI
  obtain ⟨EE, hEE⟩ : ∃ E, E = edC 3 p n c d sn sd (.slice ao N cap) := ⟨_, rfl⟩
  rw [← hEE]
  have HEE := Lib.hid hEE
  clear hEE
  go_enter Try.func16, Try.ntmps16
  go_upto_region 1 with fail
  obtain ⟨w1, hw1⟩ : ∃ y, y = w.alloc (.cells EE 26) := ⟨_, rfl⟩
  rw [← hw1]
  obtain ⟨g, hg⟩ : ∃ y, y = w.heap.size := ⟨_, rfl⟩
  rw [← hg]
  have HE := Lib.hid (show ED w1 g 3 p n c d sn sd (.slice ao N cap) by rw [hw1, hg, HEE.out]; exact ED.box w 3 p n c d sn sd (.slice ao N cap) rfl 26)
  have HB := Lib.hid (show Below w.heap.size w w1 by rw [hw1]; exact below_box _ _)
  clear hw1 hg HEE
  obtain ⟨nr, hnr⟩ : ∃ r, r = decide (p = 0 ∧ n = 0) := ⟨_, rfl⟩
  have Hnr := Lib.hid hnr
  clear hnr
  obtain ⟨nc, hnc⟩ : ∃ r, r = decide (c = 0 ∧ d = 0) := ⟨_, rfl⟩
  have Hnc := Lib.hid hnc
  clear hnc
  obtain ⟨ns, hns⟩ : ∃ r, r = decide (sn = 0 ∧ sd = 0) := ⟨_, rfl⟩
  have Hns := Lib.hid hns
  clear hns
  obtain ⟨e0, e1, e2, e3, e4, e5, e6, e7, ef⟩ := HE.out
  go_upto_region 1 with fail
  go_cut [3] from 7 to 14 (fun a wx => a = .bool nr ∧ wx = w1)
  case first J K' h1' h2' =>
    by_cases z0 : p = 0
    · by_cases z1 : n = 0
      · have e : nr = true := by rw [Hnr.out]; exact decide_eq_true ⟨z0, z1⟩
        go_wp2_with fail
        refine Met.intro (h1' _ _ ?_)
        (repeat apply Exists.intro)
        exact ⟨⟨by first | (rw [e]; done) | (rw [e]; rfl) | (rw [e]; simp [z0, z1]), rfl⟩, rfl⟩
      · have e : nr = false := by rw [Hnr.out]; exact decide_eq_false (fun h => z1 h.2)
        go_wp2_with fail
        refine Met.intro (h1' _ _ ?_)
        (repeat apply Exists.intro)
        exact ⟨⟨by first | (rw [e]; done) | (rw [e]; rfl) | (rw [e]; simp [z1]), rfl⟩, rfl⟩
    · have e : nr = false := by rw [Hnr.out]; exact decide_eq_false (fun h => z0 h.1)
      go_wp2_with fail
      refine Met.intro (h1' _ _ ?_)
      (repeat apply Exists.intro)
      exact ⟨⟨by first | (rw [e]; done) | (rw [e]; rfl) | (rw [e]; simp [z0]), rfl⟩, rfl⟩
  obtain ⟨rfl, hw⟩ := hcut
  have hw2 := hw.symm
  subst hw2
  clear e0 e1 e2 e3 e4 e5 e6 e7 ef
  obtain ⟨e0, e1, e2, e3, e4, e5, e6, e7, ef⟩ := HE.out
  go_upto_region 2 with fail
  go_cut [4] from 15 to 22 (fun a wx => a = .bool nc ∧ wx = w1)
  case first J K' h1' h2' =>
    by_cases z0 : c = 0
    · by_cases z1 : d = 0
      · have e : nc = true := by rw [Hnc.out]; exact decide_eq_true ⟨z0, z1⟩
        go_wp2_with fail
        refine Met.intro (h1' _ _ ?_)
        (repeat apply Exists.intro)
        exact ⟨⟨by first | (rw [e]; done) | (rw [e]; rfl) | (rw [e]; simp [z0, z1]), rfl⟩, rfl⟩
      · have e : nc = false := by rw [Hnc.out]; exact decide_eq_false (fun h => z1 h.2)
        go_wp2_with fail
        refine Met.intro (h1' _ _ ?_)
        (repeat apply Exists.intro)
        exact ⟨⟨by first | (rw [e]; done) | (rw [e]; rfl) | (rw [e]; simp [z1]), rfl⟩, rfl⟩
    · have e : nc = false := by rw [Hnc.out]; exact decide_eq_false (fun h => z0 h.1)
      go_wp2_with fail
      refine Met.intro (h1' _ _ ?_)
      (repeat apply Exists.intro)
      exact ⟨⟨by first | (rw [e]; done) | (rw [e]; rfl) | (rw [e]; simp [z0]), rfl⟩, rfl⟩
  obtain ⟨rfl, hw⟩ := hcut
  have hw2 := hw.symm
  subst hw2
  clear e0 e1 e2 e3 e4 e5 e6 e7 ef
  obtain ⟨e0, e1, e2, e3, e4, e5, e6, e7, ef⟩ := HE.out
  go_upto_region 3 with fail
  go_cut [5] from 23 to 26 (fun a wx => a = .bool ns ∧ wx = w1)
  case first J K' h1' h2' =>
    by_cases z0 : sn = 0
    · by_cases z1 : sd = 0
      · have e : ns = true := by rw [Hns.out]; exact decide_eq_true ⟨z0, z1⟩
        go_wp2_with fail
        refine Met.intro (h1' _ _ ?_)
        (repeat apply Exists.intro)
        exact ⟨⟨by first | (rw [e]; done) | (rw [e]; rfl) | (rw [e]; simp [z0, z1]), rfl⟩, rfl⟩
      · have e : ns = false := by rw [Hns.out]; exact decide_eq_false (fun h => z1 h.2)
        go_wp2_with fail
        refine Met.intro (h1' _ _ ?_)
        (repeat apply Exists.intro)
        exact ⟨⟨by first | (rw [e]; done) | (rw [e]; rfl) | (rw [e]; simp [z1]), rfl⟩, rfl⟩
    · have e : ns = false := by rw [Hns.out]; exact decide_eq_false (fun h => z0 h.1)
      go_wp2_with fail
      refine Met.intro (h1' _ _ ?_)
      (repeat apply Exists.intro)
      exact ⟨⟨by first | (rw [e]; done) | (rw [e]; rfl) | (rw [e]; simp [z0]), rfl⟩, rfl⟩
  obtain ⟨rfl, hw⟩ := hcut
  have hw2 := hw.symm
  subst hw2
  clear e0 e1 e2 e3 e4 e5 e6 e7 ef
  by_cases hp : 0 ≤ p ∧ p ≤ 2147483647
  rotate_left
  · have HRR : Hid (R = false) := Lib.hid (by rw [HR.out]; exact editB_no (fun h => by unfold EditP at h; omega))
    obtain ⟨e0, e1, e2, e3, e4, e5, e6, e7, ef⟩ := HE.out
    go_wp2_with fail
    refine (within_no p (0) _ (by omega)).mono ?_
    rintro e w' ⟨rfl, rfl⟩
    go_wp2_with fail
    go_ret
    exact ⟨ret_bool (HRR.out).symm, HB.out⟩
  have Thp := Lib.hid hp
  clear hp
  obtain ⟨e0, e1, e2, e3, e4, e5, e6, e7, ef⟩ := HE.out
  go_wp2_with fail
  refine (within_yes p (0) _ Thp.out.1 Thp.out.2).mono ?_
  rintro e w' ⟨rfl, rfl⟩
  clear e0 e1 e2 e3 e4 e5 e6 e7 ef
  by_cases t1 : n = 0
  rotate_left
  · have HRR : Hid (R = false) := Lib.hid (by rw [HR.out]; exact editB_no (fun h => by unfold EditP at h; omega))
    have gt1 : (n == 0) = false := by simp; omega
    obtain ⟨e0, e1, e2, e3, e4, e5, e6, e7, ef⟩ := HE.out
    go_wp2_with fail
    go_ret
    exact ⟨ret_bool (HRR.out).symm, HB.out⟩
  have T1 := Lib.hid t1
  have g1 : (n == 0) = true := by simp [t1]
  clear t1
  cases hv : nc with
  | false =>
    have HRR : Hid (R = false) := Lib.hid (by rw [HR.out]; have hq := of_decide_eq_false (Hnc.out.symm.trans hv); exact editB_no (fun h => by unfold EditP at h; omega))
    clear hv
    obtain ⟨e0, e1, e2, e3, e4, e5, e6, e7, ef⟩ := HE.out
    go_wp2_with fail
    go_ret
    exact ⟨ret_bool (HRR.out).symm, HB.out⟩
  | true =>
  have Tnc := Lib.hid (of_decide_eq_true (Hnc.out.symm.trans hv))
  clear hv
  cases hv : ns with
  | false =>
    have HRR : Hid (R = false) := Lib.hid (by rw [HR.out]; have hq := of_decide_eq_false (Hns.out.symm.trans hv); exact editB_no (fun h => by unfold EditP at h; omega))
    clear hv
    obtain ⟨e0, e1, e2, e3, e4, e5, e6, e7, ef⟩ := HE.out
    go_wp2_with fail
    go_ret
    exact ⟨ret_bool (HRR.out).symm, HB.out⟩
  | true =>
  have Tns := Lib.hid (of_decide_eq_true (Hns.out.symm.trans hv))
  clear hv
  have HRR : Hid (R = clipsB l) := Lib.hid (by rw [HR.out]; exact editB_ins (by decide) Thp.out.1 Thp.out.2 T1.out Tnc.out.1 Tnc.out.2 Tns.out.1 Tns.out.2)
  obtain ⟨e0, e1, e2, e3, e4, e5, e6, e7, ef⟩ := HE.out
  go_wp2_with fail
  refine (vclips_all _ l _ (HU.out.below HB.out) HS.out).mono ?_
  rintro e w2 ⟨rfl, hb⟩
  have HB2 := Lib.hid (HB.out.trans (hb.mono HB.out.size))
  clear hb e0 e1 e2 e3 e4 e5 e6 e7 ef
  rw [← HRR.out]
  go_wp2_with fail
  go_ret
  exact ⟨rfl, HB2.out⟩
set_option maxRecDepth 100000 in
set_option maxHeartbeats 16000000 in
theorem gvalid_4 (p n c d sn sd : Int) (v : Value) (l : List Trk.Clip) (w : World) (h : GT w v l) (hI : InE 4 p n c d sn sd) (hS : TrackSays 44) :
    Calls Try.prog 16 #[edV 4 p n c d sn sd v] w fun e w' => e = .returned (.bool (editB 4 p n c d sn sd l)) ∧ Below w.heap.size w w' := by
  have HU := Lib.hid h
  have HS := Lib.hid hS
  have HIN := Lib.hid hI
  obtain ⟨R, hR⟩ : ∃ R, R = editB 4 p n c d sn sd l := ⟨_, rfl⟩
  rw [← hR]
  have HR := Lib.hid hR
  obtain ⟨ao, cap, rfl, -⟩ := h
  obtain ⟨N, hN⟩ : ∃ N, N = l.length := ⟨_, rfl⟩
  rw [← hN] at HU
  unfold edV
  rw [← hN]
  have HN := Lib.hid hN
  clear hN hR hS hI
  obtain ⟨EE, hEE⟩ : ∃ E, E = edC 4 p n c d sn sd (.slice ao N cap) := ⟨_, rfl⟩
  rw [← hEE]
  have HEE := Lib.hid hEE
  clear hEE
  go_enter Try.func16, Try.ntmps16
  go_upto_region 1 with fail
  obtain ⟨w1, hw1⟩ : ∃ y, y = w.alloc (.cells EE 26) := ⟨_, rfl⟩
  rw [← hw1]
  obtain ⟨g, hg⟩ : ∃ y, y = w.heap.size := ⟨_, rfl⟩
  rw [← hg]
  have HE := Lib.hid (show ED w1 g 4 p n c d sn sd (.slice ao N cap) by rw [hw1, hg, HEE.out]; exact ED.box w 4 p n c d sn sd (.slice ao N cap) rfl 26)
  have HB := Lib.hid (show Below w.heap.size w w1 by rw [hw1]; exact below_box _ _)
  clear hw1 hg HEE
  obtain ⟨nr, hnr⟩ : ∃ r, r = decide (p = 0 ∧ n = 0) := ⟨_, rfl⟩
  have Hnr := Lib.hid hnr
  clear hnr
  obtain ⟨nc, hnc⟩ : ∃ r, r = decide (c = 0 ∧ d = 0) := ⟨_, rfl⟩
  have Hnc := Lib.hid hnc
  clear hnc
  obtain ⟨ns, hns⟩ : ∃ r, r = decide (sn = 0 ∧ sd = 0) := ⟨_, rfl⟩
  have Hns := Lib.hid hns
  clear hns
  obtain ⟨e0, e1, e2, e3, e4, e5, e6, e7, ef⟩ := HE.out
  go_upto_region 1 with fail
  go_cut [3] from 7 to 14 (fun a wx => a = .bool nr ∧ wx = w1)
  case first J K' h1' h2' =>
    by_cases z0 : p = 0
    · by_cases z1 : n = 0
      · have e : nr = true := by rw [Hnr.out]; exact decide_eq_true ⟨z0, z1⟩
        go_wp2_with fail
        refine Met.intro (h1' _ _ ?_)
        (repeat apply Exists.intro)
        exact ⟨⟨by first | (rw [e]; done) | (rw [e]; rfl) | (rw [e]; simp [z0, z1]), rfl⟩, rfl⟩
      · have e : nr = false := by rw [Hnr.out]; exact decide_eq_false (fun h => z1 h.2)
        go_wp2_with fail
        refine Met.intro (h1' _ _ ?_)
        (repeat apply Exists.intro)
        exact ⟨⟨by first | (rw [e]; done) | (rw [e]; rfl) | (rw [e]; simp [z1]), rfl⟩, rfl⟩
    · have e : nr = false := by rw [Hnr.out]; exact decide_eq_false (fun h => z0 h.1)
      go_wp2_with fail
      refine Met.intro (h1' _ _ ?_)
      (repeat apply Exists.intro)
      exact ⟨⟨by first | (rw [e]; done) | (rw [e]; rfl) | (rw [e]; simp [z0]), rfl⟩, rfl⟩
  obtain ⟨rfl, hw⟩ := hcut
  have hw2 := hw.symm
  subst hw2
  clear e0 e1 e2 e3 e4 e5 e6 e7 ef
  obtain ⟨e0, e1, e2, e3, e4, e5, e6, e7, ef⟩ := HE.out
  go_upto_region 2 with fail
  go_cut [4] from 15 to 22 (fun a wx => a = .bool nc ∧ wx = w1)
  case first J K' h1' h2' =>
    by_cases z0 : c = 0
    · by_cases z1 : d = 0
      · have e : nc = true := by rw [Hnc.out]; exact decide_eq_true ⟨z0, z1⟩
        go_wp2_with fail
        refine Met.intro (h1' _ _ ?_)
        (repeat apply Exists.intro)
        exact ⟨⟨by first | (rw [e]; done) | (rw [e]; rfl) | (rw [e]; simp [z0, z1]), rfl⟩, rfl⟩
      · have e : nc = false := by rw [Hnc.out]; exact decide_eq_false (fun h => z1 h.2)
        go_wp2_with fail
        refine Met.intro (h1' _ _ ?_)
        (repeat apply Exists.intro)
        exact ⟨⟨by first | (rw [e]; done) | (rw [e]; rfl) | (rw [e]; simp [z1]), rfl⟩, rfl⟩
    · have e : nc = false := by rw [Hnc.out]; exact decide_eq_false (fun h => z0 h.1)
      go_wp2_with fail
      refine Met.intro (h1' _ _ ?_)
      (repeat apply Exists.intro)
      exact ⟨⟨by first | (rw [e]; done) | (rw [e]; rfl) | (rw [e]; simp [z0]), rfl⟩, rfl⟩
  obtain ⟨rfl, hw⟩ := hcut
  have hw2 := hw.symm
  subst hw2
  clear e0 e1 e2 e3 e4 e5 e6 e7 ef
  obtain ⟨e0, e1, e2, e3, e4, e5, e6, e7, ef⟩ := HE.out
  go_upto_region 3 with fail
  go_cut [5] from 23 to 26 (fun a wx => a = .bool ns ∧ wx = w1)
  case first J K' h1' h2' =>
    by_cases z0 : sn = 0
    · by_cases z1 : sd = 0
      · have e : ns = true := by rw [Hns.out]; exact decide_eq_true ⟨z0, z1⟩
        go_wp2_with fail
        refine Met.intro (h1' _ _ ?_)
        (repeat apply Exists.intro)
        exact ⟨⟨by first | (rw [e]; done) | (rw [e]; rfl) | (rw [e]; simp [z0, z1]), rfl⟩, rfl⟩
      · have e : ns = false := by rw [Hns.out]; exact decide_eq_false (fun h => z1 h.2)
        go_wp2_with fail
        refine Met.intro (h1' _ _ ?_)
        (repeat apply Exists.intro)
        exact ⟨⟨by first | (rw [e]; done) | (rw [e]; rfl) | (rw [e]; simp [z1]), rfl⟩, rfl⟩
    · have e : ns = false := by rw [Hns.out]; exact decide_eq_false (fun h => z0 h.1)
      go_wp2_with fail
      refine Met.intro (h1' _ _ ?_)
      (repeat apply Exists.intro)
      exact ⟨⟨by first | (rw [e]; done) | (rw [e]; rfl) | (rw [e]; simp [z0]), rfl⟩, rfl⟩
  obtain ⟨rfl, hw⟩ := hcut
  have hw2 := hw.symm
  subst hw2
  clear e0 e1 e2 e3 e4 e5 e6 e7 ef
  by_cases hp : 0 ≤ p ∧ p ≤ 2147483647
  rotate_left
  · have HRR : Hid (R = false) := Lib.hid (by rw [HR.out]; exact editB_no (fun h => by unfold EditP at h; omega))
    obtain ⟨e0, e1, e2, e3, e4, e5, e6, e7, ef⟩ := HE.out
    go_wp2_with fail
    refine (within_no p (0) _ (by omega)).mono ?_
    rintro e w' ⟨rfl, rfl⟩
    go_wp2_with fail
    go_ret
    exact ⟨ret_bool (HRR.out).symm, HB.out⟩
  have Thp := Lib.hid hp
  clear hp
  obtain ⟨e0, e1, e2, e3, e4, e5, e6, e7, ef⟩ := HE.out
  go_wp2_with fail
  refine (within_yes p (0) _ Thp.out.1 Thp.out.2).mono ?_
  rintro e w' ⟨rfl, rfl⟩
  clear e0 e1 e2 e3 e4 e5 e6 e7 ef
  by_cases hn : 1 ≤ n ∧ n ≤ 2147483647
  rotate_left
  · have HRR : Hid (R = false) := Lib.hid (by rw [HR.out]; exact editB_no (fun h => by unfold EditP at h; omega))
    obtain ⟨e0, e1, e2, e3, e4, e5, e6, e7, ef⟩ := HE.out
    go_wp2_with fail
    refine (within_no n (1) _ (by omega)).mono ?_
    rintro e w' ⟨rfl, rfl⟩
    go_wp2_with fail
    go_ret
    exact ⟨ret_bool (HRR.out).symm, HB.out⟩
  have Thn := Lib.hid hn
  clear hn
  obtain ⟨e0, e1, e2, e3, e4, e5, e6, e7, ef⟩ := HE.out
  go_wp2_with fail
  refine (within_yes n (1) _ Thn.out.1 Thn.out.2).mono ?_
  rintro e w' ⟨rfl, rfl⟩
  clear e0 e1 e2 e3 e4 e5 e6 e7 ef
  cases hv : nc with
  | false =>
    have HRR : Hid (R = false) := Lib.hid (by rw [HR.out]; have hq := of_decide_eq_false (Hnc.out.symm.trans hv); exact editB_no (fun h => by unfold EditP at h; omega))
    clear hv
    obtain ⟨e0, e1, e2, e3, e4, e5, e6, e7, ef⟩ := HE.out
    go_wp2_with fail
    go_ret
    exact ⟨ret_bool (HRR.out).symm, HB.out⟩
  | true =>
  have Tnc := Lib.hid (of_decide_eq_true (Hnc.out.symm.trans hv))
  clear hv
  cases hv : ns with
  | false =>
    have HRR : Hid (R = false) := Lib.hid (by rw [HR.out]; have hq := of_decide_eq_false (Hns.out.symm.trans hv); exact editB_no (fun h => by unfold EditP at h; omega))
    clear hv
    obtain ⟨e0, e1, e2, e3, e4, e5, e6, e7, ef⟩ := HE.out
    go_wp2_with fail
    go_ret
    exact ⟨ret_bool (HRR.out).symm, HB.out⟩
  | true =>
  have Tns := Lib.hid (of_decide_eq_true (Hns.out.symm.trans hv))
  clear hv
  by_cases hl : N = 0
  rotate_left
  · have HRR : Hid (R = false) := Lib.hid (by rw [HR.out]; have := HN.out; exact editB_no (fun h => by unfold EditP at h; omega))
    have gl : ((N : Int) == 0) = false := by simp; omega
    obtain ⟨e0, e1, e2, e3, e4, e5, e6, e7, ef⟩ := HE.out
    go_wp2_with fail
    go_ret
    exact ⟨ret_bool (HRR.out).symm, HB.out⟩
  have TL := Lib.hid (show l.length = 0 by rw [← HN.out]; exact hl)
  subst hl
  have HRR : Hid (R = true) := Lib.hid (by rw [HR.out]; exact editB_yes (.inr (.inl ⟨by decide, Thp.out.1, Thp.out.2, Thn.out.1, Thn.out.2, Tnc.out.1, Tnc.out.2, Tns.out.1, Tns.out.2, TL.out⟩)))
  obtain ⟨e0, e1, e2, e3, e4, e5, e6, e7, ef⟩ := HE.out
  go_wp2_with fail
  go_ret
  exact ⟨ret_bool (HRR.out).symm, HB.out⟩
end Go.Proofs.Ytnmkcpgcdjhdjaa
