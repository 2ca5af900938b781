/- Texts of this claim joined: AX AK AM. -/
import Derived.Test.YtnmkcpgcdjhdjaaVa06
import Derived.Test.YtnmkcpgcdjhdjaaVa10
import Derived.Test.YtnmkcpgcdjhdjaaVa15
import Derived.Test.YtnmkcpgcdjhdjaaVa17
set_option linter.unusedVariables false
set_option linter.unusedSimpArgs false

/- ValidClip of the reference at any clip, kinds 4 and 5. -/
namespace Go.Proofs.Ytnmkcpgcdjhdjaa
open Go.RowKit
set_option linter.unusedVariables false
set_option linter.unusedSimpArgs false
set_option maxRecDepth 100000 in
set_option maxHeartbeats 32000000 in
theorem rclip_45 (c : Trk.Clip) (x : Value) (l : List Int) (w : World) (hi : IT w x l) (ha : InS c.a) (hb : InS c.b) (hln : c.text.size < 9223372036854775808) (hkk : c.kind = 4 ∨ c.kind = 5) :
    Calls Try.prog 61 #[clipGV c x] w fun e w' => e = .returned (.bool (clipB c l)) ∧ Below w.heap.size w w' := by
  have HSA := Lib.hid (fun w => rsource_all c.a w ha)
  have HSB := Lib.hid (fun w => rsource_all c.b w hb)
  have HBA := Lib.hid (fun w => rblack_any c.a w)
  have HBB := Lib.hid (fun w => rblack_any c.b w)
  have HT := Lib.hid (fun w => rline_all c.text w hln)
  simp only [srcV, srcC] at HSA HSB HBA HBB
  have HKK := Lib.hid hkk
  clear hkk
  obtain ⟨sa, hsa⟩ : ∃ r, r = srcB c.a := ⟨_, rfl⟩
  obtain ⟨sb, hsb⟩ : ∃ r, r = srcB c.b := ⟨_, rfl⟩
  rw [← hsa] at HSA
  rw [← hsb] at HSB
  obtain ⟨ba, hba⟩ : ∃ r, r = decide (c.a = Trk.black) := ⟨_, rfl⟩
  obtain ⟨bb, hbb⟩ : ∃ r, r = decide (c.b = Trk.black) := ⟨_, rfl⟩
  rw [← hba] at HBA
  rw [← hbb] at HBB
  obtain ⟨R, hR⟩ : ∃ R, R = clipB c l := ⟨_, rfl⟩
  rw [← hR]
  obtain ⟨nt, hnt⟩ : ∃ r, r = decide (c.text = ByteArray.empty) := ⟨_, rfl⟩
  obtain ⟨lt, hlt⟩ : ∃ r, r = lineB c.text := ⟨_, rfl⟩
  rw [← hlt] at HT
  have HR := Lib.hid hR
  have EA := Lib.hid hsa
  have EB := Lib.hid hsb
  have LA := Lib.hid hba
  have LB := Lib.hid hbb
  have HNT := Lib.hid hnt
  have HLT := Lib.hid hlt
  obtain ⟨ao, cp, hx, hc1, hc2, hcell⟩ := hi
  have HCL := Lib.hid hcell
  have HCH := Lib.hid (show chansB l = chansB l from rfl)
  obtain ⟨n, hn⟩ : ∃ n, n = l.length := ⟨_, rfl⟩
  rw [← hn] at hx hc1
  have HN := Lib.hid hn
  have hm : n ≤ 9223372036854775807 := Nat.le_trans hc1 (Nat.le_trans hc2 (by decide))
  subst hx
  clear hR hsa hsb hba hbb hnt hlt hcell hn hln ha hb hc2
  unfold clipGV
  obtain ⟨C, hC⟩ : ∃ C, C = (clipG c (.slice ao n cp)).toArray := ⟨_, rfl⟩
  rw [← hC]
  have HC := Lib.hid hC
  clear hC
  go_enter Try.func61, Try.ntmps61
  go_upto_region 1 with fail
  obtain ⟨w1, hw1⟩ : ∃ x, x = w.alloc (.cells C 53) := ⟨_, rfl⟩
  rw [← hw1]
  rw [HC.out] at hw1
  have hx : GV w1 w.heap.size c (.slice ao n cp) := by rw [hw1]; exact GV.box w c (.slice ao n cp) 53
  have hb1 : Below w.heap.size w w1 := by rw [hw1]; exact below_box _ _
  obtain ⟨g, hg⟩ : ∃ g, g = w.heap.size := ⟨_, rfl⟩
  replace HCL : Hid (∀ (i : Nat) (c : Int), l[i]? = some c → ∃ b o, ao = some ⟨b, o, none⟩ ∧ b < w1.heap.size ∧ w1.cell? ⟨b, o + i, none⟩ = some (.int .i64 c)) := Lib.hid (fun i c hi => by
    obtain ⟨b, o, e2, hl, hc⟩ := HCL.out i c hi
    exact ⟨b, o, e2, Nat.lt_of_lt_of_le hl hb1.size, (hb1.cell hl).trans hc⟩)
  rw [← hg] at hx ⊢
  have BW := Lib.hid hb1
  have HX := Lib.hid hx
  clear hw1 hb1 hg hx HC
  by_cases h1 : 1 ≤ c.len
  rotate_left
  · have HRR : Hid (R = false) := Lib.hid (by rw [HR.out]; refine clipB_no (.inl ?_); unfold headB; rw [decide_eq_false h1]; simp)
    obtain ⟨x0, x1, x2, x3, x4, x5, x6, x7, x8, x9, x10, x11, x12, x13, x14, x15, x16, x17, x18, x19, x20, x21⟩ := HX.out.c.at0
    go_wp2_with fail
    go_ret
    exact ⟨ret_bool (HRR.out).symm, BW.out⟩
  by_cases h2 : c.len ≤ 2147483647
  rotate_left
  · have HRR : Hid (R = false) := Lib.hid (by rw [HR.out]; refine clipB_no (.inl ?_); unfold headB; rw [decide_eq_false h2]; simp)
    obtain ⟨x0, x1, x2, x3, x4, x5, x6, x7, x8, x9, x10, x11, x12, x13, x14, x15, x16, x17, x18, x19, x20, x21⟩ := HX.out.c.at0
    go_wp2_with fail
    go_ret
    exact ⟨ret_bool (HRR.out).symm, BW.out⟩
  by_cases k1 : 0 ≤ c.kind
  rotate_left
  · have HRR : Hid (R = false) := Lib.hid (by rw [HR.out]; refine clipB_no (.inr ?_); unfold bodyB tailB; rw [if_neg (by omega), if_neg (by omega), if_neg (by omega), if_neg (by omega), if_neg (by omega), if_neg (by omega)])
    obtain ⟨x0, x1, x2, x3, x4, x5, x6, x7, x8, x9, x10, x11, x12, x13, x14, x15, x16, x17, x18, x19, x20, x21⟩ := HX.out.c.at0
    go_wp2_with fail
    go_ret
    exact ⟨ret_bool (HRR.out).symm, BW.out⟩
  by_cases k2 : c.kind ≤ 5
  rotate_left
  · have HRR : Hid (R = false) := Lib.hid (by rw [HR.out]; refine clipB_no (.inr ?_); unfold bodyB tailB; rw [if_neg (by omega), if_neg (by omega), if_neg (by omega), if_neg (by omega), if_neg (by omega), if_neg (by omega)])
    obtain ⟨x0, x1, x2, x3, x4, x5, x6, x7, x8, x9, x10, x11, x12, x13, x14, x15, x16, x17, x18, x19, x20, x21⟩ := HX.out.c.at0
    go_wp2_with fail
    go_ret
    exact ⟨ret_bool (HRR.out).symm, BW.out⟩
  by_cases h3 : 0 ≤ c.gain
  rotate_left
  · have HRR : Hid (R = false) := Lib.hid (by rw [HR.out]; refine clipB_no (.inl ?_); unfold headB; rw [decide_eq_false h3]; simp)
    obtain ⟨x0, x1, x2, x3, x4, x5, x6, x7, x8, x9, x10, x11, x12, x13, x14, x15, x16, x17, x18, x19, x20, x21⟩ := HX.out.c.at0
    go_wp2_with fail
    go_ret
    exact ⟨ret_bool (HRR.out).symm, BW.out⟩
  by_cases h4 : c.gain ≤ 65536
  rotate_left
  · have HRR : Hid (R = false) := Lib.hid (by rw [HR.out]; refine clipB_no (.inl ?_); unfold headB; rw [decide_eq_false h4]; simp)
    obtain ⟨x0, x1, x2, x3, x4, x5, x6, x7, x8, x9, x10, x11, x12, x13, x14, x15, x16, x17, x18, x19, x20, x21⟩ := HX.out.c.at0
    go_wp2_with fail
    go_ret
    exact ⟨ret_bool (HRR.out).symm, BW.out⟩
  by_cases h5 : n ≤ 4
  rotate_left
  · have HRR : Hid (R = false) := Lib.hid (by rw [HR.out]; refine clipB_no (.inl ?_); unfold headB; rw [chansB_no (fun h => h5 (by rw [HN.out]; exact h.1))]; simp)
    obtain ⟨x0, x1, x2, x3, x4, x5, x6, x7, x8, x9, x10, x11, x12, x13, x14, x15, x16, x17, x18, x19, x20, x21⟩ := HX.out.c.at0
    go_wp2_with fail
    go_ret
    exact ⟨ret_bool (HRR.out).symm, BW.out⟩
  obtain ⟨x0, x1, x2, x3, x4, x5, x6, x7, x8, x9, x10, x11, x12, x13, x14, x15, x16, x17, x18, x19, x20, x21⟩ := HX.out.c.at0
  have HK1 := Lib.hid (⟨k1, k2⟩ : 0 ≤ c.kind ∧ c.kind ≤ 5)
  have hH := decide_eq_true h1
  have HD := Lib.hid (⟨h1, h2, h3, h4⟩ : 1 ≤ c.len ∧ c.len ≤ 2147483647 ∧ 0 ≤ c.gain ∧ c.gain ≤ 65536)
  clear hH
  go_wp2_with fail
  clear k1 k2 h3 h4 x0 x1 x2 x3 x4 x5 x6 x7 x8 x9 x10 x11 x12 x13 x14 x15 x16 x17 x18 x19 x20 x21
  replace HX := HX
  go_loopw [3] (fun i wr => ∃ k : Nat, k ≤ n ∧ i = .int .i64 (k : Int) ∧ (∀ (j : Nat) (c : Int), l[j]? = some c → j < k → -1 ≤ c ∧ c ≤ 3) ∧ wr = w1) (fun i _ => n - (intOf i).toNat)
  case atStart => exact ⟨0, Nat.zero_le _, rfl, fun j c _ h => absurd h (Nat.not_lt_zero j), rfl⟩
  case round =>
    obtain ⟨k, hk, rfl, hL, hwr⟩ := hrel
    have hwr2 := hwr.symm
    subst hwr2
    have HL := Lib.hid hL
    clear hL
    by_cases hlt : k < n
    · have hlt' : (k : Int) < (n : Int) := by omega
      obtain ⟨ch, hc⟩ : ∃ ch, l[k]? = some ch := ⟨l[k]'(by rw [← HN.out]; omega), List.getElem?_eq_getElem (by rw [← HN.out]; omega)⟩
      obtain ⟨b, q, rfl, hb, hcl⟩ := HCL.out k ch hc
      have Hc := Lib.hid hc
      clear hc
      obtain ⟨x0, x1, x2, x3, x4, x5, x6, x7, x8, x9, x10, x11, x12, x13, x14, x15, x16, x17, x18, x19, x20, x21⟩ := HX.out.c.at0
      clear x0 x1 x2 x3 x4 x5 x6 x7 x8 x9 x10 x11 x12 x13 x14 x15 x16 x17 x18 x19 x20
      by_cases c0 : -1 ≤ ch
      rotate_left
      · have HRR : Hid (R = false) := Lib.hid (by rw [HR.out]; refine clipB_no (.inl ?_); unfold headB; rw [chansB_no (fun h => c0 (h.2 k ch Hc.out).1)]; simp)
        go_wp2_with fail
        go_ret
        exact ⟨ret_bool (HRR.out).symm, BW.out⟩
      by_cases c1 : ch ≤ 3
      rotate_left
      · have HRR : Hid (R = false) := Lib.hid (by rw [HR.out]; refine clipB_no (.inl ?_); unfold headB; rw [chansB_no (fun h => c1 (h.2 k ch Hc.out).2)]; simp)
        go_wp2_with fail
        go_ret
        exact ⟨ret_bool (HRR.out).symm, BW.out⟩
      go_wp2_with fail
      go_roundw
      case rel => exact ⟨k + 1, by omega, by simp, fun j c2 hj hk2 => by
            rcases Nat.lt_or_ge j k with h | h
            · exact HL.out j c2 hj h
            · have e : j = k := by omega
              subst e
              have e2 := Option.some.inj (hj.symm.trans Hc.out)
              omega, by simp⟩
      case measure =>
        show n - (intOf (.int .i64 ((k : Int) + 1))).toNat < n - (intOf (.int .i64 (k : Int))).toNat
        simp [intOf]
        omega
    · have hkl : n = k := by omega
      subst hkl
      have hch := chansB_yes (l := l) ⟨by rw [← HN.out]; exact h5, fun i c hi => HL.out i c hi (by
        have := (List.getElem?_eq_some_iff.mp hi).1
        rw [HN.out]; omega)⟩
      have HCHY := Lib.hid hch
      clear hch HL HCL
      rcases (show c.kind = 4 ∨ c.kind = 5 by have := HK1.out; have := HKK.out; omega) with hk' | hk'
      · have HK := Lib.hid hk'
        clear hk' HK1
        obtain ⟨x0, x1, x2, x3, x4, x5, x6, x7, x8, x9, x10, x11, x12, x13, x14, x15, x16, x17, x18, x19, x20, x21⟩ := HX.out.c.at0
        rw [HK.out] at x1
        go_upto_region 8 with fail
        go_quiet (first
          | (go_at_call 84; exact Calls.quiet_of_same (rshares_at 4 false (by decide) _)))
        go_upto_region 9 with fail
        obtain ⟨w4, hw4⟩ : ∃ y, y = w1.drewN nq := ⟨_, rfl⟩
        rw [← hw4]
        have hb : Below w1.heap.size w1 w4 := by rw [hw4]; exact below_drewN (Below.refl _ _) _
        replace HX := Lib.hid (HX.out.below hb)
        replace BW := Lib.hid (BW.out.trans (hb.mono BW.out.size))
        clear hb hw4 x0 x1 x2 x3 x4 x5 x6 x7 x8 x9 x10 x11 x12 x13 x14 x15 x16 x17 x18 x19 x20 x21
        obtain ⟨x0, x1, x2, x3, x4, x5, x6, x7, x8, x9, x10, x11, x12, x13, x14, x15, x16, x17, x18, x19, x20, x21⟩ := HX.out.c.at0
        rw [HK.out] at x1
        go_wp2_with fail
        refine (HSA.out _).mono ?_
        rintro e w5 ⟨rfl, hb⟩
        replace HX := Lib.hid (HX.out.below hb)
        replace BW := Lib.hid (BW.out.trans (hb.mono BW.out.size))
        clear hb x0 x1 x2 x3 x4 x5 x6 x7 x8 x9 x10 x11 x12 x13 x14 x15 x16 x17 x18 x19 x20 x21
        cases hv : sa with
        | false =>
          have HRR : Hid (R = false) := Lib.hid (by rw [HR.out]; refine clipB_no (.inl ?_); unfold headB; rw [← EA.out, hv]; simp)
          clear hv
          obtain ⟨x0, x1, x2, x3, x4, x5, x6, x7, x8, x9, x10, x11, x12, x13, x14, x15, x16, x17, x18, x19, x20, x21⟩ := HX.out.c.at0
          rw [HK.out] at x1
          go_wp2_with fail
          go_ret
          exact ⟨ret_bool (HRR.out).symm, BW.out⟩
        | true =>
        have FA := Lib.hid (EA.out.symm.trans hv)
        clear hv
        obtain ⟨x0, x1, x2, x3, x4, x5, x6, x7, x8, x9, x10, x11, x12, x13, x14, x15, x16, x17, x18, x19, x20, x21⟩ := HX.out.c.at0
        rw [HK.out] at x1
        go_wp2_with fail
        refine (HSB.out _).mono ?_
        rintro e w6 ⟨rfl, hb⟩
        replace HX := Lib.hid (HX.out.below hb)
        replace BW := Lib.hid (BW.out.trans (hb.mono BW.out.size))
        clear hb x0 x1 x2 x3 x4 x5 x6 x7 x8 x9 x10 x11 x12 x13 x14 x15 x16 x17 x18 x19 x20 x21
        cases hv : sb with
        | false =>
          have HRR : Hid (R = false) := Lib.hid (by rw [HR.out]; refine clipB_no (.inl ?_); unfold headB; rw [← EB.out, hv]; simp)
          clear hv
          obtain ⟨x0, x1, x2, x3, x4, x5, x6, x7, x8, x9, x10, x11, x12, x13, x14, x15, x16, x17, x18, x19, x20, x21⟩ := HX.out.c.at0
          rw [HK.out] at x1
          go_wp2_with fail
          go_ret
          exact ⟨ret_bool (HRR.out).symm, BW.out⟩
        | true =>
        have FB := Lib.hid (EB.out.symm.trans hv)
        clear hv
        obtain ⟨x0, x1, x2, x3, x4, x5, x6, x7, x8, x9, x10, x11, x12, x13, x14, x15, x16, x17, x18, x19, x20, x21⟩ := HX.out.c.at0
        rw [HK.out] at x1
        go_wp2_with fail
        refine (rshares_at 4 false (by decide) _).mono ?_
        rintro e w' ⟨rfl, rfl⟩
        clear x0 x1 x2 x3 x4 x5 x6 x7 x8 x9 x10 x11 x12 x13 x14 x15 x16 x17 x18 x19 x20 x21
        by_cases t3 : c.off = 0
        rotate_left
        · have HRR : Hid (R = false) := Lib.hid (by rw [HR.out]; refine clipB_no (.inr ?_); unfold bodyB tailB; simp [HK.out, t3])
          have gt3 : (c.off != 0) = true := by simp [t3]
          obtain ⟨x0, x1, x2, x3, x4, x5, x6, x7, x8, x9, x10, x11, x12, x13, x14, x15, x16, x17, x18, x19, x20, x21⟩ := HX.out.c.at0
          rw [HK.out] at x1
          go_wp2_with fail
          go_ret
          exact ⟨ret_bool (HRR.out).symm, BW.out⟩
        by_cases t4 : c.total = 0
        rotate_left
        · have HRR : Hid (R = false) := Lib.hid (by rw [HR.out]; refine clipB_no (.inr ?_); unfold bodyB tailB; simp [HK.out, t4])
          have gt4 : (c.total != 0) = true := by simp [t4]
          obtain ⟨x0, x1, x2, x3, x4, x5, x6, x7, x8, x9, x10, x11, x12, x13, x14, x15, x16, x17, x18, x19, x20, x21⟩ := HX.out.c.at0
          rw [HK.out] at x1
          go_wp2_with fail
          go_ret
          exact ⟨ret_bool (HRR.out).symm, BW.out⟩
        by_cases p1 : 0 ≤ c.param
        rotate_left
        · have HRR : Hid (R = false) := Lib.hid (by rw [HR.out]; refine clipB_no (.inr ?_); unfold bodyB tailB; simp [HK.out, p1])
          obtain ⟨x0, x1, x2, x3, x4, x5, x6, x7, x8, x9, x10, x11, x12, x13, x14, x15, x16, x17, x18, x19, x20, x21⟩ := HX.out.c.at0
          rw [HK.out] at x1
          go_wp2_with fail
          go_ret
          exact ⟨ret_bool (HRR.out).symm, BW.out⟩
        by_cases p2 : c.param ≤ 255
        rotate_left
        · have HRR : Hid (R = false) := Lib.hid (by rw [HR.out]; refine clipB_no (.inr ?_); unfold bodyB tailB; simp [HK.out, p2])
          obtain ⟨x0, x1, x2, x3, x4, x5, x6, x7, x8, x9, x10, x11, x12, x13, x14, x15, x16, x17, x18, x19, x20, x21⟩ := HX.out.c.at0
          rw [HK.out] at x1
          go_wp2_with fail
          go_ret
          exact ⟨ret_bool (HRR.out).symm, BW.out⟩
        have HRR : Hid (R = nt) := Lib.hid (by rw [HR.out]; unfold clipB headB bodyB tailB; have hd := HD.out; have fa := FA.out; have fb := FB.out; have hcy := HCHY.out; simp [HK.out, hd.1, hd.2.1, hd.2.2.1, hd.2.2.2, hcy, fa, fb, p1, p2, t3, t4, HNT.out])
        obtain ⟨x0, x1, x2, x3, x4, x5, x6, x7, x8, x9, x10, x11, x12, x13, x14, x15, x16, x17, x18, x19, x20, x21⟩ := HX.out.c.at0
        rw [HK.out] at x1
        go_wp2_with fail
        go_ret
        refine ⟨?_, BW.out⟩
        rw [HRR.out, ← ret_nt HNT.out]
        rfl
      · have HK := Lib.hid hk'
        clear hk' HK1
        obtain ⟨x0, x1, x2, x3, x4, x5, x6, x7, x8, x9, x10, x11, x12, x13, x14, x15, x16, x17, x18, x19, x20, x21⟩ := HX.out.c.at0
        rw [HK.out] at x1
        go_upto_region 8 with fail
        go_quiet (first
          | (go_at_call 84; exact Calls.quiet_of_same (rshares_at 5 false (by decide) _)))
        go_upto_region 9 with fail
        obtain ⟨w4, hw4⟩ : ∃ y, y = w1.drewN nq := ⟨_, rfl⟩
        rw [← hw4]
        have hb : Below w1.heap.size w1 w4 := by rw [hw4]; exact below_drewN (Below.refl _ _) _
        replace HX := Lib.hid (HX.out.below hb)
        replace BW := Lib.hid (BW.out.trans (hb.mono BW.out.size))
        clear hb hw4 x0 x1 x2 x3 x4 x5 x6 x7 x8 x9 x10 x11 x12 x13 x14 x15 x16 x17 x18 x19 x20 x21
        obtain ⟨x0, x1, x2, x3, x4, x5, x6, x7, x8, x9, x10, x11, x12, x13, x14, x15, x16, x17, x18, x19, x20, x21⟩ := HX.out.c.at0
        rw [HK.out] at x1
        go_wp2_with fail
        refine (HSA.out _).mono ?_
        rintro e w5 ⟨rfl, hb⟩
        replace HX := Lib.hid (HX.out.below hb)
        replace BW := Lib.hid (BW.out.trans (hb.mono BW.out.size))
        clear hb x0 x1 x2 x3 x4 x5 x6 x7 x8 x9 x10 x11 x12 x13 x14 x15 x16 x17 x18 x19 x20 x21
        cases hv : sa with
        | false =>
          have HRR : Hid (R = false) := Lib.hid (by rw [HR.out]; refine clipB_no (.inl ?_); unfold headB; rw [← EA.out, hv]; simp)
          clear hv
          obtain ⟨x0, x1, x2, x3, x4, x5, x6, x7, x8, x9, x10, x11, x12, x13, x14, x15, x16, x17, x18, x19, x20, x21⟩ := HX.out.c.at0
          rw [HK.out] at x1
          go_wp2_with fail
          go_ret
          exact ⟨ret_bool (HRR.out).symm, BW.out⟩
        | true =>
        have FA := Lib.hid (EA.out.symm.trans hv)
        clear hv
        obtain ⟨x0, x1, x2, x3, x4, x5, x6, x7, x8, x9, x10, x11, x12, x13, x14, x15, x16, x17, x18, x19, x20, x21⟩ := HX.out.c.at0
        rw [HK.out] at x1
        go_wp2_with fail
        refine (HBB.out _).mono ?_
        rintro e w6 ⟨rfl, hb⟩
        replace HX := Lib.hid (HX.out.below hb)
        replace BW := Lib.hid (BW.out.trans (hb.mono BW.out.size))
        clear hb x0 x1 x2 x3 x4 x5 x6 x7 x8 x9 x10 x11 x12 x13 x14 x15 x16 x17 x18 x19 x20 x21
        cases hv : bb with
        | false =>
          have HRR : Hid (R = false) := Lib.hid (by rw [HR.out]; refine clipB_no (.inr ?_); unfold bodyB tailB; have := of_decide_eq_false (LB.out.symm.trans hv); simp [HK.out, this])
          clear hv
          obtain ⟨x0, x1, x2, x3, x4, x5, x6, x7, x8, x9, x10, x11, x12, x13, x14, x15, x16, x17, x18, x19, x20, x21⟩ := HX.out.c.at0
          rw [HK.out] at x1
          go_wp2_with fail
          go_ret
          exact ⟨ret_bool (HRR.out).symm, BW.out⟩
        | true =>
        have FB := Lib.hid (of_decide_eq_true (LB.out.symm.trans hv))
        clear hv
        obtain ⟨x0, x1, x2, x3, x4, x5, x6, x7, x8, x9, x10, x11, x12, x13, x14, x15, x16, x17, x18, x19, x20, x21⟩ := HX.out.c.at0
        rw [HK.out] at x1
        go_wp2_with fail
        refine (rshares_at 5 false (by decide) _).mono ?_
        rintro e w' ⟨rfl, rfl⟩
        clear x0 x1 x2 x3 x4 x5 x6 x7 x8 x9 x10 x11 x12 x13 x14 x15 x16 x17 x18 x19 x20 x21
        by_cases t3 : c.off = 0
        rotate_left
        · have HRR : Hid (R = false) := Lib.hid (by rw [HR.out]; refine clipB_no (.inr ?_); unfold bodyB tailB; simp [HK.out, t3])
          have gt3 : (c.off != 0) = true := by simp [t3]
          obtain ⟨x0, x1, x2, x3, x4, x5, x6, x7, x8, x9, x10, x11, x12, x13, x14, x15, x16, x17, x18, x19, x20, x21⟩ := HX.out.c.at0
          rw [HK.out] at x1
          go_wp2_with fail
          go_ret
          exact ⟨ret_bool (HRR.out).symm, BW.out⟩
        by_cases t4 : c.total = 0
        rotate_left
        · have HRR : Hid (R = false) := Lib.hid (by rw [HR.out]; refine clipB_no (.inr ?_); unfold bodyB tailB; simp [HK.out, t4])
          have gt4 : (c.total != 0) = true := by simp [t4]
          obtain ⟨x0, x1, x2, x3, x4, x5, x6, x7, x8, x9, x10, x11, x12, x13, x14, x15, x16, x17, x18, x19, x20, x21⟩ := HX.out.c.at0
          rw [HK.out] at x1
          go_wp2_with fail
          go_ret
          exact ⟨ret_bool (HRR.out).symm, BW.out⟩
        by_cases p1 : 0 ≤ c.param
        rotate_left
        · have HRR : Hid (R = false) := Lib.hid (by rw [HR.out]; refine clipB_no (.inr ?_); unfold bodyB tailB; simp [HK.out]; intros; omega)
          obtain ⟨x0, x1, x2, x3, x4, x5, x6, x7, x8, x9, x10, x11, x12, x13, x14, x15, x16, x17, x18, x19, x20, x21⟩ := HX.out.c.at0
          rw [HK.out] at x1
          go_wp2_with fail
          go_ret
          exact ⟨ret_bool (HRR.out).symm, BW.out⟩
        by_cases p2 : c.param ≤ 0
        rotate_left
        · have HRR : Hid (R = false) := Lib.hid (by rw [HR.out]; refine clipB_no (.inr ?_); unfold bodyB tailB; simp [HK.out]; intros; omega)
          obtain ⟨x0, x1, x2, x3, x4, x5, x6, x7, x8, x9, x10, x11, x12, x13, x14, x15, x16, x17, x18, x19, x20, x21⟩ := HX.out.c.at0
          rw [HK.out] at x1
          go_wp2_with fail
          go_ret
          exact ⟨ret_bool (HRR.out).symm, BW.out⟩
        have p3 : c.param = 0 := by omega
        have HRR : Hid (R = lt) := Lib.hid (by rw [HR.out]; unfold clipB headB bodyB tailB; have hd := HD.out; have fa := FA.out; have fb := FB.out; have hcy := HCHY.out; simp [HK.out, hd.1, hd.2.1, hd.2.2.1, hd.2.2.2, hcy, fa, fb, srcB_black, p3, t3, t4, HLT.out])
        obtain ⟨x0, x1, x2, x3, x4, x5, x6, x7, x8, x9, x10, x11, x12, x13, x14, x15, x16, x17, x18, x19, x20, x21⟩ := HX.out.c.at0
        rw [HK.out] at x1
        go_wp2_with fail
        refine (HT.out _).mono ?_
        rintro e w7 ⟨rfl, rfl⟩
        go_wp2_with fail
        go_ret
        exact ⟨ret_bool (HRR.out).symm, BW.out⟩
theorem rclip_all (c : Trk.Clip) (x : Value) (l : List Int) (w : World) (hi : IT w x l) (ha : InS c.a) (hb : InS c.b) (hln : c.text.size < 9223372036854775808) :
    Calls Try.prog 61 #[clipGV c x] w fun e w' => e = .returned (.bool (clipB c l)) ∧ Below w.heap.size w w' := by
  by_cases h1 : c.kind = 2 ∨ c.kind = 3
  · exact rclip_23 c x l w hi ha hb hln h1
  by_cases h2 : c.kind = 4 ∨ c.kind = 5
  · exact rclip_45 c x l w hi ha hb hln h2
  exact rclip_01 c x l w hi ha hb hln (by omega)
end Go.Proofs.Ytnmkcpgcdjhdjaa

/- ValidTrack of the program and of the reference at any slice of clips. -/
namespace Go.Proofs.Ytnmkcpgcdjhdjaa
open Go.RowKit
set_option linter.unusedVariables false
set_option linter.unusedSimpArgs false
/-- Any clip that a Go value can hold. -/
structure InC (c : Trk.Clip) : Prop where
  a : InS c.a
  b : InS c.b
  t : c.text.size < 9223372036854775808
/-- v is a slice of the clips l. -/
def GT (w : World) (v : Value) (l : List Trk.Clip) : Prop :=
  ∃ ao cap, v = .slice ao l.length cap ∧ l.length ≤ cap ∧ cap ≤ maxLen ∧ ∀ i c, l[i]? = some c → ∃ b o x, ao = some ⟨b, o, none⟩ ∧ GA w b (o + i * 22) c x ∧ IT w x c.chan ∧ InC c
theorem GT.below {w w' : World} {v : Value} {l : List Trk.Clip} (h : GT w v l) (hb : Below w.heap.size w w') : GT w' v l := by
  obtain ⟨ao, cap, e, h1, h2, h3⟩ := h
  refine ⟨ao, cap, e, h1, h2, fun i c hi => ?_⟩
  obtain ⟨b, o, x, e2, hA, hI, hc⟩ := h3 i c hi
  exact ⟨b, o, x, e2, hA.below hb, hI.below hb, hc⟩
structure TrackP (l : List Trk.Clip) : Prop where
  n : l.length ≤ 64
  c : ∀ (i : Nat) (c : Trk.Clip), l[i]? = some c → clipB c c.chan = true
  t : Trk.total l ≤ 2147483647
open Classical in
noncomputable def trackB (l : List Trk.Clip) : Bool := decide (TrackP l)
open Classical in
theorem trackB_yes {l : List Trk.Clip} (h : TrackP l) : trackB l = true := decide_eq_true h
open Classical in
theorem trackB_no {l : List Trk.Clip} (h : ¬ TrackP l) : trackB l = false := decide_eq_false h
theorem clipB_len {c : Trk.Clip} {l : List Int} (h : clipB c l = true) : 1 ≤ c.len ∧ c.len ≤ 2147483647 := by
  unfold clipB headB at h
  simp only [Bool.and_eq_true, decide_eq_true_eq] at h
  exact ⟨h.1.1.1.1.1.1.1, h.1.1.1.1.1.1.2⟩
theorem total_snoc {l : List Trk.Clip} {k : Nat} {c : Trk.Clip} (hc : l[k]? = some c) : Trk.total (l.take (k + 1)) = Trk.total (l.take k) + c.len := by
  rw [List.take_add_one, hc]
  show Trk.total (l.take k ++ [c]) = _
  rw [Trk.total_append]
  show _ + (c.len + 0) = _
  omega
/-- The contract of a function that says whether a clip is valid. -/
def ClipSays (f : Nat) : Prop := ∀ (c : Trk.Clip) (x : Value) (w : World), IT w x c.chan → InC c → Calls Try.prog f #[clipGV c x] w fun e w' => e = .returned (.bool (clipB c c.chan)) ∧ Below w.heap.size w w'
theorem GV.put {w : World} {b : Nat} {c : Trk.Clip} (h : CV w b c) (e : Trk.Clip) (x : Value) : GV (w.setCells b 0 (clipG e x)) b e x :=
  ⟨GA.of fun j v hj => World.rangeAt_setCells_same w b 0 (clipG e x) (by rw [clipG_length]; exact h.there) j v hj, fun o => (World.frozen?_setCells b _ _ w _).trans (h.f o)⟩
theorem wpl_storeG {ops : Array Oper} {rest : List Oper} {op : Oper} {a : Act} {w : World} {Q : Exit → Act → World → Prop} {b : Nat} {c : Trk.Clip} (e : Trk.Clip) (ao : Option Addr) (m cp : Nat) {x y : Operand} (hc : CV w b c) (hgd : op.guard = none) (ho : op.op = .store 53 x y)
    (hx : a.eval x = .pointer (some ⟨b, 0, none⟩)) (hy : a.eval y = .agg (clipG e (.slice ao m cp)).toArray)
    (h : ∀ w', GV w' b e (.slice ao m cp) → (∀ n w0, n ≤ b → Below n w0 w → Below n w0 w') → wpList Try.prog ops Q rest (a.put op.dst undef) w') : wpList Try.prog ops Q (op :: rest) a w :=
  wpList_store_mid hgd 53 x y ho b 0 (clipG e (.slice ao m cp)).toArray hx hy (by show w.there b 0 22; exact hc.there) (by kernel_rfl) (clipG_oneCell e ao m cp)
    (h _ (GV.put hc e _) (fun n w0 hn hb => below_setCells b hn _ _ _ hb))
set_option maxRecDepth 100000 in
set_option maxHeartbeats 8000000 in
theorem vtrack_all (v : Value) (l : List Trk.Clip) (w : World) (h : GT w v l) (hS : ClipSays 62) :
    Calls Try.prog 44 #[v] w fun e w' => e = .returned (.bool (trackB l)) ∧ Below w.heap.size w w' := by
  obtain ⟨ao, cap, rfl, hc1, hc2, hT⟩ := h
  have HT := Lib.hid (show GT w (.slice ao l.length cap) l from ⟨ao, cap, rfl, hc1, hc2, hT⟩)
  clear hT
  have HS := Lib.hid hS
  obtain ⟨R, hR⟩ : ∃ R, R = trackB l := ⟨_, rfl⟩
  rw [← hR]
  have HR := Lib.hid hR
  obtain ⟨N, hN⟩ : ∃ N, N = l.length := ⟨_, rfl⟩
  rw [← hN] at hc1
  have HLe := Lib.hid hN
  have hm : N ≤ 9223372036854775807 := Nat.le_trans hc1 (Nat.le_trans hc2 (by decide))
  rw [← hN]
  clear hR hN hc2 hS
  go_enter Try.func44, Try.ntmps44
  by_cases hl : N ≤ 64
  rotate_left
  · have HRR : Hid (R = false) := Lib.hid (by rw [HR.out]; exact trackB_no (fun h => hl (by rw [HLe.out]; exact h.n)))
    have g2 : decide ((N : Int) > 64) = true := decide_eq_true (by omega)
    go_wp2_with fail
    go_ret
    exact ⟨ret_bool (HRR.out).symm, Below.refl _ _⟩
  have g2 : decide ((N : Int) > 64) = false := decide_eq_false (by omega)
  go_wp2_with fail
  go_loopw [3, 11] (fun v3 v8 wr => ∃ k : Nat, k ≤ N ∧ v8 = .int .i64 (k : Int) ∧ v3 = .int .i64 (Trk.total (l.take k)) ∧ (∀ (i : Nat) (c : Trk.Clip), i < k → l[i]? = some c → clipB c c.chan = true) ∧ 0 ≤ Trk.total (l.take k) ∧ Trk.total (l.take k) ≤ (k : Int) * 2147483647 ∧ Below w.heap.size w wr) (fun _ i _ => N - (intOf i).toNat)
  case atStart => exact ⟨0, Nat.zero_le _, rfl, rfl, fun i c h => absurd h (Nat.not_lt_zero i), by simp [Trk.total], by simp [Trk.total], Below.refl _ _⟩
  case round =>
    obtain ⟨k, hk, rfl, rfl, hL, t0, t1, hb⟩ := hrel
    have HL := Lib.hid hL
    clear hL
    by_cases hlt : k < N
    · have hlt' : (k : Int) < (N : Int) := by omega
      have hkl : k < l.length := by rw [← HLe.out]; exact hlt
      obtain ⟨c, hc⟩ : ∃ c, l[k]? = some c := ⟨_, List.getElem?_eq_getElem hkl⟩
      obtain ⟨ao', cap', e, _, _, hT⟩ := HT.out.below hb
      simp only [Value.slice.injEq, true_and] at e
      obtain ⟨rfl, rfl⟩ := e
      obtain ⟨b, o, x, rfl, hA, hI, hI2⟩ := hT k c hc
      clear hT
      have hn := total_snoc hc
      obtain ⟨s, hs⟩ : ∃ s, s = Trk.total (l.take k) := ⟨_, rfl⟩
      rw [← hs] at hn t0 t1 ⊢
      have HN := Lib.hid hn
      have HA := Lib.hid hA
      have HB := Lib.hid hb
      have HC := Lib.hid hc
      obtain ⟨xa, xn, xc, hx, hx1⟩ : ∃ xa xn xc, x = .slice xa xn xc ∧ True := by
        obtain ⟨xa, xc, e, _⟩ := hI
        exact ⟨xa, _, xc, e, trivial⟩
      subst hx
      have HVC := Lib.hid (fun w2 (hb2 : Below wr.heap.size wr w2) => HS.out c _ w2 (hI.below hb2) hI2)
      unfold clipGV at HVC
      clear hA hb hc hkl hn hs hI hI2 hx1
      go_upto_region 6 with fail
      apply wp_region_lit
      iterate 3 go_step
      refine wpl_loadG HA.out rfl rfl rfl ?_
      refine wpl_alloc rfl rfl (fun w2 hg hb2 hs2 => ?_)
      obtain ⟨g, hgg⟩ : ∃ g, g = wr.heap.size := ⟨_, rfl⟩
      rw [← hgg] at hg ⊢
      have hgn : w.heap.size ≤ g := by rw [hgg]; exact HB.out.size
      have hgr : wr.heap.size ≤ g := by rw [hgg]; exact Nat.le_refl _
      have HB2 := Lib.hid (HB.out.trans (hb2.mono HB.out.size))
      have HB2' := Lib.hid hb2
      clear hb2 hs2 hgg HA
      refine wpl_storeG c xa xn xc hg rfl rfl rfl rfl ?_
      intro w3 hv hb3
      have HB3 := Lib.hid (hb3 _ _ hgn HB2.out)
      have HB3' := Lib.hid (hb3 _ _ hgr HB2'.out)
      clear hb3 hg HB2 HB2'
      have HV := Lib.hid hv
      clear hv
      simp only [Act.put, List.setIfInBounds_toArray, List.set_cons_succ, List.set_cons_zero]
      obtain ⟨C, hC⟩ : ∃ C, C = (clipG c (.slice xa xn xc)).toArray := ⟨_, rfl⟩
      rw [← hC] at HVC ⊢
      have HCC := Lib.hid hC
      clear hC
      go_upto_region 7 with fail
      apply wp_region_lit
      refine wpl_loadG HV.out.c rfl rfl rfl ?_
      rw [← HCC.out]
      simp only [Act.put, List.setIfInBounds_toArray, List.set_cons_succ, List.set_cons_zero]
      go_wp2_with fail
      refine (HVC.out _ HB3'.out).mono ?_
      rintro e w4 ⟨rfl, hb⟩
      have HV4 := Lib.hid (HV.out.below hb)
      have HB4 := Lib.hid (HB3.out.trans (hb.mono HB3.out.size))
      clear hb HV HB3 HB3'
      cases hv : clipB c c.chan with
      | false =>
        have HRR : Hid (R = false) := Lib.hid (by rw [HR.out]; exact trackB_no (fun h => by have := h.c k c HC.out; rw [hv] at this; cases this))
        clear hv
        go_wp2_with fail
        go_ret
        exact ⟨ret_bool (HRR.out).symm, HB4.out⟩
      | true =>
        have hlen := clipB_len hv
        have HVV := Lib.hid hv
        clear hv
        have h64 : (k : Int) * 2147483647 ≤ 64 * 2147483647 := Int.mul_le_mul_of_nonneg_right (by omega) (by decide)
        have x0 := HV4.out.c.at0.1
        have h5 : s + c.len ≤ 2147483647 * 65 := by omega
        go_wp2_with fail
        go_roundw
        case rel => exact ⟨k + 1, by omega, by simp, by rw [HN.out], fun i d hi hd => by
          rcases Nat.lt_or_ge i k with h | h
          · exact HL.out i d h hd
          · have e : i = k := by omega
            subst e
            have e2 := Option.some.inj (hd.symm.trans HC.out)
            rw [e2]; exact HVV.out, by rw [HN.out]; omega, by rw [HN.out]; omega, HB4.out⟩
        case measure =>
          show N - (intOf (.int .i64 ((k : Int) + 1))).toNat < N - (intOf (.int .i64 (k : Int))).toNat
          simp [intOf]
          omega
    · have hkl : k = N := by omega
      have e : l.take k = l := List.take_of_length_le (by rw [← HLe.out]; omega)
      rw [e] at t0 t1 ⊢
      have HB := Lib.hid hb
      have HRR : Hid (R = decide (Trk.total l ≤ 2147483647)) := Lib.hid (by
        rw [HR.out]
        by_cases ht : Trk.total l ≤ 2147483647
        · rw [decide_eq_true ht]
          exact trackB_yes ⟨by rw [← HLe.out]; exact hl, fun i c hi => HL.out i c (by rw [hkl, HLe.out]; exact (List.getElem?_eq_some_iff.1 hi).1) hi, ht⟩
        · rw [decide_eq_false ht]
          exact trackB_no (fun h => ht h.t))
      obtain ⟨s, hs⟩ : ∃ s, s = Trk.total l := ⟨_, rfl⟩
      rw [← hs] at HRR t0 t1 ⊢
      clear hb e hs
      subst hkl
      go_wp2_with fail
      go_ret
      exact ⟨ret_bool (HRR.out).symm, HB.out⟩
set_option maxRecDepth 100000 in
set_option maxHeartbeats 8000000 in
theorem rtrack_all (v : Value) (l : List Trk.Clip) (w : World) (h : GT w v l) (hS : ClipSays 61) :
    Calls Try.prog 40 #[v] w fun e w' => e = .returned (.bool (trackB l)) ∧ Below w.heap.size w w' := by
  obtain ⟨ao, cap, rfl, hc1, hc2, hT⟩ := h
  have HT := Lib.hid (show GT w (.slice ao l.length cap) l from ⟨ao, cap, rfl, hc1, hc2, hT⟩)
  clear hT
  have HS := Lib.hid hS
  obtain ⟨R, hR⟩ : ∃ R, R = trackB l := ⟨_, rfl⟩
  rw [← hR]
  have HR := Lib.hid hR
  obtain ⟨N, hN⟩ : ∃ N, N = l.length := ⟨_, rfl⟩
  rw [← hN] at hc1
  have HLe := Lib.hid hN
  have hm : N ≤ 9223372036854775807 := Nat.le_trans hc1 (Nat.le_trans hc2 (by decide))
  rw [← hN]
  clear hR hN hc2 hS
  go_enter Try.func40, Try.ntmps40
  by_cases hl : N ≤ 64
  rotate_left
  · have HRR : Hid (R = false) := Lib.hid (by rw [HR.out]; exact trackB_no (fun h => hl (by rw [HLe.out]; exact h.n)))
    have g2 : decide ((N : Int) > 64) = true := decide_eq_true (by omega)
    go_wp2_with fail
    go_ret
    exact ⟨ret_bool (HRR.out).symm, Below.refl _ _⟩
  have g2 : decide ((N : Int) > 64) = false := decide_eq_false (by omega)
  go_wp2_with fail
  go_loopw [3, 4] (fun v3 v8 wr => ∃ k : Nat, k ≤ N ∧ v8 = .int .i64 (k : Int) ∧ v3 = .int .i64 (Trk.total (l.take k)) ∧ (∀ (i : Nat) (c : Trk.Clip), i < k → l[i]? = some c → clipB c c.chan = true) ∧ 0 ≤ Trk.total (l.take k) ∧ Trk.total (l.take k) ≤ (k : Int) * 2147483647 ∧ Below w.heap.size w wr) (fun _ i _ => N - (intOf i).toNat)
  case atStart => exact ⟨0, Nat.zero_le _, rfl, rfl, fun i c h => absurd h (Nat.not_lt_zero i), by simp [Trk.total], by simp [Trk.total], Below.refl _ _⟩
  case round =>
    obtain ⟨k, hk, rfl, rfl, hL, t0, t1, hb⟩ := hrel
    have HL := Lib.hid hL
    clear hL
    by_cases hlt : k < N
    · have hlt' : (k : Int) < (N : Int) := by omega
      have hkl : k < l.length := by rw [← HLe.out]; exact hlt
      obtain ⟨c, hc⟩ : ∃ c, l[k]? = some c := ⟨_, List.getElem?_eq_getElem hkl⟩
      obtain ⟨ao', cap', e, _, _, hT⟩ := HT.out.below hb
      simp only [Value.slice.injEq, true_and] at e
      obtain ⟨rfl, rfl⟩ := e
      obtain ⟨b, o, x, rfl, hA, hI, hI2⟩ := hT k c hc
      clear hT
      have hn := total_snoc hc
      obtain ⟨s, hs⟩ : ∃ s, s = Trk.total (l.take k) := ⟨_, rfl⟩
      rw [← hs] at hn t0 t1 ⊢
      have HN := Lib.hid hn
      have HA := Lib.hid hA
      have HB := Lib.hid hb
      have HC := Lib.hid hc
      obtain ⟨xa, xn, xc, hx, hx1⟩ : ∃ xa xn xc, x = .slice xa xn xc ∧ True := by
        obtain ⟨xa, xc, e, _⟩ := hI
        exact ⟨xa, _, xc, e, trivial⟩
      subst hx
      have HVC := Lib.hid (fun w2 (hb2 : Below wr.heap.size wr w2) => HS.out c _ w2 (hI.below hb2) hI2)
      unfold clipGV at HVC
      clear hA hb hc hkl hn hs hI hI2 hx1
      go_upto_region 7 with fail
      apply wp_region_lit
      iterate 9 go_step
      refine wpl_loadG HA.out rfl rfl rfl ?_
      simp only [Act.put, List.setIfInBounds_toArray, List.set_cons_succ, List.set_cons_zero]
      obtain ⟨C, hC⟩ : ∃ C, C = (clipG c (.slice xa xn xc)).toArray := ⟨_, rfl⟩
      rw [← hC] at HVC ⊢
      have HCC := Lib.hid hC
      clear hC
      go_wp2_with fail
      refine (HVC.out _ (Below.refl _ _)).mono ?_
      rintro e w4 ⟨rfl, hb⟩
      have HA4 := Lib.hid (HA.out.below hb)
      have HB4 := Lib.hid (HB.out.trans (hb.mono HB.out.size))
      clear hb HA HB
      cases hv : clipB c c.chan with
      | false =>
        have HRR : Hid (R = false) := Lib.hid (by rw [HR.out]; exact trackB_no (fun h => by have := h.c k c HC.out; rw [hv] at this; cases this))
        clear hv
        go_wp2_with fail
        go_ret
        exact ⟨ret_bool (HRR.out).symm, HB4.out⟩
      | true =>
        have hlen := clipB_len hv
        have HVV := Lib.hid hv
        clear hv
        have h64 : (k : Int) * 2147483647 ≤ 64 * 2147483647 := Int.mul_le_mul_of_nonneg_right (by omega) (by decide)
        have x0 := HA4.out.k0
        have h5 : s + c.len ≤ 2147483647 * 65 := by omega
        go_wp2_with fail
        go_roundw
        case rel => exact ⟨k + 1, by omega, by simp, by rw [HN.out], fun i d hi hd => by
          rcases Nat.lt_or_ge i k with h | h
          · exact HL.out i d h hd
          · have e : i = k := by omega
            subst e
            have e2 := Option.some.inj (hd.symm.trans HC.out)
            rw [e2]; exact HVV.out, by rw [HN.out]; omega, by rw [HN.out]; omega, HB4.out⟩
        case measure =>
          show N - (intOf (.int .i64 ((k : Int) + 1))).toNat < N - (intOf (.int .i64 (k : Int))).toNat
          simp [intOf]
          omega
    · have hkl : k = N := by omega
      have e : l.take k = l := List.take_of_length_le (by rw [← HLe.out]; omega)
      rw [e] at t0 t1 ⊢
      have HB := Lib.hid hb
      have HRR : Hid (R = decide (Trk.total l ≤ 2147483647)) := Lib.hid (by
        rw [HR.out]
        by_cases ht : Trk.total l ≤ 2147483647
        · rw [decide_eq_true ht]
          exact trackB_yes ⟨by rw [← HLe.out]; exact hl, fun i c hi => HL.out i c (by rw [hkl, HLe.out]; exact (List.getElem?_eq_some_iff.1 hi).1) hi, ht⟩
        · rw [decide_eq_false ht]
          exact trackB_no (fun h => ht h.t))
      obtain ⟨s, hs⟩ : ∃ s, s = Trk.total l := ⟨_, rfl⟩
      rw [← hs] at HRR t0 t1 ⊢
      clear hb e hs
      subst hkl
      go_wp2_with fail
      go_ret
      exact ⟨ret_bool (HRR.out).symm, HB.out⟩
end Go.Proofs.Ytnmkcpgcdjhdjaa

/- Which edits are valid; validClips at any slice of clips. -/
namespace Go.Proofs.Ytnmkcpgcdjhdjaa
open Go.RowKit
set_option linter.unusedVariables false
set_option linter.unusedSimpArgs false
def TrackSays (f : Nat) : Prop := ∀ (v : Value) (l : List Trk.Clip) (w : World), GT w v l → Calls Try.prog f #[v] w fun e w' => e = .returned (.bool (trackB l)) ∧ Below w.heap.size w w'
noncomputable def clipsB (l : List Trk.Clip) : Bool := decide (0 < l.length) && trackB l
def EditP (k p n c d sn sd : Int) (l : List Trk.Clip) : Prop :=
  ((k = 1 ∨ k = 3) ∧ 0 ≤ p ∧ p ≤ 2147483647 ∧ n = 0 ∧ c = 0 ∧ d = 0 ∧ sn = 0 ∧ sd = 0 ∧ clipsB l = true) ∨
  ((k = 2 ∨ k = 4) ∧ 0 ≤ p ∧ p ≤ 2147483647 ∧ 1 ≤ n ∧ n ≤ 2147483647 ∧ c = 0 ∧ d = 0 ∧ sn = 0 ∧ sd = 0 ∧ l.length = 0) ∨
  ((5 ≤ k ∧ k ≤ 9) ∧ p = 0 ∧ n = 0 ∧ 0 ≤ c ∧ d ≠ 0 ∧ -2147483647 ≤ d ∧ d ≤ 2147483647 ∧ sn = 0 ∧ sd = 0 ∧ l.length = 0) ∨
  (k = 10 ∧ p = 0 ∧ n = 0 ∧ 0 ≤ c ∧ d = 0 ∧ validR sn sd = true ∧ l.length = 0)
open Classical in
noncomputable def editB (k p n c d sn sd : Int) (l : List Trk.Clip) : Bool := decide (EditP k p n c d sn sd l)
open Classical in
theorem editB_no {k p n c d sn sd : Int} {l : List Trk.Clip} (h : ¬ EditP k p n c d sn sd l) : editB k p n c d sn sd l = false := decide_eq_false h
open Classical in
theorem editB_yes {k p n c d sn sd : Int} {l : List Trk.Clip} (h : EditP k p n c d sn sd l) : editB k p n c d sn sd l = true := decide_eq_true h
theorem editB_ins {k p n c d sn sd : Int} {l : List Trk.Clip} (hk : k = 1 ∨ k = 3) (h0 : 0 ≤ p) (h1 : p ≤ 2147483647) (h2 : n = 0) (h3 : c = 0) (h4 : d = 0) (h5 : sn = 0) (h6 : sd = 0) : editB k p n c d sn sd l = clipsB l := by
  cases h : clipsB l with
  | false => exact editB_no (fun hP => by
      rcases hP with ⟨_, _, _, _, _, _, _, _, h7⟩ | h7 | h7 | h7
      · rw [h] at h7; cases h7
      all_goals omega)
  | true => exact editB_yes (.inl ⟨hk, h0, h1, h2, h3, h4, h5, h6, h⟩)
theorem editB_ins_no {k p n c d sn sd : Int} {l : List Trk.Clip} (hk : k = 1 ∨ k = 3) (h : clipsB l = false) : editB k p n c d sn sd l = false :=
  editB_no (fun hP => by
      rcases hP with ⟨_, _, _, _, _, _, _, _, h7⟩ | h7 | h7 | h7
      · rw [h] at h7; cases h7
      all_goals omega)
theorem editB_spd {p n c d sn sd : Int} {l : List Trk.Clip} (h0 : p = 0) (h1 : n = 0) (h2 : 0 ≤ c) (h3 : d = 0) (h4 : l.length = 0) : editB 10 p n c d sn sd l = validR sn sd := by
  cases h : validR sn sd with
  | false => exact editB_no (fun hP => by
      rcases hP with h7 | h7 | h7 | ⟨_, _, _, _, _, h7, _⟩
      iterate 3 omega
      rw [h] at h7; cases h7)
  | true => exact editB_yes (.inr (.inr (.inr ⟨rfl, h0, h1, h2, h3, h, h4⟩)))
theorem clipsB_nil {l : List Trk.Clip} (h : l.length = 0) : clipsB l = false := by unfold clipsB; rw [h]; rfl
theorem clipsB_of {l : List Trk.Clip} (h : l.length ≠ 0) : clipsB l = trackB l := by unfold clipsB; rw [decide_eq_true (by omega)]; rfl
set_option maxRecDepth 100000 in
set_option maxHeartbeats 2000000 in
theorem vclips_all (v : Value) (l : List Trk.Clip) (w : World) (h : GT w v l) (hS : TrackSays 44) : Calls Try.prog 38 #[v] w fun e w' => e = .returned (.bool (clipsB l)) ∧ Below w.heap.size w w' := by
  have HV := Lib.hid (hS v l w h)
  obtain ⟨ao, cap, rfl, h1, h2, h3⟩ := h
  have HE := Lib.hid (fun h : l.length = 0 => clipsB_nil h)
  have HF := Lib.hid (fun h : l.length ≠ 0 => clipsB_of h)
  obtain ⟨N, hN⟩ : ∃ N, N = l.length := ⟨_, rfl⟩
  obtain ⟨R, hR⟩ : ∃ R, R = clipsB l := ⟨_, rfl⟩
  obtain ⟨S, hS'⟩ : ∃ S, S = trackB l := ⟨_, rfl⟩
  rw [← hN, ← hR] at HE
  rw [← hN, ← hR, ← hS'] at HF
  rw [← hN, ← hS'] at HV
  rw [← hN, ← hR]
  clear h1 h2 h3 hN hR hS' hS
  by_cases h0 : N = 0
  · have HRR := Lib.hid (HE.out h0)
    subst h0
    go_enter Try.func38, Try.ntmps38
    go_wp2_with fail
    go_ret
    exact ⟨ret_bool (HRR.out).symm, Below.refl _ _⟩
  · have HRR := Lib.hid (HF.out h0)
    have h0' : (0 : Int) < (N : Int) := by omega
    have g : decide ((N : Int) > 0) = true := decide_eq_true h0'
    clear h0
    go_enter Try.func38, Try.ntmps38
    go_wp2_with fail
    refine HV.out.mono ?_
    rintro e w1 ⟨rfl, hb⟩
    have HB := Lib.hid hb
    clear hb
    go_wp2_with fail
    go_ret
    exact ⟨ret_bool (HRR.out).symm, HB.out⟩
structure InE (k p n c d sn sd : Int) : Prop where
  a0 : -9223372036854775808 ≤ sn
  a1 : sn ≤ 9223372036854775807
  b0 : -9223372036854775808 ≤ sd
  b1 : sd ≤ 9223372036854775807
end Go.Proofs.Ytnmkcpgcdjhdjaa
