/- Texts of this claim joined: AJ. -/
import Derived.Test.YtnmkcpgcdjhdjaaVa15
set_option linter.unusedVariables false
set_option linter.unusedSimpArgs false

/- ValidClip of the reference at any clip. -/
namespace Go.Proofs.Ytnmkcpgcdjhdjaa
open Go.RowKit
set_option linter.unusedVariables false
set_option linter.unusedSimpArgs false
theorem clipB_no {c : Trk.Clip} {l : List Int} (h : headB c l = false ∨ bodyB c l = false) : clipB c l = false := by
  unfold clipB; rcases h with h | h <;> rw [h] <;> simp
theorem srcB_black : srcB Trk.black = true := srcB_yes (.inl rfl)
theorem rshares_at (k : Int) (r : Bool) (h : decide (k = 2 ∨ k = 3) = r) (w : World) : Calls Try.prog 84 #[.int .i64 k] w fun e w' => e = .returned (.bool r) ∧ w' = w := by
  subst h; exact (rshares_all k w).mono fun e w' h => ⟨h.1, h.2.symm⟩
set_option maxRecDepth 100000 in
set_option maxHeartbeats 32000000 in
theorem rclip_01 (c : Trk.Clip) (x : Value) (l : List Int) (w : World) (hi : IT w x l) (ha : InS c.a) (hb : InS c.b) (hln : c.text.size < 9223372036854775808) (hkk : c.kind ≠ 2 ∧ c.kind ≠ 3 ∧ c.kind ≠ 4 ∧ c.kind ≠ 5) :
    Calls Try.prog 61 #[clipGV c x] w fun e w' => e = .returned (.bool (clipB c l)) ∧ Below w.heap.size w w' := by
  have HSA := Lib.hid (fun w => rsource_all c.a w ha)
  have HSB := Lib.hid (fun w => rsource_all c.b w hb)
  have HBA := Lib.hid (fun w => rblack_any c.a w)
  have HBB := Lib.hid (fun w => rblack_any c.b w)
  have HT := Lib.hid (fun w => rline_all c.text w hln)
  simp only [srcV, srcC] at HSA HSB HBA HBB
  have HKK := Lib.hid hkk
  clear hkk
  obtain ⟨sa, hsa⟩ : ∃ r, r = srcB c.a := ⟨_, rfl⟩
  obtain ⟨sb, hsb⟩ : ∃ r, r = srcB c.b := ⟨_, rfl⟩
  rw [← hsa] at HSA
  rw [← hsb] at HSB
  obtain ⟨ba, hba⟩ : ∃ r, r = decide (c.a = Trk.black) := ⟨_, rfl⟩
  obtain ⟨bb, hbb⟩ : ∃ r, r = decide (c.b = Trk.black) := ⟨_, rfl⟩
  rw [← hba] at HBA
  rw [← hbb] at HBB
  obtain ⟨R, hR⟩ : ∃ R, R = clipB c l := ⟨_, rfl⟩
  rw [← hR]
  obtain ⟨nt, hnt⟩ : ∃ r, r = decide (c.text = ByteArray.empty) := ⟨_, rfl⟩
  obtain ⟨lt, hlt⟩ : ∃ r, r = lineB c.text := ⟨_, rfl⟩
  rw [← hlt] at HT
  have HR := Lib.hid hR
  have EA := Lib.hid hsa
  have EB := Lib.hid hsb
  have LA := Lib.hid hba
  have LB := Lib.hid hbb
  have HNT := Lib.hid hnt
  have HLT := Lib.hid hlt
  obtain ⟨ao, cp, hx, hc1, hc2, hcell⟩ := hi
  have HCL := Lib.hid hcell
  have HCH := Lib.hid (show chansB l = chansB l from rfl)
  obtain ⟨n, hn⟩ : ∃ n, n = l.length := ⟨_, rfl⟩
  rw [← hn] at hx hc1
  have HN := Lib.hid hn
  have hm : n ≤ 9223372036854775807 := Nat.le_trans hc1 (Nat.le_trans hc2 (by decide))
  subst hx
  clear hR hsa hsb hba hbb hnt hlt hcell hn hln ha hb hc2
  unfold clipGV
  obtain ⟨C, hC⟩ : ∃ C, C = (clipG c (.slice ao n cp)).toArray := ⟨_, rfl⟩
  rw [← hC]
  have HC := Lib.hid hC
  clear hC
  go_enter Try.func61, Try.ntmps61
  go_upto_region 1 with fail
  obtain ⟨w1, hw1⟩ : ∃ x, x = w.alloc (.cells C 53) := ⟨_, rfl⟩
  rw [← hw1]
  rw [HC.out] at hw1
  have hx : GV w1 w.heap.size c (.slice ao n cp) := by rw [hw1]; exact GV.box w c (.slice ao n cp) 53
  have hb1 : Below w.heap.size w w1 := by rw [hw1]; exact below_box _ _
  obtain ⟨g, hg⟩ : ∃ g, g = w.heap.size := ⟨_, rfl⟩
  replace HCL : Hid (∀ (i : Nat) (c : Int), l[i]? = some c → ∃ b o, ao = some ⟨b, o, none⟩ ∧ b < w1.heap.size ∧ w1.cell? ⟨b, o + i, none⟩ = some (.int .i64 c)) := Lib.hid (fun i c hi => by
    obtain ⟨b, o, e2, hl, hc⟩ := HCL.out i c hi
    exact ⟨b, o, e2, Nat.lt_of_lt_of_le hl hb1.size, (hb1.cell hl).trans hc⟩)
  rw [← hg] at hx ⊢
  have BW := Lib.hid hb1
  have HX := Lib.hid hx
  clear hw1 hb1 hg hx HC
  by_cases h1 : 1 ≤ c.len
  rotate_left
  · have HRR : Hid (R = false) := Lib.hid (by rw [HR.out]; refine clipB_no (.inl ?_); unfold headB; rw [decide_eq_false h1]; simp)
    obtain ⟨x0, x1, x2, x3, x4, x5, x6, x7, x8, x9, x10, x11, x12, x13, x14, x15, x16, x17, x18, x19, x20, x21⟩ := HX.out.c.at0
    go_wp2_with fail
    go_ret
    exact ⟨ret_bool (HRR.out).symm, BW.out⟩
  by_cases h2 : c.len ≤ 2147483647
  rotate_left
  · have HRR : Hid (R = false) := Lib.hid (by rw [HR.out]; refine clipB_no (.inl ?_); unfold headB; rw [decide_eq_false h2]; simp)
    obtain ⟨x0, x1, x2, x3, x4, x5, x6, x7, x8, x9, x10, x11, x12, x13, x14, x15, x16, x17, x18, x19, x20, x21⟩ := HX.out.c.at0
    go_wp2_with fail
    go_ret
    exact ⟨ret_bool (HRR.out).symm, BW.out⟩
  by_cases k1 : 0 ≤ c.kind
  rotate_left
  · have HRR : Hid (R = false) := Lib.hid (by rw [HR.out]; refine clipB_no (.inr ?_); unfold bodyB tailB; rw [if_neg (by omega), if_neg (by omega), if_neg (by omega), if_neg (by omega), if_neg (by omega), if_neg (by omega)])
    obtain ⟨x0, x1, x2, x3, x4, x5, x6, x7, x8, x9, x10, x11, x12, x13, x14, x15, x16, x17, x18, x19, x20, x21⟩ := HX.out.c.at0
    go_wp2_with fail
    go_ret
    exact ⟨ret_bool (HRR.out).symm, BW.out⟩
  by_cases k2 : c.kind ≤ 5
  rotate_left
  · have HRR : Hid (R = false) := Lib.hid (by rw [HR.out]; refine clipB_no (.inr ?_); unfold bodyB tailB; rw [if_neg (by omega), if_neg (by omega), if_neg (by omega), if_neg (by omega), if_neg (by omega), if_neg (by omega)])
    obtain ⟨x0, x1, x2, x3, x4, x5, x6, x7, x8, x9, x10, x11, x12, x13, x14, x15, x16, x17, x18, x19, x20, x21⟩ := HX.out.c.at0
    go_wp2_with fail
    go_ret
    exact ⟨ret_bool (HRR.out).symm, BW.out⟩
  by_cases h3 : 0 ≤ c.gain
  rotate_left
  · have HRR : Hid (R = false) := Lib.hid (by rw [HR.out]; refine clipB_no (.inl ?_); unfold headB; rw [decide_eq_false h3]; simp)
    obtain ⟨x0, x1, x2, x3, x4, x5, x6, x7, x8, x9, x10, x11, x12, x13, x14, x15, x16, x17, x18, x19, x20, x21⟩ := HX.out.c.at0
    go_wp2_with fail
    go_ret
    exact ⟨ret_bool (HRR.out).symm, BW.out⟩
  by_cases h4 : c.gain ≤ 65536
  rotate_left
  · have HRR : Hid (R = false) := Lib.hid (by rw [HR.out]; refine clipB_no (.inl ?_); unfold headB; rw [decide_eq_false h4]; simp)
    obtain ⟨x0, x1, x2, x3, x4, x5, x6, x7, x8, x9, x10, x11, x12, x13, x14, x15, x16, x17, x18, x19, x20, x21⟩ := HX.out.c.at0
    go_wp2_with fail
    go_ret
    exact ⟨ret_bool (HRR.out).symm, BW.out⟩
  by_cases h5 : n ≤ 4
  rotate_left
  · have HRR : Hid (R = false) := Lib.hid (by rw [HR.out]; refine clipB_no (.inl ?_); unfold headB; rw [chansB_no (fun h => h5 (by rw [HN.out]; exact h.1))]; simp)
    obtain ⟨x0, x1, x2, x3, x4, x5, x6, x7, x8, x9, x10, x11, x12, x13, x14, x15, x16, x17, x18, x19, x20, x21⟩ := HX.out.c.at0
    go_wp2_with fail
    go_ret
    exact ⟨ret_bool (HRR.out).symm, BW.out⟩
  obtain ⟨x0, x1, x2, x3, x4, x5, x6, x7, x8, x9, x10, x11, x12, x13, x14, x15, x16, x17, x18, x19, x20, x21⟩ := HX.out.c.at0
  have HK1 := Lib.hid (⟨k1, k2⟩ : 0 ≤ c.kind ∧ c.kind ≤ 5)
  have hH := decide_eq_true h1
  have HD := Lib.hid (⟨h1, h2, h3, h4⟩ : 1 ≤ c.len ∧ c.len ≤ 2147483647 ∧ 0 ≤ c.gain ∧ c.gain ≤ 65536)
  clear hH
  go_wp2_with fail
  clear k1 k2 h3 h4 x0 x1 x2 x3 x4 x5 x6 x7 x8 x9 x10 x11 x12 x13 x14 x15 x16 x17 x18 x19 x20 x21
  replace HX := HX
  go_loopw [3] (fun i wr => ∃ k : Nat, k ≤ n ∧ i = .int .i64 (k : Int) ∧ (∀ (j : Nat) (c : Int), l[j]? = some c → j < k → -1 ≤ c ∧ c ≤ 3) ∧ wr = w1) (fun i _ => n - (intOf i).toNat)
  case atStart => exact ⟨0, Nat.zero_le _, rfl, fun j c _ h => absurd h (Nat.not_lt_zero j), rfl⟩
  case round =>
    obtain ⟨k, hk, rfl, hL, hwr⟩ := hrel
    have hwr2 := hwr.symm
    subst hwr2
    have HL := Lib.hid hL
    clear hL
    by_cases hlt : k < n
    · have hlt' : (k : Int) < (n : Int) := by omega
      obtain ⟨ch, hc⟩ : ∃ ch, l[k]? = some ch := ⟨l[k]'(by rw [← HN.out]; omega), List.getElem?_eq_getElem (by rw [← HN.out]; omega)⟩
      obtain ⟨b, q, rfl, hb, hcl⟩ := HCL.out k ch hc
      have Hc := Lib.hid hc
      clear hc
      obtain ⟨x0, x1, x2, x3, x4, x5, x6, x7, x8, x9, x10, x11, x12, x13, x14, x15, x16, x17, x18, x19, x20, x21⟩ := HX.out.c.at0
      clear x0 x1 x2 x3 x4 x5 x6 x7 x8 x9 x10 x11 x12 x13 x14 x15 x16 x17 x18 x19 x20
      by_cases c0 : -1 ≤ ch
      rotate_left
      · have HRR : Hid (R = false) := Lib.hid (by rw [HR.out]; refine clipB_no (.inl ?_); unfold headB; rw [chansB_no (fun h => c0 (h.2 k ch Hc.out).1)]; simp)
        go_wp2_with fail
        go_ret
        exact ⟨ret_bool (HRR.out).symm, BW.out⟩
      by_cases c1 : ch ≤ 3
      rotate_left
      · have HRR : Hid (R = false) := Lib.hid (by rw [HR.out]; refine clipB_no (.inl ?_); unfold headB; rw [chansB_no (fun h => c1 (h.2 k ch Hc.out).2)]; simp)
        go_wp2_with fail
        go_ret
        exact ⟨ret_bool (HRR.out).symm, BW.out⟩
      go_wp2_with fail
      go_roundw
      case rel => exact ⟨k + 1, by omega, by simp, fun j c2 hj hk2 => by
            rcases Nat.lt_or_ge j k with h | h
            · exact HL.out j c2 hj h
            · have e : j = k := by omega
              subst e
              have e2 := Option.some.inj (hj.symm.trans Hc.out)
              omega, by simp⟩
      case measure =>
        show n - (intOf (.int .i64 ((k : Int) + 1))).toNat < n - (intOf (.int .i64 (k : Int))).toNat
        simp [intOf]
        omega
    · have hkl : n = k := by omega
      subst hkl
      have hch := chansB_yes (l := l) ⟨by rw [← HN.out]; exact h5, fun i c hi => HL.out i c hi (by
        have := (List.getElem?_eq_some_iff.mp hi).1
        rw [HN.out]; omega)⟩
      have HCHY := Lib.hid hch
      clear hch HL HCL
      rcases (show c.kind = 0 ∨ c.kind = 1 by have := HK1.out; have := HKK.out; omega) with hk' | hk'
      · have HK := Lib.hid hk'
        clear hk' HK1
        obtain ⟨x0, x1, x2, x3, x4, x5, x6, x7, x8, x9, x10, x11, x12, x13, x14, x15, x16, x17, x18, x19, x20, x21⟩ := HX.out.c.at0
        rw [HK.out] at x1
        go_upto_region 8 with fail
        go_quiet (first
          | (go_at_call 84; exact Calls.quiet_of_same (rshares_at 0 false (by decide) _)))
        go_upto_region 9 with fail
        obtain ⟨w4, hw4⟩ : ∃ y, y = w1.drewN nq := ⟨_, rfl⟩
        rw [← hw4]
        have hb : Below w1.heap.size w1 w4 := by rw [hw4]; exact below_drewN (Below.refl _ _) _
        replace HX := Lib.hid (HX.out.below hb)
        replace BW := Lib.hid (BW.out.trans (hb.mono BW.out.size))
        clear hb hw4 x0 x1 x2 x3 x4 x5 x6 x7 x8 x9 x10 x11 x12 x13 x14 x15 x16 x17 x18 x19 x20 x21
        obtain ⟨x0, x1, x2, x3, x4, x5, x6, x7, x8, x9, x10, x11, x12, x13, x14, x15, x16, x17, x18, x19, x20, x21⟩ := HX.out.c.at0
        rw [HK.out] at x1
        go_wp2_with fail
        refine (HBA.out _).mono ?_
        rintro e w5 ⟨rfl, hb⟩
        replace HX := Lib.hid (HX.out.below hb)
        replace BW := Lib.hid (BW.out.trans (hb.mono BW.out.size))
        clear hb x0 x1 x2 x3 x4 x5 x6 x7 x8 x9 x10 x11 x12 x13 x14 x15 x16 x17 x18 x19 x20 x21
        cases hv : ba with
        | false =>
          have HRR : Hid (R = false) := Lib.hid (by rw [HR.out]; refine clipB_no (.inr ?_); unfold bodyB tailB; have := of_decide_eq_false (LA.out.symm.trans hv); simp [HK.out, this])
          clear hv
          obtain ⟨x0, x1, x2, x3, x4, x5, x6, x7, x8, x9, x10, x11, x12, x13, x14, x15, x16, x17, x18, x19, x20, x21⟩ := HX.out.c.at0
          rw [HK.out] at x1
          go_wp2_with fail
          go_ret
          exact ⟨ret_bool (HRR.out).symm, BW.out⟩
        | true =>
        have FA := Lib.hid (of_decide_eq_true (LA.out.symm.trans hv))
        clear hv
        obtain ⟨x0, x1, x2, x3, x4, x5, x6, x7, x8, x9, x10, x11, x12, x13, x14, x15, x16, x17, x18, x19, x20, x21⟩ := HX.out.c.at0
        rw [HK.out] at x1
        go_wp2_with fail
        refine (HBB.out _).mono ?_
        rintro e w6 ⟨rfl, hb⟩
        replace HX := Lib.hid (HX.out.below hb)
        replace BW := Lib.hid (BW.out.trans (hb.mono BW.out.size))
        clear hb x0 x1 x2 x3 x4 x5 x6 x7 x8 x9 x10 x11 x12 x13 x14 x15 x16 x17 x18 x19 x20 x21
        cases hv : bb with
        | false =>
          have HRR : Hid (R = false) := Lib.hid (by rw [HR.out]; refine clipB_no (.inr ?_); unfold bodyB tailB; have := of_decide_eq_false (LB.out.symm.trans hv); simp [HK.out, this])
          clear hv
          obtain ⟨x0, x1, x2, x3, x4, x5, x6, x7, x8, x9, x10, x11, x12, x13, x14, x15, x16, x17, x18, x19, x20, x21⟩ := HX.out.c.at0
          rw [HK.out] at x1
          go_wp2_with fail
          go_ret
          exact ⟨ret_bool (HRR.out).symm, BW.out⟩
        | true =>
        have FB := Lib.hid (of_decide_eq_true (LB.out.symm.trans hv))
        clear hv
        by_cases t1 : c.gain = 0
        rotate_left
        · have HRR : Hid (R = false) := Lib.hid (by rw [HR.out]; refine clipB_no (.inr ?_); unfold bodyB tailB; simp [HK.out, t1])
          have gt1 : (c.gain != 0) = true := by simp [t1]
          obtain ⟨x0, x1, x2, x3, x4, x5, x6, x7, x8, x9, x10, x11, x12, x13, x14, x15, x16, x17, x18, x19, x20, x21⟩ := HX.out.c.at0
          rw [HK.out] at x1
          go_wp2_with fail
          go_ret
          exact ⟨ret_bool (HRR.out).symm, BW.out⟩
        by_cases t2 : n = 0
        rotate_left
        · have HRR : Hid (R = false) := Lib.hid (by rw [HR.out]; refine clipB_no (.inr ?_); unfold bodyB tailB; rw [← HN.out]; simp [HK.out, t2])
          obtain ⟨x0, x1, x2, x3, x4, x5, x6, x7, x8, x9, x10, x11, x12, x13, x14, x15, x16, x17, x18, x19, x20, x21⟩ := HX.out.c.at0
          rw [HK.out] at x1
          go_wp2_with fail
          go_ret
          exact ⟨ret_bool (HRR.out).symm, BW.out⟩
        obtain ⟨x0, x1, x2, x3, x4, x5, x6, x7, x8, x9, x10, x11, x12, x13, x14, x15, x16, x17, x18, x19, x20, x21⟩ := HX.out.c.at0
        rw [HK.out] at x1
        go_wp2_with fail
        refine (rshares_at 0 false (by decide) _).mono ?_
        rintro e w' ⟨rfl, rfl⟩
        clear x0 x1 x2 x3 x4 x5 x6 x7 x8 x9 x10 x11 x12 x13 x14 x15 x16 x17 x18 x19 x20 x21
        by_cases t3 : c.off = 0
        rotate_left
        · have HRR : Hid (R = false) := Lib.hid (by rw [HR.out]; refine clipB_no (.inr ?_); unfold bodyB tailB; simp [HK.out, t3])
          have gt3 : (c.off != 0) = true := by simp [t3]
          obtain ⟨x0, x1, x2, x3, x4, x5, x6, x7, x8, x9, x10, x11, x12, x13, x14, x15, x16, x17, x18, x19, x20, x21⟩ := HX.out.c.at0
          rw [HK.out] at x1
          go_wp2_with fail
          go_ret
          exact ⟨ret_bool (HRR.out).symm, BW.out⟩
        by_cases t4 : c.total = 0
        rotate_left
        · have HRR : Hid (R = false) := Lib.hid (by rw [HR.out]; refine clipB_no (.inr ?_); unfold bodyB tailB; simp [HK.out, t4])
          have gt4 : (c.total != 0) = true := by simp [t4]
          obtain ⟨x0, x1, x2, x3, x4, x5, x6, x7, x8, x9, x10, x11, x12, x13, x14, x15, x16, x17, x18, x19, x20, x21⟩ := HX.out.c.at0
          rw [HK.out] at x1
          go_wp2_with fail
          go_ret
          exact ⟨ret_bool (HRR.out).symm, BW.out⟩
        by_cases p1 : 0 ≤ c.param
        rotate_left
        · have HRR : Hid (R = false) := Lib.hid (by rw [HR.out]; refine clipB_no (.inr ?_); unfold bodyB tailB; simp [HK.out]; intros; omega)
          obtain ⟨x0, x1, x2, x3, x4, x5, x6, x7, x8, x9, x10, x11, x12, x13, x14, x15, x16, x17, x18, x19, x20, x21⟩ := HX.out.c.at0
          rw [HK.out] at x1
          go_wp2_with fail
          go_ret
          exact ⟨ret_bool (HRR.out).symm, BW.out⟩
        by_cases p2 : c.param ≤ 0
        rotate_left
        · have HRR : Hid (R = false) := Lib.hid (by rw [HR.out]; refine clipB_no (.inr ?_); unfold bodyB tailB; simp [HK.out]; intros; omega)
          obtain ⟨x0, x1, x2, x3, x4, x5, x6, x7, x8, x9, x10, x11, x12, x13, x14, x15, x16, x17, x18, x19, x20, x21⟩ := HX.out.c.at0
          rw [HK.out] at x1
          go_wp2_with fail
          go_ret
          exact ⟨ret_bool (HRR.out).symm, BW.out⟩
        have p3 : c.param = 0 := by omega
        have HRR : Hid (R = nt) := Lib.hid (by rw [HR.out]; unfold clipB headB bodyB tailB; have hd := HD.out; have fa := FA.out; have fb := FB.out; have hcy := HCHY.out; have hn := HN.out; simp [HK.out, hd.1, hd.2.1, hd.2.2.1, hd.2.2.2, hcy, fa, srcB_black, fb, srcB_black, p3, t1, ← hn, t2, t3, t4, HNT.out])
        obtain ⟨x0, x1, x2, x3, x4, x5, x6, x7, x8, x9, x10, x11, x12, x13, x14, x15, x16, x17, x18, x19, x20, x21⟩ := HX.out.c.at0
        rw [HK.out] at x1
        go_wp2_with fail
        go_ret
        refine ⟨?_, BW.out⟩
        rw [HRR.out, ← ret_nt HNT.out]
        rfl
      · have HK := Lib.hid hk'
        clear hk' HK1
        obtain ⟨x0, x1, x2, x3, x4, x5, x6, x7, x8, x9, x10, x11, x12, x13, x14, x15, x16, x17, x18, x19, x20, x21⟩ := HX.out.c.at0
        rw [HK.out] at x1
        go_upto_region 8 with fail
        go_quiet (first
          | (go_at_call 84; exact Calls.quiet_of_same (rshares_at 1 false (by decide) _)))
        go_upto_region 9 with fail
        obtain ⟨w4, hw4⟩ : ∃ y, y = w1.drewN nq := ⟨_, rfl⟩
        rw [← hw4]
        have hb : Below w1.heap.size w1 w4 := by rw [hw4]; exact below_drewN (Below.refl _ _) _
        replace HX := Lib.hid (HX.out.below hb)
        replace BW := Lib.hid (BW.out.trans (hb.mono BW.out.size))
        clear hb hw4 x0 x1 x2 x3 x4 x5 x6 x7 x8 x9 x10 x11 x12 x13 x14 x15 x16 x17 x18 x19 x20 x21
        obtain ⟨x0, x1, x2, x3, x4, x5, x6, x7, x8, x9, x10, x11, x12, x13, x14, x15, x16, x17, x18, x19, x20, x21⟩ := HX.out.c.at0
        rw [HK.out] at x1
        go_wp2_with fail
        refine (HSA.out _).mono ?_
        rintro e w5 ⟨rfl, hb⟩
        replace HX := Lib.hid (HX.out.below hb)
        replace BW := Lib.hid (BW.out.trans (hb.mono BW.out.size))
        clear hb x0 x1 x2 x3 x4 x5 x6 x7 x8 x9 x10 x11 x12 x13 x14 x15 x16 x17 x18 x19 x20 x21
        cases hv : sa with
        | false =>
          have HRR : Hid (R = false) := Lib.hid (by rw [HR.out]; refine clipB_no (.inl ?_); unfold headB; rw [← EA.out, hv]; simp)
          clear hv
          obtain ⟨x0, x1, x2, x3, x4, x5, x6, x7, x8, x9, x10, x11, x12, x13, x14, x15, x16, x17, x18, x19, x20, x21⟩ := HX.out.c.at0
          rw [HK.out] at x1
          go_wp2_with fail
          go_ret
          exact ⟨ret_bool (HRR.out).symm, BW.out⟩
        | true =>
        have FA := Lib.hid (EA.out.symm.trans hv)
        clear hv
        obtain ⟨x0, x1, x2, x3, x4, x5, x6, x7, x8, x9, x10, x11, x12, x13, x14, x15, x16, x17, x18, x19, x20, x21⟩ := HX.out.c.at0
        rw [HK.out] at x1
        go_wp2_with fail
        refine (HBB.out _).mono ?_
        rintro e w6 ⟨rfl, hb⟩
        replace HX := Lib.hid (HX.out.below hb)
        replace BW := Lib.hid (BW.out.trans (hb.mono BW.out.size))
        clear hb x0 x1 x2 x3 x4 x5 x6 x7 x8 x9 x10 x11 x12 x13 x14 x15 x16 x17 x18 x19 x20 x21
        cases hv : bb with
        | false =>
          have HRR : Hid (R = false) := Lib.hid (by rw [HR.out]; refine clipB_no (.inr ?_); unfold bodyB tailB; have := of_decide_eq_false (LB.out.symm.trans hv); simp [HK.out, this])
          clear hv
          obtain ⟨x0, x1, x2, x3, x4, x5, x6, x7, x8, x9, x10, x11, x12, x13, x14, x15, x16, x17, x18, x19, x20, x21⟩ := HX.out.c.at0
          rw [HK.out] at x1
          go_wp2_with fail
          go_ret
          exact ⟨ret_bool (HRR.out).symm, BW.out⟩
        | true =>
        have FB := Lib.hid (of_decide_eq_true (LB.out.symm.trans hv))
        clear hv
        obtain ⟨x0, x1, x2, x3, x4, x5, x6, x7, x8, x9, x10, x11, x12, x13, x14, x15, x16, x17, x18, x19, x20, x21⟩ := HX.out.c.at0
        rw [HK.out] at x1
        go_wp2_with fail
        refine (rshares_at 1 false (by decide) _).mono ?_
        rintro e w' ⟨rfl, rfl⟩
        clear x0 x1 x2 x3 x4 x5 x6 x7 x8 x9 x10 x11 x12 x13 x14 x15 x16 x17 x18 x19 x20 x21
        by_cases t3 : c.off = 0
        rotate_left
        · have HRR : Hid (R = false) := Lib.hid (by rw [HR.out]; refine clipB_no (.inr ?_); unfold bodyB tailB; simp [HK.out, t3])
          have gt3 : (c.off != 0) = true := by simp [t3]
          obtain ⟨x0, x1, x2, x3, x4, x5, x6, x7, x8, x9, x10, x11, x12, x13, x14, x15, x16, x17, x18, x19, x20, x21⟩ := HX.out.c.at0
          rw [HK.out] at x1
          go_wp2_with fail
          go_ret
          exact ⟨ret_bool (HRR.out).symm, BW.out⟩
        by_cases t4 : c.total = 0
        rotate_left
        · have HRR : Hid (R = false) := Lib.hid (by rw [HR.out]; refine clipB_no (.inr ?_); unfold bodyB tailB; simp [HK.out, t4])
          have gt4 : (c.total != 0) = true := by simp [t4]
          obtain ⟨x0, x1, x2, x3, x4, x5, x6, x7, x8, x9, x10, x11, x12, x13, x14, x15, x16, x17, x18, x19, x20, x21⟩ := HX.out.c.at0
          rw [HK.out] at x1
          go_wp2_with fail
          go_ret
          exact ⟨ret_bool (HRR.out).symm, BW.out⟩
        by_cases p1 : 0 ≤ c.param
        rotate_left
        · have HRR : Hid (R = false) := Lib.hid (by rw [HR.out]; refine clipB_no (.inr ?_); unfold bodyB tailB; simp [HK.out]; intros; omega)
          obtain ⟨x0, x1, x2, x3, x4, x5, x6, x7, x8, x9, x10, x11, x12, x13, x14, x15, x16, x17, x18, x19, x20, x21⟩ := HX.out.c.at0
          rw [HK.out] at x1
          go_wp2_with fail
          go_ret
          exact ⟨ret_bool (HRR.out).symm, BW.out⟩
        by_cases p2 : c.param ≤ 0
        rotate_left
        · have HRR : Hid (R = false) := Lib.hid (by rw [HR.out]; refine clipB_no (.inr ?_); unfold bodyB tailB; simp [HK.out]; intros; omega)
          obtain ⟨x0, x1, x2, x3, x4, x5, x6, x7, x8, x9, x10, x11, x12, x13, x14, x15, x16, x17, x18, x19, x20, x21⟩ := HX.out.c.at0
          rw [HK.out] at x1
          go_wp2_with fail
          go_ret
          exact ⟨ret_bool (HRR.out).symm, BW.out⟩
        have p3 : c.param = 0 := by omega
        have HRR : Hid (R = nt) := Lib.hid (by rw [HR.out]; unfold clipB headB bodyB tailB; have hd := HD.out; have fa := FA.out; have fb := FB.out; have hcy := HCHY.out; simp [HK.out, hd.1, hd.2.1, hd.2.2.1, hd.2.2.2, hcy, fa, fb, srcB_black, p3, t3, t4, HNT.out])
        obtain ⟨x0, x1, x2, x3, x4, x5, x6, x7, x8, x9, x10, x11, x12, x13, x14, x15, x16, x17, x18, x19, x20, x21⟩ := HX.out.c.at0
        rw [HK.out] at x1
        go_wp2_with fail
        go_ret
        refine ⟨?_, BW.out⟩
        rw [HRR.out, ← ret_nt HNT.out]
        rfl
end Go.Proofs.Ytnmkcpgcdjhdjaa
