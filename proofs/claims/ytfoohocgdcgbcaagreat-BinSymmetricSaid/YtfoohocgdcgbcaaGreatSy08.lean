/- Texts of this claim joined: VA. -/
import Derived.Test.YtfoohocgdcgbcaaGreatSy07
set_option linter.unusedVariables false
set_option linter.unusedSimpArgs false
namespace Go.Proofs.YtfoohocgdcgbcaaGreat
open Go.RowKit
set_option maxRecDepth 100000 in
set_option maxHeartbeats 4000000 in
theorem name_one (c : UInt8) (w : World) (c0 : 97 ≤ (c.toNat : Int)) (c1 : (c.toNat : Int) ≤ 122) :
  Calls Tryz.prog 114 #[.string ⟨#[c]⟩] w fun e w' => e = .returned (.bool true) ∧ w = w' := by
 have key0 : ∀ h, ((⟨#[c]⟩ : ByteArray)[0]'h) = c := fun h => rfl
 have K0 := Lib.hid key0
 clear key0
 go_enter Tryz.func114, Tryz.ntmps114
 go_wp2_with fail
 go_loop [15] (fun i => i = .int .i64 0 ∨ i = .int .i64 1) (fun i => 1 - (intOf i).toNat)
 case atStart => exact .inl rfl
 case round =>
  rcases hrel with rfl | rfl
  ·go_wp2_with fail
   all_goals
    have key0 := K0.out
    simp only [key0] at *
    first
    | (exfalso; omega)
    | exact ⟨by simp, by simp [intOf]⟩
  ·go_wp2_with fail
   go_ret
   exact ⟨rfl, rfl⟩
theorem name_any (nm : ByteArray) (w : World) (h : Trk.okName nm) : Calls Tryz.prog 114 #[.string nm] w fun e w' => e = .returned (.bool true) ∧ w = w' := by
 rcases h with ⟨c, d, rfl, h1, h2, h3, h4⟩ | ⟨c, rfl, h1, h2⟩
 ·exact name_ok c d w h1 h2 h3 h4
 ·exact name_one c w h1 h2
set_option maxRecDepth 100000 in
set_option maxHeartbeats 8000000 in
theorem vsource_gen (k : Int) (nm : ByteArray) (an ad sn sd : Int) (sm : Bool) (w : World) (hk : k = 1 ∨ k = 2) (hn : ∀ w, Calls Tryz.prog 114 #[.string nm] w fun e w' => e = .returned (.bool true) ∧ w = w')
  (a0 : 1 ≤ ad) (a1 : ad ≤ 65536) (a2 : an.natAbs.gcd ad.toNat = 1) (a3 : -1099511627776 * ad ≤ an) (a4 : an ≤ 1099511627776 * ad)
  (s0 : 1 ≤ sd) (s1 : sd ≤ 65536) (s2 : sn.natAbs.gcd sd.toNat = 1) (s3 : -1024 * sd ≤ sn) (s4 : sn ≤ 1024 * sd) (hl : ad / (ad.toNat.gcd sd.toNat : Int) * sd ≤ 65536) :
  Calls Tryz.prog 134 #[.agg #[.int .i64 k, .string nm, .int .i64 an, .int .i64 ad, .int .i64 sn, .int .i64 sd, .bool sm]] w fun e w' => e = .returned (.bool true) ∧ Below w.heap.size w w' := by
 have HN := Lib.hid hn
 clear hn
 have HA := Lib.hid (fun w => bounded_at an ad w a0 a1 a2 a3 a4)
 have HS := Lib.hid (fun w => bounded_sp sn sd w s0 s1 s2 s3 s4)
 obtain ⟨g, hg⟩ : ∃ g : Nat, g = ad.toNat.gcd sd.toNat := ⟨_, rfl⟩
 have hg0 : 1 ≤ g := by rw [hg]; exact Nat.gcd_pos_of_pos_left _ (by omega)
 have HD := Lib.hid (show ∀ w, Calls Tryz.prog 158 #[.int .i64 ad, .int .i64 sd] w fun e w' => e = .returned (.int .i64 (g : Int)) ∧ ∃ m, w' = w.drewN m from fun w => by
  have h := divisor_any ad.toNat sd.toNat w (by omega) (by omega)
  rw [← hg, Int.toNat_of_nonneg (by omega), Int.toNat_of_nonneg (by omega)] at h
  exact h)
 rw [← hg] at hl
 obtain ⟨q, hq⟩ : ∃ q, q = ad / (g : Int) := ⟨_, rfl⟩
 have hq0 : 0 ≤ q := by rw [hq]; exact Int.ediv_nonneg (by omega) (by omega)
 have hq1 : q ≤ 65536 := by rw [hq]; exact Int.le_trans (Int.ediv_le_self _ (by omega)) a1
 rw [← hq] at hl
 have hq2 := Lib.hid hq
 clear hq
 have hb0 : 0 ≤ q * sd := Int.mul_nonneg hq0 (by omega)
 have hne := run_eq_src ⟨k, nm, an, ad, sn, sd, sm⟩ Trk.black
 rw [decide_eq_false (by intro e; have := congrArg Trk.Src.kind e; simp only [Trk.black] at this; omega)] at hne
 have HNE := Lib.hid hne
 clear hne hg a2 a3 a4 s2 s3 s4
 go_enter Tryz.func134, Tryz.ntmps134
 go_upto_region 1 with fail
 obtain ⟨w1, hw1⟩ : ∃ x, x = w.alloc (.cells #[.int .i64 k, .string nm, .int .i64 an, .int .i64 ad, .int .i64 sn, .int .i64 sd, .bool sm] 46) := ⟨_, rfl⟩
 rw [← hw1]
 have hb1 : Below w.heap.size w w1 := by rw [hw1]; exact below_box _ _
 obtain ⟨b, hb⟩ : ∃ b, b = w.heap.size := ⟨_, rfl⟩
 have c0 : C7 w1 b 0 (.int .i64 k) (.string nm) (.int .i64 an) (.int .i64 ad) (.int .i64 sn) (.int .i64 sd) (.bool sm) := by rw [hw1, hb]; constructor <;> simp [go_sem]
 rw [← hb]
 have HB := Lib.hid hb1
 have HC := Lib.hid c0
 clear hw1 hb1
 obtain ⟨x0, x1, x2, x3, x4, x5, x6⟩ := c0.at0
 have hq := HNE.out w1
 simp only [Trk.black] at hq
 clear c0 hb
 have hdv : Int.tdiv ad (g : Int) = q := by rw [hq2.out]; exact Int.tdiv_eq_ediv_of_nonneg (by omega)
 have hgz : ¬ (g : Int) = 0 := by omega
 clear hq2
 rcases hk with rfl | rfl
 ·go_upto_region 5 with (go_at_call 114; refine (HN.out _).mono ?_; rintro e w' ⟨rfl, rfl⟩)
  clear x0 x1 x2 x3 x4 x5 x6 hq HNE HN
  refine Plan.wp_region_plan (fun w' => C7 w' b 0 (.int .i64 1) (.string nm) (.int .i64 an) (.int .i64 ad) (.int .i64 sn) (.int .i64 sd) (.bool sm)) (([0, 1].map (·, true)) ++ (([2].map (·, false)) ++ (([3, 4, 5].map (·, true)) ++ (([6].map (·, false)) ++ (([7, 8, 9, 10, 11, 12, 13, 14, 15, 16, 17, 20, 21, 22].map (·, true)) ++ (([18].map (·, false)) ++ ([19, 23, 24, 25, 26].map (·, true)))))))) (by kernel_rfl) (by kernel_rfl) (by kernel_rfl) (HC.out.below (Below.refl _ _).drew) ?_
  refine' Plan.plan_seg _ [0, 1] (([2].map (·, false)) ++ (([3, 4, 5].map (·, true)) ++ (([6].map (·, false)) ++ (([7, 8, 9, 10, 11, 12, 13, 14, 15, 16, 17, 20, 21, 22].map (·, true)) ++ (([18].map (·, false)) ++ ([19, 23, 24, 25, 26].map (·, true))))))) (by kernel_rfl) (by kernel_rfl) rfl (by exact HC.out.below (Below.refl _ _).drew) (fun wx hS => ?_) ?_
  rotate_left
  ·obtain ⟨x0, x1, x2, x3, x4, x5, x6⟩ := hS.at0
   clear hS
   go_light
   iterate 2 (apply Plan.seg_pick; rfl; intro K hK; go_wp)
   exact Plan.seg_nil
  obtain ⟨w2, hw2⟩ : ∃ x, x = w1.drew := ⟨_, rfl⟩
  rw [← hw2]
  have hb : Below w1.heap.size w1 w2 := by rw [hw2]; exact (Below.refl _ _).drew
  replace HC := Lib.hid (HC.out.below hb)
  replace HB := Lib.hid (HB.out.trans (hb.mono HB.out.size))
  clear hb hw2
  refine Plan.plan_of_effect rfl (fun K hK => ?_)
  go_wp2_with fail
  refine (HA.out w2).mono ?_
  rintro e w3 ⟨rfl, hb⟩
  replace HC := Lib.hid (HC.out.below hb)
  replace HB := Lib.hid (HB.out.trans (hb.mono HB.out.size))
  clear hb
  go_wp2_with fail
  refine ⟨HC.out, ?_⟩
  refine' Plan.plan_seg _ [3, 4, 5] (([6].map (·, false)) ++ (([7, 8, 9, 10, 11, 12, 13, 14, 15, 16, 17, 20, 21, 22].map (·, true)) ++ (([18].map (·, false)) ++ ([19, 23, 24, 25, 26].map (·, true))))) (by kernel_rfl) (by kernel_rfl) rfl (by exact HC.out) (fun wx hS => ?_) ?_
  rotate_left
  ·obtain ⟨x0, x1, x2, x3, x4, x5, x6⟩ := hS.at0
   clear hS
   go_light
   iterate 3 (apply Plan.seg_pick; rfl; intro K hK; go_wp)
   exact Plan.seg_nil
  refine Plan.plan_of_effect rfl (fun K hK => ?_)
  go_wp2_with fail
  refine (HS.out w3).mono ?_
  rintro e w4 ⟨rfl, hb⟩
  replace HC := Lib.hid (HC.out.below hb)
  replace HB := Lib.hid (HB.out.trans (hb.mono HB.out.size))
  clear hb
  go_wp2_with fail
  refine ⟨HC.out, ?_⟩
  refine' Plan.plan_seg _ [7, 8, 9, 10, 11, 12, 13, 14, 15, 16, 17, 20, 21, 22] (([18].map (·, false)) ++ ([19, 23, 24, 25, 26].map (·, true))) (by kernel_rfl) (by kernel_rfl) rfl (by exact HC.out) (fun wx hS => ?_) ?_
  rotate_left
  ·obtain ⟨x0, x1, x2, x3, x4, x5, x6⟩ := hS.at0
   clear hS
   go_light
   iterate 14 (apply Plan.seg_pick; rfl; intro K hK; go_wp)
   exact Plan.seg_nil
  refine Plan.plan_of_effect rfl (fun K hK => ?_)
  go_wp2_with fail
  refine (HD.out w4).mono ?_
  rintro e w5 ⟨rfl, m, hm⟩
  have hb : Below w4.heap.size w4 w5 := by rw [hm]; exact below_drewN (Below.refl _ _) _
  clear hm
  replace HC := Lib.hid (HC.out.below hb)
  replace HB := Lib.hid (HB.out.trans (hb.mono HB.out.size))
  clear hb
  go_wp2_with fail
  refine ⟨HC.out, ?_⟩
  refine' Plan.plan_seg _ [19, 23, 24, 25, 26] [] (by kernel_rfl) (by kernel_rfl) rfl (by exact HC.out) (fun wx hS => ?_) ?_
  rotate_left
  ·obtain ⟨x0, x1, x2, x3, x4, x5, x6⟩ := hS.at0
   clear hS
   go_light
   iterate 5 (apply Plan.seg_pick; rfl; intro K hK; go_wp)
   exact Plan.seg_nil
  refine Plan.plan_done ?_
  go_wp2_with fail
  go_ret
  exact ⟨ret_bool (by first | rfl | (simp; done) | (simp; omega)), HB.out⟩
 ·go_upto_region 5 with (go_at_call 114; refine (HN.out _).mono ?_; rintro e w' ⟨rfl, rfl⟩)
  clear x0 x1 x2 x3 x4 x5 x6 hq HNE HN
  refine Plan.wp_region_plan (fun w' => C7 w' b 0 (.int .i64 2) (.string nm) (.int .i64 an) (.int .i64 ad) (.int .i64 sn) (.int .i64 sd) (.bool sm)) (([0, 1].map (·, true)) ++ (([2].map (·, false)) ++ (([3, 4, 5].map (·, true)) ++ (([6].map (·, false)) ++ (([7, 8, 9, 10, 11, 12, 13, 14, 15, 16, 17, 20, 21, 22].map (·, true)) ++ (([18].map (·, false)) ++ ([19, 23, 24, 25, 26].map (·, true)))))))) (by kernel_rfl) (by kernel_rfl) (by kernel_rfl) (HC.out.below (Below.refl _ _).drew) ?_
  refine' Plan.plan_seg _ [0, 1] (([2].map (·, false)) ++ (([3, 4, 5].map (·, true)) ++ (([6].map (·, false)) ++ (([7, 8, 9, 10, 11, 12, 13, 14, 15, 16, 17, 20, 21, 22].map (·, true)) ++ (([18].map (·, false)) ++ ([19, 23, 24, 25, 26].map (·, true))))))) (by kernel_rfl) (by kernel_rfl) rfl (by exact HC.out.below (Below.refl _ _).drew) (fun wx hS => ?_) ?_
  rotate_left
  ·obtain ⟨x0, x1, x2, x3, x4, x5, x6⟩ := hS.at0
   clear hS
   go_light
   iterate 2 (apply Plan.seg_pick; rfl; intro K hK; go_wp)
   exact Plan.seg_nil
  obtain ⟨w2, hw2⟩ : ∃ x, x = w1.drew := ⟨_, rfl⟩
  rw [← hw2]
  have hb : Below w1.heap.size w1 w2 := by rw [hw2]; exact (Below.refl _ _).drew
  replace HC := Lib.hid (HC.out.below hb)
  replace HB := Lib.hid (HB.out.trans (hb.mono HB.out.size))
  clear hb hw2
  refine Plan.plan_of_effect rfl (fun K hK => ?_)
  go_wp2_with fail
  refine (HA.out w2).mono ?_
  rintro e w3 ⟨rfl, hb⟩
  replace HC := Lib.hid (HC.out.below hb)
  replace HB := Lib.hid (HB.out.trans (hb.mono HB.out.size))
  clear hb
  go_wp2_with fail
  refine ⟨HC.out, ?_⟩
  refine' Plan.plan_seg _ [3, 4, 5] (([6].map (·, false)) ++ (([7, 8, 9, 10, 11, 12, 13, 14, 15, 16, 17, 20, 21, 22].map (·, true)) ++ (([18].map (·, false)) ++ ([19, 23, 24, 25, 26].map (·, true))))) (by kernel_rfl) (by kernel_rfl) rfl (by exact HC.out) (fun wx hS => ?_) ?_
  rotate_left
  ·obtain ⟨x0, x1, x2, x3, x4, x5, x6⟩ := hS.at0
   clear hS
   go_light
   iterate 3 (apply Plan.seg_pick; rfl; intro K hK; go_wp)
   exact Plan.seg_nil
  refine Plan.plan_of_effect rfl (fun K hK => ?_)
  go_wp2_with fail
  refine (HS.out w3).mono ?_
  rintro e w4 ⟨rfl, hb⟩
  replace HC := Lib.hid (HC.out.below hb)
  replace HB := Lib.hid (HB.out.trans (hb.mono HB.out.size))
  clear hb
  go_wp2_with fail
  refine ⟨HC.out, ?_⟩
  refine' Plan.plan_seg _ [7, 8, 9, 10, 11, 12, 13, 14, 15, 16, 17, 20, 21, 22] (([18].map (·, false)) ++ ([19, 23, 24, 25, 26].map (·, true))) (by kernel_rfl) (by kernel_rfl) rfl (by exact HC.out) (fun wx hS => ?_) ?_
  rotate_left
  ·obtain ⟨x0, x1, x2, x3, x4, x5, x6⟩ := hS.at0
   clear hS
   go_light
   iterate 14 (apply Plan.seg_pick; rfl; intro K hK; go_wp)
   exact Plan.seg_nil
  refine Plan.plan_of_effect rfl (fun K hK => ?_)
  go_wp2_with fail
  refine (HD.out w4).mono ?_
  rintro e w5 ⟨rfl, m, hm⟩
  have hb : Below w4.heap.size w4 w5 := by rw [hm]; exact below_drewN (Below.refl _ _) _
  clear hm
  replace HC := Lib.hid (HC.out.below hb)
  replace HB := Lib.hid (HB.out.trans (hb.mono HB.out.size))
  clear hb
  go_wp2_with fail
  refine ⟨HC.out, ?_⟩
  refine' Plan.plan_seg _ [19, 23, 24, 25, 26] [] (by kernel_rfl) (by kernel_rfl) rfl (by exact HC.out) (fun wx hS => ?_) ?_
  rotate_left
  ·obtain ⟨x0, x1, x2, x3, x4, x5, x6⟩ := hS.at0
   clear hS
   go_light
   iterate 5 (apply Plan.seg_pick; rfl; intro K hK; go_wp)
   exact Plan.seg_nil
  refine Plan.plan_done ?_
  go_wp2_with fail
  go_ret
  exact ⟨ret_bool (by first | rfl | (simp; done) | (simp; omega)), HB.out⟩
theorem lcm_le {a b : Nat} (ha : a ∣ 6006) (hb : b ∣ 6006) (h : 0 < a) : a / a.gcd b * b ≤ 6006 := by
 have h1 : a.lcm b ∣ 6006 := Nat.lcm_dvd ha hb
 have h2 : a / a.gcd b * b = a.lcm b := by
  rw [Nat.lcm, Nat.mul_comm a b, Nat.mul_div_assoc _ (Nat.gcd_dvd_left a b), Nat.mul_comm]
 rw [h2]
 exact Nat.le_of_dvd (by decide) h1
theorem vsrc_any {L n : Int} (s : Trk.Src) (w : World) (h : Trk.SrcIn L n s) (hL : L ≤ 140737488355328) : Calls Tryz.prog 134 #[srcV s] w fun e w' => e = .returned (.bool true) ∧ Below w.heap.size w w' := by
 rcases h with rfl | h
 ·exact vsource_black w
 ·obtain ⟨a0, a1, s0, s1, n0, n1, v0, v1⟩ := h.nums
  obtain ⟨f0, f1⟩ := h.far hL
  have hl : s.ad / (s.ad.toNat.gcd s.sd.toNat : Int) * s.sd ≤ 65536 := by
   have hda : s.ad.toNat ∣ 6006 := by
    have := h.lat.a
    rw [show s.ad = ((s.ad.toNat : Nat) : Int) by omega] at this
    exact Int.natCast_dvd_natCast.1 this
   have hds : s.sd.toNat ∣ 6006 := by
    have := h.lat.s
    rw [show s.sd = ((s.sd.toNat : Nat) : Int) by omega] at this
    exact Int.natCast_dvd_natCast.1 this
   have := lcm_le hda hds (by omega)
   have e : s.ad / (s.ad.toNat.gcd s.sd.toNat : Int) * s.sd = ((s.ad.toNat / s.ad.toNat.gcd s.sd.toNat * s.sd.toNat : Nat) : Int) := by
    rw [Int.natCast_mul, Int.natCast_ediv, Int.toNat_of_nonneg (show 0 ≤ s.ad by omega), Int.toNat_of_nonneg (show 0 ≤ s.sd by omega)]
   rw [e]
   omega
  exact vsource_gen s.kind s.name s.an s.ad s.sn s.sd s.smooth w h.k (fun w => name_any _ w h.nm) a0 (by omega) h.lat.g.a1 (by omega) (by omega) s0 (by omega) h.lat.g.s1 (by omega) (by omega) hl
theorem SrcIn.oks {L n : Int} {s : Trk.Src} (h : Trk.SrcIn L n s) (hL : L ≤ 140737488355328) : OkS s := by
 rcases h with rfl | h
 ·exact .inl rfl
 ·obtain ⟨a0, a1, s0, s1, n0, n1, v0, v1⟩ := h.nums
  exact .inr ⟨h.lat.g, by omega, by omega, by omega, by omega⟩
theorem okC_of {L : Int} {c : Trk.Clip} (h : Trk.VC L c) (hL : L ≤ 140737488355328) (ho : c.off.natAbs ≤ 4611686018427387904) : OkC c :=
 ⟨h.good, SrcIn.oks h.c.a hL, SrcIn.oks h.c.b hL, h.c.ch, by have := h.l.2.1; omega, ho⟩
theorem off_le {L : Int} {c : Trk.Clip} (h : Trk.VC L c) : 0 ≤ c.off ∧ c.off ≤ 2147483647 ∧ 0 ≤ c.total ∧ c.total ≤ 2147483647 := by
 have hs : ∀ k, (k = 2 ∨ k = 3) → Trk.shares k = true := by rintro k (rfl | rfl) <;> rfl
 have l0 := h.l.1
 rcases h.c.kd with ⟨h0, h1, h2, h3, h4, h5, h6⟩ | ⟨h0, h2, h3, h4, h5, h6⟩ | ⟨h0, h5, h6⟩ | ⟨h0, h5, h6⟩ | ⟨h0, h3, h4, h5, h6⟩ | ⟨h0, h2, h3, h4, h5, h6⟩
 ·omega
 ·omega
 ·have := h.l.2.2 (hs _ (.inl h0)); omega
 ·have := h.l.2.2 (hs _ (.inr h0)); omega
 ·omega
 ·omega
theorem VC.okC {L : Int} {c : Trk.Clip} (h : Trk.VC L c) (hL : L ≤ 140737488355328) : OkC c := okC_of h hL (by have := off_le h; omega)
end Go.Proofs.YtfoohocgdcgbcaaGreat
