/- Texts of this claim joined: R S U W X Y TD TE VA. -/
import Derived.Deep.Light
import Derived.Test.YtfoohocgdcgbcaaGreatSd00
import Derived.Test.YtfoohocgdcgbcaaGreatSd02
set_option linter.unusedVariables false
set_option linter.unusedSimpArgs false

/- ValidName of a name of two bytes: a small letter, a digit. -/
namespace Go.Proofs.YtfoohocgdcgbcaaGreat
open Go.RowKit
set_option linter.unusedVariables false
set_option linter.unusedSimpArgs false
set_option maxRecDepth 100000 in
set_option maxHeartbeats 4000000 in
theorem name_ok (c d : UInt8) (w : World) (c0 : 97 ≤ (c.toNat : Int)) (c1 : (c.toNat : Int) ≤ 122) (d0 : 48 ≤ (d.toNat : Int)) (d1 : (d.toNat : Int) ≤ 57) :
    Calls Tryz.prog 114 #[.string ⟨#[c, d]⟩] w fun e w' => e = .returned (.bool true) ∧ w = w' := by
  have key0 : ∀ h, ((⟨#[c, d]⟩ : ByteArray)[0]'h) = c := fun h => rfl
  have key1 : ∀ h, ((⟨#[c, d]⟩ : ByteArray)[1]'h) = d := fun h => rfl
  have K0 := Lib.hid key0
  have K1 := Lib.hid key1
  clear key0 key1
  go_enter Tryz.func114, Tryz.ntmps114
  go_wp2_with fail
  go_loop [15] (fun i => i = .int .i64 0 ∨ i = .int .i64 1 ∨ i = .int .i64 2) (fun i => 2 - (intOf i).toNat)
  case atStart => exact .inl rfl
  case round =>
    rcases hrel with rfl | rfl | rfl
    · go_wp2_with fail
      all_goals
        have key0 := K0.out
        simp only [key0] at *
        first
        | (exfalso; omega)
        | exact ⟨by simp, by simp [intOf]⟩
    · go_wp2_with fail
      all_goals
        have key1 := K1.out
        simp only [key1] at *
        first
        | (exfalso; omega)
        | exact ⟨by simp, by simp [intOf]⟩
    · go_wp2_with fail
      go_ret
      exact ⟨rfl, rfl⟩
end Go.Proofs.YtfoohocgdcgbcaaGreat

/- validSource of black. -/
namespace Go.Proofs.YtfoohocgdcgbcaaGreat
open Go.RowKit
set_option linter.unusedVariables false
set_option linter.unusedSimpArgs false
set_option maxRecDepth 100000 in
set_option maxHeartbeats 4000000 in
theorem vsource_black (w : World) : Calls Tryz.prog 134 #[srcV Trk.black] w fun e w' => e = .returned (.bool true) ∧ Below w.heap.size w w' := by
  simp only [srcV, srcC, Trk.black]
  go_enter Tryz.func134, Tryz.ntmps134
  go_upto_region 1 with fail
  obtain ⟨w1, hw1⟩ : ∃ x, x = w.alloc (.cells #[.int .i64 0, .string ByteArray.empty, .int .i64 0, .int .i64 0, .int .i64 0, .int .i64 0, .bool false] 46) := ⟨_, rfl⟩
  rw [← hw1]
  have hb1 : Below w.heap.size w w1 := by rw [hw1]; exact below_box _ _
  obtain ⟨b, hb⟩ : ∃ b, b = w.heap.size := ⟨_, rfl⟩
  have c0 : C7 w1 b 0 (.int .i64 0) (.string ByteArray.empty) (.int .i64 0) (.int .i64 0) (.int .i64 0) (.int .i64 0) (.bool false) := by rw [hw1, hb]; constructor <;> simp [go_sem]
  rw [← hb]
  have HB := Lib.hid hb1
  clear hw1 hb1
  obtain ⟨x0, x1, x2, x3, x4, x5, x6⟩ := c0.at0
  have hq := run_eq_src Trk.black Trk.black w1
  simp only [Trk.black] at hq
  clear c0 hb
  go_wp2_with fail
  all_goals go_ret
  all_goals exact ⟨rfl, HB.out⟩
set_option maxRecDepth 100000 in
set_option maxHeartbeats 8000000 in
theorem vsource_any (k : Int) (c d : UInt8) (an ad sn sd : Int) (sm : Bool) (w : World) (hk : k = 1 ∨ k = 2) (c0 : 97 ≤ (c.toNat : Int)) (c1 : (c.toNat : Int) ≤ 122) (d0 : 48 ≤ (d.toNat : Int)) (d1 : (d.toNat : Int) ≤ 57)
    (a0 : 1 ≤ ad) (a1 : ad ≤ 65536) (a2 : an.natAbs.gcd ad.toNat = 1) (a3 : -1099511627776 * ad ≤ an) (a4 : an ≤ 1099511627776 * ad)
    (s0 : 1 ≤ sd) (s1 : sd ≤ 65536) (s2 : sn.natAbs.gcd sd.toNat = 1) (s3 : -1024 * sd ≤ sn) (s4 : sn ≤ 1024 * sd) (hl : ad / (ad.toNat.gcd sd.toNat : Int) * sd ≤ 65536) :
    Calls Tryz.prog 134 #[.agg #[.int .i64 k, .string ⟨#[c, d]⟩, .int .i64 an, .int .i64 ad, .int .i64 sn, .int .i64 sd, .bool sm]] w fun e w' => e = .returned (.bool true) ∧ Below w.heap.size w w' := by
  have HN := Lib.hid (fun w => name_ok c d w c0 c1 d0 d1)
  have HA := Lib.hid (fun w => bounded_at an ad w a0 a1 a2 a3 a4)
  have HS := Lib.hid (fun w => bounded_sp sn sd w s0 s1 s2 s3 s4)
  obtain ⟨g, hg⟩ : ∃ g : Nat, g = ad.toNat.gcd sd.toNat := ⟨_, rfl⟩
  have hg0 : 1 ≤ g := by rw [hg]; exact Nat.gcd_pos_of_pos_left _ (by omega)
  have HD := Lib.hid (show ∀ w, Calls Tryz.prog 158 #[.int .i64 ad, .int .i64 sd] w fun e w' => e = .returned (.int .i64 (g : Int)) ∧ ∃ m, w' = w.drewN m from fun w => by
    have h := divisor_any ad.toNat sd.toNat w (by omega) (by omega)
    rw [← hg, Int.toNat_of_nonneg (by omega), Int.toNat_of_nonneg (by omega)] at h
    exact h)
  rw [← hg] at hl
  obtain ⟨q, hq⟩ : ∃ q, q = ad / (g : Int) := ⟨_, rfl⟩
  have hq0 : 0 ≤ q := by rw [hq]; exact Int.ediv_nonneg (by omega) (by omega)
  have hq1 : q ≤ 65536 := by rw [hq]; exact Int.le_trans (Int.ediv_le_self _ (by omega)) a1
  rw [← hq] at hl
  have hq2 := Lib.hid hq
  clear hq
  have hb0 : 0 ≤ q * sd := Int.mul_nonneg hq0 (by omega)
  have hne := run_eq_src ⟨k, ⟨#[c, d]⟩, an, ad, sn, sd, sm⟩ Trk.black
  rw [decide_eq_false (by intro e; have := congrArg Trk.Src.kind e; simp only [Trk.black] at this; omega)] at hne
  have HNE := Lib.hid hne
  clear hne hg a2 a3 a4 s2 s3 s4 c0 c1 d0 d1
  go_enter Tryz.func134, Tryz.ntmps134
  go_upto_region 1 with fail
  obtain ⟨w1, hw1⟩ : ∃ x, x = w.alloc (.cells #[.int .i64 k, .string ⟨#[c, d]⟩, .int .i64 an, .int .i64 ad, .int .i64 sn, .int .i64 sd, .bool sm] 46) := ⟨_, rfl⟩
  rw [← hw1]
  have hb1 : Below w.heap.size w w1 := by rw [hw1]; exact below_box _ _
  obtain ⟨b, hb⟩ : ∃ b, b = w.heap.size := ⟨_, rfl⟩
  have c0 : C7 w1 b 0 (.int .i64 k) (.string ⟨#[c, d]⟩) (.int .i64 an) (.int .i64 ad) (.int .i64 sn) (.int .i64 sd) (.bool sm) := by rw [hw1, hb]; constructor <;> simp [go_sem]
  rw [← hb]
  have HB := Lib.hid hb1
  have HC := Lib.hid c0
  clear hw1 hb1
  obtain ⟨x0, x1, x2, x3, x4, x5, x6⟩ := c0.at0
  have hq := HNE.out w1
  simp only [Trk.black] at hq
  clear c0 hb
  have hdv : Int.tdiv ad (g : Int) = q := by rw [hq2.out]; exact Int.tdiv_eq_ediv_of_nonneg (by omega)
  have hgz : ¬ (g : Int) = 0 := by omega
  clear hq2
  rcases hk with rfl | rfl
  · go_upto_region 5 with (go_at_call 114; refine (HN.out _).mono ?_; rintro e w' ⟨rfl, rfl⟩)
    clear x0 x1 x2 x3 x4 x5 x6 hq HNE HN
    refine Plan.wp_region_plan (fun w' => C7 w' b 0 (.int .i64 1) (.string ⟨#[c, d]⟩) (.int .i64 an) (.int .i64 ad) (.int .i64 sn) (.int .i64 sd) (.bool sm)) (([0, 1].map (·, true)) ++ (([2].map (·, false)) ++ (([3, 4, 5].map (·, true)) ++ (([6].map (·, false)) ++ (([7, 8, 9, 10, 11, 12, 13, 14, 15, 16, 17, 20, 21, 22].map (·, true)) ++ (([18].map (·, false)) ++ ([19, 23, 24, 25, 26].map (·, true)))))))) (by kernel_rfl) (by kernel_rfl) (by kernel_rfl) (HC.out.below (Below.refl _ _).drew) ?_
    refine' Plan.plan_seg _ [0, 1] (([2].map (·, false)) ++ (([3, 4, 5].map (·, true)) ++ (([6].map (·, false)) ++ (([7, 8, 9, 10, 11, 12, 13, 14, 15, 16, 17, 20, 21, 22].map (·, true)) ++ (([18].map (·, false)) ++ ([19, 23, 24, 25, 26].map (·, true))))))) (by kernel_rfl) (by kernel_rfl) rfl (by exact HC.out.below (Below.refl _ _).drew) (fun wx hS => ?_) ?_
    rotate_left
    · obtain ⟨x0, x1, x2, x3, x4, x5, x6⟩ := hS.at0
      clear hS
      go_light
      iterate 2 (apply Plan.seg_pick; rfl; intro K hK; go_wp)
      exact Plan.seg_nil
    obtain ⟨w2, hw2⟩ : ∃ x, x = w1.drew := ⟨_, rfl⟩
    rw [← hw2]
    have hb : Below w1.heap.size w1 w2 := by rw [hw2]; exact (Below.refl _ _).drew
    replace HC := Lib.hid (HC.out.below hb)
    replace HB := Lib.hid (HB.out.trans (hb.mono HB.out.size))
    clear hb hw2
    refine Plan.plan_of_effect rfl (fun K hK => ?_)
    go_wp2_with fail
    refine (HA.out w2).mono ?_
    rintro e w3 ⟨rfl, hb⟩
    replace HC := Lib.hid (HC.out.below hb)
    replace HB := Lib.hid (HB.out.trans (hb.mono HB.out.size))
    clear hb
    go_wp2_with fail
    refine ⟨HC.out, ?_⟩
    refine' Plan.plan_seg _ [3, 4, 5] (([6].map (·, false)) ++ (([7, 8, 9, 10, 11, 12, 13, 14, 15, 16, 17, 20, 21, 22].map (·, true)) ++ (([18].map (·, false)) ++ ([19, 23, 24, 25, 26].map (·, true))))) (by kernel_rfl) (by kernel_rfl) rfl (by exact HC.out) (fun wx hS => ?_) ?_
    rotate_left
    · obtain ⟨x0, x1, x2, x3, x4, x5, x6⟩ := hS.at0
      clear hS
      go_light
      iterate 3 (apply Plan.seg_pick; rfl; intro K hK; go_wp)
      exact Plan.seg_nil
    refine Plan.plan_of_effect rfl (fun K hK => ?_)
    go_wp2_with fail
    refine (HS.out w3).mono ?_
    rintro e w4 ⟨rfl, hb⟩
    replace HC := Lib.hid (HC.out.below hb)
    replace HB := Lib.hid (HB.out.trans (hb.mono HB.out.size))
    clear hb
    go_wp2_with fail
    refine ⟨HC.out, ?_⟩
    refine' Plan.plan_seg _ [7, 8, 9, 10, 11, 12, 13, 14, 15, 16, 17, 20, 21, 22] (([18].map (·, false)) ++ ([19, 23, 24, 25, 26].map (·, true))) (by kernel_rfl) (by kernel_rfl) rfl (by exact HC.out) (fun wx hS => ?_) ?_
    rotate_left
    · obtain ⟨x0, x1, x2, x3, x4, x5, x6⟩ := hS.at0
      clear hS
      go_light
      iterate 14 (apply Plan.seg_pick; rfl; intro K hK; go_wp)
      exact Plan.seg_nil
    refine Plan.plan_of_effect rfl (fun K hK => ?_)
    go_wp2_with fail
    refine (HD.out w4).mono ?_
    rintro e w5 ⟨rfl, m, hm⟩
    have hb : Below w4.heap.size w4 w5 := by rw [hm]; exact below_drewN (Below.refl _ _) _
    clear hm
    replace HC := Lib.hid (HC.out.below hb)
    replace HB := Lib.hid (HB.out.trans (hb.mono HB.out.size))
    clear hb
    go_wp2_with fail
    refine ⟨HC.out, ?_⟩
    refine' Plan.plan_seg _ [19, 23, 24, 25, 26] [] (by kernel_rfl) (by kernel_rfl) rfl (by exact HC.out) (fun wx hS => ?_) ?_
    rotate_left
    · obtain ⟨x0, x1, x2, x3, x4, x5, x6⟩ := hS.at0
      clear hS
      go_light
      iterate 5 (apply Plan.seg_pick; rfl; intro K hK; go_wp)
      exact Plan.seg_nil
    refine Plan.plan_done ?_
    go_wp2_with fail
    go_ret
    exact ⟨ret_bool (by first | rfl | (simp; done) | (simp; omega)), HB.out⟩
  · go_upto_region 5 with (go_at_call 114; refine (HN.out _).mono ?_; rintro e w' ⟨rfl, rfl⟩)
    clear x0 x1 x2 x3 x4 x5 x6 hq HNE HN
    refine Plan.wp_region_plan (fun w' => C7 w' b 0 (.int .i64 2) (.string ⟨#[c, d]⟩) (.int .i64 an) (.int .i64 ad) (.int .i64 sn) (.int .i64 sd) (.bool sm)) (([0, 1].map (·, true)) ++ (([2].map (·, false)) ++ (([3, 4, 5].map (·, true)) ++ (([6].map (·, false)) ++ (([7, 8, 9, 10, 11, 12, 13, 14, 15, 16, 17, 20, 21, 22].map (·, true)) ++ (([18].map (·, false)) ++ ([19, 23, 24, 25, 26].map (·, true)))))))) (by kernel_rfl) (by kernel_rfl) (by kernel_rfl) (HC.out.below (Below.refl _ _).drew) ?_
    refine' Plan.plan_seg _ [0, 1] (([2].map (·, false)) ++ (([3, 4, 5].map (·, true)) ++ (([6].map (·, false)) ++ (([7, 8, 9, 10, 11, 12, 13, 14, 15, 16, 17, 20, 21, 22].map (·, true)) ++ (([18].map (·, false)) ++ ([19, 23, 24, 25, 26].map (·, true))))))) (by kernel_rfl) (by kernel_rfl) rfl (by exact HC.out.below (Below.refl _ _).drew) (fun wx hS => ?_) ?_
    rotate_left
    · obtain ⟨x0, x1, x2, x3, x4, x5, x6⟩ := hS.at0
      clear hS
      go_light
      iterate 2 (apply Plan.seg_pick; rfl; intro K hK; go_wp)
      exact Plan.seg_nil
    obtain ⟨w2, hw2⟩ : ∃ x, x = w1.drew := ⟨_, rfl⟩
    rw [← hw2]
    have hb : Below w1.heap.size w1 w2 := by rw [hw2]; exact (Below.refl _ _).drew
    replace HC := Lib.hid (HC.out.below hb)
    replace HB := Lib.hid (HB.out.trans (hb.mono HB.out.size))
    clear hb hw2
    refine Plan.plan_of_effect rfl (fun K hK => ?_)
    go_wp2_with fail
    refine (HA.out w2).mono ?_
    rintro e w3 ⟨rfl, hb⟩
    replace HC := Lib.hid (HC.out.below hb)
    replace HB := Lib.hid (HB.out.trans (hb.mono HB.out.size))
    clear hb
    go_wp2_with fail
    refine ⟨HC.out, ?_⟩
    refine' Plan.plan_seg _ [3, 4, 5] (([6].map (·, false)) ++ (([7, 8, 9, 10, 11, 12, 13, 14, 15, 16, 17, 20, 21, 22].map (·, true)) ++ (([18].map (·, false)) ++ ([19, 23, 24, 25, 26].map (·, true))))) (by kernel_rfl) (by kernel_rfl) rfl (by exact HC.out) (fun wx hS => ?_) ?_
    rotate_left
    · obtain ⟨x0, x1, x2, x3, x4, x5, x6⟩ := hS.at0
      clear hS
      go_light
      iterate 3 (apply Plan.seg_pick; rfl; intro K hK; go_wp)
      exact Plan.seg_nil
    refine Plan.plan_of_effect rfl (fun K hK => ?_)
    go_wp2_with fail
    refine (HS.out w3).mono ?_
    rintro e w4 ⟨rfl, hb⟩
    replace HC := Lib.hid (HC.out.below hb)
    replace HB := Lib.hid (HB.out.trans (hb.mono HB.out.size))
    clear hb
    go_wp2_with fail
    refine ⟨HC.out, ?_⟩
    refine' Plan.plan_seg _ [7, 8, 9, 10, 11, 12, 13, 14, 15, 16, 17, 20, 21, 22] (([18].map (·, false)) ++ ([19, 23, 24, 25, 26].map (·, true))) (by kernel_rfl) (by kernel_rfl) rfl (by exact HC.out) (fun wx hS => ?_) ?_
    rotate_left
    · obtain ⟨x0, x1, x2, x3, x4, x5, x6⟩ := hS.at0
      clear hS
      go_light
      iterate 14 (apply Plan.seg_pick; rfl; intro K hK; go_wp)
      exact Plan.seg_nil
    refine Plan.plan_of_effect rfl (fun K hK => ?_)
    go_wp2_with fail
    refine (HD.out w4).mono ?_
    rintro e w5 ⟨rfl, m, hm⟩
    have hb : Below w4.heap.size w4 w5 := by rw [hm]; exact below_drewN (Below.refl _ _) _
    clear hm
    replace HC := Lib.hid (HC.out.below hb)
    replace HB := Lib.hid (HB.out.trans (hb.mono HB.out.size))
    clear hb
    go_wp2_with fail
    refine ⟨HC.out, ?_⟩
    refine' Plan.plan_seg _ [19, 23, 24, 25, 26] [] (by kernel_rfl) (by kernel_rfl) rfl (by exact HC.out) (fun wx hS => ?_) ?_
    rotate_left
    · obtain ⟨x0, x1, x2, x3, x4, x5, x6⟩ := hS.at0
      clear hS
      go_light
      iterate 5 (apply Plan.seg_pick; rfl; intro K hK; go_wp)
      exact Plan.seg_nil
    refine Plan.plan_done ?_
    go_wp2_with fail
    go_ret
    exact ⟨ret_bool (by first | rfl | (simp; done) | (simp; omega)), HB.out⟩
end Go.Proofs.YtfoohocgdcgbcaaGreat

/- validChannels of none; validLine of two bytes. -/
namespace Go.Proofs.YtfoohocgdcgbcaaGreat
open Go.RowKit
set_option linter.unusedVariables false
set_option linter.unusedSimpArgs false
set_option maxRecDepth 100000 in
set_option maxHeartbeats 4000000 in
theorem channels_nil (w : World) : Calls Tryz.prog 133 #[.slice none 0 0] w fun e w' => e = .returned (.bool true) ∧ w = w' := by
  go_enter Tryz.func133, Tryz.ntmps133
  go_wp2_with fail
  go_loop [10] (fun i => i = .int .i64 0) (fun _ => 0)
  case atStart => rfl
  case round =>
    subst hrel
    go_wp2_with fail
    go_ret
    exact ⟨rfl, rfl⟩
set_option maxRecDepth 100000 in
set_option maxHeartbeats 4000000 in
theorem line_ok (c d : UInt8) (w : World) (c0 : 32 ≤ (c.toNat : Int)) (c1 : (c.toNat : Int) ≤ 126) (d0 : 32 ≤ (d.toNat : Int)) (d1 : (d.toNat : Int) ≤ 126) :
    Calls Tryz.prog 135 #[.string ⟨#[c, d]⟩] w fun e w' => e = .returned (.bool true) ∧ w = w' := by
  have key0 : ∀ h, ((⟨#[c, d]⟩ : ByteArray)[0]'h) = c := fun h => rfl
  have key1 : ∀ h, ((⟨#[c, d]⟩ : ByteArray)[1]'h) = d := fun h => rfl
  have K0 := Lib.hid key0
  have K1 := Lib.hid key1
  clear key0 key1
  go_enter Tryz.func135, Tryz.ntmps135
  go_wp2_with fail
  go_loop [14] (fun i => i = .int .i64 0 ∨ i = .int .i64 1 ∨ i = .int .i64 2) (fun i => 2 - (intOf i).toNat)
  case atStart => exact .inl rfl
  case round =>
    rcases hrel with rfl | rfl | rfl
    · go_wp2_with fail
      all_goals
        have key0 := K0.out
        simp only [key0] at *
        first
        | (exfalso; omega)
        | exact ⟨by simp, by simp [intOf]⟩
    · go_wp2_with fail
      all_goals
        have key1 := K1.out
        simp only [key1] at *
        first
        | (exfalso; omega)
        | exact ⟨by simp, by simp [intOf]⟩
    · go_wp2_with fail
      go_ret
      exact ⟨rfl, rfl⟩
end Go.Proofs.YtfoohocgdcgbcaaGreat

/- validLine of a line whose bytes are all seen. -/
namespace Go.Proofs.YtfoohocgdcgbcaaGreat
open Go.RowKit
set_option linter.unusedVariables false
set_option linter.unusedSimpArgs false
set_option maxRecDepth 100000 in
set_option maxHeartbeats 4000000 in
theorem line_any (s : ByteArray) (w : World) (h1 : 1 ≤ s.size) (h2 : s.size ≤ 64) (h : ∀ i (hi : i < s.size), 32 ≤ (s[i].toNat : Int) ∧ (s[i].toNat : Int) ≤ 126) :
    Calls Tryz.prog 135 #[.string s] w fun e w' => e = .returned (.bool true) ∧ w = w' := by
  have H := Lib.hid h
  clear h
  go_enter Tryz.func135, Tryz.ntmps135
  go_wp2_with fail
  go_loop [14] (fun i => ∃ k : Nat, k ≤ s.size ∧ i = .int .i64 (k : Int)) (fun i => s.size - (intOf i).toNat)
  case atStart => exact ⟨0, Nat.zero_le _, rfl⟩
  case round =>
    obtain ⟨k, hk, rfl⟩ := hrel
    by_cases hlt : k < s.size
    · have hlt' : (k : Int) < (s.size : Int) := by omega
      obtain ⟨b0, b1⟩ := H.out k hlt
      go_wp2_with fail
      all_goals first
        | (exfalso; omega)
        | exact ⟨⟨k + 1, by omega, by simp⟩, by simp [intOf]; omega⟩
        | skip
    · have : k = s.size := by omega
      subst this
      go_wp2_with fail
      go_ret
      exact ⟨rfl, rfl⟩
end Go.Proofs.YtfoohocgdcgbcaaGreat

/- The contract of the tape's Next: a number below the limit; the tape's place moves on. -/
namespace Go.Proofs.YtfoohocgdcgbcaaGreat
open Go.RowKit
set_option linter.unusedVariables false

theorem only_store {w w' : World} {g : Nat} (h : w.grownBy w' (some g)) (o : Nat) (u : Value) : w.grownBy (w'.setCell ⟨g, o, none⟩ u) (some g) :=
  ⟨h.os, h.tape, h.output, by rw [World.size_setCell]; exact h.size, fun k hk hne => by
    rw [Below.heap_setCell _ _ _ _ (fun e => hne (by rw [e]))]; exact h.block k hk hne⟩
theorem only_refl (w : World) (g : Nat) : w.grownBy w (some g) := World.grownBy.refl w _
theorem only_cell {w w' : World} {g b o : Nat} {v : Value} (h : w.grownBy w' (some g)) (hc : w.cell? ⟨b, o, none⟩ = some v) (hne : b ≠ g) : w'.cell? ⟨b, o, none⟩ = some v :=
  h.cell hc (by simpa using hne)
theorem only_frozen {w w' : World} {g b o : Nat} (h : w.grownBy w' (some g)) (hb : b < w.heap.size) (hf : w.frozen? ⟨b, o, none⟩ = false) (hne : b ≠ g) : w'.frozen? ⟨b, o, none⟩ = false :=
  (World.frozen?_of_block (h.block b hb (by simpa using hne))).trans hf
theorem only_below {w w' : World} {g B : Nat} (h : w.grownBy w' (some g)) (hB : B ≤ g) (hs : B ≤ w.heap.size) : Below B w w' := (Below.refl _ _).grown h hs (fun k hk => by cases hk; exact hB)
/-- Block p holds a tape at place k: its list reads in the blocks below B. -/
def TP (w : World) (B p k : Nat) : Prop := B ≤ p ∧ p < w.heap.size ∧ ∃ ao n c, w.cell? ⟨p, 0, none⟩ = some (.slice ao n c) ∧ w.cell? ⟨p, 1, none⟩ = some (.int .i64 (k : Int)) ∧ w.frozen? ⟨p, 1, none⟩ = false ∧ n ≤ c ∧ n ≤ 9223372036854775807 ∧
  ∀ i, i < n → ∃ b o x, ao = some ⟨b, o, none⟩ ∧ b < B ∧ w.cell? ⟨b, o + i, none⟩ = some (.int .i64 x)

theorem only_drew {w w' : World} {r : Option Nat} (h : w.grownBy w' r) : w.grownBy w'.drew r := ⟨h.os, h.tape, h.output, h.size, h.block⟩

theorem tmod_bd (v n : Int) (h : 1 ≤ n) : -n < v.tmod n ∧ v.tmod n < n := by
  rcases Int.le_total 0 v with h0 | h0
  · rw [Int.tmod_eq_emod_of_nonneg h0]
    have := Int.emod_nonneg v (show n ≠ 0 by omega)
    have := Int.emod_lt_of_pos v (show 0 < n by omega)
    omega
  · have e : v.tmod n = -((-v).tmod n) := by rw [Int.neg_tmod]; omega
    rw [e, Int.tmod_eq_emod_of_nonneg (show 0 ≤ -v by omega)]
    have := Int.emod_nonneg (-v) (show n ≠ 0 by omega)
    have := Int.emod_lt_of_pos (-v) (show 0 < n by omega)
    omega

def NextPost (w : World) (B p k : Nat) (n : Int) (e : Ending) (w' : World) : Prop := ∃ r : Int, e = .returned (.int .i64 r) ∧ 0 ≤ r ∧ r < n ∧ TP w' B p (k + 1) ∧ w.grownBy w' (some p)

theorem next_post {w w' : World} {B p k : Nat} {n v r : Int} (hr : r = (v.tmod n + n) % n) (hn : 1 ≤ n) (ht : TP w B p k) (hg : w.grownBy w' (some p)) (h1 : w'.cell? ⟨p, 1, none⟩ = some (.int .i64 ((k : Int) + 1))) (h0 : w'.cell? ⟨p, 0, none⟩ = w.cell? ⟨p, 0, none⟩) (hf : w'.frozen? ⟨p, 1, none⟩ = false) :
    NextPost w B p k n (.returned (.int .i64 r)) w' := by
  subst hr
  refine ⟨_, rfl, Int.emod_nonneg _ (by omega), Int.emod_lt_of_pos _ (by omega), ?_, hg⟩
  obtain ⟨hB, hs, ao, m, c, c0, _, _, hm, hm2, hx⟩ := ht
  refine ⟨hB, Nat.lt_of_lt_of_le hs hg.size, ao, m, c, h0.trans c0, h1, hf, hm, hm2, fun i hi => ?_⟩
  obtain ⟨b, o, x, e, hb, hc⟩ := hx i hi
  exact ⟨b, o, x, e, hb, only_cell hg hc (by omega)⟩

set_option maxRecDepth 100000 in
set_option maxHeartbeats 1000000 in
theorem next_in (B p k m c : Nat) (b o : Nat) (x : Int) (n : Int) (w : World) (ht : TP w B p k) (hk : k < 1000000) (h1 : 1 ≤ n) (h2 : n ≤ 1000000) (hm : m ≤ 9223372036854775807) (hmc : m ≤ c)
    (c0 : w.cell? ⟨p, 0, none⟩ = some (.slice (some ⟨b, o, none⟩) m c)) (c1 : w.cell? ⟨p, 1, none⟩ = some (.int .i64 (k : Int))) (hf : w.frozen? ⟨p, 1, none⟩ = false) (hlt : k < m) (hx : w.cell? ⟨b, o + k, none⟩ = some (.int .i64 x)) :
    Calls Tryz.prog 39 #[.pointer (some ⟨p, 0, none⟩), .int .i64 n] w (NextPost w B p k n) := by
  have HT := Lib.hid ht
  clear ht
  have t1 := tmod_bd x n h1
  have e1 := IntWalk.i64_in (x.tmod n + n) (by omega)
  have e2 : 0 ≤ x.tmod n + n := by omega
  go_enter Tryz.func39, Tryz.ntmps39
  go_wp2_with fail
  refine Plan.wp_region_plan (fun w' => w'.cell? ⟨p, 0, none⟩ = some (.slice (some ⟨b, o, none⟩) m c) ∧ w'.cell? ⟨p, 1, none⟩ = some (.int .i64 (k : Int))) (([0, 1, 2, 3, 4, 5, 6, 7, 8, 9].map (·, true))) (by kernel_rfl) (by kernel_rfl) (by kernel_rfl) ⟨c0, c1⟩ ?_
  refine' Plan.plan_seg _ [0, 1, 2, 3, 4, 5, 6, 7, 8, 9] ([]) (by kernel_rfl) (by kernel_rfl) rfl (by exact ⟨c0, c1⟩) (fun wx hS => ?_) ?_
  rotate_left
  · obtain ⟨s0, s1⟩ := hS
    go_light
    iterate 10 (apply Plan.seg_pick; rfl; intro K hK; go_wp)
    exact Plan.seg_nil
  refine Plan.plan_done ?_
  go_wp2_with fail
  refine Plan.wp_region_plan (fun w' => w'.cell? ⟨p, 0, none⟩ = some (.slice (some ⟨b, o, none⟩) m c) ∧ w'.cell? ⟨p, 1, none⟩ = some (.int .i64 (k : Int)) ∧ w'.cell? ⟨b, o + k, none⟩ = some (.int .i64 x)) (([0, 1, 2, 3, 4, 5, 6, 7, 8, 9, 10].map (·, true))) (by kernel_rfl) (by kernel_rfl) (by kernel_rfl) ⟨c0, c1, hx⟩ ?_
  refine' Plan.plan_seg _ [0, 1, 2, 3, 4, 5, 6, 7, 8, 9, 10] ([]) (by kernel_rfl) (by kernel_rfl) rfl (by exact ⟨c0, c1, hx⟩) (fun wx hS => ?_) ?_
  rotate_left
  · obtain ⟨s0, s1, s2⟩ := hS
    go_light
    iterate 11 (apply Plan.seg_pick; rfl; intro K hK; go_wp)
    exact Plan.seg_nil
  refine Plan.plan_done ?_
  go_wp2_with fail
  go_ret
  refine next_post (v := x) ?_ h1 HT.out ?_ ?_ ?_ ?_
  · rfl
  · exact only_drew (only_drew (only_store (only_refl _ _) _ _))
  · simp [go_sem, c1, World.cell?_drew]
  · simp [go_sem, c0, World.cell?_drew]
  · simp [go_sem, hf]

set_option maxRecDepth 100000 in
set_option maxHeartbeats 1000000 in
theorem next_out (B p k m c : Nat) (ao : Option Addr) (n : Int) (w : World) (ht : TP w B p k) (hk : k < 1000000) (h1 : 1 ≤ n) (h2 : n ≤ 1000000) (hm : m ≤ 9223372036854775807) (hmc : m ≤ c)
    (c0 : w.cell? ⟨p, 0, none⟩ = some (.slice ao m c)) (c1 : w.cell? ⟨p, 1, none⟩ = some (.int .i64 (k : Int))) (hf : w.frozen? ⟨p, 1, none⟩ = false) (hlt : m ≤ k) :
    Calls Tryz.prog 39 #[.pointer (some ⟨p, 0, none⟩), .int .i64 n] w (NextPost w B p k n) := by
  have HT := Lib.hid ht
  clear ht
  have q0 := Int.emod_nonneg ((k : Int) * 7 + 3) (show n ≠ 0 by omega)
  have q1 := Int.emod_lt_of_pos ((k : Int) * 7 + 3) (show 0 < n by omega)
  go_enter Tryz.func39, Tryz.ntmps39
  go_wp2_with fail
  refine Plan.wp_region_plan (fun w' => w'.cell? ⟨p, 0, none⟩ = some (.slice ao m c) ∧ w'.cell? ⟨p, 1, none⟩ = some (.int .i64 (k : Int))) (([0, 1, 2, 3, 4, 5, 6, 7, 8, 9].map (·, true))) (by kernel_rfl) (by kernel_rfl) (by kernel_rfl) ⟨c0, c1⟩ ?_
  refine' Plan.plan_seg _ [0, 1, 2, 3, 4, 5, 6, 7, 8, 9] ([]) (by kernel_rfl) (by kernel_rfl) rfl (by exact ⟨c0, c1⟩) (fun wx hS => ?_) ?_
  rotate_left
  · obtain ⟨s0, s1⟩ := hS
    go_light
    iterate 10 (apply Plan.seg_pick; rfl; intro K hK; go_wp)
    exact Plan.seg_nil
  refine Plan.plan_done ?_
  go_wp2_with fail
  go_ret
  refine next_post (v := ((k : Int) * 7 + 3)) ?_ h1 HT.out ?_ ?_ ?_ ?_
  · rw [Int.tmod_eq_emod_of_nonneg (show (0 : Int) ≤ (k : Int) * 7 + 3 by omega)]
  · exact only_drew (only_store (only_refl _ _) _ _)
  · simp [go_sem, c1, World.cell?_drew]
  · simp [go_sem, c0, World.cell?_drew]
  · simp [go_sem, hf]


theorem next_any (B p k : Nat) (n : Int) (w : World) (ht : TP w B p k) (hk : k < 1000000) (h1 : 1 ≤ n) (h2 : n ≤ 1000000) :
    Calls Tryz.prog 39 #[.pointer (some ⟨p, 0, none⟩), .int .i64 n] w (NextPost w B p k n) := by
  have ht' := ht
  obtain ⟨hB, hs, ao, m, c, c0, c1, hf, hmc, hm, hx⟩ := ht
  by_cases hlt : k < m
  · obtain ⟨b, o, x, rfl, hb, hc⟩ := hx k hlt
    exact next_in B p k m c b o x n w ht' hk h1 h2 hm hmc c0 c1 hf hlt hc
  · exact next_out B p k m c ao n w ht' hk h1 h2 hm hmc c0 c1 hf (by omega)

end Go.Proofs.YtfoohocgdcgbcaaGreat

/- The tape's names. -/
namespace Go.Proofs.YtfoohocgdcgbcaaGreat
open Go.RowKit
set_option linter.unusedVariables false
set_option linter.unusedSimpArgs false
set_option maxRecDepth 100000 in
set_option maxHeartbeats 4000000 in
theorem tname_any (a : UInt8) (k : Nat) (w : World) (hk : k < 10) :
    Calls Tryz.prog 118 #[.string ⟨#[a]⟩, .int .i64 (k : Int)] w fun e w' => e = .returned (.string ⟨#[a, UInt8.ofNat (48 + k)]⟩) ∧ w = w' := by
  obtain rfl | rfl | rfl | rfl | rfl | rfl | rfl | rfl | rfl | rfl : k = 0 ∨ k = 1 ∨ k = 2 ∨ k = 3 ∨ k = 4 ∨ k = 5 ∨ k = 6 ∨ k = 7 ∨ k = 8 ∨ k = 9 := by omega
  all_goals
    go_enter Tryz.func118, Tryz.ntmps118
    go_wp2_with fail
    go_ret
    refine ⟨?_, rfl⟩
    rfl
end Go.Proofs.YtfoohocgdcgbcaaGreat

/- Sources on the lattice of 1/6006, clips of the tape's kind, and what an edit makes of them. -/
namespace Go.Trk
set_option maxRecDepth 100000
set_option linter.unusedVariables false

/-- Position and speed in parts of 1/6006. -/
def spos (s : Src) : Int := s.an * (6006 / s.ad)
def svel (s : Src) : Int := s.sn * (6006 / s.sd)
structure Lat (s : Src) : Prop where
  g : Good s
  a : s.ad ∣ 6006
  s : s.sd ∣ 6006
theorem mk_lat {n d : Int} (h0 : 1 ≤ d) (hd : d ∣ 6006) : mkRat n d.toNat = ((n * (6006 / d) : Int) : Rat) / 6006 := by
  obtain ⟨k, hk⟩ := hd
  have hk0 : 0 < k := by
    rcases Int.lt_or_le 0 k with h | h
    · exact h
    · have := Int.mul_nonpos_of_nonneg_of_nonpos (show 0 ≤ d by omega) h; omega
  have e : (6006 : Int) / d = k := by rw [hk]; exact Int.mul_ediv_cancel_left _ (by omega)
  rw [e]
  obtain ⟨D, rfl⟩ := Int.eq_ofNat_of_zero_le (show 0 ≤ d by omega)
  obtain ⟨K, rfl⟩ := Int.eq_ofNat_of_zero_le (show 0 ≤ k by omega)
  have hN : D * K = 6006 := by exact_mod_cast hk.symm
  have h1 : mkRat n D = mkRat (n * K) (D * K) := (Rat.mkRat_mul_right (by omega)).symm
  rw [Int.toNat_natCast, h1, hN, Rat.mkRat_eq_div]
  rfl
theorem lat_mk {r : Rat} {k : Int} (h : r = (k : Rat) / 6006) : ((r.den : Nat) : Int) ∣ 6006 ∧ r.num * (6006 / (r.den : Int)) = k := by
  have h2 : r = mkRat k 6006 := by rw [h, Rat.mkRat_eq_div]; rfl
  have e1 : r.num = k / ((Nat.gcd 6006 k.natAbs : Nat) : Int) := by rw [h2, Rat.num_mkRat]; simp
  have e2 : r.den = 6006 / Nat.gcd 6006 k.natAbs := by rw [h2, Rat.den_mkRat]; simp
  have hg : Nat.gcd 6006 k.natAbs ∣ 6006 := Nat.gcd_dvd_left _ _
  have hk : ((Nat.gcd 6006 k.natAbs : Nat) : Int) ∣ k := Int.ofNat_dvd_left.2 (Nat.gcd_dvd_right _ _)
  obtain ⟨g, eg⟩ : ∃ g, g = Nat.gcd 6006 k.natAbs := ⟨_, rfl⟩
  rw [← eg] at e1 e2 hg hk
  have hg0 : 0 < g := Nat.pos_of_dvd_of_pos hg (by decide)
  have hd : r.den * g = 6006 := by rw [e2]; exact Nat.div_mul_cancel hg
  have hdi : (6006 : Int) / (r.den : Int) = (g : Int) := by
    have : (6006 : Int) = (r.den : Int) * (g : Int) := by exact_mod_cast hd.symm
    rw [this]
    exact Int.mul_ediv_cancel_left _ (by have := r.den_pos; omega)
  refine ⟨⟨(g : Int), by exact_mod_cast hd.symm⟩, ?_⟩
  rw [hdi, e1]
  exact Int.ediv_mul_cancel hk
theorem moved_lat {s : Src} (h : Lat s) (n : Int) : Lat (moved s n) ∧ spos (moved s n) = spos s + n * svel s ∧ svel (moved s n) = svel s := by
  have ea : s.at' = ((spos s : Int) : Rat) / 6006 := mk_lat h.g.a0 h.a
  have es : s.sp = ((svel s : Int) : Rat) / 6006 := mk_lat h.g.s0 h.s
  have er : s.at' + n * s.sp = ((spos s + n * svel s : Int) : Rat) / 6006 := by
    rw [ea, es, Rat.intCast_add, Rat.intCast_mul, Rat.div_def, Rat.div_def, Rat.div_def, Rat.add_mul, Rat.mul_assoc]
  obtain ⟨h1, h2⟩ := lat_mk er
  have em : moved s n = { s with an := (s.at' + n * s.sp).num, ad := (s.at' + n * s.sp).den } := by unfold moved; rw [if_neg h.g.ne]
  refine ⟨⟨moved_good h.g n, ?_, ?_⟩, ?_, ?_⟩
  · rw [em]; exact h1
  · rw [em]; exact h.s
  · rw [em]; exact h2
  · rw [em]; rfl
end Go.Trk

/- Clips of the tape's kind: what they may hold, and that pieces and joined clips are of this kind too. -/
namespace Go.Trk
set_option linter.unusedVariables false

def okName (s : ByteArray) : Prop :=
  (∃ c d : UInt8, s = ⟨#[c, d]⟩ ∧ 97 ≤ (c.toNat : Int) ∧ (c.toNat : Int) ≤ 122 ∧ 48 ≤ (d.toNat : Int) ∧ (d.toNat : Int) ≤ 57) ∨ ∃ c : UInt8, s = ⟨#[c]⟩ ∧ 97 ≤ (c.toNat : Int) ∧ (c.toNat : Int) ≤ 122
def okLine (s : ByteArray) : Prop := 1 ≤ s.size ∧ s.size ≤ 64 ∧ ∀ i (hi : i < s.size), 32 ≤ (s[i].toNat : Int) ∧ (s[i].toNat : Int) ≤ 126
structure SrcP (L n : Int) (s : Src) : Prop where
  lat : Lat s
  k : s.kind = 1 ∨ s.kind = 2
  nm : okName s.name
  v0 : -18018 ≤ svel s
  v1 : svel s ≤ 18018
  p0 : -L ≤ spos s
  p1 : spos s ≤ L
  q0 : -L ≤ spos s + n * svel s
  q1 : spos s + n * svel s ≤ L
def SrcIn (L n : Int) (s : Src) : Prop := s = black ∨ SrcP L n s
def KindOK (c : Clip) : Prop :=
  (c.kind = 0 ∧ c.a = black ∧ c.b = black ∧ c.off = 0 ∧ c.total = 0 ∧ c.param = 0 ∧ c.text = ByteArray.empty) ∨
  (c.kind = 1 ∧ c.b = black ∧ c.off = 0 ∧ c.total = 0 ∧ c.param = 0 ∧ c.text = ByteArray.empty) ∨
  (c.kind = 2 ∧ c.param = 0 ∧ c.text = ByteArray.empty) ∨
  (c.kind = 3 ∧ 0 ≤ c.param ∧ c.param ≤ 3 ∧ c.text = ByteArray.empty) ∨
  (c.kind = 4 ∧ c.off = 0 ∧ c.total = 0 ∧ 0 ≤ c.param ∧ c.param ≤ 255 ∧ c.text = ByteArray.empty) ∨
  (c.kind = 5 ∧ c.b = black ∧ c.off = 0 ∧ c.total = 0 ∧ c.param = 0 ∧ okLine c.text)
/-- Everything of a valid clip but its length and its share. -/
structure Cls (L : Int) (c : Clip) : Prop where
  a : SrcIn L c.len c.a
  b : SrcIn L c.len c.b
  ch : c.chan = []
  gn : c.gain = 0
  kd : KindOK c
/-- Length and share are valid. -/
def okLen (c : Clip) : Prop := 1 ≤ c.len ∧ c.len ≤ 2147483647 ∧ (shares c.kind = true → 0 ≤ c.off ∧ c.len ≤ c.total ∧ c.total ≤ 2147483647 ∧ c.off ≤ c.total - c.len)
instance (c : Clip) : Decidable (okLen c) := inferInstanceAs (Decidable (_ ∧ _ ∧ (_ → _)))
structure VC (L : Int) (x : Clip) : Prop where
  c : Cls L x
  l : okLen x
theorem SrcIn.okay {L n : Int} {s : Src} (h : SrcIn L n s) : Okay s := h.imp id fun h => h.lat.g
theorem SrcIn.mono {L M n : Int} {s : Src} (h : SrcIn L n s) (hl : L ≤ M) : SrcIn M n s := h.imp id fun h =>
  ⟨h.lat, h.k, h.nm, h.v0, h.v1, by have := h.p0; omega, by have := h.p1; omega, by have := h.q0; omega, by have := h.q1; omega⟩
theorem Cls.mono {L M : Int} {c : Clip} (h : Cls L c) (hl : L ≤ M) : Cls M c := ⟨h.a.mono hl, h.b.mono hl, h.ch, h.gn, h.kd⟩
theorem VC.mono {L M : Int} {c : Clip} (h : VC L c) (hl : L ≤ M) : VC M c := ⟨h.c.mono hl, h.l⟩
/-- Between two bounded ends everything is bounded. -/
theorem between {p v n L f : Int} (p0 : -L ≤ p) (p1 : p ≤ L) (q0 : -L ≤ p + n * v) (q1 : p + n * v ≤ L) (h0 : 0 ≤ f) (h1 : f ≤ n) : -L ≤ p + f * v ∧ p + f * v ≤ L := by
  rcases Int.le_total 0 v with hv | hv
  · have a := Int.mul_nonneg h0 hv
    have b := Int.mul_le_mul_of_nonneg_right h1 hv
    omega
  · have a : f * v ≤ 0 := Int.mul_nonpos_of_nonneg_of_nonpos h0 hv
    have b := Int.mul_le_mul_of_nonpos_right h1 hv
    omega
theorem SrcIn.piece {L n f m : Int} {s : Src} (h : SrcIn L n s) (hf : 0 ≤ f) (hm : 0 ≤ m) (hn : f + m ≤ n) : SrcIn L m (moved s f) := by
  rcases h with rfl | h
  · rw [moved_black]; exact .inl rfl
  · obtain ⟨h1, h2, h3⟩ := moved_lat h.lat f
    have b1 := between h.p0 h.p1 h.q0 h.q1 hf (show f ≤ n by omega)
    have b2 := between h.p0 h.p1 h.q0 h.q1 (show 0 ≤ f + m by omega) hn
    have e : spos s + f * svel s + m * svel s = spos s + (f + m) * svel s := by rw [Int.add_mul]; omega
    refine .inr ⟨h1, by rw [moved_kind]; exact h.k, ?_, by rw [h3]; exact h.v0, by rw [h3]; exact h.v1, by rw [h2]; exact b1.1, by rw [h2]; exact b1.2, by rw [h2, h3, e]; exact b2.1, by rw [h2, h3, e]; exact b2.2⟩
    unfold moved
    split
    · exact h.nm
    · exact h.nm
theorem KindOK.shift {c : Clip} (h : KindOK c) (f m : Int) : KindOK (withLen (shift c f) m) := by
  have hs : ∀ k, (k = 0 ∨ k = 1 ∨ k = 4 ∨ k = 5) → shares k = false := by
    rintro k (rfl | rfl | rfl | rfl) <;> rfl
  unfold KindOK withLen Trk.shift at *
  simp only
  rcases h with ⟨h0, h1, h2, h3, h4, h5, h6⟩ | ⟨h0, h2, h3, h4, h5, h6⟩ | ⟨h0, h5, h6⟩ | ⟨h0, h5, h6⟩ | ⟨h0, h3, h4, h5, h6⟩ | ⟨h0, h2, h3, h4, h5, h6⟩
  · rw [h1, h2, moved_black, hs _ (.inl h0)]
    exact .inl ⟨h0, rfl, rfl, h3, h4, h5, h6⟩
  · rw [h2, moved_black, hs _ (.inr (.inl h0))]
    exact .inr (.inl ⟨h0, rfl, h3, h4, h5, h6⟩)
  · exact .inr (.inr (.inl ⟨h0, h5, h6⟩))
  · exact .inr (.inr (.inr (.inl ⟨h0, h5, h6⟩)))
  · rw [hs _ (.inr (.inr (.inl h0)))]
    exact .inr (.inr (.inr (.inr (.inl ⟨h0, h3, h4, h5, h6⟩))))
  · rw [h2, moved_black, hs _ (.inr (.inr (.inr h0)))]
    exact .inr (.inr (.inr (.inr (.inr ⟨h0, rfl, h3, h4, h5, h6⟩))))
theorem VC.good {L : Int} {c : Clip} (h : VC L c) : GoodC c := by
  refine ⟨h.l.1, h.c.a.okay, h.c.b.okay, fun hk => ?_⟩
  rcases h.c.kd with ⟨h0, h1, h2, h3, h4, h5, h6⟩ | ⟨h0, _⟩ | ⟨h0, _⟩ | ⟨h0, _⟩ | ⟨h0, _⟩ | ⟨h0, _⟩
  · exact Clip.ext2 rfl hk h1 h2 h3 h4 h5 h6 h.c.gn h.c.ch
  all_goals rw [hk] at h0; exact absurd h0 (by decide)
theorem VC.piece {L f m : Int} {c : Clip} (h : VC L c) (hf : 0 ≤ f) (hm : 1 ≤ m) (hn : f + m ≤ c.len) : VC L (withLen (shift c f) m) := by
  refine ⟨⟨h.c.a.piece hf (show 0 ≤ m by omega) hn, h.c.b.piece hf (show 0 ≤ m by omega) hn, h.c.ch, h.c.gn, h.c.kd.shift f m⟩, ?_⟩
  obtain ⟨l0, l1, l2⟩ := h.l
  refine ⟨hm, show m ≤ 2147483647 by omega, fun hs => ?_⟩
  have hs' : shares c.kind = true := hs
  obtain ⟨o0, o1, o2, o3⟩ := l2 hs'
  have e : (withLen (shift c f) m).off = c.off + f := by show (if shares c.kind = true then c.off + f else c.off) = _; rw [if_pos hs']
  rw [e]
  show 0 ≤ c.off + f ∧ m ≤ c.total ∧ c.total ≤ 2147483647 ∧ c.off + f ≤ c.total - m
  omega
theorem gap_vc {L n : Int} (h0 : 1 ≤ n) (h1 : n ≤ 2147483647) : VC L (gap n) :=
  ⟨⟨.inl rfl, .inl rfl, rfl, rfl, .inl ⟨rfl, rfl, rfl, rfl, rfl, rfl, rfl⟩⟩, h0, h1, fun h => by simp [gap, shares] at h⟩
/-- Two clips of which the second goes on make one. -/
theorem VC.join {L : Int} {p c : Clip} (h : VC L p) (k : VC L c) (hc : cont c p) (hl : p.len + c.len ≤ 2147483647) : VC L (withLen p (p.len + c.len)) := by
  have l0 := h.l.1
  have k0 := k.l.1
  have e : c = withLen (shift p p.len) c.len := by
    unfold cont at hc
    rw [one_zero k.good] at hc
    have h2 := congrArg (fun x => withLen x c.len) hc
    exact h2
  have ea : c.a = moved p.a p.len := by rw [e]; rfl
  have eb : c.b = moved p.b p.len := by rw [e]; rfl
  have ek : c.kind = p.kind := by rw [e]; rfl
  have et : c.total = p.total := by rw [e]; rfl
  have hs : ∀ {s t : Src}, SrcIn L p.len s → SrcIn L c.len t → t = moved s p.len → SrcIn L (p.len + c.len) s := by
    intro s t h1 h2 e
    rcases h1 with rfl | h1
    · exact .inl rfl
    · obtain ⟨m1, m2, m3⟩ := moved_lat h1.lat p.len
      rcases h2 with h2 | h2
      · rw [h2] at e
        exact absurd e.symm (moved_good h1.lat.g p.len).ne
      · rw [e] at h2
        have q0 := h2.q0
        have q1 := h2.q1
        have e2 : spos s + p.len * svel s + c.len * svel s = spos s + (p.len + c.len) * svel s := by rw [Int.add_mul]; omega
        rw [m2, m3, e2] at q0 q1
        exact .inr ⟨h1.lat, h1.k, h1.nm, h1.v0, h1.v1, h1.p0, h1.p1, q0, q1⟩
  refine ⟨⟨hs h.c.a k.c.a ea, hs h.c.b k.c.b eb, h.c.ch, h.c.gn, h.c.kd⟩, show 1 ≤ p.len + c.len by omega, hl, fun hsh => ?_⟩
  have hs' : shares p.kind = true := hsh
  obtain ⟨o0, o1, o2, o3⟩ := h.l.2.2 hs'
  obtain ⟨r0, r1, r2, r3⟩ := k.l.2.2 (by rw [ek]; exact hs')
  have eo : c.off = p.off + p.len := by rw [e]; show (if shares p.kind = true then p.off + p.len else p.off) = _; rw [if_pos hs']
  rw [eo, et] at r3
  show 0 ≤ p.off ∧ p.len + c.len ≤ p.total ∧ p.total ≤ 2147483647 ∧ p.off ≤ p.total - (p.len + c.len)
  omega
def VL (L : Int) (l : List Clip) : Prop := ∀ c ∈ l, VC L c
theorem VL.good {L : Int} {l : List Clip} (h : VL L l) : GoodL l := fun c hc => (h c hc).good
theorem VL.mono {L M : Int} {l : List Clip} (h : VL L l) (hl : L ≤ M) : VL M l := fun c hc => (h c hc).mono hl
theorem VL.nil {L : Int} : VL L [] := fun c hc => by cases hc
theorem VL.cons {L : Int} {c : Clip} {l : List Clip} (h : VC L c) (k : VL L l) : VL L (c :: l) := fun x hx => by
  rcases List.mem_cons.1 hx with rfl | hx
  · exact h
  · exact k x hx
theorem VL.append {L : Int} {l m : List Clip} (h : VL L l) (k : VL L m) : VL L (l ++ m) := fun x hx => (List.mem_append.1 hx).elim (h x) (k x)
theorem VL.tail {L : Int} {c : Clip} {l : List Clip} (h : VL L (c :: l)) : VL L l := fun x hx => h x (List.mem_cons_of_mem _ hx)
theorem VL.head {L : Int} {c : Clip} {l : List Clip} (h : VL L (c :: l)) : VC L c := h c List.mem_cons_self
theorem VL.sub {L : Int} {l m : List Clip} (h : VL L l) (k : ∀ c ∈ m, c ∈ l) : VL L m := fun x hx => h x (k x hx)
theorem len_le_total {l : List Clip} (h : GoodL l) {c : Clip} (hc : c ∈ l) : c.len ≤ total l := by
  obtain ⟨p, q, rfl⟩ := List.append_of_mem hc
  rw [total_append, total_cons]
  have := total_nonneg (l := p) (fun x hx => h x (List.mem_append_left _ hx))
  have := total_nonneg (l := q) (fun x hx => h x (List.mem_append_right _ (List.mem_cons_of_mem _ hx)))
  omega
theorem mem_drop_last {α : Type} {l : List α} {x : α} (h : x ∈ l.dropLast) : x ∈ l := (List.dropLast_sublist l).subset h
theorem snoc_vl {L : Int} {out : List Clip} {c : Clip} (h : VL L out) (k : VC L c) (ht : total out + c.len ≤ 2147483647) : VL L (snoc out c) := by
  unfold snoc
  cases ho : out.getLast? with
  | none => exact VL.cons k VL.nil
  | some p =>
    simp only
    have hs := getLast_split ho
    have hp : p ∈ out := by rw [hs]; simp
    split
    · rename_i hc
      refine VL.append (h.sub fun x hx => mem_drop_last hx) (VL.cons ((h p hp).join k hc ?_) VL.nil)
      have := len_le_total h.good hp
      omega
    · exact h.append (VL.cons k VL.nil)
theorem pk_vl {L : Int} {l : List Clip} (h : VL L l) (ht : total l ≤ 2147483647) : VL L (pk l) := by
  revert h ht
  refine list_snoc (P := fun l => VL L l → total l ≤ 2147483647 → VL L (pk l)) (fun _ _ => VL.nil) (fun l c ih h ht => ?_) l
  have hl : VL L l := h.sub fun x hx => List.mem_append_left _ hx
  have hc : VC L c := h c (by simp)
  have c1 := hc.l.1
  have et : total (l ++ [c]) = total l + c.len := by rw [total_append]; show _ + (c.len + 0) = _; omega
  rw [et] at ht
  rw [pk_snoc]
  refine snoc_vl (ih hl (by omega)) hc ?_
  rw [(pk_of hl.good).s.t]
  exact ht
theorem dropGap_vl {L : Int} {l : List Clip} (h : VL L l) : VL L (dropGap l) := by
  unfold dropGap
  split
  · exact h
  · split
    · exact h.sub fun x hx => mem_drop_last hx
    · exact h
theorem nf_vl {L : Int} {l : List Clip} (h : VL L l) (ht : total l ≤ 2147483647) : VL L (nf l) := dropGap_vl (pk_vl h ht)
theorem cutRaw_vl {L : Int} : ∀ {l : List Clip} {f n : Int}, VL L l → 0 ≤ f → n ≤ 2147483647 → VL L (cutRaw l f n)
  | [], f, n, _, hf, hn => by
    unfold cutRaw
    split
    · exact VL.cons (gap_vc (by omega) hn) VL.nil
    · exact VL.nil
  | c :: l, f, n, h, hf, hn => by
    unfold cutRaw
    have c1 := h.head.l.1
    split
    · exact VL.nil
    · split
      · exact cutRaw_vl h.tail (by omega) hn
      · refine VL.cons (h.head.piece hf (by omega) (by omega)) (cutRaw_vl h.tail (by omega) (by omega))
theorem cut_vl {L : Int} {l : List Clip} {a b : Int} (h : VL L l) (ha : 0 ≤ a) (hb : a ≤ b) (hn : b - a ≤ 2147483647) : VL L (cut l a b) :=
  pk_vl (cutRaw_vl h ha hn) (by rw [(cutRaw_spec h.good ha (by omega)).2.1]; exact hn)
/-- The numbers of a source in small bounds. -/
theorem SrcP.nums {L n : Int} {s : Src} (h : SrcP L n s) : 1 ≤ s.ad ∧ s.ad ≤ 6006 ∧ 1 ≤ s.sd ∧ s.sd ≤ 6006 ∧ -L ≤ s.an ∧ s.an ≤ L ∧ -3 * s.sd ≤ s.sn ∧ s.sn ≤ 3 * s.sd := by
  have a0 := h.lat.g.a0
  have s0 := h.lat.g.s0
  have a1 : s.ad ≤ 6006 := Int.le_of_dvd (by decide) h.lat.a
  have s1 : s.sd ≤ 6006 := Int.le_of_dvd (by decide) h.lat.s
  have hq : ∀ {d : Int}, 1 ≤ d → d ∣ 6006 → 1 ≤ 6006 / d ∧ 6006 / d * d = 6006 := fun {d} h0 h1 => ⟨by
    have := Int.ediv_mul_cancel h1
    rcases Int.lt_or_le (6006 / d) 1 with h | h
    · have := Int.mul_nonpos_of_nonpos_of_nonneg (show 6006 / d ≤ 0 by omega) (show 0 ≤ d by omega); omega
    · exact h, Int.ediv_mul_cancel h1⟩
  obtain ⟨x0, x1⟩ := hq a0 h.lat.a
  obtain ⟨y0, y1⟩ := hq s0 h.lat.s
  have p0 := h.p0
  have p1 := h.p1
  have v0 := h.v0
  have v1 := h.v1
  unfold spos at p0 p1
  unfold svel at v0 v1
  obtain ⟨x, hx⟩ : ∃ x, x = 6006 / s.ad := ⟨_, rfl⟩
  obtain ⟨y, hy⟩ : ∃ y, y = 6006 / s.sd := ⟨_, rfl⟩
  rw [← hx] at x0 x1 p0 p1
  rw [← hy] at y0 y1 v0 v1
  have hL : 0 ≤ L := by omega
  refine ⟨a0, a1, s0, s1, ?_, ?_, ?_, ?_⟩
  · rcases Int.lt_or_le s.an 0 with h | h
    · have := Int.mul_le_mul_of_nonpos_left (show s.an ≤ 0 by omega) x0; omega
    · omega
  · rcases Int.lt_or_le s.an 0 with h | h
    · omega
    · have := Int.mul_le_mul_of_nonneg_left x0 h; omega
  · refine Int.le_of_mul_le_mul_right (a := y) ?_ (by omega)
    rw [Int.mul_assoc, Int.mul_comm s.sd, y1]; omega
  · refine Int.le_of_mul_le_mul_right (a := y) ?_ (by omega)
    rw [Int.mul_assoc, Int.mul_comm s.sd, y1]; omega
theorem SrcP.far {L n M : Int} {s : Src} (h : SrcP L n s) (hL : L ≤ M) : -(M * s.ad) ≤ s.an * 6006 ∧ s.an * 6006 ≤ M * s.ad := by
  have a0 := h.lat.g.a0
  have p0 := h.p0
  have p1 := h.p1
  unfold spos at p0 p1
  have e := Int.ediv_mul_cancel h.lat.a
  obtain ⟨x, hx⟩ : ∃ x, x = 6006 / s.ad := ⟨_, rfl⟩
  rw [← hx] at p0 p1 e
  have e2 : s.an * 6006 = s.an * x * s.ad := by rw [Int.mul_assoc, e]
  rw [e2]
  constructor
  · have := Int.mul_le_mul_of_nonneg_right (show -M ≤ s.an * x by omega) (show 0 ≤ s.ad by omega)
    rw [Int.neg_mul] at this
    exact this
  · exact Int.mul_le_mul_of_nonneg_right (show s.an * x ≤ M by omega) (show 0 ≤ s.ad by omega)
end Go.Trk

/- validSource of every source of the tape's kind. -/
namespace Go.Proofs.YtfoohocgdcgbcaaGreat
open Go.RowKit
set_option linter.unusedVariables false
set_option linter.unusedSimpArgs false
set_option maxRecDepth 100000 in
set_option maxHeartbeats 4000000 in
theorem name_one (c : UInt8) (w : World) (c0 : 97 ≤ (c.toNat : Int)) (c1 : (c.toNat : Int) ≤ 122) :
    Calls Tryz.prog 114 #[.string ⟨#[c]⟩] w fun e w' => e = .returned (.bool true) ∧ w = w' := by
  have key0 : ∀ h, ((⟨#[c]⟩ : ByteArray)[0]'h) = c := fun h => rfl
  have K0 := Lib.hid key0
  clear key0
  go_enter Tryz.func114, Tryz.ntmps114
  go_wp2_with fail
  go_loop [15] (fun i => i = .int .i64 0 ∨ i = .int .i64 1) (fun i => 1 - (intOf i).toNat)
  case atStart => exact .inl rfl
  case round =>
    rcases hrel with rfl | rfl
    · go_wp2_with fail
      all_goals
        have key0 := K0.out
        simp only [key0] at *
        first
        | (exfalso; omega)
        | exact ⟨by simp, by simp [intOf]⟩
    · go_wp2_with fail
      go_ret
      exact ⟨rfl, rfl⟩
theorem name_any (nm : ByteArray) (w : World) (h : Trk.okName nm) : Calls Tryz.prog 114 #[.string nm] w fun e w' => e = .returned (.bool true) ∧ w = w' := by
  rcases h with ⟨c, d, rfl, h1, h2, h3, h4⟩ | ⟨c, rfl, h1, h2⟩
  · exact name_ok c d w h1 h2 h3 h4
  · exact name_one c w h1 h2
set_option maxRecDepth 100000 in
set_option maxHeartbeats 8000000 in
theorem vsource_gen (k : Int) (nm : ByteArray) (an ad sn sd : Int) (sm : Bool) (w : World) (hk : k = 1 ∨ k = 2) (hn : ∀ w, Calls Tryz.prog 114 #[.string nm] w fun e w' => e = .returned (.bool true) ∧ w = w')
    (a0 : 1 ≤ ad) (a1 : ad ≤ 65536) (a2 : an.natAbs.gcd ad.toNat = 1) (a3 : -1099511627776 * ad ≤ an) (a4 : an ≤ 1099511627776 * ad)
    (s0 : 1 ≤ sd) (s1 : sd ≤ 65536) (s2 : sn.natAbs.gcd sd.toNat = 1) (s3 : -1024 * sd ≤ sn) (s4 : sn ≤ 1024 * sd) (hl : ad / (ad.toNat.gcd sd.toNat : Int) * sd ≤ 65536) :
    Calls Tryz.prog 134 #[.agg #[.int .i64 k, .string nm, .int .i64 an, .int .i64 ad, .int .i64 sn, .int .i64 sd, .bool sm]] w fun e w' => e = .returned (.bool true) ∧ Below w.heap.size w w' := by
  have HN := Lib.hid hn
  clear hn
  have HA := Lib.hid (fun w => bounded_at an ad w a0 a1 a2 a3 a4)
  have HS := Lib.hid (fun w => bounded_sp sn sd w s0 s1 s2 s3 s4)
  obtain ⟨g, hg⟩ : ∃ g : Nat, g = ad.toNat.gcd sd.toNat := ⟨_, rfl⟩
  have hg0 : 1 ≤ g := by rw [hg]; exact Nat.gcd_pos_of_pos_left _ (by omega)
  have HD := Lib.hid (show ∀ w, Calls Tryz.prog 158 #[.int .i64 ad, .int .i64 sd] w fun e w' => e = .returned (.int .i64 (g : Int)) ∧ ∃ m, w' = w.drewN m from fun w => by
    have h := divisor_any ad.toNat sd.toNat w (by omega) (by omega)
    rw [← hg, Int.toNat_of_nonneg (by omega), Int.toNat_of_nonneg (by omega)] at h
    exact h)
  rw [← hg] at hl
  obtain ⟨q, hq⟩ : ∃ q, q = ad / (g : Int) := ⟨_, rfl⟩
  have hq0 : 0 ≤ q := by rw [hq]; exact Int.ediv_nonneg (by omega) (by omega)
  have hq1 : q ≤ 65536 := by rw [hq]; exact Int.le_trans (Int.ediv_le_self _ (by omega)) a1
  rw [← hq] at hl
  have hq2 := Lib.hid hq
  clear hq
  have hb0 : 0 ≤ q * sd := Int.mul_nonneg hq0 (by omega)
  have hne := run_eq_src ⟨k, nm, an, ad, sn, sd, sm⟩ Trk.black
  rw [decide_eq_false (by intro e; have := congrArg Trk.Src.kind e; simp only [Trk.black] at this; omega)] at hne
  have HNE := Lib.hid hne
  clear hne hg a2 a3 a4 s2 s3 s4
  go_enter Tryz.func134, Tryz.ntmps134
  go_upto_region 1 with fail
  obtain ⟨w1, hw1⟩ : ∃ x, x = w.alloc (.cells #[.int .i64 k, .string nm, .int .i64 an, .int .i64 ad, .int .i64 sn, .int .i64 sd, .bool sm] 46) := ⟨_, rfl⟩
  rw [← hw1]
  have hb1 : Below w.heap.size w w1 := by rw [hw1]; exact below_box _ _
  obtain ⟨b, hb⟩ : ∃ b, b = w.heap.size := ⟨_, rfl⟩
  have c0 : C7 w1 b 0 (.int .i64 k) (.string nm) (.int .i64 an) (.int .i64 ad) (.int .i64 sn) (.int .i64 sd) (.bool sm) := by rw [hw1, hb]; constructor <;> simp [go_sem]
  rw [← hb]
  have HB := Lib.hid hb1
  have HC := Lib.hid c0
  clear hw1 hb1
  obtain ⟨x0, x1, x2, x3, x4, x5, x6⟩ := c0.at0
  have hq := HNE.out w1
  simp only [Trk.black] at hq
  clear c0 hb
  have hdv : Int.tdiv ad (g : Int) = q := by rw [hq2.out]; exact Int.tdiv_eq_ediv_of_nonneg (by omega)
  have hgz : ¬ (g : Int) = 0 := by omega
  clear hq2
  rcases hk with rfl | rfl
  · go_upto_region 5 with (go_at_call 114; refine (HN.out _).mono ?_; rintro e w' ⟨rfl, rfl⟩)
    clear x0 x1 x2 x3 x4 x5 x6 hq HNE HN
    refine Plan.wp_region_plan (fun w' => C7 w' b 0 (.int .i64 1) (.string nm) (.int .i64 an) (.int .i64 ad) (.int .i64 sn) (.int .i64 sd) (.bool sm)) (([0, 1].map (·, true)) ++ (([2].map (·, false)) ++ (([3, 4, 5].map (·, true)) ++ (([6].map (·, false)) ++ (([7, 8, 9, 10, 11, 12, 13, 14, 15, 16, 17, 20, 21, 22].map (·, true)) ++ (([18].map (·, false)) ++ ([19, 23, 24, 25, 26].map (·, true)))))))) (by kernel_rfl) (by kernel_rfl) (by kernel_rfl) (HC.out.below (Below.refl _ _).drew) ?_
    refine' Plan.plan_seg _ [0, 1] (([2].map (·, false)) ++ (([3, 4, 5].map (·, true)) ++ (([6].map (·, false)) ++ (([7, 8, 9, 10, 11, 12, 13, 14, 15, 16, 17, 20, 21, 22].map (·, true)) ++ (([18].map (·, false)) ++ ([19, 23, 24, 25, 26].map (·, true))))))) (by kernel_rfl) (by kernel_rfl) rfl (by exact HC.out.below (Below.refl _ _).drew) (fun wx hS => ?_) ?_
    rotate_left
    · obtain ⟨x0, x1, x2, x3, x4, x5, x6⟩ := hS.at0
      clear hS
      go_light
      iterate 2 (apply Plan.seg_pick; rfl; intro K hK; go_wp)
      exact Plan.seg_nil
    obtain ⟨w2, hw2⟩ : ∃ x, x = w1.drew := ⟨_, rfl⟩
    rw [← hw2]
    have hb : Below w1.heap.size w1 w2 := by rw [hw2]; exact (Below.refl _ _).drew
    replace HC := Lib.hid (HC.out.below hb)
    replace HB := Lib.hid (HB.out.trans (hb.mono HB.out.size))
    clear hb hw2
    refine Plan.plan_of_effect rfl (fun K hK => ?_)
    go_wp2_with fail
    refine (HA.out w2).mono ?_
    rintro e w3 ⟨rfl, hb⟩
    replace HC := Lib.hid (HC.out.below hb)
    replace HB := Lib.hid (HB.out.trans (hb.mono HB.out.size))
    clear hb
    go_wp2_with fail
    refine ⟨HC.out, ?_⟩
    refine' Plan.plan_seg _ [3, 4, 5] (([6].map (·, false)) ++ (([7, 8, 9, 10, 11, 12, 13, 14, 15, 16, 17, 20, 21, 22].map (·, true)) ++ (([18].map (·, false)) ++ ([19, 23, 24, 25, 26].map (·, true))))) (by kernel_rfl) (by kernel_rfl) rfl (by exact HC.out) (fun wx hS => ?_) ?_
    rotate_left
    · obtain ⟨x0, x1, x2, x3, x4, x5, x6⟩ := hS.at0
      clear hS
      go_light
      iterate 3 (apply Plan.seg_pick; rfl; intro K hK; go_wp)
      exact Plan.seg_nil
    refine Plan.plan_of_effect rfl (fun K hK => ?_)
    go_wp2_with fail
    refine (HS.out w3).mono ?_
    rintro e w4 ⟨rfl, hb⟩
    replace HC := Lib.hid (HC.out.below hb)
    replace HB := Lib.hid (HB.out.trans (hb.mono HB.out.size))
    clear hb
    go_wp2_with fail
    refine ⟨HC.out, ?_⟩
    refine' Plan.plan_seg _ [7, 8, 9, 10, 11, 12, 13, 14, 15, 16, 17, 20, 21, 22] (([18].map (·, false)) ++ ([19, 23, 24, 25, 26].map (·, true))) (by kernel_rfl) (by kernel_rfl) rfl (by exact HC.out) (fun wx hS => ?_) ?_
    rotate_left
    · obtain ⟨x0, x1, x2, x3, x4, x5, x6⟩ := hS.at0
      clear hS
      go_light
      iterate 14 (apply Plan.seg_pick; rfl; intro K hK; go_wp)
      exact Plan.seg_nil
    refine Plan.plan_of_effect rfl (fun K hK => ?_)
    go_wp2_with fail
    refine (HD.out w4).mono ?_
    rintro e w5 ⟨rfl, m, hm⟩
    have hb : Below w4.heap.size w4 w5 := by rw [hm]; exact below_drewN (Below.refl _ _) _
    clear hm
    replace HC := Lib.hid (HC.out.below hb)
    replace HB := Lib.hid (HB.out.trans (hb.mono HB.out.size))
    clear hb
    go_wp2_with fail
    refine ⟨HC.out, ?_⟩
    refine' Plan.plan_seg _ [19, 23, 24, 25, 26] [] (by kernel_rfl) (by kernel_rfl) rfl (by exact HC.out) (fun wx hS => ?_) ?_
    rotate_left
    · obtain ⟨x0, x1, x2, x3, x4, x5, x6⟩ := hS.at0
      clear hS
      go_light
      iterate 5 (apply Plan.seg_pick; rfl; intro K hK; go_wp)
      exact Plan.seg_nil
    refine Plan.plan_done ?_
    go_wp2_with fail
    go_ret
    exact ⟨ret_bool (by first | rfl | (simp; done) | (simp; omega)), HB.out⟩
  · go_upto_region 5 with (go_at_call 114; refine (HN.out _).mono ?_; rintro e w' ⟨rfl, rfl⟩)
    clear x0 x1 x2 x3 x4 x5 x6 hq HNE HN
    refine Plan.wp_region_plan (fun w' => C7 w' b 0 (.int .i64 2) (.string nm) (.int .i64 an) (.int .i64 ad) (.int .i64 sn) (.int .i64 sd) (.bool sm)) (([0, 1].map (·, true)) ++ (([2].map (·, false)) ++ (([3, 4, 5].map (·, true)) ++ (([6].map (·, false)) ++ (([7, 8, 9, 10, 11, 12, 13, 14, 15, 16, 17, 20, 21, 22].map (·, true)) ++ (([18].map (·, false)) ++ ([19, 23, 24, 25, 26].map (·, true)))))))) (by kernel_rfl) (by kernel_rfl) (by kernel_rfl) (HC.out.below (Below.refl _ _).drew) ?_
    refine' Plan.plan_seg _ [0, 1] (([2].map (·, false)) ++ (([3, 4, 5].map (·, true)) ++ (([6].map (·, false)) ++ (([7, 8, 9, 10, 11, 12, 13, 14, 15, 16, 17, 20, 21, 22].map (·, true)) ++ (([18].map (·, false)) ++ ([19, 23, 24, 25, 26].map (·, true))))))) (by kernel_rfl) (by kernel_rfl) rfl (by exact HC.out.below (Below.refl _ _).drew) (fun wx hS => ?_) ?_
    rotate_left
    · obtain ⟨x0, x1, x2, x3, x4, x5, x6⟩ := hS.at0
      clear hS
      go_light
      iterate 2 (apply Plan.seg_pick; rfl; intro K hK; go_wp)
      exact Plan.seg_nil
    obtain ⟨w2, hw2⟩ : ∃ x, x = w1.drew := ⟨_, rfl⟩
    rw [← hw2]
    have hb : Below w1.heap.size w1 w2 := by rw [hw2]; exact (Below.refl _ _).drew
    replace HC := Lib.hid (HC.out.below hb)
    replace HB := Lib.hid (HB.out.trans (hb.mono HB.out.size))
    clear hb hw2
    refine Plan.plan_of_effect rfl (fun K hK => ?_)
    go_wp2_with fail
    refine (HA.out w2).mono ?_
    rintro e w3 ⟨rfl, hb⟩
    replace HC := Lib.hid (HC.out.below hb)
    replace HB := Lib.hid (HB.out.trans (hb.mono HB.out.size))
    clear hb
    go_wp2_with fail
    refine ⟨HC.out, ?_⟩
    refine' Plan.plan_seg _ [3, 4, 5] (([6].map (·, false)) ++ (([7, 8, 9, 10, 11, 12, 13, 14, 15, 16, 17, 20, 21, 22].map (·, true)) ++ (([18].map (·, false)) ++ ([19, 23, 24, 25, 26].map (·, true))))) (by kernel_rfl) (by kernel_rfl) rfl (by exact HC.out) (fun wx hS => ?_) ?_
    rotate_left
    · obtain ⟨x0, x1, x2, x3, x4, x5, x6⟩ := hS.at0
      clear hS
      go_light
      iterate 3 (apply Plan.seg_pick; rfl; intro K hK; go_wp)
      exact Plan.seg_nil
    refine Plan.plan_of_effect rfl (fun K hK => ?_)
    go_wp2_with fail
    refine (HS.out w3).mono ?_
    rintro e w4 ⟨rfl, hb⟩
    replace HC := Lib.hid (HC.out.below hb)
    replace HB := Lib.hid (HB.out.trans (hb.mono HB.out.size))
    clear hb
    go_wp2_with fail
    refine ⟨HC.out, ?_⟩
    refine' Plan.plan_seg _ [7, 8, 9, 10, 11, 12, 13, 14, 15, 16, 17, 20, 21, 22] (([18].map (·, false)) ++ ([19, 23, 24, 25, 26].map (·, true))) (by kernel_rfl) (by kernel_rfl) rfl (by exact HC.out) (fun wx hS => ?_) ?_
    rotate_left
    · obtain ⟨x0, x1, x2, x3, x4, x5, x6⟩ := hS.at0
      clear hS
      go_light
      iterate 14 (apply Plan.seg_pick; rfl; intro K hK; go_wp)
      exact Plan.seg_nil
    refine Plan.plan_of_effect rfl (fun K hK => ?_)
    go_wp2_with fail
    refine (HD.out w4).mono ?_
    rintro e w5 ⟨rfl, m, hm⟩
    have hb : Below w4.heap.size w4 w5 := by rw [hm]; exact below_drewN (Below.refl _ _) _
    clear hm
    replace HC := Lib.hid (HC.out.below hb)
    replace HB := Lib.hid (HB.out.trans (hb.mono HB.out.size))
    clear hb
    go_wp2_with fail
    refine ⟨HC.out, ?_⟩
    refine' Plan.plan_seg _ [19, 23, 24, 25, 26] [] (by kernel_rfl) (by kernel_rfl) rfl (by exact HC.out) (fun wx hS => ?_) ?_
    rotate_left
    · obtain ⟨x0, x1, x2, x3, x4, x5, x6⟩ := hS.at0
      clear hS
      go_light
      iterate 5 (apply Plan.seg_pick; rfl; intro K hK; go_wp)
      exact Plan.seg_nil
    refine Plan.plan_done ?_
    go_wp2_with fail
    go_ret
    exact ⟨ret_bool (by first | rfl | (simp; done) | (simp; omega)), HB.out⟩
theorem lcm_le {a b : Nat} (ha : a ∣ 6006) (hb : b ∣ 6006) (h : 0 < a) : a / a.gcd b * b ≤ 6006 := by
  have h1 : a.lcm b ∣ 6006 := Nat.lcm_dvd ha hb
  have h2 : a / a.gcd b * b = a.lcm b := by
    rw [Nat.lcm, Nat.mul_comm a b, Nat.mul_div_assoc _ (Nat.gcd_dvd_left a b), Nat.mul_comm]
  rw [h2]
  exact Nat.le_of_dvd (by decide) h1
theorem vsrc_any {L n : Int} (s : Trk.Src) (w : World) (h : Trk.SrcIn L n s) (hL : L ≤ 140737488355328) : Calls Tryz.prog 134 #[srcV s] w fun e w' => e = .returned (.bool true) ∧ Below w.heap.size w w' := by
  rcases h with rfl | h
  · exact vsource_black w
  · obtain ⟨a0, a1, s0, s1, n0, n1, v0, v1⟩ := h.nums
    obtain ⟨f0, f1⟩ := h.far hL
    have hl : s.ad / (s.ad.toNat.gcd s.sd.toNat : Int) * s.sd ≤ 65536 := by
      have hda : s.ad.toNat ∣ 6006 := by
        have := h.lat.a
        rw [show s.ad = ((s.ad.toNat : Nat) : Int) by omega] at this
        exact Int.natCast_dvd_natCast.1 this
      have hds : s.sd.toNat ∣ 6006 := by
        have := h.lat.s
        rw [show s.sd = ((s.sd.toNat : Nat) : Int) by omega] at this
        exact Int.natCast_dvd_natCast.1 this
      have := lcm_le hda hds (by omega)
      have e : s.ad / (s.ad.toNat.gcd s.sd.toNat : Int) * s.sd = ((s.ad.toNat / s.ad.toNat.gcd s.sd.toNat * s.sd.toNat : Nat) : Int) := by
        rw [Int.natCast_mul, Int.natCast_ediv, Int.toNat_of_nonneg (show 0 ≤ s.ad by omega), Int.toNat_of_nonneg (show 0 ≤ s.sd by omega)]
      rw [e]
      omega
    exact vsource_gen s.kind s.name s.an s.ad s.sn s.sd s.smooth w h.k (fun w => name_any _ w h.nm) a0 (by omega) h.lat.g.a1 (by omega) (by omega) s0 (by omega) h.lat.g.s1 (by omega) (by omega) hl
theorem SrcIn.oks {L n : Int} {s : Trk.Src} (h : Trk.SrcIn L n s) (hL : L ≤ 140737488355328) : OkS s := by
  rcases h with rfl | h
  · exact .inl rfl
  · obtain ⟨a0, a1, s0, s1, n0, n1, v0, v1⟩ := h.nums
    exact .inr ⟨h.lat.g, by omega, by omega, by omega, by omega⟩
theorem okC_of {L : Int} {c : Trk.Clip} (h : Trk.VC L c) (hL : L ≤ 140737488355328) (ho : c.off.natAbs ≤ 4611686018427387904) : OkC c :=
  ⟨h.good, SrcIn.oks h.c.a hL, SrcIn.oks h.c.b hL, h.c.ch, by have := h.l.2.1; omega, ho⟩
theorem off_le {L : Int} {c : Trk.Clip} (h : Trk.VC L c) : 0 ≤ c.off ∧ c.off ≤ 2147483647 ∧ 0 ≤ c.total ∧ c.total ≤ 2147483647 := by
  have hs : ∀ k, (k = 2 ∨ k = 3) → Trk.shares k = true := by rintro k (rfl | rfl) <;> rfl
  have l0 := h.l.1
  rcases h.c.kd with ⟨h0, h1, h2, h3, h4, h5, h6⟩ | ⟨h0, h2, h3, h4, h5, h6⟩ | ⟨h0, h5, h6⟩ | ⟨h0, h5, h6⟩ | ⟨h0, h3, h4, h5, h6⟩ | ⟨h0, h2, h3, h4, h5, h6⟩
  · omega
  · omega
  · have := h.l.2.2 (hs _ (.inl h0)); omega
  · have := h.l.2.2 (hs _ (.inr h0)); omega
  · omega
  · omega
theorem VC.okC {L : Int} {c : Trk.Clip} (h : Trk.VC L c) (hL : L ≤ 140737488355328) : OkC c := okC_of h hL (by have := off_le h; omega)
end Go.Proofs.YtfoohocgdcgbcaaGreat
