/- Texts of this claim joined: Y UA UB UC UD XC XA. -/
import Derived.Test.YtnnobdcbmagbaaaEv00
import Derived.Test.YtnnobdcbmagbaaaEv04
import Derived.Test.YtnnobdcbmagbaaaEv05
import Derived.Test.YtnnobdcbmagbaaaEv06
import Derived.Test.YtnnobdcbmagbaaaEv07
set_option linter.unusedVariables false
set_option linter.unusedSimpArgs false

/- The contract of cutroomlaw26.ComposeGlyphs: it answers true. -/
namespace Go.Proofs.Ytnnobdcbmagbaaa
open Go.RowKit

theorem glyph_any (c : Int) (w : World) (h0 : 0 ≤ c) (h1 : c < 256) : Calls Try.prog 28 #[.int .u8 c] w fun e w' => e = .returned (glyphV c) ∧ Below w.heap.size w w' := by
  by_cases h2 : c < 97
  · exact glyph_low c w h0 h1 h2
  · by_cases h3 : c ≤ 122
    · exact glyph_mid c w h0 h1 (by omega) h3
    · exact glyph_high c w h0 h1 (by omega) (by omega)

theorem rglyph_any (c : Int) (w : World) (h0 : 0 ≤ c) (h1 : c < 256) : Calls Try.prog 29 #[.int .u8 c] w fun e w' => e = .returned (glyphV c) ∧ Below w.heap.size w w' := by
  by_cases h2 : c < 97
  · exact rglyph_low c w h0 h1 h2
  · by_cases h3 : c ≤ 122
    · exact rglyph_mid c w h0 h1 (by omega) h3
    · exact rglyph_high c w h0 h1 (by omega) (by omega)

theorem rows_keys : ((List.range 43).all fun k => (Try.prog.keyLits 4 49 [.int .i64 (rowAt k 0), .int .i64 (rowAt k 1), .int .i64 (rowAt k 2), .int .i64 (rowAt k 3), .int .i64 (rowAt k 4)]).isSome) = true := by kernel_rfl

theorem glyphV_shape (c : Int) : ∃ r0 r1 r2 r3 r4 : Int, glyphV c = .agg #[.int .i64 r0, .int .i64 r1, .int .i64 r2, .int .i64 r3, .int .i64 r4] ∧ (0 ≤ r0 ∧ r0 ≤ 7) ∧ (0 ≤ r1 ∧ r1 ≤ 7) ∧ (0 ≤ r2 ∧ r2 ≤ 7) ∧ (0 ≤ r3 ∧ r3 ≤ 7) ∧ (0 ≤ r4 ∧ r4 ≤ 7) ∧ (Try.prog.keyLits 4 49 [.int .i64 r0, .int .i64 r1, .int .i64 r2, .int .i64 r3, .int .i64 r4]).isSome = true := by
  unfold glyphV
  cases h : glyphK c with
  | none => exact ⟨7, 7, 7, 7, 7, rfl, by omega, by omega, by omega, by omega, by omega, by kernel_rfl⟩
  | some k =>
    have hk : k < 43 := by
      unfold glyphK at h
      rw [List.find?_range_eq_some] at h
      simpa using h.2.1
    have b0 := fl_bd (6 * k + 1 + 0) (by omega)
    have b1 := fl_bd (6 * k + 1 + 1) (by omega)
    have b2 := fl_bd (6 * k + 1 + 2) (by omega)
    have b3 := fl_bd (6 * k + 1 + 3) (by omega)
    have b4 := fl_bd (6 * k + 1 + 4) (by omega)
    refine ⟨rowAt k 0, rowAt k 1, rowAt k 2, rowAt k 3, rowAt k 4, rfl, ?_, ?_, ?_, ?_, ?_, List.all_eq_true.mp rows_keys k (by simpa using hk)⟩
    all_goals unfold rowAt; omega

theorem glyphV_upper {c : Int} (h2 : 97 ≤ c) (h3 : c ≤ 122) : glyphV (c - 32) = glyphV c := by
  have e : upper (c - 32) = upper c := by unfold upper; rw [if_neg (by omega), if_pos (by omega)]
  unfold glyphV glyphK
  rw [e]

theorem eq_rows (r0 r1 r2 r3 r4 : Int) (hk : (Try.prog.keyLits 4 49 [.int .i64 r0, .int .i64 r1, .int .i64 r2, .int .i64 r3, .int .i64 r4]).isSome = true) (w : World) : (Op.equalIn 10000 49 (.agg #[.int .i64 r0, .int .i64 r1, .int .i64 r2, .int .i64 r3, .int .i64 r4]) (.agg #[.int .i64 r0, .int .i64 r1, .int .i64 r2, .int .i64 r3, .int .i64 r4])).run Try.prog w = .ok true w := by
  obtain ⟨la, hl⟩ := Option.isSome_iff_exists.mp hk
  obtain ⟨r, hr, hi⟩ := run_equalIn_deep (P := Try.prog) 9998 2 49 (by kernel_rfl) w 4 4 (.agg #[.int .i64 r0, .int .i64 r1, .int .i64 r2, .int .i64 r3, .int .i64 r4]) (.agg #[.int .i64 r0, .int .i64 r1, .int .i64 r2, .int .i64 r3, .int .i64 r4]) la la (by kernel_rfl) (by kernel_rfl) hl hl
  rw [hi.mpr rfl] at hr
  exact hr

set_option maxRecDepth 100000 in
set_option maxHeartbeats 4000000 in
theorem law_glyphs_low (c : Int) (w : World) (h0 : 0 ≤ c) (h1 : c < 256) (h2 : c < 97) : Calls Try.prog 11 #[.int .u8 c] w fun e w' => e = .returned (.bool true) ∧ Below w.heap.size w w' := by
  obtain ⟨r0, r1, r2, r3, r4, hg, ⟨x0, y0⟩, ⟨x1, y1⟩, ⟨x2, y2⟩, ⟨x3, y3⟩, ⟨x4, y4⟩, hkl⟩ := glyphV_shape c
  have heq := eq_rows r0 r1 r2 r3 r4 hkl
  clear hkl
  have HG := Lib.hid hg
  clear hg
  go_enter Try.func11, Try.ntmps11
  go_wp2_with fail
  refine (glyph_any c _ h0 h1).mono ?_
  rintro e w1 ⟨rfl, hb1⟩
  rw [HG.out]
  go_wp2_with fail
  refine wp_loop_rounds 6 ?_
  iterate 6
    rw [rounds_succ]
    go_wp2_with fail
  generalize hw2 : w1.alloc _ = w2
  have hsz : w2.heap.size = w1.heap.size + 1 := by rw [← hw2]; simp
  have c0 : w2.cell? ⟨w1.heap.size, 0, none⟩ = some (.int .i64 r0) := by rw [← hw2]; simp [go_sem]
  have c1 : w2.cell? ⟨w1.heap.size, 1, none⟩ = some (.int .i64 r1) := by rw [← hw2]; simp [go_sem]
  have c2 : w2.cell? ⟨w1.heap.size, 2, none⟩ = some (.int .i64 r2) := by rw [← hw2]; simp [go_sem]
  have c3 : w2.cell? ⟨w1.heap.size, 3, none⟩ = some (.int .i64 r3) := by rw [← hw2]; simp [go_sem]
  have c4 : w2.cell? ⟨w1.heap.size, 4, none⟩ = some (.int .i64 r4) := by rw [← hw2]; simp [go_sem]
  have hb2 : Below w1.heap.size w1 w2 := by rw [← hw2]; exact below_box _ _
  have HZ := Lib.hid hsz
  have W2 := Lib.hid (hb1.trans (hb2.mono hb1.size))
  have n1 := Lib.hid hb1.size
  clear hw2 hsz hb1 hb2
  refine Plan.wp_region_plan (fun w' => Below (w1.heap.size + 1) w2 w') (([0, 1].map (·, true)) ++ (([2].map (·, false)) ++ (([3, 4, 5, 6, 7, 8, 9, 10, 11, 12, 13, 14].map (·, true)) ++ (([15].map (·, false)) ++ (([16, 17, 18, 19].map (·, true)) ++ (([20].map (·, false)) ++ (([21, 22].map (·, true))))))))) (by kernel_rfl) (by kernel_rfl) (by kernel_rfl) (Below.refl _ _).drew ?_
  refine' Plan.plan_seg _ [0, 1] (([2].map (·, false)) ++ (([3, 4, 5, 6, 7, 8, 9, 10, 11, 12, 13, 14].map (·, true)) ++ (([15].map (·, false)) ++ (([16, 17, 18, 19].map (·, true)) ++ (([20].map (·, false)) ++ (([21, 22].map (·, true)))))))) (by kernel_rfl) (by kernel_rfl) rfl (by exact (Below.refl _ _).drew) (fun wx hS => ?_) ?_
  rotate_left
  · have k0 := (hS.cell (p := ⟨w1.heap.size, 0, none⟩) (by simp)).trans c0
    have k1 := (hS.cell (p := ⟨w1.heap.size, 1, none⟩) (by simp)).trans c1
    have k2 := (hS.cell (p := ⟨w1.heap.size, 2, none⟩) (by simp)).trans c2
    have k3 := (hS.cell (p := ⟨w1.heap.size, 3, none⟩) (by simp)).trans c3
    have k4 := (hS.cell (p := ⟨w1.heap.size, 4, none⟩) (by simp)).trans c4
    clear hS
    iterate 2 (apply Plan.seg_pick; rfl; intro K hK; go_wp)
    exact Plan.seg_nil
  refine Plan.plan_of_effect rfl (fun K hK => ?_)
  go_wp2_with fail
  refine (rglyph_any c _ h0 h1).mono ?_
  rintro e w3 ⟨rfl, hb3⟩
  rw [HG.out]
  have s3 : Below (w1.heap.size + 1) w2 w3 := (Below.refl _ _).drew.trans (hb3.mono (by have : w2.drew.heap.size = w1.heap.size + 1 := HZ.out; omega))
  have S3 := Lib.hid s3
  have m3 := s3.size
  rw [HZ.out] at m3
  clear s3 hb3
  go_wp2_with fail
  refine ⟨S3.out, ?_⟩
  refine' Plan.plan_seg _ [3, 4, 5, 6, 7, 8, 9, 10, 11, 12, 13, 14] (([15].map (·, false)) ++ (([16, 17, 18, 19].map (·, true)) ++ (([20].map (·, false)) ++ (([21, 22].map (·, true)))))) (by kernel_rfl) (by kernel_rfl) rfl (by exact S3.out) (fun wx hS => ?_) ?_
  rotate_left
  · have k0 := (hS.cell (p := ⟨w1.heap.size, 0, none⟩) (by simp)).trans c0
    have k1 := (hS.cell (p := ⟨w1.heap.size, 1, none⟩) (by simp)).trans c1
    have k2 := (hS.cell (p := ⟨w1.heap.size, 2, none⟩) (by simp)).trans c2
    have k3 := (hS.cell (p := ⟨w1.heap.size, 3, none⟩) (by simp)).trans c3
    have k4 := (hS.cell (p := ⟨w1.heap.size, 4, none⟩) (by simp)).trans c4
    clear hS
    iterate 12 (apply Plan.seg_pick; rfl; intro K hK; go_wp)
    exact Plan.seg_nil
  refine Plan.plan_of_effect rfl (fun K hK => ?_)
  go_wp2_with fail
  refine ⟨S3.out, ?_⟩
  refine' Plan.plan_seg _ [16, 17, 18, 19] (([20].map (·, false)) ++ (([21, 22].map (·, true)))) (by kernel_rfl) (by kernel_rfl) rfl (by exact S3.out) (fun wx hS => ?_) ?_
  rotate_left
  · clear hS
    iterate 4 (apply Plan.seg_pick; rfl; intro K hK; go_wp)
    exact Plan.seg_nil
  refine Plan.plan_of_effect rfl (fun K hK => ?_)
  go_wp2_with fail
  refine (awake_any _).mono ?_
  rintro e w5 ⟨rfl, hb5⟩
  have S5 := Lib.hid (S3.out.trans (hb5.mono m3))
  clear hb5
  go_wp2_with fail
  refine ⟨S5.out, ?_⟩
  refine' Plan.plan_seg _ [21, 22] ([]) (by kernel_rfl) (by kernel_rfl) rfl (by exact S5.out) (fun wx hS => ?_) ?_
  rotate_left
  · clear hS
    iterate 2 (apply Plan.seg_pick; rfl; intro K hK; go_wp)
    exact Plan.seg_nil
  refine Plan.plan_done ?_
  go_wp2_with fail
  go_ret
  exact ⟨rfl, W2.out.trans (S5.out.mono (by have := n1.out; omega))⟩

set_option maxRecDepth 100000 in
set_option maxHeartbeats 4000000 in
theorem law_glyphs_mid (c : Int) (w : World) (h0 : 0 ≤ c) (h1 : c < 256) (h2 : 97 ≤ c) (h3 : c ≤ 122) : Calls Try.prog 11 #[.int .u8 c] w fun e w' => e = .returned (.bool true) ∧ Below w.heap.size w w' := by
  obtain ⟨r0, r1, r2, r3, r4, hg, ⟨x0, y0⟩, ⟨x1, y1⟩, ⟨x2, y2⟩, ⟨x3, y3⟩, ⟨x4, y4⟩, hkl⟩ := glyphV_shape c
  have heq := eq_rows r0 r1 r2 r3 r4 hkl
  clear hkl
  have hg2 : glyphV (c - 32) = glyphV c := glyphV_upper h2 h3
  have HG2 := Lib.hid hg2
  clear hg2
  have HG := Lib.hid hg
  clear hg
  go_enter Try.func11, Try.ntmps11
  go_wp2_with fail
  refine (glyph_any c _ h0 h1).mono ?_
  rintro e w1 ⟨rfl, hb1⟩
  rw [HG.out]
  go_wp2_with fail
  refine wp_loop_rounds 6 ?_
  iterate 6
    rw [rounds_succ]
    go_wp2_with fail
  generalize hw2 : w1.alloc _ = w2
  have hsz : w2.heap.size = w1.heap.size + 1 := by rw [← hw2]; simp
  have c0 : w2.cell? ⟨w1.heap.size, 0, none⟩ = some (.int .i64 r0) := by rw [← hw2]; simp [go_sem]
  have c1 : w2.cell? ⟨w1.heap.size, 1, none⟩ = some (.int .i64 r1) := by rw [← hw2]; simp [go_sem]
  have c2 : w2.cell? ⟨w1.heap.size, 2, none⟩ = some (.int .i64 r2) := by rw [← hw2]; simp [go_sem]
  have c3 : w2.cell? ⟨w1.heap.size, 3, none⟩ = some (.int .i64 r3) := by rw [← hw2]; simp [go_sem]
  have c4 : w2.cell? ⟨w1.heap.size, 4, none⟩ = some (.int .i64 r4) := by rw [← hw2]; simp [go_sem]
  have hb2 : Below w1.heap.size w1 w2 := by rw [← hw2]; exact below_box _ _
  have HZ := Lib.hid hsz
  have W2 := Lib.hid (hb1.trans (hb2.mono hb1.size))
  have n1 := Lib.hid hb1.size
  clear hw2 hsz hb1 hb2
  refine Plan.wp_region_plan (fun w' => Below (w1.heap.size + 1) w2 w') (([0, 1].map (·, true)) ++ (([2].map (·, false)) ++ (([3, 4, 5, 6, 7, 8, 9, 10, 11, 12, 13, 14].map (·, true)) ++ (([15].map (·, false)) ++ (([16, 17, 18, 19].map (·, true)) ++ (([20].map (·, false)) ++ (([21, 22].map (·, true))))))))) (by kernel_rfl) (by kernel_rfl) (by kernel_rfl) (Below.refl _ _).drew ?_
  refine' Plan.plan_seg _ [0, 1] (([2].map (·, false)) ++ (([3, 4, 5, 6, 7, 8, 9, 10, 11, 12, 13, 14].map (·, true)) ++ (([15].map (·, false)) ++ (([16, 17, 18, 19].map (·, true)) ++ (([20].map (·, false)) ++ (([21, 22].map (·, true)))))))) (by kernel_rfl) (by kernel_rfl) rfl (by exact (Below.refl _ _).drew) (fun wx hS => ?_) ?_
  rotate_left
  · have k0 := (hS.cell (p := ⟨w1.heap.size, 0, none⟩) (by simp)).trans c0
    have k1 := (hS.cell (p := ⟨w1.heap.size, 1, none⟩) (by simp)).trans c1
    have k2 := (hS.cell (p := ⟨w1.heap.size, 2, none⟩) (by simp)).trans c2
    have k3 := (hS.cell (p := ⟨w1.heap.size, 3, none⟩) (by simp)).trans c3
    have k4 := (hS.cell (p := ⟨w1.heap.size, 4, none⟩) (by simp)).trans c4
    clear hS
    iterate 2 (apply Plan.seg_pick; rfl; intro K hK; go_wp)
    exact Plan.seg_nil
  refine Plan.plan_of_effect rfl (fun K hK => ?_)
  go_wp2_with fail
  refine (rglyph_any c _ h0 h1).mono ?_
  rintro e w3 ⟨rfl, hb3⟩
  rw [HG.out]
  have s3 : Below (w1.heap.size + 1) w2 w3 := (Below.refl _ _).drew.trans (hb3.mono (by have : w2.drew.heap.size = w1.heap.size + 1 := HZ.out; omega))
  have S3 := Lib.hid s3
  have m3 := s3.size
  rw [HZ.out] at m3
  clear s3 hb3
  go_wp2_with fail
  refine ⟨S3.out, ?_⟩
  refine' Plan.plan_seg _ [3, 4, 5, 6, 7, 8, 9, 10, 11, 12, 13, 14] (([15].map (·, false)) ++ (([16, 17, 18, 19].map (·, true)) ++ (([20].map (·, false)) ++ (([21, 22].map (·, true)))))) (by kernel_rfl) (by kernel_rfl) rfl (by exact S3.out) (fun wx hS => ?_) ?_
  rotate_left
  · have k0 := (hS.cell (p := ⟨w1.heap.size, 0, none⟩) (by simp)).trans c0
    have k1 := (hS.cell (p := ⟨w1.heap.size, 1, none⟩) (by simp)).trans c1
    have k2 := (hS.cell (p := ⟨w1.heap.size, 2, none⟩) (by simp)).trans c2
    have k3 := (hS.cell (p := ⟨w1.heap.size, 3, none⟩) (by simp)).trans c3
    have k4 := (hS.cell (p := ⟨w1.heap.size, 4, none⟩) (by simp)).trans c4
    clear hS
    iterate 12 (apply Plan.seg_pick; rfl; intro K hK; go_wp)
    exact Plan.seg_nil
  refine Plan.plan_of_effect rfl (fun K hK => ?_)
  go_wp2_with fail
  refine (glyph_any (c - 32) _ (by omega) (by omega)).mono ?_
  rintro e w4 ⟨rfl, hb4⟩
  rw [HG2.out, HG.out]
  have s4 : Below (w1.heap.size + 1) w2 w4 := S3.out.trans (hb4.mono m3)
  have S4 := Lib.hid s4
  have m4 := s4.size
  rw [HZ.out] at m4
  clear s4 hb4
  go_wp2_with fail
  refine ⟨S4.out, ?_⟩
  refine' Plan.plan_seg _ [16, 17, 18, 19] (([20].map (·, false)) ++ (([21, 22].map (·, true)))) (by kernel_rfl) (by kernel_rfl) rfl (by exact S4.out) (fun wx hS => ?_) ?_
  rotate_left
  · clear hS
    iterate 4 (apply Plan.seg_pick; rfl; intro K hK; go_wp)
    exact Plan.seg_nil
  refine Plan.plan_of_effect rfl (fun K hK => ?_)
  go_wp2_with fail
  refine (awake_any _).mono ?_
  rintro e w5 ⟨rfl, hb5⟩
  have S5 := Lib.hid (S4.out.trans (hb5.mono m4))
  clear hb5
  go_wp2_with fail
  refine ⟨S5.out, ?_⟩
  refine' Plan.plan_seg _ [21, 22] ([]) (by kernel_rfl) (by kernel_rfl) rfl (by exact S5.out) (fun wx hS => ?_) ?_
  rotate_left
  · clear hS
    iterate 2 (apply Plan.seg_pick; rfl; intro K hK; go_wp)
    exact Plan.seg_nil
  refine Plan.plan_done ?_
  go_wp2_with fail
  go_ret
  exact ⟨rfl, W2.out.trans (S5.out.mono (by have := n1.out; omega))⟩

set_option maxRecDepth 100000 in
set_option maxHeartbeats 4000000 in
theorem law_glyphs_high (c : Int) (w : World) (h0 : 0 ≤ c) (h1 : c < 256) (h2 : 97 ≤ c) (h3 : 122 < c) : Calls Try.prog 11 #[.int .u8 c] w fun e w' => e = .returned (.bool true) ∧ Below w.heap.size w w' := by
  obtain ⟨r0, r1, r2, r3, r4, hg, ⟨x0, y0⟩, ⟨x1, y1⟩, ⟨x2, y2⟩, ⟨x3, y3⟩, ⟨x4, y4⟩, hkl⟩ := glyphV_shape c
  have heq := eq_rows r0 r1 r2 r3 r4 hkl
  clear hkl
  have HG := Lib.hid hg
  clear hg
  go_enter Try.func11, Try.ntmps11
  go_wp2_with fail
  refine (glyph_any c _ h0 h1).mono ?_
  rintro e w1 ⟨rfl, hb1⟩
  rw [HG.out]
  go_wp2_with fail
  refine wp_loop_rounds 6 ?_
  iterate 6
    rw [rounds_succ]
    go_wp2_with fail
  generalize hw2 : w1.alloc _ = w2
  have hsz : w2.heap.size = w1.heap.size + 1 := by rw [← hw2]; simp
  have c0 : w2.cell? ⟨w1.heap.size, 0, none⟩ = some (.int .i64 r0) := by rw [← hw2]; simp [go_sem]
  have c1 : w2.cell? ⟨w1.heap.size, 1, none⟩ = some (.int .i64 r1) := by rw [← hw2]; simp [go_sem]
  have c2 : w2.cell? ⟨w1.heap.size, 2, none⟩ = some (.int .i64 r2) := by rw [← hw2]; simp [go_sem]
  have c3 : w2.cell? ⟨w1.heap.size, 3, none⟩ = some (.int .i64 r3) := by rw [← hw2]; simp [go_sem]
  have c4 : w2.cell? ⟨w1.heap.size, 4, none⟩ = some (.int .i64 r4) := by rw [← hw2]; simp [go_sem]
  have hb2 : Below w1.heap.size w1 w2 := by rw [← hw2]; exact below_box _ _
  have HZ := Lib.hid hsz
  have W2 := Lib.hid (hb1.trans (hb2.mono hb1.size))
  have n1 := Lib.hid hb1.size
  clear hw2 hsz hb1 hb2
  refine Plan.wp_region_plan (fun w' => Below (w1.heap.size + 1) w2 w') (([0, 1].map (·, true)) ++ (([2].map (·, false)) ++ (([3, 4, 5, 6, 7, 8, 9, 10, 11, 12, 13, 14].map (·, true)) ++ (([15].map (·, false)) ++ (([16, 17, 18, 19].map (·, true)) ++ (([20].map (·, false)) ++ (([21, 22].map (·, true))))))))) (by kernel_rfl) (by kernel_rfl) (by kernel_rfl) (Below.refl _ _).drew ?_
  refine' Plan.plan_seg _ [0, 1] (([2].map (·, false)) ++ (([3, 4, 5, 6, 7, 8, 9, 10, 11, 12, 13, 14].map (·, true)) ++ (([15].map (·, false)) ++ (([16, 17, 18, 19].map (·, true)) ++ (([20].map (·, false)) ++ (([21, 22].map (·, true)))))))) (by kernel_rfl) (by kernel_rfl) rfl (by exact (Below.refl _ _).drew) (fun wx hS => ?_) ?_
  rotate_left
  · have k0 := (hS.cell (p := ⟨w1.heap.size, 0, none⟩) (by simp)).trans c0
    have k1 := (hS.cell (p := ⟨w1.heap.size, 1, none⟩) (by simp)).trans c1
    have k2 := (hS.cell (p := ⟨w1.heap.size, 2, none⟩) (by simp)).trans c2
    have k3 := (hS.cell (p := ⟨w1.heap.size, 3, none⟩) (by simp)).trans c3
    have k4 := (hS.cell (p := ⟨w1.heap.size, 4, none⟩) (by simp)).trans c4
    clear hS
    iterate 2 (apply Plan.seg_pick; rfl; intro K hK; go_wp)
    exact Plan.seg_nil
  refine Plan.plan_of_effect rfl (fun K hK => ?_)
  go_wp2_with fail
  refine (rglyph_any c _ h0 h1).mono ?_
  rintro e w3 ⟨rfl, hb3⟩
  rw [HG.out]
  have s3 : Below (w1.heap.size + 1) w2 w3 := (Below.refl _ _).drew.trans (hb3.mono (by have : w2.drew.heap.size = w1.heap.size + 1 := HZ.out; omega))
  have S3 := Lib.hid s3
  have m3 := s3.size
  rw [HZ.out] at m3
  clear s3 hb3
  go_wp2_with fail
  refine ⟨S3.out, ?_⟩
  refine' Plan.plan_seg _ [3, 4, 5, 6, 7, 8, 9, 10, 11, 12, 13, 14] (([15].map (·, false)) ++ (([16, 17, 18, 19].map (·, true)) ++ (([20].map (·, false)) ++ (([21, 22].map (·, true)))))) (by kernel_rfl) (by kernel_rfl) rfl (by exact S3.out) (fun wx hS => ?_) ?_
  rotate_left
  · have k0 := (hS.cell (p := ⟨w1.heap.size, 0, none⟩) (by simp)).trans c0
    have k1 := (hS.cell (p := ⟨w1.heap.size, 1, none⟩) (by simp)).trans c1
    have k2 := (hS.cell (p := ⟨w1.heap.size, 2, none⟩) (by simp)).trans c2
    have k3 := (hS.cell (p := ⟨w1.heap.size, 3, none⟩) (by simp)).trans c3
    have k4 := (hS.cell (p := ⟨w1.heap.size, 4, none⟩) (by simp)).trans c4
    clear hS
    iterate 12 (apply Plan.seg_pick; rfl; intro K hK; go_wp)
    exact Plan.seg_nil
  refine Plan.plan_of_effect rfl (fun K hK => ?_)
  go_wp2_with fail
  refine ⟨S3.out, ?_⟩
  refine' Plan.plan_seg _ [16, 17, 18, 19] (([20].map (·, false)) ++ (([21, 22].map (·, true)))) (by kernel_rfl) (by kernel_rfl) rfl (by exact S3.out) (fun wx hS => ?_) ?_
  rotate_left
  · clear hS
    iterate 4 (apply Plan.seg_pick; rfl; intro K hK; go_wp)
    exact Plan.seg_nil
  refine Plan.plan_of_effect rfl (fun K hK => ?_)
  go_wp2_with fail
  refine (awake_any _).mono ?_
  rintro e w5 ⟨rfl, hb5⟩
  have S5 := Lib.hid (S3.out.trans (hb5.mono m3))
  clear hb5
  go_wp2_with fail
  refine ⟨S5.out, ?_⟩
  refine' Plan.plan_seg _ [21, 22] ([]) (by kernel_rfl) (by kernel_rfl) rfl (by exact S5.out) (fun wx hS => ?_) ?_
  rotate_left
  · clear hS
    iterate 2 (apply Plan.seg_pick; rfl; intro K hK; go_wp)
    exact Plan.seg_nil
  refine Plan.plan_done ?_
  go_wp2_with fail
  go_ret
  exact ⟨rfl, W2.out.trans (S5.out.mono (by have := n1.out; omega))⟩

theorem law_glyphs (c : Int) (w : World) (h0 : 0 ≤ c) (h1 : c < 256) : Calls Try.prog 11 #[.int .u8 c] w fun e w' => e = .returned (.bool true) ∧ Below w.heap.size w w' := by
  by_cases h2 : c < 97
  · exact law_glyphs_low c w h0 h1 h2
  · by_cases h3 : c ≤ 122
    · exact law_glyphs_mid c w h0 h1 (by omega) h3
    · exact law_glyphs_high c w h0 h1 (by omega) (by omega)

end Go.Proofs.Ytnnobdcbmagbaaa

/- Plain laws of titles: the samples that a text covers, and what painting them does. -/
namespace Go.Proofs.Ytnnobdcbmagbaaa
open Go.RowKit
set_option linter.unusedVariables false

/-- Row j of the glyph of c. -/
def glyphF (c : Int) (j : Nat) : Int := match glyphK c with
  | some k => rowAt k j
  | none => 7
theorem glyphV_F (c : Int) : glyphV c = .agg #[.int .i64 (glyphF c 0), .int .i64 (glyphF c 1), .int .i64 (glyphF c 2), .int .i64 (glyphF c 3), .int .i64 (glyphF c 4)] := by
  unfold glyphV glyphF
  cases glyphK c <;> rfl
theorem glyphF_bd (c : Int) (j : Nat) (hj : j < 5) : 0 ≤ glyphF c j ∧ glyphF c j ≤ 7 := by
  obtain ⟨r0, r1, r2, r3, r4, e, h0, h1, h2, h3, h4, _⟩ := glyphV_shape c
  rw [glyphV_F] at e
  simp only [Value.agg.injEq, Array.mk.injEq, List.cons.injEq, Value.int.injEq, true_and, and_true] at e
  obtain ⟨e0, e1, e2, e3, e4⟩ := e
  rcases (show j = 0 ∨ j = 1 ∨ j = 2 ∨ j = 3 ∨ j = 4 by omega) with rfl | rfl | rfl | rfl | rfl <;> omega

/-- Does row r cover column k? -/
def tst (r : Int) (k : Nat) : Bool := if k = 0 then decide (4 ≤ r) else if k = 1 then decide (r % 4 ≥ 2) else decide (r % 2 = 1)

def pixS (W y left : Nat) (r : Int) : Nat → List (Nat × Nat)
  | 0 => []
  | k + 1 => pixS W y left r k ++ (if (tst r k && decide (left + k < W)) = true then [(left + k, y)] else [])
def pixG (W top left : Nat) (g : Nat → Int) : Nat → List (Nat × Nat)
  | 0 => []
  | j + 1 => pixG W top left g j ++ pixS W (top + j) left (g j) 3
def pixT (W top : Nat) (s : Nat → Int) : Nat → List (Nat × Nat)
  | 0 => []
  | i + 1 => pixT W top s i ++ pixG W top (2 + 4 * i) (glyphF (s i)) 5

def mY (W : Nat) (L : List (Nat × Nat)) (i : Nat) : Bool := L.any fun p => p.2 * W + p.1 == i
def mC (W : Nat) (L : List (Nat × Nat)) (i : Nat) : Bool := L.any fun p => p.2 / 2 * (W / 2) + p.1 / 2 == i
def pY (W : Nat) (L : List (Nat × Nat)) (Y : Nat → Int) (i : Nat) : Int := if mY W L i then 235 else Y i
def pC (W : Nat) (L : List (Nat × Nat)) (Y : Nat → Int) (i : Nat) : Int := if mC W L i then 128 else Y i
def titleFr (L : List (Nat × Nat)) (F : Fr) : Fr := ⟨F.W, F.H, F.nY, F.nU, F.nV, pY F.W.toNat L F.Y, pC F.W.toNat L F.U, pC F.W.toNat L F.V⟩
def titleL (F : Fr) (s : Nat → Int) (n : Nat) : List (Nat × Nat) := pixT F.W.toNat (F.H.toNat - 7) s n

theorem mY_snoc (W : Nat) (L : List (Nat × Nat)) (p : Nat × Nat) (i : Nat) : mY W (L ++ [p]) i = (mY W L i || (p.2 * W + p.1 == i)) := by simp [mY]
theorem mC_snoc (W : Nat) (L : List (Nat × Nat)) (p : Nat × Nat) (i : Nat) : mC W (L ++ [p]) i = (mC W L i || (p.2 / 2 * (W / 2) + p.1 / 2 == i)) := by simp [mC]
theorem pY_at (W : Nat) (L : List (Nat × Nat)) (x y : Nat) (Y : Nat → Int) : pY W (L ++ [(x, y)]) Y (y * W + x) = 235 := by simp [pY, mY_snoc]
theorem pY_off (W : Nat) (L : List (Nat × Nat)) (x y : Nat) (Y : Nat → Int) (i : Nat) (h : i ≠ y * W + x) : pY W (L ++ [(x, y)]) Y i = pY W L Y i := by simp [pY, mY_snoc, Ne.symm h]
theorem pC_at (W : Nat) (L : List (Nat × Nat)) (x y : Nat) (Y : Nat → Int) : pC W (L ++ [(x, y)]) Y (y / 2 * (W / 2) + x / 2) = 128 := by simp [pC, mC_snoc]
theorem pC_off (W : Nat) (L : List (Nat × Nat)) (x y : Nat) (Y : Nat → Int) (i : Nat) (h : i ≠ y / 2 * (W / 2) + x / 2) : pC W (L ++ [(x, y)]) Y i = pC W L Y i := by simp [pC, mC_snoc, Ne.symm h]
theorem pY_nil (W : Nat) (Y : Nat → Int) (i : Nat) : pY W [] Y i = Y i := by simp [pY, mY]
theorem pC_nil (W : Nat) (Y : Nat → Int) (i : Nat) : pC W [] Y i = Y i := by simp [pC, mC]
theorem pY_bd {W n : Nat} {L : List (Nat × Nat)} {Y : Nat → Int} (h : ∀ i, i < n → 0 ≤ Y i ∧ Y i < 256) (i : Nat) (hi : i < n) : 0 ≤ pY W L Y i ∧ pY W L Y i < 256 := by
  unfold pY; split
  · omega
  · exact h i hi
theorem pC_bd {W n : Nat} {L : List (Nat × Nat)} {Y : Nat → Int} (h : ∀ i, i < n → 0 ≤ Y i ∧ Y i < 256) (i : Nat) (hi : i < n) : 0 ≤ pC W L Y i ∧ pC W L Y i < 256 := by
  unfold pC; split
  · omega
  · exact h i hi

theorem pixS_mem {W y left : Nat} {r : Int} {n : Nat} (hn : n ≤ 3) {p : Nat × Nat} (h : p ∈ pixS W y left r n) : p.2 = y ∧ left ≤ p.1 ∧ p.1 < W := by
  induction n with
  | zero => simp [pixS] at h
  | succ k ih =>
    rw [pixS, List.mem_append] at h
    rcases h with h | h
    · exact ih (by omega) h
    · split at h
      · rename_i hc
        simp only [List.mem_singleton] at h
        subst h
        simp only [Bool.and_eq_true, decide_eq_true_eq] at hc
        exact ⟨rfl, by simp, hc.2⟩
      · simp at h
theorem pixG_mem {W top left : Nat} {g : Nat → Int} {n : Nat} {p : Nat × Nat} (h : p ∈ pixG W top left g n) : top ≤ p.2 ∧ p.2 < top + n ∧ left ≤ p.1 ∧ p.1 < W := by
  induction n with
  | zero => simp [pixG] at h
  | succ k ih =>
    rw [pixG, List.mem_append] at h
    rcases h with h | h
    · have := ih h; omega
    · have := pixS_mem (Nat.le_refl 3) h; omega
theorem pixT_mem {W top : Nat} {s : Nat → Int} {n : Nat} {p : Nat × Nat} (h : p ∈ pixT W top s n) : top ≤ p.2 ∧ p.2 < top + 5 ∧ 2 ≤ p.1 ∧ p.1 < W := by
  induction n with
  | zero => simp [pixT] at h
  | succ k ih =>
    rw [pixT, List.mem_append] at h
    rcases h with h | h
    · exact ih h
    · have := pixG_mem h; omega

/-- A row of zeros covers nothing. -/
theorem pixS_zero (W y left n : Nat) : pixS W y left 0 n = [] := by
  induction n with
  | zero => rfl
  | succ k ih => rw [pixS, ih]; simp [tst]
theorem pixG_zero {W top left : Nat} {g : Nat → Int} {n : Nat} (h : ∀ j, j < n → g j = 0) : pixG W top left g n = [] := by
  induction n with
  | zero => rfl
  | succ k ih => rw [pixG, ih (fun j hj => h j (by omega)), h k (by omega), pixS_zero]; rfl
theorem glyph_blank : glyphF 32 0 = 0 ∧ glyphF 32 1 = 0 ∧ glyphF 32 2 = 0 ∧ glyphF 32 3 = 0 ∧ glyphF 32 4 = 0 := by decide +kernel
theorem pixT_blank {W top : Nat} {s : Nat → Int} {n : Nat} (h : ∀ i, i < n → s i = 32) : pixT W top s n = [] := by
  induction n with
  | zero => rfl
  | succ k ih =>
    rw [pixT, ih (fun j hj => h j (by omega)), h k (by omega), pixG_zero]
    · rfl
    · intro j hj
      obtain ⟨g0, g1, g2, g3, g4⟩ := glyph_blank
      rcases (show j = 0 ∨ j = 1 ∨ j = 2 ∨ j = 3 ∨ j = 4 by omega) with rfl | rfl | rfl | rfl | rfl <;> assumption

theorem title_none (F : Fr) : frSame (titleFr [] F) F = true :=
  frSame_of rfl rfl rfl rfl rfl (fun i _ => pY_nil F.W.toNat F.Y i) (fun i _ => pC_nil F.W.toNat F.U i) (fun i _ => pC_nil F.W.toNat F.V i)
theorem title_twice (L : List (Nat × Nat)) (F : Fr) : frSame (titleFr L F) (titleFr L (titleFr L F)) = true :=
  frSame_of rfl rfl rfl rfl rfl (fun i _ => by simp only [titleFr, pY]; split <;> rfl) (fun i _ => by simp only [titleFr, pC]; split <;> rfl) (fun i _ => by simp only [titleFr, pC]; split <;> rfl)

/-- Where a title changes the luma. -/
theorem title_area {W H : Nat} {s : Nat → Int} {n i : Nat} (hH : 16 ≤ H) (h : mY W (pixT W (H - 7) s n) i = true) : H - 7 ≤ i / W ∧ i / W ≤ H - 3 ∧ 2 ≤ i % W := by
  simp only [mY, List.any_eq_true, beq_iff_eq] at h
  obtain ⟨p, hp, rfl⟩ := h
  obtain ⟨h1, h2, h3, h4⟩ := pixT_mem hp
  rw [Nat.mul_comm, Nat.mul_add_div (by omega), Nat.mul_add_mod, Nat.div_eq_of_lt h4, Nat.mod_eq_of_lt h4]
  omega

/-- A covered sample lies in its planes. -/
theorem pix_in {W H x y : Nat} (hx : x < W) (hy : y < H) (hW : W % 2 = 0) (hH : H % 2 = 0) : y * W + x < W * H ∧ y / 2 * (W / 2) + x / 2 < W / 2 * (H / 2) := by
  constructor
  · calc y * W + x < y * W + W := by omega
      _ = (y + 1) * W := by rw [Nat.add_mul]; omega
      _ ≤ H * W := Nat.mul_le_mul_right _ (by omega)
      _ = W * H := Nat.mul_comm _ _
  · calc y / 2 * (W / 2) + x / 2 < y / 2 * (W / 2) + W / 2 := by omega
      _ = (y / 2 + 1) * (W / 2) := by rw [Nat.add_mul]; omega
      _ ≤ H / 2 * (W / 2) := Nat.mul_le_mul_right _ (by omega)
      _ = W / 2 * (H / 2) := Nat.mul_comm _ _

end Go.Proofs.Ytnnobdcbmagbaaa

/- Aid for walks that write several blocks; strings read byte by byte; a string's iterator. -/
namespace Go.Proofs.Ytnnobdcbmagbaaa
open Go.RowKit
set_option linter.unusedVariables false

/-- Only blocks with P may have been written. -/
structure OnlyP (w w' : World) (P : Nat → Prop) : Prop where
  os : w'.os = w.os
  tape : w'.tape = w.tape
  output : w'.output = w.output
  size : w.heap.size ≤ w'.heap.size
  block : ∀ k, k < w.heap.size → ¬ P k → w'.heap[k]? = w.heap[k]?
section
variable {w w' w'' : World} {P : Nat → Prop}
theorem OnlyP.refl (w : World) (P : Nat → Prop) : OnlyP w w P := ⟨rfl, rfl, rfl, Nat.le_refl _, fun _ _ _ => rfl⟩
theorem OnlyP.trans (k : OnlyP w w' P) (l : OnlyP w' w'' P) : OnlyP w w'' P :=
  ⟨l.os.trans k.os, l.tape.trans k.tape, l.output.trans k.output, Nat.le_trans k.size l.size, fun i hi hp => (l.block i (Nat.lt_of_lt_of_le hi k.size) hp).trans (k.block i hi hp)⟩
theorem OnlyP.of_below (k : Below w.heap.size w w') : OnlyP w w' P := ⟨k.os, k.tape, k.output, k.size, fun i hi _ => k.block i hi⟩
theorem OnlyP.drew (k : OnlyP w w' P) : OnlyP w w'.drew P := ⟨k.os, k.tape, k.output, k.size, k.block⟩
theorem OnlyP.set (k : OnlyP w w' P) {b : Nat} (hb : P b) (o : Nat) (u : Value) : OnlyP w (w'.setCell ⟨b, o, none⟩ u) P :=
  ⟨k.os, k.tape, k.output, by rw [World.size_setCell]; exact k.size, fun i hi hp => by rw [Below.heap_setCell _ _ _ _ (fun e => hp (by rw [e]; exact hb))]; exact k.block i hi hp⟩
theorem OnlyP.cell {b o : Nat} {v : Value} (k : OnlyP w w' P) (hc : w.cell? ⟨b, o, none⟩ = some v) (h1 : ¬ P b) : w'.cell? ⟨b, o, none⟩ = some v :=
  (World.cell?_of_block (a := ⟨b, o, none⟩) (k.block b (block_lt_of_cell hc) h1)).trans hc
theorem OnlyP.below {B : Nat} (k : OnlyP w w' P) (h1 : ∀ b, P b → B ≤ b) (hs : B ≤ w.heap.size) : Below B w w' :=
  ⟨k.os, k.tape, k.output, k.size, fun i hi => k.block i (Nat.lt_of_lt_of_le hi hs) (fun hp => by have := h1 i hp; omega)⟩
theorem OnlyP.row {B b n c : Nat} {F : Nat → Int} (k : OnlyP w w' P) (r : Row w B b n c F) (h1 : ¬ P b) : Row w' B b n c F := by
  have hl := r.le
  refine ⟨r.1, ?_⟩
  rcases r.2 with ⟨h', _⟩ | ⟨g', cap', cur, h', q1, q2, q3⟩
  · simp at h'
  · simp only [Value.slice.injEq, Option.some.injEq, Addr.mk.injEq, and_true, true_and] at h'
    obtain ⟨rfl, rfl⟩ := h'
    exact .inr ⟨b, c, cur, rfl, q1, by rw [k.block b hl.2.1 h1]; exact q2, q3⟩
theorem BX.onlyP {b : Nat} {c0 c1 c2 c3 c4 : Value} (x : BX w b c0 c1 c2 c3 c4) (k : OnlyP w w' P) (h : ¬ P b) : BX w' b c0 c1 c2 c3 c4 :=
  ⟨k.cell x.k0 h, k.cell x.k1 h, k.cell x.k2 h, k.cell x.k3 h, k.cell x.k4 h⟩
theorem Fz.onlyP {b : Nat} (x : Fz w b) (k : OnlyP w w' P) (h : ¬ P b) : Fz w' b :=
  ⟨Nat.lt_of_lt_of_le x.1 k.size, fun o => (World.frozen?_of_block (a := ⟨b, o, none⟩) (k.block b x.1 h)).trans (x.2 o)⟩
theorem C1.onlyP {b : Nat} {c : Value} (x : C1 w b c) (k : OnlyP w w' P) (h : ¬ P b) : C1 w' b c := ⟨k.cell x.k0 h⟩
end
/-- One of three blocks. -/
def In3 (g1 g2 g3 : Nat) (b : Nat) : Prop := b = g1 ∨ b = g2 ∨ b = g3
theorem In3.a (g1 g2 g3 : Nat) : In3 g1 g2 g3 g1 := .inl rfl
theorem In3.b (g1 g2 g3 : Nat) : In3 g1 g2 g3 g2 := .inr (.inl rfl)
theorem In3.c (g1 g2 g3 : Nat) : In3 g1 g2 g3 g3 := .inr (.inr rfl)
theorem In3.no {g1 g2 g3 b : Nat} (h1 : b ≠ g1) (h2 : b ≠ g2) (h3 : b ≠ g3) : ¬ In3 g1 g2 g3 b := by unfold In3; omega
theorem In3.ge {g1 g2 g3 B : Nat} (h1 : B ≤ g1) (h2 : B ≤ g2) (h3 : B ≤ g3) : ∀ b, In3 g1 g2 g3 b → B ≤ b := by unfold In3; omega

/-- The bytes of a string. -/
def sB (s : ByteArray) (i : Nat) : Int := (s.data.toList.getD i 0).toNat
theorem sB_bd (s : ByteArray) (i : Nat) : 0 ≤ sB s i ∧ sB s i < 256 := by
  unfold sB; have := (s.data.toList.getD i 0).toNat_lt; omega
theorem sB_at (s : ByteArray) (i : Nat) (h : i < s.size) : sB s i = ((s[i]'h).toNat : Int) := by
  unfold sB
  have e : s.data.toList.getD i 0 = s[i]'h := by
    rw [List.getD_eq_getElem?_getD, List.getElem?_eq_getElem (by simpa using h)]
    rfl
  rw [e]
def okText (s : ByteArray) : Bool := decide (1 ≤ s.size ∧ s.size ≤ 64 ∧ ∀ i, i < s.size → 32 ≤ sB s i ∧ sB s i ≤ 126)

/-- A string's iterator at block b. -/
def At (w : World) (b : Nat) (s : ByteArray) (pos : Nat) : Prop := w.heap[b]? = some (.stringIter s pos)
theorem At.lt {w : World} {b : Nat} {s : ByteArray} {pos : Nat} (h : At w b s pos) : b < w.heap.size := by
  by_cases hb : b < w.heap.size
  · exact hb
  · exfalso; unfold At at h; rw [Array.getElem?_eq_none (by omega)] at h; simp at h
theorem At.below {w w' : World} {b : Nat} {s : ByteArray} {pos : Nat} (h : At w b s pos) (hb : Below w.heap.size w w') : At w' b s pos := (hb.block b h.lt).trans h
theorem At.onlyP {w w' : World} {P : Nat → Prop} {b : Nat} {s : ByteArray} {pos : Nat} (h : At w b s pos) (k : OnlyP w w' P) (hn : ¬ P b) : At w' b s pos := (k.block b h.lt hn).trans h
/-- The iterator steps on. -/
def World.itStep (w : World) (b : Nat) (s : ByteArray) (pos : Nat) : World := { w with heap := w.heap.setIfInBounds b (.stringIter s pos) }
theorem next_at {P : Program} {w : World} {b : Nat} {s : ByteArray} {pos : Nat} (ty : TypeId) (ha : At w b s pos) (h : pos < s.size) (hs : sB s pos ≤ 126) :
    (Instr.next (.pointer (some ⟨b, 0, none⟩)) true ty).run P w = .ok (.tuple #[.bool true, .int .i64 pos, .int .i32 (sB s pos)]) (World.itStep w b s (pos + 1)) := by
  have hb : (s[pos]'h).toNat < 128 := by have := sB_at s pos h; omega
  unfold At at ha
  have hi : (Array.set! w.heap b (.stringIter s (pos + 1))) = w.heap.setIfInBounds b (.stringIter s (pos + 1)) := by simp
  rw [sB_at s pos h]
  simp only [Instr.next, getObj, setObj, Sem.run_bind, Sem.run, ha, Result.andThen, h, if_true, decode_ascii s pos h hb]
  simp [goInt, World.itStep]
theorem next_end {P : Program} {w : World} {b : Nat} {s : ByteArray} {pos : Nat} (ty : TypeId) (ha : At w b s pos) (h : ¬ pos < s.size) :
    (Instr.next (.pointer (some ⟨b, 0, none⟩)) true ty).run P w = .ok (.tuple #[.bool false]) w := by
  unfold At at ha
  simp [Instr.next, getObj, Sem.run, ha, h]
theorem At.step {w : World} {b : Nat} {s : ByteArray} {pos : Nat} (h : At w b s pos) (q : Nat) : At (World.itStep w b s q) b s q := by
  have := h.lt
  show (w.heap.setIfInBounds b (.stringIter s q))[b]? = _
  simp [this]
theorem OnlyP.itStep {w w' : World} {P : Nat → Prop} (k : OnlyP w w' P) {b : Nat} (hb : P b) (s : ByteArray) (q : Nat) : OnlyP w (World.itStep w' b s q) P :=
  ⟨k.os, k.tape, k.output, by show w.heap.size ≤ (w'.heap.setIfInBounds b _).size; rw [Array.size_setIfInBounds]; exact k.size,
    fun i hi hp => by
      show (w'.heap.setIfInBounds b _)[i]? = _
      rw [Array.getElem?_setIfInBounds_ne (fun e => hp (by rw [← e]; exact hb))]
      exact k.block i hi hp⟩

end Go.Proofs.Ytnnobdcbmagbaaa

/- The contract of compose.draw: the glyph's samples are painted. -/
namespace Go.Proofs.Ytnnobdcbmagbaaa
open Go.RowKit
set_option linter.unusedVariables false

theorem and_sh (r : Int) (k : Nat) (hk : k < 3) (h : 0 ≤ r ∧ r ≤ 7) : ∃ v, bits BinOp.and IntKind.i64 r (4 / 2 ^ k) = v ∧ (v == 0) = !tst r k := by
  rcases (show k = 0 ∨ k = 1 ∨ k = 2 by omega) with rfl | rfl | rfl <;> rcases (show r = 0 ∨ r = 1 ∨ r = 2 ∨ r = 3 ∨ r = 4 ∨ r = 5 ∨ r = 6 ∨ r = 7 by omega) with rfl | rfl | rfl | rfl | rfl | rfl | rfl | rfl <;> exact ⟨_, rfl, by decide +kernel⟩
/-- The indexes that a covered sample has. -/
theorem pix_ix {Wn Hn x y n1 n2 : Nat} (hW : okSize (Wn : Int) (Hn : Int) = true) (h1 : (n1 : Int) = (Wn : Int) * (Hn : Int)) (h2 : (n2 : Int) = (Wn : Int) / 2 * ((Hn : Int) / 2)) (hx : x < Wn) (hy : y < Hn) :
    ∃ a b : Nat, (y : Int) * (Wn : Int) + (x : Int) = (a : Int) ∧ (y : Int) / 2 * ((Wn : Int) / 2) + (x : Int) / 2 = (b : Int) ∧ a < n1 ∧ b < n2 ∧ a = y * Wn + x ∧ b = y / 2 * (Wn / 2) + x / 2 ∧
      IntKind.i64.wrap ((y : Int) * (Wn : Int)) = (y : Int) * (Wn : Int) ∧ 0 ≤ (y : Int) * (Wn : Int) ∧ (y : Int) * (Wn : Int) ≤ 4096 ∧
      IntKind.i64.wrap ((y : Int) / 2 * ((Wn : Int) / 2)) = (y : Int) / 2 * ((Wn : Int) / 2) ∧ 0 ≤ (y : Int) / 2 * ((Wn : Int) / 2) ∧ (y : Int) / 2 * ((Wn : Int) / 2) ≤ 4096 := by
  obtain ⟨s1, s2, s3, s4, s5, s6, s7, s8⟩ := okSize_bd hW
  obtain ⟨p1, p2⟩ := pix_in (W := Wn) (H := Hn) hx hy (by omega) (by omega)
  have e1 : (n1 : Int) = ((Wn * Hn : Nat) : Int) := by rw [h1]; simp
  have e2 : (n2 : Int) = ((Wn / 2 * (Hn / 2) : Nat) : Int) := by rw [h2]; simp
  have f1 : 0 ≤ (y : Int) * (Wn : Int) := Int.mul_nonneg (by omega) (by omega)
  have f2 : (y : Int) * (Wn : Int) ≤ 64 * 64 := Int.mul_le_mul (by omega) (by omega) (by omega) (by omega)
  have f3 : 0 ≤ (y : Int) / 2 * ((Wn : Int) / 2) := Int.mul_nonneg (by omega) (by omega)
  have f4 : (y : Int) / 2 * ((Wn : Int) / 2) ≤ 64 * 64 := Int.mul_le_mul (by omega) (by omega) (by omega) (by omega)
  exact ⟨y * Wn + x, y / 2 * (Wn / 2) + x / 2, by simp, by simp, by omega, by omega, rfl, rfl, IntWalk.i64_in _ (by omega), f1, by omega, IntWalk.i64_in _ (by omega), f3, by omega⟩

set_option maxRecDepth 100000 in
set_option maxHeartbeats 4000000 in
theorem draw_any (Wn Hn lf : Nat) (n1 n2 n3 g1 g2 g3 c1 c2 c3 B : Nat) (left : Int) (gl : Nat → Int) (L : List (Nat × Nat)) (Y U V : Nat → Int) (w : World)
    (hl : left = (lf : Int)) (hlf : lf ≤ 300) (hW : okSize (Wn : Int) (Hn : Int) = true) (h1 : (n1 : Int) = (Wn : Int) * (Hn : Int)) (h2 : (n2 : Int) = (Wn : Int) / 2 * ((Hn : Int) / 2)) (h3 : n3 = n2)
    (hg : ∀ j, j < 5 → 0 ≤ gl j ∧ gl j ≤ 7) (d12 : g1 ≠ g2) (d13 : g1 ≠ g3) (d23 : g2 ≠ g3)
    (hr : K3 w B g1 g2 g3 n1 n2 n3 c1 c2 c3 (pY Wn L Y) (pC Wn L U) (pC Wn L V)) :
    Calls Try.prog 59 #[.agg #[.int .i64 (Wn : Int), .int .i64 (Hn : Int), .slice (some ⟨g1, 0, none⟩) n1 c1, .slice (some ⟨g2, 0, none⟩) n2 c2, .slice (some ⟨g3, 0, none⟩) n3 c3], .int .i64 left, .agg #[.int .i64 (gl 0), .int .i64 (gl 1), .int .i64 (gl 2), .int .i64 (gl 3), .int .i64 (gl 4)]] w fun e w' => e = .returned (.tuple #[]) ∧
      K3 w' B g1 g2 g3 n1 n2 n3 c1 c2 c3 (pY Wn (L ++ pixG Wn (Hn - 7) lf gl 5) Y) (pC Wn (L ++ pixG Wn (Hn - 7) lf gl 5) U) (pC Wn (L ++ pixG Wn (Hn - 7) lf gl 5) V) ∧ OnlyP w w' (In3 g1 g2 g3) := by
  subst hl
  obtain ⟨s1, s2, s3, s4, s5, s6, s7, s8⟩ := okSize_bd hW
  have hgi : ∀ (j : Nat), j < 5 → ∀ w, (Instr.index 49 (.agg #[.int .i64 (gl 0), .int .i64 (gl 1), .int .i64 (gl 2), .int .i64 (gl 3), .int .i64 (gl 4)]) (.int .i64 (j : Int))).run Try.prog w = .ok (.int .i64 (gl j)) w := by
    intro j hj w
    rcases (show j = 0 ∨ j = 1 ∨ j = 2 ∨ j = 3 ∨ j = 4 by omega) with rfl | rfl | rfl | rfl | rfl <;> kernel_rfl
  have HGI := Lib.hid hgi
  have HG := Lib.hid hg
  have l1 := hr.r1.le
  have l2 := hr.r2.le
  have l3 := hr.r3.le
  have RR := Lib.hid hr
  obtain ⟨bla, hbla⟩ : ∃ b, b = w.heap.size := ⟨_, rfl⟩
  have HN := Lib.hid (And.intro hW (And.intro h1 (And.intro h2 h3)))
  clear hgi hg hr hW h1 h2 h3
  go_enter Try.func59, Try.ntmps59
  go_upto_region 1 with fail
  obtain ⟨w1, hw⟩ : ∃ x, x = (w.alloc (.cells #[.int .i64 (Wn : Int), .int .i64 (Hn : Int), .slice (some ⟨g1, 0, none⟩) n1 c1, .slice (some ⟨g2, 0, none⟩) n2 c2, .slice (some ⟨g3, 0, none⟩) n3 c3] 26)).alloc (.cells #[.int .i64 (gl 0), .int .i64 (gl 1), .int .i64 (gl 2), .int .i64 (gl 3), .int .i64 (gl 4)] 49) := ⟨_, rfl⟩
  rw [← hw]
  have hE : Below w.heap.size w w1 := by rw [hw]; go_grown
  have BX_a := Lib.hid (show BX w1 w.heap.size _ _ _ _ _ by rw [hw]; exact (BX.of_alloc _ _ _ _ _ _ _).below (below_box _ _))
  have BX_g := Lib.hid (show BX w1 (w.heap.size + 1) _ _ _ _ _ by rw [hw]; exact BX.of_alloc' _ _ _ _ _ _ _ _ (by simp))
  replace RR := Lib.hid (RR.out.below hE)
  have OB := Lib.hid (OnlyP.of_below hE (P := In3 g1 g2 g3))
  rw [← hbla] at BX_a l1 l2 l3 ⊢
  obtain ⟨blg, hblg⟩ : ∃ b, b = w.heap.size + 1 := ⟨_, rfl⟩
  rw [← hblg] at BX_g
  rw [hbla, ← hblg, ← hbla]
  clear hw hE hblg hbla
  obtain ⟨q0, q1, q2, q3, q4⟩ := BX_g.out
  go_wp2_with fail
  clear q0 q1 q2 q3 q4 BX_g
  obtain ⟨w2, hw⟩ : ∃ x, x = w1 := ⟨_, rfl⟩
  rw [← hw] at BX_a RR OB ⊢
  clear hw
  go_loopw [13] (fun i wr => ∃ j : Nat, j ≤ 5 ∧ i = .int .i64 (j : Int) ∧ OnlyP w2 wr (In3 g1 g2 g3) ∧ K3 wr B g1 g2 g3 n1 n2 n3 c1 c2 c3 (pY Wn (L ++ pixG Wn (Hn - 7) lf gl j) Y) (pC Wn (L ++ pixG Wn (Hn - 7) lf gl j) U) (pC Wn (L ++ pixG Wn (Hn - 7) lf gl j) V)) (fun i _ => 5 - (intOf i).toNat)
  case atStart => exact ⟨0, by omega, rfl, OnlyP.refl _ _, by simpa [pixG] using RR.out⟩
  case round =>
    obtain ⟨j, hj, rfl, hgr, ho⟩ := hrel
    have nin : ¬ In3 g1 g2 g3 bla := In3.no (by omega) (by omega) (by omega)
    have xa := Lib.hid (BX_a.out.onlyP hgr nin)
    by_cases hlt : j < 5
    · have a1 := xa.out.k1
      obtain ⟨y, hy⟩ := Int.eq_ofNat_of_zero_le (show 0 ≤ (Hn : Int) - 7 + (j : Int) by omega)
      have EY := Lib.hid (show y = Hn - 7 + j by omega)
      have y1 : y < Hn := by omega
      have gi := HGI.out j hlt
      have hjd : decide ((j : Int) < 5) = true := by simp; omega
      have HK := Lib.hid ho
      have HGR := Lib.hid hgr
      clear ho hgr
      go_wp2_with fail
      obtain ⟨wo, hwo⟩ : ∃ x, x = wr := ⟨_, rfl⟩
      rw [← hwo] at xa HK HGR ⊢
      clear hwo a1 gi
      have HY := Lib.hid hy
      clear hy
      go_loopw [22] (fun i wr => ∃ k : Nat, k ≤ 3 ∧ i = .int .i64 (k : Int) ∧ OnlyP wo wr (In3 g1 g2 g3) ∧ K3 wr B g1 g2 g3 n1 n2 n3 c1 c2 c3 (pY Wn (L ++ pixG Wn (Hn - 7) lf gl j ++ pixS Wn (Hn - 7 + j) lf (gl j) k) Y) (pC Wn (L ++ pixG Wn (Hn - 7) lf gl j ++ pixS Wn (Hn - 7 + j) lf (gl j) k) U) (pC Wn (L ++ pixG Wn (Hn - 7) lf gl j ++ pixS Wn (Hn - 7 + j) lf (gl j) k) V)) (fun i _ => 3 - (intOf i).toNat)
      case atStart => exact ⟨0, by omega, rfl, OnlyP.refl _ _, by simpa [pixS] using HK.out⟩
      case round =>
        obtain ⟨k, hk, rfl, hgr, ho⟩ := hrel
        by_cases hlk : k < 3
        · obtain ⟨M, hM⟩ : ∃ M, M = L ++ pixG Wn (Hn - 7) lf gl j ++ pixS Wn (Hn - 7 + j) lf (gl j) k := ⟨_, rfl⟩
          rw [← hM] at ho
          have EM := Lib.hid hM
          clear hM
          have xb := xa.out.onlyP hgr nin
          have a0 := xb.k0
          have a2 := xb.k2
          have a3 := xb.k3
          have a4 := xb.k4
          obtain ⟨x, hx⟩ := Int.eq_ofNat_of_zero_le (show 0 ≤ (lf : Int) + (k : Int) by omega)
          have x1 : x ≤ 302 := by omega
          have EX := Lib.hid (show x = lf + k by omega)
          obtain ⟨bv, bt, bz⟩ := and_sh (gl j) k hlk (HG.out j hlt)
          have HO := Lib.hid ho
          have HGI2 := Lib.hid hgr
          clear ho hgr
          cases ht : tst (gl j) k
          · rw [ht] at bz
            have HT := Lib.hid ht
            clear ht
            go_wp2_with fail
            go_roundw
            case rel =>
              refine ⟨k + 1, by omega, by go_num, HGI2.out, ?_⟩
              have e : pixS Wn (Hn - 7 + j) lf (gl j) (k + 1) = pixS Wn (Hn - 7 + j) lf (gl j) k := by simp [pixS, HT.out]
              rw [e, ← EM.out]; exact HO.out
            case measure => simp [intOf]; omega
          · rw [ht] at bz
            have HT := Lib.hid ht
            clear ht
            by_cases hw : x < Wn
            · have hwd : decide (Wn ≤ x) = false := by simp; omega
              obtain ⟨ca, cb, ha, hb, ia, ib, ea, eb, v1, v2, v3, v4, v5, v6⟩ := pix_ix HN.out.1 HN.out.2.1 HN.out.2.2.1 hw y1
              have nn3 := HN.out.2.2.2
              have hc1 := HO.out.r1.cell ca ia
              have hc2 := HO.out.r2.cell cb ib
              have hc3 := HO.out.r3.cell cb (by omega)
              have hf1 := World.ownsRow.frozenAt HO.out.r1 ca
              have hf2 := World.ownsRow.frozenAt HO.out.r2 cb
              have hf3 := World.ownsRow.frozenAt HO.out.r3 cb
              have EN := Lib.hid nn3
              have EA := Lib.hid (And.intro ea eb)
              have ib' : cb < n3 := by omega
              clear nn3 ea eb
              go_wp2_with fail
              obtain ⟨w7, hw7⟩ : ∃ z, z = wr.setCell ⟨g1, ca, none⟩ (.int .u8 235) := ⟨_, rfl⟩
              rw [← hw7]
              have hgr : OnlyP wo w7 (In3 g1 g2 g3) := by rw [hw7]; exact HGI2.out.set (In3.a _ _ _) _ _
              have r1 : Row w7 B g1 n1 c1 (pY Wn (M ++ [(x, y)]) Y) := by
                rw [hw7]
                refine HO.out.r1.store ca (u := 235) ?_ (fun i _ hik => ?_)
                · rw [EA.out.1]; exact pY_at _ _ _ _ _
                · exact pY_off _ _ _ _ _ _ (by rw [← EA.out.1]; exact hik)
              have r2 : Row w7 B g2 n2 c2 (pC Wn M U) := by rw [hw7]; exact HO.out.r2.far (by simp; omega) _
              have r3 : Row w7 B g3 n3 c3 (pC Wn M V) := by rw [hw7]; exact HO.out.r3.far (by simp; omega) _
              clear hw7 hc1 hc2 hc3 hf1 hf2 hf3 HGI2 HO a0 a2 a3 a4 xb
              have xb := xa.out.onlyP hgr nin
              have a3 := xb.k3
              have a4 := xb.k4
              have hc2 := r2.cell cb ib
              have hc3 := r3.cell cb ib'
              have hf2 := World.ownsRow.frozenAt r2 cb
              have hf3 := World.ownsRow.frozenAt r3 cb
              have HO := Lib.hid (And.intro r1 (And.intro r2 r3))
              have HGI2 := Lib.hid hgr
              clear r1 r2 r3 hgr xb
              refine Plan.wp_region_planz (fun w' => w'.cell? ⟨bla, 3, none⟩ = some (.slice (some ⟨g2, 0, none⟩) n2 c2) ∧ w'.cell? ⟨bla, 4, none⟩ = some (.slice (some ⟨g3, 0, none⟩) n3 c3)) 9 (([0, 1, 2, 3, 4, 5, 6].map (·, true)) ++ (([7].map (·, false)) ++ (([8].map (·, true)) ++ (([9].map (·, false)))))) (by kernel_rfl) (by kernel_rfl) (by kernel_rfl) ⟨a3, a4⟩ ?_
              refine' Plan.plan_seg _ [0, 1, 2, 3, 4, 5, 6] (([7].map (·, false)) ++ (([8].map (·, true)) ++ (([9].map (·, false))))) (by kernel_rfl) (by kernel_rfl) rfl (by exact ⟨a3, a4⟩) (fun wx hS => ?_) ?_
              rotate_left
              · obtain ⟨z1, z2⟩ := hS
                go_light
                iterate 7 (apply Plan.seg_pick; rfl; intro K hK; go_wp)
                exact Plan.seg_nil
              refine Plan.plan_of_effect rfl (fun K hK => ?_)
              go_wp2_with fail
              refine ⟨⟨(by simp only [World.cell?_drew]; rw [World.cell?_setCell_far _ _ _ _ (by simp; omega)]; exact a3), (by simp only [World.cell?_drew]; rw [World.cell?_setCell_far _ _ _ _ (by simp; omega)]; exact a4)⟩, ?_⟩
              refine' Plan.plan_seg _ [8] (([9].map (·, false))) (by kernel_rfl) (by kernel_rfl) rfl (by exact ⟨(by simp only [World.cell?_drew]; rw [World.cell?_setCell_far _ _ _ _ (by simp; omega)]; exact a3), (by simp only [World.cell?_drew]; rw [World.cell?_setCell_far _ _ _ _ (by simp; omega)]; exact a4)⟩) (fun wx hS => ?_) ?_
              rotate_left
              · obtain ⟨z1, z2⟩ := hS
                go_light
                iterate 1 (apply Plan.seg_pick; rfl; intro K hK; go_wp)
                exact Plan.seg_nil
              refine Plan.plan_of_last rfl (fun K hK => ?_)
              go_wp2_with fail
              refine Plan.plan_done ?_
              go_wp2_with fail
              go_roundw
              case rel =>
                have e : L ++ pixG Wn (Hn - 7) lf gl j ++ pixS Wn (Hn - 7 + j) lf (gl j) (k + 1) = M ++ [(x, y)] := by
                  have h2 : lf + k < Wn := by have := EX.out; omega
                  rw [EM.out, pixS, if_pos (by simp [HT.out, h2]), ← EX.out, ← EY.out, ← List.append_assoc]
                refine ⟨k + 1, by omega, by go_num, ?_, ?_⟩
                · repeat (with_reducible refine OnlyP.drew ?_)
                  exact (HGI2.out.set (In3.b _ _ _) _ _).set (In3.c _ _ _) _ _
                rw [e]
                refine ⟨?_, ?_, ?_⟩
                · repeat (with_reducible refine Row.drew ?_)
                  exact (HO.out.1.far (by simp; omega) _).far (by simp; omega) _
                · repeat (with_reducible refine Row.drew ?_)
                  refine (HO.out.2.1.store cb (F' := pC Wn (M ++ [(x, y)]) U) (u := 128) ?_ (fun i _ hik => ?_)).far (by simp; omega) _
                  · rw [EA.out.2]; exact pC_at _ _ _ _ _
                  · exact pC_off _ _ _ _ _ _ (by rw [← EA.out.2]; exact hik)
                · repeat (with_reducible refine Row.drew ?_)
                  refine (HO.out.2.2.far (by simp; omega) _).store cb (F' := pC Wn (M ++ [(x, y)]) V) (u := 128) ?_ (fun i _ hik => ?_)
                  · rw [EA.out.2]; exact pC_at _ _ _ _ _
                  · exact pC_off _ _ _ _ _ _ (by rw [← EA.out.2]; exact hik)
              case measure => simp [intOf]; omega
            · have hwd : decide (Wn ≤ x) = true := by simp; omega
              go_wp2_with fail
              go_roundw
              case rel =>
                refine ⟨k + 1, by omega, by go_num, HGI2.out, ?_⟩
                have e : pixS Wn (Hn - 7 + j) lf (gl j) (k + 1) = pixS Wn (Hn - 7 + j) lf (gl j) k := by
                  have h2 : ¬ lf + k < Wn := by have := EX.out; omega
                  simp [pixS, h2]
                rw [e, ← EM.out]; exact HO.out
              case measure => simp [intOf]; omega
        · obtain rfl : k = 3 := by omega
          have hgr2 := HGR.out.trans hgr
          have HO := Lib.hid ho
          have HGI2 := Lib.hid hgr2
          clear ho hgr hgr2
          go_wp2_with fail
          go_roundw
          case rel =>
            refine ⟨j + 1, by omega, by go_num, HGI2.out, ?_⟩
            have e : L ++ pixG Wn (Hn - 7) lf gl (j + 1) = L ++ pixG Wn (Hn - 7) lf gl j ++ pixS Wn (Hn - 7 + j) lf (gl j) 3 := by rw [pixG, List.append_assoc]
            rw [e]; exact HO.out
          case measure => simp [intOf]; omega
    · obtain rfl : j = 5 := by omega
      have HO := Lib.hid ho
      have HGI2 := Lib.hid (OB.out.trans hgr)
      clear ho hgr
      go_wp2_with fail
      go_end0
      exact ⟨rfl, HO.out, HGI2.out⟩

end Go.Proofs.Ytnnobdcbmagbaaa

/- The contracts of validText and cutroomref23.ValidLine. -/
namespace Go.Proofs.Ytnnobdcbmagbaaa
open Go.RowKit
set_option linter.unusedVariables false

theorem okText_no {s : ByteArray} {k : Nat} (h : k < s.size) (hb : sB s k < 32 ∨ 126 < sB s k) : okText s = false := by
  simp only [okText, decide_eq_false_iff_not]
  rintro ⟨_, _, hh⟩
  have := hh k h
  omega
theorem okText_yes {s : ByteArray} (h1 : 1 ≤ s.size) (h2 : s.size ≤ 64) (hh : ∀ i, i < s.size → 32 ≤ sB s i ∧ sB s i ≤ 126) : okText s = true := by
  simp only [okText, decide_eq_true_eq]
  exact ⟨h1, h2, hh⟩
theorem okText_size {s : ByteArray} (h : s.size < 1 ∨ 64 < s.size) : okText s = false := by
  simp only [okText, decide_eq_false_iff_not]
  rintro ⟨_, _, _⟩
  omega

set_option maxHeartbeats 1000000 in
theorem validText_any (s : ByteArray) (w : World) (hm : s.size ≤ 9223372036854775807) :
    Calls Try.prog 58 #[.string s] w fun e w' => e = .returned (.bool (okText s)) ∧ w = w' := by
  by_cases h1 : s.size < 1
  · have HS := Lib.hid (okText_size (Or.inl h1))
    go_enter Try.func58, Try.ntmps58
    go_wp2
    all_goals go_ret
    all_goals exact ⟨ret_bool HS.out.symm, rfl⟩
  by_cases h2 : 64 < s.size
  · have HS := Lib.hid (okText_size (Or.inr h2))
    go_enter Try.func58, Try.ntmps58
    go_wp2
    all_goals go_ret
    all_goals exact ⟨ret_bool HS.out.symm, rfl⟩
  go_enter Try.func58, Try.ntmps58
  go_wp2
  go_loop [14] (fun i => ∃ k : Nat, k ≤ s.size ∧ i = .int .i64 (k : Int) ∧ Hid (∀ i, i < k → 32 ≤ sB s i ∧ sB s i ≤ 126)) (fun i => s.size - (intOf i).toNat)
  case atStart => exact ⟨0, Nat.zero_le _, rfl, Lib.hid (fun i hi => absurd hi (Nat.not_lt_zero i))⟩
  case round =>
    obtain ⟨k, hk, rfl, HA⟩ := hrel
    by_cases hlt : k < s.size
    · have HB := Lib.hid (sB_at s k hlt)
      by_cases b1 : ((s[k].toNat : Nat) : Int) < 32
      · have HN := Lib.hid (okText_no hlt (Or.inl (by rw [HB.out]; exact b1)))
        go_wp2
        all_goals go_ret
        all_goals exact ⟨ret_bool HN.out.symm, rfl⟩
      by_cases b2 : 126 < ((s[k].toNat : Nat) : Int)
      · have HN := Lib.hid (okText_no hlt (Or.inr (by rw [HB.out]; exact b2)))
        go_wp2
        all_goals go_ret
        all_goals exact ⟨ret_bool HN.out.symm, rfl⟩
      have HC := Lib.hid (show ∀ i, i < k + 1 → 32 ≤ sB s i ∧ sB s i ≤ 126 from fun i hi => by
        by_cases e : i = k
        · subst e; rw [HB.out]; omega
        · exact HA.out i (by omega))
      go_wp2
      go_round
      case rel => exact ⟨k + 1, by omega, by go_num, HC⟩
      case measure => simp [intOf]; omega
    · obtain rfl : k = s.size := by omega
      have HY := Lib.hid (okText_yes (by omega) (by omega) HA.out)
      go_wp2
      go_ret
      exact ⟨ret_bool HY.out.symm, rfl⟩

set_option maxHeartbeats 1000000 in
theorem validLine_any (s : ByteArray) (w : World) (hm : s.size ≤ 9223372036854775807) :
    Calls Try.prog 60 #[.string s] w fun e w' => e = .returned (.bool (okText s)) ∧ w = w' := by
  go_enter Try.func60, Try.ntmps60
  go_wp2
  go_loop [3] (fun i => ∃ k : Nat, k ≤ s.size ∧ i = .int .i64 (k : Int) ∧ Hid (∀ i, i < k → 32 ≤ sB s i ∧ sB s i ≤ 126)) (fun i => s.size - (intOf i).toNat)
  case atStart => exact ⟨0, Nat.zero_le _, rfl, Lib.hid (fun i hi => absurd hi (Nat.not_lt_zero i))⟩
  case round =>
    obtain ⟨k, hk, rfl, HA⟩ := hrel
    by_cases hlt : k < s.size
    · have HB := Lib.hid (sB_at s k hlt)
      by_cases b1 : ((s[k].toNat : Nat) : Int) < 32
      · have HN := Lib.hid (okText_no hlt (Or.inl (by rw [HB.out]; exact b1)))
        go_wp2
        all_goals go_ret
        all_goals exact ⟨ret_bool HN.out.symm, rfl⟩
      by_cases b2 : 126 < ((s[k].toNat : Nat) : Int)
      · have HN := Lib.hid (okText_no hlt (Or.inr (by rw [HB.out]; exact b2)))
        go_wp2
        all_goals go_ret
        all_goals exact ⟨ret_bool HN.out.symm, rfl⟩
      have HC := Lib.hid (show ∀ i, i < k + 1 → 32 ≤ sB s i ∧ sB s i ≤ 126 from fun i hi => by
        by_cases e : i = k
        · subst e; rw [HB.out]; omega
        · exact HA.out i (by omega))
      go_wp2
      go_round
      case rel => exact ⟨k + 1, by omega, by go_num, HC⟩
      case measure => simp [intOf]; omega
    · obtain rfl : k = s.size := by omega
      by_cases h1 : s.size < 1
      · have HS := Lib.hid (okText_size (Or.inl h1))
        go_wp2
        all_goals go_ret
        all_goals exact ⟨ret_bool HS.out.symm, rfl⟩
      by_cases h2 : 64 < s.size
      · have HS := Lib.hid (okText_size (Or.inr h2))
        go_wp2
        all_goals go_ret
        all_goals exact ⟨ret_bool (by rw [HS.out]; simp; omega), rfl⟩
      have HY := Lib.hid (okText_yes (by omega) (by omega) HA.out)
      go_wp2
      all_goals go_ret
      all_goals exact ⟨ret_bool (by rw [HY.out]; simp; omega), rfl⟩

end Go.Proofs.Ytnnobdcbmagbaaa

/- The contracts of the greatest common divisors and of rational.Valid. -/
namespace Go.Proofs.Ytnnobdcbmagbaaa
open Go.RowKit
set_option linter.unusedVariables false

theorem gcd_step {a b : Nat} (hb : b ≠ 0) : Nat.gcd b (a % b) = Nat.gcd a b := by
  rw [Nat.gcd_comm a b, Nat.gcd_rec b a, Nat.gcd_comm]

set_option maxHeartbeats 2000000 in
theorem gcd_any (x y : Nat) (w : World) (hx : x < 9223372036854775808) (hy : y < 9223372036854775808) :
    Calls Try.prog 84 #[.int .u64 (x : Int), .int .u64 (y : Int)] w fun e w' => e = .returned (.int .u64 ((Nat.gcd x y : Nat) : Int)) ∧ ∃ m, w' = w.drewN m := by
  obtain ⟨g, hg⟩ : ∃ g, g = Nat.gcd x y := ⟨_, rfl⟩
  rw [← hg]
  replace hg := Lib.hid hg
  go_enter Try.func84, Try.ntmps84
  go_wp2
  go_loopw [0, 1] (fun i j wr => ∃ a b : Nat, i = .int .u64 (a : Int) ∧ j = .int .u64 (b : Int) ∧ a < 9223372036854775808 ∧ b < 9223372036854775808 ∧ Hid (g = Nat.gcd a b) ∧ ∃ m, wr = w.drewN m) (fun i j _ => (intOf j).toNat)
  case atStart => exact ⟨x, y, rfl, rfl, hx, hy, hg, 0, rfl⟩
  case round =>
    obtain ⟨a, b, rfl, rfl, ha, hb, hG, m, rfl⟩ := hrel
    by_cases h0 : b = 0
    · subst h0
      go_wp2
      go_ret
      exact ⟨by rw [hG.out]; simp, m, rfl⟩
    · have e1 : ¬ (b : Int) = 0 := by omega
      have hm := Nat.mod_lt a (Nat.pos_of_ne_zero h0)
      go_wp2
      go_quiet (fail)
      go_wp2
      go_round
      case rel => exact ⟨b, a % b, rfl, by simp, hb, by omega, Lib.hid (by rw [hG.out, gcd_step h0]), m + _, World.drewN_drewN _ _ _⟩
      case measure => simp [intOf]; omega

set_option maxHeartbeats 2000000 in
theorem rgcd_any (x y : Nat) (w : World) (hx : x < 9223372036854775808) (hy : y < 9223372036854775808) :
    Calls Try.prog 80 #[.int .i64 (x : Int), .int .i64 (y : Int)] w fun e w' => e = .returned (.int .i64 ((Nat.gcd x y : Nat) : Int)) ∧ Below w.heap.size w w' := by
  obtain ⟨g, hg⟩ : ∃ g, g = Nat.gcd x y := ⟨_, rfl⟩
  rw [← hg]
  replace hg := Lib.hid hg
  go_enter Try.func80, Try.ntmps80
  go_wp2
  go_loopw [0, 1] (fun i j wr => ∃ a b : Nat, i = .int .i64 (a : Int) ∧ j = .int .i64 (b : Int) ∧ a < 9223372036854775808 ∧ b < 9223372036854775808 ∧ Hid (g = Nat.gcd a b) ∧ Below w.heap.size w wr) (fun i j _ => (intOf j).toNat)
  case atStart => exact ⟨x, y, rfl, rfl, hx, hy, hg, Below.refl _ _⟩
  case round =>
    obtain ⟨a, b, rfl, rfl, ha, hb, hG, hB⟩ := hrel
    by_cases h0 : b = 0
    · subst h0
      go_wp2
      go_ret
      exact ⟨by rw [hG.out]; simp, hB⟩
    · have e1 : ¬ (b : Int) = 0 := by omega
      have hm := Nat.mod_lt a (Nat.pos_of_ne_zero h0)
      have e2 : Int.tmod (a : Int) (b : Int) = ((a % b : Nat) : Int) := by
        rw [Int.ofNat_tmod]
      go_wp2
      go_quiet (fail)
      go_wp2
      go_round
      case rel => exact ⟨b, a % b, rfl, by simp, hb, by omega, Lib.hid (by rw [hG.out, gcd_step h0]), below_drewN hB _⟩
      case measure => simp [intOf]; omega

set_option maxHeartbeats 2000000 in
theorem magnitude_any (x : Nat) (w : World) (hx : x < 9223372036854775808) :
    Calls Try.prog 85 #[.int .i64 (x : Int)] w fun e w' => e = .returned (.int .u64 (x : Int)) ∧ w = w' := by
  go_enter Try.func85, Try.ntmps85
  go_wp2
  all_goals go_ret
  all_goals exact ⟨rfl, rfl⟩


set_option maxHeartbeats 2000000 in
theorem rvalid_rat (x y : Nat) (w : World) (hx : x < 9223372036854775808) (hy : y < 9223372036854775808) (h0 : 1 ≤ y) :
    Calls Try.prog 82 #[.agg #[.int .i64 (x : Int), .int .i64 (y : Int)]] w fun e w' => e = .returned (.bool (Nat.gcd x y == 1)) ∧ Below w.heap.size w w' := by
  have e1 : ((1 : Int) ≤ (y : Int)) := by omega
  have e2 : (-9223372036854775808 < (x : Int)) := by omega
  have e3 : decide ((1 : Int) ≤ (y : Int)) = true := by simp; omega
  have e4 : decide (-9223372036854775808 < (x : Int)) = true := by simp; omega
  go_enter Try.func82, Try.ntmps82
  go_wp2
  go_quiet (first
    | (go_at_call 85; exact Calls.quiet_of_same ((magnitude_any x _ hx).mono fun e w' h => ⟨h.1, h.2.symm⟩))
    | (go_at_call 84; exact Calls.quiet_of (gcd_any x y _ hx hy)))
  go_wp2
  go_ret
  exact ⟨ret_bool (by rw [Bool.eq_iff_iff]; simp; omega), below_drewN (below_box w _) _⟩

def okRatio (num den : Int) : Bool := decide (0 < num ∧ num < den ∧ den ≤ 2147483648) && Nat.gcd num.toNat den.toNat == 1
theorem okRatio_no {n d : Int} (h : ¬ (0 < n ∧ n < d ∧ d ≤ 2147483648)) : okRatio n d = false := by
  simp only [okRatio, decide_eq_false h, Bool.false_and]
theorem okRatio_yes {x y : Nat} (h : 0 < (x : Int) ∧ (x : Int) < y ∧ (y : Int) ≤ 2147483648) : okRatio (x : Int) (y : Int) = (Nat.gcd x y == 1) := by
  simp only [okRatio, decide_eq_true h, Bool.true_and, Int.toNat_natCast]

set_option maxHeartbeats 2000000 in
theorem share_any (op n d par fr : Int) (m t : ByteArray) (s : Value) (w : World) :
    Calls Try.prog 78 #[.agg #[.int .i64 op, .string m, .int .i64 fr, .int .i64 n, .int .i64 d, .int .i64 par, .string t, s]] w fun e w' => e = .returned (.bool (okRatio n d)) ∧ Below w.heap.size w w' := by
  by_cases h : 0 < n ∧ n < d ∧ d ≤ 2147483648
  · obtain ⟨h1, h2, h3⟩ := h
    obtain ⟨x, rfl⟩ : ∃ x : Nat, n = x := ⟨n.toNat, by omega⟩
    obtain ⟨y, rfl⟩ : ∃ x : Nat, d = x := ⟨d.toNat, by omega⟩
    have HO := Lib.hid (okRatio_yes ⟨h1, h2, h3⟩)
    have hx : x < 9223372036854775808 := by omega
    have hy : y < 9223372036854775808 := by omega
    have hy1 : 1 ≤ y := by omega
    go_enter Try.func78, Try.ntmps78
    go_wp2_with fail
    refine (rvalid_rat x y _ hx hy hy1).mono ?_
    rintro e w1 ⟨rfl, hb⟩
    have W1 := (below_box w _).trans (hb.mono (by simp))
    go_wp2
    go_ret
    exact ⟨ret_bool HO.out.symm, W1⟩
  · have HO := Lib.hid (okRatio_no h)
    by_cases h1 : 0 < n
    · by_cases h2 : n < d
      · have h3 : ¬ d ≤ 2147483648 := fun h3 => h ⟨h1, h2, h3⟩
        go_enter Try.func78, Try.ntmps78
        go_wp2
        go_ret
        exact ⟨ret_bool HO.out.symm, by go_grown⟩
      · go_enter Try.func78, Try.ntmps78
        go_wp2
        go_ret
        exact ⟨ret_bool HO.out.symm, by go_grown⟩
    · go_enter Try.func78, Try.ntmps78
      go_wp2
      go_ret
      exact ⟨ret_bool HO.out.symm, by go_grown⟩

set_option maxHeartbeats 2000000 in
theorem rshare_any (op n d par fr : Int) (m t : ByteArray) (s : Value) (w : World) :
    Calls Try.prog 73 #[.agg #[.int .i64 op, .string m, .int .i64 fr, .int .i64 n, .int .i64 d, .int .i64 par, .string t, s]] w fun e w' => e = .returned (.bool (okRatio n d)) ∧ Below w.heap.size w w' := by
  by_cases h : 0 < n ∧ n < d ∧ d ≤ 2147483648
  · obtain ⟨h1, h2, h3⟩ := h
    obtain ⟨x, rfl⟩ : ∃ x : Nat, n = x := ⟨n.toNat, by omega⟩
    obtain ⟨y, rfl⟩ : ∃ x : Nat, d = x := ⟨d.toNat, by omega⟩
    have HO := Lib.hid (okRatio_yes ⟨h1, h2, h3⟩)
    have hx : x < 9223372036854775808 := by omega
    have hy : y < 9223372036854775808 := by omega
    go_enter Try.func73, Try.ntmps73
    go_wp2_with fail
    refine (rgcd_any x y _ hx hy).mono ?_
    rintro e w1 ⟨rfl, hb⟩
    have W1 := (below_box w _).trans (hb.mono (by simp))
    go_wp2
    go_ret
    exact ⟨ret_bool (by rw [HO.out, Bool.eq_iff_iff]; simp; omega), W1⟩
  · have HO := Lib.hid (okRatio_no h)
    by_cases h1 : 0 < n
    · by_cases h2 : n < d
      · have h3 : ¬ d ≤ 2147483648 := fun h3 => h ⟨h1, h2, h3⟩
        go_enter Try.func73, Try.ntmps73
        go_wp2
        go_ret
        exact ⟨ret_bool HO.out.symm, by go_grown⟩
      · go_enter Try.func73, Try.ntmps73
        go_wp2
        go_ret
        exact ⟨ret_bool HO.out.symm, by go_grown⟩
    · go_enter Try.func73, Try.ntmps73
      go_wp2
      go_ret
      exact ⟨ret_bool HO.out.symm, by go_grown⟩

end Go.Proofs.Ytnnobdcbmagbaaa

/- Expressions as data: how values read as expressions, and which expressions are valid. -/
namespace Go.Proofs.Ytnnobdcbmagbaaa
open Go.RowKit
set_option linter.unusedVariables false

/-- The fields of an expression other than its arguments, and how many arguments it has. -/
structure Fld where
  op : Int
  media : ByteArray
  frame : Int
  num : Int
  den : Int
  par : Int
  text : ByteArray
  n : Nat
def Fld.val (f : Fld) (s : Value) : Value := .agg #[.int .i64 f.op, .string f.media, .int .i64 f.frame, .int .i64 f.num, .int .i64 f.den, .int .i64 f.par, .string f.text, s]
/-- The lengths of strings and lists are numbers of the language. -/
structure Fld.fit (f : Fld) : Prop where
  m : f.media.size ≤ 9223372036854775807
  t : f.text.size ≤ 9223372036854775807
  n : f.n ≤ 9223372036854775807

inductive Ex where
  | nil
  | mk (f : Fld) (a : Nat → Ex)
def Ex.f : Ex → Fld
  | .nil => ⟨0, ByteArray.empty, 0, 0, 0, 0, ByteArray.empty, 0⟩
  | .mk f _ => f

/-- The eight cells of an expression. -/
def cells8 (f : Fld) (s : Value) (j : Nat) : Option Value := (#[Value.int .i64 f.op, .string f.media, .int .i64 f.frame, .int .i64 f.num, .int .i64 f.den, .int .i64 f.par, .string f.text, s] : Array Value)[j]?

theorem cells8_some (f : Fld) (s : Value) {j : Nat} (hj : j < 8) : ∃ v, cells8 f s j = some v := by
  match j, hj with
  | 0, _ => exact ⟨_, rfl⟩
  | 1, _ => exact ⟨_, rfl⟩
  | 2, _ => exact ⟨_, rfl⟩
  | 3, _ => exact ⟨_, rfl⟩
  | 4, _ => exact ⟨_, rfl⟩
  | 5, _ => exact ⟨_, rfl⟩
  | 6, _ => exact ⟨_, rfl⟩
  | 7, _ => exact ⟨_, rfl⟩

/-- A value that reads as an expression; all its parts lie in the world. -/
inductive XA (w : World) : Value → Ex → Prop where
  | mk (f : Fld) (a : Nat → Ex) (ao : Option Addr) (c : Nat) (g : Nat → Value) (hf : f.fit) (hc : f.n ≤ c)
      (hcell : ∀ i, i < f.n → ∃ b o, ao = some ⟨b, o, none⟩ ∧ ∀ j, j < 8 → w.cell? ⟨b, o + i * 8 + j, none⟩ = cells8 (a i).f (g i) j)
      (hsub : ∀ i, i < f.n → XA w ((a i).f.val (g i)) (a i)) :
      XA w (f.val (.slice ao f.n c)) (.mk f a)
theorem XA.bel {w w' : World} {v : Value} {e : Ex} (h : XA w v e) (hb : Below w.heap.size w w') : XA w' v e := by
  induction h with
  | mk f a ao c g hf hc hcell hsub ih =>
    refine .mk f a ao c g hf hc (fun i hi => ?_) (fun i hi => ih i hi)
    obtain ⟨b, o, e, h⟩ := hcell i hi
    refine ⟨b, o, e, fun j hj => ?_⟩
    obtain ⟨v, hv⟩ := cells8_some (a i).f (g i) hj
    exact (hb.cell (p := ⟨b, o + i * 8 + j, none⟩) (block_lt_of_cell ((h j hj).trans hv))).trans (h j hj)

def okB (c : Int) : Bool := decide ((97 ≤ c ∧ c ≤ 122) ∨ (48 ≤ c ∧ c ≤ 57) ∨ c = 45 ∨ c = 95 ∨ c = 46)
def okName (s : ByteArray) : Bool := decide (1 ≤ s.size ∧ s.size ≤ 32 ∧ ∀ i, i < s.size → okB (sB s i) = true)
def okFld (f : Fld) : Bool :=
  if f.op = 0 then decide (f.media.size = 0 ∧ f.frame = 0 ∧ f.num = 0 ∧ f.den = 0 ∧ f.par = 0 ∧ f.text.size = 0 ∧ f.n = 0)
  else if f.op = 1 then okName f.media && decide (0 ≤ f.frame ∧ f.frame ≤ 2147483646 ∧ f.num = 0 ∧ f.den = 0 ∧ f.par = 0 ∧ f.text.size = 0 ∧ f.n = 0)
  else if f.op = 2 then okRatio f.num f.den && decide (f.media.size = 0 ∧ f.frame = 0 ∧ f.par = 0 ∧ f.text.size = 0 ∧ f.n = 2)
  else if f.op = 3 then okRatio f.num f.den && decide (f.media.size = 0 ∧ f.frame = 0 ∧ 0 ≤ f.par ∧ f.par ≤ 3 ∧ f.text.size = 0 ∧ f.n = 2)
  else if f.op = 4 then decide (f.media.size = 0 ∧ f.frame = 0 ∧ f.num = 0 ∧ f.den = 0 ∧ 0 ≤ f.par ∧ f.par ≤ 255 ∧ f.text.size = 0 ∧ f.n = 2)
  else if f.op = 5 then okText f.text && decide (f.media.size = 0 ∧ f.frame = 0 ∧ f.num = 0 ∧ f.den = 0 ∧ f.par = 0 ∧ f.n = 1)
  else false
def okX : Ex → Bool
  | .nil => false
  | .mk f a => okFld f && (List.range f.n).all fun i => okX (a i)

end Go.Proofs.Ytnnobdcbmagbaaa
