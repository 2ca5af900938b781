/- The contract of cutroomlaw26.ComposeGlyphs: it answers true. -/
import Derived.Test.YtnnobdcbmagbaaaT
import Derived.Test.YtnnobdcbmagbaaaW
import Derived.Test.YtnnobdcbmagbaaaX
namespace Go.Proofs.Ytnnobdcbmagbaaa
open Go.RowKit

theorem glyph_any (c : Int) (w : World) (h0 : 0 ≤ c) (h1 : c < 256) : Calls Try.prog 28 #[.int .u8 c] w fun e w' => e = .returned (glyphV c) ∧ Below w.heap.size w w' := by
  by_cases h2 : c < 97
  · exact glyph_low c w h0 h1 h2
  · by_cases h3 : c ≤ 122
    · exact glyph_mid c w h0 h1 (by omega) h3
    · exact glyph_high c w h0 h1 (by omega) (by omega)

theorem rglyph_any (c : Int) (w : World) (h0 : 0 ≤ c) (h1 : c < 256) : Calls Try.prog 29 #[.int .u8 c] w fun e w' => e = .returned (glyphV c) ∧ Below w.heap.size w w' := by
  by_cases h2 : c < 97
  · exact rglyph_low c w h0 h1 h2
  · by_cases h3 : c ≤ 122
    · exact rglyph_mid c w h0 h1 (by omega) h3
    · exact rglyph_high c w h0 h1 (by omega) (by omega)

theorem rows_keys : ((List.range 43).all fun k => (Try.prog.keyLits 4 49 [.int .i64 (rowAt k 0), .int .i64 (rowAt k 1), .int .i64 (rowAt k 2), .int .i64 (rowAt k 3), .int .i64 (rowAt k 4)]).isSome) = true := by kernel_rfl

theorem glyphV_shape (c : Int) : ∃ r0 r1 r2 r3 r4 : Int, glyphV c = .agg #[.int .i64 r0, .int .i64 r1, .int .i64 r2, .int .i64 r3, .int .i64 r4] ∧ (0 ≤ r0 ∧ r0 ≤ 7) ∧ (0 ≤ r1 ∧ r1 ≤ 7) ∧ (0 ≤ r2 ∧ r2 ≤ 7) ∧ (0 ≤ r3 ∧ r3 ≤ 7) ∧ (0 ≤ r4 ∧ r4 ≤ 7) ∧ (Try.prog.keyLits 4 49 [.int .i64 r0, .int .i64 r1, .int .i64 r2, .int .i64 r3, .int .i64 r4]).isSome = true := by
  unfold glyphV
  cases h : glyphK c with
  | none => exact ⟨7, 7, 7, 7, 7, rfl, by omega, by omega, by omega, by omega, by omega, by kernel_rfl⟩
  | some k =>
    have hk : k < 43 := by
      unfold glyphK at h
      rw [List.find?_range_eq_some] at h
      simpa using h.2.1
    have b0 := fl_bd (6 * k + 1 + 0) (by omega)
    have b1 := fl_bd (6 * k + 1 + 1) (by omega)
    have b2 := fl_bd (6 * k + 1 + 2) (by omega)
    have b3 := fl_bd (6 * k + 1 + 3) (by omega)
    have b4 := fl_bd (6 * k + 1 + 4) (by omega)
    refine ⟨rowAt k 0, rowAt k 1, rowAt k 2, rowAt k 3, rowAt k 4, rfl, ?_, ?_, ?_, ?_, ?_, List.all_eq_true.mp rows_keys k (by simpa using hk)⟩
    all_goals unfold rowAt; omega

theorem glyphV_upper {c : Int} (h2 : 97 ≤ c) (h3 : c ≤ 122) : glyphV (c - 32) = glyphV c := by
  have e : upper (c - 32) = upper c := by unfold upper; rw [if_neg (by omega), if_pos (by omega)]
  unfold glyphV glyphK
  rw [e]

theorem eq_rows (r0 r1 r2 r3 r4 : Int) (hk : (Try.prog.keyLits 4 49 [.int .i64 r0, .int .i64 r1, .int .i64 r2, .int .i64 r3, .int .i64 r4]).isSome = true) (w : World) : (Op.equalIn 10000 49 (.agg #[.int .i64 r0, .int .i64 r1, .int .i64 r2, .int .i64 r3, .int .i64 r4]) (.agg #[.int .i64 r0, .int .i64 r1, .int .i64 r2, .int .i64 r3, .int .i64 r4])).run Try.prog w = .ok true w := by
  obtain ⟨la, hl⟩ := Option.isSome_iff_exists.mp hk
  obtain ⟨r, hr, hi⟩ := run_equalIn_deep (P := Try.prog) 9998 2 49 (by kernel_rfl) w 4 4 (.agg #[.int .i64 r0, .int .i64 r1, .int .i64 r2, .int .i64 r3, .int .i64 r4]) (.agg #[.int .i64 r0, .int .i64 r1, .int .i64 r2, .int .i64 r3, .int .i64 r4]) la la (by kernel_rfl) (by kernel_rfl) hl hl
  rw [hi.mpr rfl] at hr
  exact hr

set_option maxRecDepth 100000 in
set_option maxHeartbeats 4000000 in
theorem law_glyphs_low (c : Int) (w : World) (h0 : 0 ≤ c) (h1 : c < 256) (h2 : c < 97) : Calls Try.prog 11 #[.int .u8 c] w fun e w' => e = .returned (.bool true) ∧ Below w.heap.size w w' := by
  obtain ⟨r0, r1, r2, r3, r4, hg, ⟨x0, y0⟩, ⟨x1, y1⟩, ⟨x2, y2⟩, ⟨x3, y3⟩, ⟨x4, y4⟩, hkl⟩ := glyphV_shape c
  have heq := eq_rows r0 r1 r2 r3 r4 hkl
  clear hkl
  have HG := Lib.hid hg
  clear hg
  go_enter Try.func11, Try.ntmps11
  go_wp2_with fail
  refine (glyph_any c _ h0 h1).mono ?_
  rintro e w1 ⟨rfl, hb1⟩
  rw [HG.out]
  go_wp2_with fail
  refine wp_loop_rounds 6 ?_
  iterate 6
    rw [rounds_succ]
    go_wp2_with fail
  generalize hw2 : w1.alloc _ = w2
  have hsz : w2.heap.size = w1.heap.size + 1 := by rw [← hw2]; simp
  have c0 : w2.cell? ⟨w1.heap.size, 0, none⟩ = some (.int .i64 r0) := by rw [← hw2]; simp [go_sem]
  have c1 : w2.cell? ⟨w1.heap.size, 1, none⟩ = some (.int .i64 r1) := by rw [← hw2]; simp [go_sem]
  have c2 : w2.cell? ⟨w1.heap.size, 2, none⟩ = some (.int .i64 r2) := by rw [← hw2]; simp [go_sem]
  have c3 : w2.cell? ⟨w1.heap.size, 3, none⟩ = some (.int .i64 r3) := by rw [← hw2]; simp [go_sem]
  have c4 : w2.cell? ⟨w1.heap.size, 4, none⟩ = some (.int .i64 r4) := by rw [← hw2]; simp [go_sem]
  have hb2 : Below w1.heap.size w1 w2 := by rw [← hw2]; exact below_box _ _
  have HZ := Lib.hid hsz
  have W2 := Lib.hid (hb1.trans (hb2.mono hb1.size))
  have n1 := Lib.hid hb1.size
  clear hw2 hsz hb1 hb2
  refine Plan.wp_region_plan (fun w' => Below (w1.heap.size + 1) w2 w') (([0, 1].map (·, true)) ++ (([2].map (·, false)) ++ (([3, 4, 5, 6, 7, 8, 9, 10, 11, 12, 13, 14].map (·, true)) ++ (([15].map (·, false)) ++ (([16, 17, 18, 19].map (·, true)) ++ (([20].map (·, false)) ++ (([21, 22].map (·, true))))))))) (by kernel_rfl) (by kernel_rfl) (by kernel_rfl) (Below.refl _ _).drew ?_
  refine' Plan.plan_seg _ [0, 1] (([2].map (·, false)) ++ (([3, 4, 5, 6, 7, 8, 9, 10, 11, 12, 13, 14].map (·, true)) ++ (([15].map (·, false)) ++ (([16, 17, 18, 19].map (·, true)) ++ (([20].map (·, false)) ++ (([21, 22].map (·, true)))))))) (by kernel_rfl) (by kernel_rfl) rfl (by exact (Below.refl _ _).drew) (fun wx hS => ?_) ?_
  rotate_left
  · have k0 := (hS.cell (p := ⟨w1.heap.size, 0, none⟩) (by simp)).trans c0
    have k1 := (hS.cell (p := ⟨w1.heap.size, 1, none⟩) (by simp)).trans c1
    have k2 := (hS.cell (p := ⟨w1.heap.size, 2, none⟩) (by simp)).trans c2
    have k3 := (hS.cell (p := ⟨w1.heap.size, 3, none⟩) (by simp)).trans c3
    have k4 := (hS.cell (p := ⟨w1.heap.size, 4, none⟩) (by simp)).trans c4
    clear hS
    iterate 2 (apply Plan.seg_pick; rfl; intro K hK; go_wp)
    exact Plan.seg_nil
  refine Plan.plan_of_effect rfl (fun K hK => ?_)
  go_wp2_with fail
  refine (rglyph_any c _ h0 h1).mono ?_
  rintro e w3 ⟨rfl, hb3⟩
  rw [HG.out]
  have s3 : Below (w1.heap.size + 1) w2 w3 := (Below.refl _ _).drew.trans (hb3.mono (by have : w2.drew.heap.size = w1.heap.size + 1 := HZ.out; omega))
  have S3 := Lib.hid s3
  have m3 := s3.size
  rw [HZ.out] at m3
  clear s3 hb3
  go_wp2_with fail
  refine ⟨S3.out, ?_⟩
  refine' Plan.plan_seg _ [3, 4, 5, 6, 7, 8, 9, 10, 11, 12, 13, 14] (([15].map (·, false)) ++ (([16, 17, 18, 19].map (·, true)) ++ (([20].map (·, false)) ++ (([21, 22].map (·, true)))))) (by kernel_rfl) (by kernel_rfl) rfl (by exact S3.out) (fun wx hS => ?_) ?_
  rotate_left
  · have k0 := (hS.cell (p := ⟨w1.heap.size, 0, none⟩) (by simp)).trans c0
    have k1 := (hS.cell (p := ⟨w1.heap.size, 1, none⟩) (by simp)).trans c1
    have k2 := (hS.cell (p := ⟨w1.heap.size, 2, none⟩) (by simp)).trans c2
    have k3 := (hS.cell (p := ⟨w1.heap.size, 3, none⟩) (by simp)).trans c3
    have k4 := (hS.cell (p := ⟨w1.heap.size, 4, none⟩) (by simp)).trans c4
    clear hS
    iterate 12 (apply Plan.seg_pick; rfl; intro K hK; go_wp)
    exact Plan.seg_nil
  refine Plan.plan_of_effect rfl (fun K hK => ?_)
  go_wp2_with fail
  refine ⟨S3.out, ?_⟩
  refine' Plan.plan_seg _ [16, 17, 18, 19] (([20].map (·, false)) ++ (([21, 22].map (·, true)))) (by kernel_rfl) (by kernel_rfl) rfl (by exact S3.out) (fun wx hS => ?_) ?_
  rotate_left
  · clear hS
    iterate 4 (apply Plan.seg_pick; rfl; intro K hK; go_wp)
    exact Plan.seg_nil
  refine Plan.plan_of_effect rfl (fun K hK => ?_)
  go_wp2_with fail
  refine (awake_any _).mono ?_
  rintro e w5 ⟨rfl, hb5⟩
  have S5 := Lib.hid (S3.out.trans (hb5.mono m3))
  clear hb5
  go_wp2_with fail
  refine ⟨S5.out, ?_⟩
  refine' Plan.plan_seg _ [21, 22] ([]) (by kernel_rfl) (by kernel_rfl) rfl (by exact S5.out) (fun wx hS => ?_) ?_
  rotate_left
  · clear hS
    iterate 2 (apply Plan.seg_pick; rfl; intro K hK; go_wp)
    exact Plan.seg_nil
  refine Plan.plan_done ?_
  go_wp2_with fail
  go_ret
  exact ⟨rfl, W2.out.trans (S5.out.mono (by have := n1.out; omega))⟩

set_option maxRecDepth 100000 in
set_option maxHeartbeats 4000000 in
theorem law_glyphs_mid (c : Int) (w : World) (h0 : 0 ≤ c) (h1 : c < 256) (h2 : 97 ≤ c) (h3 : c ≤ 122) : Calls Try.prog 11 #[.int .u8 c] w fun e w' => e = .returned (.bool true) ∧ Below w.heap.size w w' := by
  obtain ⟨r0, r1, r2, r3, r4, hg, ⟨x0, y0⟩, ⟨x1, y1⟩, ⟨x2, y2⟩, ⟨x3, y3⟩, ⟨x4, y4⟩, hkl⟩ := glyphV_shape c
  have heq := eq_rows r0 r1 r2 r3 r4 hkl
  clear hkl
  have hg2 : glyphV (c - 32) = glyphV c := glyphV_upper h2 h3
  have HG2 := Lib.hid hg2
  clear hg2
  have HG := Lib.hid hg
  clear hg
  go_enter Try.func11, Try.ntmps11
  go_wp2_with fail
  refine (glyph_any c _ h0 h1).mono ?_
  rintro e w1 ⟨rfl, hb1⟩
  rw [HG.out]
  go_wp2_with fail
  refine wp_loop_rounds 6 ?_
  iterate 6
    rw [rounds_succ]
    go_wp2_with fail
  generalize hw2 : w1.alloc _ = w2
  have hsz : w2.heap.size = w1.heap.size + 1 := by rw [← hw2]; simp
  have c0 : w2.cell? ⟨w1.heap.size, 0, none⟩ = some (.int .i64 r0) := by rw [← hw2]; simp [go_sem]
  have c1 : w2.cell? ⟨w1.heap.size, 1, none⟩ = some (.int .i64 r1) := by rw [← hw2]; simp [go_sem]
  have c2 : w2.cell? ⟨w1.heap.size, 2, none⟩ = some (.int .i64 r2) := by rw [← hw2]; simp [go_sem]
  have c3 : w2.cell? ⟨w1.heap.size, 3, none⟩ = some (.int .i64 r3) := by rw [← hw2]; simp [go_sem]
  have c4 : w2.cell? ⟨w1.heap.size, 4, none⟩ = some (.int .i64 r4) := by rw [← hw2]; simp [go_sem]
  have hb2 : Below w1.heap.size w1 w2 := by rw [← hw2]; exact below_box _ _
  have HZ := Lib.hid hsz
  have W2 := Lib.hid (hb1.trans (hb2.mono hb1.size))
  have n1 := Lib.hid hb1.size
  clear hw2 hsz hb1 hb2
  refine Plan.wp_region_plan (fun w' => Below (w1.heap.size + 1) w2 w') (([0, 1].map (·, true)) ++ (([2].map (·, false)) ++ (([3, 4, 5, 6, 7, 8, 9, 10, 11, 12, 13, 14].map (·, true)) ++ (([15].map (·, false)) ++ (([16, 17, 18, 19].map (·, true)) ++ (([20].map (·, false)) ++ (([21, 22].map (·, true))))))))) (by kernel_rfl) (by kernel_rfl) (by kernel_rfl) (Below.refl _ _).drew ?_
  refine' Plan.plan_seg _ [0, 1] (([2].map (·, false)) ++ (([3, 4, 5, 6, 7, 8, 9, 10, 11, 12, 13, 14].map (·, true)) ++ (([15].map (·, false)) ++ (([16, 17, 18, 19].map (·, true)) ++ (([20].map (·, false)) ++ (([21, 22].map (·, true)))))))) (by kernel_rfl) (by kernel_rfl) rfl (by exact (Below.refl _ _).drew) (fun wx hS => ?_) ?_
  rotate_left
  · have k0 := (hS.cell (p := ⟨w1.heap.size, 0, none⟩) (by simp)).trans c0
    have k1 := (hS.cell (p := ⟨w1.heap.size, 1, none⟩) (by simp)).trans c1
    have k2 := (hS.cell (p := ⟨w1.heap.size, 2, none⟩) (by simp)).trans c2
    have k3 := (hS.cell (p := ⟨w1.heap.size, 3, none⟩) (by simp)).trans c3
    have k4 := (hS.cell (p := ⟨w1.heap.size, 4, none⟩) (by simp)).trans c4
    clear hS
    iterate 2 (apply Plan.seg_pick; rfl; intro K hK; go_wp)
    exact Plan.seg_nil
  refine Plan.plan_of_effect rfl (fun K hK => ?_)
  go_wp2_with fail
  refine (rglyph_any c _ h0 h1).mono ?_
  rintro e w3 ⟨rfl, hb3⟩
  rw [HG.out]
  have s3 : Below (w1.heap.size + 1) w2 w3 := (Below.refl _ _).drew.trans (hb3.mono (by have : w2.drew.heap.size = w1.heap.size + 1 := HZ.out; omega))
  have S3 := Lib.hid s3
  have m3 := s3.size
  rw [HZ.out] at m3
  clear s3 hb3
  go_wp2_with fail
  refine ⟨S3.out, ?_⟩
  refine' Plan.plan_seg _ [3, 4, 5, 6, 7, 8, 9, 10, 11, 12, 13, 14] (([15].map (·, false)) ++ (([16, 17, 18, 19].map (·, true)) ++ (([20].map (·, false)) ++ (([21, 22].map (·, true)))))) (by kernel_rfl) (by kernel_rfl) rfl (by exact S3.out) (fun wx hS => ?_) ?_
  rotate_left
  · have k0 := (hS.cell (p := ⟨w1.heap.size, 0, none⟩) (by simp)).trans c0
    have k1 := (hS.cell (p := ⟨w1.heap.size, 1, none⟩) (by simp)).trans c1
    have k2 := (hS.cell (p := ⟨w1.heap.size, 2, none⟩) (by simp)).trans c2
    have k3 := (hS.cell (p := ⟨w1.heap.size, 3, none⟩) (by simp)).trans c3
    have k4 := (hS.cell (p := ⟨w1.heap.size, 4, none⟩) (by simp)).trans c4
    clear hS
    iterate 12 (apply Plan.seg_pick; rfl; intro K hK; go_wp)
    exact Plan.seg_nil
  refine Plan.plan_of_effect rfl (fun K hK => ?_)
  go_wp2_with fail
  refine (glyph_any (c - 32) _ (by omega) (by omega)).mono ?_
  rintro e w4 ⟨rfl, hb4⟩
  rw [HG2.out, HG.out]
  have s4 : Below (w1.heap.size + 1) w2 w4 := S3.out.trans (hb4.mono m3)
  have S4 := Lib.hid s4
  have m4 := s4.size
  rw [HZ.out] at m4
  clear s4 hb4
  go_wp2_with fail
  refine ⟨S4.out, ?_⟩
  refine' Plan.plan_seg _ [16, 17, 18, 19] (([20].map (·, false)) ++ (([21, 22].map (·, true)))) (by kernel_rfl) (by kernel_rfl) rfl (by exact S4.out) (fun wx hS => ?_) ?_
  rotate_left
  · clear hS
    iterate 4 (apply Plan.seg_pick; rfl; intro K hK; go_wp)
    exact Plan.seg_nil
  refine Plan.plan_of_effect rfl (fun K hK => ?_)
  go_wp2_with fail
  refine (awake_any _).mono ?_
  rintro e w5 ⟨rfl, hb5⟩
  have S5 := Lib.hid (S4.out.trans (hb5.mono m4))
  clear hb5
  go_wp2_with fail
  refine ⟨S5.out, ?_⟩
  refine' Plan.plan_seg _ [21, 22] ([]) (by kernel_rfl) (by kernel_rfl) rfl (by exact S5.out) (fun wx hS => ?_) ?_
  rotate_left
  · clear hS
    iterate 2 (apply Plan.seg_pick; rfl; intro K hK; go_wp)
    exact Plan.seg_nil
  refine Plan.plan_done ?_
  go_wp2_with fail
  go_ret
  exact ⟨rfl, W2.out.trans (S5.out.mono (by have := n1.out; omega))⟩

set_option maxRecDepth 100000 in
set_option maxHeartbeats 4000000 in
theorem law_glyphs_high (c : Int) (w : World) (h0 : 0 ≤ c) (h1 : c < 256) (h2 : 97 ≤ c) (h3 : 122 < c) : Calls Try.prog 11 #[.int .u8 c] w fun e w' => e = .returned (.bool true) ∧ Below w.heap.size w w' := by
  obtain ⟨r0, r1, r2, r3, r4, hg, ⟨x0, y0⟩, ⟨x1, y1⟩, ⟨x2, y2⟩, ⟨x3, y3⟩, ⟨x4, y4⟩, hkl⟩ := glyphV_shape c
  have heq := eq_rows r0 r1 r2 r3 r4 hkl
  clear hkl
  have HG := Lib.hid hg
  clear hg
  go_enter Try.func11, Try.ntmps11
  go_wp2_with fail
  refine (glyph_any c _ h0 h1).mono ?_
  rintro e w1 ⟨rfl, hb1⟩
  rw [HG.out]
  go_wp2_with fail
  refine wp_loop_rounds 6 ?_
  iterate 6
    rw [rounds_succ]
    go_wp2_with fail
  generalize hw2 : w1.alloc _ = w2
  have hsz : w2.heap.size = w1.heap.size + 1 := by rw [← hw2]; simp
  have c0 : w2.cell? ⟨w1.heap.size, 0, none⟩ = some (.int .i64 r0) := by rw [← hw2]; simp [go_sem]
  have c1 : w2.cell? ⟨w1.heap.size, 1, none⟩ = some (.int .i64 r1) := by rw [← hw2]; simp [go_sem]
  have c2 : w2.cell? ⟨w1.heap.size, 2, none⟩ = some (.int .i64 r2) := by rw [← hw2]; simp [go_sem]
  have c3 : w2.cell? ⟨w1.heap.size, 3, none⟩ = some (.int .i64 r3) := by rw [← hw2]; simp [go_sem]
  have c4 : w2.cell? ⟨w1.heap.size, 4, none⟩ = some (.int .i64 r4) := by rw [← hw2]; simp [go_sem]
  have hb2 : Below w1.heap.size w1 w2 := by rw [← hw2]; exact below_box _ _
  have HZ := Lib.hid hsz
  have W2 := Lib.hid (hb1.trans (hb2.mono hb1.size))
  have n1 := Lib.hid hb1.size
  clear hw2 hsz hb1 hb2
  refine Plan.wp_region_plan (fun w' => Below (w1.heap.size + 1) w2 w') (([0, 1].map (·, true)) ++ (([2].map (·, false)) ++ (([3, 4, 5, 6, 7, 8, 9, 10, 11, 12, 13, 14].map (·, true)) ++ (([15].map (·, false)) ++ (([16, 17, 18, 19].map (·, true)) ++ (([20].map (·, false)) ++ (([21, 22].map (·, true))))))))) (by kernel_rfl) (by kernel_rfl) (by kernel_rfl) (Below.refl _ _).drew ?_
  refine' Plan.plan_seg _ [0, 1] (([2].map (·, false)) ++ (([3, 4, 5, 6, 7, 8, 9, 10, 11, 12, 13, 14].map (·, true)) ++ (([15].map (·, false)) ++ (([16, 17, 18, 19].map (·, true)) ++ (([20].map (·, false)) ++ (([21, 22].map (·, true)))))))) (by kernel_rfl) (by kernel_rfl) rfl (by exact (Below.refl _ _).drew) (fun wx hS => ?_) ?_
  rotate_left
  · have k0 := (hS.cell (p := ⟨w1.heap.size, 0, none⟩) (by simp)).trans c0
    have k1 := (hS.cell (p := ⟨w1.heap.size, 1, none⟩) (by simp)).trans c1
    have k2 := (hS.cell (p := ⟨w1.heap.size, 2, none⟩) (by simp)).trans c2
    have k3 := (hS.cell (p := ⟨w1.heap.size, 3, none⟩) (by simp)).trans c3
    have k4 := (hS.cell (p := ⟨w1.heap.size, 4, none⟩) (by simp)).trans c4
    clear hS
    iterate 2 (apply Plan.seg_pick; rfl; intro K hK; go_wp)
    exact Plan.seg_nil
  refine Plan.plan_of_effect rfl (fun K hK => ?_)
  go_wp2_with fail
  refine (rglyph_any c _ h0 h1).mono ?_
  rintro e w3 ⟨rfl, hb3⟩
  rw [HG.out]
  have s3 : Below (w1.heap.size + 1) w2 w3 := (Below.refl _ _).drew.trans (hb3.mono (by have : w2.drew.heap.size = w1.heap.size + 1 := HZ.out; omega))
  have S3 := Lib.hid s3
  have m3 := s3.size
  rw [HZ.out] at m3
  clear s3 hb3
  go_wp2_with fail
  refine ⟨S3.out, ?_⟩
  refine' Plan.plan_seg _ [3, 4, 5, 6, 7, 8, 9, 10, 11, 12, 13, 14] (([15].map (·, false)) ++ (([16, 17, 18, 19].map (·, true)) ++ (([20].map (·, false)) ++ (([21, 22].map (·, true)))))) (by kernel_rfl) (by kernel_rfl) rfl (by exact S3.out) (fun wx hS => ?_) ?_
  rotate_left
  · have k0 := (hS.cell (p := ⟨w1.heap.size, 0, none⟩) (by simp)).trans c0
    have k1 := (hS.cell (p := ⟨w1.heap.size, 1, none⟩) (by simp)).trans c1
    have k2 := (hS.cell (p := ⟨w1.heap.size, 2, none⟩) (by simp)).trans c2
    have k3 := (hS.cell (p := ⟨w1.heap.size, 3, none⟩) (by simp)).trans c3
    have k4 := (hS.cell (p := ⟨w1.heap.size, 4, none⟩) (by simp)).trans c4
    clear hS
    iterate 12 (apply Plan.seg_pick; rfl; intro K hK; go_wp)
    exact Plan.seg_nil
  refine Plan.plan_of_effect rfl (fun K hK => ?_)
  go_wp2_with fail
  refine ⟨S3.out, ?_⟩
  refine' Plan.plan_seg _ [16, 17, 18, 19] (([20].map (·, false)) ++ (([21, 22].map (·, true)))) (by kernel_rfl) (by kernel_rfl) rfl (by exact S3.out) (fun wx hS => ?_) ?_
  rotate_left
  · clear hS
    iterate 4 (apply Plan.seg_pick; rfl; intro K hK; go_wp)
    exact Plan.seg_nil
  refine Plan.plan_of_effect rfl (fun K hK => ?_)
  go_wp2_with fail
  refine (awake_any _).mono ?_
  rintro e w5 ⟨rfl, hb5⟩
  have S5 := Lib.hid (S3.out.trans (hb5.mono m3))
  clear hb5
  go_wp2_with fail
  refine ⟨S5.out, ?_⟩
  refine' Plan.plan_seg _ [21, 22] ([]) (by kernel_rfl) (by kernel_rfl) rfl (by exact S5.out) (fun wx hS => ?_) ?_
  rotate_left
  · clear hS
    iterate 2 (apply Plan.seg_pick; rfl; intro K hK; go_wp)
    exact Plan.seg_nil
  refine Plan.plan_done ?_
  go_wp2_with fail
  go_ret
  exact ⟨rfl, W2.out.trans (S5.out.mono (by have := n1.out; omega))⟩

theorem law_glyphs (c : Int) (w : World) (h0 : 0 ≤ c) (h1 : c < 256) : Calls Try.prog 11 #[.int .u8 c] w fun e w' => e = .returned (.bool true) ∧ Below w.heap.size w w' := by
  by_cases h2 : c < 97
  · exact law_glyphs_low c w h0 h1 h2
  · by_cases h3 : c ≤ 122
    · exact law_glyphs_mid c w h0 h1 (by omega) h3
    · exact law_glyphs_high c w h0 h1 (by omega) (by omega)

end Go.Proofs.Ytnnobdcbmagbaaa
