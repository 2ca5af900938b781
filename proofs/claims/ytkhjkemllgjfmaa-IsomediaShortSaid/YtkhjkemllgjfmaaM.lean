/- The contract of cutroomlaw18.IsomediaLocates: it answers true. -/
import Derived.Test.YtkhjkemllgjfmaaF
import Derived.Test.YtkhjkemllgjfmaaI
import Derived.Test.YtkhjkemllgjfmaaK
import Derived.Test.YtkhjkemllgjfmaaL
namespace Go.Proofs.Ytkhjkemllgjfmaa
open Go.RowKit
set_option linter.unusedVariables false

theorem light_at {F : Fl} (h : lightF F = true) {k : Nat} (hk : k < F.nT) : (F.T k).nC ≤ 5000 ∧ (F.T k).nS ≤ 40 ∧ (F.T k).nE ≤ 70 := by
  unfold lightF at h
  simp only [Bool.and_eq_true, decide_eq_true_eq, all_range] at h
  have h1 := h.2 k hk
  unfold lightT at h1
  simp only [Bool.and_eq_true, decide_eq_true_eq] at h1
  exact ⟨h1.1.1.1.2, h1.1.1.2, h1.1.2⟩

set_option maxRecDepth 100000 in
set_option maxHeartbeats 4000000 in
theorem law_locates (v : Value) (F : Fl) (kk t : Int) (w : World) (hv : FA w v F) (hm : F.nT ≤ 9223372036854775807) :
    Calls Try.prog 4 #[v, .int .i64 kk, .int .i64 t] w fun e w' => e = .returned (.bool true) ∧ Below w.heap.size w w' := by
  have hv0 := hv
  obtain ⟨ts, rfl, hts⟩ := hv
  obtain ⟨ao, c, rfl⟩ := hts.shape
  have HT := Lib.hid hts
  have HV := Lib.hid (hv0.below (below_box w (.cells #[.int .i64 F.sc, .slice ao F.nT c] 37)))
  clear hts hv0
  go_enter Try.func4, Try.ntmps4
  go_wp2_with fail
  refine (light_any _ F _ HV.out hm).mono ?_
  rintro e w1 ⟨rfl, hb⟩
  have y1 : w1.cell? ⟨w.heap.size, 1, none⟩ = some (.slice ao F.nT c) := (hb.cell (by simp)).trans (by simp [go_sem])
  have HB := Lib.hid (show Below w.heap.size w w1 from (below_box _ _).trans (hb.mono (by simp)))
  clear hb HV
  cases hl : lightF F
  · go_wp2_with fail
    refine (awake_any _).mono ?_
    rintro e wz ⟨rfl, hb5⟩
    have HB5 := Lib.hid hb5
    clear hb5
    go_wp2_with fail
    go_ret
    exact ⟨rfl, HB.out.trans (HB5.out.mono HB.out.size)⟩
  have HL := Lib.hid hl
  by_cases h0 : kk < 0
  · go_wp2_with fail
    refine (awake_any _).mono ?_
    rintro e wz ⟨rfl, hb5⟩
    have HB5 := Lib.hid hb5
    clear hb5
    go_wp2_with fail
    go_ret
    exact ⟨rfl, HB.out.trans (HB5.out.mono HB.out.size)⟩
  have h0' : 0 ≤ kk := by omega
  obtain ⟨k, rfl⟩ := Int.eq_ofNat_of_zero_le h0'
  clear h0 h0'
  by_cases h1 : F.nT ≤ k
  · have h1d : decide (F.nT ≤ k) = true := by simpa using h1
    go_wp2_with fail
    refine (awake_any _).mono ?_
    rintro e wz ⟨rfl, hb5⟩
    have HB5 := Lib.hid hb5
    clear hb5
    go_wp2_with fail
    go_ret
    exact ⟨rfl, HB.out.trans (HB5.out.mono HB.out.size)⟩
  have h1d : decide (F.nT ≤ k) = false := by simpa using h1
  have hk : k < F.nT := by omega
  obtain ⟨ao', c', e, hcc, H⟩ := HT.out.below HB.out
  simp only [Value.slice.injEq, true_and] at e
  obtain ⟨rfl, rfl⟩ := e
  obtain ⟨b, o, c0, c1, c2, c3, c4, rfl, t0, t1, t2, t3, t4, hc⟩ := H k hk
  obtain ⟨rfl, rfl, b2, b3, b4⟩ := hc
  obtain ⟨a2, d2, rfl⟩ := b2.shape
  obtain ⟨a3, d3, rfl⟩ := b3.shape
  obtain ⟨a4, d4, rfl⟩ := b4.shape
  have TT := Lib.hid (show TA w1 (.agg #[.string (F.T k).h, .int .i64 (F.T k).sc, .slice a2 (F.T k).nC d2, .slice a3 (F.T k).nS d3, .slice a4 (F.T k).nE d4]) (F.T k) from ⟨_, _, _, _, _, rfl, ⟨rfl, rfl, b2, b3, b4⟩⟩)
  obtain ⟨blf, hblf⟩ : ∃ z, z = w.heap.size := ⟨_, rfl⟩
  rw [← hblf] at y1 ⊢
  clear H b2 b3 b4 hblf
  go_wp2_with fail
  refine Plan.wp_region_plan (fun w' => w'.cell? ⟨blf, 1, none⟩ = some (.slice (some ⟨b, o, none⟩) F.nT c) ∧ w'.cell? ⟨b, o + k * 5, none⟩ = some (.string (F.T k).h) ∧ w'.cell? ⟨b, o + k * 5 + 1, none⟩ = some (.int .i64 (F.T k).sc) ∧ w'.cell? ⟨b, o + k * 5 + 2, none⟩ = some (.slice a2 (F.T k).nC d2) ∧ w'.cell? ⟨b, o + k * 5 + 3, none⟩ = some (.slice a3 (F.T k).nS d3) ∧ w'.cell? ⟨b, o + k * 5 + 4, none⟩ = some (.slice a4 (F.T k).nE d4)) (([0].map (·, false)) ++ (([1, 2, 3, 4, 5, 6, 8, 10, 11, 12, 13, 14, 15].map (·, true)) ++ (([7, 9, 16].map (·, false)) ++ (([17, 18, 19].map (·, true)))))) (by kernel_rfl) (by kernel_rfl) (by kernel_rfl) ⟨y1, t0, t1, t2, t3, t4⟩ ?_
  refine Plan.plan_of_effect rfl (fun K hK => ?_)
  go_wp2_with fail
  refine (awake_any _).mono ?_
  rintro e w2 ⟨rfl, hb⟩
  have hdr := (Below.refl w1.heap.size w1).drew.trans hb
  replace y1 := (hdr.cell (block_lt_of_cell y1)).trans y1
  replace t0 := (hdr.cell (block_lt_of_cell t0)).trans t0
  replace t1 := (hdr.cell (block_lt_of_cell t1)).trans t1
  replace t2 := (hdr.cell (block_lt_of_cell t2)).trans t2
  replace t3 := (hdr.cell (block_lt_of_cell t3)).trans t3
  replace t4 := (hdr.cell (block_lt_of_cell t4)).trans t4
  replace TT := Lib.hid (TT.out.below hdr)
  replace HB := Lib.hid (HB.out.trans (hdr.mono HB.out.size))
  clear hb hdr
  go_wp2_with fail
  refine ⟨⟨y1, t0, t1, t2, t3, t4⟩, ?_⟩
  refine' Plan.plan_seg _ [1, 2, 3, 4, 5, 6, 8, 10, 11, 12, 13, 14, 15] (([7, 9, 16].map (·, false)) ++ (([17, 18, 19].map (·, true)))) (by kernel_rfl) (by kernel_rfl) rfl (by exact ⟨y1, t0, t1, t2, t3, t4⟩) (fun wx hS => ?_) ?_
  rotate_left
  · obtain ⟨z0, z1, z2, z3, z4, z5⟩ := hS
    go_light
    iterate 13 (apply Plan.seg_pick; rfl; intro K hK; go_wp)
    exact Plan.seg_nil
  refine Plan.plan_of_effect rfl (fun K hK => ?_)
  go_wp2_with fail
  refine (track_any _ (F.T k) w2 TT.out (by have := light_at HL.out hk; omega) (by have := light_at HL.out hk; omega)).mono ?_
  rintro e w3 ⟨r, rfl, hta, hb⟩
  have TR := Lib.hid hta
  replace y1 := (hb.cell (block_lt_of_cell y1)).trans y1
  replace t0 := (hb.cell (block_lt_of_cell t0)).trans t0
  replace t1 := (hb.cell (block_lt_of_cell t1)).trans t1
  replace t2 := (hb.cell (block_lt_of_cell t2)).trans t2
  replace t3 := (hb.cell (block_lt_of_cell t3)).trans t3
  replace t4 := (hb.cell (block_lt_of_cell t4)).trans t4
  replace TT := Lib.hid (TT.out.below hb)
  replace HB := Lib.hid (HB.out.trans (hb.mono HB.out.size))
  clear hb hta
  go_wp2_with fail
  refine ⟨⟨y1, t0, t1, t2, t3, t4⟩, ?_⟩
  refine Plan.plan_of_effect rfl (fun K hK => ?_)
  go_wp2_with fail
  refine (locate_any r (F.T k) t w3 TR.out).mono ?_
  rintro e w4 ⟨rfl, hb⟩
  replace y1 := (hb.cell (block_lt_of_cell y1)).trans y1
  replace t0 := (hb.cell (block_lt_of_cell t0)).trans t0
  replace t1 := (hb.cell (block_lt_of_cell t1)).trans t1
  replace t2 := (hb.cell (block_lt_of_cell t2)).trans t2
  replace t3 := (hb.cell (block_lt_of_cell t3)).trans t3
  replace t4 := (hb.cell (block_lt_of_cell t4)).trans t4
  replace TT := Lib.hid (TT.out.below hb)
  replace HB := Lib.hid (HB.out.trans (hb.mono HB.out.size))
  clear hb TR
  go_wp2_with fail
  refine ⟨⟨y1, t0, t1, t2, t3, t4⟩, ?_⟩
  refine Plan.plan_of_effect rfl (fun K hK => ?_)
  go_wp2_with fail
  refine (rlocate_any _ (F.T k) t w4 TT.out (by have := light_at HL.out hk; omega)).mono ?_
  rintro e w5 ⟨rfl, hb⟩
  replace y1 := (hb.cell (block_lt_of_cell y1)).trans y1
  replace t0 := (hb.cell (block_lt_of_cell t0)).trans t0
  replace t1 := (hb.cell (block_lt_of_cell t1)).trans t1
  replace t2 := (hb.cell (block_lt_of_cell t2)).trans t2
  replace t3 := (hb.cell (block_lt_of_cell t3)).trans t3
  replace t4 := (hb.cell (block_lt_of_cell t4)).trans t4
  replace TT := Lib.hid (TT.out.below hb)
  replace HB := Lib.hid (HB.out.trans (hb.mono HB.out.size))
  clear hb
  go_wp2_with fail
  refine ⟨⟨y1, t0, t1, t2, t3, t4⟩, ?_⟩
  refine' Plan.plan_seg _ [17, 18, 19] ([]) (by kernel_rfl) (by kernel_rfl) rfl (by exact ⟨y1, t0, t1, t2, t3, t4⟩) (fun wx hS => ?_) ?_
  rotate_left
  · obtain ⟨z0, z1, z2, z3, z4, z5⟩ := hS
    go_light
    iterate 3 (apply Plan.seg_pick; rfl; intro K hK; go_wp)
    exact Plan.seg_nil
  refine Plan.plan_done ?_
  go_wp2_with fail
  go_ret
  exact ⟨ret_bool (by simp), HB.out⟩

end Go.Proofs.Ytkhjkemllgjfmaa
