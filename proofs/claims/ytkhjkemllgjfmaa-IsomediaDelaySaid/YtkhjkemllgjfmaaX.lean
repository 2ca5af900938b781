/- The contract of cutroomlaw18.IsomediaDelay: it answers true. -/
import Derived.Test.YtkhjkemllgjfmaaU
import Derived.Test.YtkhjkemllgjfmaaW
namespace Go.Proofs.Ytkhjkemllgjfmaa
open Go.RowKit
set_option linter.unusedVariables false

theorem owns_shapeN {w : World} {B E size n : Nat} {v : Value} {xs : List Value} (h : w.ownsRow B E size v n xs) : ∃ a c, v = .slice a n c := by
  rcases h.2 with ⟨rfl, rfl⟩ | ⟨g, cap, cur, rfl, _⟩
  · exact ⟨_, _, rfl⟩
  · exact ⟨_, _, rfl⟩

set_option maxRecDepth 100000 in
set_option maxHeartbeats 4000000 in
theorem law_delay (v : Value) (F : Fl) (kk bv : Int) (w : World) (hv : FA w v F) (hm : F.nT ≤ 9223372036854775807) :
    Calls Try.prog 6 #[v, .int .i64 kk, .int .i64 bv] w fun e w' => e = .returned (.bool true) ∧ Below w.heap.size w w' := by
  have hv0 := hv
  obtain ⟨ts, rfl, hts⟩ := hv
  obtain ⟨ao, c, rfl⟩ := hts.shape
  have HT := Lib.hid hts
  have HV0 := Lib.hid hv0
  clear hts hv0
  go_enter Try.func6, Try.ntmps6
  go_wp2_with fail
  obtain ⟨w1, hw⟩ : ∃ x, x = w.alloc (.cells #[.int .i64 F.sc, .slice ao F.nT c] 37) := ⟨_, rfl⟩
  rw [← hw]
  have hb1 : Below w.heap.size w w1 := by rw [hw]; exact below_box _ _
  have xf : B2 w1 w.heap.size (.int .i64 F.sc) (.slice ao F.nT c) := by
    rw [hw]; exact B2.of_alloc w _ _ _ 37 rfl
  obtain ⟨blf, hblf⟩ : ∃ z, z = w.heap.size := ⟨_, rfl⟩
  rw [← hblf] at xf ⊢
  have XF := Lib.hid xf
  have HB := Lib.hid hb1
  clear hw hb1 xf hblf
  refine (light_any _ F _ (HV0.out.below HB.out) hm).mono ?_
  rintro e w2 ⟨rfl, hb⟩
  replace XF := Lib.hid (XF.out.far hb XF.out.lt)
  replace HB := Lib.hid (HB.out.trans (hb.mono HB.out.size))
  have y0 := XF.out.k0
  have y1 := XF.out.k1
  clear hb
  cases hl : lightF F
  · go_wp2_with fail
    refine (awake_any _).mono ?_
    rintro e wz ⟨rfl, hb5⟩
    have HB5 := Lib.hid hb5
    clear hb5
    go_wp2_with fail
    go_ret
    exact ⟨rfl, HB.out.trans (HB5.out.mono HB.out.size)⟩
  have HL := Lib.hid hl
  go_wp2_with fail
  refine (rvalidF_any _ F w2 (HV0.out.below HB.out) (by omega)).mono ?_
  rintro e w3 ⟨rfl, hb⟩
  replace XF := Lib.hid (XF.out.far hb XF.out.lt)
  replace HB := Lib.hid (HB.out.trans (hb.mono HB.out.size))
  replace y0 := XF.out.k0
  replace y1 := XF.out.k1
  clear hb hl
  cases hok : okFl F
  · go_wp2_with fail
    refine (awake_any _).mono ?_
    rintro e wz ⟨rfl, hb5⟩
    have HB5 := Lib.hid hb5
    clear hb5
    go_wp2_with fail
    go_ret
    exact ⟨rfl, HB.out.trans (HB5.out.mono HB.out.size)⟩
  have HOK := Lib.hid hok
  clear hok
  by_cases hneg : kk < 0
  · go_wp2_with fail
    refine (awake_any _).mono ?_
    rintro e wz ⟨rfl, hb5⟩
    have HB5 := Lib.hid hb5
    clear hb5
    go_wp2_with fail
    go_ret
    exact ⟨rfl, HB.out.trans (HB5.out.mono HB.out.size)⟩
  obtain ⟨k, rfl⟩ := Int.eq_ofNat_of_zero_le (show 0 ≤ kk by omega)
  clear hneg
  by_cases hbig : F.nT ≤ k
  · have hbd : decide (F.nT ≤ k) = true := by simpa using hbig
    go_wp2_with fail
    refine (awake_any _).mono ?_
    rintro e wz ⟨rfl, hb5⟩
    have HB5 := Lib.hid hb5
    clear hb5
    go_wp2_with fail
    go_ret
    exact ⟨rfl, HB.out.trans (HB5.out.mono HB.out.size)⟩
  have hbd : decide (F.nT ≤ k) = false := by simpa using hbig
  have hk : k < F.nT := by omega
  clear hbig
  by_cases hb0 : bv < 0
  · go_wp2_with fail
    refine (awake_any _).mono ?_
    rintro e wz ⟨rfl, hb5⟩
    have HB5 := Lib.hid hb5
    clear hb5
    go_wp2_with fail
    go_ret
    exact ⟨rfl, HB.out.trans (HB5.out.mono HB.out.size)⟩
  have hb0' : 0 ≤ bv := by omega
  by_cases hb1 : 1048576 < bv
  · go_wp2_with fail
    refine (awake_any _).mono ?_
    rintro e wz ⟨rfl, hb5⟩
    have HB5 := Lib.hid hb5
    clear hb5
    go_wp2_with fail
    go_ret
    exact ⟨rfl, HB.out.trans (HB5.out.mono HB.out.size)⟩
  have hb1' : bv ≤ 1048576 := by omega
  obtain ⟨b, o, a2, d2, a3, d3, a4, d4, rfl, t0, t1, t2, t3, t4, hta⟩ := (HT.out.below HB.out).at hk
  have HTA := Lib.hid hta
  clear hta t0 t1 t2 t3
  by_cases hn0 : (F.T k).nE = 0
  · have k0 : (((F.T k).nE : Int) == 0) = true := by simp; omega
    go_wp2_with fail
    refine (awake_any _).mono ?_
    rintro e wz ⟨rfl, hb5⟩
    have HB5 := Lib.hid hb5
    clear hb5
    go_wp2_with fail
    go_ret
    exact ⟨rfl, HB.out.trans (HB5.out.mono HB.out.size)⟩
  have k0 : (((F.T k).nE : Int) == 0) = false := by simp; omega
  by_cases hn60 : 60 < (F.T k).nE
  · have k2 : (60 : Int) < ((F.T k).nE : Int) := by omega
    have k2' : decide (60 < (F.T k).nE) = true := by simpa using hn60
    go_wp2_with fail
    refine (awake_any _).mono ?_
    rintro e wz ⟨rfl, hb5⟩
    have HB5 := Lib.hid hb5
    clear hb5
    go_wp2_with fail
    go_ret
    exact ⟨rfl, HB.out.trans (HB5.out.mono HB.out.size)⟩
  have k2 : ¬ (60 : Int) < ((F.T k).nE : Int) := by omega
  have k2' : decide (60 < (F.T k).nE) = false := by simpa using hn60
  have hn60' : (F.T k).nE ≤ 60 := by omega
  go_wp2_with fail
  refine (given_any _ F w3 (HV0.out.below HB.out) (by have := light_nT HL.out; omega) (fun i hi => by have := light_at HL.out hi; omega)).mono ?_
  rintro e w4 ⟨r, rfl, hfa, hb⟩
  replace XF := Lib.hid (XF.out.far hb XF.out.lt)
  replace HB := Lib.hid (HB.out.trans (hb.mono HB.out.size))
  replace HTA := Lib.hid (HTA.out.below hb)
  replace t4 := (hb.cell (block_lt_of_cell t4)).trans t4
  have HFA := Lib.hid hfa
  clear hb hfa y0 y1 k0 k2 k2'
  go_wp2_with fail
  refine (pres_any r F (k : Int) w4 HFA.out (by have := light_nT HL.out; omega)).mono ?_
  rintro e w5 ⟨va, ca, rfl, hb, hr⟩
  rw [if_neg (by rw [HOK.out]; simp), if_neg (by omega)] at hr
  obtain ⟨rfl, hoa⟩ := hr
  rw [Int.toNat_natCast] at hoa
  obtain ⟨aa, ac, rfl⟩ := owns_shapeN hoa
  replace XF := Lib.hid (XF.out.far hb XF.out.lt)
  replace HB := Lib.hid (HB.out.trans (hb.mono HB.out.size))
  replace HTA := Lib.hid (HTA.out.below hb)
  replace t4 := (hb.cell (block_lt_of_cell t4)).trans t4
  have HOA := Lib.hid hoa
  have y0 := XF.out.k0
  have y1 := XF.out.k1
  have yl : blf < w5.heap.size := XF.out.lt
  have yn : (blf == w5.heap.size) = false := by simp; omega
  have yn1 : (blf == w5.heap.size + 1) = false := by simp; omega
  have yl1 : blf < w5.heap.size + 1 := by omega
  clear hb hoa HFA
  obtain ⟨w6, hw6⟩ : ∃ x, x = (w5.alloc (.cells #[.int .i64 F.sc, .slice (some ⟨b, o, none⟩) F.nT c] 37)).alloc (.cells #[] 48) := ⟨_, rfl⟩
  have hb6 : Below w5.heap.size w5 w6 := by rw [hw6]; go_grown
  have HOW := Lib.hid (show w6.ownsRow (w5.heap.size + 1) 48 5 (.slice (some ⟨w5.heap.size + 1, 0, none⟩) 0 0) 0 [] from by
    have h := owns_empty (w5.alloc (.cells #[.int .i64 F.sc, .slice (some ⟨b, o, none⟩) F.nT c] 37)) 48 5
    rw [hw6]; simpa using h)
  have hbw6 := HB.out.trans (hb6.mono HB.out.size)
  have HNW := Lib.hid (show ∀ j u, (cellsAt w b o (F.nT * 5))[j]? = some u → w6.cell? ⟨b, o + j, none⟩ = some u from fun j u hj => by
    have := cellsAt_get HT.out j u hj
    exact (hbw6.cell (block_lt_of_cell this)).trans this)
  have HON := Lib.hid (show ∀ u ∈ cellsAt w b o (F.nT * 5), u.oneCell' = true from fun u hu => by
    unfold cellsAt at hu
    obtain ⟨j, hj, rfl⟩ := List.mem_map.1 hu
    obtain ⟨x, hx, h1⟩ := tracks_cell HT.out j (by simpa using hj)
    rw [hx]; exact h1)
  have hs6 : w6.heap.size = w5.heap.size + 1 + 1 := by rw [hw6]; simp
  have HS6 := Lib.hid hs6
  have HB6 := Lib.hid hb6
  have HW6 := Lib.hid hw6
  have hn6 := light_nT HL.out
  have hlc : (cellsAt w b o (F.nT * 5)).length = F.nT * 5 := by simp [cellsAt]
  have HLC := Lib.hid hlc
  clear hb6 hbw6 hs6 hw6 hlc
  go_wp2_with (at_builtin; rw [← HW6.out]; refine wpList_appN _ rfl (.tmp 69) (.tmp 71) 35 48 5 96 _ Try.underlying35 info48 rfl (by decide) (by decide) rfl (w5.heap.size + 1) 0 b o F.nT c (.slice (some ⟨w5.heap.size + 1, 0, none⟩) 0 0) [] (cellsAt w b o (F.nT * 5)) rfl HOW.out rfl HLC.out HNW.out HON.out (by omega) (by rw [HS6.out]; omega) ?_)
  intro v' w7 hv' hb7
  obtain ⟨gt, cap, rfl, hcap, hgB, hgz, hgc⟩ := owns_open2 hv' (by omega)
  have hb57 : Below w5.heap.size w5 w7 := HB6.out.trans (hb7.mono (by omega))
  obtain ⟨bg, hbg⟩ : ∃ z, z = w5.heap.size := ⟨_, rfl⟩
  have G7 : B2 w7 bg (.int .i64 F.sc) (.slice (some ⟨b, o, none⟩) F.nT c) := by
    refine B2.far (w := w6) ?_ hb7 (by omega)
    rw [HW6.out]; exact (B2.of_alloc w5 _ _ _ 37 hbg).far (below_box _ _) (by simp; omega)
  have X7 := XF.out.far hb57 yl
  have hsw5 := HB.out.size
  have lbf : blf < bg := by omega
  have lgt : bg < gt := by omega
  have HGC := Lib.hid hgc
  have HGZ := Lib.hid hgz
  have HB57 := Lib.hid hb57
  have HG7 := Lib.hid G7
  have HX7 := Lib.hid X7
  have HBG := Lib.hid hbg
  have g0 := G7.k0
  have g1 := G7.k1
  have gz := G7.fz
  rw [← hbg]
  have HB5S := Lib.hid hsw5
  clear hv' hb7 hgc hgz hb57 G7 X7 hbg HNW HON HLC HW6 HOW HB6 HS6 y0 y1 yl yn yn1 yl1 hsw5
  go_wp2_with fail
  obtain ⟨w8, hw8⟩ : ∃ x, x = w7.setCell ⟨bg, 1, none⟩ (.slice (some ⟨gt, 0, none⟩) F.nT cap) := ⟨_, rfl⟩
  rw [← hw8]
  have G8 : B2 w8 bg (.int .i64 F.sc) (.slice (some ⟨gt, 0, none⟩) F.nT cap) := by rw [hw8]; exact HG7.out.set1 _
  have X8 : B2 w8 blf (.int .i64 F.sc) (.slice (some ⟨b, o, none⟩) F.nT c) := by rw [hw8]; exact HX7.out.other (by simp; omega) _
  have hb58 : Below w5.heap.size w5 w8 := by rw [hw8]; exact HB57.out.setCell (by simp; have := HBG.out; omega) _
  have hgc8 : ∀ j u, (cellsAt w b o (F.nT * 5))[j]? = some u → w8.cell? ⟨gt, j, none⟩ = some u := fun j u hj => by
    rw [hw8, World.cell?_setCell_far _ _ _ _ (by simp; omega)]; exact HGC.out j u hj
  have hgz8 : ∀ o, w8.frozen? ⟨gt, o, none⟩ = false := fun o => by rw [hw8, World.frozen?_setCell]; exact HGZ.out o
  replace HB := Lib.hid (HB.out.trans (hb58.mono HB.out.size))
  have HOAX := Lib.hid HOA.out
  obtain ⟨c0', c1', c2', c3', c4', ea, eh, es, eb2, eb3, eb4⟩ := HTA.out.below hb58
  simp only [Value.agg.injEq, Array.mk.injEq, List.cons.injEq, and_true] at ea
  obtain ⟨rfl, rfl, rfl, rfl, rfl⟩ := ea
  obtain ⟨be, oe, rfl⟩ : ∃ be oe, a4 = some ⟨be, oe, none⟩ := by
    obtain ⟨_, _, e, _, H⟩ := eb4
    simp only [Value.slice.injEq, true_and] at e
    obtain ⟨rfl, rfl⟩ := e
    obtain ⟨b', o', e, _⟩ := H 0 (by omega)
    exact ⟨b', o', e⟩
  have hgt8 : gt < w8.heap.size := by
    obtain ⟨u, hu, _⟩ := tracks_cell HT.out 0 (by omega)
    exact block_lt_of_cell (hgc8 0 u (cellsAt_at (by omega) hu))
  replace t4 := (hb58.cell (block_lt_of_cell t4)).trans t4
  have e1 := G8.k1
  have y1 := X8.k1
  have HEB := Lib.hid eb4
  have T4H := Lib.hid t4
  have HGC8 := Lib.hid hgc8
  have HGZ8 := Lib.hid hgz8
  have HG8 := Lib.hid G8
  have HX8 := Lib.hid X8
  have HB58 := Lib.hid hb58
  clear hw8 g0 g1 gz HG7 HX7 HB57 HGC HGZ G8 X8 hb58 hgc8 hgz8 eh es eb2 eb3 eb4
  go_wp2_with fail
  refine Plan.wp_region_plan (fun w' => w'.cell? ⟨bg, 1, none⟩ = some (.slice (some ⟨gt, 0, none⟩) F.nT cap) ∧ w'.cell? ⟨blf, 1, none⟩ = some (.slice (some ⟨b, o, none⟩) F.nT c) ∧ w'.cell? ⟨b, o + k * 5 + 4, none⟩ = some (.slice (some ⟨be, oe, none⟩) (F.T k).nE d4)) (([0, 1, 2, 3, 4, 6, 7, 8, 9, 10, 11].map (·, true)) ++ (([5, 12].map (·, false)) ++ (([13, 14].map (·, true)) ++ (([15].map (·, false)))))) (by kernel_rfl) (by kernel_rfl) (by kernel_rfl) ⟨e1, y1, t4⟩ ?_
  refine' Plan.plan_seg _ [0, 1, 2, 3, 4, 6, 7, 8, 9, 10, 11] (([5, 12].map (·, false)) ++ (([13, 14].map (·, true)) ++ (([15].map (·, false))))) (by kernel_rfl) (by kernel_rfl) rfl (by exact ⟨e1, y1, t4⟩) (fun wx hS => ?_) ?_
  rotate_left
  · obtain ⟨z0, z1, z2⟩ := hS
    go_light
    iterate 11 (apply Plan.seg_pick; rfl; intro K hK; go_wp)
    exact Plan.seg_nil
  refine Plan.plan_of_effect rfl (fun K hK => ?_)
  go_wp2_with fail
  obtain ⟨w9, hw9⟩ : ∃ x, x = (w8.alloc (.cells #[.int .i64 bv, .int .i64 (-1)] 61)).drew := ⟨_, rfl⟩
  rw [← hw9]
  have hb9 : Below w8.heap.size w8 w9 := by rw [hw9]; exact (below_box _ _).drew
  have HOW := Lib.hid (show w9.ownsRow w8.heap.size 61 2 (.slice (some ⟨w8.heap.size, 0, none⟩) 1 1) 1 [.int .i64 bv, .int .i64 (-1)] from by
    rw [hw9]; exact owns_one w8 61 2 #[.int .i64 bv, .int .i64 (-1)] rfl)
  replace e1 := (hb9.cell (block_lt_of_cell e1)).trans e1
  replace y1 := (hb9.cell (block_lt_of_cell y1)).trans y1
  replace t4 := (hb9.cell (block_lt_of_cell t4)).trans t4
  have HB9 := Lib.hid hb9
  have hs9 := hb9.size
  clear hw9 hb9
  refine ⟨⟨e1, y1, t4⟩, ?_⟩
  refine Plan.plan_of_effect rfl (fun K hK => ?_)
  have hf : ∀ i, (edV (F.T k).E i).length = 2 := fun i => rfl
  refine wpList_appN w9 rfl (.tmp 79) (.tmp 85) 46 61 2 16 _ Try.underlying46 info61 rfl (by decide) (by decide) rfl w8.heap.size 1 be oe (F.T k).nE d4 (.slice (some ⟨w8.heap.size, 0, none⟩) 1 1) [.int .i64 bv, .int .i64 (-1)] (rowsOf (edV (F.T k).E) (F.T k).nE) (by simp [go_sem]) HOW.out (by simp [go_sem]) (rowsOf_length hf _) (edits_row (HEB.out.below HB9.out)) (fun u hu => by
    obtain ⟨j, hj⟩ := List.mem_iff_getElem?.1 hu
    have := edits_row (HEB.out.below HB9.out) j u hj
    have hjl : j < (F.T k).nE * 2 := by have := (List.getElem?_eq_some_iff.1 hj).1; rwa [rowsOf_length hf] at this
    have hr := rowsOf_at hf (F.T k).nE (j / 2) (j % 2) (by omega) (by omega)
    rw [show j / 2 * 2 + j % 2 = j by omega, hj] at hr
    rcases (show j % 2 = 0 ∨ j % 2 = 1 by omega) with e | e <;> rw [e] at hr <;> simp [edV] at hr <;> rw [hr] <;> rfl) (by omega) hs9 ?_
  intro v'' w10 hv'' hb10
  replace hv'' : w10.ownsRow w8.heap.size 61 2 v'' ((F.T k).nE + 1) (rowsOf (edV (lateE (F.T k).E bv)) ((F.T k).nE + 1)) := by
    rw [rowsOf_late (edV (lateE (F.T k).E bv)) (edV (F.T k).E) (fun i => by simp [edV, lateE])]
    rw [Nat.add_comm] at hv''
    exact hv''
  have hb810 : Below w8.heap.size w8 w10 := HB9.out.trans hb10
  obtain ⟨ve, vm, vc, rfl⟩ := owns_shape hv''
  have HVE := Lib.hid hv''
  have HB10 := Lib.hid hb810
  replace e1 : w10.cell? ⟨bg, 1, none⟩ = some (.slice (some ⟨gt, 0, none⟩) F.nT cap) := (hb810.cell (p := ⟨bg, 1, none⟩) (by simp; omega)).trans HG8.out.k1
  replace y1 : w10.cell? ⟨blf, 1, none⟩ = some (.slice (some ⟨b, o, none⟩) F.nT c) := (hb810.cell (p := ⟨blf, 1, none⟩) (by simp; omega)).trans HX8.out.k1
  have lbb : b < w.heap.size := by
    obtain ⟨u, hu, _⟩ := tracks_cell HT.out 0 (by omega)
    exact block_lt_of_cell hu
  replace t4 : w10.cell? ⟨b, o + k * 5 + 4, none⟩ = some (.slice (some ⟨be, oe, none⟩) (F.T k).nE d4) := (hb810.cell (p := ⟨b, o + k * 5 + 4, none⟩) (block_lt_of_cell T4H.out)).trans T4H.out
  obtain ⟨u4, hu4, _⟩ := tracks_cell HT.out (k * 5 + 4) (by omega)
  have g4 : w10.cell? ⟨gt, k * 5 + 4, none⟩ = some u4 := (hb810.cell (p := ⟨gt, k * 5 + 4, none⟩) (by simpa using hgt8)).trans (HGC8.out _ u4 (cellsAt_at (by omega) hu4))
  have gz : ∀ o, w10.frozen? ⟨gt, o, none⟩ = false := fun o => (hb810.frozen (p := ⟨gt, o, none⟩) (by simpa using hgt8)).trans (HGZ8.out o)
  clear hv'' hb10 hb810 hu4 lbb
  go_wp2_with fail
  refine ⟨⟨e1, y1, t4⟩, ?_⟩
  refine' Plan.plan_seg _ [13, 14] (([15].map (·, false))) (by kernel_rfl) (by kernel_rfl) rfl (by exact ⟨e1, y1, t4⟩) (fun wx hS => ?_) ?_
  rotate_left
  · obtain ⟨z0, z1, z2⟩ := hS
    go_light
    iterate 2 (apply Plan.seg_pick; rfl; intro K hK; go_wp)
    exact Plan.seg_nil
  refine Plan.plan_of_effect rfl (fun K hK => ?_)
  go_wp2_with fail
  obtain ⟨w11, hw11⟩ : ∃ x, x = w10.setCell ⟨gt, k * 5 + 4, none⟩ (.slice ve vm vc) := ⟨_, rfl⟩
  rw [← hw11]
  have G11 : B2 w11 bg (.int .i64 F.sc) (.slice (some ⟨gt, 0, none⟩) F.nT cap) := by rw [hw11]; exact (HG8.out.far HB10.out (by omega)).other (by simp; omega) _
  have X11 : B2 w11 blf (.int .i64 F.sc) (.slice (some ⟨b, o, none⟩) F.nT c) := by rw [hw11]; exact (HX8.out.far HB10.out (by omega)).other (by simp; omega) _
  have hb511 : Below w5.heap.size w5 w11 := by rw [hw11]; exact (HB58.out.trans (HB10.out.mono HB58.out.size)).setCell (by have := HBG.out; simp; omega) _
  have hbw11 : Below w.heap.size w w11 := by rw [hw11]; exact (HB.out.trans (HB10.out.mono HB.out.size)).setCell (by have := HBG.out; have := HB5S.out; simp; omega) _
  have lbb : b < w.heap.size := by
    obtain ⟨u, hu, _⟩ := tracks_cell HT.out 0 (by omega)
    exact block_lt_of_cell hu
  have t411 : w11.cell? ⟨b, o + k * 5 + 4, none⟩ = some (.slice (some ⟨be, oe, none⟩) (F.T k).nE d4) := by
    rw [hw11, World.cell?_setCell_far _ _ _ _ (by have := HBG.out; have := HB5S.out; simp; omega)]; exact t4
  have hfa : FA w11 (.agg #[.int .i64 F.sc, .slice (some ⟨gt, 0, none⟩) F.nT cap]) (lateF F k bv) := by
    refine FA.late (ve := .slice ve vm vc) hk HT.out hbw11 hcap (fun j u hj hne => ?_) ?_ (EA.of_row (B := w8.heap.size) (E := 61) ?_)
    · have q := (HB10.out.cell (p := ⟨gt, j, none⟩) (by simpa using hgt8)).trans (HGC8.out j u hj)
      rw [hw11]; simp [go_sem, q]
    · rw [hw11]; simp [go_sem, g4]
    · rw [hw11]; exact owns_far HVE.out (by simpa using hgt8) _
  have g1 := G11.k1
  have x1 := X11.k1
  have HG11 := Lib.hid G11
  have HX11 := Lib.hid X11
  have HB511 := Lib.hid hb511
  have HFA := Lib.hid hfa
  replace HB := Lib.hid hbw11
  replace HOA := Lib.hid (owns_below HOAX.out hb511)
  have o0 := G11.k0
  clear hw11 G11 X11 hb511 hbw11 hfa lbb e1 y1 t4 g4 gz HVE HEB HGC8 HGZ8 HG8 HX8
  refine ⟨⟨g1, x1, t411⟩, ?_⟩
  refine Plan.plan_done ?_
  go_wp2_with fail
  refine (given_any _ (lateF F k bv) w11 HFA.out (by have := light_nT HL.out; simpa [lateF] using (by omega : F.nT ≤ 1000000)) (fun i hi => by
    have hi' : i < F.nT := hi
    have := light_at HL.out hi'
    by_cases e : i = k
    · subst e; simp [lateF, lateT]; omega
    · simp [lateF, e]; omega)).mono ?_
  rintro e w12 ⟨r', rfl, hfa, hb⟩
  replace HB := Lib.hid (HB.out.trans (hb.mono HB.out.size))
  replace HOA := Lib.hid (owns_below HOA.out hb)
  replace HFA := Lib.hid hfa
  clear hb hfa g1 x1 t411 o0
  go_wp2_with fail
  refine (pres_any r' (lateF F k bv) (k : Int) w12 HFA.out (by have := light_nT HL.out; simpa [lateF] using (by omega : F.nT ≤ 1000000))).mono ?_
  rintro e w13 ⟨vb, cb, rfl, hb, hr⟩
  rw [if_neg (by rw [okFl_late F k bv hk HOK.out hn60' hb0' hb1']; simp), if_neg (show ¬ ((k : Int) < 0 ∨ ((lateF F k bv).nT : Int) ≤ (k : Int)) by have : (lateF F k bv).nT = F.nT := rfl; omega)] at hr
  obtain ⟨rfl, hob⟩ := hr
  rw [Int.toNat_natCast, show (lateF F k bv).T k = lateT (F.T k) bv by simp [lateF], show (lateT (F.T k) bv).nS = (F.T k).nS from rfl, show (lateF F k bv).sc = F.sc from rfl] at hob
  replace HB := Lib.hid (HB.out.trans (hb.mono HB.out.size))
  have hoa := owns_below HOA.out hb
  have hsm : ∀ i, i < (F.T k).nS → ∃ ga gb cb z z', aa = some ⟨ga, 0, none⟩ ∧ vb = .slice (some ⟨gb, 0, none⟩) (F.T k).nS cb ∧ w13.cell? ⟨ga, i, none⟩ = some (.int .i64 z) ∧ w13.cell? ⟨gb, i, none⟩ = some (.int .i64 z') ∧ ((z < 0 ∧ z' = -1) ∨ (0 ≤ z ∧ z ≤ 137438953472 ∧ z' = z + bv)) := by
    intro i hi
    obtain ⟨ga, ca, e, _, H1⟩ := owns_open hoa (by omega)
    simp only [Value.slice.injEq, true_and] at e
    obtain ⟨rfl, rfl⟩ := e
    obtain ⟨gb, cb, rfl, _, H2⟩ := owns_open hob (by omega)
    refine ⟨ga, gb, cb, timeV (F.T k) F.sc i, timeV (lateT (F.T k) bv) F.sc i, rfl, rfl, ?_, ?_, ?_⟩
    · exact H1 i _ (by have := rowsOf_at (f := timeL (F.T k) F.sc) (m := 1) (fun i => rfl) (F.T k).nS i 0 hi (by omega); simpa [timeL] using this)
    · exact H2 i _ (by have := rowsOf_at (f := timeL (lateT (F.T k) bv) F.sc) (m := 1) (fun i => rfl) (F.T k).nS i 0 hi (by omega); simpa [timeL] using this)
    · exact show_late (F.T k) bv _ F.sc hn0 ((okFl_yes HOK.out).2 k hk) (by have := (okFl_yes HOK.out).1; omega)
  obtain ⟨ba, bc, rfl⟩ := owns_shapeN hob
  have HSM := Lib.hid hsm
  clear hsm hoa hob hb HOA HOAX HFA
  go_wp2_with fail
  obtain ⟨N, hN⟩ : ∃ N, N = (F.T k).nS := ⟨_, rfl⟩
  have hN4 : N ≤ 4096 := by rw [hN]; exact (okTr_yes ((okFl_yes HOK.out).2 k hk)).1.2.2.2.2.1
  rw [← hN] at HSM ⊢
  clear hN
  go_loopw [12] (fun i wr => ∃ j : Nat, j ≤ N ∧ i = .int .i64 (j : Int) ∧ Below w13.heap.size w13 wr) (fun i _ => N - (intOf i).toNat)
  case atStart => exact ⟨0, by omega, rfl, Below.refl _ _⟩
  case round =>
    obtain ⟨i, hi, rfl, hb⟩ := hrel
    by_cases hlt : i < N
    · obtain ⟨ga, gb, cb, z, z', rfl, eb, p0, q0, hz⟩ := HSM.out i hlt
      simp only [Value.slice.injEq, true_and] at eb
      obtain ⟨rfl, rfl⟩ := eb
      replace p0 := (hb.cell (block_lt_of_cell p0)).trans p0
      replace q0 := (hb.cell (block_lt_of_cell q0)).trans q0
      have HBW := Lib.hid hb
      clear hb
      rcases hz with ⟨hz, rfl⟩ | ⟨hz, hz2, rfl⟩
      · go_wp2_with fail
        refine Plan.wp_region_plan (fun w' => w'.cell? ⟨ga, i, none⟩ = some (.int .i64 z) ∧ w'.cell? ⟨gb, i, none⟩ = some (.int .i64 (-1))) (([0, 1, 2, 3, 4, 5, 6, 7, 8, 9, 10, 11, 12, 13, 14, 15, 16, 17, 18, 19, 20, 21, 22, 23, 24, 25, 26, 27, 28, 29, 30, 31].map (·, true))) (by kernel_rfl) (by kernel_rfl) (by kernel_rfl) ⟨p0, q0⟩ ?_
        refine' Plan.plan_seg _ [0, 1, 2, 3, 4, 5, 6, 7, 8, 9, 10, 11, 12, 13, 14, 15, 16, 17, 18, 19, 20, 21, 22, 23, 24, 25, 26, 27, 28, 29, 30, 31] ([]) (by kernel_rfl) (by kernel_rfl) rfl (by exact ⟨p0, q0⟩) (fun wx hS => ?_) ?_
        rotate_left
        · obtain ⟨y0, y1⟩ := hS
          go_light
          iterate 32 (apply Plan.seg_pick; rfl; intro K hK; go_wp)
          exact Plan.seg_nil
        refine Plan.plan_done ?_
        go_wp2_with fail
        go_roundw
        case rel => exact ⟨i + 1, by omega, by go_num, HBW.out.drew⟩
        case measure => simp [intOf]; omega
      · go_wp2_with fail
        refine Plan.wp_region_plan (fun w' => w'.cell? ⟨ga, i, none⟩ = some (.int .i64 z) ∧ w'.cell? ⟨gb, i, none⟩ = some (.int .i64 (z + bv))) (([0, 1, 2, 3, 4, 5, 6, 7, 8, 9, 10, 11, 12, 13, 14, 15, 16, 17, 18, 19, 20, 21, 22, 23, 24, 25, 26, 27, 28, 29, 30, 31].map (·, true))) (by kernel_rfl) (by kernel_rfl) (by kernel_rfl) ⟨p0, q0⟩ ?_
        refine' Plan.plan_seg _ [0, 1, 2, 3, 4, 5, 6, 7, 8, 9, 10, 11, 12, 13, 14, 15, 16, 17, 18, 19, 20, 21, 22, 23, 24, 25, 26, 27, 28, 29, 30, 31] ([]) (by kernel_rfl) (by kernel_rfl) rfl (by exact ⟨p0, q0⟩) (fun wx hS => ?_) ?_
        rotate_left
        · obtain ⟨y0, y1⟩ := hS
          go_light
          iterate 32 (apply Plan.seg_pick; rfl; intro K hK; go_wp)
          exact Plan.seg_nil
        refine Plan.plan_done ?_
        go_wp2_with fail
        go_roundw
        case rel => exact ⟨i + 1, by omega, by go_num, HBW.out.drew⟩
        case measure => simp [intOf]; omega
    · obtain rfl : i = N := by omega
      have HBW := Lib.hid hb
      clear hb
      go_wp2_with fail
      refine (awake_any _).mono ?_
      rintro e wz ⟨rfl, hb5⟩
      have HB5 := Lib.hid hb5
      clear hb5
      go_wp2_with fail
      go_ret
      exact ⟨rfl, HB.out.trans ((HBW.out.trans (HB5.out.mono HBW.out.size)).mono HB.out.size)⟩

end Go.Proofs.Ytkhjkemllgjfmaa
