/- The contract of the reference's Presented. -/
import Derived.Test.YtkhjkemllgjfmaaS
namespace Go.Proofs.Ytkhjkemllgjfmaa
open Go.RowKit
set_option linter.unusedVariables false

set_option maxRecDepth 100000 in
set_option maxHeartbeats 4000000 in
theorem rpres_any (v : Value) (F : Fl) (kk : Int) (w : World) (hv : FA w v F) (hm : F.nT ≤ 1000000) :
    Calls Try.prog 19 #[v, .int .i64 kk] w (PresPost w F kk) := by
  have hv0 := hv
  obtain ⟨ts, rfl, hts⟩ := hv
  obtain ⟨ao, c, rfl⟩ := hts.shape
  have HT := Lib.hid hts
  have HV := Lib.hid hv0
  clear hts hv0
  go_enter Try.func19, Try.ntmps19
  go_wp2_with fail
  obtain ⟨w1, hw⟩ : ∃ x, x = w.alloc (.cells #[.int .i64 F.sc, .slice ao F.nT c] 37) := ⟨_, rfl⟩
  rw [← hw]
  have hb1 : Below w.heap.size w w1 := by rw [hw]; exact below_box _ _
  have xf : B2 w1 w.heap.size (.int .i64 F.sc) (.slice ao F.nT c) := by
    rw [hw]; exact B2.of_alloc w _ _ _ 37 rfl
  obtain ⟨blf, hblf⟩ : ∃ z, z = w.heap.size := ⟨_, rfl⟩
  have n0 : w.heap.size ≤ blf := by omega
  rw [← hblf] at xf ⊢
  have XF := Lib.hid xf
  have HB := Lib.hid hb1
  clear hw hb1 xf hblf
  refine (rvalidF_any _ F w1 (HV.out.below HB.out) (by omega)).mono ?_
  rintro e w2 ⟨rfl, hb⟩
  replace XF := Lib.hid (XF.out.far hb XF.out.lt)
  replace HB := Lib.hid (HB.out.trans (hb.mono HB.out.size))
  have f1 := XF.out.k1
  clear hb
  cases hok : okFl F
  · have HP := Lib.hid hok
    go_wp2_with fail
    go_ret2
    exact ⟨_, _, rfl, HB.out, by rw [if_pos HP.out]; exact ⟨rfl, rfl⟩⟩
  have HOK := Lib.hid hok
  have hnok : ¬ okFl F = false := by rw [hok]; simp
  have HN := Lib.hid hnok
  clear hok hnok
  by_cases hneg : kk < 0
  · go_wp2_with fail
    go_ret2
    exact ⟨_, _, rfl, HB.out, by rw [if_neg HN.out, if_pos (by omega)]; exact ⟨rfl, rfl⟩⟩
  obtain ⟨n, rfl⟩ := Int.eq_ofNat_of_zero_le (show 0 ≤ kk by omega)
  clear hneg
  by_cases hbig : F.nT ≤ n
  · have hbd : decide (F.nT ≤ n) = true := by simpa using hbig
    go_wp2_with fail
    go_ret2
    exact ⟨_, _, rfl, HB.out, by rw [if_neg HN.out, if_pos (by omega)]; exact ⟨rfl, rfl⟩⟩
  have hbd : decide (F.nT ≤ n) = false := by simpa using hbig
  have hn : n < F.nT := by omega
  obtain ⟨b, o, a2, d2, a3, d3, a4, d4, rfl, t0, t1, t2, t3, t4, hta⟩ := HT.out.at hn
  replace t0 := (HB.out.cell (block_lt_of_cell t0)).trans t0
  replace t1 := (HB.out.cell (block_lt_of_cell t1)).trans t1
  replace t2 := (HB.out.cell (block_lt_of_cell t2)).trans t2
  replace t3 := (HB.out.cell (block_lt_of_cell t3)).trans t3
  replace t4 := (HB.out.cell (block_lt_of_cell t4)).trans t4
  have HTA := Lib.hid hta
  have HFO := Lib.hid (okFl_yes HOK.out)
  have HTO := Lib.hid ((okFl_yes HOK.out).2 n hn)
  have hoe : (F.T n).nS ≤ 4096 := (okTr_yes HTO.out).1.2.2.2.2.1
  obtain ⟨T, hTe⟩ : ∃ T, T = F.T n := ⟨_, rfl⟩
  have hpost : ∀ (v : Value) (w' : World), Below w.heap.size w w' → w'.ownsRow w.heap.size 2 1 v T.nS (rowsOf (timeL T F.sc) T.nS) → PresPost w F (n : Int) (.returned (.tuple #[v, .int .i64 0])) w' := by
    intro v w' hb ho
    refine ⟨_, _, rfl, hb, ?_⟩
    rw [if_neg HN.out, if_neg (by omega)]
    rw [hTe] at ho
    exact ⟨rfl, ho⟩
  have HPO := Lib.hid hpost
  rw [← hTe] at t0 t1 t2 t3 t4 HTA HTO hoe
  clear hta hpost hTe hbig
  go_wp2_with fail
  refine Plan.wp_region_planz (fun w' => w'.cell? ⟨blf, 1, none⟩ = some (.slice (some ⟨b, o, none⟩) F.nT c) ∧ w'.cell? ⟨b, o + n * 5, none⟩ = some (.string T.h) ∧ w'.cell? ⟨b, o + n * 5 + 1, none⟩ = some (.int .i64 T.sc) ∧ w'.cell? ⟨b, o + n * 5 + 2, none⟩ = some (.slice a2 T.nC d2) ∧ w'.cell? ⟨b, o + n * 5 + 3, none⟩ = some (.slice a3 T.nS d3) ∧ w'.cell? ⟨b, o + n * 5 + 4, none⟩ = some (.slice a4 T.nE d4)) 7 (([0, 1, 2, 3, 4].map (·, true)) ++ (([5].map (·, false)) ++ (([6].map (·, true)) ++ (([7].map (·, false)))))) (by kernel_rfl) (by kernel_rfl) (by kernel_rfl) ⟨f1, t0, t1, t2, t3, t4⟩ ?_
  refine' Plan.plan_seg _ [0, 1, 2, 3, 4] (([5].map (·, false)) ++ (([6].map (·, true)) ++ (([7].map (·, false))))) (by kernel_rfl) (by kernel_rfl) rfl (by exact ⟨f1, t0, t1, t2, t3, t4⟩) (fun wx hS => ?_) ?_
  rotate_left
  · obtain ⟨z0, z1, z2, z3, z4, z5⟩ := hS
    go_light
    iterate 5 (apply Plan.seg_pick; rfl; intro K hK; go_wp)
    exact Plan.seg_nil
  refine Plan.plan_of_effect rfl (fun K hK => ?_)
  go_wp2_with fail
  obtain ⟨w3, hw3⟩ : ∃ x, x = (w2.alloc (.cells #[.string { data := #[] }, .int .i64 0, .slice none 0 0, .slice none 0 0, .slice none 0 0] 48)).drew := ⟨_, rfl⟩
  rw [← hw3]
  have hb3 : Below w2.heap.size w2 w3 := by rw [hw3]; exact (below_box _ _).drew
  have xt : BX w3 w2.heap.size (.string { data := #[] }) (.int .i64 0) (.slice none 0 0) (.slice none 0 0) (.slice none 0 0) := by
    rw [hw3]; exact (BX.of_alloc w2 _ _ _ _ _ _ 48 rfl).far ((Below.refl (w2.heap.size + 1) _).drew) (by omega)
  obtain ⟨bt, hbt⟩ : ∃ z, z = w2.heap.size := ⟨_, rfl⟩
  have nbt : blf < bt := by have := XF.out.lt; omega
  have nwt : w.heap.size ≤ bt := by have := HB.out.size; omega
  rw [← hbt] at xt ⊢
  replace f1 := (hb3.cell (block_lt_of_cell f1)).trans f1
  replace t0 := (hb3.cell (block_lt_of_cell t0)).trans t0
  replace t1 := (hb3.cell (block_lt_of_cell t1)).trans t1
  replace t2 := (hb3.cell (block_lt_of_cell t2)).trans t2
  replace t3 := (hb3.cell (block_lt_of_cell t3)).trans t3
  replace t4 := (hb3.cell (block_lt_of_cell t4)).trans t4
  have XT := Lib.hid xt
  have xtz := xt.fz
  have xt0 := xt.k0
  have xt1 := xt.k1
  have xt2 := xt.k2
  have xt3 := xt.k3
  have xt4 := xt.k4
  replace HB := Lib.hid (HB.out.trans (hb3.mono HB.out.size))
  replace XF := Lib.hid (XF.out.far hb3 XF.out.lt)
  clear hw3 hb3 xt hbt
  refine ⟨⟨f1, t0, t1, t2, t3, t4⟩, ?_⟩
  refine' Plan.plan_seg _ [6] (([7].map (·, false))) (by kernel_rfl) (by kernel_rfl) rfl (by exact ⟨f1, t0, t1, t2, t3, t4⟩) (fun wx hS => ?_) ?_
  rotate_left
  · obtain ⟨z0, z1, z2, z3, z4, z5⟩ := hS
    go_light
    iterate 1 (apply Plan.seg_pick; rfl; intro K hK; go_wp)
    exact Plan.seg_nil
  refine Plan.plan_of_last rfl (fun K hK => ?_)
  go_wp2_with fail
  refine Plan.plan_done ?_
  obtain ⟨w4, hw4⟩ : ∃ x, x = (((((w3.setCell ⟨bt, 0, none⟩ (.string T.h)).setCell ⟨bt, 1, none⟩ (.int .i64 T.sc)).setCell ⟨bt, 2, none⟩ (.slice a2 T.nC d2)).setCell ⟨bt, 3, none⟩ (.slice a3 T.nS d3)).setCell ⟨bt, 4, none⟩ (.slice a4 T.nE d4)) := ⟨_, rfl⟩
  rw [← hw4]
  have xt := XT.out.put5 (.string T.h) (.int .i64 T.sc) (.slice a2 T.nC d2) (.slice a3 T.nS d3) (.slice a4 T.nE d4)
  have hb4 := below_put5 HB.out nwt (.string T.h) (.int .i64 T.sc) (.slice a2 T.nC d2) (.slice a3 T.nS d3) (.slice a4 T.nE d4)
  have hb34 := below_put5 (Below.refl bt w3) (Nat.le_refl _) (.string T.h) (.int .i64 T.sc) (.slice a2 T.nC d2) (.slice a3 T.nS d3) (.slice a4 T.nE d4)
  rw [← hw4] at xt hb4 hb34
  replace XT := Lib.hid xt
  replace HB := Lib.hid hb4
  replace XF := Lib.hid (XF.out.far hb34 nbt)
  obtain ⟨B, hBB⟩ : ∃ z, z = w4.heap.size := ⟨_, rfl⟩
  have n6 : bt < B := by have := xt.lt; omega
  have n7 : B ≤ w4.heap.size := by omega
  have xt3' := xt.k3
  clear hw4 xt hb4 hb34 f1 t0 t1 t2 t3 t4 xtz xt0 xt1 xt2 xt3 xt4 hBB
  have hnw : w.heap.size ≤ B := by omega
  go_wp2_with fail
  go_loopw [9, 6, 7] (fun i v g wr => ∃ (k : Nat), k ≤ T.nS ∧ i = .int .i64 (k : Int) ∧ g = .int .i64 (atT T.S k) ∧ BX wr bt (.string T.h) (.int .i64 T.sc) (.slice a2 T.nC d2) (.slice a3 T.nS d3) (.slice a4 T.nE d4) ∧ B2 wr blf (.int .i64 F.sc) (.slice (some ⟨b, o, none⟩) F.nT c) ∧ wr.ownsRow B 2 1 v k (rowsOf (timeL T F.sc) k) ∧ Below w.heap.size w wr ∧ B ≤ wr.heap.size) (fun i _ _ _ => T.nS - (intOf i).toNat)
  case atStart => exact ⟨0, Nat.zero_le _, rfl, rfl, XT.out, XF.out, owns_nil _ _ _ _, HB.out, n7⟩
  case round =>
    obtain ⟨k, hk, rfl, rfl, xt, xf, ho, hb, hsz⟩ := hrel
    obtain ⟨va, vm, vc, rfl⟩ := owns_shape ho
    have HO := Lib.hid ho
    have HBW := Lib.hid hb
    have HXT := Lib.hid xt
    have HXF := Lib.hid xf
    have t3 := xt.k3
    clear ho hb xt xf
    by_cases hlt : k < T.nS
    · obtain ⟨c0, c1, c2, c3, c4, ea, eh, es, eb2, eb3, eb4⟩ := HTA.out
      simp only [Value.agg.injEq, Array.mk.injEq, List.cons.injEq, and_true] at ea
      obtain ⟨rfl, rfl, rfl, rfl, rfl⟩ := ea
      obtain ⟨_, _, e, _, H⟩ := eb3
      simp only [Value.slice.injEq, true_and] at e
      obtain ⟨rfl, rfl⟩ := e
      obtain ⟨sb, so, x, rfl, q0, q1, q2, q3, hx⟩ := H k hlt
      have sbl : sb < w.heap.size := block_lt_of_cell q0
      have QW := Lib.hid (And.intro sbl (And.intro q1 q2))
      replace q1 := (HBW.out.cell (p := ⟨sb, so + k * 4 + 1, none⟩) (by simp; omega)).trans q1
      replace q2 := (HBW.out.cell (p := ⟨sb, so + k * 4 + 2, none⟩) (by simp; omega)).trans q2
      clear q0 q3 H eh es eb2 eb4 hx sbl
      have bd := atT_bd (okTr_yes HTO.out).2.1 (show k ≤ T.nS by omega)
      have sd := okSm_yes ((okTr_yes HTO.out).2.1 k hlt)
      obtain ⟨A, hA⟩ : ∃ A, A = atT T.S k := ⟨_, rfl⟩
      have hst : atT T.S (k + 1) = A + (T.S k).dur := by simp only [atT]; rw [← hA]
      have htv : timeL T F.sc k = [.int .i64 (showF T (A + (T.S k).shift) F.sc)] := by simp only [timeL, timeV]; rw [← hA]
      rw [← hA] at bd ⊢
      have g1 := bd.1
      have g2 : A ≤ 68719476736 := by omega
      have g3 := sd.2.1
      have g4 := sd.2.2.1
      have g5 := sd.2.2.2.1
      have g6 := sd.2.2.2.2
      have HST := Lib.hid hst
      have HTV := Lib.hid htv
      obtain ⟨t0, t1, t2, _, t4, _⟩ := HXT.out
      have f0 := HXF.out.k0
      have f1 := HXF.out.k1
      clear hst htv hA bd sd
      go_wp2_with fail
      refine Plan.wp_region_plan (fun w' => w'.cell? ⟨blf, 0, none⟩ = some (.int .i64 F.sc) ∧ w'.cell? ⟨blf, 1, none⟩ = some (.slice (some ⟨b, o, none⟩) F.nT c) ∧ w'.cell? ⟨bt, 0, none⟩ = some (.string T.h) ∧ w'.cell? ⟨bt, 1, none⟩ = some (.int .i64 T.sc) ∧ w'.cell? ⟨bt, 2, none⟩ = some (.slice a2 T.nC d2) ∧ w'.cell? ⟨bt, 3, none⟩ = some (.slice (some ⟨sb, so, none⟩) T.nS d3) ∧ w'.cell? ⟨bt, 4, none⟩ = some (.slice a4 T.nE d4) ∧ w'.cell? ⟨sb, so + k * 4 + 1, none⟩ = some (.int .i64 (T.S k).dur) ∧ w'.cell? ⟨sb, so + k * 4 + 2, none⟩ = some (.int .i64 (T.S k).shift)) (([0, 1, 2, 3, 4, 5, 6, 7, 8, 9, 10].map (·, true)) ++ (([11, 12, 13].map (·, false)) ++ (([14].map (·, true))))) (by kernel_rfl) (by kernel_rfl) (by kernel_rfl) ⟨f0, f1, t0, t1, t2, t3, t4, q1, q2⟩ ?_
      refine' Plan.plan_seg _ [0, 1, 2, 3, 4, 5, 6, 7, 8, 9, 10] (([11, 12, 13].map (·, false)) ++ (([14].map (·, true)))) (by kernel_rfl) (by kernel_rfl) rfl (by exact ⟨f0, f1, t0, t1, t2, t3, t4, q1, q2⟩) (fun wx hS => ?_) ?_
      rotate_left
      · obtain ⟨z0, z1, z2, z3, z4, z5, z6, z7, z8⟩ := hS
        go_light
        iterate 11 (apply Plan.seg_pick; rfl; intro K hK; go_wp)
        exact Plan.seg_nil
      refine Plan.plan_of_effect rfl (fun K hK => ?_)
      go_wp2_with fail
      refine (shown_any _ T _ F.sc _ _ (HTA.out.below HBW.out.drew) HTO.out ?_ ?_ HFO.out.1.1 HFO.out.1.2.1 ⟨_, rfl, _, _, _, rfl⟩).mono ?_
      · omega
      · omega
      rintro e w5 ⟨rfl, hb5⟩
      replace hb5 : Below wr.heap.size wr w5 := (Below.refl wr.heap.size wr).drew.trans hb5
      replace f0 := (hb5.cell (block_lt_of_cell f0)).trans f0
      replace f1 := (hb5.cell (block_lt_of_cell f1)).trans f1
      replace t0 := (hb5.cell (block_lt_of_cell t0)).trans t0
      replace t1 := (hb5.cell (block_lt_of_cell t1)).trans t1
      replace t2 := (hb5.cell (block_lt_of_cell t2)).trans t2
      replace t3 := (hb5.cell (block_lt_of_cell t3)).trans t3
      replace t4 := (hb5.cell (block_lt_of_cell t4)).trans t4
      replace q1 := (hb5.cell (block_lt_of_cell q1)).trans q1
      replace q2 := (hb5.cell (block_lt_of_cell q2)).trans q2
      have HB5 := Lib.hid hb5
      clear hb5
      go_wp2_with fail
      refine ⟨⟨f0, f1, t0, t1, t2, t3, t4, q1, q2⟩, ?_⟩
      refine Plan.plan_of_effect rfl (fun K hK => ?_)
      go_wp2_with fail
      obtain ⟨Z, hZ⟩ : ∃ Z, Z = showF T (A + (T.S k).shift) F.sc := ⟨_, rfl⟩
      rw [← hZ]
      obtain ⟨w6, hw6⟩ : ∃ x, x = w5.alloc (.cells #[.int .i64 Z] 2) := ⟨_, rfl⟩
      rw [← hw6]
      have hb56 : Below w5.heap.size w5 w6 := by rw [hw6]; exact below_box _ _
      have p0 : w6.cell? ⟨w5.heap.size, 0, none⟩ = some (.int .i64 Z) := by rw [hw6]; simp [go_sem]
      replace f0 := (hb56.cell (block_lt_of_cell f0)).trans f0
      replace f1 := (hb56.cell (block_lt_of_cell f1)).trans f1
      replace t0 := (hb56.cell (block_lt_of_cell t0)).trans t0
      replace t1 := (hb56.cell (block_lt_of_cell t1)).trans t1
      replace t2 := (hb56.cell (block_lt_of_cell t2)).trans t2
      replace t3 := (hb56.cell (block_lt_of_cell t3)).trans t3
      replace t4 := (hb56.cell (block_lt_of_cell t4)).trans t4
      replace q1 := (hb56.cell (block_lt_of_cell q1)).trans q1
      replace q2 := (hb56.cell (block_lt_of_cell q2)).trans q2
      have hb6 : Below wr.heap.size wr w6 := HB5.out.trans (hb56.mono HB5.out.size)
      have HB6 := Lib.hid hb6
      have HZ := Lib.hid hZ
      have hs6 : B ≤ w6.heap.size := by have := hb6.size; omega
      clear hw6 hb6 hb56 hZ
      refine ⟨⟨f0, f1, t0, t1, t2, t3, t4, q1, q2⟩, ?_⟩
      refine Plan.plan_of_effect rfl (fun K hK => ?_)
      refine wpList_app w6 rfl (.tmp 34) (.tmp 46) 51 2 1 8 _ Try.underlying51 info2 rfl (by decide) (by decide) rfl B k w5.heap.size (.slice va vm vc) _ [.int .i64 Z] (by simp [go_sem]) (owns_below HO.out HB6.out) (by simp [go_sem]) rfl (fun j u hj => by
        match j, hj with
        | 0, hj => simp at hj; rw [← hj]; exact p0
        | j + 1, hj => simp at hj) (by simp [Value.oneCell']) (by omega) hs6 ?_
      intro v' w7 hv' hb7
      have hv7 : Below B wr w7 := (HB6.out.mono hsz).trans hb7
      obtain ⟨va', vm', vc', rfl⟩ := owns_shape hv'
      have xt7 := HXT.out.far hv7 (by omega)
      have xf7 := HXF.out.far hv7 (by omega)
      have hb37 := HBW.out.trans (hv7.mono hnw)
      have hv7s : B ≤ w7.heap.size := by have := hv7.size; omega
      have HV7 := Lib.hid (And.intro hv' (And.intro xt7 (And.intro xf7 hb37)))
      obtain ⟨t0, t1, t2, t3, t4, _⟩ := xt7
      have f0 := xf7.k0
      have f1 := xf7.k1
      replace q1 := (hb37.cell (p := ⟨sb, so + k * 4 + 1, none⟩) (by simpa using QW.out.1)).trans QW.out.2.1
      replace q2 := (hb37.cell (p := ⟨sb, so + k * 4 + 2, none⟩) (by simpa using QW.out.1)).trans QW.out.2.2
      clear hv' hb7 xf7 hb37 hv7 p0
      go_wp2_with fail
      refine ⟨⟨f0, f1, t0, t1, t2, t3, t4, q1, q2⟩, ?_⟩
      refine' Plan.plan_seg _ [14] ([]) (by kernel_rfl) (by kernel_rfl) rfl (by exact ⟨f0, f1, t0, t1, t2, t3, t4, q1, q2⟩) (fun wx hS => ?_) ?_
      rotate_left
      · obtain ⟨z0, z1, z2, z3, z4, z5, z6, z7, z8⟩ := hS
        go_light
        iterate 1 (apply Plan.seg_pick; rfl; intro K hK; go_wp)
        exact Plan.seg_nil
      refine Plan.plan_done ?_
      go_wp2_with fail
      go_roundw
      case rel =>
        have e : rowsOf (timeL T F.sc) (k + 1) = rowsOf (timeL T F.sc) k ++ [.int .i64 Z] := by
          simp only [rowsOf]; rw [HTV.out, HZ.out]
        refine ⟨k + 1, by omega, by go_num, by rw [HST.out], HV7.out.2.1, HV7.out.2.2.1, by rw [e]; exact HV7.out.1, HV7.out.2.2.2, hv7s⟩
      case measure => simp [intOf]; omega
    · obtain rfl : k = T.nS := by omega
      go_wp2_with fail
      go_ret2
      exact HPO.out _ _ HBW.out (owns_mono HO.out hnw)
end Go.Proofs.Ytkhjkemllgjfmaa
