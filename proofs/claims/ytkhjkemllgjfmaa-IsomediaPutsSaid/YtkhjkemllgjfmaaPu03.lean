/- Texts of this claim joined: T E F I M U V W YA YB YC. -/
import Derived.Carry
import Derived.Maps.Own
import Derived.Lib.ConvBytes
import Derived.Test.YtkhjkemllgjfmaaPu00
import Derived.Test.YtkhjkemllgjfmaaPu01
import Derived.Test.YtkhjkemllgjfmaaPu02
set_option linter.unusedVariables false
set_option linter.unusedSimpArgs false

/- The contract of the reference's Presented. -/
namespace Go.Proofs.Ytkhjkemllgjfmaa
open Go.RowKit
set_option linter.unusedVariables false

set_option maxRecDepth 100000 in
set_option maxHeartbeats 4000000 in
theorem rpres_any (v : Value) (F : Fl) (kk : Int) (w : World) (hv : FA w v F) (hm : F.nT ≤ 1000000) :
    Calls Try.prog 19 #[v, .int .i64 kk] w (PresPost w F kk) := by
  have hv0 := hv
  obtain ⟨ts, rfl, hts⟩ := hv
  obtain ⟨ao, c, rfl⟩ := hts.shape
  have HT := Lib.hid hts
  have HV := Lib.hid hv0
  clear hts hv0
  go_enter Try.func19, Try.ntmps19
  go_wp2_with fail
  obtain ⟨w1, hw⟩ : ∃ x, x = w.alloc (.cells #[.int .i64 F.sc, .slice ao F.nT c] 37) := ⟨_, rfl⟩
  rw [← hw]
  have hb1 : Below w.heap.size w w1 := by rw [hw]; exact below_box _ _
  have xf : B2 w1 w.heap.size (.int .i64 F.sc) (.slice ao F.nT c) := by
    rw [hw]; exact B2.of_alloc w _ _ _ 37 rfl
  obtain ⟨blf, hblf⟩ : ∃ z, z = w.heap.size := ⟨_, rfl⟩
  have n0 : w.heap.size ≤ blf := by omega
  rw [← hblf] at xf ⊢
  have XF := Lib.hid xf
  have HB := Lib.hid hb1
  clear hw hb1 xf hblf
  refine (rvalidF_any _ F w1 (HV.out.below HB.out) (by omega)).mono ?_
  rintro e w2 ⟨rfl, hb⟩
  replace XF := Lib.hid (XF.out.far hb XF.out.lt)
  replace HB := Lib.hid (HB.out.trans (hb.mono HB.out.size))
  have f1 := XF.out.k1
  clear hb
  cases hok : okFl F
  · have HP := Lib.hid hok
    go_wp2_with fail
    go_ret2
    exact ⟨_, _, rfl, HB.out, by rw [if_pos HP.out]; exact ⟨rfl, rfl⟩⟩
  have HOK := Lib.hid hok
  have hnok : ¬ okFl F = false := by rw [hok]; simp
  have HN := Lib.hid hnok
  clear hok hnok
  by_cases hneg : kk < 0
  · go_wp2_with fail
    go_ret2
    exact ⟨_, _, rfl, HB.out, by rw [if_neg HN.out, if_pos (by omega)]; exact ⟨rfl, rfl⟩⟩
  obtain ⟨n, rfl⟩ := Int.eq_ofNat_of_zero_le (show 0 ≤ kk by omega)
  clear hneg
  by_cases hbig : F.nT ≤ n
  · have hbd : decide (F.nT ≤ n) = true := by simpa using hbig
    go_wp2_with fail
    go_ret2
    exact ⟨_, _, rfl, HB.out, by rw [if_neg HN.out, if_pos (by omega)]; exact ⟨rfl, rfl⟩⟩
  have hbd : decide (F.nT ≤ n) = false := by simpa using hbig
  have hn : n < F.nT := by omega
  obtain ⟨b, o, a2, d2, a3, d3, a4, d4, rfl, t0, t1, t2, t3, t4, hta⟩ := HT.out.at hn
  replace t0 := (HB.out.cell (block_lt_of_cell t0)).trans t0
  replace t1 := (HB.out.cell (block_lt_of_cell t1)).trans t1
  replace t2 := (HB.out.cell (block_lt_of_cell t2)).trans t2
  replace t3 := (HB.out.cell (block_lt_of_cell t3)).trans t3
  replace t4 := (HB.out.cell (block_lt_of_cell t4)).trans t4
  have HTA := Lib.hid hta
  have HFO := Lib.hid (okFl_yes HOK.out)
  have HTO := Lib.hid ((okFl_yes HOK.out).2 n hn)
  have hoe : (F.T n).nS ≤ 4096 := (okTr_yes HTO.out).1.2.2.2.2.1
  obtain ⟨T, hTe⟩ : ∃ T, T = F.T n := ⟨_, rfl⟩
  have hpost : ∀ (v : Value) (w' : World), Below w.heap.size w w' → w'.ownsRow w.heap.size 2 1 v T.nS (rowsOf (timeL T F.sc) T.nS) → PresPost w F (n : Int) (.returned (.tuple #[v, .int .i64 0])) w' := by
    intro v w' hb ho
    refine ⟨_, _, rfl, hb, ?_⟩
    rw [if_neg HN.out, if_neg (by omega)]
    rw [hTe] at ho
    exact ⟨rfl, ho⟩
  have HPO := Lib.hid hpost
  rw [← hTe] at t0 t1 t2 t3 t4 HTA HTO hoe
  clear hta hpost hTe hbig
  go_wp2_with fail
  refine Plan.wp_region_planz (fun w' => w'.cell? ⟨blf, 1, none⟩ = some (.slice (some ⟨b, o, none⟩) F.nT c) ∧ w'.cell? ⟨b, o + n * 5, none⟩ = some (.string T.h) ∧ w'.cell? ⟨b, o + n * 5 + 1, none⟩ = some (.int .i64 T.sc) ∧ w'.cell? ⟨b, o + n * 5 + 2, none⟩ = some (.slice a2 T.nC d2) ∧ w'.cell? ⟨b, o + n * 5 + 3, none⟩ = some (.slice a3 T.nS d3) ∧ w'.cell? ⟨b, o + n * 5 + 4, none⟩ = some (.slice a4 T.nE d4)) 7 (([0, 1, 2, 3, 4].map (·, true)) ++ (([5].map (·, false)) ++ (([6].map (·, true)) ++ (([7].map (·, false)))))) (by kernel_rfl) (by kernel_rfl) (by kernel_rfl) ⟨f1, t0, t1, t2, t3, t4⟩ ?_
  refine' Plan.plan_seg _ [0, 1, 2, 3, 4] (([5].map (·, false)) ++ (([6].map (·, true)) ++ (([7].map (·, false))))) (by kernel_rfl) (by kernel_rfl) rfl (by exact ⟨f1, t0, t1, t2, t3, t4⟩) (fun wx hS => ?_) ?_
  rotate_left
  · obtain ⟨z0, z1, z2, z3, z4, z5⟩ := hS
    go_light
    iterate 5 (apply Plan.seg_pick; rfl; intro K hK; go_wp)
    exact Plan.seg_nil
  refine Plan.plan_of_effect rfl (fun K hK => ?_)
  go_wp2_with fail
  obtain ⟨w3, hw3⟩ : ∃ x, x = (w2.alloc (.cells #[.string { data := #[] }, .int .i64 0, .slice none 0 0, .slice none 0 0, .slice none 0 0] 48)).drew := ⟨_, rfl⟩
  rw [← hw3]
  have hb3 : Below w2.heap.size w2 w3 := by rw [hw3]; exact (below_box _ _).drew
  have xt : BX w3 w2.heap.size (.string { data := #[] }) (.int .i64 0) (.slice none 0 0) (.slice none 0 0) (.slice none 0 0) := by
    rw [hw3]; exact (BX.of_alloc w2 _ _ _ _ _ _ 48 rfl).far ((Below.refl (w2.heap.size + 1) _).drew) (by omega)
  obtain ⟨bt, hbt⟩ : ∃ z, z = w2.heap.size := ⟨_, rfl⟩
  have nbt : blf < bt := by have := XF.out.lt; omega
  have nwt : w.heap.size ≤ bt := by have := HB.out.size; omega
  rw [← hbt] at xt ⊢
  replace f1 := (hb3.cell (block_lt_of_cell f1)).trans f1
  replace t0 := (hb3.cell (block_lt_of_cell t0)).trans t0
  replace t1 := (hb3.cell (block_lt_of_cell t1)).trans t1
  replace t2 := (hb3.cell (block_lt_of_cell t2)).trans t2
  replace t3 := (hb3.cell (block_lt_of_cell t3)).trans t3
  replace t4 := (hb3.cell (block_lt_of_cell t4)).trans t4
  have XT := Lib.hid xt
  have xtz := xt.fz
  have xt0 := xt.k0
  have xt1 := xt.k1
  have xt2 := xt.k2
  have xt3 := xt.k3
  have xt4 := xt.k4
  replace HB := Lib.hid (HB.out.trans (hb3.mono HB.out.size))
  replace XF := Lib.hid (XF.out.far hb3 XF.out.lt)
  clear hw3 hb3 xt hbt
  refine ⟨⟨f1, t0, t1, t2, t3, t4⟩, ?_⟩
  refine' Plan.plan_seg _ [6] (([7].map (·, false))) (by kernel_rfl) (by kernel_rfl) rfl (by exact ⟨f1, t0, t1, t2, t3, t4⟩) (fun wx hS => ?_) ?_
  rotate_left
  · obtain ⟨z0, z1, z2, z3, z4, z5⟩ := hS
    go_light
    iterate 1 (apply Plan.seg_pick; rfl; intro K hK; go_wp)
    exact Plan.seg_nil
  refine Plan.plan_of_last rfl (fun K hK => ?_)
  go_wp2_with fail
  refine Plan.plan_done ?_
  obtain ⟨w4, hw4⟩ : ∃ x, x = (((((w3.setCell ⟨bt, 0, none⟩ (.string T.h)).setCell ⟨bt, 1, none⟩ (.int .i64 T.sc)).setCell ⟨bt, 2, none⟩ (.slice a2 T.nC d2)).setCell ⟨bt, 3, none⟩ (.slice a3 T.nS d3)).setCell ⟨bt, 4, none⟩ (.slice a4 T.nE d4)) := ⟨_, rfl⟩
  rw [← hw4]
  have xt := XT.out.put5 (.string T.h) (.int .i64 T.sc) (.slice a2 T.nC d2) (.slice a3 T.nS d3) (.slice a4 T.nE d4)
  have hb4 := below_put5 HB.out nwt (.string T.h) (.int .i64 T.sc) (.slice a2 T.nC d2) (.slice a3 T.nS d3) (.slice a4 T.nE d4)
  have hb34 := below_put5 (Below.refl bt w3) (Nat.le_refl _) (.string T.h) (.int .i64 T.sc) (.slice a2 T.nC d2) (.slice a3 T.nS d3) (.slice a4 T.nE d4)
  rw [← hw4] at xt hb4 hb34
  replace XT := Lib.hid xt
  replace HB := Lib.hid hb4
  replace XF := Lib.hid (XF.out.far hb34 nbt)
  obtain ⟨B, hBB⟩ : ∃ z, z = w4.heap.size := ⟨_, rfl⟩
  have n6 : bt < B := by have := xt.lt; omega
  have n7 : B ≤ w4.heap.size := by omega
  have xt3' := xt.k3
  clear hw4 xt hb4 hb34 f1 t0 t1 t2 t3 t4 xtz xt0 xt1 xt2 xt3 xt4 hBB
  have hnw : w.heap.size ≤ B := by omega
  go_wp2_with fail
  go_loopw [9, 6, 7] (fun i v g wr => ∃ (k : Nat), k ≤ T.nS ∧ i = .int .i64 (k : Int) ∧ g = .int .i64 (atT T.S k) ∧ BX wr bt (.string T.h) (.int .i64 T.sc) (.slice a2 T.nC d2) (.slice a3 T.nS d3) (.slice a4 T.nE d4) ∧ B2 wr blf (.int .i64 F.sc) (.slice (some ⟨b, o, none⟩) F.nT c) ∧ wr.ownsRow B 2 1 v k (rowsOf (timeL T F.sc) k) ∧ Below w.heap.size w wr ∧ B ≤ wr.heap.size) (fun i _ _ _ => T.nS - (intOf i).toNat)
  case atStart => exact ⟨0, Nat.zero_le _, rfl, rfl, XT.out, XF.out, owns_nil _ _ _ _, HB.out, n7⟩
  case round =>
    obtain ⟨k, hk, rfl, rfl, xt, xf, ho, hb, hsz⟩ := hrel
    obtain ⟨va, vm, vc, rfl⟩ := owns_shape ho
    have HO := Lib.hid ho
    have HBW := Lib.hid hb
    have HXT := Lib.hid xt
    have HXF := Lib.hid xf
    have t3 := xt.k3
    clear ho hb xt xf
    by_cases hlt : k < T.nS
    · obtain ⟨c0, c1, c2, c3, c4, ea, eh, es, eb2, eb3, eb4⟩ := HTA.out
      simp only [Value.agg.injEq, Array.mk.injEq, List.cons.injEq, and_true] at ea
      obtain ⟨rfl, rfl, rfl, rfl, rfl⟩ := ea
      obtain ⟨_, _, e, _, H⟩ := eb3
      simp only [Value.slice.injEq, true_and] at e
      obtain ⟨rfl, rfl⟩ := e
      obtain ⟨sb, so, x, rfl, q0, q1, q2, q3, hx⟩ := H k hlt
      have sbl : sb < w.heap.size := block_lt_of_cell q0
      have QW := Lib.hid (And.intro sbl (And.intro q1 q2))
      replace q1 := (HBW.out.cell (p := ⟨sb, so + k * 4 + 1, none⟩) (by simp; omega)).trans q1
      replace q2 := (HBW.out.cell (p := ⟨sb, so + k * 4 + 2, none⟩) (by simp; omega)).trans q2
      clear q0 q3 H eh es eb2 eb4 hx sbl
      have bd := atT_bd (okTr_yes HTO.out).2.1 (show k ≤ T.nS by omega)
      have sd := okSm_yes ((okTr_yes HTO.out).2.1 k hlt)
      obtain ⟨A, hA⟩ : ∃ A, A = atT T.S k := ⟨_, rfl⟩
      have hst : atT T.S (k + 1) = A + (T.S k).dur := by simp only [atT]; rw [← hA]
      have htv : timeL T F.sc k = [.int .i64 (showF T (A + (T.S k).shift) F.sc)] := by simp only [timeL, timeV]; rw [← hA]
      rw [← hA] at bd ⊢
      have g1 := bd.1
      have g2 : A ≤ 68719476736 := by omega
      have g3 := sd.2.1
      have g4 := sd.2.2.1
      have g5 := sd.2.2.2.1
      have g6 := sd.2.2.2.2
      have HST := Lib.hid hst
      have HTV := Lib.hid htv
      obtain ⟨t0, t1, t2, _, t4, _⟩ := HXT.out
      have f0 := HXF.out.k0
      have f1 := HXF.out.k1
      clear hst htv hA bd sd
      go_wp2_with fail
      refine Plan.wp_region_plan (fun w' => w'.cell? ⟨blf, 0, none⟩ = some (.int .i64 F.sc) ∧ w'.cell? ⟨blf, 1, none⟩ = some (.slice (some ⟨b, o, none⟩) F.nT c) ∧ w'.cell? ⟨bt, 0, none⟩ = some (.string T.h) ∧ w'.cell? ⟨bt, 1, none⟩ = some (.int .i64 T.sc) ∧ w'.cell? ⟨bt, 2, none⟩ = some (.slice a2 T.nC d2) ∧ w'.cell? ⟨bt, 3, none⟩ = some (.slice (some ⟨sb, so, none⟩) T.nS d3) ∧ w'.cell? ⟨bt, 4, none⟩ = some (.slice a4 T.nE d4) ∧ w'.cell? ⟨sb, so + k * 4 + 1, none⟩ = some (.int .i64 (T.S k).dur) ∧ w'.cell? ⟨sb, so + k * 4 + 2, none⟩ = some (.int .i64 (T.S k).shift)) (([0, 1, 2, 3, 4, 5, 6, 7, 8, 9, 10].map (·, true)) ++ (([11, 12, 13].map (·, false)) ++ (([14].map (·, true))))) (by kernel_rfl) (by kernel_rfl) (by kernel_rfl) ⟨f0, f1, t0, t1, t2, t3, t4, q1, q2⟩ ?_
      refine' Plan.plan_seg _ [0, 1, 2, 3, 4, 5, 6, 7, 8, 9, 10] (([11, 12, 13].map (·, false)) ++ (([14].map (·, true)))) (by kernel_rfl) (by kernel_rfl) rfl (by exact ⟨f0, f1, t0, t1, t2, t3, t4, q1, q2⟩) (fun wx hS => ?_) ?_
      rotate_left
      · obtain ⟨z0, z1, z2, z3, z4, z5, z6, z7, z8⟩ := hS
        go_light
        iterate 11 (apply Plan.seg_pick; rfl; intro K hK; go_wp)
        exact Plan.seg_nil
      refine Plan.plan_of_effect rfl (fun K hK => ?_)
      go_wp2_with fail
      refine (shown_any _ T _ F.sc _ _ (HTA.out.below HBW.out.drew) HTO.out ?_ ?_ HFO.out.1.1 HFO.out.1.2.1 ⟨_, rfl, _, _, _, rfl⟩).mono ?_
      · omega
      · omega
      rintro e w5 ⟨rfl, hb5⟩
      replace hb5 : Below wr.heap.size wr w5 := (Below.refl wr.heap.size wr).drew.trans hb5
      replace f0 := (hb5.cell (block_lt_of_cell f0)).trans f0
      replace f1 := (hb5.cell (block_lt_of_cell f1)).trans f1
      replace t0 := (hb5.cell (block_lt_of_cell t0)).trans t0
      replace t1 := (hb5.cell (block_lt_of_cell t1)).trans t1
      replace t2 := (hb5.cell (block_lt_of_cell t2)).trans t2
      replace t3 := (hb5.cell (block_lt_of_cell t3)).trans t3
      replace t4 := (hb5.cell (block_lt_of_cell t4)).trans t4
      replace q1 := (hb5.cell (block_lt_of_cell q1)).trans q1
      replace q2 := (hb5.cell (block_lt_of_cell q2)).trans q2
      have HB5 := Lib.hid hb5
      clear hb5
      go_wp2_with fail
      refine ⟨⟨f0, f1, t0, t1, t2, t3, t4, q1, q2⟩, ?_⟩
      refine Plan.plan_of_effect rfl (fun K hK => ?_)
      go_wp2_with fail
      obtain ⟨Z, hZ⟩ : ∃ Z, Z = showF T (A + (T.S k).shift) F.sc := ⟨_, rfl⟩
      rw [← hZ]
      obtain ⟨w6, hw6⟩ : ∃ x, x = w5.alloc (.cells #[.int .i64 Z] 2) := ⟨_, rfl⟩
      rw [← hw6]
      have hb56 : Below w5.heap.size w5 w6 := by rw [hw6]; exact below_box _ _
      have p0 : w6.cell? ⟨w5.heap.size, 0, none⟩ = some (.int .i64 Z) := by rw [hw6]; simp [go_sem]
      replace f0 := (hb56.cell (block_lt_of_cell f0)).trans f0
      replace f1 := (hb56.cell (block_lt_of_cell f1)).trans f1
      replace t0 := (hb56.cell (block_lt_of_cell t0)).trans t0
      replace t1 := (hb56.cell (block_lt_of_cell t1)).trans t1
      replace t2 := (hb56.cell (block_lt_of_cell t2)).trans t2
      replace t3 := (hb56.cell (block_lt_of_cell t3)).trans t3
      replace t4 := (hb56.cell (block_lt_of_cell t4)).trans t4
      replace q1 := (hb56.cell (block_lt_of_cell q1)).trans q1
      replace q2 := (hb56.cell (block_lt_of_cell q2)).trans q2
      have hb6 : Below wr.heap.size wr w6 := HB5.out.trans (hb56.mono HB5.out.size)
      have HB6 := Lib.hid hb6
      have HZ := Lib.hid hZ
      have hs6 : B ≤ w6.heap.size := by have := hb6.size; omega
      clear hw6 hb6 hb56 hZ
      refine ⟨⟨f0, f1, t0, t1, t2, t3, t4, q1, q2⟩, ?_⟩
      refine Plan.plan_of_effect rfl (fun K hK => ?_)
      refine wpList_app w6 rfl (.tmp 34) (.tmp 46) 51 2 1 8 _ Try.underlying51 info2 rfl (by decide) (by decide) rfl B k w5.heap.size (.slice va vm vc) _ [.int .i64 Z] (by simp [go_sem]) (owns_below HO.out HB6.out) (by simp [go_sem]) rfl (fun j u hj => by
        match j, hj with
        | 0, hj => simp at hj; rw [← hj]; exact p0
        | j + 1, hj => simp at hj) (by simp [Value.oneCell']) (by omega) hs6 ?_
      intro v' w7 hv' hb7
      have hv7 : Below B wr w7 := (HB6.out.mono hsz).trans hb7
      obtain ⟨va', vm', vc', rfl⟩ := owns_shape hv'
      have xt7 := HXT.out.far hv7 (by omega)
      have xf7 := HXF.out.far hv7 (by omega)
      have hb37 := HBW.out.trans (hv7.mono hnw)
      have hv7s : B ≤ w7.heap.size := by have := hv7.size; omega
      have HV7 := Lib.hid (And.intro hv' (And.intro xt7 (And.intro xf7 hb37)))
      obtain ⟨t0, t1, t2, t3, t4, _⟩ := xt7
      have f0 := xf7.k0
      have f1 := xf7.k1
      replace q1 := (hb37.cell (p := ⟨sb, so + k * 4 + 1, none⟩) (by simpa using QW.out.1)).trans QW.out.2.1
      replace q2 := (hb37.cell (p := ⟨sb, so + k * 4 + 2, none⟩) (by simpa using QW.out.1)).trans QW.out.2.2
      clear hv' hb7 xf7 hb37 hv7 p0
      go_wp2_with fail
      refine ⟨⟨f0, f1, t0, t1, t2, t3, t4, q1, q2⟩, ?_⟩
      refine' Plan.plan_seg _ [14] ([]) (by kernel_rfl) (by kernel_rfl) rfl (by exact ⟨f0, f1, t0, t1, t2, t3, t4, q1, q2⟩) (fun wx hS => ?_) ?_
      rotate_left
      · obtain ⟨z0, z1, z2, z3, z4, z5, z6, z7, z8⟩ := hS
        go_light
        iterate 1 (apply Plan.seg_pick; rfl; intro K hK; go_wp)
        exact Plan.seg_nil
      refine Plan.plan_done ?_
      go_wp2_with fail
      go_roundw
      case rel =>
        have e : rowsOf (timeL T F.sc) (k + 1) = rowsOf (timeL T F.sc) k ++ [.int .i64 Z] := by
          simp only [rowsOf]; rw [HTV.out, HZ.out]
        refine ⟨k + 1, by omega, by go_num, by rw [HST.out], HV7.out.2.1, HV7.out.2.2.1, by rw [e]; exact HV7.out.1, HV7.out.2.2.2, hv7s⟩
      case measure => simp [intOf]; omega
    · obtain rfl : k = T.nS := by omega
      go_wp2_with fail
      go_ret2
      exact HPO.out _ _ HBW.out (owns_mono HO.out hnw)
end Go.Proofs.Ytkhjkemllgjfmaa

/- The contract of cutroomref18.Boxes; both at any slice. -/
namespace Go.Proofs.Ytkhjkemllgjfmaa
open Go.RowKit
set_option linter.unusedVariables false

set_option maxRecDepth 100000 in
set_option maxHeartbeats 1000000 in
theorem boxes_zero (ao : Option Addr) (c : Nat) (f : Nat → Int) (w : World) :
    Calls Try.prog 10 #[.slice ao 0 c, .int .i64 0, .int .i64 0] w (BoxesPost 31 w f 0 0 0) := by
  have hmf : ∀ (fn : Fn) (first cap : Array Value) (w : World), (Instr.makeFunc fn first cap).run Try.prog w = .ok (.func fn first cap) w := fun _ _ _ _ => rfl
  have HP := Lib.hid (fun (w' : World) (hb : Below w.heap.size w w') => (show BoxesPost 31 w f 0 0 0 (.returned (.tuple #[.slice none 0 0, .int .i64 0])) w' from ⟨_, _, rfl, hb, by rw [if_neg (by omega)]; exact ⟨0, fun j hj => absurd hj (Nat.not_lt_zero j), fun h => absurd h.1 (by simp), rfl, fun _ => rfl, fun _ => owns_nil _ _ _ _⟩⟩))
  go_enter_defers Try.func10, Try.ntmps10
  go_wp2_with fail
  refine wp_loop_rounds 1 ?_
  rw [rounds_succ]
  go_wp2_with fail
  refine leaves_cons (f := 28) (args := #[.pointer (some ⟨w.heap.size, 0, none⟩), .pointer (some ⟨w.heap.size + 1, 0, none⟩)]) (by simp) (by simp [go_sem]) ?_
  refine (idle28 _ _ _).mono ?_
  rintro e u' w'' ⟨rfl, rfl, rfl⟩
  simp [Leaves, settle, results, Try.results10, go_sem]
  exact HP.out _ (by go_grown)

theorem boxes_any (v : Value) (n : Nat) (f : Nat → Int) (fr to : Int) (w : World) (hv : BA w v n f) (hn : n ≤ 100000000) : Calls Try.prog 10 #[v, .int .i64 fr, .int .i64 to] w (BoxesPost 31 w f n fr to) := by
  by_cases hbad : fr < 0 ∨ to < fr ∨ (n : Int) < to
  · exact boxes_arg v n f fr to w hv hn hbad
  · obtain ⟨a, rfl⟩ := Int.eq_ofNat_of_zero_le (show 0 ≤ fr by omega)
    obtain ⟨t, rfl⟩ := Int.eq_ofNat_of_zero_le (show 0 ≤ to by omega)
    rcases Nat.eq_zero_or_pos n with rfl | h0
    · obtain ⟨ao, c, rfl, _, _⟩ := hv
      obtain rfl : a = 0 := by omega
      obtain rfl : t = 0 := by omega
      exact boxes_zero ao c f w
    · obtain ⟨b, o, c, rfl, hc, h1, h2⟩ := hv.open h0
      exact boxes_ok b o n c f a t w hn hc h1 h2 (by omega) (by omega)

set_option maxRecDepth 100000 in
set_option maxHeartbeats 1000000 in
theorem rboxes_arg (v : Value) (n : Nat) (f : Nat → Int) (fr to : Int) (w : World) (hv : BA w v n f) (hn : n ≤ 100000000) (hbad : fr < 0 ∨ to < fr ∨ (n : Int) < to) :
    Calls Try.prog 11 #[v, .int .i64 fr, .int .i64 to] w (BoxesPost 32 w f n fr to) := by
  have HP := Lib.hid (fun (w' : World) (hb : Below w.heap.size w w') => (show BoxesPost 32 w f n fr to (.returned (.tuple #[.slice none 0 0, .int .i64 1])) w' from ⟨_, _, rfl, hb, by rw [if_pos hbad]; exact ⟨rfl, rfl⟩⟩))
  obtain ⟨ao, c, rfl, hc, _⟩ := hv
  by_cases h1 : fr < 0
  · clear hbad
    go_enter Try.func11, Try.ntmps11
    go_wp2_with fail
    go_ret2
    exact HP.out _ (Below.refl _ _)
  by_cases h2 : to < fr
  · clear hbad
    have h1' : 0 ≤ fr := by omega
    go_enter Try.func11, Try.ntmps11
    go_wp2_with fail
    go_ret2
    exact HP.out _ (Below.refl _ _)
  have h3 : (n : Int) < to := by omega
  have h1' : 0 ≤ fr := by omega
  have h2' : fr ≤ to := by omega
  clear hbad h1 h2
  go_enter Try.func11, Try.ntmps11
  go_wp2_with fail
  go_ret2
  exact HP.out _ (Below.refl _ _)

set_option maxRecDepth 100000 in
set_option maxHeartbeats 1000000 in
theorem rboxes_zero (ao : Option Addr) (c : Nat) (f : Nat → Int) (w : World) :
    Calls Try.prog 11 #[.slice ao 0 c, .int .i64 0, .int .i64 0] w (BoxesPost 32 w f 0 0 0) := by
  have HP := Lib.hid (fun (w' : World) (hb : Below w.heap.size w w') => (show BoxesPost 32 w f 0 0 0 (.returned (.tuple #[.slice none 0 0, .int .i64 0])) w' from ⟨_, _, rfl, hb, by rw [if_neg (by omega)]; exact ⟨0, fun j hj => absurd hj (Nat.not_lt_zero j), fun h => absurd h.1 (by simp), rfl, fun _ => rfl, fun _ => owns_nil _ _ _ _⟩⟩))
  go_enter Try.func11, Try.ntmps11
  go_wp2_with fail
  refine wp_loop_rounds 1 ?_
  rw [rounds_succ]
  go_wp2_with fail
  go_ret2
  exact HP.out _ (Below.refl _ _)

set_option maxRecDepth 100000 in
set_option maxHeartbeats 4000000 in
theorem rboxes_ok (b o n c : Nat) (f : Nat → Int) (fr to : Nat) (w : World) (hn : n ≤ 100000000) (hc : n ≤ c) (h : ∀ i, i < n → w.cell? ⟨b, o + i, none⟩ = some (.int .u8 (f i))) (hb : ∀ i, i < n → 0 ≤ f i ∧ f i < 256) (h1 : fr ≤ to) (h2 : to ≤ n) :
    Calls Try.prog 11 #[.slice (some ⟨b, o, none⟩) n c, .int .i64 (fr : Int), .int .i64 (to : Int)] w (BoxesPost 32 w f n fr to) := by
  have HP := Lib.hid (fun (w' : World) (v : Value) (k : Nat) (hb : Below w.heap.size w w') (hw : Walked f fr to k) (hg : ¬ goOn f to (pos f fr k)) (hc : codeAt f to (pos f fr k) ≠ 0 → v = .slice none 0 0) (ho : codeAt f to (pos f fr k) = 0 → w'.ownsRow w.heap.size 32 4 v k (rowsV f fr k)) =>
    (show BoxesPost 32 w f n fr to (.returned (.tuple #[v, .int .i64 (codeAt f to (pos f fr k))])) w' from ⟨_, _, rfl, hb, by rw [if_neg (by omega)]; exact ⟨k, hw, hg, rfl, hc, ho⟩⟩))
  have HC := Lib.hid (And.intro h hb)
  clear h hb
  have h1' : (fr : Int) ≤ (to : Int) := by omega
  have h2' : (to : Int) ≤ (n : Int) := by omega
  have k1 : decide ((fr : Int) < 0) = false := by simp
  have k2 : decide (to < fr) = false := by simp; omega
  have k3 : decide (n < to) = false := by simp; omega
  go_enter Try.func11, Try.ntmps11
  go_wp2_with fail
  go_loopw [9, 8] (fun i v wr => ∃ (k : Nat), Walked f fr to k ∧ i = .int .i64 ((pos f fr k : Nat) : Int) ∧ wr.ownsRow w.heap.size 32 4 v k (rowsV f fr k) ∧ Below w.heap.size w wr) (fun i _ _ => to - (intOf i).toNat)
  case atStart => exact ⟨0, fun j hj => absurd hj (Nat.not_lt_zero j), rfl, owns_nil _ _ _ _, Below.refl _ _⟩
  case round =>
    obtain ⟨k, hwk, rfl, ho, hbw⟩ := hrel
    obtain ⟨va, vm, vc, rfl⟩ := owns_shape ho
    have hle := hwk.le h1
    obtain ⟨q, hq⟩ : ∃ q, pos f fr k = q := ⟨_, rfl⟩
    rw [hq] at hle ⊢
    have hq1 : q ≤ to := hle.1
    have hkq : k ≤ 100000000 := by omega
    have HQ := Lib.hid hq
    have HW := Lib.hid hwk
    have HO := Lib.hid ho
    have HBW := Lib.hid hbw
    clear hq hle hwk ho hbw
    by_cases hlt : q < to
    · by_cases h8 : to < q + 8
      · have hlt8 : decide ((to : Int) - (q : Int) < 8) = true := by simp; omega
        go_wp2_with fail
        go_ret2
        have hcd : codeAt f to (pos f fr k) = 4 := by rw [HQ.out]; unfold codeAt; rw [if_neg (by omega), if_pos (by omega)]
        have hng : ¬ goOn f to (pos f fr k) := by rw [HQ.out]; unfold goOn; omega
        have key := fun W hW => HP.out W (.slice none 0 0) k hW HW.out hng (fun _ => rfl) (fun h => absurd (hcd.symm.trans h) (by decide))
        simp only [hcd] at key
        exact key _ (by have h := HBW.out; go_grown)
      · have hlt8 : decide ((to : Int) - (q : Int) < 8) = false := by simp; omega
        have hge8 : ¬ ((to : Int) - (q : Int) < 8) := by omega
        have ha : q + 4 ≤ n := by omega
        have hcells := fun i (hi : i < n) => (HBW.out.cell (p := ⟨b, o + i, none⟩) (block_lt_of_cell (HC.out.1 i hi))).trans (HC.out.1 i hi)
        have HCC := Lib.hid hcells
        clear hcells
        go_wp2_with fail
        refine (rnumber_any b o n c q f _ hn HCC.out HC.out.2 ha).mono ?_
        rintro e w5 ⟨rfl, rfl⟩
        obtain ⟨z, hz⟩ : ∃ z, numI f q = z := ⟨_, rfl⟩
        rw [hz]
        have HZ := Lib.hid hz
        clear hz
        by_cases hz8 : z < 8
        · go_wp2_with fail
          go_ret2
          have hcd : codeAt f to (pos f fr k) = 3 := by rw [HQ.out]; unfold codeAt; rw [HZ.out, if_neg (by omega), if_neg (by omega), if_pos (by omega)]
          have hng : ¬ goOn f to (pos f fr k) := by rw [HQ.out]; unfold goOn; rw [HZ.out]; omega
          have key := fun W hW => HP.out W (.slice none 0 0) k hW HW.out hng (fun _ => rfl) (fun h => absurd (hcd.symm.trans h) (by decide))
          simp only [hcd] at key
          exact key _ (by have h := HBW.out; go_grown)
        · by_cases hzl : (to : Int) - (q : Int) < z
          · have hz8' : 8 ≤ z := by omega
            clear hz8
            go_wp2_with fail
            go_ret2
            have hcd : codeAt f to (pos f fr k) = 4 := by rw [HQ.out]; unfold codeAt; rw [HZ.out, if_neg (by omega), if_neg (by omega), if_neg (by omega)]
            have hng : ¬ goOn f to (pos f fr k) := by rw [HQ.out]; unfold goOn; rw [HZ.out]; omega
            have key := fun W hW => HP.out W (.slice none 0 0) k hW HW.out hng (fun _ => rfl) (fun h => absurd (hcd.symm.trans h) (by decide))
            simp only [hcd] at key
            exact key _ (by have h := HBW.out; go_grown)
          · have hz8' : 8 ≤ z := by omega
            have hzl' : z ≤ (to : Int) - (q : Int) := by omega
            clear hz8 hzl
            have hcc : ∀ w' : World, Below w.heap.size w w' → (convert 22 9 (.slice (some ⟨b, o + (q + 4), none⟩) 4 (c - (q + 4)))).run Try.prog w' = .ok (.string (strOfNums [f (q + 4), f (q + 4 + 1), f (q + 4 + 2), f (q + 4 + 3)])) w' := by
              intro w' hb'
              refine run_convert_bytes_arg w' 22 5 Try.underlying22 Try.underlying5 b (o + (q + 4)) 4 _ _ rfl (fun i hi => ?_) 9 Try.underlying9
              have hx := HC.out.1 (q + 4 + i) (by omega)
              have hy := (hb'.cell (block_lt_of_cell hx)).trans hx
              rcases (show i = 0 ∨ i = 1 ∨ i = 2 ∨ i = 3 by omega) with rfl | rfl | rfl | rfl <;> simpa [Nat.add_assoc] using hy
            have hcv := hcc wr.drew HBW.out.drew
            have hcv2 := hcc wr HBW.out
            have hcv3 := hcc wr.drew.drew HBW.out.drew.drew
            clear hcc
            have hsz := HBW.out.size
            go_wp2_with (at_builtin; refine wpList_box _ rfl (.tmp 42) (.tmp 57) 27 32 Try.underlying27 info32 rfl w.heap.size k wr.heap.size (.slice va vm vc) _ rfl (owns_below HO.out (by exact (below_box _ _).drew)) rfl (strOfNums [f (q + 4), f (q + 4 + 1), f (q + 4 + 2), f (q + 4 + 3)]) (q : Int) ((q : Int) + 8) ((q : Int) + z) (by simp [go_sem]) (by simp [go_sem]) (by simp [go_sem]) (by simp [go_sem]) hkq (by simp; omega) ?_)
            intro v' w6 hv' hb6
            obtain ⟨va', vm', vc', rfl⟩ := owns_shape hv'
            have hb6' : Below w.heap.size w w6 := HBW.out.trans (((Below.refl _ _).alloc (by omega) _).drew.trans hb6)
            have HV6 := Lib.hid (And.intro hv' hb6')
            clear hv' hb6 hb6' hcv hcv2 hcv3
            go_wp2_with fail
            go_roundw
            case rel =>
              have hg : goOn f to (pos f fr k) := by rw [HQ.out]; exact ⟨by omega, by rw [HZ.out]; exact hz8', by rw [HZ.out]; exact hzl'⟩
              have hpz : ((pos f fr (k + 1) : Nat) : Int) = (q : Int) + z := by simp only [pos]; rw [HQ.out, HZ.out]; omega
              refine ⟨k + 1, HW.out.step hg, by rw [hpz], ?_, HV6.out.2⟩
              have e : rowsV f fr (k + 1) = rowsV f fr k ++ [.string (strOfNums [f (q + 4), f (q + 4 + 1), f (q + 4 + 2), f (q + 4 + 3)]), .int .i64 (q : Int), .int .i64 ((q : Int) + 8), .int .i64 ((q : Int) + z)] := by
                simp only [rowsV, boxV]; rw [HQ.out, HZ.out]
              rw [e]
              exact HV6.out.1
            case measure => simp [intOf]; omega
    · have hge : to ≤ q := by omega
      go_wp2_with fail
      go_ret2
      have hcd : codeAt f to (pos f fr k) = 0 := by rw [HQ.out]; unfold codeAt; rw [if_pos (by omega)]
      have hng : ¬ goOn f to (pos f fr k) := by rw [HQ.out]; unfold goOn; omega
      have key := fun W hW hO => HP.out W (.slice va vm vc) k hW HW.out hng (fun h => absurd hcd h) (fun _ => hO)
      simp only [hcd] at key
      exact key _ (by have h := HBW.out; go_grown) HO.out

theorem rboxes_any (v : Value) (n : Nat) (f : Nat → Int) (fr to : Int) (w : World) (hv : BA w v n f) (hn : n ≤ 100000000) : Calls Try.prog 11 #[v, .int .i64 fr, .int .i64 to] w (BoxesPost 32 w f n fr to) := by
  by_cases hbad : fr < 0 ∨ to < fr ∨ (n : Int) < to
  · exact rboxes_arg v n f fr to w hv hn hbad
  · obtain ⟨a, rfl⟩ := Int.eq_ofNat_of_zero_le (show 0 ≤ fr by omega)
    obtain ⟨t, rfl⟩ := Int.eq_ofNat_of_zero_le (show 0 ≤ to by omega)
    rcases Nat.eq_zero_or_pos n with rfl | h0
    · obtain ⟨ao, c, rfl, _, _⟩ := hv
      obtain rfl : a = 0 := by omega
      obtain rfl : t = 0 := by omega
      exact rboxes_zero ao c f w
    · obtain ⟨b, o, c, rfl, hc, h1, h2⟩ := hv.open h0
      exact rboxes_ok b o n c f a t w hn hc h1 h2 (by omega) (by omega)

end Go.Proofs.Ytkhjkemllgjfmaa

/- Take of no bytes; awake. -/
namespace Go.Proofs.Ytkhjkemllgjfmaa
open Go.RowKit
set_option linter.unusedVariables false

theorem idle47 (p q : Addr) (w : World) : CallsD Try.prog 47 #[.pointer (some p), .pointer (some q)] .returning w fun e u' w' => e = .returned (.tuple #[]) ∧ u' = .returning ∧ w' = w := by
  refine callsD_of_wpS Try.func47 rfl fun c₀ cs hu => ?_
  apply wpS_seq
  apply wpS_region
  simp [wpOpsS, go_sem, recoverD, hu, Try.ntmps47, Exit.thenS]
  refine wpS_cond (t := false) (by simp [Act.eval, Array.replicate]) ?_
  simp only [Bool.false_eq_true, if_false]
  refine wpS_of_wp (wp_skip ?_)
  cases c₀
  simp_all [bodyPostS, results, Try.results47]

set_option maxHeartbeats 1000000 in
theorem bytype_zero (ao : Option Addr) (c : Nat) (w : World) :
    Calls Try.prog 48 #[.slice ao 0 c] w fun e w' => ∃ b, e = .returned (.map (some b)) ∧ w'.heap[b]? = some (.map #[] 0) ∧ Below w.heap.size w w' := by
  have hmm := @run_makeMap Try.prog
  go_enter Try.func48, Try.ntmps48
  go_wp2_with fail
  refine wp_loop_rounds 1 ?_
  rw [rounds_succ]
  go_wp2_with fail
  go_ret
  exact ⟨_, rfl, (MapKept.heap_alloc w _).1, below_box _ _⟩

/-- How the empty slice of boxes reads. -/
def nilR (v : Value) : Option (DataW Unit × List MemPlace) := match v with
  | .slice none 0 0 => some (.nil, [])
  | _ => none
theorem nilR_eq {v : Value} {x : DataW Unit × List MemPlace} (h : nilR v = some x) : v = .slice none 0 0 := by
  unfold nilR at h
  split at h
  · rfl
  · cases h
theorem look_moov (b : Nat) (w : World) (h : w.heap[b]? = some (.map #[] 0)) : (Instr.lookup 94 (.map (some b)) (.string { data := #[109, 111, 111, 118] }) false).run Try.prog w = .ok (.slice none 0 0) w := by
  have hown : w.ownsMap Try.prog 9 nilR b 0 (.map []) := ⟨#[], 0, h, ⟨by simp, MapKept.stamped_empty 0, by simp⟩, Nat.le_refl _, rfl⟩
  obtain ⟨v, ps, hrun, hv⟩ := hown.lookup (Maps.string_keyed Try.underlying9) Try.underlying94 (z := .slice none 0 0) (by kernel_rfl) (zd := .nil) (zp := []) rfl (WideMaps.keyOf_string_mk Try.underlying9 (s := { data := #[109, 111, 111, 118] }) (by decide))
  rw [nilR_eq hv] at hrun
  exact hrun

set_option maxRecDepth 100000 in
set_option maxHeartbeats 1000000 in
theorem take_nil (w : World) : Calls Try.prog 25 #[.slice none 0 0] w fun e w' => e = .returned (.tuple #[.agg #[.int .i64 0, .slice none 0 0], .int .i64 7]) ∧ Below w.heap.size w w' := by
  have hmf : ∀ (fn : Fn) (first cap : Array Value) (w : World), (Instr.makeFunc fn first cap).run Try.prog w = .ok (.func fn first cap) w := fun _ _ _ _ => rfl
  go_enter_defers Try.func25, Try.ntmps25
  go_wp2_with fail
  obtain ⟨w1, hw⟩ : ∃ x, x = (w.alloc (.cells #[.int .i64 0, .slice none 0 0] 56)).alloc (.cells #[.int .i64 0] 24) := ⟨_, rfl⟩
  rw [← hw]
  have hE : Below w.heap.size w w1 := by rw [hw]; go_grown
  have f0 : w1.cell? ⟨w.heap.size, 0, none⟩ = some (.int .i64 0) := by rw [hw]; simp [go_sem]
  have f1 : w1.cell? ⟨w.heap.size, 1, none⟩ = some (.slice none 0 0) := by rw [hw]; simp [go_sem]
  have fz : ∀ o, w1.frozen? ⟨w.heap.size, o, none⟩ = false := fun o => by rw [hw]; simp [go_sem]
  have ce : C1 w1 (w.heap.size + 1) (.int .i64 0) := by rw [hw]; exact ⟨by simp [go_sem], by simp [go_sem]⟩
  have HB := Lib.hid hE
  have HS := Lib.hid (show w1.heap.size = w.heap.size + 2 by rw [hw]; simp)
  clear hw hE
  refine (boxes_zero none 0 (fun _ => 0) w1).mono ?_
  rintro e w2 ⟨v, c, rfl, hb, hres⟩
  rw [if_neg (by omega)] at hres
  obtain ⟨k, hwk, hng, hc, _, ho⟩ := hres
  have hk0 : k = 0 := by
    rcases Nat.eq_zero_or_pos k with h | h
    · exact h
    · have := (hwk 0 h).1
      simp at this
  subst hk0
  have hc0 : c = 0 := by rw [hc]; rfl
  subst hc0
  have hv : ∃ a m, v = .slice a 0 m := by
    rcases (ho rfl).2 with ⟨rfl, _⟩ | ⟨g, cap, cur, rfl, _⟩
    · exact ⟨_, _, rfl⟩
    · exact ⟨_, _, rfl⟩
  obtain ⟨va, vm, rfl⟩ := hv
  have lt : ∀ j, j < 2 → w.heap.size + j < w1.heap.size := fun j hj => by rw [HS.out]; omega
  have hb0 : Below w1.heap.size w1 w2 := hb
  replace f0 := (hb0.cell (p := ⟨w.heap.size, 0, none⟩) (lt 0 (by omega))).trans f0
  replace f1 := (hb0.cell (p := ⟨w.heap.size, 1, none⟩) (lt 0 (by omega))).trans f1
  replace fz : ∀ o, w2.frozen? ⟨w.heap.size, o, none⟩ = false := fun o => (hb0.frozen (p := ⟨w.heap.size, o, none⟩) (lt 0 (by omega))).trans (fz o)
  have e0 := (ce.below hb0).k0
  have ez := (ce.below hb0).fz
  replace HB := Lib.hid (HB.out.trans (hb0.mono HB.out.size))
  have HS2 := Lib.hid (show w.heap.size + 2 ≤ w2.heap.size by have := hb0.size; rw [HS.out] at this; exact this)
  clear hwk hng hc ho hb hb0 ce lt
  go_wp2_with fail
  obtain ⟨w3, hw⟩ : ∃ x, x = w2.setCell ⟨w.heap.size + 1, 0, none⟩ (.int .i64 0) := ⟨_, rfl⟩
  rw [← hw]
  replace f0 : w3.cell? ⟨w.heap.size, 0, none⟩ = some (.int .i64 0) := by rw [hw, World.cell?_setCell_far _ _ _ _ (by simp)]; exact f0
  replace f1 : w3.cell? ⟨w.heap.size, 1, none⟩ = some (.slice none 0 0) := by rw [hw, World.cell?_setCell_far _ _ _ _ (by simp)]; exact f1
  replace fz : ∀ o, w3.frozen? ⟨w.heap.size, o, none⟩ = false := fun o => by rw [hw, World.frozen?_setCell]; exact fz o
  have e1 : w3.cell? ⟨w.heap.size + 1, 0, none⟩ = some (.int .i64 0) := by rw [hw]; simp [go_sem, e0]
  replace ez : w3.frozen? ⟨w.heap.size + 1, 0, none⟩ = false := by rw [hw, World.frozen?_setCell]; exact ez
  replace HB := Lib.hid (show Below w.heap.size w w3 by rw [hw]; exact HB.out.setCell (by simp) _)
  have hs3 : w.heap.size + 2 ≤ w3.heap.size := by rw [hw, World.size_setCell]; exact HS2.out
  clear hw e0 HS2
  refine (bytype_zero va vm w3).mono ?_
  rintro e w4 ⟨bm, rfl, hmap, hb⟩
  have lt : ∀ j, j < 2 → w.heap.size + j < w3.heap.size := fun j hj => by omega
  replace f0 := (hb.cell (p := ⟨w.heap.size, 0, none⟩) (lt 0 (by omega))).trans f0
  replace f1 := (hb.cell (p := ⟨w.heap.size, 1, none⟩) (lt 0 (by omega))).trans f1
  replace fz : ∀ o, w4.frozen? ⟨w.heap.size, o, none⟩ = false := fun o => (hb.frozen (p := ⟨w.heap.size, o, none⟩) (lt 0 (by omega))).trans (fz o)
  replace e1 := (hb.cell (p := ⟨w.heap.size + 1, 0, none⟩) (lt 1 (by omega))).trans e1
  replace ez := (hb.frozen (p := ⟨w.heap.size + 1, 0, none⟩) (lt 1 (by omega))).trans ez
  replace HB := Lib.hid (HB.out.trans (hb.mono HB.out.size))
  have hlk := look_moov bm w4 hmap
  clear hmap hb hs3 lt
  go_wp2_with fail
  refine leaves_cons (f := 47) (args := #[.pointer (some ⟨w.heap.size, 0, none⟩), .pointer (some ⟨w.heap.size + 1, 0, none⟩)]) (by simp) (by simp [go_sem]) ?_
  refine (idle47 _ _ _).mono ?_
  rintro e u' w'' ⟨rfl, rfl, rfl⟩
  simp [Leaves, settle, results, Try.results25, go_sem, f0, f1, e1]
  have hB := HB.out
  go_grown

def f8 (i : Nat) : Int := [0, 0, 0, 8, 102, 114, 101, 101].getD i 0

set_option maxRecDepth 100000 in
set_option maxHeartbeats 1000000 in
theorem awake_any (w : World) : Calls Try.prog 12 #[] w fun e w' => e = .returned (.bool true) ∧ Below w.heap.size w w' := by
  go_enter Try.func12, Try.ntmps12
  go_wp2_with fail
  obtain ⟨w1, hw⟩ : ∃ x, x = w.alloc (.cells #[.int .u8 0, .int .u8 0, .int .u8 0, .int .u8 8, .int .u8 102, .int .u8 114, .int .u8 101, .int .u8 101] 5) := ⟨_, rfl⟩
  rw [← hw]
  have hE : Below w.heap.size w w1 := by rw [hw]; exact below_box _ _
  have hba : BA w1 (.slice (some ⟨w.heap.size, 0, none⟩) 8 8) 8 f8 := by
    refine BA.mk (Nat.le_refl _) (fun i hi => ?_) (fun i hi => ?_)
    · rw [hw]
      rcases (show i = 0 ∨ i = 1 ∨ i = 2 ∨ i = 3 ∨ i = 4 ∨ i = 5 ∨ i = 6 ∨ i = 7 by omega) with rfl | rfl | rfl | rfl | rfl | rfl | rfl | rfl <;> simp [go_sem, f8]
    · rcases (show i = 0 ∨ i = 1 ∨ i = 2 ∨ i = 3 ∨ i = 4 ∨ i = 5 ∨ i = 6 ∨ i = 7 by omega) with rfl | rfl | rfl | rfl | rfl | rfl | rfl | rfl <;> simp [f8]
  clear hw
  refine (boxes_any _ 8 _ 0 8 w1 hba (by omega)).mono ?_
  rintro e w2 ⟨v, c, rfl, hb, hres⟩
  rw [if_neg (by decide)] at hres
  obtain ⟨k, hwk, hng, hc, _, ho⟩ := hres
  have hk : k = 1 := by
    refine hwk.unique (fun j hj => ?_) hng ?_
    · obtain rfl : j = 0 := by omega
      exact ⟨by decide, by decide +kernel, by decide +kernel⟩
    · intro h
      exact absurd h.1 (by decide +kernel)
  subst hk
  have hc0 : c = 0 := by rw [hc]; decide +kernel
  subst hc0
  have ho' := ho rfl
  obtain ⟨g, cp, rfl, hcp, hcell⟩ := owns_open ho' (by omega)
  have x0 : w2.cell? ⟨g, 0, none⟩ = some (.string { data := #[102, 114, 101, 101] }) := hcell 0 _ rfl
  have x3 : w2.cell? ⟨g, 3, none⟩ = some (.int .i64 8) := by
    have h3 := hcell 3 (.int .i64 (((pos f8 0 0 : Nat) : Int) + numI f8 (pos f8 0 0))) rfl
    rw [show ((pos f8 0 0 : Nat) : Int) + numI f8 (pos f8 0 0) = 8 from by decide +kernel] at h3
    exact h3
  have HB := Lib.hid (hE.trans (hb.mono hE.size))
  clear hwk hng hc ho ho' hcell hb hba hE
  go_wp2_with fail
  refine (take_nil w2).mono ?_
  rintro e w3 ⟨rfl, hb⟩
  have y0 := (hb.cell (block_lt_of_cell x0)).trans x0
  have y3 := (hb.cell (block_lt_of_cell x3)).trans x3
  replace HB := Lib.hid (HB.out.trans (hb.mono HB.out.size))
  have lg := block_lt_of_cell y0
  clear x0 x3 hb
  go_wp2_with fail
  go_ret
  have hB := HB.out
  exact ⟨ret_bool (by simp), by go_grown; exact HB.out.size⟩


end Go.Proofs.Ytkhjkemllgjfmaa

/- The contract of the statements' light. -/
namespace Go.Proofs.Ytkhjkemllgjfmaa
open Go.RowKit
set_option linter.unusedVariables false

theorem lightF_no {F : Fl} {i : Nat} (hi : i < F.nT) (h : lightT (F.T i) = false) : lightF F = false := by
  unfold lightF; rw [all_range_no hi h, Bool.and_false]
theorem lightT_no {T : Tr} {j : Nat} (hj : j < T.nS) (h : 500 < (T.S j).n) : lightT T = false := by
  unfold lightT; rw [all_range_no hj (by simp; omega), Bool.and_false]

set_option maxRecDepth 100000 in
set_option maxHeartbeats 4000000 in
theorem light_any (v : Value) (F : Fl) (w : World) (hv : FA w v F) (hm : F.nT ≤ 9223372036854775807) :
    Calls Try.prog 13 #[v] w fun e w' => e = .returned (.bool (lightF F)) ∧ Below w.heap.size w w' := by
  obtain ⟨ts, rfl, hts⟩ := hv
  obtain ⟨ao, c, rfl⟩ := hts.shape
  have HT := Lib.hid hts
  clear hts
  by_cases h6 : 6 < F.nT
  · have HL := Lib.hid (show lightF F = false by unfold lightF; rw [show decide (F.nT ≤ 6) = false by simp; omega, Bool.false_and])
    have h6' : (6 : Int) < (F.nT : Int) := by omega
    go_enter Try.func13, Try.ntmps13
    go_wp2_with fail
    go_ret
    exact ⟨ret_bool HL.out.symm, below_box _ _⟩
  have h6' : ¬ (6 : Int) < (F.nT : Int) := by omega
  go_enter Try.func13, Try.ntmps13
  go_wp2_with fail
  obtain ⟨w1, hw⟩ : ∃ x, x = w.alloc (.cells #[.int .i64 F.sc, .slice ao F.nT c] 37) := ⟨_, rfl⟩
  rw [← hw]
  have hE : Below w.heap.size w w1 := by rw [hw]; exact below_box _ _
  have y1 : w1.cell? ⟨w.heap.size, 1, none⟩ = some (.slice ao F.nT c) := by rw [hw]; simp [go_sem]
  have hs1 : w.heap.size < w1.heap.size := by rw [hw]; simp
  have HB := Lib.hid hE
  clear hw hE
  go_loopw [3] (fun i wr => ∃ k : Nat, k ≤ F.nT ∧ i = .int .i64 (k : Int) ∧ Below w1.heap.size w1 wr ∧ Hid (∀ i, i < k → lightT (F.T i) = true)) (fun i _ => F.nT - (intOf i).toNat)
  case atStart => exact ⟨0, Nat.zero_le _, rfl, Below.refl _ _, Lib.hid (fun i hi => absurd hi (Nat.not_lt_zero i))⟩
  case round =>
    obtain ⟨k, hk, rfl, hb, HA⟩ := hrel
    have z1 := (hb.cell (p := ⟨w.heap.size, 1, none⟩) hs1).trans y1
    have HBW := Lib.hid hb
    clear hb
    by_cases hlt : k < F.nT
    · have hb2 := HB.out.trans (HBW.out.mono HB.out.size)
      have hts := HT.out.below hb2
      obtain ⟨ao', c', e, hcc, H⟩ := hts
      simp only [Value.slice.injEq, true_and] at e
      obtain ⟨rfl, rfl⟩ := e
      obtain ⟨b, o, c0, c1, c2, c3, c4, rfl, h0, h1, h2, h3, h4, hc⟩ := H k hlt
      obtain ⟨e0, e1, b2, b3, b4⟩ := hc
      obtain ⟨a2, d2, rfl⟩ := b2.shape
      obtain ⟨a3, d3, rfl⟩ := b3.shape
      obtain ⟨a4, d4, rfl⟩ := b4.shape
      subst e0
      subst e1
      obtain ⟨T, hT⟩ : ∃ T, T = F.T k := ⟨_, rfl⟩
      rw [← hT] at h0 h1 h2 h3 h4 b2 b3 b4
      have ET := Lib.hid hT
      have HB3 := Lib.hid b3
      clear hT b2 b3 b4 H
      have NO := Lib.hid (fun (h : lightT T = false) => (lightF_no hlt (by rw [← ET.out]; exact h)))
      by_cases q1 : 20 < T.h.size
      · have HL := Lib.hid (NO.out (by unfold lightT; simp; omega))
        have q1' : (20 : Int) < (T.h.size : Int) := by omega
        go_wp2_with fail
        go_ret
        exact ⟨ret_bool HL.out.symm, hb2.alloc hb2.size _⟩
      have q1' : ¬ (20 : Int) < (T.h.size : Int) := by omega
      have q1d : decide (20 < T.h.size) = false := by simpa using q1
      by_cases q2 : 5000 < T.nC
      · have HL := Lib.hid (NO.out (by unfold lightT; simp; omega))
        have q2' : (5000 : Int) < (T.nC : Int) := by omega
        have q2d : decide (5000 < T.nC) = true := by simpa using q2
        go_wp2_with fail
        go_ret
        exact ⟨ret_bool HL.out.symm, hb2.alloc hb2.size _⟩
      have q2' : ¬ (5000 : Int) < (T.nC : Int) := by omega
      have q2d : decide (5000 < T.nC) = false := by simpa using q2
      by_cases q3 : 40 < T.nS
      · have HL := Lib.hid (NO.out (by unfold lightT; simp; omega))
        have q3' : (40 : Int) < (T.nS : Int) := by omega
        have q3d : decide (40 < T.nS) = true := by simpa using q3
        go_wp2_with fail
        go_ret
        exact ⟨ret_bool HL.out.symm, hb2.alloc hb2.size _⟩
      have q3' : ¬ (40 : Int) < (T.nS : Int) := by omega
      have q3d : decide (40 < T.nS) = false := by simpa using q3
      by_cases q4 : 70 < T.nE
      · have HL := Lib.hid (NO.out (by unfold lightT; simp; omega))
        have q4' : (70 : Int) < (T.nE : Int) := by omega
        have q4d : decide (70 < T.nE) = true := by simpa using q4
        go_wp2_with fail
        go_ret
        exact ⟨ret_bool HL.out.symm, hb2.alloc hb2.size _⟩
      have q4' : ¬ (70 : Int) < (T.nE : Int) := by omega
      have q4d : decide (70 < T.nE) = false := by simpa using q4
      have HB2 := Lib.hid hb2
      have HSZ := Lib.hid (show w.heap.size < wr.heap.size by have := HBW.out.size; omega)
      go_wp2_with fail
      obtain ⟨w5, hw⟩ : ∃ x, x = wr.alloc (.cells #[.string T.h, .int .i64 T.sc, .slice a2 T.nC d2, .slice a3 T.nS d3, .slice a4 T.nE d4] 48) := ⟨_, rfl⟩
      rw [← hw]
      have hE : Below wr.heap.size wr w5 := by rw [hw]; exact below_box _ _
      have t3 : w5.cell? ⟨wr.heap.size, 3, none⟩ = some (.slice a3 T.nS d3) := by rw [hw]; simp [go_sem]
      obtain ⟨blt, hblt⟩ : ∃ z, z = wr.heap.size := ⟨_, rfl⟩
      have ht5 : blt < w5.heap.size := by rw [hw, hblt]; simp
      replace HB3 := Lib.hid (HB3.out.below hE)
      replace HBW := Lib.hid (HBW.out.trans (hE.mono HBW.out.size))
      rw [← hblt] at t3 ⊢
      clear hw hE hblt h0 h1 h2 h3 h4 z1 hb2 HB2 HSZ
      go_loopw [5] (fun i wx => ∃ j : Nat, j ≤ T.nS ∧ i = .int .i64 (j : Int) ∧ Below w5.heap.size w5 wx ∧ Hid (∀ i, i < j → (T.S i).n ≤ 500)) (fun i _ => T.nS - (intOf i).toNat)
      case atStart => exact ⟨0, Nat.zero_le _, rfl, Below.refl _ _, Lib.hid (fun i hi => absurd hi (Nat.not_lt_zero i))⟩
      case round =>
        obtain ⟨j, hj, rfl, hb, HJ⟩ := hrel
        have z3 := (hb.cell (p := ⟨blt, 3, none⟩) ht5).trans t3
        have HBX := Lib.hid hb
        clear hb
        by_cases hlj : j < T.nS
        · have hx3 := HB3.out.below HBX.out
          obtain ⟨ao', c', e, hcc', H⟩ := hx3
          simp only [Value.slice.injEq, true_and] at e
          obtain ⟨rfl, rfl⟩ := e
          obtain ⟨b', o', x, rfl, h0, _, _, _, hx⟩ := H j hlj
          obtain ⟨ax, dx, rfl⟩ := hx.shape
          clear H hx
          by_cases q5 : 500 < (T.S j).n
          · have HL := Lib.hid (NO.out (lightT_no hlj q5))
            have q5' : (500 : Int) < ((T.S j).n : Int) := by omega
            go_wp2_with fail
            go_ret
            exact ⟨ret_bool HL.out.symm, (HB.out.trans (HBW.out.mono HB.out.size)).trans (HBX.out.mono (by have := HB.out.size; have := HBW.out.size; omega))⟩
          have q5' : ¬ (500 : Int) < ((T.S j).n : Int) := by omega
          have HJ2 := Lib.hid (show ∀ i, i < j + 1 → (T.S i).n ≤ 500 from fun i hi => by
            by_cases e : i = j
            · subst e; omega
            · exact HJ.out i (by omega))
          go_wp2_with fail
          go_roundw
          case rel => exact ⟨j + 1, by omega, by go_num, HBX.out, HJ2⟩
          case measure => simp [intOf]; omega
        · obtain rfl : j = T.nS := by omega
          have HK := Lib.hid (show lightT T = true by
            unfold lightT
            simp only [Bool.and_eq_true, decide_eq_true_eq, all_range]
            exact ⟨⟨⟨⟨by omega, by omega⟩, by omega⟩, by omega⟩, HJ.out⟩)
          have HA2 := Lib.hid (all_step (p := fun i => lightT (F.T i)) HA.out (by rw [← ET.out]; exact HK.out))
          go_wp2_with fail
          go_roundw
          case rel => exact ⟨k + 1, by omega, by go_num, HBW.out.trans (HBX.out.mono HBW.out.size), HA2⟩
          case measure => simp [intOf]; omega
    · obtain rfl : k = F.nT := by omega
      have HL := Lib.hid (show lightF F = true by
        unfold lightF
        simp only [Bool.and_eq_true, decide_eq_true_eq, all_range]
        exact ⟨by omega, HA.out⟩)
      go_wp2_with fail
      go_ret
      exact ⟨ret_bool HL.out.symm, HB.out.trans (HBW.out.mono HB.out.size)⟩

end Go.Proofs.Ytkhjkemllgjfmaa

/- The contract of cutroomlaw18.IsomediaLocates: it answers true. -/
namespace Go.Proofs.Ytkhjkemllgjfmaa
open Go.RowKit
set_option linter.unusedVariables false

theorem light_at {F : Fl} (h : lightF F = true) {k : Nat} (hk : k < F.nT) : (F.T k).nC ≤ 5000 ∧ (F.T k).nS ≤ 40 ∧ (F.T k).nE ≤ 70 := by
  unfold lightF at h
  simp only [Bool.and_eq_true, decide_eq_true_eq, all_range] at h
  have h1 := h.2 k hk
  unfold lightT at h1
  simp only [Bool.and_eq_true, decide_eq_true_eq] at h1
  exact ⟨h1.1.1.1.2, h1.1.1.2, h1.1.2⟩

set_option maxRecDepth 100000 in
set_option maxHeartbeats 4000000 in
theorem law_locates (v : Value) (F : Fl) (kk t : Int) (w : World) (hv : FA w v F) (hm : F.nT ≤ 9223372036854775807) :
    Calls Try.prog 4 #[v, .int .i64 kk, .int .i64 t] w fun e w' => e = .returned (.bool true) ∧ Below w.heap.size w w' := by
  have hv0 := hv
  obtain ⟨ts, rfl, hts⟩ := hv
  obtain ⟨ao, c, rfl⟩ := hts.shape
  have HT := Lib.hid hts
  have HV := Lib.hid (hv0.below (below_box w (.cells #[.int .i64 F.sc, .slice ao F.nT c] 37)))
  clear hts hv0
  go_enter Try.func4, Try.ntmps4
  go_wp2_with fail
  refine (light_any _ F _ HV.out hm).mono ?_
  rintro e w1 ⟨rfl, hb⟩
  have y1 : w1.cell? ⟨w.heap.size, 1, none⟩ = some (.slice ao F.nT c) := (hb.cell (by simp)).trans (by simp [go_sem])
  have HB := Lib.hid (show Below w.heap.size w w1 from (below_box _ _).trans (hb.mono (by simp)))
  clear hb HV
  cases hl : lightF F
  · go_wp2_with fail
    refine (awake_any _).mono ?_
    rintro e wz ⟨rfl, hb5⟩
    have HB5 := Lib.hid hb5
    clear hb5
    go_wp2_with fail
    go_ret
    exact ⟨rfl, HB.out.trans (HB5.out.mono HB.out.size)⟩
  have HL := Lib.hid hl
  by_cases h0 : kk < 0
  · go_wp2_with fail
    refine (awake_any _).mono ?_
    rintro e wz ⟨rfl, hb5⟩
    have HB5 := Lib.hid hb5
    clear hb5
    go_wp2_with fail
    go_ret
    exact ⟨rfl, HB.out.trans (HB5.out.mono HB.out.size)⟩
  have h0' : 0 ≤ kk := by omega
  obtain ⟨k, rfl⟩ := Int.eq_ofNat_of_zero_le h0'
  clear h0 h0'
  by_cases h1 : F.nT ≤ k
  · have h1d : decide (F.nT ≤ k) = true := by simpa using h1
    go_wp2_with fail
    refine (awake_any _).mono ?_
    rintro e wz ⟨rfl, hb5⟩
    have HB5 := Lib.hid hb5
    clear hb5
    go_wp2_with fail
    go_ret
    exact ⟨rfl, HB.out.trans (HB5.out.mono HB.out.size)⟩
  have h1d : decide (F.nT ≤ k) = false := by simpa using h1
  have hk : k < F.nT := by omega
  obtain ⟨ao', c', e, hcc, H⟩ := HT.out.below HB.out
  simp only [Value.slice.injEq, true_and] at e
  obtain ⟨rfl, rfl⟩ := e
  obtain ⟨b, o, c0, c1, c2, c3, c4, rfl, t0, t1, t2, t3, t4, hc⟩ := H k hk
  obtain ⟨rfl, rfl, b2, b3, b4⟩ := hc
  obtain ⟨a2, d2, rfl⟩ := b2.shape
  obtain ⟨a3, d3, rfl⟩ := b3.shape
  obtain ⟨a4, d4, rfl⟩ := b4.shape
  have TT := Lib.hid (show TA w1 (.agg #[.string (F.T k).h, .int .i64 (F.T k).sc, .slice a2 (F.T k).nC d2, .slice a3 (F.T k).nS d3, .slice a4 (F.T k).nE d4]) (F.T k) from ⟨_, _, _, _, _, rfl, ⟨rfl, rfl, b2, b3, b4⟩⟩)
  obtain ⟨blf, hblf⟩ : ∃ z, z = w.heap.size := ⟨_, rfl⟩
  rw [← hblf] at y1 ⊢
  clear H b2 b3 b4 hblf
  go_wp2_with fail
  refine Plan.wp_region_plan (fun w' => w'.cell? ⟨blf, 1, none⟩ = some (.slice (some ⟨b, o, none⟩) F.nT c) ∧ w'.cell? ⟨b, o + k * 5, none⟩ = some (.string (F.T k).h) ∧ w'.cell? ⟨b, o + k * 5 + 1, none⟩ = some (.int .i64 (F.T k).sc) ∧ w'.cell? ⟨b, o + k * 5 + 2, none⟩ = some (.slice a2 (F.T k).nC d2) ∧ w'.cell? ⟨b, o + k * 5 + 3, none⟩ = some (.slice a3 (F.T k).nS d3) ∧ w'.cell? ⟨b, o + k * 5 + 4, none⟩ = some (.slice a4 (F.T k).nE d4)) (([0].map (·, false)) ++ (([1, 2, 3, 4, 5, 6, 8, 10, 11, 12, 13, 14, 15].map (·, true)) ++ (([7, 9, 16].map (·, false)) ++ (([17, 18, 19].map (·, true)))))) (by kernel_rfl) (by kernel_rfl) (by kernel_rfl) ⟨y1, t0, t1, t2, t3, t4⟩ ?_
  refine Plan.plan_of_effect rfl (fun K hK => ?_)
  go_wp2_with fail
  refine (awake_any _).mono ?_
  rintro e w2 ⟨rfl, hb⟩
  have hdr := (Below.refl w1.heap.size w1).drew.trans hb
  replace y1 := (hdr.cell (block_lt_of_cell y1)).trans y1
  replace t0 := (hdr.cell (block_lt_of_cell t0)).trans t0
  replace t1 := (hdr.cell (block_lt_of_cell t1)).trans t1
  replace t2 := (hdr.cell (block_lt_of_cell t2)).trans t2
  replace t3 := (hdr.cell (block_lt_of_cell t3)).trans t3
  replace t4 := (hdr.cell (block_lt_of_cell t4)).trans t4
  replace TT := Lib.hid (TT.out.below hdr)
  replace HB := Lib.hid (HB.out.trans (hdr.mono HB.out.size))
  clear hb hdr
  go_wp2_with fail
  refine ⟨⟨y1, t0, t1, t2, t3, t4⟩, ?_⟩
  refine' Plan.plan_seg _ [1, 2, 3, 4, 5, 6, 8, 10, 11, 12, 13, 14, 15] (([7, 9, 16].map (·, false)) ++ (([17, 18, 19].map (·, true)))) (by kernel_rfl) (by kernel_rfl) rfl (by exact ⟨y1, t0, t1, t2, t3, t4⟩) (fun wx hS => ?_) ?_
  rotate_left
  · obtain ⟨z0, z1, z2, z3, z4, z5⟩ := hS
    go_light
    iterate 13 (apply Plan.seg_pick; rfl; intro K hK; go_wp)
    exact Plan.seg_nil
  refine Plan.plan_of_effect rfl (fun K hK => ?_)
  go_wp2_with fail
  refine (track_any _ (F.T k) w2 TT.out (by have := light_at HL.out hk; omega) (by have := light_at HL.out hk; omega)).mono ?_
  rintro e w3 ⟨r, rfl, hta, hb⟩
  have TR := Lib.hid hta
  replace y1 := (hb.cell (block_lt_of_cell y1)).trans y1
  replace t0 := (hb.cell (block_lt_of_cell t0)).trans t0
  replace t1 := (hb.cell (block_lt_of_cell t1)).trans t1
  replace t2 := (hb.cell (block_lt_of_cell t2)).trans t2
  replace t3 := (hb.cell (block_lt_of_cell t3)).trans t3
  replace t4 := (hb.cell (block_lt_of_cell t4)).trans t4
  replace TT := Lib.hid (TT.out.below hb)
  replace HB := Lib.hid (HB.out.trans (hb.mono HB.out.size))
  clear hb hta
  go_wp2_with fail
  refine ⟨⟨y1, t0, t1, t2, t3, t4⟩, ?_⟩
  refine Plan.plan_of_effect rfl (fun K hK => ?_)
  go_wp2_with fail
  refine (locate_any r (F.T k) t w3 TR.out).mono ?_
  rintro e w4 ⟨rfl, hb⟩
  replace y1 := (hb.cell (block_lt_of_cell y1)).trans y1
  replace t0 := (hb.cell (block_lt_of_cell t0)).trans t0
  replace t1 := (hb.cell (block_lt_of_cell t1)).trans t1
  replace t2 := (hb.cell (block_lt_of_cell t2)).trans t2
  replace t3 := (hb.cell (block_lt_of_cell t3)).trans t3
  replace t4 := (hb.cell (block_lt_of_cell t4)).trans t4
  replace TT := Lib.hid (TT.out.below hb)
  replace HB := Lib.hid (HB.out.trans (hb.mono HB.out.size))
  clear hb TR
  go_wp2_with fail
  refine ⟨⟨y1, t0, t1, t2, t3, t4⟩, ?_⟩
  refine Plan.plan_of_effect rfl (fun K hK => ?_)
  go_wp2_with fail
  refine (rlocate_any _ (F.T k) t w4 TT.out (by have := light_at HL.out hk; omega)).mono ?_
  rintro e w5 ⟨rfl, hb⟩
  replace y1 := (hb.cell (block_lt_of_cell y1)).trans y1
  replace t0 := (hb.cell (block_lt_of_cell t0)).trans t0
  replace t1 := (hb.cell (block_lt_of_cell t1)).trans t1
  replace t2 := (hb.cell (block_lt_of_cell t2)).trans t2
  replace t3 := (hb.cell (block_lt_of_cell t3)).trans t3
  replace t4 := (hb.cell (block_lt_of_cell t4)).trans t4
  replace TT := Lib.hid (TT.out.below hb)
  replace HB := Lib.hid (HB.out.trans (hb.mono HB.out.size))
  clear hb
  go_wp2_with fail
  refine ⟨⟨y1, t0, t1, t2, t3, t4⟩, ?_⟩
  refine' Plan.plan_seg _ [17, 18, 19] ([]) (by kernel_rfl) (by kernel_rfl) rfl (by exact ⟨y1, t0, t1, t2, t3, t4⟩) (fun wx hS => ?_) ?_
  rotate_left
  · obtain ⟨z0, z1, z2, z3, z4, z5⟩ := hS
    go_light
    iterate 3 (apply Plan.seg_pick; rfl; intro K hK; go_wp)
    exact Plan.seg_nil
  refine Plan.plan_done ?_
  go_wp2_with fail
  go_ret
  exact ⟨ret_bool (by simp), HB.out⟩

end Go.Proofs.Ytkhjkemllgjfmaa

/- The contract of cutroomlaw18.IsomediaTimes: it answers true. -/
namespace Go.Proofs.Ytkhjkemllgjfmaa
open Go.RowKit
set_option linter.unusedVariables false

/-- Two slices of numbers that hold the same. -/
def Same1 (w : World) (n : Nat) (a1 a2 : Option Addr) : Prop := ∀ i, i < n → ∃ g1 g2 z, a1 = some ⟨g1, 0, none⟩ ∧ a2 = some ⟨g2, 0, none⟩ ∧ w.cell? ⟨g1, i, none⟩ = some (.int .i64 z) ∧ w.cell? ⟨g2, i, none⟩ = some (.int .i64 z)
theorem row_zero {w : World} {B E : Nat} {v : Value} {xs : List Value} (r1 : w.ownsRow B E 1 v 0 xs) : ∃ a m, v = .slice a 0 m := by
  rcases r1.2 with ⟨rfl, _⟩ | ⟨g, cap, cur, rfl, _⟩
  · exact ⟨_, _, rfl⟩
  · exact ⟨_, _, rfl⟩
theorem both_times (wa w1 wb w2 : World) (F : Fl) (kk : Int) (e1 e2 : Ending) (hab : Below w1.heap.size w1 wb) (h1 : PresPost wa F kk e1 w1) (h2 : PresPost wb F kk e2 w2) :
    ∃ c m a1 c1 a2 c2, e1 = .returned (.tuple #[.slice a1 m c1, .int .i64 c]) ∧ e2 = .returned (.tuple #[.slice a2 m c2, .int .i64 c]) ∧ m ≤ 4096 ∧ Below wa.heap.size wa w1 ∧ Below wb.heap.size wb w2 ∧ Same1 w2 m a1 a2 := by
  obtain ⟨v, c, rfl, hb, hr⟩ := h1
  obtain ⟨v', c', rfl, hb', hr'⟩ := h2
  by_cases hok : okFl F = false
  · rw [if_pos hok] at hr hr'
    obtain ⟨rfl, rfl⟩ := hr
    obtain ⟨rfl, rfl⟩ := hr'
    exact ⟨_, _, _, _, _, _, rfl, rfl, Nat.zero_le _, hb, hb', fun i hi => absurd hi (Nat.not_lt_zero i)⟩
  rw [if_neg hok] at hr hr'
  by_cases hk : kk < 0 ∨ (F.nT : Int) ≤ kk
  · rw [if_pos hk] at hr hr'
    obtain ⟨rfl, rfl⟩ := hr
    obtain ⟨rfl, rfl⟩ := hr'
    exact ⟨_, _, _, _, _, _, rfl, rfl, Nat.zero_le _, hb, hb', fun i hi => absurd hi (Nat.not_lt_zero i)⟩
  rw [if_neg hk] at hr hr'
  obtain ⟨rfl, ho⟩ := hr
  obtain ⟨rfl, ho'⟩ := hr'
  have hn : (F.T kk.toNat).nS ≤ 4096 := (okTr_yes ((okFl_yes (by simpa using hok)).2 kk.toNat (by omega))).1.2.2.2.2.1
  have hba : Below w1.heap.size w1 w2 := hab.trans (hb'.mono hab.size)
  replace ho := owns_below ho hba
  obtain ⟨m, hm⟩ : ∃ m, m = (F.T kk.toNat).nS := ⟨_, rfl⟩
  rw [← hm] at ho ho' hn
  rcases Nat.eq_zero_or_pos m with h0 | h0
  · subst h0
    obtain ⟨a1, m1, rfl⟩ := row_zero ho
    obtain ⟨a2, m2, rfl⟩ := row_zero ho'
    exact ⟨_, _, _, _, _, _, rfl, rfl, Nat.zero_le _, hb, hb', fun i hi => absurd hi (Nat.not_lt_zero i)⟩
  · obtain ⟨g1, c1, rfl, _, H1⟩ := owns_open ho h0
    obtain ⟨g2, c2, rfl, _, H2⟩ := owns_open ho' h0
    have hf : ∀ i, (timeL (F.T kk.toNat) F.sc i).length = 1 := fun i => rfl
    refine ⟨_, _, _, _, _, _, rfl, rfl, hn, hb, hb', fun i hi => ⟨g1, g2, timeV (F.T kk.toNat) F.sc i, rfl, rfl, ?_, ?_⟩⟩
    · exact H1 i _ (by have := rowsOf_at hf m i 0 hi (by omega); simpa [timeL] using this)
    · exact H2 i _ (by have := rowsOf_at hf m i 0 hi (by omega); simpa [timeL] using this)

theorem light_nT {F : Fl} (h : lightF F = true) : F.nT ≤ 6 := by
  unfold lightF at h
  simp only [Bool.and_eq_true, decide_eq_true_eq] at h
  exact h.1

set_option maxRecDepth 100000 in
set_option maxHeartbeats 4000000 in
theorem law_times (v : Value) (F : Fl) (kk : Int) (w : World) (hv : FA w v F) (hm : F.nT ≤ 9223372036854775807) :
    Calls Try.prog 5 #[v, .int .i64 kk] w fun e w' => e = .returned (.bool true) ∧ Below w.heap.size w w' := by
  have hv0 := hv
  obtain ⟨ts, rfl, hts⟩ := hv
  obtain ⟨ao, c, rfl⟩ := hts.shape
  have HV0 := Lib.hid hv0
  have HV := Lib.hid (hv0.below (below_box w (.cells #[.int .i64 F.sc, .slice ao F.nT c] 37)))
  clear hts hv0
  go_enter Try.func5, Try.ntmps5
  go_wp2_with fail
  refine (light_any _ F _ HV.out hm).mono ?_
  rintro e w1 ⟨rfl, hb⟩
  have y0 : w1.cell? ⟨w.heap.size, 0, none⟩ = some (.int .i64 F.sc) := (hb.cell (by simp)).trans (by simp [go_sem])
  have y1 : w1.cell? ⟨w.heap.size, 1, none⟩ = some (.slice ao F.nT c) := (hb.cell (by simp)).trans (by simp [go_sem])
  have HB := Lib.hid (show Below w.heap.size w w1 from (below_box _ _).trans (hb.mono (by simp)))
  clear hb HV
  cases hl : lightF F
  · go_wp2_with fail
    go_ret
    exact ⟨rfl, HB.out⟩
  have HL := Lib.hid hl
  clear hl
  go_wp2_with fail
  refine (given_any _ F w1 (HV0.out.below HB.out) (by have := light_nT HL.out; omega) (fun i hi => by have := light_at HL.out hi; omega)).mono ?_
  rintro e w2 ⟨r, rfl, hfa, hb⟩
  replace y0 := (hb.cell (block_lt_of_cell y0)).trans y0
  replace y1 := (hb.cell (block_lt_of_cell y1)).trans y1
  replace HB := Lib.hid (HB.out.trans (hb.mono HB.out.size))
  have HFA := Lib.hid hfa
  clear hb hfa
  go_wp2_with fail
  refine (pres_any r F kk w2 HFA.out (by have := light_nT HL.out; omega)).mono ?_
  intro e1 w3 h1
  have h1' := h1
  obtain ⟨v1, cc, rfl, hb, _⟩ := h1'
  replace y0 := (hb.cell (block_lt_of_cell y0)).trans y0
  replace y1 := (hb.cell (block_lt_of_cell y1)).trans y1
  have H1 := Lib.hid h1
  have HB3 := Lib.hid (HB.out.trans (hb.mono HB.out.size))
  clear hb h1
  go_wp2_with fail
  refine (rpres_any _ F kk w3 (HV0.out.below HB3.out) (by have := light_nT HL.out; omega)).mono ?_
  intro e2 w4 h2
  obtain ⟨c0, m, a1, c1, a2, c2, he1, rfl, hm0, hb1, hb2, hs⟩ := both_times w2 w3 w3 w4 F kk _ e2 (Below.refl _ _) H1.out h2
  simp only [Ending.returned.injEq, Value.tuple.injEq, Array.mk.injEq, List.cons.injEq, Value.int.injEq, true_and, and_true] at he1
  obtain ⟨rfl, rfl⟩ := he1
  replace HB := Lib.hid (HB3.out.trans (hb2.mono HB3.out.size))
  have HS := Lib.hid hs
  clear H1 h2 hb1 hb2 hs HB3 y0 y1
  go_wp2_with fail
  go_loopw [9] (fun i wr => ∃ j : Nat, j ≤ m ∧ i = .int .i64 (j : Int) ∧ Below w4.heap.size w4 wr) (fun i _ => m - (intOf i).toNat)
  case atStart => exact ⟨0, by omega, rfl, Below.refl _ _⟩
  case round =>
    obtain ⟨i, hi, rfl, hb⟩ := hrel
    by_cases hlt : i < m
    · obtain ⟨g1, g2, z, rfl, rfl, p0, q0⟩ := HS.out i hlt
      replace p0 := (hb.cell (block_lt_of_cell p0)).trans p0
      replace q0 := (hb.cell (block_lt_of_cell q0)).trans q0
      have HBW := Lib.hid hb
      clear hb
      go_wp2_with fail
      refine Plan.wp_region_plan (fun w' => w'.cell? ⟨g1, i, none⟩ = some (.int .i64 z) ∧ w'.cell? ⟨g2, i, none⟩ = some (.int .i64 z)) (([0, 1, 2, 3, 4, 5, 6, 7, 8].map (·, true))) (by kernel_rfl) (by kernel_rfl) (by kernel_rfl) ⟨p0, q0⟩ ?_
      refine' Plan.plan_seg _ [0, 1, 2, 3, 4, 5, 6, 7, 8] ([]) (by kernel_rfl) (by kernel_rfl) rfl (by exact ⟨p0, q0⟩) (fun wx hS => ?_) ?_
      rotate_left
      · obtain ⟨y0, y1⟩ := hS
        go_light
        iterate 9 (apply Plan.seg_pick; rfl; intro K hK; go_wp)
        exact Plan.seg_nil
      refine Plan.plan_done ?_
      go_wp2_with fail
      go_roundw
      case rel => exact ⟨i + 1, by omega, by go_num, HBW.out.drew⟩
      case measure => simp [intOf]; omega
    · obtain rfl : i = m := by omega
      have HBW := Lib.hid hb
      clear hb
      go_wp2_with fail
      refine (awake_any _).mono ?_
      rintro e wz ⟨rfl, hb5⟩
      have HB5 := Lib.hid hb5
      clear hb5
      go_wp2_with fail
      go_ret
      exact ⟨rfl, HB.out.trans ((HBW.out.trans (HB5.out.mono HBW.out.size)).mono HB.out.size)⟩

end Go.Proofs.Ytkhjkemllgjfmaa

/- An empty edit before all others delays what is displayed: the plain law. -/
namespace Go.Proofs.Ytkhjkemllgjfmaa
open Go.RowKit
set_option linter.unusedVariables false

/-- A track with one edit before all others. -/
def lateE (E : Nat → Ed) (b : Int) (i : Nat) : Ed := if i = 0 then ⟨b, -1⟩ else E (i - 1)
def lateT (T : Tr) (b : Int) : Tr := { T with nE := T.nE + 1, E := lateE T.E b }
theorem begE_late (E : Nat → Ed) (b : Int) (k : Nat) : begE (lateE E b) (k + 1) = b + begE E k := by
  induction k with
  | zero => simp [begE, lateE]
  | succ k ih =>
    rw [begE, ih, begE]
    simp only [lateE, Nat.add_eq_zero_iff, Nat.add_one_sub_one]
    simp
    omega
theorem hitE_late_zero (T : Tr) (b d sc : Int) : hitE (lateT T b) d sc 0 = false := by
  unfold hitE lateT lateE; simp
theorem hitE_late (T : Tr) (b d sc : Int) (i : Nat) : hitE (lateT T b) d sc (i + 1) = hitE T d sc i := by
  unfold hitE lateT lateE; simp
theorem show_late (T : Tr) (b d sc : Int) (hn : T.nE ≠ 0) (hok : okTr T = true) (hs : 0 ≤ sc) :
    (showF T d sc < 0 ∧ showF (lateT T b) d sc = -1) ∨ (0 ≤ showF T d sc ∧ showF T d sc ≤ 137438953472 ∧ showF (lateT T b) d sc = showF T d sc + b) := by
  have ho := okTr_yes hok
  cases hf : (List.range T.nE).find? (hitE T d sc) with
  | some k =>
    rw [List.find?_range_eq_some] at hf
    obtain ⟨hh, hk, hno⟩ := hf
    replace hk : k < T.nE := by simpa using hk
    replace hno : ∀ j, j < k → hitE T d sc j = false := fun j hj => by simpa using hno j hj
    have e1 := showF_hit hk hno hh
    have e2 := showF_hit (T := lateT T b) (d := d) (sc := sc) (k := k + 1) (by simp [lateT]; omega) (fun j hj => by
      cases j with
      | zero => exact hitE_late_zero T b d sc
      | succ j => rw [hitE_late]; exact hno j (by omega)) (by rw [hitE_late]; exact hh)
    have e3 : begE (lateT T b).E (k + 1) = b + begE T.E k := begE_late T.E b k
    have e4 : ((lateT T b).E (k + 1)).time = (T.E k).time := by simp [lateT, lateE]
    have e5 : (lateT T b).sc = T.sc := rfl
    rw [e3, e4, e5] at e2
    right
    have hb := (begE_bd ho.2.2 (show k ≤ T.nE by omega)).1
    unfold hitE at hh
    simp only [decide_eq_true_eq] at hh
    have hq : 0 ≤ (d - (T.E k).time) * sc / T.sc := Int.ediv_nonneg (Int.mul_nonneg (by omega) (by omega)) (by have := ho.1.2.1; omega)
    have hb2 := (begE_bd ho.2.2 (show k + 1 ≤ T.nE by omega)).2
    have hn64 := ho.1.2.2.2.2.2
    simp only [begE] at hb2
    refine ⟨?_, ?_, ?_⟩
    · rw [e1]; omega
    · rw [e1]; omega
    · rw [e2, e1]; omega
  | none =>
    rw [List.find?_eq_none] at hf
    have hno : ∀ j, j < T.nE → hitE T d sc j = false := fun j hj => by simpa using hf j (by simpa using hj)
    left
    refine ⟨by rw [showF_none hn hno]; decide, ?_⟩
    refine showF_none (by simp [lateT]) (fun j hj => ?_)
    cases j with
    | zero => exact hitE_late_zero T b d sc
    | succ j => rw [hitE_late]; exact hno j (by simp [lateT] at hj; omega)
theorem ok_late (T : Tr) (b : Int) (hok : okTr T = true) (hn : T.nE ≤ 60) (h0 : 0 ≤ b) (h1 : b ≤ 1048576) : okTr (lateT T b) = true := by
  have ho := okTr_yes hok
  unfold okTr
  simp only [Bool.and_eq_true, decide_eq_true_eq, all_range]
  refine ⟨⟨⟨ho.1.1, ho.1.2.1, ho.1.2.2.1, ho.1.2.2.2.1, ho.1.2.2.2.2.1, by simp [lateT]; omega⟩, ho.2.1⟩, fun i hi => ?_⟩
  cases i with
  | zero => simp [lateT, lateE, okEd]; omega
  | succ i => simpa [lateT, lateE] using ho.2.2 i (by simp [lateT] at hi; omega)

end Go.Proofs.Ytkhjkemllgjfmaa

/- A file with one track delayed: its cells, rows that are copied. -/
namespace Go.Proofs.Ytkhjkemllgjfmaa
open Go.RowKit
set_option linter.unusedVariables false

theorem info48 : (Try.prog.info? 48).map (fun i => (i.zero, i.size, i.bytes)) = some (some (.agg #[.string { data := #[] }, .int .i64 0, .slice none 0 0, .slice none 0 0, .slice none 0 0]), 5, 96) := by kernel_rfl
theorem info61 : (Try.prog.info? 61).map (fun i => (i.zero, i.size, i.bytes)) = some (some (.agg #[.int .i64 0, .int .i64 0]), 2, 16) := by kernel_rfl

/-- Many elements appended to a row of the call's own. -/
theorem wpList_appN (w : World) {ops : Array Oper} {rest : List Oper} {o : Oper} {a : Act} {Q : Exit → Act → World → Prop} (hgd : o.guard = none) (s x : Operand) (t E : TypeId) (size bytes : Nat) (z : Value) (ht : Try.prog.underlying t = some (.slice E))
    (hE : (Try.prog.info? E).map (fun i => (i.zero, i.size, i.bytes)) = some (some z, size, bytes)) (hzs : z.cells.size = size) (hsz : 0 < size) (hby : bytes ≤ 1000)
    (ho : o.op = .call { callee := .builtin .append, args := #[s, x], argTypes := #[t, t] }) (B k b off m c : Nat) (v : Value) (xs news : List Value) (hs : a.eval s = v) (hown : w.ownsRow B E size v k xs)
    (hx : a.eval x = .slice (some ⟨b, off, none⟩) m c) (hl : news.length = m * size) (hnews : ∀ j u, news[j]? = some u → w.cell? ⟨b, off + j, none⟩ = some u) (h1 : ∀ u ∈ news, u.oneCell' = true)
    (hk : k + m ≤ 100000000) (hB : B ≤ w.heap.size)
    (h : ∀ v' w', w'.ownsRow B E size v' (k + m) (xs ++ news) → Below B w w' → wpList Try.prog ops Q rest (a.put o.dst v') w') : wpList Try.prog ops Q (o :: rest) a w := by
  obtain ⟨i0, hi, hz0, hz1, hz2⟩ := info_parts hE
  have hb2 : (k + m) * bytes ≤ 100000000 * 1000 := Nat.mul_le_mul (by omega) hby
  refine wpList_append_own _ hgd s x t ho B E i0 z size bytes ht hi hz0 hz1 hz2 hzs hsz v k xs hs hown ⟨b, off, none⟩ m c news hx hl (fun j u hj => ?_) h1 (by unfold maxLen; omega) (by omega) hB (fun v' w' hown' hg hnil => ?_)
  · rw [Addr.add_lit]; exact hnews j u hj
  · refine h v' w' hown' ((Below.refl _ _).grown hg hB (fun k' h' => ?_))
    rcases hown.2 with ⟨rfl, _⟩ | ⟨g', cap, cur, rfl, hg', _⟩
    · cases h'
    · cases h'; exact hg'

theorem rowsOf_late (f g : Nat → List Value) (h : ∀ i, f (i + 1) = g i) (n : Nat) : rowsOf f (n + 1) = f 0 ++ rowsOf g n := by
  induction n with
  | zero => simp [rowsOf]
  | succ n ih => rw [rowsOf, ih, rowsOf, h, List.append_assoc]
theorem edits_row {w : World} {b o n c : Nat} {E : Nat → Ed} (h : EA w (.slice (some ⟨b, o, none⟩) n c) n E) (j : Nat) (u : Value) (hj : (rowsOf (edV E) n)[j]? = some u) : w.cell? ⟨b, o + j, none⟩ = some u := by
  have hf : ∀ i, (edV E i).length = 2 := fun i => rfl
  have hjl : j < n * 2 := by have := (List.getElem?_eq_some_iff.1 hj).1; rwa [rowsOf_length hf] at this
  obtain ⟨_, _, e, _, H⟩ := h
  simp only [Value.slice.injEq, true_and] at e
  obtain ⟨rfl, rfl⟩ := e
  obtain ⟨b', o', e, h0, h1⟩ := H (j / 2) (by omega)
  simp only [Option.some.injEq, Addr.mk.injEq, and_true] at e
  obtain ⟨rfl, rfl⟩ := e
  have hr := rowsOf_at hf n (j / 2) (j % 2) (by omega) (by omega)
  rw [show j / 2 * 2 + j % 2 = j by omega, hj] at hr
  rcases (show j % 2 = 0 ∨ j % 2 = 1 by omega) with e | e
  · rw [e] at hr
    simp only [edV, List.getElem?_cons_zero, Option.some.injEq] at hr
    rw [hr, ← h0]; congr 2; omega
  · rw [e] at hr
    simp only [edV, List.getElem?_cons_succ, List.getElem?_cons_zero, Option.some.injEq] at hr
    rw [hr, ← h1]; congr 2; omega
/-- The cells of a slice of tracks. -/
def cellsAt (w : World) (b o n : Nat) : List Value := (List.range n).map fun j => (w.cell? ⟨b, o + j, none⟩).getD (.int .i64 0)
theorem tracks_cell {w : World} {b o n c : Nat} {T : Nat → Tr} (h : TSA w (.slice (some ⟨b, o, none⟩) n c) n T) (j : Nat) (hj : j < n * 5) : ∃ u, w.cell? ⟨b, o + j, none⟩ = some u ∧ u.oneCell' = true := by
  obtain ⟨b', o', a2, d2, a3, d3, a4, d4, e, t0, t1, t2, t3, t4, _⟩ := h.at (k := j / 5) (by omega)
  simp only [Option.some.injEq, Addr.mk.injEq, and_true] at e
  obtain ⟨rfl, rfl⟩ := e
  rcases (show j % 5 = 0 ∨ j % 5 = 1 ∨ j % 5 = 2 ∨ j % 5 = 3 ∨ j % 5 = 4 by omega) with e | e | e | e | e
  · exact ⟨_, by rw [← t0]; congr 2; omega, by simp [Value.oneCell']⟩
  · exact ⟨_, by rw [← t1]; congr 2; omega, by simp [Value.oneCell']⟩
  · exact ⟨_, by rw [← t2]; congr 2; omega, by simp [Value.oneCell']⟩
  · exact ⟨_, by rw [← t3]; congr 2; omega, by simp [Value.oneCell']⟩
  · exact ⟨_, by rw [← t4]; congr 2; omega, by simp [Value.oneCell']⟩
theorem cellsAt_get {w : World} {b o n c : Nat} {T : Nat → Tr} (h : TSA w (.slice (some ⟨b, o, none⟩) n c) n T) (j : Nat) (u : Value) (hj : (cellsAt w b o (n * 5))[j]? = some u) : w.cell? ⟨b, o + j, none⟩ = some u := by
  have hjl : j < n * 5 := by have := (List.getElem?_eq_some_iff.1 hj).1; simpa [cellsAt] using this
  obtain ⟨x, hx, _⟩ := tracks_cell h j hjl
  unfold cellsAt at hj
  rw [List.getElem?_map, List.getElem?_range hjl] at hj
  simp only [Option.map_some, Option.some.injEq, hx, Option.getD_some] at hj
  rw [hx, hj]
theorem cellsAt_at {w : World} {b o n : Nat} {j : Nat} {u : Value} (hj : j < n) (h : w.cell? ⟨b, o + j, none⟩ = some u) : (cellsAt w b o n)[j]? = some u := by
  unfold cellsAt
  rw [List.getElem?_map, List.getElem?_range hj]
  simp [h]
theorem owns_empty (w : World) (E size : Nat) : (w.alloc (.cells #[] E)).ownsRow w.heap.size E size (.slice (some ⟨w.heap.size, 0, none⟩) 0 0) 0 [] :=
  ⟨by simp, .inr ⟨w.heap.size, 0, #[], rfl, Nat.le_refl _, by simp only [World.alloc, Array.getElem?_push_size], Nat.le_refl _, by decide, by simp, by simp⟩⟩
theorem owns_one (w : World) (E size : Nat) (cs : Array Value) (h : cs.size = size) : (w.alloc (.cells cs E)).ownsRow w.heap.size E size (.slice (some ⟨w.heap.size, 0, none⟩) 1 1) 1 cs.toList :=
  ⟨by simp [h], .inr ⟨w.heap.size, 1, cs, rfl, Nat.le_refl _, by simp only [World.alloc, Array.getElem?_push_size], Nat.le_refl _, by decide, by omega, by rw [List.take_of_length_le (by simp [h])]⟩⟩
theorem owns_open2 {w : World} {B E size n : Nat} {v : Value} {xs : List Value} (h : w.ownsRow B E size v n xs) (hn : 0 < n) : ∃ g c, v = .slice (some ⟨g, 0, none⟩) n c ∧ n ≤ c ∧ B ≤ g ∧ (∀ o, w.frozen? ⟨g, o, none⟩ = false) ∧ ∀ i u, xs[i]? = some u → w.cell? ⟨g, i, none⟩ = some u := by
  obtain ⟨g, c, e, hc, H⟩ := owns_open h hn
  rcases h.2 with ⟨h1, h0⟩ | ⟨g', cap, cur, h1, h2, h3, _⟩
  · omega
  · rw [h1] at e; cases e
    exact ⟨g, c, h1, hc, h2, fun o => by simp [World.frozen?, h3], H⟩
/-- A file in which one track is late. -/
def lateF (F : Fl) (k : Nat) (b : Int) : Fl := { F with T := fun i => if i = k then lateT (F.T k) b else F.T i }
theorem okFl_late (F : Fl) (k : Nat) (b : Int) (hk : k < F.nT) (hok : okFl F = true) (hn : (F.T k).nE ≤ 60) (h0 : 0 ≤ b) (h1 : b ≤ 1048576) : okFl (lateF F k b) = true := by
  have ho := okFl_yes hok
  unfold okFl
  simp only [Bool.and_eq_true, decide_eq_true_eq, all_range]
  refine ⟨ho.1, fun i hi => ?_⟩
  by_cases e : i = k
  · subst e; simpa [lateF] using ok_late (F.T i) b (ho.2 i hi) hn h0 h1
  · simpa [lateF, e] using ho.2 i hi
/-- The late file's tracks in their row. -/
theorem FA.late {w0 w' : World} {b o c gt cap : Nat} {F : Fl} {k : Nat} {bv : Int} {ve : Value} (hk : k < F.nT) (h : TSA w0 (.slice (some ⟨b, o, none⟩) F.nT c) F.nT F.T) (hb : Below w0.heap.size w0 w')
    (hc : F.nT ≤ cap) (hcell : ∀ j u, (cellsAt w0 b o (F.nT * 5))[j]? = some u → j ≠ k * 5 + 4 → w'.cell? ⟨gt, j, none⟩ = some u) (hv : w'.cell? ⟨gt, k * 5 + 4, none⟩ = some ve) (hE : EA w' ve ((F.T k).nE + 1) (lateE (F.T k).E bv)) :
    FA w' (.agg #[.int .i64 F.sc, .slice (some ⟨gt, 0, none⟩) F.nT cap]) (lateF F k bv) := by
  refine ⟨_, rfl, _, _, rfl, hc, fun i hi => ?_⟩
  obtain ⟨ao', c', e, hcc, H⟩ := h
  simp only [Value.slice.injEq, true_and] at e
  obtain ⟨rfl, rfl⟩ := e
  obtain ⟨b', o', c0, c1, c2, c3, c4, e, t0, t1, t2, t3, t4, hT⟩ := H i hi
  simp only [Option.some.injEq, Addr.mk.injEq, and_true] at e
  obtain ⟨rfl, rfl⟩ := e
  have hi' : i < F.nT := hi
  have q0 := hcell (i * 5) c0 (cellsAt_at (by omega) t0) (by omega)
  have q1 := hcell (i * 5 + 1) c1 (cellsAt_at (by omega) (by rw [← Nat.add_assoc]; exact t1)) (by omega)
  have q2 := hcell (i * 5 + 2) c2 (cellsAt_at (by omega) (by rw [← Nat.add_assoc]; exact t2)) (by omega)
  have q3 := hcell (i * 5 + 3) c3 (cellsAt_at (by omega) (by rw [← Nat.add_assoc]; exact t3)) (by omega)
  have hT' := hT.below hb
  by_cases e : i = k
  · subst e
    refine ⟨gt, 0, c0, c1, c2, c3, ve, rfl, by simpa using q0, by simpa using q1, by simpa using q2, by simpa using q3, by simpa using hv, ?_⟩
    obtain ⟨k0, k1, k2, k3, k4⟩ := hT'
    simp only [lateF, if_pos]
    exact ⟨k0, k1, k2, k3, hE⟩
  · have q4 := hcell (i * 5 + 4) c4 (cellsAt_at (by omega) (by rw [← Nat.add_assoc]; exact t4)) (by omega)
    refine ⟨gt, 0, c0, c1, c2, c3, c4, rfl, by simpa using q0, by simpa using q1, by simpa using q2, by simpa using q3, by simpa using q4, ?_⟩
    simp only [lateF, if_neg e]
    exact hT'

end Go.Proofs.Ytkhjkemllgjfmaa

/- Rows of bytes; the contracts of the reference's num, nums, join, box, zeros. -/
namespace Go.Proofs.Ytkhjkemllgjfmaa
open Go.RowKit
set_option linter.unusedVariables false
set_option linter.unusedSimpArgs false

theorem info5 : (Try.prog.info? 5).map (fun i => (i.zero, i.size, i.bytes)) = some (some (.int .u8 0), 1, 1) := by kernel_rfl

/-- Bytes as values; a row of the call's own that holds bytes; bytes to read. -/
def bv (L : List Int) : List Value := L.map (.int .u8)
def Own (w : World) (B : Nat) (v : Value) (L : List Int) : Prop := w.ownsRow B 5 1 v L.length (bv L)
def BL (w : World) (v : Value) (L : List Int) : Prop := ∃ ao c, v = .slice ao L.length c ∧ L.length ≤ c ∧ ∀ i u, L[i]? = some u → ∃ b o, ao = some ⟨b, o, none⟩ ∧ w.cell? ⟨b, o + i, none⟩ = some (.int .u8 u)
theorem bv_length (L : List Int) : (bv L).length = L.length := by simp [bv]
theorem bv_append (L M : List Int) : bv (L ++ M) = bv L ++ bv M := by simp [bv]
theorem bv_one (L : List Int) : ∀ u ∈ bv L, u.oneCell' = true := fun u hu => by obtain ⟨i, _, rfl⟩ := List.mem_map.1 hu; rfl
theorem BL.below {w w' : World} {v : Value} {L : List Int} (h : BL w v L) (hb : Below w.heap.size w w') : BL w' v L := by
  obtain ⟨ao, c, rfl, hc, H⟩ := h
  refine ⟨ao, c, rfl, hc, fun i u hi => ?_⟩
  obtain ⟨b, o, e, hx⟩ := H i u hi
  exact ⟨b, o, e, (hb.cell (block_lt_of_cell hx)).trans hx⟩
theorem BL.shape {w : World} {v : Value} {L : List Int} (h : BL w v L) : ∃ a c, v = .slice a L.length c := by obtain ⟨a, c, e, _⟩ := h; exact ⟨a, c, e⟩
theorem Own.bl {w : World} {B : Nat} {v : Value} {L : List Int} (h : Own w B v L) : BL w v L := by
  unfold Own at h
  rcases Nat.eq_zero_or_pos L.length with h0 | h0
  · rw [h0] at h
    obtain ⟨a, m, rfl⟩ := owns_zero h
    exact ⟨a, m, by rw [h0], by omega, fun i u hi => by have := (List.getElem?_eq_some_iff.1 hi).1; omega⟩
  · obtain ⟨g, c, rfl, hc, H⟩ := owns_open h h0
    refine ⟨_, c, rfl, hc, fun i u hi => ⟨g, 0, rfl, ?_⟩⟩
    simpa using H i (.int .u8 u) (by simp [bv, hi])
theorem Own.below {w w' : World} {B : Nat} {v : Value} {L : List Int} (h : Own w B v L) (hb : Below w.heap.size w w') : Own w' B v L := owns_below h hb
theorem Own.mono {w : World} {B B' : Nat} {v : Value} {L : List Int} (h : Own w B v L) (hB : B' ≤ B) : Own w B' v L := owns_mono h hB
theorem Own.shape {w : World} {B : Nat} {v : Value} {L : List Int} (h : Own w B v L) : ∃ a c, v = .slice a L.length c := h.bl.shape
theorem own_nil (w : World) (B : Nat) : Own w B (.slice none 0 0) [] := owns_nil _ _ _ _

theorem owns_many (w : World) (E size n : Nat) (cs : Array Value) (h : cs.size = n * size) (hn : n ≤ maxLen) : (w.alloc (.cells cs E)).ownsRow w.heap.size E size (.slice (some ⟨w.heap.size, 0, none⟩) n n) n cs.toList :=
  ⟨by simp [h], .inr ⟨w.heap.size, n, cs, rfl, Nat.le_refl _, by simp only [World.alloc, Array.getElem?_push_size], Nat.le_refl _, hn, h, by rw [List.take_of_length_le (by simp [h])]⟩⟩

/-- Bytes appended to a row of the call's own. -/
theorem wpList_bytes (w : World) {ops : Array Oper} {rest : List Oper} {o : Oper} {a : Act} {Q : Exit → Act → World → Prop} (hgd : o.guard = none) (s x : Operand)
    (ho : o.op = .call { callee := .builtin .append, args := #[s, x], argTypes := #[22, 22] }) (B : Nat) (v vx : Value) (L M : List Int) (hs : a.eval s = v) (hown : Own w B v L)
    (hx : a.eval x = vx) (hM : BL w vx M) (hk : L.length + M.length ≤ 100000000) (hB : B ≤ w.heap.size)
    (h : ∀ v' w', Own w' B v' (L ++ M) → Below B w w' → wpList Try.prog ops Q rest (a.put o.dst v') w') : wpList Try.prog ops Q (o :: rest) a w := by
  obtain ⟨ao, c, rfl, hc, H⟩ := hM
  cases ao with
  | some ad =>
    by_cases h0 : M = []
    · subst h0
      obtain ⟨i0, hi, hz0, hz1, hz2⟩ := info_parts info5
      obtain ⟨i1, hi1, hz⟩ : ∃ i1, Try.prog.info? 5 = some i1 ∧ i1 = i0 := ⟨i0, hi, rfl⟩
      refine wpList_append_own _ hgd s x 22 ho B 5 i0 (.int .u8 0) 1 1 Try.underlying22 hi hz0 hz1 hz2 rfl (by decide) v L.length (bv L) hs hown ad 0 c [] hx (by simp) (fun j u hj => by simp at hj) (by simp) (by unfold maxLen; simp at hk; omega) (by simp at hk; omega) hB (fun v' w' hown' hg hnil => ?_)
      refine h v' w' (by simpa [Own] using hown') ((Below.refl _ _).grown hg hB (fun k' h' => ?_))
      rcases hown.2 with ⟨rfl, _⟩ | ⟨g', cap, cur, rfl, hg', _⟩
      · cases h'
      · cases h'; exact hg'
    · obtain ⟨b, off, hst, hn⟩ : ∃ b off, ad = ⟨b, off, none⟩ ∧ ∀ j u, (bv M)[j]? = some u → w.cell? ⟨b, off + j, none⟩ = some u := by
        cases M with
        | nil => exact absurd rfl h0
        | cons m M =>
          obtain ⟨b, off, e, _⟩ := H 0 m rfl
          simp only [Option.some.injEq] at e
          refine ⟨b, off, e, fun j u hj => ?_⟩
          simp only [bv, List.getElem?_map, Option.map_eq_some_iff] at hj
          obtain ⟨z, hz, rfl⟩ := hj
          obtain ⟨b', off', e', hc'⟩ := H j z hz
          rw [e] at e'
          simp only [Option.some.injEq, Addr.mk.injEq, and_true] at e'
          obtain ⟨rfl, rfl⟩ := e'
          exact hc'
      subst hst
      refine wpList_appN w hgd s x 22 5 1 1 (.int .u8 0) Try.underlying22 info5 rfl (by decide) (by decide) ho B L.length b off M.length c v (bv L) (bv M) hs hown hx (by simp [bv]) hn (bv_one _) hk hB (fun v' w' hown' hb => ?_)
      exact h v' w' (by unfold Own; rw [bv_append, List.length_append]; exact hown') hb
  | none =>
    have h0 : M = [] := by
      cases M with
      | nil => rfl
      | cons m M => obtain ⟨b, off, e, _⟩ := H 0 m rfl; cases e
    subst h0
    obtain ⟨i0, hi, hz0, hz1, hz2⟩ := info_parts info5
    have hrun : (Builtin.append_ #[22, 22] o.type #[v, .slice none 0 c]).run Try.prog w = .ok v w := by
      rcases hown.2 with ⟨rfl, _⟩ | ⟨g, cap, cur, rfl, _, _, hnc, _⟩
      · simp [Builtin.append_, run_underlying Try.underlying22, sizeOf, typeInfo, hi, Builtin.lenOf, Builtin.firstCells]
      · simp [Builtin.append_, run_underlying Try.underlying22, sizeOf, typeInfo, hi, Builtin.lenOf, Builtin.firstCells, hnc, storeCells]
    refine wpList_plain hgd fun K hK => ?_
    unfold Oper.wp
    simp [execOp, ho, resolve, invoke, builtin, hs, hx, hrun, Result.andThen]
    exact hK _ _ (h v w (by rw [List.append_nil]; exact hown) (Below.refl _ _))

def num4 (n : Int) : List Int := [n / 16777216 % 256, n / 65536 % 256, n / 256 % 256, n % 256]
theorem num_any (n : Int) (w : World) :
    Calls Try.prog 60 #[.int .i64 n] w fun e w' => ∃ v, e = .returned v ∧ Own w' w.heap.size v (num4 n) ∧ Below w.heap.size w w' := by
  go_enter Try.func60, Try.ntmps60
  go_wp2_with fail
  go_ret
  refine ⟨_, rfl, ?_, below_box _ _⟩
  have := owns_many w 5 1 4 #[.int .u8 (n / 16777216 % 256), .int .u8 (n / 65536 % 256), .int .u8 (n / 256 % 256), .int .u8 (n % 256)] rfl (by decide)
  exact this

/-- Numbers to read; slices of bytes to read. -/
def IL (w : World) (v : Value) (L : List Int) : Prop := ∃ ao c, v = .slice ao L.length c ∧ L.length ≤ c ∧ ∀ i u, L[i]? = some u → ∃ b o, ao = some ⟨b, o, none⟩ ∧ w.cell? ⟨b, o + i, none⟩ = some (.int .i64 u)
def JL (w : World) (v : Value) (Ls : List (List Int)) : Prop := ∃ ao c, v = .slice ao Ls.length c ∧ Ls.length ≤ c ∧ ∀ i L, Ls[i]? = some L → ∃ b o x, ao = some ⟨b, o, none⟩ ∧ w.cell? ⟨b, o + i, none⟩ = some x ∧ BL w x L
theorem IL.below {w w' : World} {v : Value} {L : List Int} (h : IL w v L) (hb : Below w.heap.size w w') : IL w' v L := by
  obtain ⟨ao, c, rfl, hc, H⟩ := h
  refine ⟨ao, c, rfl, hc, fun i u hi => ?_⟩
  obtain ⟨b, o, e, hx⟩ := H i u hi
  exact ⟨b, o, e, (hb.cell (block_lt_of_cell hx)).trans hx⟩
theorem JL.below {w w' : World} {v : Value} {L : List (List Int)} (h : JL w v L) (hb : Below w.heap.size w w') : JL w' v L := by
  obtain ⟨ao, c, rfl, hc, H⟩ := h
  refine ⟨ao, c, rfl, hc, fun i u hi => ?_⟩
  obtain ⟨b, o, x, e, hx, hB⟩ := H i u hi
  exact ⟨b, o, x, e, (hb.cell (block_lt_of_cell hx)).trans hx, hB.below hb⟩
def numsL (L : List Int) : List Int := L.flatMap num4
theorem numsL_length (L : List Int) : (numsL L).length = 4 * L.length := by
  induction L with
  | nil => rfl
  | cons x L ih => simp [numsL, num4] at ih ⊢; omega
theorem numsL_take {L : List Int} {k : Nat} {u : Int} (h : L[k]? = some u) : numsL (L.take (k + 1)) = numsL (L.take k) ++ num4 u := by
  rw [List.take_add_one, h]; simp [numsL]
theorem join_take {L : List (List Int)} {k : Nat} {u : List Int} (h : L[k]? = some u) : (L.take (k + 1)).flatten = (L.take k).flatten ++ u := by
  rw [List.take_add_one, h]; simp
theorem take_le_flatten (L : List (List Int)) (k : Nat) : (L.take k).flatten.length ≤ L.flatten.length := by
  have h : L.flatten = (L.take k).flatten ++ (L.drop k).flatten := by rw [← List.flatten_append, List.take_append_drop]
  rw [h, List.length_append]; omega

set_option maxRecDepth 100000 in
set_option maxHeartbeats 4000000 in
theorem nums_any (v : Value) (L : List Int) (w : World) (hv : IL w v L) (hn : L.length ≤ 1000000) :
    Calls Try.prog 57 #[v] w fun e w' => ∃ r, e = .returned r ∧ Own w' w.heap.size r (numsL L) ∧ Below w.heap.size w w' := by
  obtain ⟨ao, c, rfl, hc, H⟩ := hv
  have HL := Lib.hid H
  obtain ⟨n, hN⟩ : ∃ n, n = L.length := ⟨_, rfl⟩
  rw [← hN] at hc hn ⊢
  have HN := Lib.hid hN
  clear H hN
  go_enter Try.func57, Try.ntmps57
  go_wp2_with fail
  go_loopw [4, 3] (fun i r wr => ∃ k : Nat, k ≤ n ∧ i = .int .i64 (k : Int) ∧ Own wr w.heap.size r (numsL (L.take k)) ∧ Below w.heap.size w wr) (fun i _ _ => n - (intOf i).toNat)
  case atStart => exact ⟨0, Nat.zero_le _, rfl, own_nil _ _, Below.refl _ _⟩
  case round =>
    obtain ⟨k, hk, rfl, ho, hb⟩ := hrel
    obtain ⟨ra, rc, hr⟩ := ho.shape
    subst hr
    have HO := Lib.hid ho
    have HB := Lib.hid hb
    clear ho hb
    by_cases hlt : k < n
    · have hlt' : k < L.length := by rw [← HN.out]; exact hlt
      obtain ⟨u, hu⟩ : ∃ u, L[k]? = some u := ⟨_, List.getElem?_eq_getElem hlt'⟩
      obtain ⟨b, o, rfl, hx⟩ := HL.out k u hu
      replace hx := (HB.out.cell (block_lt_of_cell hx)).trans hx
      have HU := Lib.hid hu
      have HX := Lib.hid hx
      clear hu hlt'
      go_wp2_with fail
      refine (num_any u wr).mono ?_
      rintro e w2 ⟨v2, rfl, h2, hb2⟩
      obtain ⟨va, vc, hv2⟩ := h2.shape
      subst hv2
      have H2 := Lib.hid h2.bl
      have HB2 := Lib.hid hb2
      have hlen : (numsL (L.take k)).length + (num4 u).length ≤ 100000000 := by rw [numsL_length]; simp [num4]; omega
      have HLE := Lib.hid hlen
      have hsz : w.heap.size ≤ w2.heap.size := by have := HB.out.size; have := hb2.size; omega
      clear h2 hb2 hlen hx
      go_wp2_with (at_builtin; refine wpList_bytes w2 rfl (.tmp 11) (.tmp 16) rfl w.heap.size _ _ _ _ rfl (HO.out.below HB2.out) rfl H2.out HLE.out hsz ?_)
      intro v3 w3 h3 hb3
      obtain ⟨wa, wc, hv3⟩ := h3.shape
      subst hv3
      have H3 := Lib.hid h3
      have HB3 := Lib.hid (HB.out.trans ((HB2.out.mono HB.out.size).trans hb3))
      clear h3 hb3
      go_wp2_with fail
      go_roundw
      case rel => exact ⟨k + 1, by omega, by go_num, by rw [numsL_take HU.out]; exact H3.out, HB3.out⟩
      case measure => simp [intOf]; omega
    · obtain rfl : k = n := by omega
      go_wp2_with fail
      go_ret
      have e : L.take k = L := by rw [HN.out, List.take_length]
      have h := HO.out
      rw [e] at h ⊢
      exact ⟨_, rfl, h, HB.out⟩

set_option maxRecDepth 100000 in
set_option maxHeartbeats 4000000 in
theorem join_any (v : Value) (L : List (List Int)) (w : World) (hv : JL w v L) (hn : L.length ≤ 1000000) (hn2 : L.flatten.length ≤ 100000000) :
    Calls Try.prog 44 #[v] w fun e w' => ∃ r, e = .returned r ∧ Own w' w.heap.size r L.flatten ∧ Below w.heap.size w w' := by
  obtain ⟨ao, c, rfl, hc, H⟩ := hv
  have HL := Lib.hid H
  have HN2 := Lib.hid hn2
  obtain ⟨n, hN⟩ : ∃ n, n = L.length := ⟨_, rfl⟩
  rw [← hN] at hc hn ⊢
  have HN := Lib.hid hN
  clear H hN hn2
  go_enter Try.func44, Try.ntmps44
  go_wp2_with fail
  go_loopw [4, 3] (fun i r wr => ∃ k : Nat, k ≤ n ∧ i = .int .i64 (k : Int) ∧ Own wr w.heap.size r (L.take k).flatten ∧ Below w.heap.size w wr) (fun i _ _ => n - (intOf i).toNat)
  case atStart => exact ⟨0, Nat.zero_le _, rfl, own_nil _ _, Below.refl _ _⟩
  case round =>
    obtain ⟨k, hk, rfl, ho, hb⟩ := hrel
    obtain ⟨ra, rc, hr⟩ := ho.shape
    subst hr
    have HO := Lib.hid ho
    have HB := Lib.hid hb
    clear ho hb
    by_cases hlt : k < n
    · have hlt' : k < L.length := by rw [← HN.out]; exact hlt
      obtain ⟨u, hu⟩ : ∃ u, L[k]? = some u := ⟨_, List.getElem?_eq_getElem hlt'⟩
      obtain ⟨b, o, x, rfl, hx, hbl⟩ := HL.out k u hu
      obtain ⟨xa, xc, hxv⟩ := hbl.shape
      subst hxv
      replace hx := (HB.out.cell (block_lt_of_cell hx)).trans hx
      have HU := Lib.hid hu
      have HX := Lib.hid (hbl.below HB.out)
      have hlen : (L.take k).flatten.length + u.length ≤ 100000000 := by
        have := take_le_flatten L (k + 1)
        rw [join_take hu, List.length_append] at this
        have := HN2.out
        omega
      have HLE := Lib.hid hlen
      have HSZ := Lib.hid HB.out.size
      clear hu hlt' hbl hlen
      go_wp2_with (at_builtin; refine wpList_bytes wr rfl (.tmp 11) (.tmp 15) rfl w.heap.size _ _ _ _ rfl HO.out rfl HX.out HLE.out HSZ.out ?_)
      intro v3 w3 h3 hb3
      obtain ⟨wa, wc, hv3⟩ := h3.shape
      subst hv3
      have H3 := Lib.hid h3
      have HB3 := Lib.hid (HB.out.trans hb3)
      clear h3 hb3
      go_wp2_with fail
      go_roundw
      case rel => exact ⟨k + 1, by omega, by go_num, by rw [join_take HU.out]; exact H3.out, HB3.out⟩
      case measure => simp [intOf]; omega
    · obtain rfl : k = n := by omega
      go_wp2_with fail
      go_ret
      have e : L.take k = L := by rw [HN.out, List.take_length]
      have h := HO.out
      rw [e] at h ⊢
      exact ⟨_, rfl, h, HB.out⟩

end Go.Proofs.Ytkhjkemllgjfmaa

/- The contract of the reference's box, zeros. -/
namespace Go.Proofs.Ytkhjkemllgjfmaa
open Go.RowKit
set_option linter.unusedVariables false
set_option linter.unusedSimpArgs false

def strB (s : ByteArray) : List Int := s.data.toList.map fun b => (b.toNat : Int)
theorem strB_length (s : ByteArray) : (strB s).length = s.size := by simp [strB]
def boxL (name : ByteArray) (d : List Int) : List Int := num4 ((d.length : Int) + 8) ++ (strB name ++ d)
theorem below_bytes (w : World) (s : ByteArray) : Below w.heap.size w (Lib.bytesWorld w 5 s) :=
  ⟨rfl, rfl, rfl, by rw [Lib.bytesWorld_size]; omega, fun k hk => Lib.bytesWorld_at_old w 5 s k hk⟩
theorem bl_bytes (w : World) (s : ByteArray) (c : Nat) (hc : s.size ≤ c) : BL (Lib.bytesWorld w 5 s) (.slice (some ⟨w.heap.size, 0, none⟩) s.size c) (strB s) := by
  refine ⟨_, c, by rw [strB_length], by rw [strB_length]; exact hc, fun i u hi => ⟨w.heap.size, 0, rfl, ?_⟩⟩
  have hl : i < s.size := by have := (List.getElem?_eq_some_iff.1 hi).1; rwa [strB_length] at this
  rw [Nat.zero_add, Lib.bytesWorld_cell w 5 s i hl]
  simp only [strB, List.getElem?_map, Option.map_eq_some_iff] at hi
  obtain ⟨z, hz, rfl⟩ := hi
  rw [List.getD, hz]; rfl

/-- Slices of bytes laid side by side. -/
def All2 (w : World) : List Value → List (List Int) → Prop
  | [], [] => True
  | v :: vs, L :: Ls => BL w v L ∧ All2 w vs Ls
  | _, _ => False
theorem All2.get {w : World} : ∀ {vs : List Value} {Ls : List (List Int)}, All2 w vs Ls → vs.length = Ls.length ∧ ∀ (i : Nat) (L : List Int), Ls[i]? = some L → ∃ v, vs[i]? = some v ∧ BL w v L
  | [], [], _ => ⟨rfl, fun i L h => by simp at h⟩
  | v :: vs, L :: Ls, h => by
    obtain ⟨h1, h2⟩ := h
    obtain ⟨h3, h4⟩ := All2.get h2
    refine ⟨by simp [h3], fun i M hi => ?_⟩
    cases i with
    | zero => simp at hi; subst hi; exact ⟨v, rfl, h1⟩
    | succ i => exact h4 i M (by simpa using hi)
theorem All2.below {w w' : World} (hb : Below w.heap.size w w') : ∀ {vs : List Value} {Ls : List (List Int)}, All2 w vs Ls → All2 w' vs Ls
  | [], [], _ => trivial
  | v :: vs, L :: Ls, h => ⟨h.1.below hb, All2.below hb h.2⟩
theorem JL.build {w : World} {vs : List Value} {Ls : List (List Int)} (t : TypeId) (h : All2 w vs Ls) : JL (w.alloc (.cells vs.toArray t)) (.slice (some ⟨w.heap.size, 0, none⟩) Ls.length Ls.length) Ls := by
  refine ⟨_, _, rfl, Nat.le_refl _, fun i L hi => ?_⟩
  obtain ⟨v, hv, hB⟩ := h.get.2 i L hi
  refine ⟨w.heap.size, 0, v, rfl, ?_, hB.below (below_box _ _)⟩
  have : i < vs.length := (List.getElem?_eq_some_iff.1 hv).1
  simp [go_sem, hv]

set_option maxRecDepth 100000 in
set_option maxHeartbeats 4000000 in
theorem box_any (name : ByteArray) (v : Value) (L : List (List Int)) (w : World) (hv : JL w v L) (hn : L.length ≤ 1000000) (hn2 : L.flatten.length ≤ 90000000) (hnm : name.size ≤ 1000) :
    Calls Try.prog 45 #[.string name, v] w fun e w' => ∃ r, e = .returned r ∧ Own w' w.heap.size r (boxL name L.flatten) ∧ Below w.heap.size w w' := by
  have HV := Lib.hid hv
  obtain ⟨D, hD⟩ : ∃ D, D = L.flatten := ⟨_, rfl⟩
  have hJ := join_any v L w hv hn (by omega)
  rw [← hD] at hJ hn2 ⊢
  have HJ := Lib.hid hJ
  obtain ⟨ao, c, rfl⟩ := (show ∃ a c, v = .slice a L.length c from by obtain ⟨a, c, e, _⟩ := hv; exact ⟨a, c, e⟩)
  clear hD hJ hv
  go_enter Try.func45, Try.ntmps45
  go_wp2_with fail
  refine HJ.out.mono ?_
  rintro e w2 ⟨d, rfl, hd, hb⟩
  obtain ⟨da, dc, hdv⟩ := hd.shape
  subst hdv
  have HD := Lib.hid hd
  have HB := Lib.hid hb
  clear hd hb
  go_wp2_with fail
  refine (num_any _ w2).mono ?_
  rintro e w3 ⟨m, rfl, hm, hb3⟩
  obtain ⟨ma, mc, hmv⟩ := hm.shape
  subst hmv
  have HM := Lib.hid hm
  have HB3 := Lib.hid hb3
  clear hm hb3
  have hcv := Lib.run_convert_string_bytes (P := Try.prog) w3 9 22 5 name Try.underlying9 Try.underlying22 Try.underlying5
  have hgc : name.size ≤ grownCap w3 name.size 0 5 := grownCap_ge _ _ _ _
  have HG := Lib.hid (bl_bytes w3 name _ hgc)
  clear hgc
  go_wp2_with fail
  obtain ⟨w4, hw4⟩ : ∃ x, x = Lib.bytesWorld w3 5 name := ⟨_, rfl⟩
  have hb34 : Below w3.heap.size w3 w4 := by rw [hw4]; exact below_bytes _ _
  have HG4 := Lib.hid (show BL w4 (.slice (some ⟨w3.heap.size, 0, none⟩) name.size (grownCap w3 name.size 0 5)) (strB name) by rw [hw4]; exact HG.out)
  rw [← hw4]
  have HB4 := Lib.hid (HB3.out.trans (hb34.mono HB3.out.size))
  have HM4 := Lib.hid (HM.out.bl.below hb34)
  have HD4 := Lib.hid (HD.out.bl.below HB4.out)
  clear hw4 hb34 hcv
  have hf : [num4 ((D.length : Int) + 8), strB name, D].flatten = boxL name D := by simp [boxL]
  have HJ2 : Hid (JL (w4.alloc (.cells #[.slice ma (num4 ((D.length : Int) + 8)).length mc, .slice (some ⟨w3.heap.size, 0, none⟩) name.size (grownCap w3 name.size 0 5), .slice da D.length dc] 22)) (.slice (some ⟨w4.heap.size, 0, none⟩) 3 3) [num4 ((D.length : Int) + 8), strB name, D]) := Lib.hid (JL.build (w := w4) (vs := [.slice ma (num4 ((D.length : Int) + 8)).length mc, .slice (some ⟨w3.heap.size, 0, none⟩) name.size (grownCap w3 name.size 0 5), .slice da D.length dc]) (Ls := [num4 ((D.length : Int) + 8), strB name, D]) 22 ⟨HM4.out, HG4.out, HD4.out, trivial⟩)
  refine (join_any _ _ _ HJ2.out (by simp) (by rw [hf]; simp [boxL, strB_length, num4]; omega)).mono ?_
  rintro e w5 ⟨r, rfl, hr, hb5⟩
  rw [hf] at hr
  have hb := HB.out.trans ((HB4.out.trans ((below_box w4 _).trans (hb5.mono (by simp)) |>.mono HB4.out.size)).mono HB.out.size)
  have hs := (HB.out.trans (HB4.out.mono HB.out.size)).size
  obtain ⟨ra, rc, hrv⟩ := hr.shape
  subst hrv
  have HR := Lib.hid (And.intro (hr.mono (show w.heap.size ≤ _ by simp; omega)) hb)
  clear hr hb5 hb hs hf
  go_wp2_with fail
  go_ret
  exact ⟨_, rfl, HR.out.1, HR.out.2⟩
end Go.Proofs.Ytkhjkemllgjfmaa

/- The contracts of the reference's zeros, turned, chunks, config, runs. -/
namespace Go.Proofs.Ytkhjkemllgjfmaa
open Go.RowKit
set_option linter.unusedVariables false
set_option linter.unusedSimpArgs false

set_option maxRecDepth 100000 in
theorem zeros_any (n : Nat) (w : World) (hn : n ≤ 1000) :
    Calls Try.prog 56 #[.int .i64 (n : Int)] w fun e w' => ∃ r, e = .returned r ∧ Own w' w.heap.size r (List.replicate n 0) ∧ Below w.heap.size w w' := by
  obtain ⟨i0, hi, hz0, hz1, hz2⟩ := info_parts info5
  go_enter Try.func56, Try.ntmps56
  go_wp2_with (at_make; refine wpList_make_full _ rfl _ _ 22 rfl w.heap.size 5 i0 (.int .u8 0) 1 Try.underlying22 hi hz0 hz1 _ _ _ _ n rfl rfl rfl rfl ?_ ?_ (Nat.le_refl _) ?_)
  · rw [hz2]; omega
  · unfold maxLen; omega
  · intro w1 hown hg
    have hb1 : Below w.heap.size w w1 := (Below.refl _ _).grown hg (Nat.le_refl _) (fun k h => by cases h)
    have ho : Own w1 w.heap.size (.slice (some ⟨w.heap.size, 0, none⟩) n n) (List.replicate n 0) := by
      unfold Own; rw [List.length_replicate]
      have e : bv (List.replicate n 0) = List.replicate n (.int .u8 0) := by simp [bv]
      rw [e]
      rw [← toList_madeCells_one]
      simpa using hown
    have HO := Lib.hid ho
    have HB := Lib.hid hb1
    clear hown hg ho hb1
    go_wp2_with fail
    go_ret
    exact ⟨_, rfl, HO.out, HB.out⟩

/-- Numbers laid side by side. -/
theorem IL.build (w : World) (L : List Int) (t : TypeId) : IL (w.alloc (.cells (L.map (.int .i64)).toArray t)) (.slice (some ⟨w.heap.size, 0, none⟩) L.length L.length) L := by
  refine ⟨_, _, rfl, Nat.le_refl _, fun i u hi => ⟨w.heap.size, 0, rfl, ?_⟩⟩
  simp [go_sem, hi]
def matL : List Int := numsL [65536, 0, 0, 0, 65536, 0, 0, 0, 1073741824]
def chunkL : List Int := numsL [0, 1, 1, 1, 1]
def confL (c : List Int) : List Int := numsL [0, 1] ++ boxL ⟨#[99, 114, 115, 100]⟩ (List.replicate 6 0 ++ ([0, 1] ++ c))

set_option maxRecDepth 100000 in
theorem turned_any (w : World) : Calls Try.prog 58 #[] w fun e w' => ∃ r, e = .returned r ∧ Own w' w.heap.size r matL ∧ Below w.heap.size w w' := by
  have HI : Hid (IL (w.alloc (.cells #[.int .i64 65536, .int .i64 0, .int .i64 0, .int .i64 0, .int .i64 65536, .int .i64 0, .int .i64 0, .int .i64 0, .int .i64 1073741824] 2)) (.slice (some ⟨w.heap.size, 0, none⟩) 9 9) [65536, 0, 0, 0, 65536, 0, 0, 0, 1073741824]) := Lib.hid (IL.build w [65536, 0, 0, 0, 65536, 0, 0, 0, 1073741824] 2)
  go_enter Try.func58, Try.ntmps58
  go_wp2_with fail
  refine (nums_any _ _ _ HI.out (by simp)).mono ?_
  rintro e w5 ⟨r, rfl, hr, hb5⟩
  obtain ⟨ra, rc, hrv⟩ := hr.shape
  subst hrv
  have HR := Lib.hid (And.intro (hr.mono (show w.heap.size ≤ _ by simp)) ((below_box w _).trans (hb5.mono (by simp))))
  clear hr hb5
  go_wp2_with fail
  go_ret
  exact ⟨_, rfl, HR.out.1, HR.out.2⟩
set_option maxRecDepth 100000 in
theorem rchunks_any (w : World) : Calls Try.prog 68 #[] w fun e w' => ∃ r, e = .returned r ∧ Own w' w.heap.size r chunkL ∧ Below w.heap.size w w' := by
  have HI : Hid (IL (w.alloc (.cells #[.int .i64 0, .int .i64 1, .int .i64 1, .int .i64 1, .int .i64 1] 2)) (.slice (some ⟨w.heap.size, 0, none⟩) 5 5) [0, 1, 1, 1, 1]) := Lib.hid (IL.build w [0, 1, 1, 1, 1] 2)
  go_enter Try.func68, Try.ntmps68
  go_wp2_with fail
  refine (nums_any _ _ _ HI.out (by simp)).mono ?_
  rintro e w5 ⟨r, rfl, hr, hb5⟩
  obtain ⟨ra, rc, hrv⟩ := hr.shape
  subst hrv
  have HR := Lib.hid (And.intro (hr.mono (show w.heap.size ≤ _ by simp)) ((below_box w _).trans (hb5.mono (by simp))))
  clear hr hb5
  go_wp2_with fail
  go_ret
  exact ⟨_, rfl, HR.out.1, HR.out.2⟩
/-- The contract of config. -/
theorem own_lit (w : World) (L : List Int) (h : L.length ≤ maxLen) : Own (w.alloc (.cells (bv L).toArray 5)) w.heap.size (.slice (some ⟨w.heap.size, 0, none⟩) L.length L.length) L :=
  owns_many w 5 1 L.length (bv L).toArray (by simp [bv]) h
theorem confL_length (c : List Int) : (confL c).length = c.length + 24 := by
  simp [confL, boxL, num4, strB_length, numsL_length]; simp [ByteArray.size]; omega
set_option maxRecDepth 100000 in
set_option maxHeartbeats 4000000 in
theorem conf_any (v : Value) (C : List Int) (w : World) (hv : BL w v C) (hn : C.length ≤ 1000000) :
    Calls Try.prog 66 #[v] w fun e w' => ∃ r, e = .returned r ∧ Own w' w.heap.size r (confL C) ∧ Below w.heap.size w w' := by
  obtain ⟨ca, cc, rfl⟩ := hv.shape
  have BC := Lib.hid hv
  clear hv
  go_enter Try.func66, Try.ntmps66
  go_wp2_with fail
  have HI : Hid (IL (w.alloc (.cells #[.int .i64 0, .int .i64 1] 2)) (.slice (some ⟨w.heap.size, 0, none⟩) 2 2) [0, 1]) := Lib.hid (IL.build w [0, 1] 2)
  refine (nums_any _ _ _ HI.out (by simp)).mono ?_
  rintro e wc1 ⟨r, rfl, hr, hb0⟩
  have hb : Below w.heap.size w wc1 := (below_box w _).trans (hb0.mono (by simp <;> omega))
  obtain ⟨L1, hL1⟩ : ∃ x, x = numsL [0, 1] := ⟨_, rfl⟩
  rw [← hL1] at hr
  replace hr := hr.mono (show w.heap.size ≤ _ by simp <;> omega)
  obtain ⟨aL1, cL1, hv⟩ := hr.shape
  subst hv
  have NL1 := Lib.hid (show L1.length = 8  from by rw [hL1, numsL_length]; rfl)
  have EL1 := Lib.hid hL1
  have HBwc1 := Lib.hid (hb)
  replace BC := Lib.hid (BC.out.below hb)
  have BL1 := Lib.hid hr
  clear hr hb hb0 hL1 HI
  go_wp2_with fail
  refine (zeros_any 6 _ (by omega)).mono ?_
  rintro e wc2 ⟨r, rfl, hr, hb0⟩
  have hb := hb0
  obtain ⟨L2, hL2⟩ : ∃ x, x = List.replicate 6 (0 : Int) := ⟨_, rfl⟩
  rw [← hL2] at hr
  replace hr := hr.mono (show w.heap.size ≤ _ by have := HBwc1.out.size; simp <;> omega)
  obtain ⟨aL2, cL2, hv⟩ := hr.shape
  subst hv
  have NL2 := Lib.hid (show L2.length = 6  from by rw [hL2, List.length_replicate])
  have EL2 := Lib.hid hL2
  have HBwc2 := Lib.hid (HBwc1.out.trans (hb.mono HBwc1.out.size))
  replace BC := Lib.hid (BC.out.below hb)
  replace BL1 := Lib.hid (BL1.out.below hb)
  have BL2 := Lib.hid hr
  clear hr hb hb0 hL2 
  go_wp2_with fail
  have HJ : Hid (JL (((wc2.alloc (.cells #[.int .u8 0, .int .u8 1] 5)).alloc (.cells #[.slice aL2 L2.length cL2, .slice (some ⟨wc2.heap.size, 0, none⟩) 2 2, .slice ca C.length cc] 22))) (.slice (some ⟨wc2.heap.size + 1, 0, none⟩) 3 3) [L2, [0, 1], C]) := Lib.hid (by
    have hl : BL (wc2.alloc (.cells #[.int .u8 0, .int .u8 1] 5)) (.slice (some ⟨wc2.heap.size, 0, none⟩) 2 2) [0, 1] := (own_lit wc2 [0, 1] (by decide)).bl
    have h := JL.build (w := wc2.alloc (.cells #[.int .u8 0, .int .u8 1] 5)) (vs := [.slice aL2 L2.length cL2, .slice (some ⟨wc2.heap.size, 0, none⟩) 2 2, .slice ca C.length cc]) (Ls := [L2, [0, 1], C]) 22 ⟨BL2.out.bl.below (below_box _ _), hl, BC.out.below (below_box _ _), trivial⟩
    rw [World.size_alloc] at h
    exact h)
  refine (box_any ⟨#[99, 114, 115, 100]⟩ _ _ _ HJ.out (by simp) (by simp; have := NL1.out; have := NL2.out; omega) (by decide)).mono ?_
  rintro e wc3 ⟨r, rfl, hr, hb0⟩
  have hb : Below wc2.heap.size wc2 wc3 := ((below_box wc2 _).alloc (by simp <;> omega) _).trans (hb0.mono (by simp <;> omega))
  obtain ⟨L3, hL3⟩ : ∃ x, x = boxL ⟨#[99, 114, 115, 100]⟩ [L2, [0, 1], C].flatten := ⟨_, rfl⟩
  rw [← hL3] at hr
  replace hr := hr.mono (show w.heap.size ≤ _ by have := HBwc2.out.size; simp <;> omega)
  obtain ⟨aL3, cL3, hv⟩ := hr.shape
  subst hv
  have NL3 := Lib.hid (show L3.length = C.length + 16 from by rw [hL3]; simp [boxL, num4, strB_length, NL2.out]; simp [ByteArray.size] <;> omega)
  have EL3 := Lib.hid hL3
  have HBwc3 := Lib.hid (HBwc2.out.trans (hb.mono HBwc2.out.size))
  replace BC := Lib.hid (BC.out.below hb)
  replace BL1 := Lib.hid (BL1.out.below hb)
  replace BL2 := Lib.hid (BL2.out.below hb)
  have BL3 := Lib.hid hr
  clear hr hb hb0 hL3 HJ
  go_wp2_with fail
  have HJ : Hid (JL ((wc3.alloc (.cells #[.slice aL1 L1.length cL1, .slice aL3 L3.length cL3] 22))) (.slice (some ⟨wc3.heap.size, 0, none⟩) 2 2) [L1, L3]) := Lib.hid (JL.build (w := wc3) (vs := [.slice aL1 L1.length cL1, .slice aL3 L3.length cL3]) (Ls := [L1, L3]) 22 ⟨BL1.out.bl, BL3.out.bl, trivial⟩)
  refine (join_any _ _ _ HJ.out (by simp) (by simp; have := NL1.out; have := NL2.out; have := NL3.out; omega)).mono ?_
  rintro e wc4 ⟨r, rfl, hr, hb0⟩
  have hb : Below wc3.heap.size wc3 wc4 := (below_box wc3 _).trans (hb0.mono (by simp <;> omega))
  obtain ⟨L4, hL4⟩ : ∃ x, x = [L1, L3].flatten := ⟨_, rfl⟩
  rw [← hL4] at hr
  replace hr := hr.mono (show w.heap.size ≤ _ by have := HBwc3.out.size; simp <;> omega)
  obtain ⟨aL4, cL4, hv⟩ := hr.shape
  subst hv
  have NL4 := Lib.hid (show L4 = confL C from by rw [hL4, EL3.out, EL2.out, EL1.out]; simp [confL])
  have EL4 := Lib.hid hL4
  have HBwc4 := Lib.hid (HBwc3.out.trans (hb.mono HBwc3.out.size))
  replace BC := Lib.hid (BC.out.below hb)
  replace BL1 := Lib.hid (BL1.out.below hb)
  replace BL2 := Lib.hid (BL2.out.below hb)
  replace BL3 := Lib.hid (BL3.out.below hb)
  have BL4 := Lib.hid hr
  clear hr hb hb0 hL4 HJ
  go_wp2_with fail
  go_ret
  rw [NL4.out] at BL4 ⊢
  exact ⟨_, rfl, BL4.out, HBwc4.out⟩
end Go.Proofs.Ytkhjkemllgjfmaa
