/- Texts of this claim joined: ST SU SV SW SX SY NA NB NC. -/
import Derived.Test.YtfoohocgdcgbcaaGreatBs14
set_option linter.unusedVariables false
set_option linter.unusedSimpArgs false
namespace Go.Proofs.YtfoohocgdcgbcaaGreat
open Go.RowKit
inductive RevertR (d : Dc) (j : Nat) (kind : Int) (u : ByteArray) : Int → Dc → Prop where
 | full (h : 64 ≤ d.revs.length) : RevertR d j kind u 18 d
 | fails (h : d.revs.length < 64) (cur r p : Rv) (hc : curR d cur) (hr : d.revs[j]? = some r) (hp : d.revs[j - 1]? = some p) (c : Int) (x : List Trk.Clip) (hm : MergeR r.t cur.t p.t c x) (hz : c ≠ 0) : RevertR d j kind u c d
 | done (h : d.revs.length < 64) (cur r p : Rv) (hc : curR d cur) (hr : d.revs[j]? = some r) (hp : d.revs[j - 1]? = some p) (x : List Trk.Clip) (hm : MergeR r.t cur.t p.t 0 x) : RevertR d j kind u 0 { d with revs := (d.revs ++ [(⟨kind, u, (j : Int), false, x⟩ : Rv)]).set j { r with back := true } }
set_option maxRecDepth 100000 in
set_option maxHeartbeats 16000000 in
theorem revert_any {L : Int} (g o m : Nat) (d : Dc) (j : Nat) (kind : Int) (u : ByteArray) (w : World) (h : PD w g o m d) (hR : RvsOK L d.revs) (j0 : 1 ≤ j) (j1 : j < d.revs.length) (hL : L ≤ 140737488355328) :
  Calls Tryz.prog 167 #[.pointer (some ⟨g, o, none⟩), .int .i64 (j : Int), .int .i64 kind, .string u] w (PtrPost w g o d (RevertR d j kind u)) := by
 have HP := Lib.hid h
 have HM0 := Lib.hid h.m0
 have HRR := Lib.hid hR
 have hn0 := HRR.out.l0
 have hn1 := HRR.out.l1
 obtain ⟨k, hk⟩ : ∃ k, d.revs.length = k + 1 := ⟨d.revs.length - 1, by omega⟩
 obtain ⟨cur, hcur⟩ : ∃ cur, d.revs[k]? = some cur := ⟨_, List.getElem?_eq_getElem (by omega)⟩
 obtain ⟨i, hi⟩ : ∃ i, j = i + 1 := ⟨j - 1, by omega⟩
 obtain ⟨r, hr⟩ : ∃ r, d.revs[j]? = some r := ⟨_, List.getElem?_eq_getElem j1⟩
 obtain ⟨p, hp⟩ : ∃ p, d.revs[i]? = some p := ⟨_, List.getElem?_eq_getElem (by omega)⟩
 obtain ⟨rv, hcd, hrs⟩ := HP.out.r
 obtain ⟨rb, ro, rc, cv, hrv, hcc, hct⟩ := hrs.nth hr
 obtain ⟨rb2, ro2, rc2, pv, hrv2, hcc2, hpt⟩ := hrs.nth hp
 rw [hrv] at hrv2
 simp only [Value.slice.injEq, Option.some.injEq, Addr.mk.injEq, and_true, true_and] at hrv2
 obtain ⟨⟨rfl, rfl⟩, rfl⟩ := hrv2
 rw [hk] at hrv
 have d3 : w.cell? ⟨g, o + 3, none⟩ = some rv := hcd 3 _ rfl
 have e4 : w.cell? ⟨rb, ro + j * 5 + 4, none⟩ = some cv := hcc 4 _ rfl
 have f4 : w.cell? ⟨rb, ro + i * 5 + 4, none⟩ = some pv := hcc2 4 _ rfl
 subst hrv
 obtain ⟨ba, bc, hbv, -⟩ := hct.get
 obtain ⟨bn, hbn⟩ : ∃ n, n = r.t.length := ⟨_, rfl⟩
 rw [← hbn] at hbv
 subst hbv
 obtain ⟨pa, pc, hpv, -⟩ := hpt.get
 obtain ⟨pn, hpn⟩ : ∃ n, n = p.t.length := ⟨_, rfl⟩
 rw [← hpn] at hpv
 subst hpv
 have HRV := Lib.hid hct.get
 have HPV := Lib.hid hpt.get
 have HRJ := Lib.hid (And.intro hr hp)
 have HK := Lib.hid hk
 have HCUR := Lib.hid hcur
 have HIJ := Lib.hid (show 1 ≤ j ∧ j < k + 1 ∧ j = i + 1 ∧ k < 64 from ⟨j0, by omega, hi, by omega⟩)
 have CU := Lib.hid (fun w (h : PD w g o m d) => current_any g o m d cur w h k HK.out HCUR.out)
 have MG := Lib.hid (fun v2 w (h1 : Tk w (.slice ba bn bc) r.t) (h2 : Tk w v2 cur.t) (h3 : Tk w (.slice pa pn pc) p.t) => merge_any (.slice ba bn bc) v2 (.slice pa pn pc) r.t cur.t p.t w h1 h2 h3 (HRR.out.v r (List.mem_of_getElem? hr)).1 (HRR.out.v cur (List.mem_of_getElem? hcur)).1 (HRR.out.v p (List.mem_of_getElem? hp)).1 hL)
 have HS4 := Lib.hid (And.intro d3 (And.intro e4 f4))
 clear h hR hcd hrs hcc hcc2 hct hpt hbn hpn hk hcur hr hp j0 j1 hi hn0 hn1 e4 f4
 go_enter Tryz.func167, Tryz.ntmps167
 go_upto_region 1 with fail
 by_cases hfull : k = 63
 ·subst hfull
  go_wp2_with fail
  go_ret
  exact ⟨18, d, rfl, .full (by rw [HK.out]; omega), .inl ⟨rfl, Below.refl _ _⟩⟩
 have hnf : ¬ 64 ≤ (k : Int) + 1 := by have := HIJ.out; omega
 have HNF := Lib.hid (show k + 1 < 64 by have := HIJ.out; omega)
 have hkk : ((k : Int) + 1) ≤ 9223372036854775807 := by have := HNF.out; omega
 go_upto_region 3 with fail
 clear hfull hnf hkk d3
 have HQ := Lib.hid (show (¬ ((j : Int) < 0) ∧ (j : Int) < ((k + 1 : Nat) : Int)) ∧ (¬ ((i : Int) < 0) ∧ (i : Int) < ((k + 1 : Nat) : Int)) ∧ (j : Int) - 1 = (i : Int) ∧ (i : Int) ≤ 9223372036854775807 from ⟨⟨by omega, by have := HIJ.out; omega⟩, ⟨by omega, by have := HIJ.out; omega⟩, by have := HIJ.out; omega, by have := HIJ.out; omega⟩)
 refine Plan.wp_region_plan (fun w' => Below w.heap.size w w') (([0, 1, 2, 3, 4, 5, 6, 7, 8, 10, 11, 12, 13, 14, 15, 16, 17, 18].map (·, true)) ++ (([9, 19].map (·, false)) ++ ([20, 21, 22, 23, 24].map (·, true)))) (by kernel_rfl) (by kernel_rfl) (by kernel_rfl) (Below.refl _ _).drew ?_
 refine' Plan.plan_seg _ [0, 1, 2, 3, 4, 5, 6, 7, 8, 10, 11, 12, 13, 14, 15, 16, 17, 18] (([9, 19].map (·, false)) ++ ([20, 21, 22, 23, 24].map (·, true))) (by kernel_rfl) (by kernel_rfl) rfl (by exact (Below.refl _ _).drew) (fun wx hS => ?_) ?_
 rotate_left
 ·have d3 := (hS.cell (p := ⟨g, o + 3, none⟩) (block_lt_of_cell HS4.out.1)).trans HS4.out.1
  have e4 := (hS.cell (p := ⟨rb, ro + j * 5 + 4, none⟩) (block_lt_of_cell HS4.out.2.1)).trans HS4.out.2.1
  have f4 := (hS.cell (p := ⟨rb, ro + i * 5 + 4, none⟩) (block_lt_of_cell HS4.out.2.2)).trans HS4.out.2.2
  obtain ⟨⟨hq0, hq1⟩, ⟨hq2, hq3⟩, hq4, hq5⟩ := HQ.out
  clear hS
  go_light
  iterate 18 (apply Plan.seg_pick; rfl; intro K hK; go_wp)
  exact Plan.seg_nil
 have hb : Below w.heap.size w w.drew := (Below.refl _ _).drew
 replace HRV := Lib.hid (HRV.out.below hb)
 replace HPV := Lib.hid (HPV.out.below hb)
 replace HP := Lib.hid (HP.out.below hb)
 have HB := Lib.hid hb
 clear hb
 refine Plan.plan_of_effect rfl (fun K hK => ?_)
 go_wp2_with fail
 refine (CU.out _ HP.out).mono ?_
 rintro e w6 ⟨⟨cv2, rfl, hcv⟩, hb⟩
 have HCV := Lib.hid (hcv.get.below hb)
 replace HRV := Lib.hid (HRV.out.below hb)
 replace HPV := Lib.hid (HPV.out.below hb)
 replace HP := Lib.hid (HP.out.below hb)
 replace HB := Lib.hid (HB.out.trans (hb.mono HB.out.size))
 clear hb hcv
 go_wp2_with fail
 refine ⟨HB.out, ?_⟩
 refine Plan.plan_of_effect rfl (fun K hK => ?_)
 go_wp2_with fail
 refine (MG.out _ _ HRV.out HCV.out HPV.out).mono ?_
 rintro e w7 ⟨xv, code, x, rfl, ho, hb, hmr⟩
 have HG7 := Lib.hid (show g < w6.heap.size from HP.out.g0)
 replace HP := Lib.hid (HP.out.below hb)
 replace HB := Lib.hid (HB.out.trans (hb.mono HB.out.size))
 have HMR := Lib.hid hmr
 obtain ⟨xa, xc, hxv, -⟩ := ho.tk
 obtain ⟨xn, hxn⟩ : ∃ n, n = x.length := ⟨_, rfl⟩
 rw [← hxn] at hxv
 subst hxv
 have HO := Lib.hid ho
 clear hb ho hxn hmr
 go_wp2_with fail
 refine ⟨HB.out, ?_⟩
 refine' Plan.plan_seg _ [20, 21, 22, 23, 24] [] (by kernel_rfl) (by kernel_rfl) rfl (by exact HB.out) (fun wx hS => ?_) ?_
 rotate_left
 ·clear hS
  go_light
  iterate 5 (apply Plan.seg_pick; rfl; intro K hK; go_wp)
  exact Plan.seg_nil
 refine Plan.plan_done ?_
 clear CU MG HCV HRV HPV HS4 HQ
 by_cases hz : code = 0
 ·subst hz
  obtain ⟨R, hR⟩ : ∃ R : Rv, R = ⟨kind, u, (j : Int), false, x⟩ := ⟨_, rfl⟩
  have HRE := Lib.hid hR
  have hRt : R.t = x := by rw [hR]
  have AD := Lib.hid (addrev_any g o m d R (.slice xa xn xc) w7 HP.out (by intro h; have := HK.out; rw [h] at this; simp at this) (by have := HK.out; have := HNF.out; omega) (by rw [hRt]; exact HO.out.ts HG7.out))
  rw [hR] at AD
  unfold revL at AD
  dsimp only at AD
  rw [← hR] at AD
  clear hR hRt
  go_upto_region 6 with fail
  go_wp2_with fail
  refine AD.out.mono ?_
  rintro e w8 ⟨rfl, q, cap, hq, hbb, hor⟩
  have hc7 : ∃ old, w7.cell? ⟨g, o + 3, none⟩ = some old := by
   obtain ⟨rv, hcd, -⟩ := HP.out.r
   exact ⟨_, hcd 3 _ rfl⟩
  obtain ⟨old, hc7⟩ := hc7
  have hl : d.revs.length + 1 = k + 1 + 1 := by rw [HK.out]
  have hd8 : w8.cell? ⟨g, o + 3, none⟩ = some (.slice (some ⟨q, 0, none⟩) (k + 1 + 1) cap) := by
   have h1 := hbb.cell (p := ⟨g, o + 3, none⟩) HP.out.g0
   rw [h1, ← hl]
   simp [go_sem, hc7, HP.out.f]
  have hrj : (d.revs ++ [R])[j]? = some r := by rw [List.getElem?_append_left (by rw [HK.out]; exact HIJ.out.2.1)]; exact HRJ.out.1
  obtain ⟨uu, hru, -⟩ := hor.cells hrj
  have he8 : w8.cell? ⟨q, j * 5 + 3, none⟩ = some (.bool r.back) := hru 3 _ rfl
  have hf8 := hor.frozen (j * 5 + 3)
  have HOR := Lib.hid (hor.setBack hrj true)
  have HBB := Lib.hid (And.intro hq hbb)
  have hq0 : ¬ ((j : Int) < 0) := by omega
  have hq1 : (j : Int) < ((k + 1 + 1 : Nat) : Int) := by have := HIJ.out; omega
  have hq2 : (j : Int) < (k : Int) + 1 + 1 := by have := HIJ.out; omega
  clear hq hbb hor hrj hru hc7 hl AD
  go_wp2_with fail
  go_ret
  refine ⟨0, _, rfl, .done (by have := HK.out; have := HNF.out; omega) cur r p (by unfold curR; rw [HK.out]; exact HCUR.out) HRJ.out.1 (by have := HIJ.out.2.2.1; rw [this]; exact HRJ.out.2) x HMR.out, .inr ⟨q, cap, _, rfl, Nat.le_trans HB.out.size HBB.out.1, ?_, ?_⟩⟩
  ·rw [← HRE.out, List.length_set, List.length_append, List.length_singleton]
   have := below_setCells q (Nat.le_trans HB.out.size HBB.out.1) [.bool true] (j * 5 + 3) _ ((below_set_both HB.out ⟨g, o + 3, none⟩ (.slice (some ⟨q, 0, none⟩) (d.revs.length + 1) cap)).trans (HBB.out.2.mono HB.out.size))
   simpa only [World.setCells] using this
  ·have := HOR.out.top
   rw [← HRE.out]
   exact this
 ·have hz2 : decide (code = 0) = false := decide_eq_false hz
  have HZ := Lib.hid hz
  go_wp2_with fail
  go_ret
  exact ⟨code, d, rfl, .fails (by have := HK.out; have := HNF.out; omega) cur r p (by unfold curR; rw [HK.out]; exact HCUR.out) HRJ.out.1 (by have := HIJ.out.2.2.1; rw [this]; exact HRJ.out.2) code x HMR.out HZ.out, .inl ⟨rfl, HB.out⟩⟩
theorem Chg.from {w w1 w2 : World} {g o : Nat} {d d' : Dc} (hb : Below w.heap.size w w1) (h : Chg w1 g o d d' w2) : Chg w g o d d' w2 := by
 rcases h with ⟨e, h⟩ | ⟨q, cap, rs, e, hq, hbb, ho⟩
 ·exact .inl ⟨e, hb.trans (h.mono hb.size)⟩
 ·exact .inr ⟨q, cap, rs, e, Nat.le_trans hb.size hq, (below_set_both hb _ _).trans (hbb.mono hb.size), ho⟩
def openB (d : Dc) (u : ByteArray) (j : Nat) : Bool := match d.revs[j]? with
 | some r => changedB r u && !r.back
 | none => false
inductive UndoR (d : Dc) (u : ByteArray) : Int → Dc → Prop where
 | locked (h : Held d u) : UndoR d u 11 d
 | none (h : ¬ Held d u) (hn : ∀ j, 1 ≤ j → openB d u j = false) : UndoR d u 13 d
 | some (h : ¬ Held d u) (j : Nat) (j0 : 1 ≤ j) (j1 : j < d.revs.length) (ho : openB d u j = true) (hn : ∀ i, j < i → openB d u i = false) (code : Int) (d' : Dc) (hr : RevertR d j 4 u code d') : UndoR d u code d'
theorem openB_out {d : Dc} {u : ByteArray} {j : Nat} (h : d.revs.length ≤ j) : openB d u j = false := by
 unfold openB
 rw [List.getElem?_eq_none h]
set_option maxRecDepth 100000 in
set_option maxHeartbeats 16000000 in
theorem undo_any {L : Int} (g o m : Nat) (d : Dc) (u : ByteArray) (w : World) (h : PD w g o m d) (hd : ownOK d) (hR : RvsOK L d.revs) (hL : L ≤ 140737488355328) :
  Calls Tryz.prog 149 #[.pointer (some ⟨g, o, none⟩), .string u] w (PtrPost w g o d (UndoR d u)) := by
 have HP := Lib.hid h
 have HD := Lib.hid hd
 have HRR := Lib.hid hR
 have hn0 := hR.l0
 have hn1 := hR.l1
 obtain ⟨k, hk⟩ : ∃ k, d.revs.length = k + 1 := ⟨d.revs.length - 1, by omega⟩
 have HK := Lib.hid hk
 have HNK := Lib.hid (show k < 64 by omega)
 obtain ⟨rv, hcd, hrs⟩ := HP.out.r
 obtain ⟨c0, hc0⟩ : ∃ c0, d.revs[k]? = some c0 := ⟨_, List.getElem?_eq_getElem (by omega)⟩
 obtain ⟨rb, ro, rc, cv, hrv, -, -⟩ := hrs.nth hc0
 rw [hk] at hrv
 have d3 : w.cell? ⟨g, o + 3, none⟩ = some rv := hcd 3 _ rfl
 subst hrv
 have HN := Lib.hid (fun (j : Nat) (r : Rv) (hj : d.revs[j]? = some r) => show ∃ tv, w.rangeAt rb (ro + j * 5) (revL r tv) ∧ Tk w tv r.t by
  obtain ⟨rb2, ro2, rc2, pv, hrv2, hcc2, hpt⟩ := hrs.nth hj
  simp only [Value.slice.injEq, Option.some.injEq, Addr.mk.injEq, and_true, true_and] at hrv2
  obtain ⟨⟨rfl, rfl⟩, -⟩ := hrv2
  exact ⟨pv, hcc2, hpt.get⟩)
 have HD3 := Lib.hid d3
 clear h hd hR hcd hrs hc0 hn0 hn1 hk
 go_enter Tryz.func149, Tryz.ntmps149
 go_wp2_with fail
 refine (locked_any g o m d u w HP.out HD.out).mono ?_
 rintro e w2 ⟨rfl, rfl⟩
 by_cases hlk : Held d u
 ·rw [decide_eq_true hlk]
  have HLK := Lib.hid hlk
  clear hlk
  go_wp2_with fail
  go_ret
  exact ⟨11, d, rfl, .locked HLK.out, .inl ⟨rfl, Below.refl _ _⟩⟩
 rw [decide_eq_false hlk]
 have HLK := Lib.hid hlk
 clear hlk
 have hkk : ((k : Int) + 1) ≤ 9223372036854775807 := by have := HNK.out; omega
 go_upto_region 4 with fail
 clear hkk d3
 go_loopw [5] (fun i wr => ∃ c : Nat, c < k + 1 ∧ i = .int .i64 (c : Int) ∧ Below w2.heap.size w2 wr ∧ ∀ j, c < j → openB d u j = false) (fun i _ => (intOf i).toNat)
 case atStart => exact ⟨k, by omega, rfl, Below.refl _ _, fun j hj => openB_out (by have := HK.out; omega)⟩
 case round =>
  obtain ⟨c, hc, rfl, hb, hno⟩ := hrel
  have HB := Lib.hid hb
  have HNO := Lib.hid hno
  have HC := Lib.hid hc
  clear hb hno hc
  by_cases hc0 : c = 0
  ·subst hc0
   go_wp2_with fail
   go_ret
   exact ⟨13, d, rfl, .none HLK.out (fun j hj => HNO.out j (by omega)), .inl ⟨rfl, HB.out⟩⟩
  have hpos : 0 < (c : Int) := by omega
  obtain ⟨r, hr⟩ : ∃ r, d.revs[c]? = some r := ⟨_, List.getElem?_eq_getElem (by have := HK.out; have := HC.out; omega)⟩
  obtain ⟨tv, hrt, htk⟩ := HN.out c r hr
  have HRT := Lib.hid (rangeAt_below hrt (by simp [revL]) HB.out)
  have HTO := Lib.hid htk.one
  have HRC := Lib.hid hr
  have hd3 := (HB.out.cell (p := ⟨g, o + 3, none⟩) (block_lt_of_cell HD3.out)).trans HD3.out
  have hbk : wr.cell? ⟨rb, ro + c * 5 + 3, none⟩ = some (.bool r.back) := HRT.out 3 _ rfl
  have hq1 : (c : Int) < ((k + 1 : Nat) : Int) := by have := HC.out; omega
  have hq0 : ¬ ((c : Int) < 0) := by omega
  have HC0 := Lib.hid hc0
  clear hrt htk hr hc0
  go_upto_region 6 with fail
  apply wp_region_lit
  iterate 18 go_step
  refine wpl_loadR HRT.out rfl rfl rfl ?_
  go_wp2_with fail
  refine (changed_any r tv u wr HTO.out).mono ?_
  rintro e w4 ⟨rfl, hb⟩
  replace hd3 := (hb.cell (p := ⟨g, o + 3, none⟩) (block_lt_of_cell hd3)).trans hd3
  replace hbk := (hb.cell (p := ⟨rb, ro + c * 5 + 3, none⟩) (block_lt_of_cell hbk)).trans hbk
  replace HB := Lib.hid (HB.out.trans (hb.mono HB.out.size))
  clear hb HRT
  have HOB := Lib.hid (show openB d u c = (changedB r u && !r.back) by unfold openB; rw [HRC.out])
  obtain ⟨B, hB⟩ : ∃ B, B = changedB r u := ⟨_, rfl⟩
  rw [← hB] at HOB ⊢
  clear hB
  obtain ⟨e1, he1⟩ : ∃ e1 : Nat, c = e1 + 1 := ⟨c - 1, by have := HC0.out; omega⟩
  have hs1 : (c : Int) - 1 = (e1 : Int) := by omega
  have hs2 : (e1 : Int) ≤ 9223372036854775807 := by have := HC.out; have := HNK.out; omega
  have HE1 := Lib.hid he1
  clear he1
  cases B with
  | false =>
   go_wp2_with fail
   refine ⟨⟨e1, by have := HC.out; have := HE1.out; omega, rfl, HB.out, fun j hj => ?_⟩, by have := HE1.out; simp [intOf]; omega⟩
   by_cases hjc : j = c
   ·rw [hjc, HOB.out]
    rfl
   ·exact HNO.out j (by have := HE1.out; omega)
  | true =>
   obtain ⟨kd, by2, bs2, bk, tt⟩ := r
   dsimp only at hbk HOB
   cases bk with
   | true =>
    go_wp2_with fail
    refine ⟨⟨e1, by have := HC.out; have := HE1.out; omega, rfl, HB.out, fun j hj => ?_⟩, by have := HE1.out; simp [intOf]; omega⟩
    by_cases hjc : j = c
    ·rw [hjc, HOB.out]
     rfl
    ·exact HNO.out j (by have := HE1.out; omega)
   | false =>
    go_wp2_with fail
    have HRJ := Lib.hid (revert_any g o m d c 4 u w4 (HP.out.below HB.out) HRR.out (by have := HC0.out; omega) (by have := HK.out; have := HC.out; omega) hL)
    refine HRJ.out.mono ?_
    rintro e w5 ⟨code, d', rfl, hrv, hch⟩
    have HV := Lib.hid hrv
    have HCH := Lib.hid (Chg.from HB.out hch)
    clear hrv hch HRJ
    go_wp2_with fail
    go_ret
    exact ⟨code, d', rfl, .some HLK.out c (by have := HC0.out; omega) (by have := HK.out; have := HC.out; omega) (by rw [HOB.out]; rfl) HNO.out code d' HV.out, HCH.out⟩
def takeB (d : Dc) (u : ByteArray) (j : Nat) : Bool := match d.revs[j]? with
 | some r => decide (r.kind = 4) && decide (r.by_ = u) && !r.back
 | none => false
def hitB (d : Dc) (u : ByteArray) (j : Nat) : Bool := match d.revs[j]? with
 | some r => changedB r u
 | none => false
def skipB (d : Dc) (u : ByteArray) (j : Nat) : Bool := !hitB d u j && !takeB d u j
def unback (d : Dc) (b : Nat) : Dc := match d.revs[b]? with
 | some r => { d with revs := d.revs.set b { r with back := false } }
 | none => d
inductive RedoR (d : Dc) (u : ByteArray) : Int → Dc → Prop where
 | locked (h : Held d u) : RedoR d u 11 d
 | none (h : ¬ Held d u) (hn : ∀ j, 1 ≤ j → skipB d u j = true) : RedoR d u 13 d
 | hit (h : ¬ Held d u) (j : Nat) (j0 : 1 ≤ j) (ho : hitB d u j = true) (hn : ∀ i, j < i → skipB d u i = true) : RedoR d u 13 d
 | fails (h : ¬ Held d u) (j : Nat) (j0 : 1 ≤ j) (j1 : j < d.revs.length) (hh : hitB d u j = false) (ho : takeB d u j = true) (hn : ∀ i, j < i → skipB d u i = true) (code : Int) (d' : Dc) (hz : code ≠ 0) (hr : RevertR d j 5 u code d') : RedoR d u code d'
 | done (h : ¬ Held d u) (j : Nat) (j0 : 1 ≤ j) (j1 : j < d.revs.length) (hh : hitB d u j = false) (ho : takeB d u j = true) (hn : ∀ i, j < i → skipB d u i = true) (d' : Dc) (hr : RevertR d j 5 u 0 d') (r : Rv) (hj : d.revs[j]? = some r) (b : Nat) (hb : r.base = (b : Int)) : RedoR d u 0 (unback d' b)
theorem skipB_out {d : Dc} {u : ByteArray} {j : Nat} (h : d.revs.length ≤ j) : skipB d u j = true := by
 unfold skipB hitB takeB
 rw [List.getElem?_eq_none h]
 rfl
theorem RevertR.zero_len {d d' : Dc} {j : Nat} {kind code : Int} {u : ByteArray} (h : RevertR d j kind u code d') (hz : code = 0) : d'.revs.length = d.revs.length + 1 := by
 cases h with
 | full h => omega
 | fails h cur r p hc hr hp c x hm hz' => exact absurd hz hz'
 | done h cur r p hc hr hp x hm => simp
set_option maxRecDepth 100000 in
set_option maxHeartbeats 16000000 in
theorem redo_any {L : Int} (g o m : Nat) (d : Dc) (u : ByteArray) (w : World) (h : PD w g o m d) (hd : ownOK d) (hR : RvsOK L d.revs) (hB : ∀ (j : Nat) (r : Rv), d.revs[j]? = some r → r.kind = 4 → 0 ≤ r.base ∧ r.base < (j : Int)) (hL : L ≤ 140737488355328) :
  Calls Tryz.prog 150 #[.pointer (some ⟨g, o, none⟩), .string u] w (PtrPost w g o d (RedoR d u)) := by
 have HP := Lib.hid h
 have HD := Lib.hid hd
 have HRR := Lib.hid hR
 have HBS := Lib.hid hB
 have hn0 := hR.l0
 have hn1 := hR.l1
 obtain ⟨k, hk⟩ : ∃ k, d.revs.length = k + 1 := ⟨d.revs.length - 1, by omega⟩
 have HK := Lib.hid hk
 have HNK := Lib.hid (show k < 64 by omega)
 obtain ⟨rv, hcd, hrs⟩ := HP.out.r
 obtain ⟨c0, hc0⟩ : ∃ c0, d.revs[k]? = some c0 := ⟨_, List.getElem?_eq_getElem (by omega)⟩
 obtain ⟨rb, ro, rc, cv, hrv, -, -⟩ := hrs.nth hc0
 rw [hk] at hrv
 have d3 : w.cell? ⟨g, o + 3, none⟩ = some rv := hcd 3 _ rfl
 subst hrv
 have HN := Lib.hid (fun (j : Nat) (r : Rv) (hj : d.revs[j]? = some r) => show ∃ tv, w.rangeAt rb (ro + j * 5) (revL r tv) ∧ Tk w tv r.t by
  obtain ⟨rb2, ro2, rc2, pv, hrv2, hcc2, hpt⟩ := hrs.nth hj
  simp only [Value.slice.injEq, Option.some.injEq, Addr.mk.injEq, and_true, true_and] at hrv2
  obtain ⟨⟨rfl, rfl⟩, -⟩ := hrv2
  exact ⟨pv, hcc2, hpt.get⟩)
 have HD3 := Lib.hid d3
 clear h hd hR hB hcd hrs hc0 hn0 hn1 hk
 go_enter Tryz.func150, Tryz.ntmps150
 go_wp2_with fail
 refine (locked_any g o m d u w HP.out HD.out).mono ?_
 rintro e w2 ⟨rfl, rfl⟩
 by_cases hlk : Held d u
 ·rw [decide_eq_true hlk]
  have HLK := Lib.hid hlk
  clear hlk
  go_wp2_with fail
  go_ret
  exact ⟨11, d, rfl, .locked HLK.out, .inl ⟨rfl, Below.refl _ _⟩⟩
 rw [decide_eq_false hlk]
 have HLK := Lib.hid hlk
 clear hlk
 have hkk : ((k : Int) + 1) ≤ 9223372036854775807 := by have := HNK.out; omega
 go_upto_region 4 with fail
 clear hkk d3
 go_loopw [5] (fun i wr => ∃ c : Nat, c < k + 1 ∧ i = .int .i64 (c : Int) ∧ Below w2.heap.size w2 wr ∧ ∀ j, c < j → skipB d u j = true) (fun i _ => (intOf i).toNat)
 case atStart => exact ⟨k, by omega, rfl, Below.refl _ _, fun j hj => skipB_out (by have := HK.out; omega)⟩
 case round =>
  obtain ⟨c, hc, rfl, hb, hno⟩ := hrel
  have HB := Lib.hid hb
  have HNO := Lib.hid hno
  have HC := Lib.hid hc
  clear hb hno hc
  by_cases hc0 : c = 0
  ·subst hc0
   go_wp2_with fail
   go_ret
   exact ⟨13, d, rfl, .none HLK.out (fun j hj => HNO.out j (by omega)), .inl ⟨rfl, HB.out⟩⟩
  have hpos : 0 < (c : Int) := by omega
  obtain ⟨r, hr⟩ : ∃ r, d.revs[c]? = some r := ⟨_, List.getElem?_eq_getElem (by have := HK.out; have := HC.out; omega)⟩
  obtain ⟨tv, hrt, htk⟩ := HN.out c r hr
  have HRT := Lib.hid (rangeAt_below hrt (by simp [revL]) HB.out)
  have HRC := Lib.hid hr
  have hd3 := (HB.out.cell (p := ⟨g, o + 3, none⟩) (block_lt_of_cell HD3.out)).trans HD3.out
  have hq1 : (c : Int) < ((k + 1 : Nat) : Int) := by have := HC.out; omega
  have hq0 : ¬ ((c : Int) < 0) := by omega
  have HC0 := Lib.hid hc0
  obtain ⟨ta, tc, htv, -⟩ := htk
  obtain ⟨tn, htn⟩ : ∃ n, n = r.t.length := ⟨_, rfl⟩
  rw [← htn] at htv
  subst htv
  have CH := Lib.hid (fun w => changed_any r (.slice ta tn tc) u w rfl)
  have HOB := Lib.hid (show hitB d u c = changedB r u by unfold hitB; rw [HRC.out])
  have HTB := Lib.hid (show takeB d u c = (decide (r.kind = 4) && decide (r.by_ = u) && !r.back) by unfold takeB; rw [HRC.out])
  obtain ⟨B, hB⟩ : ∃ B, B = changedB r u := ⟨_, rfl⟩
  rw [← hB] at HOB CH
  have HBASE := Lib.hid (HBS.out c r HRC.out)
  obtain ⟨kd, by2, bs2, bk, tt⟩ := r
  dsimp only at HTB HBASE CH
  unfold revL at HRT CH
  dsimp only at HRT CH
  clear hrt hr hc0 hB htn
  go_upto_region 6 with fail
  apply wp_region_lit
  iterate 18 go_step
  refine wpl_loadR (r := ⟨kd, by2, bs2, bk, tt⟩) HRT.out rfl rfl rfl ?_
  unfold revL
  go_upto_region 7 with fail
  obtain ⟨w3, hw3⟩ : ∃ y, y = wr.alloc (.cells #[.int .i64 kd, .string by2, .int .i64 bs2, .bool bk, .slice ta tn tc] 67) := ⟨_, rfl⟩
  obtain ⟨b6, hb6⟩ : ∃ y, y = wr.heap.size := ⟨_, rfl⟩
  have hb : Below wr.heap.size wr w3 := by rw [hw3]; exact below_box _ _
  have r0 : w3.cell? ⟨b6, 0, none⟩ = some (.int .i64 kd) := by rw [hw3, hb6]; simp [go_sem]
  have r1 : w3.cell? ⟨b6, 1, none⟩ = some (.string by2) := by rw [hw3, hb6]; simp [go_sem]
  have r2 : w3.cell? ⟨b6, 2, none⟩ = some (.int .i64 bs2) := by rw [hw3, hb6]; simp [go_sem]
  have r3 : w3.cell? ⟨b6, 3, none⟩ = some (.bool bk) := by rw [hw3, hb6]; simp [go_sem]
  have r4 : w3.cell? ⟨b6, 4, none⟩ = some (.slice ta tn tc) := by rw [hw3, hb6]; simp [go_sem]
  have HG6 := Lib.hid (show g < b6 by rw [hb6]; exact Nat.lt_of_lt_of_le HP.out.g0 HB.out.size)
  rw [← hw3, ← hb6]
  replace HB := Lib.hid (HB.out.trans (hb.mono HB.out.size))
  clear hb hw3 hb6 hd3 HRT
  go_wp2_with fail
  refine (CH.out w3).mono ?_
  rintro e w4 ⟨rfl, hb⟩
  replace r0 := (hb.cell (p := ⟨b6, 0, none⟩) (block_lt_of_cell r0)).trans r0
  replace r1 := (hb.cell (p := ⟨b6, 1, none⟩) (block_lt_of_cell r1)).trans r1
  replace r2 := (hb.cell (p := ⟨b6, 2, none⟩) (block_lt_of_cell r2)).trans r2
  replace r3 := (hb.cell (p := ⟨b6, 3, none⟩) (block_lt_of_cell r3)).trans r3
  replace HB := Lib.hid (HB.out.trans (hb.mono HB.out.size))
  clear hb r4 CH
  obtain ⟨e1, he1⟩ : ∃ e1 : Nat, c = e1 + 1 := ⟨c - 1, by have := HC0.out; omega⟩
  have hs1 : (c : Int) - 1 = (e1 : Int) := by omega
  have hs2 : (e1 : Int) ≤ 9223372036854775807 := by have := HC.out; have := HNK.out; omega
  have HE1 := Lib.hid he1
  clear he1
  cases B with
  | true =>
   go_wp2_with fail
   go_ret
   exact ⟨13, d, rfl, .hit HLK.out c (by have := HC0.out; omega) HOB.out HNO.out, .inl ⟨rfl, HB.out⟩⟩
  | false =>
   by_cases hk4 : kd = 4
   ·subst hk4
    by_cases hu : by2 = u
    ·subst hu
     cases bk with
     | true =>
      go_wp2_with fail
      refine ⟨⟨e1, by have := HC.out; have := HE1.out; omega, rfl, HB.out, fun j hj => ?_⟩, by have := HE1.out; simp [intOf]; omega⟩
      by_cases hjc : j = c
      ·rw [hjc]
       unfold skipB
       rw [HOB.out, HTB.out]
       simp
      ·exact HNO.out j (by have := HE1.out; omega)
     | false =>
      go_wp2_with fail
      have HRJ := Lib.hid (revert_any g o m d c 5 by2 w4 (HP.out.below HB.out) HRR.out (by have := HC0.out; omega) (by have := HK.out; have := HC.out; omega) hL)
      have HR2 := Lib.hid r2
      clear r0 r1 r2 r3 hpos hq1 hq0 hs1 hs2
      refine HRJ.out.mono ?_
      rintro e w5 ⟨code, d', rfl, hrv, hch⟩
      have HV := Lib.hid hrv
      have HCH := Lib.hid hch
      clear hrv hch HRJ
      by_cases hz : code = 0
      ·subst hz
       obtain ⟨q, cap, rs, hd', hq, hbb, hor⟩ : ∃ q cap rs, d' = { d with revs := rs } ∧ w4.heap.size ≤ q ∧ Below w4.heap.size (w4.setCell ⟨g, o + 3, none⟩ (.slice (some ⟨q, 0, none⟩) rs.length cap)) w5 ∧ OR w5 q cap q g rs := by
        rcases HCH.out with ⟨e, -⟩ | h
        ·exfalso
         have h1 := HV.out
         rw [e] at h1
         have h2 := h1.zero_len rfl
         omega
        ·exact h
       have hlen : rs.length = k + 1 + 1 := by
        have h2 := HV.out.zero_len rfl
        rw [hd'] at h2
        dsimp only at h2
        have := HK.out
        omega
       obtain ⟨bb, hbb2⟩ : ∃ bb : Nat, bs2 = (bb : Int) := ⟨bs2.toNat, by have := (HBASE.out (by trivial)).1; omega⟩
       have hbc := (HBASE.out (by trivial)).2
       subst hbb2
       have hbl : bb < rs.length := by have := HC.out; omega
       obtain ⟨rr, hrr⟩ : ∃ rr, rs[bb]? = some rr := ⟨_, List.getElem?_eq_getElem hbl⟩
       obtain ⟨uu, hru, -⟩ := hor.cells hrr
       have HW5 := Lib.hid (show w5.cell? ⟨g, o + 3, none⟩ = some (.slice (some ⟨q, 0, none⟩) (k + 1 + 1) cap) ∧ w5.cell? ⟨b6, 2, none⟩ = some (.int .i64 (bb : Int)) ∧ w5.cell? ⟨q, bb * 5 + 3, none⟩ = some (.bool rr.back) ∧ w5.frozen? ⟨q, bb * 5 + 3, none⟩ = false by
        refine ⟨?_, ?_, hru 3 _ rfl, hor.frozen _⟩
        ·have hP4 := HP.out.below HB.out
         obtain ⟨rv, hcd, -⟩ := hP4.r
         have h1 := hbb.cell (p := ⟨g, o + 3, none⟩) hP4.g0
         have h3 : w4.cell? ⟨g, o + 3, none⟩ = some rv := hcd 3 _ rfl
         rw [h1, ← hlen]
         simp [go_sem, h3]
        ·have h1 := hbb.cell (p := ⟨b6, 2, none⟩) (block_lt_of_cell HR2.out)
         rw [h1]
         have hne : b6 ≠ g := by have := HG6.out; omega
         have := World.cell?_of_block (a := ⟨b6, 2, none⟩) (setCells_other g b6 hne [.slice (some ⟨q, 0, none⟩) rs.length cap] (o + 3) w4)
         exact this.trans HR2.out)
       have HOR := Lib.hid (OR.setBack (w := w5.drew) (hor.on rfl (fun b hb => rfl)) hrr false)
       have HBB := Lib.hid (And.intro hq hbb)
       have HBI := Lib.hid (show ¬ ((bb : Int) < 0) ∧ (bb : Int) < ((k + 1 + 1 : Nat) : Int) from ⟨by omega, by have := HC.out; omega⟩)
       have HRS := Lib.hid (And.intro hd' hrr)
       clear hd' hq hbb hor hlen hbc hbl hrr hru HCH HBASE
       go_upto_region 12 with fail
       refine Plan.wp_region_planw (fun w' => Below w5.heap.size w5 w') 8 (([0, 1, 2, 3, 4, 5, 6, 7].map (·, true)) ++ ([8].map (·, false))) (by kernel_rfl) (by kernel_rfl) (by kernel_rfl) (Below.refl _ _).drew ?_
       refine' Plan.plan_seg _ [0, 1, 2, 3, 4, 5, 6, 7] [(8, false)] (by kernel_rfl) (by kernel_rfl) rfl (by exact (Below.refl _ _).drew) (fun wx hS => ?_) ?_
       rotate_left
       ·have s1 := (hS.cell (p := ⟨g, o + 3, none⟩) (block_lt_of_cell HW5.out.1)).trans HW5.out.1
        have s2 := (hS.cell (p := ⟨b6, 2, none⟩) (block_lt_of_cell HW5.out.2.1)).trans HW5.out.2.1
        obtain ⟨hi0, hi1⟩ := HBI.out
        clear hS
        go_light
        iterate 8 (apply Plan.seg_pick; rfl; intro K hK; go_wp)
        exact Plan.seg_nil
       have s3 : w5.drew.cell? ⟨q, bb * 5 + 3, none⟩ = some (.bool rr.back) := HW5.out.2.2.1
       have s4 : w5.drew.frozen? ⟨q, bb * 5 + 3, none⟩ = false := HW5.out.2.2.2
       obtain ⟨w6, hw6⟩ : ∃ y, y = w5.drew := ⟨_, rfl⟩
       rw [← hw6] at s3 s4 ⊢
       have HW6 := Lib.hid hw6
       clear hw6
       refine Plan.plan_of_last rfl (fun K hK => ?_)
       go_wp2_with fail
       refine Plan.plan_done ?_
       go_wp2_with fail
       go_ret
       refine ⟨0, unback d' bb, rfl, .done HLK.out c (by have := HC0.out; omega) (by have := HK.out; have := HC.out; omega) HOB.out (by rw [HTB.out]; simp) HNO.out d' HV.out _ HRC.out bb rfl, ?_⟩
       have hub : unback d' bb = { d with revs := rs.set bb { rr with back := false } } := by
        unfold unback
        rw [HRS.out.1]
        dsimp only
        rw [HRS.out.2]
       refine .inr ⟨q, cap, _, hub, Nat.le_trans HB.out.size HBB.out.1, ?_, ?_⟩
       ·rw [List.length_set]
        have h1 : Below w2.heap.size (w2.setCell ⟨g, o + 3, none⟩ (.slice (some ⟨q, 0, none⟩) rs.length cap)) w6 := by
         rw [HW6.out]
         exact ((below_set_both HB.out _ _).trans (HBB.out.2.mono HB.out.size)).drew
        have := below_setCells q (Nat.le_trans HB.out.size HBB.out.1) [.bool false] (bb * 5 + 3) _ h1
        simpa only [World.setCells] using this
       ·rw [HW6.out]
        exact HOR.out
      ·have HZ := Lib.hid hz
       have hz2 : decide (code = 0) = false := decide_eq_false hz
       have HCH2 := Lib.hid (Chg.from HB.out HCH.out)
       go_wp2_with fail
       go_ret
       exact ⟨code, d', rfl, .fails HLK.out c (by have := HC0.out; omega) (by have := HK.out; have := HC.out; omega) HOB.out (by rw [HTB.out]; simp) HNO.out code d' HZ.out HV.out, HCH2.out⟩
    ·have hu2 : decide (by2 = u) = false := decide_eq_false hu
     have hu3 := bytes_ne hu
     have HU := Lib.hid hu
     go_wp2_with fail
     refine ⟨⟨e1, by have := HC.out; have := HE1.out; omega, rfl, HB.out, fun j hj => ?_⟩, by have := HE1.out; simp [intOf]; omega⟩
     by_cases hjc : j = c
     ·rw [hjc]
      unfold skipB
      rw [HOB.out, HTB.out]
      simp [HU.out]
     ·exact HNO.out j (by have := HE1.out; omega)
   ·have hk5 : decide (kd = 4) = false := decide_eq_false hk4
    have HK4 := Lib.hid hk4
    go_wp2_with fail
    refine ⟨⟨e1, by have := HC.out; have := HE1.out; omega, rfl, HB.out, fun j hj => ?_⟩, by have := HE1.out; simp [intOf]; omega⟩
    by_cases hjc : j = c
    ·rw [hjc]
     unfold skipB
     rw [HOB.out, HTB.out]
     simp [HK4.out]
    ·exact HNO.out j (by have := HE1.out; omega)
theorem PtrPost.from {w w1 w2 : World} {g o : Nat} {d : Dc} {R : Int → Dc → Prop} {e : Ending} (hb : Below w.heap.size w w1) (h : PtrPost w1 g o d R e w2) : PtrPost w g o d R e w2 := by
 obtain ⟨c, d', e1, h1, h2⟩ := h
 exact ⟨c, d', e1, h1, h2.from hb⟩
def Chg2 (w : World) (g o : Nat) (d d' : Dc) (w' : World) : Prop :=
 Chg w g o d d' w' ∨ ∃ ow tl, d' = { d with owner := ow, till := tl } ∧ Below w.heap.size ((w.setCell ⟨g, o + 1, none⟩ (.string ow)).setCell ⟨g, o + 2, none⟩ (.int .i64 tl)) w'
def ChangePost (w : World) (g o : Nat) (d : Dc) (R : Int → Dc → Prop) (e : Ending) (w' : World) : Prop := ∃ code d', e = .returned (.int .i64 code) ∧ R code d' ∧ Chg2 w g o d d' w'
inductive LockR (d : Dc) (u : ByteArray) (t : Int) : Int → Dc → Prop where
 | locked (h : Held d u) : LockR d u t 11 d
 | done (h : ¬ Held d u) : LockR d u t 0 { d with owner := u, till := t }
inductive UnlockR (d : Dc) (u : ByteArray) : Int → Dc → Prop where
 | other (h : d.owner ≠ u) : UnlockR d u 13 d
 | done (h : d.owner = u) : UnlockR d u 0 { d with owner := ⟨#[]⟩, till := 0 }
set_option maxRecDepth 100000 in
set_option maxHeartbeats 8000000 in
theorem change_commit {L : Int} (g o m : Nat) (d : Dc) (u nm : ByteArray) (bs : Int) (ta : Option Addr) (tn tc : Nat) (t : List Trk.Clip) (now : Int) (w : World) (h : PD w g o m d) (hd : ownOK d) (hR : RvsOK L d.revs) (ht : Tk w (.slice ta tn tc) t) (Vt : VT L t) (hL : L ≤ 140737488355328) :
  Calls Tryz.prog 105 #[.pointer (some ⟨g, o, none⟩), .iface 150 (.agg #[.int .i64 4, .string u, .string nm, .int .i64 bs, .slice ta tn tc]), .int .i64 now] w (ChangePost w g o d (CommitR d u bs t)) := by
 have H := Lib.hid (fun (w1 : World) (hb : Below w.heap.size w w1) => commit_any g o m d u nm bs t (.slice ta tn tc) w1 (h.below hb) hd hR (ht.below hb) Vt hL)
 have m146 := ta_miss146 150 (by decide)
 have m148 := ta_miss148 150 (by decide)
 have m150 := ta_hit150
 clear h hd hR ht Vt
 go_enter Tryz.func105, Tryz.ntmps105
 go_wp2_with fail
 have hb0 : ∀ w1 w2 e, Below w.heap.size w w1 → PtrPost w1 g o d (CommitR d u bs t) e w2 → PtrPost w g o d (CommitR d u bs t) e w2 := fun w1 w2 e hb h => h.from hb
 refine (H.out _ (by go_grown)).mono ?_
 intro e w3 hp
 replace hp := hb0 _ _ _ (by go_grown) hp
 obtain ⟨code, d', rfl, hr, hc⟩ := hp
 have HRR := Lib.hid (And.intro hr hc)
 clear hr hc hb0 H
 go_wp2_with fail
 go_ret
 exact ⟨code, d', rfl, HRR.out.1, .inl HRR.out.2⟩
set_option maxRecDepth 100000 in
set_option maxHeartbeats 8000000 in
theorem change_undo {L : Int} (g o m : Nat) (d : Dc) (u nm : ByteArray) (now : Int) (w : World) (h : PD w g o m d) (hd : ownOK d) (hR : RvsOK L d.revs) (hL : L ≤ 140737488355328) :
  Calls Tryz.prog 105 #[.pointer (some ⟨g, o, none⟩), .iface 151 (.agg #[.int .i64 5, .string u, .string nm]), .int .i64 now] w (ChangePost w g o d (UndoR d u)) := by
 have H := Lib.hid (fun (w1 : World) (hb : Below w.heap.size w w1) => undo_any g o m d u w1 (h.below hb) hd hR hL)
 have m146 := ta_miss146 151 (by decide)
 have m148 := ta_miss148 151 (by decide)
 have m150 := ta_miss150 151 (by decide)
 have m151 := ta_hit151
 clear h hd hR
 go_enter Tryz.func105, Tryz.ntmps105
 go_wp2_with fail
 have hb0 : ∀ w1 w2 e, Below w.heap.size w w1 → PtrPost w1 g o d (UndoR d u) e w2 → PtrPost w g o d (UndoR d u) e w2 := fun w1 w2 e hb h => h.from hb
 refine (H.out _ (by go_grown)).mono ?_
 intro e w3 hp
 replace hp := hb0 _ _ _ (by go_grown) hp
 obtain ⟨code, d', rfl, hr, hc⟩ := hp
 have HRR := Lib.hid (And.intro hr hc)
 clear hr hc hb0 H
 go_wp2_with fail
 go_ret
 exact ⟨code, d', rfl, HRR.out.1, .inl HRR.out.2⟩
set_option maxRecDepth 100000 in
set_option maxHeartbeats 8000000 in
theorem change_redo {L : Int} (g o m : Nat) (d : Dc) (u nm : ByteArray) (now : Int) (w : World) (h : PD w g o m d) (hd : ownOK d) (hR : RvsOK L d.revs) (hB : ∀ (j : Nat) (r : Rv), d.revs[j]? = some r → r.kind = 4 → 0 ≤ r.base ∧ r.base < (j : Int)) (hL : L ≤ 140737488355328) :
  Calls Tryz.prog 105 #[.pointer (some ⟨g, o, none⟩), .iface 152 (.agg #[.int .i64 6, .string u, .string nm]), .int .i64 now] w (ChangePost w g o d (RedoR d u)) := by
 have H := Lib.hid (fun (w1 : World) (hb : Below w.heap.size w w1) => redo_any g o m d u w1 (h.below hb) hd hR hB hL)
 have m146 := ta_miss146 152 (by decide)
 have m148 := ta_miss148 152 (by decide)
 have m150 := ta_miss150 152 (by decide)
 have m151 := ta_miss151 152 (by decide)
 have m152 := ta_hit152
 clear h hd hR hB
 go_enter Tryz.func105, Tryz.ntmps105
 go_wp2_with fail
 have hb0 : ∀ w1 w2 e, Below w.heap.size w w1 → PtrPost w1 g o d (RedoR d u) e w2 → PtrPost w g o d (RedoR d u) e w2 := fun w1 w2 e hb h => h.from hb
 refine (H.out _ (by go_grown)).mono ?_
 intro e w3 hp
 replace hp := hb0 _ _ _ (by go_grown) hp
 obtain ⟨code, d', rfl, hr, hc⟩ := hp
 have HRR := Lib.hid (And.intro hr hc)
 clear hr hc hb0 H
 go_wp2_with fail
 go_ret
 exact ⟨code, d', rfl, HRR.out.1, .inl HRR.out.2⟩
set_option maxRecDepth 100000 in
set_option maxHeartbeats 8000000 in
theorem change_unlock (g o m : Nat) (d : Dc) (u nm : ByteArray) (now : Int) (w : World) (h : PD w g o m d) :
  Calls Tryz.prog 105 #[.pointer (some ⟨g, o, none⟩), .iface 148 (.agg #[.int .i64 3, .string u, .string nm]), .int .i64 now] w (ChangePost w g o d (UnlockR d u)) := by
 have HP := Lib.hid h
 have m146 := ta_miss146 148 (by decide)
 have m148 := ta_hit148
 clear h
 go_enter Tryz.func105, Tryz.ntmps105
 go_upto_region 9 with fail
 obtain ⟨w1, hw1⟩ : ∃ y, y = w.alloc (.cells #[.int .i64 3, .string u, .string nm] 148) := ⟨_, rfl⟩
 obtain ⟨b8, hb8⟩ : ∃ y, y = w.heap.size := ⟨_, rfl⟩
 have hb : Below w.heap.size w w1 := by rw [hw1]; exact below_box _ _
 have c1 : w1.cell? ⟨b8, 1, none⟩ = some (.string u) := by rw [hw1, hb8]; simp [go_sem]
 rw [← hw1, ← hb8]
 have HB := Lib.hid hb
 replace HP := Lib.hid (HP.out.below hb)
 clear hw1 hb8 hb m146 m148
 obtain ⟨rv, hcd, -⟩ := HP.out.r
 have d1 : w1.cell? ⟨g, o + 1, none⟩ = some (.string d.owner) := hcd 1 _ rfl
 have d2 : w1.cell? ⟨g, o + 2, none⟩ = some (.int .i64 d.till) := hcd 2 _ rfl
 have f1 := HP.out.f (o + 1)
 have f2 := HP.out.f (o + 2)
 clear hcd
 go_quiet (fail)
 by_cases hu : d.owner = u
 ·have hu2 : (d.owner.toList == u.toList) = true := by rw [hu]; exact beq_self_eq_true _
  have HU := Lib.hid hu
  clear hu
  rw [hu2]
  have hdn : ∀ p, (w1.drewN nq).cell? p = w1.cell? p := fun p => by simp [go_sem]
  obtain ⟨w2, hw2⟩ : ∃ y, y = w1.drewN nq := ⟨_, rfl⟩
  have e1 : w2.cell? ⟨g, o + 1, none⟩ = some (.string d.owner) := by rw [hw2, hdn]; exact d1
  have e2 : w2.cell? ⟨g, o + 2, none⟩ = some (.int .i64 d.till) := by rw [hw2, hdn]; exact d2
  have g1 : w2.frozen? ⟨g, o + 1, none⟩ = false := by rw [hw2]; exact f1
  have g2 : w2.frozen? ⟨g, o + 2, none⟩ = false := by rw [hw2]; exact f2
  have HB2 := Lib.hid (show Below w.heap.size w w2 by rw [hw2]; exact below_drewN HB.out _)
  rw [← hw2]
  clear hw2 d1 d2 f1 f2 hdn hu2
  go_wp2_with fail
  go_ret
  exact ⟨0, _, rfl, .done HU.out, .inr ⟨⟨#[]⟩, 0, rfl, below_set_both (below_set_both HB2.out _ _) _ _⟩⟩
 ·have hu2 : (d.owner.toList == u.toList) = false := by rw [beq_eq_false_iff_ne]; exact bytes_ne hu
  have HU := Lib.hid hu
  clear hu
  rw [hu2]
  have HB2 := Lib.hid (below_drewN HB.out nq)
  go_wp2_with fail
  go_ret
  exact ⟨13, d, rfl, .other HU.out, .inl (.inl ⟨rfl, HB2.out⟩)⟩
set_option maxRecDepth 100000 in
set_option maxHeartbeats 8000000 in
theorem change_lock (g o m : Nat) (d : Dc) (u nm : ByteArray) (n now : Int) (w : World) (h : PD w g o m d) (hd : ownOK d) (h0 : 0 ≤ now ∧ now ≤ 1099511627776) (h1 : 0 ≤ n ∧ n ≤ 1000) :
  Calls Tryz.prog 105 #[.pointer (some ⟨g, o, none⟩), .iface 146 (.agg #[.int .i64 2, .string u, .string nm, .int .i64 n]), .int .i64 now] w (ChangePost w g o d (LockR d u (now + n))) := by
 have HP := Lib.hid h
 have HD := Lib.hid hd
 have m146 := ta_hit146
 clear h hd
 go_enter Tryz.func105, Tryz.ntmps105
 go_upto_region 6 with (first | (go_at_call 147; refine (locked_any g o m d u _ (HP.out.below (by go_grown)) HD.out).mono ?_) | fail)
 rintro e w2 ⟨rfl, rfl⟩
 by_cases hlk : Held d u
 ·rw [decide_eq_true hlk]
  have HLK := Lib.hid hlk
  clear hlk
  go_wp2_with fail
  go_ret
  exact ⟨11, d, rfl, .locked HLK.out, .inl (.inl ⟨rfl, by go_grown⟩)⟩
 rw [decide_eq_false hlk]
 have HLK := Lib.hid hlk
 clear hlk
 go_upto_region 6 with fail
 obtain ⟨w1, hw1⟩ : ∃ y, y = w.alloc (.cells #[.int .i64 2, .string u, .string nm, .int .i64 n] 146) := ⟨_, rfl⟩
 obtain ⟨b7, hb7⟩ : ∃ y, y = w.heap.size := ⟨_, rfl⟩
 have hb : Below w.heap.size w w1 := by rw [hw1]; exact below_box _ _
 have c1 : w1.cell? ⟨b7, 1, none⟩ = some (.string u) := by rw [hw1, hb7]; simp [go_sem]
 have c3 : w1.cell? ⟨b7, 3, none⟩ = some (.int .i64 n) := by rw [hw1, hb7]; simp [go_sem]
 have hne : g ≠ b7 := by have := HP.out.g0; omega
 rw [← hw1, ← hb7]
 have HB := Lib.hid hb
 replace HP := Lib.hid (HP.out.below hb)
 clear hw1 hb7 hb m146
 obtain ⟨rv, hcd, -⟩ := HP.out.r
 have d1 : w1.cell? ⟨g, o + 1, none⟩ = some (.string d.owner) := hcd 1 _ rfl
 have d2 : w1.cell? ⟨g, o + 2, none⟩ = some (.int .i64 d.till) := hcd 2 _ rfl
 have f1 := HP.out.f (o + 1)
 have f2 := HP.out.f (o + 2)
 clear hcd
 have HC13 := Lib.hid (And.intro c1 c3)
 have HNE := Lib.hid hne
 have hs : -9223372036854775808 ≤ now + n ∧ now + n ≤ 9223372036854775807 := by omega
 obtain ⟨T, hT⟩ : ∃ T, T = now + n := ⟨_, rfl⟩
 have HT := Lib.hid hT
 have hT2 : now + n = T := hT.symm
 have hT3 : T ≤ 9223372036854775807 := by omega
 have hT4 : -9223372036854775808 ≤ T := by omega
 have HTT := Lib.hid (And.intro hT2 (And.intro hT3 hT4))
 clear hs hT hT2 hT3 hT4 h0 h1
 refine Plan.wp_region_plan (fun w' => w'.cell? ⟨b7, 1, none⟩ = some (.string u) ∧ w'.cell? ⟨b7, 3, none⟩ = some (.int .i64 n)) (([0, 1, 2, 3, 4, 5, 6, 7, 8, 9, 10].map (·, true)) ++ (([11].map (·, false)) ++ (([12, 13].map (·, true)) ++ ([14].map (·, false))))) (by kernel_rfl) (by kernel_rfl) (by kernel_rfl) ⟨c1, c3⟩ ?_
 refine' Plan.plan_seg _ [0, 1, 2, 3, 4, 5, 6, 7, 8, 9, 10] (([11].map (·, false)) ++ (([12, 13].map (·, true)) ++ ([14].map (·, false)))) (by kernel_rfl) (by kernel_rfl) rfl (by exact ⟨c1, c3⟩) (fun wx hS => ?_) ?_
 rotate_left
 ·obtain ⟨s1, s3⟩ := hS
  obtain ⟨t1, t2, t3⟩ := HTT.out
  go_light
  iterate 11 (apply Plan.seg_pick; rfl; intro K hK; go_wp)
  exact Plan.seg_nil
 obtain ⟨w2, hw2⟩ : ∃ y, y = w1.drew := ⟨_, rfl⟩
 replace c1 : w2.cell? ⟨b7, 1, none⟩ = some (.string u) := by rw [hw2]; exact c1
 replace c3 : w2.cell? ⟨b7, 3, none⟩ = some (.int .i64 n) := by rw [hw2]; exact c3
 replace d1 : w2.cell? ⟨g, o + 1, none⟩ = some (.string d.owner) := by rw [hw2]; exact d1
 replace d2 : w2.cell? ⟨g, o + 2, none⟩ = some (.int .i64 d.till) := by rw [hw2]; exact d2
 replace f1 : w2.frozen? ⟨g, o + 1, none⟩ = false := by rw [hw2]; exact f1
 replace f2 : w2.frozen? ⟨g, o + 2, none⟩ = false := by rw [hw2]; exact f2
 replace HB := Lib.hid (show Below w.heap.size w w2 by rw [hw2]; exact HB.out.drew)
 rw [← hw2]
 clear hw2 HC13
 have hne2 : b7 ≠ g := Ne.symm hne
 refine Plan.plan_of_effect rfl (fun K hK => ?_)
 go_wp2_with fail
 have k1 : (w2.setCell ⟨g, o + 1, none⟩ (.string u)).cell? ⟨b7, 1, none⟩ = some (.string u) := by simp [go_sem, c1, hne, hne2]
 have k3 : (w2.setCell ⟨g, o + 1, none⟩ (.string u)).cell? ⟨b7, 3, none⟩ = some (.int .i64 n) := by simp [go_sem, c3, hne, hne2]
 refine ⟨⟨k1, k3⟩, ?_⟩
 refine' Plan.plan_seg _ [12, 13] [(14, false)] (by kernel_rfl) (by kernel_rfl) rfl (by exact ⟨k1, k3⟩) (fun wx hS => ?_) ?_
 rotate_left
 ·clear hS
  go_light
  iterate 2 (apply Plan.seg_pick; rfl; intro K hK; go_wp)
  exact Plan.seg_nil
 refine Plan.plan_of_effect rfl (fun K hK => ?_)
 go_wp2_with fail
 refine ⟨⟨by simp [go_sem, c1, hne, hne2], by simp [go_sem, c3, hne, hne2]⟩, ?_⟩
 refine Plan.plan_done ?_
 clear c1 c3 d1 d2 f1 f2 k1 k3
 go_wp2_with fail
 go_ret
 rw [← HT.out]
 exact ⟨0, _, rfl, .done HLK.out, .inr ⟨u, T, rfl, below_set_both (below_set_both HB.out _ _) _ _⟩⟩
theorem list_set_same {α : Type} {l : List α} {i : Nat} {a : α} (h : l[i]? = some a) : l.set i a = l := by
 refine List.ext_getElem? fun n => ?_
 rw [List.getElem?_set]
 by_cases hin : i = n
 ·subst hin
  rw [if_pos rfl, if_pos (List.getElem?_eq_some_iff.1 h).1, h]
 ·rw [if_neg hin]
theorem DX.turn {w w' : World} {g cap m : Nat} {ds : List Dc} (h : DX w g cap m ds) {i : Nat} {d : Dc} {u : Value} {rs : List Rv} (hi : ds[i]? = some d) (hb : Below w.heap.size (w.setCell ⟨g, i * 4 + 3, none⟩ u) w') (hu : RS (Lo w'.heap.size g) w' u rs) : DX w' g cap w'.heap.size (ds.set i { d with revs := rs }) := by
 obtain ⟨ts, h1, h2, h3⟩ := h.r
 have hil := (List.getElem?_eq_some_iff.1 hi).1
 obtain ⟨t, ht⟩ : ∃ t, ts[i]? = some t := ⟨_, List.getElem?_eq_getElem (by omega)⟩
 have hsz : (w.setCell ⟨g, i * 4 + 3, none⟩ u).heap.size = w.heap.size := by simp [World.setCell]
 have hsz2 : w.heap.size ≤ w'.heap.size := by have := hb.size; rwa [hsz] at this
 have hag : Ag (Lo m g) w w' := fun b hb2 => (hb.block b (Nat.lt_of_lt_of_le hb2.1 h.m0)).trans (ag_set (m := m) (o := i * 4 + 3) (u := u) b hb2)
 refine ⟨Nat.le_refl _, ts.set i u, by simpa using h1, ?_, fun k x y hk hy => ?_⟩
 ·have hs := h2.setCell (o := i * 4 + 3) (by rw [flatC_len docL_len ds ts h1]; omega) u
  rw [flatC_set (a' := { d with revs := rs }) (v' := u) docL_len ds ts h1 hi ht (by decide) rfl] at hs
  rw [List.length_set]
  exact hs.below (by rw [hsz]; exact hb)
 ·rw [List.getElem?_set] at hk hy
  by_cases hik : i = k
  ·subst hik
   rw [if_pos rfl, if_pos hil] at hk
   rw [if_pos rfl, if_pos (by omega)] at hy
   cases hk; cases hy
   exact hu
  ·rw [if_neg hik] at hk hy
   exact ((h3 k x y hk hy).on hag).mono fun b hb2 => ⟨Nat.lt_of_lt_of_le hb2.1 (Nat.le_trans h.m0 hsz2), hb2.2⟩
theorem DX.full {w : World} {g cap m : Nat} {ds : List Dc} (h : DX w g cap m ds) : DX w g cap w.heap.size ds := h.raise h.m0 (Nat.le_refl _)
theorem DX.grow {w w' : World} {g cap m : Nat} {ds : List Dc} (h : DX w g cap m ds) (hb : Below w.heap.size w w') : DX w' g cap w'.heap.size ds := (h.below hb).full
theorem DX.chg {w w' : World} {g cap m : Nat} {ds : List Dc} (h : DX w g cap m ds) {i : Nat} {d d' : Dc} (hi : ds[i]? = some d) (hc : Chg w g (i * 4) d d' w') : DX w' g cap w'.heap.size (ds.set i d') := by
 rcases hc with ⟨rfl, hb⟩ | ⟨q, c, rs, rfl, hq, hbb, hor⟩
 ·rw [list_set_same hi]
  exact h.grow hb
 ·exact h.turn hi hbb (hor.rs.mono fun b hb => ⟨by have := hb.1; have := hor.lt.1; omega, hb.2⟩)
theorem DX.chg2 {w w' : World} {g cap m : Nat} {ds : List Dc} (h : DX w g cap m ds) {i : Nat} {d d' : Dc} (hi : ds[i]? = some d) (hc : Chg2 w g (i * 4) d d' w') : DX w' g cap w'.heap.size (ds.set i d') := by
 rcases hc with hc | ⟨ow, tl, rfl, hb⟩
 ·exact h.chg hi hc
 ·have h1 := h.set (j := 1) (d' := { d with owner := ow }) (u := .string ow) hi (by decide) rfl (fun t => rfl)
  have hi2 : (ds.set i { d with owner := ow })[i]? = some { d with owner := ow } := by rw [List.getElem?_set_self (List.getElem?_eq_some_iff.1 hi).1]
  have h2 := h1.set (j := 2) (d' := { d with owner := ow, till := tl }) (u := .int .i64 tl) hi2 (by decide) rfl (fun t => rfl)
  rw [List.set_set] at h2
  exact h2.grow (by simpa [World.setCell] using hb)
theorem docL_one {d : Dc} {t : Value} (h : t.oneCell' = true) : ∀ u ∈ docL d t, u.oneCell' = true := by
 intro u hu
 simp only [docL, List.mem_cons, List.not_mem_nil, or_false] at hu
 rcases hu with rfl | rfl | rfl | rfl <;> first | rfl | exact h
theorem Rvs.one {w : World} {v : Value} {l : List Rv} (h : Rvs w v l) : v.oneCell' = true := by
 obtain ⟨ao, cap, rfl, -⟩ := h
 rfl
theorem owndocs_any (v : Value) (ds : List Dc) (w0 w : World) (h : Dcs w0 v ds) (hw : Below w0.heap.size w0 w) (h0 : ds ≠ []) (h1 : ds.length ≤ 1024) :
  Calls Tryz.prog 102 #[v] w fun e w' => ∃ g cap, e = .returned (.slice (some ⟨g, 0, none⟩) ds.length cap) ∧ w.heap.size ≤ g ∧ DX w' g cap w0.heap.size ds ∧ Below w.heap.size w w' := by
 obtain ⟨ts, hts, hrow, hT⟩ := h.row h0
 have hO : ∀ u ∈ flatC docL ds ts, u.oneCell' = true := flatC_one hts fun i r t hi hj => docL_one (hT i r t hi hj).one
 refine (clonedocs_any v ds.length _ w (hrow.below hw) (List.length_pos_iff.2 h0) h1 hO).mono ?_
 rintro e w' ⟨v', rfl, hr, hb⟩
 obtain ⟨g, cap, rfl⟩ : ∃ g cap, v' = .slice (some ⟨g, 0, none⟩) ds.length cap := by
  rcases hr with ⟨_, e2, _⟩ | ⟨g', cap', cur, e, _⟩
  ·exact absurd (List.length_eq_zero_iff.1 e2) h0
  ·exact ⟨_, _, e⟩
 have hg := hr.lt.1
 have hsz := hw.size
 refine ⟨g, cap, rfl, hg, ⟨Nat.le_trans hsz hb.size, ts, hts, hr.raise, fun i d t hi ht => ?_⟩, hb⟩
 have h2 := RS.of (hT i d t hi ht)
 exact (h2.on fun b hb2 => (hb.block b (Nat.lt_of_lt_of_le hb2 hsz)).trans (hw.block b hb2)).mono fun b hb2 => ⟨hb2, by omega⟩
structure OQ (w : World) (q cap g : Nat) (rs : List Rv) : Prop where
 n0 : q ≠ g
 r : ∃ us : List Value, us.length = rs.length ∧ RowX w q 67 5 (.slice (some ⟨q, 0, none⟩) rs.length cap) rs.length (flatC revL rs us) ∧ ∀ (i : Nat) (r : Rv) (u : Value), rs[i]? = some r → us[i]? = some u → TS (fun b => b < w.heap.size ∧ b ≠ g ∧ b ≠ q) w u r.t
theorem OQ.below {w w' : World} {q cap g : Nat} {rs : List Rv} (h : OQ w q cap g rs) (hb : Below w.heap.size w w') : OQ w' q cap g rs := by
 obtain ⟨us, h1, h2, h3⟩ := h.r
 exact ⟨h.n0, us, h1, h2.below hb, fun i r u hr hu => ((h3 i r u hr hu).on fun b hb2 => hb.block b hb2.1).mono fun b hb2 => ⟨Nat.lt_of_lt_of_le hb2.1 hb.size, hb2.2⟩⟩
theorem OQ.rs {w : World} {q cap g : Nat} {rs : List Rv} (h : OQ w q cap g rs) : RS (Lo w.heap.size g) w (.slice (some ⟨q, 0, none⟩) rs.length cap) rs := by
 obtain ⟨us, h1, h2, h3⟩ := h.r
 refine ⟨some ⟨q, 0, none⟩, cap, rfl, h2.lt.2.2.1, h2.lt.2.2.2, fun i r hi => ?_⟩
 have hil := (List.getElem?_eq_some_iff.1 hi).1
 obtain ⟨t, ht⟩ : ∃ t, us[i]? = some t := ⟨_, List.getElem?_eq_getElem (by omega)⟩
 refine ⟨q, 0, t, rfl, ⟨h2.lt.2.1, h.n0⟩, fun j u hj => ?_, (h3 i r t hi ht).mono fun b hb => ⟨hb.1, hb.2.1⟩⟩
 have hj5 : j < 5 := by rw [← revL_len r t]; exact (List.getElem?_eq_some_iff.1 hj).1
 have hg := flatC_get revL_len rs us hi ht hj5
 rw [hj] at hg
 have := h2.cell hg
 simpa using this
theorem OQ.frozen {w : World} {q cap g : Nat} {rs : List Rv} (h : OQ w q cap g rs) (o : Nat) : w.frozen? ⟨q, o, none⟩ = false := by
 obtain ⟨ts, -, hr, -⟩ := h.r
 exact hr.frozen o
theorem OQ.lt {w : World} {q cap g : Nat} {rs : List Rv} (h : OQ w q cap g rs) : q < w.heap.size ∧ rs.length ≤ cap ∧ cap ≤ maxLen := by
 obtain ⟨ts, -, hr, -⟩ := h.r
 exact ⟨hr.lt.2.1, hr.lt.2.2⟩
theorem OQ.cells {w : World} {q cap g : Nat} {rs : List Rv} (h : OQ w q cap g rs) {i : Nat} {r : Rv} (hi : rs[i]? = some r) : ∃ u, w.rangeAt q (i * 5) (revL r u) ∧ Tk w u r.t := by
 obtain ⟨us, h1, h2, h3⟩ := h.r
 have hil := (List.getElem?_eq_some_iff.1 hi).1
 obtain ⟨t, ht⟩ : ∃ t, us[i]? = some t := ⟨_, List.getElem?_eq_getElem (by omega)⟩
 refine ⟨t, fun j u hj => ?_, (h3 i r t hi ht).get⟩
 have hj5 : j < 5 := by rw [← revL_len r t]; exact (List.getElem?_eq_some_iff.1 hj).1
 have hg := flatC_get revL_len rs us hi ht hj5
 rw [hj] at hg
 exact h2.cell hg
theorem OQ.setT {w : World} {q cap g : Nat} {rs : List Rv} (h : OQ w q cap g rs) {i : Nat} {r : Rv} {u : Value} (hi : rs[i]? = some r) (hu : TS (fun b => b < w.heap.size ∧ b ≠ g ∧ b ≠ q) w u r.t) : OQ (w.setCell ⟨q, i * 5 + 4, none⟩ u) q cap g rs := by
 obtain ⟨us, h1, h2, h3⟩ := h.r
 have hil := (List.getElem?_eq_some_iff.1 hi).1
 obtain ⟨t, ht⟩ : ∃ t, us[i]? = some t := ⟨_, List.getElem?_eq_getElem (by omega)⟩
 have hsz : (w.setCell ⟨q, i * 5 + 4, none⟩ u).heap.size = w.heap.size := by simp [World.setCell]
 have hag : Ag (fun b => b < w.heap.size ∧ b ≠ g ∧ b ≠ q) w (w.setCell ⟨q, i * 5 + 4, none⟩ u) := fun b hb => setCells_other q b hb.2.2 [u] (i * 5 + 4) w
 refine ⟨h.n0, us.set i u, by simpa using h1, ?_, fun k x y hk hy => ?_⟩
 ·have hs := h2.setCell (o := i * 5 + 4) (by rw [flatC_len revL_len rs us h1]; omega) u
  rw [flatC_set (a' := r) (v' := u) revL_len rs us h1 hi ht (by decide) rfl, list_set_same hi] at hs
  exact hs
 ·rw [hsz]
  rw [List.getElem?_set] at hy
  by_cases hik : i = k
  ·subst hik
   rw [hi] at hk
   rw [if_pos rfl, if_pos (by omega)] at hy
   cases hk; cases hy
   exact hu.on hag
  ·rw [if_neg hik] at hy
   exact (h3 k x y hk hy).on hag
theorem ownrevs_any (v : Value) (rs : List Rv) (g : Nat) (w : World) (h : RS (Lo w.heap.size g) w v rs) (hg : g < w.heap.size) (h0 : rs ≠ []) (h1 : rs.length ≤ 1000) :
  Calls Tryz.prog 106 #[v] w fun e w' => ∃ q cap, e = .returned (.slice (some ⟨q, 0, none⟩) rs.length cap) ∧ w.heap.size ≤ q ∧ OQ w' q cap g rs ∧ Below w.heap.size w w' := by
 obtain ⟨ts, hts, hrow, hT⟩ := h.row h0
 have hO : ∀ u ∈ flatC revL rs ts, u.oneCell' = true := flatC_one hts fun i r t hi hj => revL_one (hT i r t hi hj).get.one
 refine (clonerevs_any v rs.length _ w hrow (List.length_pos_iff.2 h0) (by omega) hO).mono ?_
 rintro e w' ⟨v', rfl, hr, hb⟩
 obtain ⟨q, cap, rfl⟩ : ∃ q cap, v' = .slice (some ⟨q, 0, none⟩) rs.length cap := by
  rcases hr with ⟨_, e2, _⟩ | ⟨g', cap', cur, e, _⟩
  ·exact absurd (List.length_eq_zero_iff.1 e2) h0
  ·exact ⟨_, _, e⟩
 have hq := hr.lt.1
 refine ⟨q, cap, rfl, hq, ⟨by omega, ts, hts, hr.raise, fun i r t hi ht => ?_⟩, hb⟩
 exact ((hT i r t hi ht).on fun b hb2 => hb.block b hb2.1).mono fun b hb2 => ⟨Nat.lt_of_lt_of_le hb2.1 hb.size, hb2.2, by have := hb2.1; omega⟩
def Two2 (w : World) (b : Nat) : Prop := ∃ c : Array Value, c.size = 2 ∧ w.heap[b]? = some (.cells c 55 (0, 0))
theorem Two2.ne {w : World} {b b' o : Nat} {u : Value} (h : Two2 w b) (hc : w.cell? ⟨b', o, none⟩ = some u) (ho : 2 ≤ o) : b' ≠ b := by
 rintro rfl
 obtain ⟨c, hs, hb⟩ := h
 unfold World.cell? at hc
 simp only [hb] at hc
 rw [Array.getElem?_eq_none (by omega)] at hc
 cases hc
theorem Two2.set {w : World} {b : Nat} (h : Two2 w b) (o : Nat) (u : Value) : Two2 (w.setCell ⟨b, o, none⟩ u) b := by
 obtain ⟨c, hs, hb⟩ := h
 exact ⟨c.setIfInBounds o u, by simpa using hs, by simp [World.setCell, Array.getElem?_modify, hb]⟩
theorem Tk.skip {w w' : World} {b : Nat} {v : Value} {l : List Trk.Clip} (h : Tk w v l) (h2 : Two2 w b) (hs : ∀ x, x ≠ b → w'.heap[x]? = w.heap[x]?) : Tk w' v l := by
 obtain ⟨ao, cap, e, e1, e2, h3⟩ := h
 refine ⟨ao, cap, e, e1, e2, fun i c hi => ?_⟩
 obtain ⟨b', o, e3, hc⟩ := h3 i c hi
 exact ⟨b', o, e3, hc.same (hs b' (h2.ne hc.k2 (by omega)))⟩
theorem Dcs.skip {w w' : World} {b : Nat} {v : Value} {ds : List Dc} (h : Dcs w v ds) (h2 : Two2 w b) (hs : ∀ x, x ≠ b → w'.heap[x]? = w.heap[x]?) : Dcs w' v ds := by
 obtain ⟨ao, cap, e, e1, e2, h3⟩ := h
 refine ⟨ao, cap, e, e1, e2, fun i d hi => ?_⟩
 obtain ⟨b', o, rv, e3, hc, ao2, cap2, f, f1, f2, h4⟩ := h3 i d hi
 refine ⟨b', o, rv, e3, rangeAt_ag hc (hs b' (h2.ne (hc 2 _ rfl) (by omega))), ao2, cap2, f, f1, f2, fun j r hj => ?_⟩
 obtain ⟨b3, o3, tv, g3, hc3, ht⟩ := h4 j r hj
 exact ⟨b3, o3, tv, g3, rangeAt_ag hc3 (hs b3 (h2.ne (hc3 2 _ rfl) (by omega))), ht.skip h2 hs⟩
structure CB (w : World) (b1 b2 : Nat) (now : Int) (v : Value) : Prop where
 c0 : w.cell? ⟨b1, 0, none⟩ = some (.int .i64 now)
 c1 : w.cell? ⟨b1, 1, none⟩ = some v
 f1 : w.frozen? ⟨b1, 1, none⟩ = false
 e0 : w.cell? ⟨b2, 0, none⟩ = some (.int .i64 0)
 e1 : w.cell? ⟨b2, 1, none⟩ = some (.slice none 0 0)
 g0 : w.frozen? ⟨b2, 0, none⟩ = false
 g1 : w.frozen? ⟨b2, 1, none⟩ = false
 s : Two2 w b2
theorem CB.below {w w' : World} {b1 b2 : Nat} {now : Int} {v : Value} (h : CB w b1 b2 now v) (hb : Below w.heap.size w w') : CB w' b1 b2 now v := by
 have l1 := block_lt_of_cell h.c0
 have l2 := block_lt_of_cell h.e0
 exact ⟨(hb.cell (p := ⟨b1, 0, none⟩) l1).trans h.c0, (hb.cell (p := ⟨b1, 1, none⟩) l1).trans h.c1, (hb.frozen (p := ⟨b1, 1, none⟩) l1).trans h.f1, (hb.cell (p := ⟨b2, 0, none⟩) l2).trans h.e0, (hb.cell (p := ⟨b2, 1, none⟩) l2).trans h.e1, (hb.frozen (p := ⟨b2, 0, none⟩) l2).trans h.g0, (hb.frozen (p := ⟨b2, 1, none⟩) l2).trans h.g1, by obtain ⟨c, hs, hc⟩ := h.s; exact ⟨c, hs, (hb.block b2 l2).trans hc⟩⟩
theorem CB.far {w : World} {b1 b2 : Nat} {now : Int} {v : Value} (h : CB w b1 b2 now v) {g : Nat} (h1 : b1 ≠ g) (h2 : b2 ≠ g) (o : Nat) (u : Value) : CB (w.setCell ⟨g, o, none⟩ u) b1 b2 now v := by
 have k1 : (w.setCell ⟨g, o, none⟩ u).heap[b1]? = w.heap[b1]? := setCells_other g b1 h1 [u] o w
 have k2 : (w.setCell ⟨g, o, none⟩ u).heap[b2]? = w.heap[b2]? := setCells_other g b2 h2 [u] o w
 have fz : ∀ b p, (w.setCell ⟨g, o, none⟩ u).heap[b]? = w.heap[b]? → (w.setCell ⟨g, o, none⟩ u).frozen? ⟨b, p, none⟩ = w.frozen? ⟨b, p, none⟩ := fun b p hb => by unfold World.frozen?; simp only [hb]
 exact ⟨(World.cell?_of_block (a := ⟨b1, 0, none⟩) k1).trans h.c0, (World.cell?_of_block (a := ⟨b1, 1, none⟩) k1).trans h.c1, (fz b1 1 k1).trans h.f1, (World.cell?_of_block (a := ⟨b2, 0, none⟩) k2).trans h.e0, (World.cell?_of_block (a := ⟨b2, 1, none⟩) k2).trans h.e1, (fz b2 0 k2).trans h.g0, (fz b2 1 k2).trans h.g1, by obtain ⟨c, hs, hc⟩ := h.s; exact ⟨c, hs, k2.trans hc⟩⟩
theorem CB.put {w : World} {b1 b2 : Nat} {now : Int} {v : Value} (h : CB w b1 b2 now v) (hn : b1 ≠ b2) (u : Value) : CB (w.setCell ⟨b1, 1, none⟩ u) b1 b2 now u := by
 have hn2 := Ne.symm hn
 obtain ⟨h0, h1, h2, h3, h4, h5, h6, hs⟩ := h
 exact ⟨by simp [go_sem, h0], by simp [go_sem, h1], by simp [go_sem, h2], by simp [go_sem, h3, hn, hn2], by simp [go_sem, h4, hn, hn2], by simp [go_sem, h5], by simp [go_sem, h6], by obtain ⟨c, hs, hc⟩ := hs; exact ⟨c, hs, (setCells_other b1 b2 hn2 [u] 1 w).trans hc⟩⟩
theorem DX.far {w : World} {g cap m b : Nat} {ds : List Dc} (h : DX w g cap m ds) (hm : m ≤ b) (hg : g ≠ b) (o : Nat) (u : Value) : DX (w.setCell ⟨b, o, none⟩ u) g cap m ds := by
 obtain ⟨ts, h1, h2, h3⟩ := h.r
 have hs : (w.setCell ⟨b, o, none⟩ u).heap[g]? = w.heap[g]? := setCells_other b g hg [u] o w
 exact ⟨by simpa [World.setCell] using h.m0, ts, h1, h2.blk hs, fun i d t hd ht => (h3 i d t hd ht).on (ag_far hm)⟩
theorem OQ.setG {w : World} {q cap g : Nat} {rs : List Rv} (h : OQ w q cap g rs) (o : Nat) (u : Value) : OQ (w.setCell ⟨g, o, none⟩ u) q cap g rs := by
 obtain ⟨us, h1, h2, h3⟩ := h.r
 have hsz : (w.setCell ⟨g, o, none⟩ u).heap.size = w.heap.size := by simp [World.setCell]
 exact ⟨h.n0, us, h1, h2.blk (setCells_other g q h.n0 [u] o w), fun i r t hr ht => ((h3 i r t hr ht).on fun b hb => setCells_other g b hb.2.1 [u] o w).mono fun b hb => by rw [hsz]; exact hb⟩
theorem OT.ts2 {w : World} {B g q : Nat} {v : Value} {l : List Trk.Clip} (h : OT w B v l) (hg : g < B) (hq : q < B) : TS (fun b => b < w.heap.size ∧ b ≠ g ∧ b ≠ q) w v l := by
 intro w' ha
 have h' := h
 rcases h with ⟨rfl, hl, he⟩ | ⟨b, cap, cur, rfl, hB, hb, _⟩
 ·exact OT.tk (w := w') (B := B) (.inl ⟨rfl, hl, he⟩)
 ·exact OT.tk (w := w') (B := B) (RowX.blk h' (ha b ⟨(Array.getElem?_eq_some_iff.1 hb).1, by omega, by omega⟩))
set_option maxRecDepth 100000 in
set_option maxHeartbeats 16000000 in
theorem stateclone_any (v : Value) (ds : List Dc) (now : Int) (w : World) (h : Dcs w v ds) (h0 : ds ≠ []) (h1 : ds.length ≤ 1000) (hR : ∀ d ∈ ds, 1 ≤ d.revs.length ∧ d.revs.length ≤ 1000 ∧ ∀ r ∈ d.revs, r.t.length ≤ 1048576) :
  Calls Tryz.prog 64 #[.agg #[.int .i64 now, v]] w fun e w' => ∃ v', e = .returned (.agg #[.int .i64 now, v']) ∧ Dcs w' v' ds ∧ Below w.heap.size w w' := by
 have HR := Lib.hid hR
 have HL := Lib.hid (And.intro h0 h1)
 have OD := Lib.hid (fun w2 (hb : Below w.heap.size w w2) => owndocs_any v ds w w2 h hb h0 (by omega))
 obtain ⟨va, vc, hv, -⟩ := h
 obtain ⟨N, hN⟩ : ∃ N, N = ds.length := ⟨_, rfl⟩
 rw [← hN] at hv OD
 have HN := Lib.hid hN
 have hN1 : N ≤ 1000 := by omega
 have HN1 := Lib.hid hN1
 subst hv
 clear hR h0 h1 hN hN1
 go_enter Tryz.func64, Tryz.ntmps64
 go_upto_region 1 with fail
 obtain ⟨w1, hw1⟩ : ∃ y, y = (w.alloc (.cells #[.int .i64 now, .slice va N vc] 55)).alloc (.cells #[.int .i64 0, .slice none 0 0] 55) := ⟨_, rfl⟩
 obtain ⟨b1, hb1⟩ : ∃ y, y = w.heap.size := ⟨_, rfl⟩
 obtain ⟨b2, hb2⟩ : ∃ y, y = w.heap.size + 1 := ⟨_, rfl⟩
 have hb : Below w.heap.size w w1 := by rw [hw1]; exact ((Below.refl _ _).alloc (Nat.le_refl _) _).alloc (by simp [go_sem]) _
 have HCB := Lib.hid (show CB w1 b1 b2 now (.slice va N vc) by
  rw [hw1, hb1, hb2]
  refine ⟨by simp [go_sem], by simp [go_sem], by simp [go_sem], by simp [go_sem], by simp [go_sem], by simp [go_sem], by simp [go_sem], #[.int .i64 0, .slice none 0 0], rfl, ?_⟩
  have := (MapKept.heap_alloc (w.alloc (.cells #[.int .i64 now, .slice va N vc] 55)) (.cells #[.int .i64 0, .slice none 0 0] 55)).1
  simpa using this)
 have HNE := Lib.hid (show b1 ≠ b2 ∧ b1 < w1.heap.size ∧ b2 < w1.heap.size ∧ w.heap.size ≤ b1 ∧ w.heap.size ≤ b2 from ⟨by omega, block_lt_of_cell HCB.out.c0, block_lt_of_cell HCB.out.e0, by omega, by omega⟩)
 rw [← hw1, ← hb2, ← hb1]
 have HB := Lib.hid hb
 clear hw1 hb1 hb2 hb
 obtain ⟨k0, k1, k2, k3, k4, k5, k6, -⟩ := HCB.out
 go_wp2_with fail
 refine (OD.out w1 HB.out).mono ?_
 rintro e w2 ⟨g, cap, rfl, hg, hdx, hb⟩
 replace HCB := Lib.hid (HCB.out.below hb)
 clear k0 k1 k2 k3 k4 k5 k6
 obtain ⟨k0, k1, k2, k3, k4, k5, k6, -⟩ := HCB.out
 have HG := Lib.hid (show b1 ≠ g ∧ b2 ≠ g ∧ w.heap.size ≤ g from ⟨by have := HNE.out; omega, by have := HNE.out; omega, by have := HNE.out; omega⟩)
 replace HB := Lib.hid (HB.out.trans (hb.mono HB.out.size))
 have HDX := Lib.hid hdx
 clear hb hdx hg OD
 go_upto_region 2 with fail
 clear k0 k1 k2 k3 k4 k5 k6
 replace HDX := Lib.hid (HDX.out.far HNE.out.2.2.2.1 (Ne.symm HG.out.1) 1 (.slice (some ⟨g, 0, none⟩) N cap)).full
 replace HCB := Lib.hid (HCB.out.put HNE.out.1 (.slice (some ⟨g, 0, none⟩) N cap))
 replace HB := Lib.hid (below_setCells b1 HNE.out.2.2.2.1 [.slice (some ⟨g, 0, none⟩) N cap] 1 _ HB.out)
 simp only [World.setCells] at HB
 obtain ⟨w3, hw3⟩ : ∃ y, y = w2.setCell ⟨b1, 1, none⟩ (.slice (some ⟨g, 0, none⟩) N cap) := ⟨_, rfl⟩
 rw [← hw3] at HDX HCB HB ⊢
 clear hw3
 obtain ⟨k0, k1, k2, k3, k4, k5, k6, -⟩ := HCB.out
 go_upto_region 3 with fail
 clear k0 k1 k2 k3 k4 k5 k6
 go_loopw [13] (fun i wr => ∃ k : Nat, k ≤ N ∧ i = .int .i64 (k : Int) ∧ DX wr g cap wr.heap.size ds ∧ CB wr b1 b2 now (.slice (some ⟨g, 0, none⟩) N cap) ∧ Below w.heap.size w wr) (fun i _ => N - (intOf i).toNat)
 case atStart => exact ⟨0, Nat.zero_le _, rfl, HDX.out, HCB.out, HB.out⟩
 case round =>
  clear HDX HCB HB
  obtain ⟨k, hk, rfl, hdx, hcb, hb⟩ := hrel
  obtain ⟨wo, rfl⟩ : ∃ x, x = wr := ⟨_, rfl⟩
  have HDX := Lib.hid hdx
  have HCB := Lib.hid hcb
  have HB := Lib.hid hb
  have HK := Lib.hid hk
  clear hdx hcb hb hk
  by_cases hlt : k < N
  ·obtain ⟨d, hd⟩ : ∃ d, ds[k]? = some d := ⟨_, List.getElem?_eq_getElem (by have := HN.out; omega)⟩
   have HDK := Lib.hid hd
   have HLT := Lib.hid hlt
   have hlt' : (k : Int) < (N : Int) := by omega
   obtain ⟨rv, hcd, hrs⟩ := HDX.out.doc hd
   have d3 : wo.cell? ⟨g, k * 4 + 3, none⟩ = some rv := hcd 3 _ rfl
   have hrd := HR.out d (List.mem_of_getElem? hd)
   have OV := Lib.hid (fun w (h : RS (Lo w.heap.size g) w rv d.revs) (hg : g < w.heap.size) => ownrevs_any rv d.revs g w h hg (by intro e; rw [e] at hrd; simp at hrd) hrd.2.1)
   have HRS := Lib.hid hrs
   obtain ⟨ra, rc, hrv, -⟩ := hrs
   obtain ⟨n, hn⟩ : ∃ n, n = d.revs.length := ⟨_, rfl⟩
   rw [← hn] at hrv OV
   have HNN := Lib.hid hn
   subst hrv
   have fg := HDX.out.frozen (k * 4 + 3)
   clear hd hcd hrd hn hlt
   obtain ⟨k0, k1, k2, k3, k4, k5, k6, -⟩ := HCB.out
   go_upto_region 6 with fail
   go_wp2_with fail
   refine (OV.out wo HRS.out HDX.out.lt.1).mono ?_
   rintro e w4 ⟨q, qc, rfl, hq, hoq, hb⟩
   have HDW := Lib.hid (show wo.cell? ⟨g, k * 4 + 3, none⟩ = some (.slice ra n rc) ∧ wo.frozen? ⟨g, k * 4 + 3, none⟩ = false from ⟨d3, fg⟩)
   have hgl := HDX.out.lt.1
   have HGL := Lib.hid hgl
   replace d3 := (hb.cell (p := ⟨g, k * 4 + 3, none⟩) hgl).trans d3
   replace fg := (hb.frozen (p := ⟨g, k * 4 + 3, none⟩) hgl).trans fg
   have HQ := Lib.hid (show wo.heap.size ≤ q ∧ q ≠ g ∧ q ≠ b1 ∧ q ≠ b2 ∧ w.heap.size ≤ q from ⟨hq, by omega, by have := block_lt_of_cell HCB.out.c0; dsimp only at this; omega, by have := block_lt_of_cell HCB.out.e0; dsimp only at this; omega, by have := HB.out.size; omega⟩)
   have HBR := Lib.hid (below_set_both hb ⟨g, k * 4 + 3, none⟩ (.slice (some ⟨q, 0, none⟩) n qc))
   replace HCB := Lib.hid ((HCB.out.below hb).far HG.out.1 HG.out.2.1 (k * 4 + 3) (.slice (some ⟨q, 0, none⟩) n qc))
   have HOQ := Lib.hid (hoq.setG (k * 4 + 3) (.slice (some ⟨q, 0, none⟩) n qc))
   replace HB := Lib.hid (below_setCells g HG.out.2.2 [.slice (some ⟨q, 0, none⟩) n qc] (k * 4 + 3) _ (HB.out.trans (hb.mono HB.out.size)))
   simp only [World.setCells] at HB
   clear k0 k1 k2 k3 k4 k5 k6 hq hoq hb hgl OV HRS
   go_upto_region 7 with fail
   obtain ⟨w5, hw5⟩ : ∃ y, y = w4.setCell ⟨g, k * 4 + 3, none⟩ (.slice (some ⟨q, 0, none⟩) n qc) := ⟨_, rfl⟩
   have d5 : w5.cell? ⟨g, k * 4 + 3, none⟩ = some (.slice (some ⟨q, 0, none⟩) n qc) := by rw [hw5]; simp [go_sem, d3]
   rw [← hw5] at HBR HCB HOQ HB ⊢
   clear hw5 d3 fg
   go_upto_region 8 with fail
   clear d5
   go_loopw [33] (fun i wi => ∃ j : Nat, j ≤ n ∧ i = .int .i64 (j : Int) ∧ OQ wi q qc g d.revs ∧ Below wo.heap.size (wo.setCell ⟨g, k * 4 + 3, none⟩ (.slice (some ⟨q, 0, none⟩) n qc)) wi ∧ CB wi b1 b2 now (.slice (some ⟨g, 0, none⟩) N cap) ∧ Below w.heap.size w wi) (fun i _ => n - (intOf i).toNat)
   case atStart => exact ⟨0, Nat.zero_le _, rfl, HOQ.out, HBR.out, HCB.out, HB.out⟩
   case round =>
    clear HOQ HBR HCB HB
    obtain ⟨j, hj, rfl, hoq, hbr, hcb, hb⟩ := hrel
    have HOQ := Lib.hid hoq
    have HBR := Lib.hid hbr
    have HCB := Lib.hid hcb
    have HB := Lib.hid hb
    have HJ := Lib.hid hj
    clear hoq hbr hcb hb hj
    by_cases hjn : j < n
    ·obtain ⟨r, hr⟩ : ∃ r, d.revs[j]? = some r := ⟨_, List.getElem?_eq_getElem (by have := HNN.out; omega)⟩
     have hjn' : (j : Int) < (n : Int) := by omega
     obtain ⟨tv, hrt, htk⟩ := HOQ.out.cells hr
     have HRJ := Lib.hid hr
     have hlen := (HR.out d (List.mem_of_getElem? HDK.out)).2.2 r (List.mem_of_getElem? hr)
     have CT := Lib.hid (fun w (h : Tk w tv r.t) => clonetrack_any tv r.t w h hlen)
     have HTK := Lib.hid htk
     have e4 := hrt 4 _ rfl
     obtain ⟨ta, tc, htv, -⟩ := htk
     obtain ⟨tn, htn⟩ : ∃ n, n = r.t.length := ⟨_, rfl⟩
     rw [← htn] at htv
     subst htv
     have d5 : wr.cell? ⟨g, k * 4 + 3, none⟩ = some (.slice (some ⟨q, 0, none⟩) n qc) := by
      rw [HBR.out.cell (p := ⟨g, k * 4 + 3, none⟩) HGL.out]
      simp [go_sem, HDW.out.1]
     have HE4 := Lib.hid (And.intro d5 e4)
     have HJN := Lib.hid (show ¬ ((j : Int) < 0) ∧ (j : Int) < (n : Int) from ⟨by omega, hjn'⟩)
     have HJL := Lib.hid hjn
     clear hr hrt htn hlen
     go_upto_region 10 with fail
     clear d5 e4
     refine Plan.wp_region_planw (fun w' => Below wr.heap.size wr w') 16 (([0, 1, 2, 3, 4, 5, 6, 7, 8, 9, 10, 11, 12].map (·, true)) ++ (([13].map (·, false)) ++ (([14, 15].map (·, true)) ++ ([16].map (·, false))))) (by kernel_rfl) (by kernel_rfl) (by kernel_rfl) (Below.refl _ _).drew ?_
     refine' Plan.plan_seg _ [0, 1, 2, 3, 4, 5, 6, 7, 8, 9, 10, 11, 12] (([13].map (·, false)) ++ (([14, 15].map (·, true)) ++ ([16].map (·, false)))) (by kernel_rfl) (by kernel_rfl) rfl (by exact (Below.refl _ _).drew) (fun wx hS => ?_) ?_
     rotate_left
     ·have d5 := (hS.cell (p := ⟨g, k * 4 + 3, none⟩) (block_lt_of_cell HE4.out.1)).trans HE4.out.1
      have e4 := (hS.cell (p := ⟨q, j * 5 + 4, none⟩) (block_lt_of_cell HE4.out.2)).trans HE4.out.2
      obtain ⟨j0, j1⟩ := HJN.out
      clear hS
      go_light
      iterate 13 (apply Plan.seg_pick; rfl; intro K hK; go_wp)
      exact Plan.seg_nil
     have hb : Below wr.heap.size wr wr.drew := (Below.refl _ _).drew
     have HS := Lib.hid hb
     clear hb
     refine Plan.plan_of_effect rfl (fun K hK => ?_)
     go_wp2_with fail
     refine (CT.out _ (HTK.out.below HS.out)).mono ?_
     rintro e w7 ⟨nv, rfl, ho, hb⟩
     have HQL := Lib.hid (show g < wr.drew.heap.size ∧ q < wr.drew.heap.size from ⟨block_lt_of_cell HE4.out.1, block_lt_of_cell HE4.out.2⟩)
     obtain ⟨na, nc, hnv, -⟩ := ho.tk
     obtain ⟨nn, hnn⟩ : ∃ n, n = r.t.length := ⟨_, rfl⟩
     rw [← hnn] at hnv
     subst hnv
     have HO := Lib.hid ho
     replace HS := Lib.hid (HS.out.trans (hb.mono HS.out.size))
     clear hb ho hnn
     go_wp2_with fail
     refine ⟨HS.out, ?_⟩
     refine' Plan.plan_seg _ [14, 15] [(16, false)] (by kernel_rfl) (by kernel_rfl) rfl (by exact HS.out) (fun wx hS => ?_) ?_
     rotate_left
     ·obtain ⟨j0, j1⟩ := HJN.out
      clear hS
      go_light
      iterate 2 (apply Plan.seg_pick; rfl; intro K hK; go_wp)
      exact Plan.seg_nil
     have e7 := (HS.out.cell (p := ⟨q, j * 5 + 4, none⟩) (block_lt_of_cell HE4.out.2)).trans HE4.out.2
     have f7 := (HOQ.out.below HS.out).frozen (j * 5 + 4)
     refine Plan.plan_of_last rfl (fun K hK => ?_)
     go_wp2_with fail
     refine Plan.plan_done ?_
     have hts := HO.out.ts2 HQL.out.1 HQL.out.2
     have HOQ2 := Lib.hid ((HOQ.out.below HS.out).setT HRJ.out hts)
     have HBR2 := Lib.hid (below_setCells q HQ.out.1 [.slice na nn nc] (j * 5 + 4) _ (HBR.out.trans (HS.out.mono (by have := HBR.out.size; simpa [World.setCell] using this))))
     have HB2 := Lib.hid (below_setCells q HQ.out.2.2.2.2 [.slice na nn nc] (j * 5 + 4) _ (HB.out.trans (HS.out.mono HB.out.size)))
     simp only [World.setCells] at HBR2 HB2
     have HCB2 := Lib.hid ((HCB.out.below HS.out).far (Ne.symm HQ.out.2.2.1) (Ne.symm HQ.out.2.2.2.1) (j * 5 + 4) (.slice na nn nc))
     clear hts e7 f7 HOQ HBR HB HCB
     have hw9 : (j : Int) + 1 ≤ 9223372036854775807 := by have := HJL.out; have := HNN.out; have := (HR.out d (List.mem_of_getElem? HDK.out)).2.1; omega
     go_wp2_with fail
     go_roundw
     case rel => exact ⟨j + 1, by have := HJL.out; omega, by simp, HOQ2.out, HBR2.out, HCB2.out, HB2.out⟩
     case measure =>
      have := HJL.out
      simp [intOf]
      omega
    ·have hjn2 : j = n := by have := HJ.out; omega
     have hDX := HDX.out.turn HDK.out HBR.out (by have := HOQ.out.rs; rw [← HNN.out] at this; exact this)
     rw [show ds.set k { d with revs := d.revs } = ds from list_set_same HDK.out] at hDX
     have HDX2 := Lib.hid hDX
     subst hjn2
     clear hDX
     have hw9 : (k : Int) + 1 ≤ 9223372036854775807 := by have := HLT.out; have := HN1.out; omega
     go_wp2_with fail
     go_roundw
     case rel => exact ⟨k + 1, by have := HLT.out; omega, by simp, HDX2.out, HCB.out, HB.out⟩
     case measure =>
      have := HLT.out
      simp [intOf]
      omega
  ·have hkn : k = N := by have := HK.out; omega
   subst hkn
   obtain ⟨k0, k1, k2, k3, k4, k5, k6, -⟩ := HCB.out
   go_wp2_with fail
   have z0 : ((wo.setCell ⟨b2, 0, none⟩ (.int .i64 now)).setCell ⟨b2, 1, none⟩ (.slice (some ⟨g, 0, none⟩) k cap)).cell? ⟨b2, 0, none⟩ = some (.int .i64 now) := by simp [go_sem, k3]
   have z1 : ((wo.setCell ⟨b2, 0, none⟩ (.int .i64 now)).setCell ⟨b2, 1, none⟩ (.slice (some ⟨g, 0, none⟩) k cap)).cell? ⟨b2, 1, none⟩ = some (.slice (some ⟨g, 0, none⟩) k cap) := by simp [go_sem, k4]
   have hsk := (HDX.out.dcs.skip (w' := wo.setCell ⟨b2, 0, none⟩ (.int .i64 now)) HCB.out.s (fun x hx => setCells_other b2 x hx [.int .i64 now] 0 wo)).skip (w' := (wo.setCell ⟨b2, 0, none⟩ (.int .i64 now)).setCell ⟨b2, 1, none⟩ (.slice (some ⟨g, 0, none⟩) k cap)) (HCB.out.s.set 0 (.int .i64 now)) (fun x hx => setCells_other b2 x hx [.slice (some ⟨g, 0, none⟩) k cap] 1 _)
   have hbf := below_setCells b2 HNE.out.2.2.2.2 [.slice (some ⟨g, 0, none⟩) k cap] 1 _ (below_setCells b2 HNE.out.2.2.2.2 [.int .i64 now] 0 _ HB.out)
   simp only [World.setCells] at hbf
   rw [← HN.out] at hsk
   obtain ⟨wf, hwf⟩ : ∃ x, x = (wo.setCell ⟨b2, 0, none⟩ (.int .i64 now)).setCell ⟨b2, 1, none⟩ (.slice (some ⟨g, 0, none⟩) k cap) := ⟨_, rfl⟩
   rw [← hwf] at z0 z1 hsk hbf ⊢
   clear hwf
   exact bodyPost_ret (v := .agg #[.int .i64 now, .slice (some ⟨g, 0, none⟩) k cap]) (by simp [results, Tryz.results64, go_sem, z0, z1]) rfl ⟨_, rfl, hsk, hbf⟩
inductive FindR (ds : List Dc) (s : ByteArray) : Int → Prop where
 | at (i : Nat) (d : Dc) (h : ds[i]? = some d) (hn : d.name = s) (hb : ∀ (j : Nat) (x : Dc), j < i → ds[j]? = some x → x.name ≠ s) : FindR ds s (i : Int)
 | none (h : ∀ (j : Nat) (x : Dc), ds[j]? = some x → x.name ≠ s) : FindR ds s (-1)
set_option maxRecDepth 100000 in
set_option maxHeartbeats 8000000 in
theorem same_name (d : Dc) (s : ByteArray) (rv : Value) (g : Nat) (w : World) (h : w.cell? ⟨g, 0, none⟩ = some (.string s)) (ho : rv.oneCell' = true) :
  Calls Tryz.prog 146 #[.agg (docL d rv).toArray, .pointer (some ⟨g, 0, none⟩)] w fun e w' => e = .returned (.bool (decide (d.name = s))) ∧ Below w.heap.size w w' := by
 obtain ⟨w1, hw1⟩ : ∃ y, y = w.alloc (.cells #[.string d.name, .string d.owner, .int .i64 d.till, rv] 65) := ⟨_, rfl⟩
 obtain ⟨q, hq⟩ : ∃ y, y = w.heap.size := ⟨_, rfl⟩
 have hb : Below w.heap.size w w1 := by rw [hw1]; exact below_box _ _
 have c0 : w1.cell? ⟨q, 0, none⟩ = some (.string d.name) := by rw [hw1, hq]; simp [go_sem]
 have c1 := (hb.cell (p := ⟨g, 0, none⟩) (block_lt_of_cell h)).trans h
 have HB := Lib.hid hb
 unfold docL
 go_enter Tryz.func146, Tryz.ntmps146
 go_upto_region 1 with fail
 rw [← hw1, ← hq]
 clear hw1 hq hb ho h
 go_wp2_with fail
 go_ret
 refine ⟨ret_bool ?_, HB.out⟩
 by_cases h : d.name = s
 ·rw [decide_eq_true h, h]
  simp
 ·rw [decide_eq_false h]
  simp [bytes_ne h]
set_option maxRecDepth 100000 in
set_option maxHeartbeats 8000000 in
theorem finddoc_any (ds : List Dc) (v : Value) (now : Int) (s : ByteArray) (w : World) (h : Dcs w v ds) : Calls Tryz.prog 104 #[.agg #[.int .i64 now, v], .string s] w fun e w' => ∃ i, e = .returned (.int .i64 i) ∧ FindR ds s i ∧ Below w.heap.size w w' := by
 have HD := Lib.hid h
 obtain ⟨ao, cap, hv, hc1, hc2, -⟩ := h
 obtain ⟨N, hN⟩ : ∃ N, N = ds.length := ⟨_, rfl⟩
 rw [← hN] at hv hc1
 have HN := Lib.hid hN
 have HNB := Lib.hid (show N ≤ 9223372036854775807 by unfold maxLen at hc2; omega)
 subst hv
 clear hN hc1 hc2
 obtain ⟨w1, hw1⟩ : ∃ y, y = (w.alloc (.cells #[.int .i64 now, .slice ao N cap] 55)).alloc (.cells #[.string s] 9) := ⟨_, rfl⟩
 obtain ⟨g, hg⟩ : ∃ y, y = w.heap.size := ⟨_, rfl⟩
 have hb : Below w.heap.size w w1 := by rw [hw1]; exact ((Below.refl _ _).alloc (Nat.le_refl _) _).alloc (by simp [go_sem]) _
 have c1 : w1.cell? ⟨g, 1, none⟩ = some (.slice ao N cap) := by rw [hw1, hg]; simp [go_sem]
 have c2 : w1.cell? ⟨g + 1, 0, none⟩ = some (.string s) := by rw [hw1, hg]; simp [go_sem]
 have HC2 := Lib.hid c2
 replace HD := Lib.hid (HD.out.below hb)
 have HB := Lib.hid hb
 go_enter Tryz.func104, Tryz.ntmps104
 go_upto_region 1 with fail
 rw [← hw1, ← hg]
 clear hw1 hg hb c2
 have HI : Calls Tryz.prog 145 #[.slice ao N cap, .func (.func 146) #[] #[.pointer (some ⟨g + 1, 0, none⟩)]] w1 fun e w' => ∃ i, e = .returned (.int .i64 i) ∧ FindR ds s i ∧ Below w1.heap.size w1 w' := by
  clear c1
  go_enter Tryz.func145, Tryz.ntmps145
  go_upto_region 2 with fail
  go_loopw [8] (fun i wr => ∃ k : Nat, k ≤ N ∧ i = .int .i64 (k : Int) ∧ Below w1.heap.size w1 wr ∧ ∀ (j : Nat) (x : Dc), j < k → ds[j]? = some x → x.name ≠ s) (fun i _ => N - (intOf i).toNat)
  case atStart => exact ⟨0, Nat.zero_le _, rfl, Below.refl _ _, fun j x hj => by omega⟩
  case round =>
   obtain ⟨k, hk, rfl, hb, hno⟩ := hrel
   have HBB := Lib.hid hb
   have HNO := Lib.hid hno
   have HK := Lib.hid hk
   clear hb hno hk
   by_cases hlt : k < N
   ·obtain ⟨d, hd⟩ : ∃ d, ds[k]? = some d := ⟨_, List.getElem?_eq_getElem (by have := HN.out; omega)⟩
    have hlt' : (k : Int) < (N : Int) := by omega
    obtain ⟨ao2, cap2, e, -, -, hT⟩ := HD.out.below HBB.out
    have e1 := HN.out
    simp only [Value.slice.injEq] at e
    obtain ⟨rfl, -, rfl⟩ := e
    obtain ⟨b, o, rv, rfl, hA, hR⟩ := hT k d hd
    have HA := Lib.hid hA
    have HF := Lib.hid (fun w (h : w.cell? ⟨g + 1, 0, none⟩ = some (.string s)) => same_name d s rv (g + 1) w h hR.one)
    have HDK := Lib.hid hd
    have HLT := Lib.hid hlt
    have hw9 : (k : Int) + 1 ≤ 9223372036854775807 := by have := HNB.out; omega
    have HW9 := Lib.hid hw9
    clear hT hA hR hd e1 hw9
    go_upto_region 4 with fail
    apply wp_region_lit
    iterate 12 go_step
    refine wpl_loadD HA.out rfl rfl rfl ?_
    go_wp2_with fail
    refine (HF.out _ ((HBB.out.cell (p := ⟨g + 1, 0, none⟩) (block_lt_of_cell HC2.out)).trans HC2.out)).mono ?_
    rintro e w3 ⟨rfl, hb⟩
    replace HBB := Lib.hid (HBB.out.trans (hb.mono HBB.out.size))
    clear hb HF HA
    by_cases hn : d.name = s
    ·rw [decide_eq_true hn]
     have HNM := Lib.hid hn
     clear hn
     go_wp2_with fail
     go_ret
     exact ⟨_, rfl, .at k d HDK.out HNM.out HNO.out, HBB.out⟩
    ·rw [decide_eq_false hn]
     have HNM := Lib.hid hn
     have hw9 := HW9.out
     clear hn
     go_wp2_with fail
     go_roundw
     case rel =>
      refine ⟨k + 1, by have := HLT.out; omega, by simp, HBB.out, fun j x hj hx => ?_⟩
      by_cases hjk : j = k
      ·subst hjk
       have := HDK.out
       rw [hx] at this
       obtain rfl := Option.some.inj this
       exact HNM.out
      ·exact HNO.out j x (by omega) hx
     case measure =>
      have := HLT.out
      simp [intOf]
      omega
   ·have hkn : k = N := by have := HK.out; omega
    go_wp2_with fail
    go_ret
    refine ⟨_, rfl, .none fun j x hx => HNO.out j x ?_ hx, HBB.out⟩
    have := (List.getElem?_eq_some_iff.1 hx).1
    have := HN.out
    omega
 go_wp2_with fail
 refine HI.mono ?_
 rintro e w3 ⟨i, rfl, hr, hb⟩
 have HRR := Lib.hid hr
 have hbb := HB.out.trans (hb.mono HB.out.size)
 clear hb hr
 go_wp2_with fail
 go_ret
 exact ⟨i, rfl, HRR.out, hbb⟩
structure Rpt where
 kind : Int
 user : ByteArray
 doc : ByteArray
 rev : Int
def outL (o : Rpt) : List Value := [.int .i64 o.kind, .string o.user, .string o.doc, .int .i64 o.rev]
def Outs (w : World) (v : Value) (os : List Rpt) : Prop := ∃ ao cap, v = .slice ao os.length cap ∧ os.length ≤ cap ∧ cap ≤ maxLen ∧ ∀ i x, os[i]? = some x → ∃ b o, ao = some ⟨b, o, none⟩ ∧ w.rangeAt b (o + i * 4) (outL x)
theorem Outs.nil (w : World) : Outs w (.slice none 0 0) [] := ⟨none, 0, rfl, Nat.le_refl _, by unfold maxLen; omega, fun i x hi => by simp at hi⟩
theorem Outs.below {w w' : World} {v : Value} {os : List Rpt} (h : Outs w v os) (hb : Below w.heap.size w w') : Outs w' v os := by
 obtain ⟨ao, cap, e, h1, h2, h3⟩ := h
 refine ⟨ao, cap, e, h1, h2, fun i x hi => ?_⟩
 obtain ⟨b, o, e2, hr⟩ := h3 i x hi
 exact ⟨b, o, e2, rangeAt_below hr (by simp [outL]) hb⟩
theorem Dcs.nil (w : World) : Dcs w (.slice none 0 0) [] := ⟨none, 0, rfl, Nat.le_refl _, by unfold maxLen; omega, fun i x hi => by simp at hi⟩
def StepPost (w : World) (R : Int → Int → List Dc → List Rpt → Prop) (e : Ending) (w' : World) : Prop :=
 ∃ code now v ov ds os, e = .returned (.tuple #[.agg #[.int .i64 now, v], ov, .int .i64 code]) ∧ R code now ds os ∧ Dcs w' v ds ∧ Outs w' ov os ∧ Below w.heap.size w w'
inductive OneR (now : Int) (ds : List Dc) (kind : Int) (u nm : ByteArray) (R : Dc → Int → Dc → Prop) : Int → Int → List Dc → List Rpt → Prop where
 | none (h : FindR ds nm (-1)) : OneR now ds kind u nm R 7 0 [] []
 | fails (i : Nat) (d : Dc) (hf : FindR ds nm (i : Int)) (hd : ds[i]? = some d) (c : Int) (d' : Dc) (hr : R d c d') (hz : c ≠ 0) : OneR now ds kind u nm R c 0 [] []
 | done (i : Nat) (d : Dc) (hf : FindR ds nm (i : Int)) (hd : ds[i]? = some d) (d' : Dc) (hr : R d 0 d') : OneR now ds kind u nm R 0 now (ds.set i d') [⟨kind, u, nm, (d'.revs.length : Int) - 1⟩]
set_option maxRecDepth 100000 in
set_option maxHeartbeats 8000000 in
theorem address_any (k : Int) (u nm : ByteArray) (w : World) : Calls Tryz.prog 198 #[.agg #[.int .i64 k, .string u, .string nm]] w fun e w' => e = .returned (.agg #[.int .i64 k, .string u, .string nm]) ∧ Below w.heap.size w w' := by
 go_enter Tryz.func198, Tryz.ntmps198
 go_wp2_with fail
 go_returns
 exact ⟨rfl, by go_grown⟩
set_option maxRecDepth 100000 in
theorem take4 (a b c d : Value) : (List.take Tryz.prog.types[142].size [a, b, c, d]).toArray = #[a, b, c] := by kernel_rfl
structure TG (w : World) (b : Nat) (k : Int) (u nm : ByteArray) : Prop where
 c0 : w.cell? ⟨b, 0, none⟩ = some (.int .i64 k)
 c1 : w.cell? ⟨b, 1, none⟩ = some (.string u)
 c2 : w.cell? ⟨b, 2, none⟩ = some (.string nm)
theorem TG.same {w w' : World} {b : Nat} {k : Int} {u nm : ByteArray} (h : TG w b k u nm) (hb : w'.heap[b]? = w.heap[b]?) : TG w' b k u nm :=
 ⟨(World.cell?_of_block (a := ⟨b, 0, none⟩) hb).trans h.c0, (World.cell?_of_block (a := ⟨b, 1, none⟩) hb).trans h.c1, (World.cell?_of_block (a := ⟨b, 2, none⟩) hb).trans h.c2⟩
theorem TG.below {w w' : World} {b : Nat} {k : Int} {u nm : ByteArray} (h : TG w b k u nm) (hb : Below w.heap.size w w') : TG w' b k u nm := h.same (hb.block b (block_lt_of_cell h.c0))
theorem CB.same {w w' : World} {b1 b2 : Nat} {now : Int} {v : Value} (h : CB w b1 b2 now v) (k1 : w'.heap[b1]? = w.heap[b1]?) (k2 : w'.heap[b2]? = w.heap[b2]?) : CB w' b1 b2 now v := by
 have fz : ∀ b p, w'.heap[b]? = w.heap[b]? → w'.frozen? ⟨b, p, none⟩ = w.frozen? ⟨b, p, none⟩ := fun b p hb => by unfold World.frozen?; simp only [hb]
 exact ⟨(World.cell?_of_block (a := ⟨b1, 0, none⟩) k1).trans h.c0, (World.cell?_of_block (a := ⟨b1, 1, none⟩) k1).trans h.c1, (fz b1 1 k1).trans h.f1, (World.cell?_of_block (a := ⟨b2, 0, none⟩) k2).trans h.e0, (World.cell?_of_block (a := ⟨b2, 1, none⟩) k2).trans h.e1, (fz b2 0 k2).trans h.g0, (fz b2 1 k2).trans h.g1, by obtain ⟨c, hs, hc⟩ := h.s; exact ⟨c, hs, k2.trans hc⟩⟩
theorem Chg2.other {w w' : World} {g o : Nat} {d d' : Dc} (h : Chg2 w g o d d' w') {b : Nat} (hb : b < w.heap.size) (hn : b ≠ g) : w'.heap[b]? = w.heap[b]? := by
 rcases h with (⟨-, h⟩ | ⟨q, cap, rs, -, -, h, -⟩) | ⟨ow, tl, -, h⟩
 ·exact h.block b hb
 ·exact (h.block b hb).trans (setCells_other g b hn [_] (o + 3) w)
 ·exact (h.block b hb).trans ((setCells_other g b hn [_] (o + 2) _).trans (setCells_other g b hn [_] (o + 1) w))
theorem Chg2.low {w w' w0 : World} {g o n : Nat} {d d' : Dc} (h : Chg2 w g o d d' w') (hg : n ≤ g) (hn : n ≤ w.heap.size) (hb : Below n w0 w) : Below n w0 w' := by
 rcases h with (⟨-, h⟩ | ⟨q, cap, rs, -, -, h, -⟩) | ⟨ow, tl, -, h⟩
 ·exact hb.trans (h.mono hn)
 ·have := below_setCells g hg [.slice (some ⟨q, 0, none⟩) rs.length cap] (o + 3) _ hb
  simp only [World.setCells] at this
  exact this.trans (h.mono hn)
 ·have := below_setCells g hg [.int .i64 tl] (o + 2) _ (below_setCells g hg [.string ow] (o + 1) _ hb)
  simp only [World.setCells] at this
  exact this.trans (h.mono hn)
theorem Chg2.size {w w' : World} {g o : Nat} {d d' : Dc} (h : Chg2 w g o d d' w') : w.heap.size ≤ w'.heap.size := by
 rcases h with (⟨-, h⟩ | ⟨q, cap, rs, -, -, h, -⟩) | ⟨ow, tl, -, h⟩
 ·exact h.size
 ·simpa [World.setCell] using h.size
 ·simpa [World.setCell] using h.size
theorem cb_fin {w w' : World} {b1 b2 : Nat} {now : Int} {v0 v u : Value} {ds : List Dc} (hcb : CB w' b1 b2 now v0) (hd : Dcs w' v ds) (hb : Below w.heap.size w w') (hw : w.heap.size ≤ b2) (n : Int) :
  ((w'.setCell ⟨b2, 0, none⟩ (.int .i64 n)).setCell ⟨b2, 1, none⟩ u).cell? ⟨b2, 0, none⟩ = some (.int .i64 n) ∧ ((w'.setCell ⟨b2, 0, none⟩ (.int .i64 n)).setCell ⟨b2, 1, none⟩ u).cell? ⟨b2, 1, none⟩ = some u ∧ Dcs ((w'.setCell ⟨b2, 0, none⟩ (.int .i64 n)).setCell ⟨b2, 1, none⟩ u) v ds ∧ Below w.heap.size w ((w'.setCell ⟨b2, 0, none⟩ (.int .i64 n)).setCell ⟨b2, 1, none⟩ u) ∧ ∀ b, b ≠ b2 → ((w'.setCell ⟨b2, 0, none⟩ (.int .i64 n)).setCell ⟨b2, 1, none⟩ u).heap[b]? = w'.heap[b]? := by
 have k3 := hcb.e0
 have k4 := hcb.e1
 refine ⟨by simp [go_sem, k3], by simp [go_sem, k4], ?_, ?_, fun b hb => (setCells_other b2 b hb [u] 1 _).trans (setCells_other b2 b hb [.int .i64 n] 0 w')⟩
 ·exact (hd.skip (w' := w'.setCell ⟨b2, 0, none⟩ (.int .i64 n)) hcb.s (fun x hx => setCells_other b2 x hx [.int .i64 n] 0 w')).skip (hcb.s.set 0 (.int .i64 n)) (fun x hx => setCells_other b2 x hx [u] 1 _)
 ·have := below_setCells b2 hw [u] 1 _ (below_setCells b2 hw [.int .i64 n] 0 _ hb)
  simpa only [World.setCells] using this
set_option maxRecDepth 100000 in
theorem built_out (o : Rpt) : Tryz.prog.builtSlice 88 1 [(0, .agg (outL o).toArray)] = some (outL o).toArray := by kernel_rfl
structure EvX (T : TypeId) (kind : Int) (u nm : ByteArray) (x : Value) : Prop where
 n154 : T ≠ 154
 n144 : T ≠ 144
 addr : ∀ (x : Value) (w : World), (Instr.typeAssert (.iface T x) 20 159 true).run Tryz.prog w = .ok (.tuple #[.iface T x, .bool true]) w
 inv : ∀ (w : World), (method 343 T x "cutroom/bin.address").run Tryz.prog w = .ok (198, .agg #[.int .i64 kind, .string u, .string nm]) w
set_option maxRecDepth 100000 in
set_option maxHeartbeats 16000000 in
theorem step_one (ds : List Dc) (v : Value) (now kind : Int) (u nm : ByteArray) (T : TypeId) (x : Value) (R : Dc → Int → Dc → Prop) (w : World) (h : Dcs w v ds) (h0 : ds ≠ []) (h1 : ds.length ≤ 16) (hE : EvX T kind u nm x)
  (hch : ∀ (d : Dc) (g o m : Nat) (w1 : World), d ∈ ds → Below w.heap.size w w1 → PD w1 g o m d → Calls Tryz.prog 105 #[.pointer (some ⟨g, o, none⟩), .iface T x, .int .i64 now] w1 (ChangePost w1 g o d (R d))) :
  Calls Tryz.prog 63 #[.agg #[.int .i64 now, v], .iface T x] w (StepPost w (OneR now ds kind u nm R)) := by
 have CHX := Lib.hid hch
 have OD := Lib.hid (fun w2 (hb : Below w.heap.size w w2) => owndocs_any v ds w w2 h hb h0 (by omega))
 obtain ⟨va, vc, hv, -⟩ := h
 obtain ⟨N, hN⟩ : ∃ N, N = ds.length := ⟨_, rfl⟩
 rw [← hN] at hv OD
 have HN := Lib.hid hN
 have HN1 := Lib.hid (show N ≤ 16 by omega)
 subst hv
 clear hch h0 h1 hN
 have m154 := ta_miss154 T hE.n154
 have m144 := ta_miss144 T hE.n144
 have maddr := hE.addr
 have minv := hE.inv
 clear hE
 go_enter Tryz.func63, Tryz.ntmps63
 go_upto_region 1 with fail
 obtain ⟨w1, hw1⟩ : ∃ y, y = (w.alloc (.cells #[.int .i64 now, .slice va N vc] 55)).alloc (.cells #[.int .i64 0, .slice none 0 0] 55) := ⟨_, rfl⟩
 obtain ⟨b1, hb1⟩ : ∃ y, y = w.heap.size := ⟨_, rfl⟩
 obtain ⟨b2, hb2⟩ : ∃ y, y = w.heap.size + 1 := ⟨_, rfl⟩
 have hb : Below w.heap.size w w1 := by rw [hw1]; exact ((Below.refl _ _).alloc (Nat.le_refl _) _).alloc (by simp [go_sem]) _
 have HCB := Lib.hid (show CB w1 b1 b2 now (.slice va N vc) by
  rw [hw1, hb1, hb2]
  refine ⟨by simp [go_sem], by simp [go_sem], by simp [go_sem], by simp [go_sem], by simp [go_sem], by simp [go_sem], by simp [go_sem], #[.int .i64 0, .slice none 0 0], rfl, ?_⟩
  have := (MapKept.heap_alloc (w.alloc (.cells #[.int .i64 now, .slice va N vc] 55)) (.cells #[.int .i64 0, .slice none 0 0] 55)).1
  simpa using this)
 have HNE := Lib.hid (show b1 ≠ b2 ∧ b1 < w1.heap.size ∧ b2 < w1.heap.size ∧ w.heap.size ≤ b1 ∧ w.heap.size ≤ b2 from ⟨by omega, block_lt_of_cell HCB.out.c0, block_lt_of_cell HCB.out.e0, by omega, by omega⟩)
 rw [← hw1, ← hb2, ← hb1]
 have HB := Lib.hid hb
 clear hw1 hb1 hb2 hb
 obtain ⟨k0, k1, k2, k3, k4, k5, k6, -⟩ := HCB.out
 go_wp2_with fail
 refine (OD.out w1 HB.out).mono ?_
 rintro e w2 ⟨g, cap, rfl, hg, hdx, hb⟩
 replace HCB := Lib.hid (HCB.out.below hb)
 clear k0 k1 k2 k3 k4 k5 k6
 obtain ⟨k0, k1, k2, k3, k4, k5, k6, -⟩ := HCB.out
 have HG := Lib.hid (show b1 ≠ g ∧ b2 ≠ g ∧ w.heap.size ≤ g from ⟨by have := HNE.out; omega, by have := HNE.out; omega, by have := HNE.out; omega⟩)
 replace HB := Lib.hid (HB.out.trans (hb.mono HB.out.size))
 have HDX := Lib.hid hdx
 clear hb hdx hg OD
 go_upto_region 2 with fail
 clear k0 k1 k2 k3 k4 k5 k6
 replace HDX := Lib.hid (HDX.out.far HNE.out.2.2.2.1 (Ne.symm HG.out.1) 1 (.slice (some ⟨g, 0, none⟩) N cap))
 replace HCB := Lib.hid (HCB.out.put HNE.out.1 (.slice (some ⟨g, 0, none⟩) N cap))
 replace HB := Lib.hid (below_setCells b1 HNE.out.2.2.2.1 [.slice (some ⟨g, 0, none⟩) N cap] 1 _ HB.out)
 simp only [World.setCells] at HB
 obtain ⟨w3, hw3⟩ : ∃ y, y = w2.setCell ⟨b1, 1, none⟩ (.slice (some ⟨g, 0, none⟩) N cap) := ⟨_, rfl⟩
 rw [← hw3] at HDX HCB HB ⊢
 clear hw3
 go_upto_region 9 with fail
 have hba : Below w3.heap.size w3 (w3.alloc (.cells #[.int .i64 0] 154)) := below_box _ _
 obtain ⟨w4, hw4⟩ : ∃ y, y = w3.alloc (.cells #[.int .i64 0] 154) := ⟨_, rfl⟩
 rw [← hw4] at hba ⊢
 clear hw4
 refine (address_any kind u nm w4).mono ?_
 rintro e w5 ⟨rfl, hb⟩
 replace hb := hba.trans (hb.mono hba.size)
 replace HDX := Lib.hid (HDX.out.below hb)
 replace HCB := Lib.hid (HCB.out.below hb)
 replace HB := Lib.hid (HB.out.trans (hb.mono HB.out.size))
 clear hb hba
 go_upto_region 9 with fail
 obtain ⟨w6, hw6⟩ : ∃ y, y = w5.alloc (.cells #[.int .i64 kind, .string u, .string nm] 142) := ⟨_, rfl⟩
 obtain ⟨b11, hb11⟩ : ∃ y, y = w5.heap.size := ⟨_, rfl⟩
 have hb : Below w5.heap.size w5 w6 := by rw [hw6]; exact below_box _ _
 have HT := Lib.hid (show TG w6 b11 kind u nm by rw [hw6, hb11]; exact ⟨by simp [go_sem], by simp [go_sem], by simp [go_sem]⟩)
 have HNT := Lib.hid (show b11 ≠ b2 ∧ b11 ≠ g from ⟨by have := block_lt_of_cell HCB.out.e0; dsimp only at this; omega, by have := HDX.out.lt.1; omega⟩)
 rw [← hw6, ← hb11]
 replace HDX := Lib.hid (HDX.out.below hb)
 replace HCB := Lib.hid (HCB.out.below hb)
 replace HB := Lib.hid (HB.out.trans (hb.mono HB.out.size))
 clear hb hw6 hb11
 obtain ⟨k0, k1, k2, k3, k4, k5, k6, -⟩ := HCB.out
 obtain ⟨t0, t1, t2⟩ := HT.out
 have FD := Lib.hid (finddoc_any ds (.slice (some ⟨g, 0, none⟩) N cap) now nm w6 (by have := HDX.out.dcs; rwa [← HN.out] at this))
 go_wp2_with fail
 refine FD.out.mono ?_
 rintro e w7 ⟨fi, rfl, hf, hb⟩
 have HF := Lib.hid hf
 replace HDX := Lib.hid (HDX.out.below hb)
 replace HCB := Lib.hid (HCB.out.below hb)
 replace HT := Lib.hid (HT.out.below hb)
 replace HB := Lib.hid (HB.out.trans (hb.mono HB.out.size))
 clear k0 k1 k2 k3 k4 k5 k6 t0 t1 t2 hb hf FD
 go_upto_region 19 with fail
 obtain ⟨w8, hw8⟩ : ∃ y, y = w7.alloc (.cells #[.int .i64 0, .string ⟨#[]⟩, .string ⟨#[]⟩, .slice none 0 0] 144) := ⟨_, rfl⟩
 have hb : Below w7.heap.size w7 w8 := by rw [hw8]; exact below_box _ _
 rw [← hw8]
 replace HDX := Lib.hid (HDX.out.below hb)
 replace HCB := Lib.hid (HCB.out.below hb)
 replace HT := Lib.hid (HT.out.below hb)
 replace HB := Lib.hid (HB.out.trans (hb.mono HB.out.size))
 clear hb hw8 m154 m144 maddr minv
 by_cases hneg : fi < 0
 ·obtain ⟨k0, k1, k2, k3, k4, k5, k6, -⟩ := HCB.out
  have HNG := Lib.hid hneg
  go_wp2_with fail
  have z0 : ((w8.setCell ⟨b2, 0, none⟩ (.int .i64 0)).setCell ⟨b2, 1, none⟩ (.slice none 0 0)).cell? ⟨b2, 0, none⟩ = some (.int .i64 0) := by simp [go_sem, k3]
  have z1 : ((w8.setCell ⟨b2, 0, none⟩ (.int .i64 0)).setCell ⟨b2, 1, none⟩ (.slice none 0 0)).cell? ⟨b2, 1, none⟩ = some (.slice none 0 0) := by simp [go_sem, k4]
  have hbf := below_setCells b2 HNE.out.2.2.2.2 [.slice none 0 0] 1 _ (below_setCells b2 HNE.out.2.2.2.2 [.int .i64 0] 0 _ HB.out)
  simp only [World.setCells] at hbf
  have hfi : FindR ds nm (-1) := by
   have h1 := HF.out
   cases h1 with
   | «at» i d h hn hb => have := HNG.out; omega
   | none h => exact .none h
  obtain ⟨wf, hwf⟩ : ∃ x, x = (w8.setCell ⟨b2, 0, none⟩ (.int .i64 0)).setCell ⟨b2, 1, none⟩ (.slice none 0 0) := ⟨_, rfl⟩
  rw [← hwf] at z0 z1 hbf ⊢
  clear hwf
  exact bodyPost_ret (v := .tuple #[.agg #[.int .i64 0, .slice none 0 0], .slice none 0 0, .int .i64 7]) (by simp [results, Tryz.results63, go_sem, z0, z1]) rfl ⟨7, 0, _, _, [], [], rfl, .none hfi, Dcs.nil _, Outs.nil _, hbf⟩
 obtain ⟨fk, d, hfk, hdk⟩ : ∃ (fk : Nat) (d : Dc), fi = (fk : Int) ∧ ds[fk]? = some d := by
  have h1 := HF.out
  cases h1 with
  | «at» i d h hn hb => exact ⟨i, d, rfl, h⟩
  | none h => omega
 subst hfk
 have HDK := Lib.hid hdk
 have HFL := Lib.hid (show fk < N by have := (List.getElem?_eq_some_iff.1 hdk).1; have := HN.out; omega)
 have CH := Lib.hid (fun w1 (hb : Below w.heap.size w w1) (h : PD w1 g (fk * 4) w8.heap.size d) => CHX.out d g (fk * 4) w8.heap.size w1 (List.mem_of_getElem? HDK.out) hb h)
 have HPD := Lib.hid (HDX.out.full.pd hdk)
 clear hneg hdk
 go_upto_region 21 with fail
 have HI := Lib.hid (show ¬ ((fk : Int) < 0) ∧ (fk : Int) < (N : Int) from ⟨by omega, by have := HFL.out; omega⟩)
 refine Plan.wp_region_plan (fun w' => w'.cell? ⟨b1, 0, none⟩ = some (.int .i64 now) ∧ w'.cell? ⟨b1, 1, none⟩ = some (.slice (some ⟨g, 0, none⟩) N cap)) (([0, 1, 2, 3, 4, 5, 6].map (·, true)) ++ (([7].map (·, false)) ++ ([8].map (·, true)))) (by kernel_rfl) (by kernel_rfl) (by kernel_rfl) ⟨HCB.out.c0, HCB.out.c1⟩ ?_
 refine' Plan.plan_seg _ [0, 1, 2, 3, 4, 5, 6] (([7].map (·, false)) ++ ([8].map (·, true))) (by kernel_rfl) (by kernel_rfl) rfl (by exact ⟨HCB.out.c0, HCB.out.c1⟩) (fun wx hS => ?_) ?_
 rotate_left
 ·obtain ⟨k0, k1⟩ := hS
  obtain ⟨i0, i1⟩ := HI.out
  go_light
  iterate 7 (apply Plan.seg_pick; rfl; intro K hK; go_wp)
  exact Plan.seg_nil
 have hb : Below w8.heap.size w8 w8.drew := (Below.refl _ _).drew
 obtain ⟨w9, hw9⟩ : ∃ x, x = w8.drew := ⟨_, rfl⟩
 rw [← hw9] at hb ⊢
 have HSZ := Lib.hid (show w8.heap.size ≤ w9.heap.size from hb.size)
 replace HPD := Lib.hid (HPD.out.below hb)
 replace HDX := Lib.hid (HDX.out.below hb)
 replace HCB := Lib.hid (HCB.out.below hb)
 replace HT := Lib.hid (HT.out.below hb)
 replace HB := Lib.hid (HB.out.trans (hb.mono HB.out.size))
 clear hb hw9
 refine Plan.plan_of_effect rfl (fun K hK => ?_)
 go_wp2_with fail
 refine (CH.out _ HB.out HPD.out).mono ?_
 rintro e w10 ⟨code, d', rfl, hr, hch⟩
 have HR := Lib.hid hr
 have HL1 := Lib.hid (And.intro (block_lt_of_cell HCB.out.c0) (And.intro (block_lt_of_cell HCB.out.e0) (block_lt_of_cell HT.out.c0)))
 have HDX2 := Lib.hid (HDX.out.chg2 HDK.out hch)
 replace HCB := Lib.hid (HCB.out.same (hch.other HL1.out.1 HG.out.1) (hch.other HL1.out.2.1 HG.out.2.1))
 replace HT := Lib.hid (HT.out.same (hch.other HL1.out.2.2 HNT.out.2))
 replace HB := Lib.hid (hch.low HG.out.2.2 HB.out.size HB.out)
 clear hch hr HDX HPD CH CHX
 go_wp2_with fail
 refine ⟨⟨HCB.out.c0, HCB.out.c1⟩, ?_⟩
 refine' Plan.plan_seg _ [8] [] (by kernel_rfl) (by kernel_rfl) rfl (by exact ⟨HCB.out.c0, HCB.out.c1⟩) (fun wx hS => ?_) ?_
 rotate_left
 ·clear hS
  go_light
  iterate 1 (apply Plan.seg_pick; rfl; intro K hK; go_wp)
  exact Plan.seg_nil
 refine Plan.plan_done ?_
 by_cases hz : code = 0
 ·subst hz
  go_upto_region 24 with fail
  have hdd : (ds.set fk d')[fk]? = some d' := by rw [List.getElem?_set_self (List.getElem?_eq_some_iff.1 HDK.out).1]
  obtain ⟨rv, hcd, hrs⟩ := HDX2.out.doc hdd
  have d3 : w10.cell? ⟨g, fk * 4 + 3, none⟩ = some rv := hcd 3 _ rfl
  obtain ⟨ra, rc, hrv, hl1, hl2, -⟩ := hrs.get
  obtain ⟨rn, hrn⟩ : ∃ n, n = d'.revs.length := ⟨_, rfl⟩
  rw [← hrn] at hrv hl1
  have HRN := Lib.hid hrn
  have HRB := Lib.hid (show (rn : Int) ≤ 9223372036854775807 by unfold maxLen at hl2; omega)
  subst hrv
  have hgl := HDX2.out.lt.1
  have HGL := Lib.hid hgl
  have HD3 := Lib.hid d3
  clear hdd hcd hrs hl1 hl2 hrn d3
  have hS0 : ∀ b, b < w10.heap.size → b ≠ b2 → w10.drew.heap[b]? = w10.heap[b]? := fun b _ _ => rfl
  refine Plan.wp_region_tree (fun w' => ∀ b, b < w10.heap.size → b ≠ b2 → w'.heap[b]? = w10.heap[b]?) (.run ([0, 1, 2, 3, 4, 5, 6, 7, 8, 9, 10, 11, 12, 13, 14, 15].map (·, true)) (.fork 16 (.run ([17].map (·, false) ++ [18, 19].map (·, true)) .leaf) 17 (.run ([16].map (·, false) ++ [18, 19].map (·, true)) .leaf))) (by kernel_rfl) (by kernel_rfl) (by kernel_rfl) hS0 ?_
  refine Plan.tree_run ?_
  refine' Plan.plan_seg _ [0, 1, 2, 3, 4, 5, 6, 7, 8, 9, 10, 11, 12, 13, 14, 15] [] (by kernel_rfl) (by kernel_rfl) rfl (by exact hS0) (fun wx hS => ?_) ?_
  rotate_left
  ·have t := HT.out.same (hS b11 (block_lt_of_cell HT.out.c0) HNT.out.1)
   obtain ⟨t0, t1, t2⟩ := t
   have k0 := (World.cell?_of_block (a := ⟨b1, 0, none⟩) (hS b1 (block_lt_of_cell HCB.out.c0) HNE.out.1)).trans HCB.out.c0
   have k1 := (World.cell?_of_block (a := ⟨b1, 1, none⟩) (hS b1 (block_lt_of_cell HCB.out.c0) HNE.out.1)).trans HCB.out.c1
   have d3 := (World.cell?_of_block (a := ⟨g, fk * 4 + 3, none⟩) (hS g HGL.out (Ne.symm HG.out.2.1))).trans HD3.out
   obtain ⟨i0, i1⟩ := HI.out
   have i2 := HRB.out
   go_light
   iterate 16 (apply Plan.seg_pick; rfl; intro K hK; go_wp)
   exact Plan.seg_nil
  refine Plan.plan_nil ?_
  obtain ⟨w11, hw11⟩ : ∃ x, x = w10.drew := ⟨_, rfl⟩
  have hb : Below w10.heap.size w10 w11 := by rw [hw11]; exact (Below.refl _ _).drew
  rw [← hw11] at hS0 ⊢
  replace HDX2 := Lib.hid (HDX2.out.below hb)
  replace HCB := Lib.hid (HCB.out.below hb)
  replace HB := Lib.hid (HB.out.trans (hb.mono HB.out.size))
  have HS0 := Lib.hid hS0
  have HLN := Lib.hid (show (ds.set fk d').length = N by rw [List.length_set]; exact HN.out.symm)
  clear hb hw11 hS0 HD3
  obtain ⟨O, hO⟩ : ∃ O : Rpt, O = ⟨kind, u, nm, (rn : Int) - 1⟩ := ⟨_, rfl⟩
  have HO := Lib.hid hO
  have hOL : (outL O).toArray = #[.int .i64 kind, .string u, .string nm, .int .i64 ((rn : Int) - 1)] := by rw [hO]; rfl
  have HOL := Lib.hid hOL
  have hRD : OneR now ds kind u nm R 0 now (ds.set fk d') [O] := by rw [hO, HRN.out]; exact .done fk d HF.out HDK.out d' HR.out
  have HRD := Lib.hid hRD
  clear hO hOL hRD
  have hdc : Dcs w11 (.slice (some ⟨g, 0, none⟩) N cap) (ds.set fk d') := by have := HDX2.out.dcs; rwa [HLN.out] at this
  have HDC := Lib.hid hdc
  have HLW := Lib.hid (show w10.heap.size ≤ w11.heap.size from HDX2.out.m0)
  clear hdc
  refine Plan.tree_fork ?_ ?_
  ·refine Plan.op_of_list rfl (fun K hK => ?_)
   refine Great.wpList_buildSliceTo rfl 60 88 1 #[(0, .tmp 111)] rfl w11.heap.size rfl (some 112) rfl Tryz.underlying60 (outL O).toArray ?_ ?_
   ·simp only [List.map_toArray, List.map_cons, List.map_nil, List.toList_toArray]
    have := built_out O
    rw [HOL.out] at this ⊢
    exact this
   obtain ⟨w12, hw12⟩ : ∃ y, y = w11.alloc (.cells (outL O).toArray 88) := ⟨_, rfl⟩
   have hb : Below w11.heap.size w11 w12 := by rw [hw12]; exact below_box _ _
   obtain ⟨bo, hbo⟩ : ∃ y, y = w11.heap.size := ⟨_, rfl⟩
   have hoc : w12.rangeAt bo 0 (outL O) := by
    rw [hw12, hbo]
    intro j v hj
    unfold World.cell?
    rw [(MapKept.heap_alloc w11 _).1]
    simpa using hj
   have hbn : bo ≠ b2 := by have := block_lt_of_cell HCB.out.e0; dsimp only at this; omega
   rw [← hw12, ← hbo]
   replace HCB := Lib.hid (HCB.out.below hb)
   replace HDC := Lib.hid (HDC.out.below hb)
   replace HS0 := Lib.hid (fun b (h1 : b < w10.heap.size) (h2 : b ≠ b2) => (hb.block b (Nat.lt_of_lt_of_le h1 HLW.out)).trans (HS0.out b h1 h2))
   replace HB := Lib.hid (HB.out.trans (hb.mono HB.out.size))
   have HOC := Lib.hid hoc
   have HBN := Lib.hid hbn
   clear hb hw12 hbo hoc hbn
   simp only [Act.put, List.setIfInBounds_toArray, List.set_cons_succ, List.set_cons_zero]
   refine wpList_nil ?_
   refine hK _ _ ⟨HS0.out, ?_⟩
   refine Plan.tree_run ?_
   obtain ⟨k0, k1, k2, k3, k4, k5, k6, -⟩ := HCB.out
   refine Plan.plan_of_effect rfl (fun K hK => ?_)
   go_wp2_with fail
   obtain ⟨z0, z1, zd, zb, zo⟩ := cb_fin (u := .slice (some ⟨g, 0, none⟩) N cap) HCB.out HDC.out HB.out HNE.out.2.2.2.2 now
   have hS1 := fun b (h1 : b < w10.heap.size) (h2 : b ≠ b2) => (zo b h2).trans (HS0.out b h1 h2)
   refine ⟨hS1, ?_⟩
   refine' Plan.plan_seg _ [18, 19] [] (by kernel_rfl) (by kernel_rfl) rfl (by exact hS1) (fun wx hS => ?_) ?_
   rotate_left
   ·clear hS
    go_light
    iterate 2 (apply Plan.seg_pick; rfl; intro K hK; go_wp)
    exact Plan.seg_nil
   refine Plan.plan_nil ?_
   refine Plan.tree_leaf ?_
   have hou : Outs ((w12.setCell ⟨b2, 0, none⟩ (.int .i64 now)).setCell ⟨b2, 1, none⟩ (.slice (some ⟨g, 0, none⟩) N cap)) (.slice (some ⟨bo, 0, none⟩) 1 1) [O] := by
    refine ⟨_, 1, rfl, Nat.le_refl _, by unfold maxLen; omega, fun i x hi => ?_⟩
    cases i with
    | zero =>
     obtain rfl := Option.some.inj hi
     exact ⟨bo, 0, rfl, rangeAt_ag HOC.out (zo bo HBN.out)⟩
    | succ i => simp at hi
   obtain ⟨wf, hwf⟩ : ∃ x, x = (w12.setCell ⟨b2, 0, none⟩ (.int .i64 now)).setCell ⟨b2, 1, none⟩ (.slice (some ⟨g, 0, none⟩) N cap) := ⟨_, rfl⟩
   rw [← hwf] at z0 z1 zd zb hou ⊢
   have HZ := Lib.hid (And.intro z0 (And.intro z1 (And.intro zd (And.intro zb hou))))
   clear hwf z0 z1 zd zb zo hou hS1 k0 k1 k2 k3 k4 k5 k6
   go_wp2_with fail
   obtain ⟨z0, z1, zd, zb, hou⟩ := HZ.out
   exact bodyPost_ret (v := .tuple #[.agg #[.int .i64 now, .slice (some ⟨g, 0, none⟩) N cap], .slice (some ⟨bo, 0, none⟩) 1 1, .int .i64 0]) (by simp [results, Tryz.results63, go_sem, z0, z1]) rfl ⟨0, now, _, _, _, _, rfl, HRD.out, zd, hou, zb⟩
  ·refine Plan.op_of_list rfl (fun K hK => ?_)
   obtain ⟨k0, k1, k2, k3, k4, k5, k6, -⟩ := HCB.out
   go_wp2_with fail
   obtain ⟨z0, z1, zd, zb, zo⟩ := cb_fin (u := .slice (some ⟨g, 0, none⟩) N cap) HCB.out HDC.out HB.out HNE.out.2.2.2.2 now
   have hS1 := fun b (h1 : b < w10.heap.size) (h2 : b ≠ b2) => (zo b h2).trans (HS0.out b h1 h2)
   refine ⟨hS1, ?_⟩
   obtain ⟨w12, hw12⟩ : ∃ x, x = (w11.setCell ⟨b2, 0, none⟩ (.int .i64 now)).setCell ⟨b2, 1, none⟩ (.slice (some ⟨g, 0, none⟩) N cap) := ⟨_, rfl⟩
   have hlw : w10.heap.size ≤ w12.heap.size := by rw [hw12]; simpa [World.setCell] using HLW.out
   rw [← hw12] at z0 z1 zd zb hS1 ⊢
   clear zo hw12 k0 k1 k2 k3 k4 k5 k6
   refine Plan.tree_run ?_
   refine Plan.plan_of_effect rfl (fun K hK => ?_)
   refine Great.wpList_buildSliceTo rfl 60 88 1 #[(0, .tmp 111)] rfl w12.heap.size rfl (some 112) rfl Tryz.underlying60 (outL O).toArray ?_ ?_
   ·simp only [List.map_toArray, List.map_cons, List.map_nil, List.toList_toArray]
    have := built_out O
    rw [HOL.out] at this ⊢
    exact this
   obtain ⟨w13, hw13⟩ : ∃ y, y = w12.alloc (.cells (outL O).toArray 88) := ⟨_, rfl⟩
   have hb : Below w12.heap.size w12 w13 := by rw [hw13]; exact below_box _ _
   obtain ⟨bo, hbo⟩ : ∃ y, y = w12.heap.size := ⟨_, rfl⟩
   have hoc : w13.rangeAt bo 0 (outL O) := by
    rw [hw13, hbo]
    intro j v hj
    unfold World.cell?
    rw [(MapKept.heap_alloc w12 _).1]
    simpa using hj
   rw [← hw13, ← hbo]
   replace z0 := (hb.cell (p := ⟨b2, 0, none⟩) (block_lt_of_cell z0)).trans z0
   replace z1 := (hb.cell (p := ⟨b2, 1, none⟩) (block_lt_of_cell z1)).trans z1
   replace zd := zd.below hb
   replace zb := zb.trans (hb.mono zb.size)
   have hS2 := fun b (h1 : b < w10.heap.size) (h2 : b ≠ b2) => (hb.block b (Nat.lt_of_lt_of_le h1 hlw)).trans (hS1 b h1 h2)
   have hou : Outs w13 (.slice (some ⟨bo, 0, none⟩) 1 1) [O] := by
    refine ⟨_, 1, rfl, Nat.le_refl _, by unfold maxLen; omega, fun i x hi => ?_⟩
    cases i with
    | zero =>
     obtain rfl := Option.some.inj hi
     exact ⟨bo, 0, rfl, hoc⟩
    | succ i => simp at hi
   have HZ := Lib.hid (And.intro z0 (And.intro z1 (And.intro zd (And.intro zb hou))))
   clear hb hw13 hbo hoc z0 z1 zd zb hou hS1 hlw
   simp only [Act.put, List.setIfInBounds_toArray, List.set_cons_succ, List.set_cons_zero]
   refine wpList_nil ?_
   refine hK _ _ ⟨hS2, ?_⟩
   refine' Plan.plan_seg _ [18, 19] [] (by kernel_rfl) (by kernel_rfl) rfl (by exact hS2) (fun wx hS => ?_) ?_
   rotate_left
   ·clear hS
    go_light
    iterate 2 (apply Plan.seg_pick; rfl; intro K hK; go_wp)
    exact Plan.seg_nil
   refine Plan.plan_nil ?_
   refine Plan.tree_leaf ?_
   clear hS2
   go_wp2_with fail
   obtain ⟨z0, z1, zd, zb, hou⟩ := HZ.out
   exact bodyPost_ret (v := .tuple #[.agg #[.int .i64 now, .slice (some ⟨g, 0, none⟩) N cap], .slice (some ⟨bo, 0, none⟩) 1 1, .int .i64 0]) (by simp [results, Tryz.results63, go_sem, z0, z1]) rfl ⟨0, now, _, _, _, _, rfl, HRD.out, zd, hou, zb⟩
 ·have hz2 : decide (code = 0) = false := decide_eq_false hz
  have HZ := Lib.hid hz
  obtain ⟨k0, k1, k2, k3, k4, k5, k6, -⟩ := HCB.out
  go_wp2_with fail
  have z0 : ((w10.setCell ⟨b2, 0, none⟩ (.int .i64 0)).setCell ⟨b2, 1, none⟩ (.slice none 0 0)).cell? ⟨b2, 0, none⟩ = some (.int .i64 0) := by simp [go_sem, k3]
  have z1 : ((w10.setCell ⟨b2, 0, none⟩ (.int .i64 0)).setCell ⟨b2, 1, none⟩ (.slice none 0 0)).cell? ⟨b2, 1, none⟩ = some (.slice none 0 0) := by simp [go_sem, k4]
  have hbf := below_setCells b2 HNE.out.2.2.2.2 [.slice none 0 0] 1 _ (below_setCells b2 HNE.out.2.2.2.2 [.int .i64 0] 0 _ HB.out)
  simp only [World.setCells] at hbf
  obtain ⟨wf, hwf⟩ : ∃ x, x = (w10.setCell ⟨b2, 0, none⟩ (.int .i64 0)).setCell ⟨b2, 1, none⟩ (.slice none 0 0) := ⟨_, rfl⟩
  rw [← hwf] at z0 z1 hbf ⊢
  clear hwf
  exact bodyPost_ret (v := .tuple #[.agg #[.int .i64 0, .slice none 0 0], .slice none 0 0, .int .i64 code]) (by simp [results, Tryz.results63, go_sem, z0, z1]) rfl ⟨code, 0, _, _, [], [], rfl, .fails fk d HF.out HDK.out code d' HR.out HZ.out, Dcs.nil _, Outs.nil _, hbf⟩
theorem step_undo {L : Int} (ds : List Dc) (v : Value) (now : Int) (u nm : ByteArray) (w : World) (h : Dcs w v ds) (h0 : ds ≠ []) (h1 : ds.length ≤ 16) (hd : ∀ d ∈ ds, ownOK d ∧ RvsOK L d.revs) (hL : L ≤ 140737488355328) : Calls Tryz.prog 63 #[.agg #[.int .i64 now, v], .iface 151 (.agg #[.int .i64 5, .string u, .string nm])] w (StepPost w (OneR now ds 5 u nm (fun d c d' => UndoR d u c d'))) :=
 step_one ds v now 5 u nm 151 _ _ w h h0 h1 ⟨by decide, by decide, ta_addr151, fun _ => by kernel_rfl⟩ fun d g o m w1 hm _ hp => change_undo g o m d u nm now w1 hp (hd d hm).1 (hd d hm).2 hL
theorem step_redo {L : Int} (ds : List Dc) (v : Value) (now : Int) (u nm : ByteArray) (w : World) (h : Dcs w v ds) (h0 : ds ≠ []) (h1 : ds.length ≤ 16) (hd : ∀ d ∈ ds, ownOK d ∧ RvsOK L d.revs) (hB : ∀ d ∈ ds, ∀ (j : Nat) (r : Rv), d.revs[j]? = some r → r.kind = 4 → 0 ≤ r.base ∧ r.base < (j : Int)) (hL : L ≤ 140737488355328) : Calls Tryz.prog 63 #[.agg #[.int .i64 now, v], .iface 152 (.agg #[.int .i64 6, .string u, .string nm])] w (StepPost w (OneR now ds 6 u nm (fun d c d' => RedoR d u c d'))) :=
 step_one ds v now 6 u nm 152 _ _ w h h0 h1 ⟨by decide, by decide, ta_addr152, fun _ => by kernel_rfl⟩ fun d g o m w1 hm _ hp => change_redo g o m d u nm now w1 hp (hd d hm).1 (hd d hm).2 (hB d hm) hL
theorem step_lock {L : Int} (ds : List Dc) (v : Value) (now : Int) (u nm : ByteArray) (n : Int) (w : World) (h : Dcs w v ds) (h0 : ds ≠ []) (h1 : ds.length ≤ 16) (hd : ∀ d ∈ ds, ownOK d ∧ RvsOK L d.revs) (hn0 : 0 ≤ now ∧ now ≤ 1099511627776) (hn1 : 0 ≤ n ∧ n ≤ 1000) (hL : L ≤ 140737488355328) : Calls Tryz.prog 63 #[.agg #[.int .i64 now, v], .iface 146 (.agg #[.int .i64 2, .string u, .string nm, .int .i64 n])] w (StepPost w (OneR now ds 2 u nm (fun d c d' => LockR d u (now + n) c d'))) :=
 step_one ds v now 2 u nm 146 _ _ w h h0 h1 ⟨by decide, by decide, ta_addr146, fun _ => by kernel_rfl⟩ fun d g o m w1 hm _ hp => change_lock g o m d u nm n now w1 hp (hd d hm).1 hn0 hn1
theorem step_unlock {L : Int} (ds : List Dc) (v : Value) (now : Int) (u nm : ByteArray) (w : World) (h : Dcs w v ds) (h0 : ds ≠ []) (h1 : ds.length ≤ 16) (hd : ∀ d ∈ ds, ownOK d ∧ RvsOK L d.revs) (hL : L ≤ 140737488355328) : Calls Tryz.prog 63 #[.agg #[.int .i64 now, v], .iface 148 (.agg #[.int .i64 3, .string u, .string nm])] w (StepPost w (OneR now ds 3 u nm (fun d c d' => UnlockR d u c d'))) :=
 step_one ds v now 3 u nm 148 _ _ w h h0 h1 ⟨by decide, by decide, ta_addr148, fun _ => by kernel_rfl⟩ fun d g o m w1 hm _ hp => change_unlock g o m d u nm now w1 hp
theorem step_commit {L : Int} (ds : List Dc) (v : Value) (now : Int) (u nm : ByteArray) (bs : Int) (ta : Option Addr) (tn tc : Nat) (t : List Trk.Clip) (w : World) (h : Dcs w v ds) (h0 : ds ≠ []) (h1 : ds.length ≤ 16) (hd : ∀ d ∈ ds, ownOK d ∧ RvsOK L d.revs) (ht : Tk w (.slice ta tn tc) t) (Vt : VT L t) (hL : L ≤ 140737488355328) : Calls Tryz.prog 63 #[.agg #[.int .i64 now, v], .iface 150 (.agg #[.int .i64 4, .string u, .string nm, .int .i64 bs, .slice ta tn tc])] w (StepPost w (OneR now ds 4 u nm (fun d c d' => CommitR d u bs t c d'))) :=
 step_one ds v now 4 u nm 150 _ _ w h h0 h1 ⟨by decide, by decide, ta_addr150, fun _ => by kernel_rfl⟩ fun d g o m w1 hm hb hp => change_commit g o m d u nm bs ta tn tc t now w1 hp (hd d hm).1 (hd d hm).2 (ht.below hb) Vt hL
end Go.Proofs.YtfoohocgdcgbcaaGreat
