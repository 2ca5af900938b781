/- Texts of this claim joined: WQ. -/
import Derived.BigQuiet
import Derived.Test.YtnmkcpgcdjhdjaaRo00
set_option linter.unusedVariables false
set_option linter.unusedSimpArgs false

/- The law of the ripples. -/
namespace Go.Proofs.Ytnmkcpgcdjhdjaa
open Go.RowKit
set_option linter.unusedVariables false
set_option linter.unusedSimpArgs false
set_option maxRecDepth 100000 in
set_option maxHeartbeats 16000000 in
theorem law_ripples (v : Value) (a m : Int) (w : World) (h : Ints w v) (ha : -9223372036854775808 ≤ a ∧ a ≤ 9223372036854775807) (hm : -128 ≤ m ∧ m ≤ 127) :
    Calls Try.prog 9 #[v, .int .i64 a, .int .i8 m] w fun e w' => e = .returned (.bool true) ∧ Below w.heap.size w w' := by
  obtain ⟨ha0, ha1⟩ := ha
  obtain ⟨hm0, hm1⟩ := hm
  have HMA := Lib.hid (made_any v w h)
  clear h
  go_enter Try.func9, Try.ntmps9
  go_wp2_with fail
  refine HMA.out.mono ?_
  rintro e w1 ⟨vt, t, p, k', rfl, ho, hmd, htp, hk', hb⟩
  have HO := Lib.hid ho
  have HM := Lib.hid hmd
  have HB := Lib.hid hb
  clear ho hmd htp hk' hb HMA
  obtain ⟨ta, tc, rfl, htc⟩ := HO.out.tk
  obtain ⟨N, hN⟩ : ∃ N, N = t.length := ⟨_, rfl⟩
  have hN1 : 1 ≤ N := by
    rw [hN]
    have := HM.out.ne
    cases t with
    | nil => exact absurd rfl this
    | cons => simp
  have hN2 : N ≤ 13 := by rw [hN]; exact HM.out.l
  rw [← hN] at HO ⊢
  have HN := Lib.hid hN
  clear hN htc
  have hN0 : ¬ (N : Int) = 0 := by omega
  have hN00 : ((N : Int) == 0) = false := by simp; omega
  go_upto_region 5 with fail
  obtain ⟨c, hc, hcN⟩ := index_of a N hN1 (by omega)
  rw [hc]
  clear hc
  go_upto_region 6 with fail
  obtain ⟨d, hd⟩ : ∃ d, d = m.tmod 12 := ⟨_, rfl⟩
  have d0 := tmod12 m
  rw [← hd] at d0 ⊢
  rw [wrap_in d (by omega)]
  clear hd hm0 hm1 ha0 ha1
  have HAP := Lib.hid (fun w (h : Tk w (.slice ta N tc) t) => apply_made (.slice ta N tc) t 5 c d w h HM.out (by decide) (by omega) (by omega))
  go_wp2_with fail
  refine (HAP.out _ HO.out.tk).mono ?_
  rintro e w2 ⟨vu, x1, x2, x3, ra, rl, rc, code, rfl, hb, hres⟩
  have HR := Lib.hid hres
  replace HO := Lib.hid (HO.out.below hb)
  replace HB := Lib.hid (HB.out.trans (hb.mono HB.out.size))
  clear hb hres HAP
  try dsimp only
  iterate 19 go_step
  have hv : ED (w2.alloc (.cells (edC 0 0 0 0 0 0 0 (.slice none 0 0)) 26)) w2.heap.size 0 0 0 0 0 0 0 (.slice none 0 0) := ED.box w2 0 0 0 0 0 0 0 (.slice none 0 0) rfl 26
  have hb0 : Below w2.heap.size w2 (w2.alloc (.cells (edC 0 0 0 0 0 0 0 (.slice none 0 0)) 26)) := below_box _ _
  refine wpl_storeE x1 x2 x3 0 0 0 0 ra rl rc hv rfl rfl rfl rfl ?_
  intro w3 q1 q2 q3 q4 q5
  have hb : Below w2.heap.size w2 w3 := q4 _ _ (Nat.le_refl _) hb0
  replace HR := Lib.hid (HR.out.below hb)
  replace HO := Lib.hid (HO.out.below hb)
  replace HB := Lib.hid (HB.out.trans (hb.mono HB.out.size))
  obtain ⟨gE, hgE⟩ : ∃ g, g = w2.heap.size := ⟨_, rfl⟩
  rw [← hgE]
  clear q1 q2 q3 q4 q5 hb hb0 hv hgE
  simp only [Act.put, List.setIfInBounds_toArray, List.set_cons_succ, List.set_cons_zero]
  obtain ⟨x, hx⟩ : ∃ x, t[c]? = some x := ⟨_, List.getElem?_eq_getElem (by rw [← HN.out]; exact hcN)⟩
  obtain ⟨ta', tc', e, _, _, hT⟩ := HO.out.tk
  simp only [Value.slice.injEq] at e
  obtain ⟨rfl, -, rfl⟩ := e
  obtain ⟨b, o, rfl, hA⟩ := hT c x hx
  clear hT
  have hlm := len_of_made HM.out hx
  have hxl := (HM.out.v x (List.mem_of_getElem? hx)).l
  have hxo : (x.kind = 2 ∨ x.kind = 3) → 0 ≤ x.off ∧ x.off ≤ 2147483647 := by
    intro hk
    have := hxl.2.2 (by simp [Trk.shares]; omega)
    omega
  have hko := ok5 (HM.out.v x (List.mem_of_getElem? hx)) (d := d) (by omega)
  have hcode := code5 HM.out hx (d := d) (by omega)
  have c0 := hA.k0
  have c1 := hA.k1
  have c16 := hA.k16
  have c17 := hA.k17
  have HLM := Lib.hid hlm
  have HC5 := Lib.hid (show Trk.adjCode t 5 c d 0 0 = if ¬ (x.len + d < 1 ∨ ((x.kind = 2 ∨ x.kind = 3) ∧ x.total < x.off + x.len + d)) then 0 else 2 by rw [hcode]; simp only [hko])
  have HX := Lib.hid hx
  have HA := Lib.hid hA
  obtain ⟨l0, l1, l2, l3, l4⟩ := hlm
  have hci : (c : Int) < (N : Int) := by omega
  clear hxl hcode hko hx hA l2 l3 l4
  go_upto_region 7 with fail
  obtain ⟨bad, hbad⟩ : ∃ g, g = decide (d = 0 ∨ x.len + d < 1 ∨ ((x.kind = 2 ∨ x.kind = 3) ∧ x.total < x.off + x.len + d)) := ⟨_, rfl⟩
  have HBAD := Lib.hid hbad
  clear hbad
  go_cut [94] from 46 (fun v94 wr => v94 = .bool bad ∧ Below w3.heap.size w3 wr)
  case first J K' h1' h2' =>
    by_cases hd0 : d = 0
    · have hb : bad = true := by rw [HBAD.out]; simp [hd0]
      have hg : (d == 0) = true := by simp [hd0]
      go_quiet (fail)
      refine h2' _ _ (Met.intro (h1' _ _ ?_))
      (repeat apply Exists.intro)
      exact ⟨⟨by rw [hb], below_drewN (Below.refl _ _) _⟩, rfl⟩
    have hg : (d == 0) = false := by simp [hd0]
    by_cases h1 : x.len + d < 1
    · have hb : bad = true := by rw [HBAD.out]; simp [h1]
      have hg1 : decide (x.len + d < 1) = true := by simp [h1]
      go_quiet (fail)
      refine h2' _ _ (Met.intro (h1' _ _ ?_))
      (repeat apply Exists.intro)
      exact ⟨⟨by rw [hb], below_drewN (Below.refl _ _) _⟩, rfl⟩
    have hg1 : decide (x.len + d < 1) = false := by simp [h1]
    by_cases h2 : x.kind = 2
    · have hxo2 := hxo (.inl h2)
      have hb : bad = decide (x.total < x.off + x.len + d) := by rw [HBAD.out]; simp [hd0, h1, h2]
      have hg2 : (x.kind == 2) = true := by simp [h2]
      clear h2
      go_quiet (fail)
      refine h2' _ _ (Met.intro (h1' _ _ ?_))
      (repeat apply Exists.intro)
      exact ⟨⟨by rw [hb], below_drewN (Below.refl _ _) _⟩, rfl⟩
    have hg2 : (x.kind == 2) = false := by simp [h2]
    by_cases h3 : x.kind = 3
    · have hxo2 := hxo (.inr h3)
      have hb : bad = decide (x.total < x.off + x.len + d) := by rw [HBAD.out]; simp [hd0, h1, h3]
      have hg3 : (x.kind == 3) = true := by simp [h3]
      clear h3
      go_quiet (fail)
      refine h2' _ _ (Met.intro (h1' _ _ ?_))
      (repeat apply Exists.intro)
      exact ⟨⟨by rw [hb], below_drewN (Below.refl _ _) _⟩, rfl⟩
    have hb : bad = false := by rw [HBAD.out]; simp [hd0, h1, h2, h3]
    have hg3 : (x.kind == 3) = false := by simp [h3]
    go_quiet (fail)
    refine h2' _ _ (Met.intro (h1' _ _ ?_))
    (repeat apply Exists.intro)
    exact ⟨⟨by rw [hb], below_drewN (Below.refl _ _) _⟩, rfl⟩
  obtain ⟨rfl, hb⟩ := hcut
  clear c0 c1 c16 c17
  replace HR := Lib.hid (HR.out.below hb)
  replace HO := Lib.hid (HO.out.below hb)
  replace HA := Lib.hid (HA.out.below hb)
  replace HB := Lib.hid (HB.out.trans (hb.mono HB.out.size))
  clear hb
  cases hbd : bad with
  | true =>
    have hne : ¬ code = 0 := by
      refine HR.out.bad ?_
      have h1 := HBAD.out
      rw [hbd] at h1
      have h2 := of_decide_eq_true h1.symm
      rcases h2 with h2 | h2
      · exact .inl h2
      · right
        rw [HC5.out, if_neg (fun h => h h2)]
        decide
    have hbd := HR.out.bd
    have hne' : (code != 0) = true := by simp [hne]
    clear HC5 HBAD HR
    go_wp2_with fail
    refine (awake_any _).mono ?_
    rintro e w8 ⟨rfl, hb⟩
    replace HB := Lib.hid (HB.out.trans (hb.mono HB.out.size))
    clear hb
    go_wp2_with fail
    go_ret
    exact ⟨rfl, HB.out⟩
  | false =>
    have hgd : d ≠ 0 ∧ Trk.adjCode t 5 c d 0 0 = 0 := by
      have h1 := HBAD.out
      rw [hbd] at h1
      have h2 := of_decide_eq_false h1.symm
      exact ⟨fun h => h2 (.inl h), by rw [HC5.out, if_pos (fun h => h2 (.inr h))]⟩
    obtain ⟨rfl, hou⟩ := HR.out.good hgd
    have HRIP := Lib.hid (rip_of HM.out HX.out hgd.1 (by omega) hgd.2)
    obtain ⟨U, hU⟩ : ∃ U, U = Trk.nf (Trk.adjL t 5 c d 0 0) := ⟨_, rfl⟩
    rw [← hU] at hou HRIP
    have HU := Lib.hid hou
    obtain ⟨s, hs⟩ : ∃ s, s = Trk.total (t.take c) := ⟨_, rfl⟩
    obtain ⟨e, he⟩ : ∃ e, e = Trk.total (t.take (c + 1)) := ⟨_, rfl⟩
    obtain ⟨T, hT⟩ : ∃ T, T = Trk.total t := ⟨_, rfl⟩
    have hln := Lib.hid (fun w (h : Tk w (.slice (some ⟨b, o, none⟩) N tc) t) => length_any (.slice (some ⟨b, o, none⟩) N tc) t w h HM.out.vt (by decide))
    have hst := Lib.hid (fun w (h : Tk w (.slice (some ⟨b, o, none⟩) N tc) t) => starts_next (.slice (some ⟨b, o, none⟩) N tc) t c w h HM.out (by rw [← HN.out]; omega))
    have hst0 := Lib.hid (fun w (h : Tk w (.slice (some ⟨b, o, none⟩) N tc) t) => starts_at (.slice (some ⟨b, o, none⟩) N tc) t c w h HM.out (by rw [← HN.out]; omega))
    have hT1 := HM.out.tt
    rw [← hs, ← he] at HRIP HLM
    rw [← hT] at hln HLM hT1
    rw [← he] at hst
    rw [← hs] at hst0
    obtain ⟨l0, l1, l2, l3, l4⟩ := HLM.out
    have hd0 := hgd.1
    have hd1 : 1 ≤ x.len + d := by
      have h1 := HBAD.out
      rw [hbd] at h1
      have h2 := of_decide_eq_false h1.symm
      omega
    have hda : 0 ≤ e + d := by omega
    have l5 : e ≤ T := by omega
    have l6 : 0 ≤ e := by omega
    clear hou hU hs he hT hgd hbd HR HC5 HBAD HLM l4
    go_wp2_with fail
    refine (hst.out _ HO.out.tk).mono ?_
    rintro e' w5 ⟨rfl, hb⟩
    replace HU := Lib.hid (HU.out.below hb)
    replace HO := Lib.hid (HO.out.below hb)
    replace HA := Lib.hid (HA.out.below hb)
    replace HB := Lib.hid (HB.out.trans (hb.mono HB.out.size))
    clear hb
    go_wp2_with fail
    refine (lequal_any (L := bigM) vu (.slice (some ⟨b, o, none⟩) N tc) U t 0 0 (e + min 0 d) _ HU.out.tk HO.out.tk HRIP.out.v HM.out.big bigM_le (by omega) (by omega) (by omega) (by omega) (by omega) (by omega) HRIP.out.lo).mono ?_
    rintro e' w6 ⟨rfl, hb⟩
    replace HU := Lib.hid (HU.out.below hb)
    replace HO := Lib.hid (HO.out.below hb)
    replace HA := Lib.hid (HA.out.below hb)
    replace HB := Lib.hid (HB.out.trans (hb.mono HB.out.size))
    clear hb
    go_wp2_with fail
    refine (hln.out _ HO.out.tk).mono ?_
    rintro e' w7 ⟨rfl, hb⟩
    replace HU := Lib.hid (HU.out.below hb)
    replace HO := Lib.hid (HO.out.below hb)
    replace HA := Lib.hid (HA.out.below hb)
    replace HB := Lib.hid (HB.out.trans (hb.mono HB.out.size))
    clear hb
    go_wp2_with fail
    refine (lequal_any (L := bigM) vu (.slice (some ⟨b, o, none⟩) N tc) U t (e + d) e (T - e + 1) _ HU.out.tk HO.out.tk HRIP.out.v HM.out.big bigM_le (by omega) (by omega) (by omega) (by omega) (by omega) (by omega) (fun i i0 _ => HRIP.out.hi i i0)).mono ?_
    rintro e' w8 ⟨rfl, hb⟩
    replace HU := Lib.hid (HU.out.below hb)
    replace HO := Lib.hid (HO.out.below hb)
    replace HA := Lib.hid (HA.out.below hb)
    replace HB := Lib.hid (HB.out.trans (hb.mono HB.out.size))
    clear hb
    go_upto_region 12 with fail
    apply wp_region_lit
    iterate 9 go_step
    refine wpl_load HA.out rfl rfl rfl ?_
    refine wpl_alloc rfl rfl (fun w9 hg hb2 hs2 => ?_)
    obtain ⟨g, hgg⟩ : ∃ g, g = w8.heap.size := ⟨_, rfl⟩
    rw [← hgg] at hg ⊢
    refine wpl_store x hg rfl rfl rfl rfl ?_
    intro w10 hv ho3 hb3
    have hb : Below w8.heap.size w8 w10 := hb3 _ _ (Nat.le_of_eq hgg.symm) hb2
    have HV := Lib.hid hv
    have HGG := Lib.hid hgg
    have HB8 := Lib.hid hb
    replace HA := Lib.hid (HA.out.below hb)
    clear hb
    clear hb2 hs2 hgg hg hv ho3 hb3
    simp only [Act.put, List.setIfInBounds_toArray, List.set_cons_succ, List.set_cons_zero]
    obtain ⟨C, hC⟩ : ∃ C, C = (clipC x).toArray := ⟨_, rfl⟩
    rw [← hC]
    clear hC
    have x0 := HA.out.k0
    have y0 := HV.out.c.at0.1
    have yf := HV.out.f 0
    go_upto_region 14 with fail
    obtain ⟨y, hy⟩ : ∃ y, y = Trk.lenBy d x := ⟨_, rfl⟩
    obtain ⟨w11, hw11⟩ : ∃ q, q = (w10.setCell ⟨g, 0, none⟩ (.int .i64 (x.len + d))).drew := ⟨_, rfl⟩
    have hb : Below w8.heap.size w8 w11 := by rw [hw11]; exact (HB8.out.setCell (Nat.le_of_eq HGG.out.symm) _).drew
    have HVN := Lib.hid (show CV w11 g y by
      have h1 := HV.out.set_len (x.len + d)
      rw [hw11, hy]
      exact h1.below (Below.refl _ _).drew)
    replace HU := Lib.hid (HU.out.below hb)
    replace HO := Lib.hid (HO.out.below hb)
    replace HB := Lib.hid (HB.out.trans (hb.mono HB.out.size))
    have HRI := Lib.hid (show RipOf t U s e d y.len y by rw [hy]; exact HRIP.out)
    have hyl : y.len = x.len + d := by rw [hy]; rfl
    have HYL := Lib.hid hyl
    clear HV hy hyl HRIP hb y0 x0 yf HA HB8
    refine Plan.wp_region_tree (fun w' => CV w' g y) (.run ([0, 1, 2, 4, 6, 7].map (·, true)) (.fork 3 (.run (([5, 8].map (·, false)) ++ (([9].map (·, true)) ++ (([10].map (·, false)) ++ ([11, 12].map (·, true))))) .leaf) 5 (.run (([3, 8].map (·, false)) ++ (([9].map (·, true)) ++ (([10].map (·, false)) ++ ([11, 12].map (·, true))))) .leaf))) (by kernel_rfl) (by kernel_rfl) (by kernel_rfl) (by rw [← hw11]; exact HVN.out) ?_
    rw [← hw11]
    clear hw11
    refine Plan.tree_run ?_
    refine' Plan.plan_seg _ [0, 1, 2, 4, 6, 7] ([]) (by kernel_rfl) (by kernel_rfl) rfl (by exact HVN.out) (fun wx hS => ?_) ?_
    rotate_left
    · have HS := Lib.hid hS
      have s0 := hS.c.at0.1
      clear hS
      go_light
      iterate 3 (apply Plan.seg_pick; rfl; intro K hK; go_wp)
      (apply Plan.seg_pick; rfl; intro K hK)
      refine wpl_load HS.out.c rfl rfl rfl ?_
      go_wp
      iterate 2 (apply Plan.seg_pick; rfl; intro K hK; go_wp)
      exact Plan.seg_nil
    refine Plan.plan_nil ?_
    refine Plan.tree_fork ?_ ?_
    · refine Plan.op_of_list rfl (fun K hK => ?_)
      go_wp2_with fail
      refine (hst0.out _ HO.out.tk).mono ?_
      rintro e' w12 ⟨rfl, hb⟩
      replace HVN := Lib.hid (HVN.out.below hb)
      replace HU := Lib.hid (HU.out.below hb)
      replace HO := Lib.hid (HO.out.below hb)
      replace HB := Lib.hid (HB.out.trans (hb.mono HB.out.size))
      clear hb
      go_wp2_with fail
      refine ⟨HVN.out, ?_⟩
      refine Plan.tree_run ?_
      refine Plan.plan_of_effect rfl (fun K hK => ?_)
      refine Great.wpList_buildSliceTo rfl 35 53 1 #[(0, .tmp 147)] rfl w12.heap.size rfl (some 148) rfl Try.underlying35 (clipC y).toArray ?_ ?_
      · simp only [List.map_toArray, List.map_cons, List.map_nil, List.toList_toArray]
        exact built_clip y
      have hb := below_box w12 (.cells (clipC y).toArray 53)
      have HTN := Lib.hid (OT.box w12 y).tk
      obtain ⟨w13, hwn⟩ : ∃ q, q = w12.alloc (.cells (clipC y).toArray 53) := ⟨_, rfl⟩
      rw [← hwn] at HTN hb ⊢
      obtain ⟨gN, hgN⟩ : ∃ q, q = w12.heap.size := ⟨_, rfl⟩
      rw [← hgN] at HTN hb ⊢
      rw [hgN] at hb
      replace HVN := Lib.hid (HVN.out.below hb)
      replace HU := Lib.hid (HU.out.below hb)
      replace HO := Lib.hid (HO.out.below hb)
      replace HB := Lib.hid (HB.out.trans (hb.mono HB.out.size))
      clear hb
      clear hwn hgN
      simp only [Act.put, List.setIfInBounds_toArray, List.set_cons_succ, List.set_cons_zero]
      go_wp2_with fail
      refine ⟨HVN.out, ?_⟩
      refine Plan.plan_of_effect rfl (fun K hK => ?_)
      go_wp2_with fail
      refine (lequal_any (L := bigM) vu (.slice (some ⟨gN, 0, none⟩) 1 1) U [y] s 0 y.len _ HU.out.tk HTN.out HRI.out.v HRI.out.y bigM_le (by omega) (by omega) (by have := HYL.out; omega) (by have := HYL.out; omega) (by have := HYL.out; omega) (by have := HYL.out; omega) HRI.out.own).mono ?_
      rintro e' w14 ⟨rfl, hb⟩
      replace HVN := Lib.hid (HVN.out.below hb)
      replace HB := Lib.hid (HB.out.trans (hb.mono HB.out.size))
      clear hb
      go_wp2_with fail
      refine ⟨HVN.out, ?_⟩
      refine' Plan.plan_seg _ [9] (([10].map (·, false)) ++ ([11, 12].map (·, true))) (by kernel_rfl) (by kernel_rfl) rfl (by exact HVN.out) (fun wx hS => ?_) ?_
      rotate_left
      · clear hS
        go_light
        iterate 1 (apply Plan.seg_pick; rfl; intro K hK; go_wp)
        exact Plan.seg_nil
      refine Plan.plan_of_effect rfl (fun K hK => ?_)
      go_wp2_with fail
      refine (awake_any _).mono ?_
      rintro e' w15 ⟨rfl, hb⟩
      replace HVN := Lib.hid (HVN.out.below hb)
      replace HB := Lib.hid (HB.out.trans (hb.mono HB.out.size))
      clear hb
      go_wp2_with fail
      refine ⟨HVN.out, ?_⟩
      refine' Plan.plan_seg _ [11, 12] [] (by kernel_rfl) (by kernel_rfl) rfl (by exact HVN.out) (fun wx hS => ?_) ?_
      rotate_left
      · clear hS
        go_light
        iterate 2 (apply Plan.seg_pick; rfl; intro K hK; go_wp)
        exact Plan.seg_nil
      refine Plan.plan_nil ?_
      refine Plan.tree_leaf ?_
      go_wp2_with fail
      go_ret
      exact ⟨rfl, HB.out⟩
    · refine Plan.op_of_list rfl (fun K hK => ?_)
      refine Great.wpList_buildSliceTo rfl 35 53 1 #[(0, .tmp 147)] rfl w11.heap.size rfl (some 148) rfl Try.underlying35 (clipC y).toArray ?_ ?_
      · simp only [List.map_toArray, List.map_cons, List.map_nil, List.toList_toArray]
        exact built_clip y
      have hb := below_box w11 (.cells (clipC y).toArray 53)
      have HTN := Lib.hid (OT.box w11 y).tk
      obtain ⟨w12, hwn⟩ : ∃ q, q = w11.alloc (.cells (clipC y).toArray 53) := ⟨_, rfl⟩
      rw [← hwn] at HTN hb ⊢
      obtain ⟨gN, hgN⟩ : ∃ q, q = w11.heap.size := ⟨_, rfl⟩
      rw [← hgN] at HTN hb ⊢
      rw [hgN] at hb
      replace HVN := Lib.hid (HVN.out.below hb)
      replace HU := Lib.hid (HU.out.below hb)
      replace HO := Lib.hid (HO.out.below hb)
      replace HB := Lib.hid (HB.out.trans (hb.mono HB.out.size))
      clear hb
      clear hwn hgN
      simp only [Act.put, List.setIfInBounds_toArray, List.set_cons_succ, List.set_cons_zero]
      go_wp2_with fail
      refine ⟨HVN.out, ?_⟩
      refine Plan.tree_run ?_
      refine Plan.plan_of_effect rfl (fun K hK => ?_)
      go_wp2_with fail
      refine (hst0.out _ HO.out.tk).mono ?_
      rintro e' w13 ⟨rfl, hb⟩
      replace HVN := Lib.hid (HVN.out.below hb)
      replace HU := Lib.hid (HU.out.below hb)
      replace HO := Lib.hid (HO.out.below hb)
      replace HTN := Lib.hid (HTN.out.below hb)
      replace HB := Lib.hid (HB.out.trans (hb.mono HB.out.size))
      clear hb
      go_wp2_with fail
      refine ⟨HVN.out, ?_⟩
      refine Plan.plan_of_effect rfl (fun K hK => ?_)
      go_wp2_with fail
      refine (lequal_any (L := bigM) vu (.slice (some ⟨gN, 0, none⟩) 1 1) U [y] s 0 y.len _ HU.out.tk HTN.out HRI.out.v HRI.out.y bigM_le (by omega) (by omega) (by have := HYL.out; omega) (by have := HYL.out; omega) (by have := HYL.out; omega) (by have := HYL.out; omega) HRI.out.own).mono ?_
      rintro e' w14 ⟨rfl, hb⟩
      replace HVN := Lib.hid (HVN.out.below hb)
      replace HB := Lib.hid (HB.out.trans (hb.mono HB.out.size))
      clear hb
      go_wp2_with fail
      refine ⟨HVN.out, ?_⟩
      refine' Plan.plan_seg _ [9] (([10].map (·, false)) ++ ([11, 12].map (·, true))) (by kernel_rfl) (by kernel_rfl) rfl (by exact HVN.out) (fun wx hS => ?_) ?_
      rotate_left
      · clear hS
        go_light
        iterate 1 (apply Plan.seg_pick; rfl; intro K hK; go_wp)
        exact Plan.seg_nil
      refine Plan.plan_of_effect rfl (fun K hK => ?_)
      go_wp2_with fail
      refine (awake_any _).mono ?_
      rintro e' w15 ⟨rfl, hb⟩
      replace HVN := Lib.hid (HVN.out.below hb)
      replace HB := Lib.hid (HB.out.trans (hb.mono HB.out.size))
      clear hb
      go_wp2_with fail
      refine ⟨HVN.out, ?_⟩
      refine' Plan.plan_seg _ [11, 12] [] (by kernel_rfl) (by kernel_rfl) rfl (by exact HVN.out) (fun wx hS => ?_) ?_
      rotate_left
      · clear hS
        go_light
        iterate 2 (apply Plan.seg_pick; rfl; intro K hK; go_wp)
        exact Plan.seg_nil
      refine Plan.plan_nil ?_
      refine Plan.tree_leaf ?_
      go_wp2_with fail
      go_ret
      exact ⟨rfl, HB.out⟩
end Go.Proofs.Ytnmkcpgcdjhdjaa
