/- Texts of this claim joined: NW. -/
import Derived.Test.YtfoohocgdcgbcaaGreatBs17
import Derived.Test.YtfoohocgdcgbcaaGreatLo00
set_option linter.unusedVariables false
set_option linter.unusedSimpArgs false
namespace Go.Proofs.YtfoohocgdcgbcaaGreat
open Go.RowKit
set_option maxRecDepth 100000 in
set_option maxHeartbeats 16000000 in
theorem law_locks (v : Value) (m : Int) (give : Bool) (w : World) (h : Ints w v) (m0 : 0 ≤ m) (m1 : m ≤ 255) : Calls Tryz.prog 12 #[v, .int .u8 m, .bool give] w fun e w' => e = .returned (.bool true) ∧ Below w.heap.size w w' := by
 have HP := Lib.hid (pair_any v w h)
 clear h
 go_enter Tryz.func12, Tryz.ntmps12
 go_wp2_with fail
 refine HP.out.mono ?_
 rintro e w1 ⟨E, V, F, U, a1, a2, b1, rfl, hpr, hv, hu, hb⟩
 have HV := Lib.hid hv.tk
 have HU := Lib.hid hu.tk
 have HPR := Lib.hid hpr
 have HB := Lib.hid hb
 obtain ⟨va, vc, hV, -⟩ := hv.tk
 obtain ⟨ua, uc, hU, -⟩ := hu.tk
 obtain ⟨vn, hvn⟩ : ∃ k, k = E.ins.length := ⟨_, rfl⟩
 obtain ⟨un, hun⟩ : ∃ k, k = F.ins.length := ⟨_, rfl⟩
 rw [← hvn] at hV
 rw [← hun] at hU
 subst hV hU
 obtain ⟨q, hq⟩ : ∃ q, q = a2 + b1 := ⟨_, rfl⟩
 rw [← hq]
 have HQ := Lib.hid hq
 clear hv hu hpr hb hvn hun HP hq
 unfold EdV edV edC edAt
 dsimp only
 go_upto_region 2 with fail
 obtain ⟨w2, hw2⟩ : ∃ z, z = (((w1.alloc (.cells #[.int .i64 E.k, .int .i64 E.p, .int .i64 E.m, .int .i64 E.c, .int .i64 E.d, .int .i64 E.sn, .int .i64 E.sd, .slice va vn vc] 40)).alloc (.cells #[.int .i64 F.k, .int .i64 F.p, .int .i64 F.m, .int .i64 F.c, .int .i64 F.d, .int .i64 F.sn, .int .i64 F.sd, .slice ua un uc] 40)).alloc (.cells #[.int .i64 F.k, .int .i64 q, .int .i64 F.m, .int .i64 F.c, .int .i64 F.d, .int .i64 F.sn, .int .i64 F.sd, .slice ua un uc] 40)) := ⟨_, rfl⟩
 obtain ⟨g7, hg7⟩ : ∃ y, y = w1.heap.size := ⟨_, rfl⟩
 obtain ⟨g8, hg8⟩ : ∃ y, y = w1.heap.size + 1 := ⟨_, rfl⟩
 obtain ⟨g9, hg9⟩ : ∃ y, y = w1.heap.size + 1 + 1 := ⟨_, rfl⟩
 have hb : Below w1.heap.size w1 w2 := by rw [hw2]; go_grown
 have HE := Lib.hid (show E3 w2 g7 g8 g9 E F q (.slice va vn vc) (.slice ua un uc) by
  rw [hw2, hg7, hg8, hg9]
  refine ⟨?_, ?_, ?_⟩ <;> constructor <;> simp [go_sem])
 rw [← hw2, ← hg9, ← hg8, ← hg7]
 replace HV := Lib.hid (HV.out.below hb)
 replace HU := Lib.hid (HU.out.below hb)
 replace HB := Lib.hid (HB.out.trans (hb.mono HB.out.size))
 clear hb
 clear hw2 hg7 hg8 hg9
 obtain ⟨i1, i2, is, l1, l2, z1, z2, eb, q0, q1⟩ := HPR.out.inl
 obtain ⟨n1, iv1⟩ := HPR.out.e
 obtain ⟨n2, b2, iv2⟩ := HPR.out.f
 have c1 := HPR.out.c1
 have A1 := Lib.hid (fun (v : Value) (w : World) (h : Tk w v [longC]) (h' : Tk w (.slice va vn vc) E.ins) => long_apply iv1 (by omega) v _ w h h')
 have A2 := Lib.hid (fun (v : Value) (w : World) (h : Tk w v [longC]) (h' : Tk w (.slice ua un uc) F.ins) => long_apply iv2 (by have := HPR.out.s1; have := iv1.r1; omega) v _ w h h')
 obtain ⟨u1, hu1⟩ : ∃ u, u = Trk.nf (E.exl [longC]) := ⟨_, rfl⟩
 obtain ⟨u2, hu2⟩ : ∃ u, u = Trk.nf (F.exl [longC]) := ⟨_, rfl⟩
 rw [← hu1] at i1 A1
 rw [← hu2] at i2 A2
 have V1 := Lib.hid i1.x.v
 have V2 := Lib.hid i2.x.v
 clear hu1 hu2 i1 i2 is l1 l2 z1 z2 eb q0 q1 iv1 iv2 c1
 unfold EdV edV at A1 A2
 obtain ⟨n, hn⟩ : ∃ n, n = m % 100 + 1 := ⟨_, rfl⟩
 have HN := Lib.hid (show 1 ≤ n ∧ n ≤ 100 by omega)
 have HNE := Lib.hid hn
 go_upto_region 3 with fail
 rw [← HNE.out]
 clear hn HNE
 go_wp2_with fail
 refine (long_any _).mono ?_
 rintro e w3 ⟨vt, rfl, ho, hb⟩
 have HT := Lib.hid ho.tk
 clear ho
 replace HV := Lib.hid (HV.out.below hb)
 replace HU := Lib.hid (HU.out.below hb)
 replace HE := Lib.hid (HE.out.below hb)
 replace HB := Lib.hid (HB.out.trans (hb.mono HB.out.size))
 clear hb
 obtain ⟨ta, tc, ht, -⟩ := id HT.out
 obtain ⟨tn, htn⟩ : ∃ k, k = [longC].length := ⟨_, rfl⟩
 rw [← htn] at ht
 subst ht
 clear htn
 dsimp only
 iterate 10 go_step
 refine Great.wpList_buildSliceTo rfl 56 59 2 #[(0, .tmp 41), (1, .tmp 43)] rfl w3.heap.size rfl (some 44) rfl Tryz.underlying56 (evtL ⟨1, annB, docB, 0, 0, [longC]⟩ (.slice ta tn tc) ++ evtL ⟨2, annB, docB, 0, n, []⟩ (.slice none 0 0)).toArray ?_ ?_
 ·simp only [List.map_toArray, List.map_cons, List.map_nil, List.toList_toArray]
  exact built_ev2 ⟨1, annB, docB, 0, 0, [longC]⟩ ⟨2, annB, docB, 0, n, []⟩ _ _
 have hev := evs_two w3 ⟨1, annB, docB, 0, 0, [longC]⟩ ⟨2, annB, docB, 0, n, []⟩ _ _ HT.out (Tk.nil _) (.inl rfl) (.inr (.inr rfl))
 obtain ⟨x1, hwx⟩ : ∃ y, y = w3.alloc (.cells (evtL ⟨1, annB, docB, 0, 0, [longC]⟩ (.slice ta tn tc) ++ evtL ⟨2, annB, docB, 0, n, []⟩ (.slice none 0 0)).toArray 59) := ⟨_, rfl⟩
 obtain ⟨ge, hge⟩ : ∃ y, y = w3.heap.size := ⟨_, rfl⟩
 have hb : Below w3.heap.size w3 x1 := by rw [hwx]; exact below_box _ _
 rw [← hwx, ← hge] at hev ⊢
 have HEV := Lib.hid hev
 clear hwx hge hev HT
 replace HV := Lib.hid (HV.out.below hb)
 replace HU := Lib.hid (HU.out.below hb)
 replace HE := Lib.hid (HE.out.below hb)
 replace HB := Lib.hid (HB.out.trans (hb.mono HB.out.size))
 clear hb
 simp only [Act.put, List.setIfInBounds_toArray, List.set_cons_succ, List.set_cons_zero]
 have RN := Lib.hid (runs_any (L := 1000000) _ _ x1 HEV.out (by show (2 : Nat) ≤ 1000; decide) (lock_evs long_vt HN.out.1 (by have := HN.out.2; omega)) (by decide))
 go_wp2_with fail
 refine RN.out.mono ?_
 intro e y1 hr
 obtain ⟨sa, sc, so, se, rfl, hok, hd, hb⟩ := lock_ran long_vt HN.out.1 (by have := HN.out.2; omega) hr
 have HOK := Lib.hid hok
 have HD := Lib.hid hd
 clear hr hok hd RN HEV
 replace HV := Lib.hid (HV.out.below hb)
 replace HU := Lib.hid (HU.out.below hb)
 replace HE := Lib.hid (HE.out.below hb)
 replace HB := Lib.hid (HB.out.trans (hb.mono HB.out.size))
 clear hb
 go_upto_region 5 with fail
 obtain ⟨z1, hwx⟩ : ∃ y, y = y1.alloc (.cells #[.int .i64 0, .slice sa 1 sc] 55) := ⟨_, rfl⟩
 obtain ⟨g12, hgx⟩ : ∃ y, y = y1.heap.size := ⟨_, rfl⟩
 have hb : Below y1.heap.size y1 z1 := by rw [hwx]; exact below_box _ _
 have HS := Lib.hid (show SB z1 g12 0 sa 1 sc by rw [hwx, hgx]; exact (MapKept.heap_alloc y1 _).1)
 rw [← hwx, ← hgx]
 clear hwx hgx
 replace HV := Lib.hid (HV.out.below hb)
 replace HU := Lib.hid (HU.out.below hb)
 replace HE := Lib.hid (HE.out.below hb)
 replace HB := Lib.hid (HB.out.trans (hb.mono HB.out.size))
 replace HD := Lib.hid (HD.out.below hb)
 clear hb
 refine Plan.wp_region_plan (fun w' => E3 w' g7 g8 g9 E F q (.slice va vn vc) (.slice ua un uc)) (([0, 2, 5, 6, 9].map (·, true)) ++ (([1, 3].map (·, false)) ++ (([4].map (·, true)) ++ (([7].map (·, false)) ++ ([8].map (·, true)))))) (by kernel_rfl) (by kernel_rfl) (by kernel_rfl) (HE.out.below (Below.refl _ _).drew) ?_
 refine' Plan.plan_seg _ [0, 2, 5, 6, 9] (([1, 3].map (·, false)) ++ (([4].map (·, true)) ++ (([7].map (·, false)) ++ ([8].map (·, true))))) (by kernel_rfl) (by kernel_rfl) rfl (by exact HE.out.below (Below.refl _ _).drew) (fun wx hS => ?_) ?_
 rotate_left
 ·have HS := Lib.hid hS
  clear hS
  go_light
  iterate 1 (apply Plan.seg_pick; rfl; intro K hK; go_wp)
  (apply Plan.seg_pick; rfl; intro K hK)
  refine wpl_loadE HS.out.b rfl rfl rfl ?_
  go_wp
  iterate 3 (apply Plan.seg_pick; rfl; intro K hK; go_wp)
  exact Plan.seg_nil
 obtain ⟨z2, hw9⟩ : ∃ x, x = z1.drew := ⟨_, rfl⟩
 rw [← hw9]
 have hb : Below z1.heap.size z1 z2 := by rw [hw9]; exact (Below.refl _ _).drew
 clear hw9
 replace HV := Lib.hid (HV.out.below hb)
 replace HU := Lib.hid (HU.out.below hb)
 replace HE := Lib.hid (HE.out.below hb)
 replace HB := Lib.hid (HB.out.trans (hb.mono HB.out.size))
 replace HD := Lib.hid (HD.out.below hb)
 replace HS := Lib.hid (HS.out.below hb)
 clear hb
 refine Plan.plan_of_effect rfl (fun K hK => ?_)
 go_wp2_with fail
 refine (long_any _).mono ?_
 rintro e w5 ⟨xx, rfl, ho, hb⟩
 have H9 := Lib.hid ho.tk
 clear ho
 replace HV := Lib.hid (HV.out.below hb)
 replace HU := Lib.hid (HU.out.below hb)
 replace HE := Lib.hid (HE.out.below hb)
 replace HB := Lib.hid (HB.out.trans (hb.mono HB.out.size))
 replace HD := Lib.hid (HD.out.below hb)
 replace HS := Lib.hid (HS.out.below hb)
 clear hb
 go_wp2_with fail
 refine ⟨HE.out, ?_⟩
 refine Plan.plan_of_effect rfl (fun K hK => ?_)
 go_wp2_with fail
 refine (A2.out _ _ H9.out HU.out).mono ?_
 rintro e w6 ⟨xx, rfl, ho, hb⟩
 obtain ⟨oa, oc, hxx, -⟩ := id ho.tk
 obtain ⟨on, hn⟩ : ∃ k, k = u2.length := ⟨_, rfl⟩
 rw [← hn] at hxx
 subst hxx
 have HO := Lib.hid ho.tk
 clear ho H9 hn
 replace HV := Lib.hid (HV.out.below hb)
 replace HU := Lib.hid (HU.out.below hb)
 replace HE := Lib.hid (HE.out.below hb)
 replace HB := Lib.hid (HB.out.trans (hb.mono HB.out.size))
 replace HD := Lib.hid (HD.out.below hb)
 replace HS := Lib.hid (HS.out.below hb)
 clear hb
 go_wp2_with fail
 refine ⟨HE.out, ?_⟩
 refine' Plan.plan_seg _ [4] (([7].map (·, false)) ++ ([8].map (·, true))) (by kernel_rfl) (by kernel_rfl) rfl (by exact HE.out) (fun wx hS => ?_) ?_
 rotate_left
 ·clear hS
  go_light
  iterate 1 (apply Plan.seg_pick; rfl; intro K hK; go_wp)
  exact Plan.seg_nil
 refine Plan.plan_of_effect rfl (fun K hK => ?_)
 have hl4 : bobEs u2 = [⟨2, bobB, docB, 0, 1, []⟩, ⟨4, bobB, docB, 0, 0, u2⟩, ⟨5, bobB, docB, 0, 0, []⟩, ⟨6, bobB, docB, 0, 0, []⟩] := rfl
 refine Great.wpList_buildSliceTo rfl 56 59 4 #[(0, .tmp 52), (1, .tmp 56), (2, .tmp 57), (3, .tmp 58)] rfl w6.heap.size rfl (some 59) rfl Tryz.underlying56 (evtL ⟨2, bobB, docB, 0, 1, []⟩ (.slice none 0 0) ++ (evtL ⟨4, bobB, docB, 0, 0, u2⟩ (.slice oa on oc) ++ (evtL ⟨5, bobB, docB, 0, 0, []⟩ (.slice none 0 0) ++ evtL ⟨6, bobB, docB, 0, 0, []⟩ (.slice none 0 0)))).toArray ?_ ?_
 ·simp only [List.map_toArray, List.map_cons, List.map_nil, List.toList_toArray]
  exact built_ev4 ⟨2, bobB, docB, 0, 1, []⟩ ⟨4, bobB, docB, 0, 0, u2⟩ ⟨5, bobB, docB, 0, 0, []⟩ ⟨6, bobB, docB, 0, 0, []⟩ _ _ _ _
 have hev := evs_four w6 ⟨2, bobB, docB, 0, 1, []⟩ ⟨4, bobB, docB, 0, 0, u2⟩ ⟨5, bobB, docB, 0, 0, []⟩ ⟨6, bobB, docB, 0, 0, []⟩ _ _ _ _ (Tk.nil _) HO.out (Tk.nil _) (Tk.nil _) (.inr (.inr rfl)) (.inr (.inl rfl)) (.inr (.inr rfl)) (.inr (.inr rfl))
 rw [← hl4] at hev
 obtain ⟨w7, hwx⟩ : ∃ y, y = w6.alloc (.cells (evtL ⟨2, bobB, docB, 0, 1, []⟩ (.slice none 0 0) ++ (evtL ⟨4, bobB, docB, 0, 0, u2⟩ (.slice oa on oc) ++ (evtL ⟨5, bobB, docB, 0, 0, []⟩ (.slice none 0 0) ++ evtL ⟨6, bobB, docB, 0, 0, []⟩ (.slice none 0 0)))).toArray 59) := ⟨_, rfl⟩
 obtain ⟨ge4, hge⟩ : ∃ y, y = w6.heap.size := ⟨_, rfl⟩
 have hb : Below w6.heap.size w6 w7 := by rw [hwx]; exact below_box _ _
 rw [← hwx, ← hge] at hev ⊢
 have HEV := Lib.hid hev
 clear hwx hge hev hl4
 clear HO
 replace HV := Lib.hid (HV.out.below hb)
 replace HU := Lib.hid (HU.out.below hb)
 replace HE := Lib.hid (HE.out.below hb)
 replace HB := Lib.hid (HB.out.trans (hb.mono HB.out.size))
 replace HD := Lib.hid (HD.out.below hb)
 replace HS := Lib.hid (HS.out.below hb)
 clear hb
 simp only [Act.put, List.setIfInBounds_toArray, List.set_cons_succ, List.set_cons_zero]
 refine wpList_nil ?_
 refine hK _ _ ⟨HE.out, ?_⟩
 refine' Plan.plan_seg _ [8] [] (by kernel_rfl) (by kernel_rfl) rfl (by exact HE.out) (fun wx hS => ?_) ?_
 rotate_left
 ·clear hS
  go_light
  iterate 1 (apply Plan.seg_pick; rfl; intro K hK; go_wp)
  exact Plan.seg_nil
 refine Plan.plan_done ?_
 have HG := Lib.hid (block_lt_of_cell HS.out.c0)
 go_upto_region 6 with fail
 go_loopw [61] (fun i wr => ∃ k : Nat, k ≤ 4 ∧ i = .int .i64 (k : Int) ∧ Evs wr (.slice (some ⟨ge4, 0, none⟩) 4 4) (bobEs u2) ∧ SB wr g12 0 sa 1 sc ∧ Dcs wr (.slice sa 1 sc) [annD n [longC]] ∧ E3 wr g7 g8 g9 E F q (.slice va vn vc) (.slice ua un uc) ∧ Tk wr (.slice va vn vc) E.ins ∧ Below w.heap.size w wr) (fun i _ => 4 - (intOf i).toNat)
 case atStart => exact ⟨0, Nat.zero_le _, rfl, HEV.out, HS.out, HD.out, HE.out, HV.out, HB.out⟩
 case round =>
  clear HEV HS HD HE HV HB HU
  obtain ⟨k, hk, rfl, hev, hs, hd, he, hv, hb⟩ := hrel
  have HEV := Lib.hid hev
  have HS := Lib.hid hs
  have HD := Lib.hid hd
  have HE := Lib.hid he
  have HV := Lib.hid hv
  have HB := Lib.hid hb
  have HK := Lib.hid hk
  clear hev hs hd he hv hb hk
  by_cases hlt : k < 4
  ·obtain ⟨ev, hev⟩ : ∃ e, (bobEs u2)[k]? = some e := ⟨_, List.getElem?_eq_getElem (by show k < 4; exact hlt)⟩
   have hlt' : (k : Int) < 4 := by omega
   have hq0 : ¬ ((k : Int) < 0) := by omega
   obtain ⟨ao, cap, e1, -, -, hT⟩ := id HEV.out
   simp only [Value.slice.injEq] at e1
   obtain ⟨rfl, -, rfl⟩ := e1
   obtain ⟨b, o, tv, e1, hA, hR, hNT⟩ := hT k ev hev
   simp only [Option.some.injEq, Addr.mk.injEq, and_true] at e1
   obtain ⟨rfl, rfl⟩ := e1
   have HA := Lib.hid hA
   have HTK := Lib.hid hR
   have HEK := Lib.hid hev
   have HNT := Lib.hid hNT
   have HLT := Lib.hid hlt
   have hw9 : (k : Int) + 1 ≤ 9223372036854775807 := by omega
   have HW9 := Lib.hid hw9
   obtain ⟨ta', tc', htv, -⟩ := id hR
   obtain ⟨tn', htn⟩ : ∃ n, n = ev.t.length := ⟨_, rfl⟩
   rw [← htn] at htv
   subst htv
   clear hT hA hR hev hNT htn hlt hw9
   go_upto_region 7 with fail
   rw [Nat.zero_add] at HA
   apply wp_region_lit
   iterate 3 go_step
   refine wpl_loadEv HA.out rfl rfl rfl ?_
   unfold evtL
   go_upto_region 8 with fail
   obtain ⟨w3, hw3⟩ : ∃ y, y = wr.alloc (.cells #[.int .i64 ev.kind, .string ev.user, .string ev.doc, .int .i64 ev.base, .int .i64 ev.ticks, .slice ta' tn' tc'] 59) := ⟨_, rfl⟩
   obtain ⟨b16, hb11⟩ : ∃ y, y = wr.heap.size := ⟨_, rfl⟩
   have hb : Below wr.heap.size wr w3 := by rw [hw3]; exact below_box _ _
   have R16 := Lib.hid (show w3.rangeAt b16 0 (evtL ev (.slice ta' tn' tc')) by
    rw [hw3, hb11]
    exact range_box wr (evtL ev (.slice ta' tn' tc')) 59 0 _ (fun j u hj => by rw [Nat.zero_add]; exact hj))
   rw [← hw3, ← hb11]
   clear hw3 hb11 HA
   replace HEV := Lib.hid (HEV.out.below hb)
   replace HS := Lib.hid (HS.out.below hb)
   replace HD := Lib.hid (HD.out.below hb)
   replace HE := Lib.hid (HE.out.below hb)
   replace HV := Lib.hid (HV.out.below hb)
   replace HB := Lib.hid (HB.out.trans (hb.mono HB.out.size))
   replace HTK := Lib.hid (HTK.out.below hb)
   clear hb
   have k0 := HS.out.c0
   have k1 := HS.out.c1
   have ST := Lib.hid (bob_refused (L := 1000000) V2.out HEK.out HOK.out (by decide) HTK.out HNT.out HD.out)
   apply wp_region_lit
   iterate 3 go_step
   refine wpl_loadEv R16.out rfl rfl rfl ?_
   simp only [Act.put, List.setIfInBounds_toArray, List.set_cons_succ, List.set_cons_zero]
   go_wp2_with fail
   refine ST.out.mono ?_
   rintro e w4 ⟨n2, sa2, sn2, cap2, ov2, d2, rfl, -, -, hb⟩
   replace HEV := Lib.hid (HEV.out.below hb)
   replace HS := Lib.hid (HS.out.below hb)
   replace HD := Lib.hid (HD.out.below hb)
   replace HE := Lib.hid (HE.out.below hb)
   replace HV := Lib.hid (HV.out.below hb)
   replace HB := Lib.hid (HB.out.trans (hb.mono HB.out.size))
   replace HTK := Lib.hid (HTK.out.below hb)
   clear hb
   clear ST R16 HTK k0 k1
   have hw9 := HW9.out
   go_wp2_with fail
   have hb4 := below_box w4 (.cells #[.int .i64 n2, .slice sa2 sn2 cap2] 55)
   exact ⟨⟨k + 1, by have := HLT.out; omega, by simp, HEV.out.below hb4, HS.out.below hb4, HD.out.below hb4, HE.out.below hb4, HV.out.below hb4, HB.out.trans (hb4.mono HB.out.size)⟩, by have := HLT.out; simp [intOf]; omega⟩
  ·skip
   obtain rfl : k = 4 := by have := HK.out; omega
   have hlt' : ¬ (((4 : Nat) : Int) < 4) := by decide
   have HV2 := Lib.hid hlt
   go_upto_region 12 with fail
   clear hlt hlt'
   obtain ⟨z3, hz3⟩ : ∃ x, x = wr := ⟨_, rfl⟩
   rw [← hz3] at HS HD HE HV HB ⊢
   clear hz3 HEV
   have k0 := HS.out.c0
   have k1 := HS.out.c1
   go_cut [20, 21, 22] from 75 to 84 (fun v20 v21 v22 wx => ∃ (b : Nat) (a : Option Addr) (c : Nat) (d' : Dc), v20 = .pointer (some ⟨b, 0, none⟩) ∧ SB wx b 0 a 1 c ∧ v22 = .int .i64 0 ∧ Dcs wx (.slice a 1 c) [d'] ∧ AnnC 1000000 n d' ∧ Below w.heap.size w wx)
   case first =>
    have hS0 : Below z3.heap.size z3 z3.drew := (Below.refl _ _).drew
    have HE0 := Lib.hid HE.out
    have HS1 := Lib.hid HS.out
    refine Plan.wp_region_tree (fun w' => Below z3.heap.size z3 w') (.run ([0, 2].map (·, true)) (.fork 1 (.fork 3 (.run ([4].map (·, true)) (.fork 5 (.run ([6, 7, 8, 9].map (·, true) ++ [10, 11].map (·, false) ++ [12, 13].map (·, true)) .leaf) 10 (.run ([5].map (·, false) ++ [6, 7, 8, 9].map (·, true) ++ [11].map (·, false) ++ [12, 13].map (·, true)) .leaf))) 10 (.run ([3].map (·, false) ++ [4].map (·, true) ++ [5].map (·, false) ++ [6, 7, 8, 9].map (·, true) ++ [11].map (·, false) ++ [12, 13].map (·, true)) .leaf)) 10 (.run ([1, 3].map (·, false) ++ [4].map (·, true) ++ [5].map (·, false) ++ [6, 7, 8, 9].map (·, true) ++ [11].map (·, false) ++ [12, 13].map (·, true)) .leaf))) (by kernel_rfl) (by kernel_rfl) (by kernel_rfl) hS0 ?_
    refine Plan.tree_run ?_
    refine' Plan.plan_seg _ [0, 2] [] (by kernel_rfl) (by kernel_rfl) rfl (by exact hS0) (fun wx hS => ?_) ?_
    rotate_left
    ·have hs := HS1.out.below hS
     have he := HE0.out.below hS
     have j0 := hs.c0
     have j1 := hs.c1
     clear hS
     go_light
     iterate 1 (apply Plan.seg_pick; rfl; intro K hK; go_wp)
     (apply Plan.seg_pick; rfl; intro K hK)
     refine wpl_loadE he.a rfl rfl rfl ?_
     go_wp
     exact Plan.seg_nil
    refine Plan.plan_nil ?_
    obtain ⟨z4, hw9⟩ : ∃ x, x = z3.drew := ⟨_, rfl⟩
    rw [← hw9] at hS0 ⊢
    have HS0 := Lib.hid hS0
    have hb := hS0
    replace HD := Lib.hid (HD.out.below hb)
    replace HV := Lib.hid (HV.out.below hb)
    replace HB := Lib.hid (HB.out.trans (hb.mono HB.out.size))
    clear hw9 hS0 hb k0 k1 HS HE HE0 HS1
    refine Plan.tree_fork ?_ ?_
    ·skip
     refine Plan.op_of_list rfl (fun K hK => ?_)
     go_wp2_with fail
     refine (long_any _).mono ?_
     rintro e w21 ⟨xx, rfl, ho, hb⟩
     have H9 := Lib.hid ho.tk
     clear ho
     replace HD := Lib.hid (HD.out.below hb)
     replace HV := Lib.hid (HV.out.below hb)
     replace HS0 := Lib.hid (HS0.out.trans (hb.mono HS0.out.size))
     replace HB := Lib.hid (HB.out.trans (hb.mono HB.out.size))
     clear hb
     go_wp2_with fail
     refine ⟨HS0.out, ?_⟩
     refine Plan.tree_fork ?_ ?_
     ·skip
      refine Plan.op_of_list rfl (fun K hK => ?_)
      go_wp2_with fail
      refine (A1.out _ _ H9.out HV.out).mono ?_
      rintro e w22 ⟨xx, rfl, ho, hb⟩
      obtain ⟨oa, oc, hxx, -⟩ := id ho.tk
      obtain ⟨on, hn⟩ : ∃ k, k = u1.length := ⟨_, rfl⟩
      rw [← hn] at hxx
      subst hxx
      have HO := Lib.hid ho.tk
      clear ho hn H9
      replace HD := Lib.hid (HD.out.below hb)
      replace HV := Lib.hid (HV.out.below hb)
      replace HS0 := Lib.hid (HS0.out.trans (hb.mono HS0.out.size))
      replace HB := Lib.hid (HB.out.trans (hb.mono HB.out.size))
      clear hb
      go_wp2_with fail
      refine ⟨HS0.out, ?_⟩
      refine Plan.tree_run ?_
      refine' Plan.plan_seg _ [4] [] (by kernel_rfl) (by kernel_rfl) rfl (by exact HS0.out) (fun wx hS => ?_) ?_
      rotate_left
      ·clear hS
       go_light
       iterate 1 (apply Plan.seg_pick; rfl; intro K hK; go_wp)
       exact Plan.seg_nil
      refine Plan.plan_nil ?_
      refine Plan.tree_fork ?_ ?_
      ·skip
       refine Plan.op_of_list rfl (fun K hK => ?_)
       have AC := Lib.hid (ann_commit (L := 1000000) HOK.out (by decide) HO.out V1.out HD.out)
       go_wp2_with fail
       refine AC.out.mono ?_
       rintro e w23 ⟨n2, sa2, sn2, cap2, ov2, d2, rfl, hac, hx, hb⟩
       obtain ⟨rfl, rfl, hd2⟩ := hx rfl
       have HAC := Lib.hid hac
       have HD2 := Lib.hid hd2
       clear hac hx hd2 AC HO
       replace HD := Lib.hid (HD.out.below hb)
       replace HV := Lib.hid (HV.out.below hb)
       replace HS0 := Lib.hid (HS0.out.trans (hb.mono HS0.out.size))
       replace HB := Lib.hid (HB.out.trans (hb.mono HB.out.size))
       clear hb
       go_wp2_with fail
       refine ⟨HS0.out, ?_⟩
       refine Plan.tree_run ?_
       refine' Plan.plan_seg _ [6, 7, 8, 9] [(10, false), (11, false), (12, true), (13, true)] (by kernel_rfl) (by kernel_rfl) rfl (by exact HS0.out) (fun wx hS => ?_) ?_
       rotate_left
       ·clear hS
        go_light
        iterate 4 (apply Plan.seg_pick; rfl; intro K hK; go_wp)
        exact Plan.seg_nil
       refine Plan.plan_of_effect rfl (fun K hK => ?_)
       go_wp2_with fail
       refine ⟨HS0.out.alloc HS0.out.size _, ?_⟩
       obtain ⟨w24, hwx⟩ : ∃ y, y = w23.alloc (.cells #[.int .i64 0, .slice none 0 0] 55) := ⟨_, rfl⟩
       obtain ⟨g20, hgx⟩ : ∃ y, y = w23.heap.size := ⟨_, rfl⟩
       have hb : Below w23.heap.size w23 w24 := by rw [hwx]; exact below_box _ _
       have HSB := Lib.hid (show SB w24 g20 0 none 0 0 by rw [hwx, hgx]; exact (MapKept.heap_alloc w23 _).1)
       have HGB := Lib.hid (show w.heap.size ≤ g20 ∧ z3.heap.size ≤ g20 from ⟨by rw [hgx]; exact HB.out.size, by rw [hgx]; exact HS0.out.size⟩)
       rw [← hwx, ← hgx]
       clear hwx hgx
       replace HD := Lib.hid (HD.out.below hb)
       replace HV := Lib.hid (HV.out.below hb)
       replace HD2 := Lib.hid (HD2.out.below hb)
       replace HS0 := Lib.hid (HS0.out.trans (hb.mono HS0.out.size))
       replace HB := Lib.hid (HB.out.trans (hb.mono HB.out.size))
       clear hb
       refine Plan.plan_of_effect rfl (fun K hK => ?_)
       have k0 := HSB.out.c0
       have k1 := HSB.out.c1
       have f0 := HSB.out.f 0
       have f1 := HSB.out.f 1
       go_wp2_with fail
       have hput := HSB.out.put 0 sa2 1 cap2
       have hoth : ∀ x, x ≠ g20 → ((w24.setCell ⟨g20, 0, none⟩ (.int .i64 0)).setCell ⟨g20, 1, none⟩ (.slice sa2 1 cap2)).heap[x]? = w24.heap[x]? := fun x hx => (setCells_other g20 x hx [_] 1 _).trans (setCells_other g20 x hx [_] 0 w24)
       have hbf := below_setCells g20 HGB.out.1 [.slice sa2 1 cap2] 1 _ (below_setCells g20 HGB.out.1 [.int .i64 0] 0 _ HB.out)
       have hbs := below_setCells g20 HGB.out.2 [.slice sa2 1 cap2] 1 _ (below_setCells g20 HGB.out.2 [.int .i64 0] 0 _ HS0.out)
       simp only [World.setCells] at hbf hbs
       refine ⟨hbs, ?_⟩
       have hdd := HD2.out.skipS HSB.out.noStr hoth
       obtain ⟨w25, hwf⟩ : ∃ x, x = (w24.setCell ⟨g20, 0, none⟩ (.int .i64 0)).setCell ⟨g20, 1, none⟩ (.slice sa2 1 cap2) := ⟨_, rfl⟩
       rw [← hwf] at hput hbf hbs hdd ⊢
       have HF := Lib.hid (And.intro hput (And.intro hdd hbf))
       have HS0' := Lib.hid hbs
       clear hwf hput hoth hbf hdd hbs k0 k1 f0 f1
       refine' Plan.plan_seg _ [12, 13] [] (by kernel_rfl) (by kernel_rfl) rfl (by exact HS0'.out) (fun wx hS => ?_) ?_
       rotate_left
       ·clear hS
        go_light
        iterate 2 (apply Plan.seg_pick; rfl; intro K hK; go_wp)
        exact Plan.seg_nil
       refine Plan.plan_nil ?_
       refine Plan.tree_leaf ?_
       go_wp2_with fail
       go_meet
       case rel => exact ⟨g20, sa2, cap2, d2, rfl, HF.out.1, rfl, HF.out.2.1, HAC.out, HF.out.2.2⟩
      ·skip
       refine Plan.op_of_list rfl (fun K hK => ?_)
       go_wp2_with fail
       refine ⟨HS0.out.alloc HS0.out.size _, ?_⟩
       obtain ⟨w26, hwx⟩ : ∃ y, y = w22.alloc (.cells #[.int .i64 0, .slice none 0 0] 55) := ⟨_, rfl⟩
       obtain ⟨g20, hgx⟩ : ∃ y, y = w22.heap.size := ⟨_, rfl⟩
       have hb : Below w22.heap.size w22 w26 := by rw [hwx]; exact below_box _ _
       have HSB := Lib.hid (show SB w26 g20 0 none 0 0 by rw [hwx, hgx]; exact (MapKept.heap_alloc w22 _).1)
       have HGB := Lib.hid (show w.heap.size ≤ g20 ∧ z3.heap.size ≤ g20 from ⟨by rw [hgx]; exact HB.out.size, by rw [hgx]; exact HS0.out.size⟩)
       rw [← hwx, ← hgx]
       clear hwx hgx
       replace HD := Lib.hid (HD.out.below hb)
       replace HV := Lib.hid (HV.out.below hb)
       replace HO := Lib.hid (HO.out.below hb)
       replace HS0 := Lib.hid (HS0.out.trans (hb.mono HS0.out.size))
       replace HB := Lib.hid (HB.out.trans (hb.mono HB.out.size))
       clear hb
       refine Plan.tree_run ?_
       refine Plan.plan_of_effect rfl (fun K hK => ?_)
       have AC := Lib.hid (ann_commit (L := 1000000) HOK.out (by decide) HO.out V1.out HD.out)
       go_wp2_with fail
       refine AC.out.mono ?_
       rintro e w27 ⟨n2, sa2, sn2, cap2, ov2, d2, rfl, hac, hx, hb⟩
       obtain ⟨rfl, rfl, hd2⟩ := hx rfl
       have HAC := Lib.hid hac
       have HD2 := Lib.hid hd2
       clear hac hx hd2 AC HO
       replace HD := Lib.hid (HD.out.below hb)
       replace HV := Lib.hid (HV.out.below hb)
       replace HSB := Lib.hid (HSB.out.below hb)
       replace HS0 := Lib.hid (HS0.out.trans (hb.mono HS0.out.size))
       replace HB := Lib.hid (HB.out.trans (hb.mono HB.out.size))
       clear hb
       go_wp2_with fail
       refine ⟨HS0.out, ?_⟩
       refine' Plan.plan_seg _ [6, 7, 8, 9] [(11, false), (12, true), (13, true)] (by kernel_rfl) (by kernel_rfl) rfl (by exact HS0.out) (fun wx hS => ?_) ?_
       rotate_left
       ·clear hS
        go_light
        iterate 4 (apply Plan.seg_pick; rfl; intro K hK; go_wp)
        exact Plan.seg_nil
       refine Plan.plan_of_effect rfl (fun K hK => ?_)
       have k0 := HSB.out.c0
       have k1 := HSB.out.c1
       have f0 := HSB.out.f 0
       have f1 := HSB.out.f 1
       go_wp2_with fail
       have hput := HSB.out.put 0 sa2 1 cap2
       have hoth : ∀ x, x ≠ g20 → ((w27.setCell ⟨g20, 0, none⟩ (.int .i64 0)).setCell ⟨g20, 1, none⟩ (.slice sa2 1 cap2)).heap[x]? = w27.heap[x]? := fun x hx => (setCells_other g20 x hx [_] 1 _).trans (setCells_other g20 x hx [_] 0 w27)
       have hbf := below_setCells g20 HGB.out.1 [.slice sa2 1 cap2] 1 _ (below_setCells g20 HGB.out.1 [.int .i64 0] 0 _ HB.out)
       have hbs := below_setCells g20 HGB.out.2 [.slice sa2 1 cap2] 1 _ (below_setCells g20 HGB.out.2 [.int .i64 0] 0 _ HS0.out)
       simp only [World.setCells] at hbf hbs
       refine ⟨hbs, ?_⟩
       have hdd := HD2.out.skipS HSB.out.noStr hoth
       obtain ⟨w28, hwf⟩ : ∃ x, x = (w27.setCell ⟨g20, 0, none⟩ (.int .i64 0)).setCell ⟨g20, 1, none⟩ (.slice sa2 1 cap2) := ⟨_, rfl⟩
       rw [← hwf] at hput hbf hbs hdd ⊢
       have HF := Lib.hid (And.intro hput (And.intro hdd hbf))
       have HS0' := Lib.hid hbs
       clear hwf hput hoth hbf hdd hbs k0 k1 f0 f1
       refine' Plan.plan_seg _ [12, 13] [] (by kernel_rfl) (by kernel_rfl) rfl (by exact HS0'.out) (fun wx hS => ?_) ?_
       rotate_left
       ·clear hS
        go_light
        iterate 2 (apply Plan.seg_pick; rfl; intro K hK; go_wp)
        exact Plan.seg_nil
       refine Plan.plan_nil ?_
       refine Plan.tree_leaf ?_
       go_wp2_with fail
       go_meet
       case rel => exact ⟨g20, sa2, cap2, d2, rfl, HF.out.1, rfl, HF.out.2.1, HAC.out, HF.out.2.2⟩
     ·skip
      refine Plan.op_of_list rfl (fun K hK => ?_)
      go_wp2_with fail
      refine ⟨HS0.out.alloc HS0.out.size _, ?_⟩
      obtain ⟨w29, hwx⟩ : ∃ y, y = w21.alloc (.cells #[.int .i64 0, .slice none 0 0] 55) := ⟨_, rfl⟩
      obtain ⟨g20, hgx⟩ : ∃ y, y = w21.heap.size := ⟨_, rfl⟩
      have hb : Below w21.heap.size w21 w29 := by rw [hwx]; exact below_box _ _
      have HSB := Lib.hid (show SB w29 g20 0 none 0 0 by rw [hwx, hgx]; exact (MapKept.heap_alloc w21 _).1)
      have HGB := Lib.hid (show w.heap.size ≤ g20 ∧ z3.heap.size ≤ g20 from ⟨by rw [hgx]; exact HB.out.size, by rw [hgx]; exact HS0.out.size⟩)
      rw [← hwx, ← hgx]
      clear hwx hgx
      replace HD := Lib.hid (HD.out.below hb)
      replace HV := Lib.hid (HV.out.below hb)
      replace H9 := Lib.hid (H9.out.below hb)
      replace HS0 := Lib.hid (HS0.out.trans (hb.mono HS0.out.size))
      replace HB := Lib.hid (HB.out.trans (hb.mono HB.out.size))
      clear hb
      refine Plan.tree_run ?_
      refine Plan.plan_of_effect rfl (fun K hK => ?_)
      go_wp2_with fail
      refine (A1.out _ _ H9.out HV.out).mono ?_
      rintro e w30 ⟨xx, rfl, ho, hb⟩
      obtain ⟨oa, oc, hxx, -⟩ := id ho.tk
      obtain ⟨on, hn⟩ : ∃ k, k = u1.length := ⟨_, rfl⟩
      rw [← hn] at hxx
      subst hxx
      have HO := Lib.hid ho.tk
      clear ho hn H9
      replace HD := Lib.hid (HD.out.below hb)
      replace HV := Lib.hid (HV.out.below hb)
      replace HSB := Lib.hid (HSB.out.below hb)
      replace HS0 := Lib.hid (HS0.out.trans (hb.mono HS0.out.size))
      replace HB := Lib.hid (HB.out.trans (hb.mono HB.out.size))
      clear hb
      go_wp2_with fail
      refine ⟨HS0.out, ?_⟩
      refine' Plan.plan_seg _ [4] [(5, false), (6, true), (7, true), (8, true), (9, true), (11, false), (12, true), (13, true)] (by kernel_rfl) (by kernel_rfl) rfl (by exact HS0.out) (fun wx hS => ?_) ?_
      rotate_left
      ·clear hS
       go_light
       iterate 1 (apply Plan.seg_pick; rfl; intro K hK; go_wp)
       exact Plan.seg_nil
      refine Plan.plan_of_effect rfl (fun K hK => ?_)
      have AC := Lib.hid (ann_commit (L := 1000000) HOK.out (by decide) HO.out V1.out HD.out)
      go_wp2_with fail
      refine AC.out.mono ?_
      rintro e w31 ⟨n2, sa2, sn2, cap2, ov2, d2, rfl, hac, hx, hb⟩
      obtain ⟨rfl, rfl, hd2⟩ := hx rfl
      have HAC := Lib.hid hac
      have HD2 := Lib.hid hd2
      clear hac hx hd2 AC HO
      replace HD := Lib.hid (HD.out.below hb)
      replace HV := Lib.hid (HV.out.below hb)
      replace HSB := Lib.hid (HSB.out.below hb)
      replace HS0 := Lib.hid (HS0.out.trans (hb.mono HS0.out.size))
      replace HB := Lib.hid (HB.out.trans (hb.mono HB.out.size))
      clear hb
      go_wp2_with fail
      refine ⟨HS0.out, ?_⟩
      refine' Plan.plan_seg _ [6, 7, 8, 9] [(11, false), (12, true), (13, true)] (by kernel_rfl) (by kernel_rfl) rfl (by exact HS0.out) (fun wx hS => ?_) ?_
      rotate_left
      ·clear hS
       go_light
       iterate 4 (apply Plan.seg_pick; rfl; intro K hK; go_wp)
       exact Plan.seg_nil
      refine Plan.plan_of_effect rfl (fun K hK => ?_)
      have k0 := HSB.out.c0
      have k1 := HSB.out.c1
      have f0 := HSB.out.f 0
      have f1 := HSB.out.f 1
      go_wp2_with fail
      have hput := HSB.out.put 0 sa2 1 cap2
      have hoth : ∀ x, x ≠ g20 → ((w31.setCell ⟨g20, 0, none⟩ (.int .i64 0)).setCell ⟨g20, 1, none⟩ (.slice sa2 1 cap2)).heap[x]? = w31.heap[x]? := fun x hx => (setCells_other g20 x hx [_] 1 _).trans (setCells_other g20 x hx [_] 0 w31)
      have hbf := below_setCells g20 HGB.out.1 [.slice sa2 1 cap2] 1 _ (below_setCells g20 HGB.out.1 [.int .i64 0] 0 _ HB.out)
      have hbs := below_setCells g20 HGB.out.2 [.slice sa2 1 cap2] 1 _ (below_setCells g20 HGB.out.2 [.int .i64 0] 0 _ HS0.out)
      simp only [World.setCells] at hbf hbs
      refine ⟨hbs, ?_⟩
      have hdd := HD2.out.skipS HSB.out.noStr hoth
      obtain ⟨w32, hwf⟩ : ∃ x, x = (w31.setCell ⟨g20, 0, none⟩ (.int .i64 0)).setCell ⟨g20, 1, none⟩ (.slice sa2 1 cap2) := ⟨_, rfl⟩
      rw [← hwf] at hput hbf hbs hdd ⊢
      have HF := Lib.hid (And.intro hput (And.intro hdd hbf))
      have HS0' := Lib.hid hbs
      clear hwf hput hoth hbf hdd hbs k0 k1 f0 f1
      refine' Plan.plan_seg _ [12, 13] [] (by kernel_rfl) (by kernel_rfl) rfl (by exact HS0'.out) (fun wx hS => ?_) ?_
      rotate_left
      ·clear hS
       go_light
       iterate 2 (apply Plan.seg_pick; rfl; intro K hK; go_wp)
       exact Plan.seg_nil
      refine Plan.plan_nil ?_
      refine Plan.tree_leaf ?_
      go_wp2_with fail
      go_meet
      case rel => exact ⟨g20, sa2, cap2, d2, rfl, HF.out.1, rfl, HF.out.2.1, HAC.out, HF.out.2.2⟩
    ·skip
     refine Plan.op_of_list rfl (fun K hK => ?_)
     go_wp2_with fail
     refine ⟨HS0.out.alloc HS0.out.size _, ?_⟩
     obtain ⟨w33, hwx⟩ : ∃ y, y = z4.alloc (.cells #[.int .i64 0, .slice none 0 0] 55) := ⟨_, rfl⟩
     obtain ⟨g20, hgx⟩ : ∃ y, y = z4.heap.size := ⟨_, rfl⟩
     have hb : Below z4.heap.size z4 w33 := by rw [hwx]; exact below_box _ _
     have HSB := Lib.hid (show SB w33 g20 0 none 0 0 by rw [hwx, hgx]; exact (MapKept.heap_alloc z4 _).1)
     have HGB := Lib.hid (show w.heap.size ≤ g20 ∧ z3.heap.size ≤ g20 from ⟨by rw [hgx]; exact HB.out.size, by rw [hgx]; exact HS0.out.size⟩)
     rw [← hwx, ← hgx]
     clear hwx hgx
     replace HD := Lib.hid (HD.out.below hb)
     replace HV := Lib.hid (HV.out.below hb)
     replace HS0 := Lib.hid (HS0.out.trans (hb.mono HS0.out.size))
     replace HB := Lib.hid (HB.out.trans (hb.mono HB.out.size))
     clear hb
     refine Plan.tree_run ?_
     refine Plan.plan_of_effect rfl (fun K hK => ?_)
     go_wp2_with fail
     refine (long_any _).mono ?_
     rintro e w34 ⟨xx, rfl, ho, hb⟩
     have H9 := Lib.hid ho.tk
     clear ho
     replace HD := Lib.hid (HD.out.below hb)
     replace HV := Lib.hid (HV.out.below hb)
     replace HSB := Lib.hid (HSB.out.below hb)
     replace HS0 := Lib.hid (HS0.out.trans (hb.mono HS0.out.size))
     replace HB := Lib.hid (HB.out.trans (hb.mono HB.out.size))
     clear hb
     go_wp2_with fail
     refine ⟨HS0.out, ?_⟩
     refine Plan.plan_of_effect rfl (fun K hK => ?_)
     go_wp2_with fail
     refine (A1.out _ _ H9.out HV.out).mono ?_
     rintro e w35 ⟨xx, rfl, ho, hb⟩
     obtain ⟨oa, oc, hxx, -⟩ := id ho.tk
     obtain ⟨on, hn⟩ : ∃ k, k = u1.length := ⟨_, rfl⟩
     rw [← hn] at hxx
     subst hxx
     have HO := Lib.hid ho.tk
     clear ho hn H9
     replace HD := Lib.hid (HD.out.below hb)
     replace HV := Lib.hid (HV.out.below hb)
     replace HSB := Lib.hid (HSB.out.below hb)
     replace HS0 := Lib.hid (HS0.out.trans (hb.mono HS0.out.size))
     replace HB := Lib.hid (HB.out.trans (hb.mono HB.out.size))
     clear hb
     go_wp2_with fail
     refine ⟨HS0.out, ?_⟩
     refine' Plan.plan_seg _ [4] [(5, false), (6, true), (7, true), (8, true), (9, true), (11, false), (12, true), (13, true)] (by kernel_rfl) (by kernel_rfl) rfl (by exact HS0.out) (fun wx hS => ?_) ?_
     rotate_left
     ·clear hS
      go_light
      iterate 1 (apply Plan.seg_pick; rfl; intro K hK; go_wp)
      exact Plan.seg_nil
     refine Plan.plan_of_effect rfl (fun K hK => ?_)
     have AC := Lib.hid (ann_commit (L := 1000000) HOK.out (by decide) HO.out V1.out HD.out)
     go_wp2_with fail
     refine AC.out.mono ?_
     rintro e w36 ⟨n2, sa2, sn2, cap2, ov2, d2, rfl, hac, hx, hb⟩
     obtain ⟨rfl, rfl, hd2⟩ := hx rfl
     have HAC := Lib.hid hac
     have HD2 := Lib.hid hd2
     clear hac hx hd2 AC HO
     replace HD := Lib.hid (HD.out.below hb)
     replace HV := Lib.hid (HV.out.below hb)
     replace HSB := Lib.hid (HSB.out.below hb)
     replace HS0 := Lib.hid (HS0.out.trans (hb.mono HS0.out.size))
     replace HB := Lib.hid (HB.out.trans (hb.mono HB.out.size))
     clear hb
     go_wp2_with fail
     refine ⟨HS0.out, ?_⟩
     refine' Plan.plan_seg _ [6, 7, 8, 9] [(11, false), (12, true), (13, true)] (by kernel_rfl) (by kernel_rfl) rfl (by exact HS0.out) (fun wx hS => ?_) ?_
     rotate_left
     ·clear hS
      go_light
      iterate 4 (apply Plan.seg_pick; rfl; intro K hK; go_wp)
      exact Plan.seg_nil
     refine Plan.plan_of_effect rfl (fun K hK => ?_)
     have k0 := HSB.out.c0
     have k1 := HSB.out.c1
     have f0 := HSB.out.f 0
     have f1 := HSB.out.f 1
     go_wp2_with fail
     have hput := HSB.out.put 0 sa2 1 cap2
     have hoth : ∀ x, x ≠ g20 → ((w36.setCell ⟨g20, 0, none⟩ (.int .i64 0)).setCell ⟨g20, 1, none⟩ (.slice sa2 1 cap2)).heap[x]? = w36.heap[x]? := fun x hx => (setCells_other g20 x hx [_] 1 _).trans (setCells_other g20 x hx [_] 0 w36)
     have hbf := below_setCells g20 HGB.out.1 [.slice sa2 1 cap2] 1 _ (below_setCells g20 HGB.out.1 [.int .i64 0] 0 _ HB.out)
     have hbs := below_setCells g20 HGB.out.2 [.slice sa2 1 cap2] 1 _ (below_setCells g20 HGB.out.2 [.int .i64 0] 0 _ HS0.out)
     simp only [World.setCells] at hbf hbs
     refine ⟨hbs, ?_⟩
     have hdd := HD2.out.skipS HSB.out.noStr hoth
     obtain ⟨w37, hwf⟩ : ∃ x, x = (w36.setCell ⟨g20, 0, none⟩ (.int .i64 0)).setCell ⟨g20, 1, none⟩ (.slice sa2 1 cap2) := ⟨_, rfl⟩
     rw [← hwf] at hput hbf hbs hdd ⊢
     have HF := Lib.hid (And.intro hput (And.intro hdd hbf))
     have HS0' := Lib.hid hbs
     clear hwf hput hoth hbf hdd hbs k0 k1 f0 f1
     refine' Plan.plan_seg _ [12, 13] [] (by kernel_rfl) (by kernel_rfl) rfl (by exact HS0'.out) (fun wx hS => ?_) ?_
     rotate_left
     ·clear hS
      go_light
      iterate 2 (apply Plan.seg_pick; rfl; intro K hK; go_wp)
      exact Plan.seg_nil
     refine Plan.plan_nil ?_
     refine Plan.tree_leaf ?_
     go_wp2_with fail
     go_meet
     case rel => exact ⟨g20, sa2, cap2, d2, rfl, HF.out.1, rfl, HF.out.2.1, HAC.out, HF.out.2.2⟩
   case rest =>
   obtain ⟨g20, sa2, cap2, d2, rfl, hsb, rfl, hd2, hac, hb⟩ := hcut
   have HSB := Lib.hid hsb
   have HD2 := Lib.hid hd2
   have HAC := Lib.hid hac
   have HB2 := Lib.hid hb
   clear hsb hd2 hac hb HB HS HD HE HV k0 k1
   cases give with
   | false =>
    go_upto_region 16 with fail
    obtain ⟨w40, hwx⟩ : ∃ y, y = wc.alloc (.cells #[.int .i64 7, .string ⟨#[]⟩, .string ⟨#[]⟩, .int .i64 0, .int .i64 n, .slice none 0 0] 59) := ⟨_, rfl⟩
    obtain ⟨g23, hgx⟩ : ∃ y, y = wc.heap.size := ⟨_, rfl⟩
    have hb : Below wc.heap.size wc w40 := by rw [hwx]; exact below_box _ _
    have R23 := Lib.hid (show w40.rangeAt g23 0 (evtL ⟨7, ⟨#[]⟩, ⟨#[]⟩, 0, n, []⟩ (.slice none 0 0)) by
     rw [hwx, hgx]
     exact range_box wc (evtL ⟨7, ⟨#[]⟩, ⟨#[]⟩, 0, n, []⟩ (.slice none 0 0)) 59 0 _ (fun j u hj => by rw [Nat.zero_add]; exact hj))
    rw [← hwx, ← hgx]
    clear hwx hgx
    replace HSB := Lib.hid (HSB.out.below hb)
    replace HD2 := Lib.hid (HD2.out.below hb)
    replace HB2 := Lib.hid (HB2.out.trans (hb.mono HB2.out.size))
    clear hb
    have FP := Lib.hid (free_tick (L := 1000000) HAC.out HN.out.1 (by have := HN.out.2; omega) (by decide) HD2.out)
    have k0 := HSB.out.c0
    have k1 := HSB.out.c1
    apply wp_region_lit
    iterate 3 go_step
    refine wpl_loadEv R23.out rfl rfl rfl ?_
    simp only [Act.put, List.setIfInBounds_toArray, List.set_cons_succ, List.set_cons_zero]
    go_wp2_with fail
    refine FP.out.mono ?_
    rintro e w41 ⟨nw, a3, cap3, ob, oo, oc, rv, d3, rfl, n0, n1, hok3, how, hnm, hd3, hro, hb⟩
    have HOK3 := Lib.hid (And.intro n0 (And.intro n1 (And.intro hok3 (And.intro how hnm))))
    have HD3 := Lib.hid hd3
    have HRO := Lib.hid hro
    replace HB2 := Lib.hid (HB2.out.trans (hb.mono HB2.out.size))
    clear n0 n1 hok3 how hnm hd3 hro hb FP k0 k1 R23 HSB HD2
    go_upto_region 17 with fail
    obtain ⟨w42, hwx⟩ : ∃ y, y = w41.alloc (.cells #[.int .i64 nw, .slice a3 1 cap3] 55) := ⟨_, rfl⟩
    obtain ⟨g24, hgx⟩ : ∃ y, y = w41.heap.size := ⟨_, rfl⟩
    have hb : Below w41.heap.size w41 w42 := by rw [hwx]; exact below_box _ _
    have HS3 := Lib.hid (show SB w42 g24 nw a3 1 cap3 by rw [hwx, hgx]; exact (MapKept.heap_alloc w41 _).1)
    rw [← hwx, ← hgx]
    clear hwx hgx
    replace HD3 := Lib.hid (HD3.out.below hb)
    replace HRO := Lib.hid (rangeAt_below HRO.out (by simp [outL]) hb)
    replace HB2 := Lib.hid (HB2.out.trans (hb.mono HB2.out.size))
    clear hb
    have k0 := HS3.out.c0
    have k1 := HS3.out.c1
    have BL := Lib.hid (bob_lock (L := 1000000) HOK3.out.1 HOK3.out.2.1 HOK3.out.2.2.1 HOK3.out.2.2.2.1 HOK3.out.2.2.2.2 (by decide) HD3.out)
    go_wp2_with fail
    refine BL.out.mono ?_
    rintro e w43 ⟨n4, a4, k4, cap4, ov4, rfl, hb⟩
    replace HRO := Lib.hid (rangeAt_below HRO.out (by simp [outL]) hb)
    replace HB2 := Lib.hid (HB2.out.trans (hb.mono HB2.out.size))
    clear hb BL k0 k1
    go_upto_region 18 with fail
    obtain ⟨w44, hwx⟩ : ∃ y, y = w43.alloc (.cells #[.int .i64 n4, .slice a4 k4 cap4] 55) := ⟨_, rfl⟩
    have hb : Below w43.heap.size w43 w44 := by rw [hwx]; exact below_box _ _
    rw [← hwx]
    clear hwx
    replace HRO := Lib.hid (rangeAt_below HRO.out (by simp [outL]) hb)
    replace HB2 := Lib.hid (HB2.out.trans (hb.mono HB2.out.size))
    clear hb
    have c0 : w44.cell? ⟨ob, oo + 0, none⟩ = some (.int .i64 3) := HRO.out 0 _ rfl
    have c1 : w44.cell? ⟨ob, oo + 1, none⟩ = some (.string ⟨#[97, 110, 110]⟩) := HRO.out 1 _ rfl
    rw [Nat.add_zero] at c0
    go_wp2_with fail
    refine (awake_any _).mono ?_
    rintro e w45 ⟨rfl, hb⟩
    replace HB2 := Lib.hid (HB2.out.trans (hb.mono HB2.out.size))
    clear hb c0 c1
    go_wp2_with fail
    go_ret
    exact ⟨rfl, HB2.out⟩
   | true =>
    go_upto_region 16 with fail
    obtain ⟨w40, hwx⟩ : ∃ y, y = wc.alloc (.cells #[.int .i64 3, .string ⟨#[97, 110, 110]⟩, .string ⟨#[100]⟩, .int .i64 0, .int .i64 0, .slice none 0 0] 59) := ⟨_, rfl⟩
    obtain ⟨g23, hgx⟩ : ∃ y, y = wc.heap.size := ⟨_, rfl⟩
    have hb : Below wc.heap.size wc w40 := by rw [hwx]; exact below_box _ _
    have R23 := Lib.hid (show w40.rangeAt g23 0 (evtL ⟨3, annB, docB, 0, 0, []⟩ (.slice none 0 0)) by
     rw [hwx, hgx]
     exact range_box wc (evtL ⟨3, annB, docB, 0, 0, []⟩ (.slice none 0 0)) 59 0 _ (fun j u hj => by rw [Nat.zero_add]; exact hj))
    rw [← hwx, ← hgx]
    clear hwx hgx
    replace HSB := Lib.hid (HSB.out.below hb)
    replace HD2 := Lib.hid (HD2.out.below hb)
    replace HB2 := Lib.hid (HB2.out.trans (hb.mono HB2.out.size))
    clear hb
    have FP := Lib.hid (free_unlock (L := 1000000) HAC.out (by decide) HD2.out)
    have k0 := HSB.out.c0
    have k1 := HSB.out.c1
    apply wp_region_lit
    iterate 3 go_step
    refine wpl_loadEv R23.out rfl rfl rfl ?_
    simp only [Act.put, List.setIfInBounds_toArray, List.set_cons_succ, List.set_cons_zero]
    go_wp2_with fail
    refine FP.out.mono ?_
    rintro e w41 ⟨nw, a3, cap3, ob, oo, oc, rv, d3, rfl, n0, n1, hok3, how, hnm, hd3, hro, hb⟩
    have HOK3 := Lib.hid (And.intro n0 (And.intro n1 (And.intro hok3 (And.intro how hnm))))
    have HD3 := Lib.hid hd3
    have HRO := Lib.hid hro
    replace HB2 := Lib.hid (HB2.out.trans (hb.mono HB2.out.size))
    clear n0 n1 hok3 how hnm hd3 hro hb FP k0 k1 R23 HSB HD2
    go_upto_region 17 with fail
    obtain ⟨w42, hwx⟩ : ∃ y, y = w41.alloc (.cells #[.int .i64 nw, .slice a3 1 cap3] 55) := ⟨_, rfl⟩
    obtain ⟨g24, hgx⟩ : ∃ y, y = w41.heap.size := ⟨_, rfl⟩
    have hb : Below w41.heap.size w41 w42 := by rw [hwx]; exact below_box _ _
    have HS3 := Lib.hid (show SB w42 g24 nw a3 1 cap3 by rw [hwx, hgx]; exact (MapKept.heap_alloc w41 _).1)
    rw [← hwx, ← hgx]
    clear hwx hgx
    replace HD3 := Lib.hid (HD3.out.below hb)
    replace HRO := Lib.hid (rangeAt_below HRO.out (by simp [outL]) hb)
    replace HB2 := Lib.hid (HB2.out.trans (hb.mono HB2.out.size))
    clear hb
    have k0 := HS3.out.c0
    have k1 := HS3.out.c1
    have BL := Lib.hid (bob_lock (L := 1000000) HOK3.out.1 HOK3.out.2.1 HOK3.out.2.2.1 HOK3.out.2.2.2.1 HOK3.out.2.2.2.2 (by decide) HD3.out)
    go_wp2_with fail
    refine BL.out.mono ?_
    rintro e w43 ⟨n4, a4, k4, cap4, ov4, rfl, hb⟩
    replace HRO := Lib.hid (rangeAt_below HRO.out (by simp [outL]) hb)
    replace HB2 := Lib.hid (HB2.out.trans (hb.mono HB2.out.size))
    clear hb BL k0 k1
    go_upto_region 18 with fail
    obtain ⟨w44, hwx⟩ : ∃ y, y = w43.alloc (.cells #[.int .i64 n4, .slice a4 k4 cap4] 55) := ⟨_, rfl⟩
    have hb : Below w43.heap.size w43 w44 := by rw [hwx]; exact below_box _ _
    rw [← hwx]
    clear hwx
    replace HRO := Lib.hid (rangeAt_below HRO.out (by simp [outL]) hb)
    replace HB2 := Lib.hid (HB2.out.trans (hb.mono HB2.out.size))
    clear hb
    have c0 : w44.cell? ⟨ob, oo + 0, none⟩ = some (.int .i64 3) := HRO.out 0 _ rfl
    have c1 : w44.cell? ⟨ob, oo + 1, none⟩ = some (.string ⟨#[97, 110, 110]⟩) := HRO.out 1 _ rfl
    rw [Nat.add_zero] at c0
    go_wp2_with fail
    refine (awake_any _).mono ?_
    rintro e w45 ⟨rfl, hb⟩
    replace HB2 := Lib.hid (HB2.out.trans (hb.mono HB2.out.size))
    clear hb c0 c1
    go_wp2_with fail
    go_ret
    exact ⟨rfl, HB2.out⟩
end Go.Proofs.YtfoohocgdcgbcaaGreat
