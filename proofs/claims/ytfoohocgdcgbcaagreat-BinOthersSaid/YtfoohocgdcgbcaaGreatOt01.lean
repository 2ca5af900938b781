/- Texts of this claim joined: NS. -/
import Derived.Test.YtfoohocgdcgbcaaGreatBs17
import Derived.Test.YtfoohocgdcgbcaaGreatOt00
set_option linter.unusedVariables false
set_option linter.unusedSimpArgs false
namespace Go.Proofs.YtfoohocgdcgbcaaGreat
open Go.RowKit
theorem three_evs {t a b : List Trk.Clip} {U W : ByteArray} {L : Int} (ht : VT L t) (ha : VT L a) (hb : VT L b) (hU : okWord U) (hW : okWord W) : EvsOK L [⟨1, annB, docB, 0, 0, t⟩, ⟨4, U, docB, 0, 0, a⟩, ⟨4, W, docB, 0, 0, b⟩] := by
 constructor
 ·intro i e hi
  match i, hi with
  | 0, hi => obtain rfl := Option.some.inj hi; exact ⟨.inl rfl, ann_ok, doc_ok, ht, fun _ => rfl, fun _ => rfl, fun h => absurd (show (1 : Int) = 2 from h) (by decide)⟩
  | 1, hi => obtain rfl := Option.some.inj hi; exact ⟨.inr (.inr (.inr (.inl rfl))), hU, doc_ok, ha, fun _ => rfl, fun _ => rfl, fun h => absurd (show (4 : Int) = 2 from h) (by decide)⟩
  | 2, hi => obtain rfl := Option.some.inj hi; exact ⟨.inr (.inr (.inr (.inl rfl))), hW, doc_ok, hb, fun _ => rfl, fun _ => rfl, fun h => absurd (show (4 : Int) = 2 from h) (by decide)⟩
 ·intro i e hi
  match i, hi with
  | 0, hi => obtain rfl := Option.some.inj hi; exact ⟨fun _ => rfl, fun _ => rfl⟩
  | 1, hi => obtain rfl := Option.some.inj hi; exact ⟨fun h => absurd (show (4 : Int) = 1 from h) (by decide), fun h => absurd h (by decide)⟩
  | 2, hi => obtain rfl := Option.some.inj hi; exact ⟨fun h => absurd (show (4 : Int) = 1 from h) (by decide), fun h => absurd h (by decide)⟩
theorem both_ran {t a b v : List Trk.Clip} {U W : ByteArray} {L : Int} {w w' : World} {e : Ending} (Vt : VT L t) (Va : VT L a) (Vb : VT L b) (hU : okWord U) (hW : okWord W) (ht : Trk.Norm t) (ha : Trk.Norm a) (hat : a ≠ t) (hva : v ≠ a) (hv : Trk.Norm v) (hm : ∀ c x, MergeR t a b c x → c = 0 ∧ x = v)
  (h : RunPost w StpS [⟨1, annB, docB, 0, 0, t⟩, ⟨4, U, docB, 0, 0, a⟩, ⟨4, W, docB, 0, 0, b⟩] e w') :
  ∃ sa cap ov ec d, e = .returned (.tuple #[.agg #[.int .i64 0, .slice sa 1 cap], ov, ec]) ∧ Both2 t a v U W d ∧ DocOK L 0 d ∧ Dcs w' (.slice sa 1 cap) [d] ∧ Ers w' ec [0, 0, 0] ∧ Below w.heap.size w w' := by
 obtain ⟨now, v', ov, ec, ds, cs, rfl, hr, hd, hx, hb⟩ := h
 obtain ⟨rfl, rfl, d, rfl, hh⟩ := both_run ht ha hat hva hv hm hr
 obtain ⟨-, hi⟩ := run_inv (L := L) hr (three_evs Vt Va Vb hU hW)
 have hok : DocOK L 0 d := by
  rcases hi with ⟨h1, -⟩ | ⟨-, d2, h1, h2⟩
  ·cases h1
  ·cases h1; exact h2
 obtain ⟨sa, cap, hv2, -⟩ := id hd
 subst hv2
 exact ⟨sa, cap, ov, ec, d, rfl, hh, hok, hd, .of_row hx rfl, hb⟩
theorem Both2.cur {t a v : List Trk.Clip} {U W : ByteArray} {d : Dc} (h : Both2 t a v U W d) : ∃ r, curR d r ∧ r.t = v := by
 refine ⟨⟨3, W, 0, false, v⟩, ?_, rfl⟩
 unfold curR
 rw [h.r]
 rfl
theorem both_step {t a v x : List Trk.Clip} {U W V : ByteArray} {L : Int} {d : Dc} {vv : Value} {w : World} (h : Both2 t a v U W d) (hUW : U ≠ W) (hVk : okWord V) (hV : (V = U ∧ ∀ c y, MergeR a v t c y → c = 0 ∧ y = x) ∨ (V = W ∧ ∀ c y, MergeR v v a c y → c = 0 ∧ y = x)) (hd : DocOK L 0 d) (hL : L ≤ 140737488355328) (hv : Dcs w vv [d]) :
  Calls Tryz.prog 26 #[.agg #[.int .i64 0, vv], .agg #[.int .i64 5, .string V, .string docB, .int .i64 0, .int .i64 0, .slice none 0 0]] w (OnePost w 0 fun d' => CurIs x d' ∧ DocOK L 0 d') :=
 (bigstep_undo (L := L) hv hd hL (Int.le_refl 0) (by decide) hVk doc_ok).mono fun e w' hs => one_post hs h.n fun code d' hr => by
  obtain ⟨h1, h2⟩ := h.undo hUW hV hr
  exact ⟨h1, h2, UndoR.keeps hd hVk hr⟩
set_option maxRecDepth 100000 in
set_option maxHeartbeats 16000000 in
theorem law_others (v : Value) (w : World) (h : Ints w v) : Calls Tryz.prog 14 #[v] w fun e w' => e = .returned (.bool true) ∧ Below w.heap.size w w' := by
 have HP := Lib.hid (pair_any v w h)
 clear h
 go_enter Tryz.func14, Tryz.ntmps14
 go_wp2_with fail
 refine HP.out.mono ?_
 rintro e w1 ⟨E, V, F, U, a1, a2, b1, rfl, hpr, hv, hu, hb⟩
 have HV := Lib.hid hv.tk
 have HU := Lib.hid hu.tk
 have HPR := Lib.hid hpr
 have HB := Lib.hid hb
 obtain ⟨va, vc, hV, -⟩ := hv.tk
 obtain ⟨ua, uc, hU, -⟩ := hu.tk
 obtain ⟨vn, hvn⟩ : ∃ k, k = E.ins.length := ⟨_, rfl⟩
 obtain ⟨un, hun⟩ : ∃ k, k = F.ins.length := ⟨_, rfl⟩
 rw [← hvn] at hV
 rw [← hun] at hU
 subst hV hU
 obtain ⟨q, hq⟩ : ∃ q, q = a2 + b1 := ⟨_, rfl⟩
 rw [← hq]
 have HQ := Lib.hid hq
 clear hv hu hpr hb hvn hun HP hq
 unfold EdV edV edC edAt
 dsimp only
 go_upto_region 2 with fail
 obtain ⟨w2, hw2⟩ : ∃ z, z = (((w1.alloc (.cells #[.int .i64 E.k, .int .i64 E.p, .int .i64 E.m, .int .i64 E.c, .int .i64 E.d, .int .i64 E.sn, .int .i64 E.sd, .slice va vn vc] 40)).alloc (.cells #[.int .i64 F.k, .int .i64 F.p, .int .i64 F.m, .int .i64 F.c, .int .i64 F.d, .int .i64 F.sn, .int .i64 F.sd, .slice ua un uc] 40)).alloc (.cells #[.int .i64 F.k, .int .i64 q, .int .i64 F.m, .int .i64 F.c, .int .i64 F.d, .int .i64 F.sn, .int .i64 F.sd, .slice ua un uc] 40)) := ⟨_, rfl⟩
 obtain ⟨g3, hg3⟩ : ∃ y, y = w1.heap.size := ⟨_, rfl⟩
 obtain ⟨g4, hg4⟩ : ∃ y, y = w1.heap.size + 1 := ⟨_, rfl⟩
 obtain ⟨g5, hg5⟩ : ∃ y, y = w1.heap.size + 1 + 1 := ⟨_, rfl⟩
 have hb : Below w1.heap.size w1 w2 := by rw [hw2]; go_grown
 have HE := Lib.hid (show E3 w2 g3 g4 g5 E F q (.slice va vn vc) (.slice ua un uc) by
  rw [hw2, hg3, hg4, hg5]
  refine ⟨?_, ?_, ?_⟩ <;> constructor <;> simp [go_sem])
 rw [← hw2, ← hg5, ← hg4, ← hg3]
 replace HV := Lib.hid (HV.out.below hb)
 replace HU := Lib.hid (HU.out.below hb)
 replace HB := Lib.hid (HB.out.trans (hb.mono HB.out.size))
 clear hb
 clear hw2 hg3 hg4 hg5
 obtain ⟨i1, i2, is, l1, l2, z1, z2, eb, q0, q1⟩ := HPR.out.inl
 obtain ⟨n1, iv1⟩ := HPR.out.e
 obtain ⟨n2, b2, iv2⟩ := HPR.out.f
 have c1 := HPR.out.c1
 have A1 := Lib.hid (fun (v : Value) (w : World) (h : Tk w v [longC]) (h' : Tk w (.slice va vn vc) E.ins) => long_apply iv1 (by omega) v _ w h h')
 have A2 := Lib.hid (fun (v : Value) (w : World) (h : Tk w v [longC]) (h' : Tk w (.slice ua un uc) F.ins) => long_apply iv2 (by have := HPR.out.s1; have := iv1.r1; omega) v _ w h h')
 obtain ⟨xf, A3'⟩ := then_apply i1 (by omega) (by omega) (iv2.move (a' := q) (by rw [HQ.out]; omega) (by rw [HQ.out]; omega)) (by rw [HQ.out]; omega)
 have A3 := Lib.hid (fun (v : Value) (w : World) (h : Tk w v (Trk.nf (E.exl [longC]))) (h' : Tk w (.slice ua un uc) F.ins) => A3' v _ w h h')
 obtain ⟨u12, hu12⟩ : ∃ u, u = Trk.nf ((edAt F q).exl (Trk.nf (E.exl [longC]))) := ⟨_, rfl⟩
 rw [← hu12] at A3 xf
 obtain ⟨u1, hu1⟩ : ∃ u, u = Trk.nf (E.exl [longC]) := ⟨_, rfl⟩
 obtain ⟨u2, hu2⟩ : ∃ u, u = Trk.nf (F.exl [longC]) := ⟨_, rfl⟩
 rw [← hu1] at i1 A1 A3 xf
 rw [← hu2] at i2 A2
 have HAP := Lib.hid (show Apart u1 u2 u12 E.put F.put a1 E.rem a2 F.rem from ⟨i1, i2, is, by rw [HQ.out, eb] at xf; exact xf, l1, l2, by omega, by omega⟩)
 clear A3' hu12 hu1 hu2 xf i1 i2 is l1 l2 z1 z2 eb q0 q1 iv1 iv2 c1
 unfold EdV edV at A1 A2 A3
 go_wp2_with fail
 refine (long_any _).mono ?_
 rintro e w3 ⟨vt, rfl, ho, hb⟩
 have HT := Lib.hid ho.tk
 clear ho
 replace HV := Lib.hid (HV.out.below hb)
 replace HU := Lib.hid (HU.out.below hb)
 replace HE := Lib.hid (HE.out.below hb)
 replace HB := Lib.hid (HB.out.trans (hb.mono HB.out.size))
 clear hb
 obtain ⟨ta, tc, ht, -⟩ := HT.out
 obtain ⟨tn, htn⟩ : ∃ k, k = [longC].length := ⟨_, rfl⟩
 rw [← htn] at ht
 subst ht
 clear htn
 go_upto_region 3 with fail
 apply wp_region_lit
 iterate 3 go_step
 refine wpl_loadE HE.out.a rfl rfl rfl ?_
 go_wp2_with fail
 refine (A1.out _ _ HT.out HV.out).mono ?_
 rintro e w3 ⟨x, rfl, ho, hb⟩
 obtain ⟨H1a, H1c, hx, -⟩ := id ho.tk
 obtain ⟨H1n, hn⟩ : ∃ k, k = u1.length := ⟨_, rfl⟩
 rw [← hn] at hx
 subst hx
 have H1 := Lib.hid ho.tk
 clear ho hn
 replace HV := Lib.hid (HV.out.below hb)
 replace HU := Lib.hid (HU.out.below hb)
 replace HE := Lib.hid (HE.out.below hb)
 replace HT := Lib.hid (HT.out.below hb)
 replace HB := Lib.hid (HB.out.trans (hb.mono HB.out.size))
 clear hb
 go_upto_region 4 with fail
 obtain ⟨v3, hwx⟩ : ∃ z, z = w3.alloc (.cells #[.int .i64 4, .string ⟨#[97, 110, 110]⟩, .string ⟨#[100]⟩, .int .i64 0, .int .i64 0, .slice H1a H1n H1c] 59) := ⟨_, rfl⟩
 obtain ⟨g7, hg⟩ : ∃ z, z = w3.heap.size := ⟨_, rfl⟩
 have hb : Below w3.heap.size w3 v3 := by rw [hwx]; exact below_box _ _
 have R7 := Lib.hid (show v3.rangeAt g7 0 (evtL ⟨4, annB, docB, 0, 0, u1⟩ (.slice H1a H1n H1c)) by
  rw [hwx, hg]
  exact range_box w3 (evtL ⟨4, annB, docB, 0, 0, u1⟩ (.slice H1a H1n H1c)) 59 0 _ (fun j u hj => by rw [Nat.zero_add]; exact hj))
 rw [← hwx, ← hg]
 clear hwx hg
 replace HV := Lib.hid (HV.out.below hb)
 replace HU := Lib.hid (HU.out.below hb)
 replace HE := Lib.hid (HE.out.below hb)
 replace HT := Lib.hid (HT.out.below hb)
 replace HB := Lib.hid (HB.out.trans (hb.mono HB.out.size))
 replace H1 := Lib.hid (H1.out.below hb)
 clear hb
 go_upto_region 4 with fail
 apply wp_region_lit
 iterate 3 go_step
 refine wpl_loadE HE.out.b rfl rfl rfl ?_
 go_wp2_with fail
 refine (A2.out _ _ HT.out HU.out).mono ?_
 rintro e w4 ⟨x, rfl, ho, hb⟩
 obtain ⟨H2a, H2c, hx, -⟩ := id ho.tk
 obtain ⟨H2n, hn⟩ : ∃ k, k = u2.length := ⟨_, rfl⟩
 rw [← hn] at hx
 subst hx
 have H2 := Lib.hid ho.tk
 clear ho hn
 replace HV := Lib.hid (HV.out.below hb)
 replace HU := Lib.hid (HU.out.below hb)
 replace HE := Lib.hid (HE.out.below hb)
 replace HT := Lib.hid (HT.out.below hb)
 replace HB := Lib.hid (HB.out.trans (hb.mono HB.out.size))
 replace R7 := Lib.hid (rangeAt_below R7.out (by simp [evtL]) hb)
 replace H1 := Lib.hid (H1.out.below hb)
 clear hb
 go_upto_region 5 with fail
 obtain ⟨v4, hwx⟩ : ∃ z, z = w4.alloc (.cells #[.int .i64 4, .string ⟨#[98, 111, 98]⟩, .string ⟨#[100]⟩, .int .i64 0, .int .i64 0, .slice H2a H2n H2c] 59) := ⟨_, rfl⟩
 obtain ⟨g8, hg⟩ : ∃ z, z = w4.heap.size := ⟨_, rfl⟩
 have hb : Below w4.heap.size w4 v4 := by rw [hwx]; exact below_box _ _
 have R8 := Lib.hid (show v4.rangeAt g8 0 (evtL ⟨4, bobB, docB, 0, 0, u2⟩ (.slice H2a H2n H2c)) by
  rw [hwx, hg]
  exact range_box w4 (evtL ⟨4, bobB, docB, 0, 0, u2⟩ (.slice H2a H2n H2c)) 59 0 _ (fun j u hj => by rw [Nat.zero_add]; exact hj))
 rw [← hwx, ← hg]
 clear hwx hg
 replace HV := Lib.hid (HV.out.below hb)
 replace HU := Lib.hid (HU.out.below hb)
 replace HE := Lib.hid (HE.out.below hb)
 replace HT := Lib.hid (HT.out.below hb)
 replace HB := Lib.hid (HB.out.trans (hb.mono HB.out.size))
 replace R7 := Lib.hid (rangeAt_below R7.out (by simp [evtL]) hb)
 replace H1 := Lib.hid (H1.out.below hb)
 replace H2 := Lib.hid (H2.out.below hb)
 clear hb
 go_upto_region 6 with fail
 obtain ⟨v5, hwx⟩ : ∃ z, z = v4.alloc (.cells #[.int .i64 1, .string ⟨#[97, 110, 110]⟩, .string ⟨#[100]⟩, .int .i64 0, .int .i64 0, .slice ta tn tc] 59) := ⟨_, rfl⟩
 obtain ⟨g9, hg⟩ : ∃ z, z = v4.heap.size := ⟨_, rfl⟩
 have hb : Below v4.heap.size v4 v5 := by rw [hwx]; exact below_box _ _
 have R9 := Lib.hid (show v5.rangeAt g9 0 (evtL ⟨1, annB, docB, 0, 0, [longC]⟩ (.slice ta tn tc)) by
  rw [hwx, hg]
  exact range_box v4 (evtL ⟨1, annB, docB, 0, 0, [longC]⟩ (.slice ta tn tc)) 59 0 _ (fun j u hj => by rw [Nat.zero_add]; exact hj))
 rw [← hwx, ← hg]
 clear hwx hg
 replace HV := Lib.hid (HV.out.below hb)
 replace HU := Lib.hid (HU.out.below hb)
 replace HE := Lib.hid (HE.out.below hb)
 replace HT := Lib.hid (HT.out.below hb)
 replace H1 := Lib.hid (H1.out.below hb)
 replace H2 := Lib.hid (H2.out.below hb)
 replace R7 := Lib.hid (rangeAt_below R7.out (by simp [evtL]) hb)
 replace R8 := Lib.hid (rangeAt_below R8.out (by simp [evtL]) hb)
 replace HB := Lib.hid (HB.out.trans (hb.mono HB.out.size))
 clear hb
 apply wp_region_lit
 iterate 3 go_step
 refine wpl_loadEv R9.out rfl rfl rfl ?_
 refine wpl_loadEv R7.out rfl rfl rfl ?_
 refine wpl_loadEv R8.out rfl rfl rfl ?_
 refine Great.wpList_buildSliceTo rfl 56 59 3 #[(0, .tmp 43), (1, .tmp 44), (2, .tmp 45)] rfl v5.heap.size rfl (some 46) rfl Tryz.underlying56 (evtL ⟨1, annB, docB, 0, 0, [longC]⟩ (.slice ta tn tc) ++ (evtL ⟨4, annB, docB, 0, 0, u1⟩ (.slice H1a H1n H1c) ++ evtL ⟨4, bobB, docB, 0, 0, u2⟩ (.slice H2a H2n H2c))).toArray ?_ ?_
 ·simp only [List.map_toArray, List.map_cons, List.map_nil, List.toList_toArray]
  exact built_ev3 ⟨1, annB, docB, 0, 0, [longC]⟩ ⟨4, annB, docB, 0, 0, u1⟩ ⟨4, bobB, docB, 0, 0, u2⟩ _ _ _
 have hev := evs_three v5 ⟨1, annB, docB, 0, 0, [longC]⟩ ⟨4, annB, docB, 0, 0, u1⟩ ⟨4, bobB, docB, 0, 0, u2⟩ _ _ _ HT.out H1.out H2.out (.inl rfl) (.inr (.inl rfl)) (.inr (.inl rfl))
 obtain ⟨x1, hwx⟩ : ∃ y, y = v5.alloc (.cells (evtL ⟨1, annB, docB, 0, 0, [longC]⟩ (.slice ta tn tc) ++ (evtL ⟨4, annB, docB, 0, 0, u1⟩ (.slice H1a H1n H1c) ++ evtL ⟨4, bobB, docB, 0, 0, u2⟩ (.slice H2a H2n H2c))).toArray 59) := ⟨_, rfl⟩
 obtain ⟨ge1, hge⟩ : ∃ y, y = v5.heap.size := ⟨_, rfl⟩
 have hb : Below v5.heap.size v5 x1 := by rw [hwx]; exact below_box _ _
 rw [← hwx, ← hge] at hev ⊢
 have HEV := Lib.hid hev
 clear hwx hge hev
 replace HV := Lib.hid (HV.out.below hb)
 replace HU := Lib.hid (HU.out.below hb)
 replace HE := Lib.hid (HE.out.below hb)
 replace HT := Lib.hid (HT.out.below hb)
 replace H1 := Lib.hid (H1.out.below hb)
 replace H2 := Lib.hid (H2.out.below hb)
 replace R7 := Lib.hid (rangeAt_below R7.out (by simp [evtL]) hb)
 replace R8 := Lib.hid (rangeAt_below R8.out (by simp [evtL]) hb)
 replace HB := Lib.hid (HB.out.trans (hb.mono HB.out.size))
 replace R9 := Lib.hid (rangeAt_below R9.out (by simp [evtL]) hb)
 clear hb
 simp only [Act.put, List.setIfInBounds_toArray, List.set_cons_succ, List.set_cons_zero]
 have RN := Lib.hid (runs_any (L := 1000000) _ _ x1 HEV.out (by show (3 : Nat) ≤ 1000; decide) (three_evs long_vt HAP.out.h1.x.v HAP.out.h2.x.v ann_ok bob_ok) (by decide))
 go_wp2_with fail
 refine RN.out.mono ?_
 intro e y1 hr
 obtain ⟨sa, sc, so, se, sd, rfl, hh, hok, hd, he, hb⟩ := both_ran long_vt HAP.out.h1.x.v HAP.out.h2.x.v ann_ok bob_ok norm_long HAP.out.h1.x.n HAP.out.u1l HAP.out.vu HAP.out.v.n (fun c x h => HAP.out.both (.inl ⟨rfl, rfl⟩) h) hr
 have HH1 := Lib.hid hh
 have HOK1 := Lib.hid hok
 have HD1 := Lib.hid hd
 have HER1 := Lib.hid he
 obtain ⟨sea, secap, hec, -⟩ := id he
 rw [show [(0 : Int), 0, 0].length = 3 from rfl] at hec
 subst hec
 clear hr hh hok hd he RN HEV
 replace HV := Lib.hid (HV.out.below hb)
 replace HU := Lib.hid (HU.out.below hb)
 replace HE := Lib.hid (HE.out.below hb)
 replace HT := Lib.hid (HT.out.below hb)
 replace H1 := Lib.hid (H1.out.below hb)
 replace H2 := Lib.hid (H2.out.below hb)
 replace R7 := Lib.hid (rangeAt_below R7.out (by simp [evtL]) hb)
 replace R8 := Lib.hid (rangeAt_below R8.out (by simp [evtL]) hb)
 replace HB := Lib.hid (HB.out.trans (hb.mono HB.out.size))
 replace R9 := Lib.hid (rangeAt_below R9.out (by simp [evtL]) hb)
 clear hb
 go_upto_region 7 with fail
 obtain ⟨z1, hwx⟩ : ∃ y, y = y1.alloc (.cells #[.int .i64 0, .slice sa 1 sc] 55) := ⟨_, rfl⟩
 obtain ⟨g10, hgx⟩ : ∃ y, y = y1.heap.size := ⟨_, rfl⟩
 have hb : Below y1.heap.size y1 z1 := by rw [hwx]; exact below_box _ _
 have HS1 := Lib.hid (show SB z1 g10 0 sa 1 sc by rw [hwx, hgx]; exact (MapKept.heap_alloc y1 _).1)
 rw [← hwx, ← hgx]
 clear hwx hgx
 replace HV := Lib.hid (HV.out.below hb)
 replace HU := Lib.hid (HU.out.below hb)
 replace HE := Lib.hid (HE.out.below hb)
 replace HT := Lib.hid (HT.out.below hb)
 replace H1 := Lib.hid (H1.out.below hb)
 replace H2 := Lib.hid (H2.out.below hb)
 replace R7 := Lib.hid (rangeAt_below R7.out (by simp [evtL]) hb)
 replace R8 := Lib.hid (rangeAt_below R8.out (by simp [evtL]) hb)
 replace HB := Lib.hid (HB.out.trans (hb.mono HB.out.size))
 replace R9 := Lib.hid (rangeAt_below R9.out (by simp [evtL]) hb)
 replace HD1 := Lib.hid (HD1.out.below hb)
 replace HER1 := Lib.hid (HER1.out.below hb)
 clear hb
 apply wp_region_lit
 iterate 3 go_step
 refine wpl_loadEv R9.out rfl rfl rfl ?_
 refine wpl_loadEv R8.out rfl rfl rfl ?_
 refine wpl_loadEv R7.out rfl rfl rfl ?_
 refine Great.wpList_buildSliceTo rfl 56 59 3 #[(0, .tmp 53), (1, .tmp 54), (2, .tmp 55)] rfl z1.heap.size rfl (some 56) rfl Tryz.underlying56 (evtL ⟨1, annB, docB, 0, 0, [longC]⟩ (.slice ta tn tc) ++ (evtL ⟨4, bobB, docB, 0, 0, u2⟩ (.slice H2a H2n H2c) ++ evtL ⟨4, annB, docB, 0, 0, u1⟩ (.slice H1a H1n H1c))).toArray ?_ ?_
 ·simp only [List.map_toArray, List.map_cons, List.map_nil, List.toList_toArray]
  exact built_ev3 ⟨1, annB, docB, 0, 0, [longC]⟩ ⟨4, bobB, docB, 0, 0, u2⟩ ⟨4, annB, docB, 0, 0, u1⟩ _ _ _
 have hev := evs_three z1 ⟨1, annB, docB, 0, 0, [longC]⟩ ⟨4, bobB, docB, 0, 0, u2⟩ ⟨4, annB, docB, 0, 0, u1⟩ _ _ _ HT.out H2.out H1.out (.inl rfl) (.inr (.inl rfl)) (.inr (.inl rfl))
 obtain ⟨x2, hwx⟩ : ∃ y, y = z1.alloc (.cells (evtL ⟨1, annB, docB, 0, 0, [longC]⟩ (.slice ta tn tc) ++ (evtL ⟨4, bobB, docB, 0, 0, u2⟩ (.slice H2a H2n H2c) ++ evtL ⟨4, annB, docB, 0, 0, u1⟩ (.slice H1a H1n H1c))).toArray 59) := ⟨_, rfl⟩
 obtain ⟨ge2, hge⟩ : ∃ y, y = z1.heap.size := ⟨_, rfl⟩
 have hb : Below z1.heap.size z1 x2 := by rw [hwx]; exact below_box _ _
 rw [← hwx, ← hge] at hev ⊢
 have HEV := Lib.hid hev
 clear hwx hge hev
 replace HV := Lib.hid (HV.out.below hb)
 replace HU := Lib.hid (HU.out.below hb)
 replace HE := Lib.hid (HE.out.below hb)
 replace HT := Lib.hid (HT.out.below hb)
 replace H1 := Lib.hid (H1.out.below hb)
 replace H2 := Lib.hid (H2.out.below hb)
 replace R7 := Lib.hid (rangeAt_below R7.out (by simp [evtL]) hb)
 replace R8 := Lib.hid (rangeAt_below R8.out (by simp [evtL]) hb)
 replace HB := Lib.hid (HB.out.trans (hb.mono HB.out.size))
 replace R9 := Lib.hid (rangeAt_below R9.out (by simp [evtL]) hb)
 replace HD1 := Lib.hid (HD1.out.below hb)
 replace HER1 := Lib.hid (HER1.out.below hb)
 replace HS1 := Lib.hid (HS1.out.below hb)
 clear hb
 simp only [Act.put, List.setIfInBounds_toArray, List.set_cons_succ, List.set_cons_zero]
 have RN := Lib.hid (runs_any (L := 1000000) _ _ x2 HEV.out (by show (3 : Nat) ≤ 1000; decide) (three_evs long_vt HAP.out.h2.x.v HAP.out.h1.x.v bob_ok ann_ok) (by decide))
 go_wp2_with fail
 refine RN.out.mono ?_
 intro e y2 hr
 obtain ⟨ra, rc, ro, re, rd, rfl, hh, hok, hd, he, hb⟩ := both_ran long_vt HAP.out.h2.x.v HAP.out.h1.x.v bob_ok ann_ok norm_long HAP.out.h2.x.n HAP.out.u2l HAP.out.vu2 HAP.out.v.n (fun c x h => HAP.out.both (.inr ⟨rfl, rfl⟩) h) hr
 have HH2 := Lib.hid hh
 have HOK2 := Lib.hid hok
 have HD2 := Lib.hid hd
 have HER2 := Lib.hid he
 obtain ⟨rea, recap, hec, -⟩ := id he
 rw [show [(0 : Int), 0, 0].length = 3 from rfl] at hec
 subst hec
 clear hr hh hok hd he RN HEV
 replace HV := Lib.hid (HV.out.below hb)
 replace HU := Lib.hid (HU.out.below hb)
 replace HE := Lib.hid (HE.out.below hb)
 replace HT := Lib.hid (HT.out.below hb)
 replace H1 := Lib.hid (H1.out.below hb)
 replace H2 := Lib.hid (H2.out.below hb)
 replace R7 := Lib.hid (rangeAt_below R7.out (by simp [evtL]) hb)
 replace R8 := Lib.hid (rangeAt_below R8.out (by simp [evtL]) hb)
 replace HB := Lib.hid (HB.out.trans (hb.mono HB.out.size))
 replace R9 := Lib.hid (rangeAt_below R9.out (by simp [evtL]) hb)
 replace HD1 := Lib.hid (HD1.out.below hb)
 replace HER1 := Lib.hid (HER1.out.below hb)
 replace HS1 := Lib.hid (HS1.out.below hb)
 clear hb
 go_upto_region 8 with fail
 obtain ⟨z2, hwx⟩ : ∃ y, y = y2.alloc (.cells #[.int .i64 0, .slice ra 1 rc] 55) := ⟨_, rfl⟩
 obtain ⟨g13, hgx⟩ : ∃ y, y = y2.heap.size := ⟨_, rfl⟩
 have hb : Below y2.heap.size y2 z2 := by rw [hwx]; exact below_box _ _
 have HS2 := Lib.hid (show SB z2 g13 0 ra 1 rc by rw [hwx, hgx]; exact (MapKept.heap_alloc y2 _).1)
 rw [← hwx, ← hgx]
 clear hwx hgx
 replace HV := Lib.hid (HV.out.below hb)
 replace HU := Lib.hid (HU.out.below hb)
 replace HE := Lib.hid (HE.out.below hb)
 replace HT := Lib.hid (HT.out.below hb)
 replace H1 := Lib.hid (H1.out.below hb)
 replace H2 := Lib.hid (H2.out.below hb)
 replace R7 := Lib.hid (rangeAt_below R7.out (by simp [evtL]) hb)
 replace R8 := Lib.hid (rangeAt_below R8.out (by simp [evtL]) hb)
 replace HB := Lib.hid (HB.out.trans (hb.mono HB.out.size))
 replace R9 := Lib.hid (rangeAt_below R9.out (by simp [evtL]) hb)
 replace HD1 := Lib.hid (HD1.out.below hb)
 replace HER1 := Lib.hid (HER1.out.below hb)
 replace HS1 := Lib.hid (HS1.out.below hb)
 replace HD2 := Lib.hid (HD2.out.below hb)
 replace HER2 := Lib.hid (HER2.out.below hb)
 clear hb
 clear R7 R8 R9 H1 H2
 apply wp_region_lit
 refine Great.wpList_buildSliceTo rfl 75 30 3 #[(0, .const (.int .i64 0)), (1, .const (.int .i64 0)), (2, .const (.int .i64 0))] rfl z2.heap.size rfl (some 61) rfl Tryz.underlying75 ([(0 : Int), 0, 0].map fun c => Value.int .i64 c).toArray ?_ ?_
 ·kernel_rfl
 obtain ⟨w8, hw6⟩ : ∃ y, y = z2.alloc (.cells ([(0 : Int), 0, 0].map fun c => Value.int .i64 c).toArray 30) := ⟨_, rfl⟩
 obtain ⟨gz, hgz⟩ : ∃ y, y = z2.heap.size := ⟨_, rfl⟩
 have hb : Below z2.heap.size z2 w8 := by rw [hw6]; exact below_box _ _
 have HZ := Lib.hid (show Ers w8 (.slice (some ⟨gz, 0, none⟩) 3 3) [0, 0, 0] by rw [hw6, hgz]; exact Ers.box z2 [0, 0, 0] (by unfold maxLen; decide))
 rw [← hw6, ← hgz]
 clear hw6 hgz
 replace HV := Lib.hid (HV.out.below hb)
 replace HU := Lib.hid (HU.out.below hb)
 replace HE := Lib.hid (HE.out.below hb)
 replace HT := Lib.hid (HT.out.below hb)
 replace HB := Lib.hid (HB.out.trans (hb.mono HB.out.size))
 replace HD1 := Lib.hid (HD1.out.below hb)
 replace HER1 := Lib.hid (HER1.out.below hb)
 replace HS1 := Lib.hid (HS1.out.below hb)
 replace HD2 := Lib.hid (HD2.out.below hb)
 replace HER2 := Lib.hid (HER2.out.below hb)
 replace HS2 := Lib.hid (HS2.out.below hb)
 clear hb
 simp only [Act.put, List.setIfInBounds_toArray, List.set_cons_succ, List.set_cons_zero]
 go_upto_region 9 with fail
 refine Plan.wp_region_plan (fun w' => E3 w' g3 g4 g5 E F q (.slice va vn vc) (.slice ua un uc)) (([0, 1, 3].map (·, true)) ++ (([2, 4].map (·, false)) ++ ([5].map (·, true)))) (by kernel_rfl) (by kernel_rfl) (by kernel_rfl) (HE.out.below (Below.refl _ _).drew) ?_
 refine' Plan.plan_seg _ [0, 1, 3] (([2, 4].map (·, false)) ++ ([5].map (·, true))) (by kernel_rfl) (by kernel_rfl) rfl (by exact HE.out.below (Below.refl _ _).drew) (fun wx hS => ?_) ?_
 rotate_left
 ·have HS := Lib.hid hS
  clear hS
  go_light
  iterate 1 (apply Plan.seg_pick; rfl; intro K hK; go_wp)
  (apply Plan.seg_pick; rfl; intro K hK)
  refine wpl_loadE HS.out.a rfl rfl rfl ?_
  go_wp
  (apply Plan.seg_pick; rfl; intro K hK)
  refine wpl_loadE HS.out.c rfl rfl rfl ?_
  go_wp
  exact Plan.seg_nil
 obtain ⟨w9, hw9⟩ : ∃ x, x = w8.drew := ⟨_, rfl⟩
 rw [← hw9]
 have hb : Below w8.heap.size w8 w9 := by rw [hw9]; exact (Below.refl _ _).drew
 clear hw9
 replace HV := Lib.hid (HV.out.below hb)
 replace HU := Lib.hid (HU.out.below hb)
 replace HE := Lib.hid (HE.out.below hb)
 replace HT := Lib.hid (HT.out.below hb)
 replace HB := Lib.hid (HB.out.trans (hb.mono HB.out.size))
 replace HD1 := Lib.hid (HD1.out.below hb)
 replace HER1 := Lib.hid (HER1.out.below hb)
 replace HS1 := Lib.hid (HS1.out.below hb)
 replace HD2 := Lib.hid (HD2.out.below hb)
 replace HER2 := Lib.hid (HER2.out.below hb)
 replace HS2 := Lib.hid (HS2.out.below hb)
 replace HZ := Lib.hid (HZ.out.below hb)
 clear hb
 simp only [Act.put, List.setIfInBounds_toArray, List.set_cons_succ, List.set_cons_zero]
 refine Plan.plan_of_effect rfl (fun K hK => ?_)
 go_wp2_with fail
 refine (A1.out _ _ HT.out HV.out).mono ?_
 rintro e w10 ⟨xx, rfl, ho, hb⟩
 have H9 := Lib.hid ho.tk
 clear ho
 replace HV := Lib.hid (HV.out.below hb)
 replace HU := Lib.hid (HU.out.below hb)
 replace HE := Lib.hid (HE.out.below hb)
 replace HT := Lib.hid (HT.out.below hb)
 replace HB := Lib.hid (HB.out.trans (hb.mono HB.out.size))
 replace HD1 := Lib.hid (HD1.out.below hb)
 replace HER1 := Lib.hid (HER1.out.below hb)
 replace HS1 := Lib.hid (HS1.out.below hb)
 replace HD2 := Lib.hid (HD2.out.below hb)
 replace HER2 := Lib.hid (HER2.out.below hb)
 replace HS2 := Lib.hid (HS2.out.below hb)
 replace HZ := Lib.hid (HZ.out.below hb)
 clear hb
 go_wp2_with fail
 refine ⟨HE.out, ?_⟩
 refine Plan.plan_of_effect rfl (fun K hK => ?_)
 go_wp2_with fail
 refine (A3.out _ _ H9.out HU.out).mono ?_
 rintro e w11 ⟨xx, rfl, ho, hb⟩
 obtain ⟨oa, oc, hxx, -⟩ := id ho.tk
 obtain ⟨on, hn⟩ : ∃ k, k = u12.length := ⟨_, rfl⟩
 rw [← hn] at hxx
 subst hxx
 have HO := Lib.hid ho.tk
 clear ho H9 hn A3
 replace HV := Lib.hid (HV.out.below hb)
 replace HU := Lib.hid (HU.out.below hb)
 replace HE := Lib.hid (HE.out.below hb)
 replace HT := Lib.hid (HT.out.below hb)
 replace HB := Lib.hid (HB.out.trans (hb.mono HB.out.size))
 replace HD1 := Lib.hid (HD1.out.below hb)
 replace HER1 := Lib.hid (HER1.out.below hb)
 replace HS1 := Lib.hid (HS1.out.below hb)
 replace HD2 := Lib.hid (HD2.out.below hb)
 replace HER2 := Lib.hid (HER2.out.below hb)
 replace HS2 := Lib.hid (HS2.out.below hb)
 replace HZ := Lib.hid (HZ.out.below hb)
 clear hb
 go_wp2_with fail
 refine ⟨HE.out, ?_⟩
 refine' Plan.plan_seg _ [5] [] (by kernel_rfl) (by kernel_rfl) rfl (by exact HE.out) (fun wx hS => ?_) ?_
 rotate_left
 ·clear hS
  go_light
  iterate 1 (apply Plan.seg_pick; rfl; intro K hK; go_wp)
  exact Plan.seg_nil
 refine Plan.plan_done ?_
 go_wp2_with fail
 refine (errnos_self _ _ _ _ HER1.out HZ.out).mono ?_
 rintro e w12 ⟨rfl, hb⟩
 replace HV := Lib.hid (HV.out.below hb)
 replace HU := Lib.hid (HU.out.below hb)
 replace HE := Lib.hid (HE.out.below hb)
 replace HT := Lib.hid (HT.out.below hb)
 replace HB := Lib.hid (HB.out.trans (hb.mono HB.out.size))
 replace HD1 := Lib.hid (HD1.out.below hb)
 replace HER1 := Lib.hid (HER1.out.below hb)
 replace HS1 := Lib.hid (HS1.out.below hb)
 replace HD2 := Lib.hid (HD2.out.below hb)
 replace HER2 := Lib.hid (HER2.out.below hb)
 replace HS2 := Lib.hid (HS2.out.below hb)
 replace HZ := Lib.hid (HZ.out.below hb)
 replace HO := Lib.hid (HO.out.below hb)
 clear hb
 clear HER1
 go_wp2_with fail
 refine (errnos_self _ _ _ _ HER2.out HZ.out).mono ?_
 rintro e w13 ⟨rfl, hb⟩
 replace HV := Lib.hid (HV.out.below hb)
 replace HU := Lib.hid (HU.out.below hb)
 replace HE := Lib.hid (HE.out.below hb)
 replace HT := Lib.hid (HT.out.below hb)
 replace HB := Lib.hid (HB.out.trans (hb.mono HB.out.size))
 replace HD1 := Lib.hid (HD1.out.below hb)
 replace HS1 := Lib.hid (HS1.out.below hb)
 replace HD2 := Lib.hid (HD2.out.below hb)
 replace HER2 := Lib.hid (HER2.out.below hb)
 replace HS2 := Lib.hid (HS2.out.below hb)
 replace HZ := Lib.hid (HZ.out.below hb)
 replace HO := Lib.hid (HO.out.below hb)
 clear hb
 clear HER2 HZ
 have k0 := HS1.out.c0
 have k1 := HS1.out.c1
 have C1 := Lib.hid (cur_any (now := 0) HD1.out HOK1.out HH1.out.cur)
 go_wp2_with fail
 refine C1.out.mono ?_
 rintro e w14 ⟨tv, rfl, htk, hb⟩
 have HTV := Lib.hid htk
 clear htk C1 k0 k1
 replace HV := Lib.hid (HV.out.below hb)
 replace HU := Lib.hid (HU.out.below hb)
 replace HE := Lib.hid (HE.out.below hb)
 replace HT := Lib.hid (HT.out.below hb)
 replace HB := Lib.hid (HB.out.trans (hb.mono HB.out.size))
 replace HD1 := Lib.hid (HD1.out.below hb)
 replace HS1 := Lib.hid (HS1.out.below hb)
 replace HD2 := Lib.hid (HD2.out.below hb)
 replace HS2 := Lib.hid (HS2.out.below hb)
 replace HO := Lib.hid (HO.out.below hb)
 clear hb
 go_wp2_with fail
 refine (equal_self _ _ _ _ HTV.out HO.out).mono ?_
 rintro e w15 ⟨rfl, hb⟩
 clear HTV
 replace HV := Lib.hid (HV.out.below hb)
 replace HU := Lib.hid (HU.out.below hb)
 replace HE := Lib.hid (HE.out.below hb)
 replace HT := Lib.hid (HT.out.below hb)
 replace HB := Lib.hid (HB.out.trans (hb.mono HB.out.size))
 replace HD1 := Lib.hid (HD1.out.below hb)
 replace HS1 := Lib.hid (HS1.out.below hb)
 replace HD2 := Lib.hid (HD2.out.below hb)
 replace HS2 := Lib.hid (HS2.out.below hb)
 replace HO := Lib.hid (HO.out.below hb)
 clear hb
 have k0 := HS2.out.c0
 have k1 := HS2.out.c1
 have C1 := Lib.hid (cur_any (now := 0) HD2.out HOK2.out HH2.out.cur)
 go_wp2_with fail
 refine C1.out.mono ?_
 rintro e w16 ⟨tv, rfl, htk, hb⟩
 have HTV := Lib.hid htk
 clear htk C1 k0 k1
 replace HV := Lib.hid (HV.out.below hb)
 replace HU := Lib.hid (HU.out.below hb)
 replace HE := Lib.hid (HE.out.below hb)
 replace HT := Lib.hid (HT.out.below hb)
 replace HB := Lib.hid (HB.out.trans (hb.mono HB.out.size))
 replace HD1 := Lib.hid (HD1.out.below hb)
 replace HS1 := Lib.hid (HS1.out.below hb)
 replace HD2 := Lib.hid (HD2.out.below hb)
 replace HS2 := Lib.hid (HS2.out.below hb)
 replace HO := Lib.hid (HO.out.below hb)
 clear hb
 go_wp2_with fail
 refine (equal_self _ _ _ _ HTV.out HO.out).mono ?_
 rintro e w17 ⟨rfl, hb⟩
 clear HTV
 replace HV := Lib.hid (HV.out.below hb)
 replace HU := Lib.hid (HU.out.below hb)
 replace HE := Lib.hid (HE.out.below hb)
 replace HT := Lib.hid (HT.out.below hb)
 replace HB := Lib.hid (HB.out.trans (hb.mono HB.out.size))
 replace HD1 := Lib.hid (HD1.out.below hb)
 replace HS1 := Lib.hid (HS1.out.below hb)
 replace HD2 := Lib.hid (HD2.out.below hb)
 replace HS2 := Lib.hid (HS2.out.below hb)
 replace HO := Lib.hid (HO.out.below hb)
 clear hb
 clear HO HS2 HD2 HH2 HOK2
 have k0 := HS1.out.c0
 have k1 := HS1.out.c1
 have U1 := Lib.hid (both_step (V := annB) (x := u2) HH1.out (by decide) ann_ok (.inl ⟨rfl, fun c y h => HAP.out.undo1 h⟩) HOK1.out (by decide) HD1.out)
 go_upto_region 12 with fail
 go_wp2_with fail
 refine U1.out.mono ?_
 rintro e w18 ⟨n3, a3, k3, c3, o3, d3, rfl, ⟨hcu, hokx⟩, hx, hb⟩
 obtain ⟨rfl, rfl, hdx⟩ := hx rfl
 have HC3 := Lib.hid hcu
 have HOK3 := Lib.hid hokx
 have HD3 := Lib.hid hdx
 clear hcu hokx hx hdx U1 k0 k1
 replace HV := Lib.hid (HV.out.below hb)
 replace HU := Lib.hid (HU.out.below hb)
 replace HE := Lib.hid (HE.out.below hb)
 replace HT := Lib.hid (HT.out.below hb)
 replace HB := Lib.hid (HB.out.trans (hb.mono HB.out.size))
 replace HD1 := Lib.hid (HD1.out.below hb)
 replace HS1 := Lib.hid (HS1.out.below hb)
 clear hb
 go_upto_region 13 with fail
 obtain ⟨z3, hwx⟩ : ∃ y, y = w18.alloc (.cells #[.int .i64 0, .slice a3 1 c3] 55) := ⟨_, rfl⟩
 obtain ⟨g18, hgx⟩ : ∃ y, y = w18.heap.size := ⟨_, rfl⟩
 have hb : Below w18.heap.size w18 z3 := by rw [hwx]; exact below_box _ _
 have HS3 := Lib.hid (show SB z3 g18 0 a3 1 c3 by rw [hwx, hgx]; exact (MapKept.heap_alloc w18 _).1)
 rw [← hwx, ← hgx]
 clear hwx hgx
 replace HV := Lib.hid (HV.out.below hb)
 replace HU := Lib.hid (HU.out.below hb)
 replace HE := Lib.hid (HE.out.below hb)
 replace HT := Lib.hid (HT.out.below hb)
 replace HB := Lib.hid (HB.out.trans (hb.mono HB.out.size))
 replace HD1 := Lib.hid (HD1.out.below hb)
 replace HS1 := Lib.hid (HS1.out.below hb)
 replace HD3 := Lib.hid (HD3.out.below hb)
 clear hb
 have k0 := HS1.out.c0
 have k1 := HS1.out.c1
 have U1 := Lib.hid (both_step (V := bobB) (x := u1) HH1.out (by decide) bob_ok (.inr ⟨rfl, fun c y h => merge_back HAP.out.h1.x.n HAP.out.v.n (Ne.symm HAP.out.vu) h⟩) HOK1.out (by decide) HD1.out)
 go_upto_region 13 with fail
 go_wp2_with fail
 refine U1.out.mono ?_
 rintro e w19 ⟨n4, a4, k4, c4, o4, d4, rfl, ⟨hcu, hokx⟩, hx, hb⟩
 obtain ⟨rfl, rfl, hdx⟩ := hx rfl
 have HC4 := Lib.hid hcu
 have HOK4 := Lib.hid hokx
 have HD4 := Lib.hid hdx
 clear hcu hokx hx hdx U1 k0 k1
 replace HV := Lib.hid (HV.out.below hb)
 replace HU := Lib.hid (HU.out.below hb)
 replace HE := Lib.hid (HE.out.below hb)
 replace HT := Lib.hid (HT.out.below hb)
 replace HB := Lib.hid (HB.out.trans (hb.mono HB.out.size))
 replace HD1 := Lib.hid (HD1.out.below hb)
 replace HS1 := Lib.hid (HS1.out.below hb)
 replace HD3 := Lib.hid (HD3.out.below hb)
 replace HS3 := Lib.hid (HS3.out.below hb)
 clear hb
 go_upto_region 14 with fail
 obtain ⟨z4, hwx⟩ : ∃ y, y = w19.alloc (.cells #[.int .i64 0, .slice a4 1 c4] 55) := ⟨_, rfl⟩
 obtain ⟨g21, hgx⟩ : ∃ y, y = w19.heap.size := ⟨_, rfl⟩
 have hb : Below w19.heap.size w19 z4 := by rw [hwx]; exact below_box _ _
 have HS4 := Lib.hid (show SB z4 g21 0 a4 1 c4 by rw [hwx, hgx]; exact (MapKept.heap_alloc w19 _).1)
 rw [← hwx, ← hgx]
 clear hwx hgx
 replace HV := Lib.hid (HV.out.below hb)
 replace HU := Lib.hid (HU.out.below hb)
 replace HE := Lib.hid (HE.out.below hb)
 replace HT := Lib.hid (HT.out.below hb)
 replace HB := Lib.hid (HB.out.trans (hb.mono HB.out.size))
 replace HD1 := Lib.hid (HD1.out.below hb)
 replace HS1 := Lib.hid (HS1.out.below hb)
 replace HD3 := Lib.hid (HD3.out.below hb)
 replace HS3 := Lib.hid (HS3.out.below hb)
 replace HD4 := Lib.hid (HD4.out.below hb)
 clear hb
 clear HS1 HD1
 refine Plan.wp_region_plan (fun w' => E3 w' g3 g4 g5 E F q (.slice va vn vc) (.slice ua un uc) ∧ SB w' g18 0 a3 1 c3 ∧ SB w' g21 0 a4 1 c4) (([0, 1, 2, 3, 4, 5, 6, 7, 9, 10].map (·, true)) ++ (([8, 11, 12].map (·, false)) ++ (([13, 14, 15, 17, 18].map (·, true)) ++ (([16, 19, 20].map (·, false)) ++ (([21, 22].map (·, true)) ++ (([23].map (·, false)) ++ ([24, 25].map (·, true)))))))) (by kernel_rfl) (by kernel_rfl) (by kernel_rfl) ⟨HE.out.below (Below.refl _ _).drew, HS3.out.below (Below.refl _ _).drew, HS4.out.below (Below.refl _ _).drew⟩ ?_
 refine' Plan.plan_seg _ [0, 1, 2, 3, 4, 5, 6, 7, 9, 10] (([8, 11, 12].map (·, false)) ++ (([13, 14, 15, 17, 18].map (·, true)) ++ (([16, 19, 20].map (·, false)) ++ (([21, 22].map (·, true)) ++ (([23].map (·, false)) ++ ([24, 25].map (·, true))))))) (by kernel_rfl) (by kernel_rfl) rfl (by exact ⟨HE.out.below (Below.refl _ _).drew, HS3.out.below (Below.refl _ _).drew, HS4.out.below (Below.refl _ _).drew⟩) (fun wx hS => ?_) ?_
 rotate_left
 ·obtain ⟨he, hs1, hs2⟩ := hS
  have k0 := hs1.c0
  have k1 := hs1.c1
  have j0 := hs2.c0
  have j1 := hs2.c1
  obtain ⟨m0, m1, m2, m3, m4, m5, m6, m7, -⟩ := he.a
  obtain ⟨o0, o1, o2, o3, o4, o5, o6, o7, -⟩ := he.b
  clear he hs1 hs2
  go_light
  iterate 10 (apply Plan.seg_pick; rfl; intro K hK; go_wp)
  exact Plan.seg_nil
 obtain ⟨w20, hw20⟩ : ∃ x, x = z4.drew := ⟨_, rfl⟩
 rw [← hw20]
 have hb : Below z4.heap.size z4 w20 := by rw [hw20]; exact (Below.refl _ _).drew
 clear hw20
 replace HV := Lib.hid (HV.out.below hb)
 replace HU := Lib.hid (HU.out.below hb)
 replace HE := Lib.hid (HE.out.below hb)
 replace HT := Lib.hid (HT.out.below hb)
 replace HB := Lib.hid (HB.out.trans (hb.mono HB.out.size))
 replace HD3 := Lib.hid (HD3.out.below hb)
 replace HS3 := Lib.hid (HS3.out.below hb)
 replace HD4 := Lib.hid (HD4.out.below hb)
 replace HS4 := Lib.hid (HS4.out.below hb)
 clear hb
 refine Plan.plan_of_effect rfl (fun K hK => ?_)
 go_wp2_with fail
 refine (cur_any (now := 0) HD3.out HOK3.out HC3.out).mono ?_
 rintro e w21 ⟨tv, rfl, htk, hb⟩
 have HTV := Lib.hid htk
 clear htk
 replace HV := Lib.hid (HV.out.below hb)
 replace HU := Lib.hid (HU.out.below hb)
 replace HE := Lib.hid (HE.out.below hb)
 replace HT := Lib.hid (HT.out.below hb)
 replace HB := Lib.hid (HB.out.trans (hb.mono HB.out.size))
 replace HD3 := Lib.hid (HD3.out.below hb)
 replace HS3 := Lib.hid (HS3.out.below hb)
 replace HD4 := Lib.hid (HD4.out.below hb)
 replace HS4 := Lib.hid (HS4.out.below hb)
 clear hb
 go_wp2_with fail
 refine ⟨⟨HE.out, HS3.out, HS4.out⟩, ?_⟩
 refine Plan.plan_of_effect rfl (fun K hK => ?_)
 go_wp2_with fail
 refine (A2.out _ _ HT.out HU.out).mono ?_
 rintro e w22 ⟨xx, rfl, ho, hb⟩
 have H9 := Lib.hid ho.tk
 clear ho
 replace HV := Lib.hid (HV.out.below hb)
 replace HU := Lib.hid (HU.out.below hb)
 replace HE := Lib.hid (HE.out.below hb)
 replace HT := Lib.hid (HT.out.below hb)
 replace HB := Lib.hid (HB.out.trans (hb.mono HB.out.size))
 replace HD3 := Lib.hid (HD3.out.below hb)
 replace HS3 := Lib.hid (HS3.out.below hb)
 replace HD4 := Lib.hid (HD4.out.below hb)
 replace HS4 := Lib.hid (HS4.out.below hb)
 replace HTV := Lib.hid (HTV.out.below hb)
 clear hb
 go_wp2_with fail
 refine ⟨⟨HE.out, HS3.out, HS4.out⟩, ?_⟩
 refine Plan.plan_of_effect rfl (fun K hK => ?_)
 go_wp2_with fail
 refine (equal_self _ _ _ _ HTV.out H9.out).mono ?_
 rintro e w23 ⟨rfl, hb⟩
 clear HTV H9
 replace HV := Lib.hid (HV.out.below hb)
 replace HU := Lib.hid (HU.out.below hb)
 replace HE := Lib.hid (HE.out.below hb)
 replace HT := Lib.hid (HT.out.below hb)
 replace HB := Lib.hid (HB.out.trans (hb.mono HB.out.size))
 replace HD3 := Lib.hid (HD3.out.below hb)
 replace HS3 := Lib.hid (HS3.out.below hb)
 replace HD4 := Lib.hid (HD4.out.below hb)
 replace HS4 := Lib.hid (HS4.out.below hb)
 clear hb
 go_wp2_with fail
 refine ⟨⟨HE.out, HS3.out, HS4.out⟩, ?_⟩
 refine' Plan.plan_seg _ [13, 14, 15, 17, 18] (([16, 19, 20].map (·, false)) ++ (([21, 22].map (·, true)) ++ (([23].map (·, false)) ++ ([24, 25].map (·, true))))) (by kernel_rfl) (by kernel_rfl) rfl (by exact ⟨HE.out, HS3.out, HS4.out⟩) (fun wx hS => ?_) ?_
 rotate_left
 ·obtain ⟨he, hs1, hs2⟩ := hS
  have k0 := hs1.c0
  have k1 := hs1.c1
  have j0 := hs2.c0
  have j1 := hs2.c1
  obtain ⟨m0, m1, m2, m3, m4, m5, m6, m7, -⟩ := he.a
  obtain ⟨o0, o1, o2, o3, o4, o5, o6, o7, -⟩ := he.b
  clear he hs1 hs2
  go_light
  iterate 5 (apply Plan.seg_pick; rfl; intro K hK; go_wp)
  exact Plan.seg_nil
 refine Plan.plan_of_effect rfl (fun K hK => ?_)
 go_wp2_with fail
 refine (cur_any (now := 0) HD4.out HOK4.out HC4.out).mono ?_
 rintro e w24 ⟨tv, rfl, htk, hb⟩
 have HTV := Lib.hid htk
 clear htk
 replace HV := Lib.hid (HV.out.below hb)
 replace HU := Lib.hid (HU.out.below hb)
 replace HE := Lib.hid (HE.out.below hb)
 replace HT := Lib.hid (HT.out.below hb)
 replace HB := Lib.hid (HB.out.trans (hb.mono HB.out.size))
 replace HD3 := Lib.hid (HD3.out.below hb)
 replace HS3 := Lib.hid (HS3.out.below hb)
 replace HD4 := Lib.hid (HD4.out.below hb)
 replace HS4 := Lib.hid (HS4.out.below hb)
 clear hb
 go_wp2_with fail
 refine ⟨⟨HE.out, HS3.out, HS4.out⟩, ?_⟩
 refine Plan.plan_of_effect rfl (fun K hK => ?_)
 go_wp2_with fail
 refine (A1.out _ _ HT.out HV.out).mono ?_
 rintro e w25 ⟨xx, rfl, ho, hb⟩
 have H9 := Lib.hid ho.tk
 clear ho
 replace HV := Lib.hid (HV.out.below hb)
 replace HU := Lib.hid (HU.out.below hb)
 replace HE := Lib.hid (HE.out.below hb)
 replace HT := Lib.hid (HT.out.below hb)
 replace HB := Lib.hid (HB.out.trans (hb.mono HB.out.size))
 replace HD3 := Lib.hid (HD3.out.below hb)
 replace HS3 := Lib.hid (HS3.out.below hb)
 replace HD4 := Lib.hid (HD4.out.below hb)
 replace HS4 := Lib.hid (HS4.out.below hb)
 replace HTV := Lib.hid (HTV.out.below hb)
 clear hb
 go_wp2_with fail
 refine ⟨⟨HE.out, HS3.out, HS4.out⟩, ?_⟩
 refine Plan.plan_of_effect rfl (fun K hK => ?_)
 go_wp2_with fail
 refine (equal_self _ _ _ _ HTV.out H9.out).mono ?_
 rintro e w26 ⟨rfl, hb⟩
 clear HTV H9
 replace HV := Lib.hid (HV.out.below hb)
 replace HU := Lib.hid (HU.out.below hb)
 replace HE := Lib.hid (HE.out.below hb)
 replace HT := Lib.hid (HT.out.below hb)
 replace HB := Lib.hid (HB.out.trans (hb.mono HB.out.size))
 replace HD3 := Lib.hid (HD3.out.below hb)
 replace HS3 := Lib.hid (HS3.out.below hb)
 replace HD4 := Lib.hid (HD4.out.below hb)
 replace HS4 := Lib.hid (HS4.out.below hb)
 clear hb
 go_wp2_with fail
 refine ⟨⟨HE.out, HS3.out, HS4.out⟩, ?_⟩
 refine' Plan.plan_seg _ [21, 22] (([23].map (·, false)) ++ ([24, 25].map (·, true))) (by kernel_rfl) (by kernel_rfl) rfl (by exact ⟨HE.out, HS3.out, HS4.out⟩) (fun wx hS => ?_) ?_
 rotate_left
 ·obtain ⟨he, hs1, hs2⟩ := hS
  have k0 := hs1.c0
  have k1 := hs1.c1
  have j0 := hs2.c0
  have j1 := hs2.c1
  obtain ⟨m0, m1, m2, m3, m4, m5, m6, m7, -⟩ := he.a
  obtain ⟨o0, o1, o2, o3, o4, o5, o6, o7, -⟩ := he.b
  clear he hs1 hs2
  go_light
  iterate 2 (apply Plan.seg_pick; rfl; intro K hK; go_wp)
  exact Plan.seg_nil
 refine Plan.plan_of_effect rfl (fun K hK => ?_)
 go_wp2_with fail
 refine (awake_any _).mono ?_
 rintro e w27 ⟨rfl, hb⟩
 replace HV := Lib.hid (HV.out.below hb)
 replace HU := Lib.hid (HU.out.below hb)
 replace HE := Lib.hid (HE.out.below hb)
 replace HT := Lib.hid (HT.out.below hb)
 replace HB := Lib.hid (HB.out.trans (hb.mono HB.out.size))
 replace HD3 := Lib.hid (HD3.out.below hb)
 replace HS3 := Lib.hid (HS3.out.below hb)
 replace HD4 := Lib.hid (HD4.out.below hb)
 replace HS4 := Lib.hid (HS4.out.below hb)
 clear hb
 go_wp2_with fail
 refine ⟨⟨HE.out, HS3.out, HS4.out⟩, ?_⟩
 refine' Plan.plan_seg _ [24, 25] [] (by kernel_rfl) (by kernel_rfl) rfl (by exact ⟨HE.out, HS3.out, HS4.out⟩) (fun wx hS => ?_) ?_
 rotate_left
 ·obtain ⟨he, hs1, hs2⟩ := hS
  have k0 := hs1.c0
  have k1 := hs1.c1
  have j0 := hs2.c0
  have j1 := hs2.c1
  obtain ⟨m0, m1, m2, m3, m4, m5, m6, m7, -⟩ := he.a
  obtain ⟨o0, o1, o2, o3, o4, o5, o6, o7, -⟩ := he.b
  clear he hs1 hs2
  go_light
  iterate 2 (apply Plan.seg_pick; rfl; intro K hK; go_wp)
  exact Plan.seg_nil
 refine Plan.plan_done ?_
 go_wp2_with fail
 go_ret
 exact ⟨rfl, HB.out⟩
end Go.Proofs.YtfoohocgdcgbcaaGreat
