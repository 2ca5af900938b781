/- Texts of this claim joined: XA ML MM MN MP NN NP NQ MQ. -/
import Derived.Handy
import Derived.OwnWalk
import Derived.Test.YtfoohocgdcgbcaaGreatBs17
set_option linter.unusedVariables false
set_option linter.unusedSimpArgs false
namespace Go.Trk
end Go.Trk
namespace Go.Proofs.YtfoohocgdcgbcaaGreat
open Go.RowKit
def ExRes (w : World) (u : List Trk.Clip) (e : Ending) (w' : World) : Prop :=
 ∃ vu x1 x2 x3 ra rl rc, e = .returned (.tuple #[vu, .agg (edC x1 x2 x3 0 0 0 0 (.slice ra rl rc)), .int .i64 0]) ∧ OT w' w.heap.size vu u ∧ Below w.heap.size w w'
theorem apply_f (v u : Value) (t : List Trk.Clip) (e : Trk.Ed) (w : World) (h : Tk w v t) (hu : Tk w u e.ins) (hV : VT 1000000 t) (hN : Trk.Norm t) (hE : ExV 1000000 e) (hl : t.length + 2 + e.put.length ≤ 63)
  (hee : (if e.k = 1 then max e.p (Trk.total t) else e.p) + e.T ≤ 2147483647) : Calls Tryz.prog 45 #[v, EdV e u] w (ExRes w (Trk.nf (e.exl t))) := by
 have hx := exch_of hV hE (by omega) hee
 have h1 := apply_x (L := 1000000) v u t e w h hu hV hE (by decide) (by rw [hN.nf]; omega) (by rw [hN.nf]; exact hee) (by rw [hN.nf]; have := hx.l; omega)
 rw [hN.nf] at h1
 refine h1.mono ?_
 rintro ev w' ⟨v', vr, rfl, hou, hor, hb⟩
 obtain ⟨ra, rc, rfl, -⟩ := hor.tk
 exact ⟨_, _, _, _, _, _, _, rfl, hou, hb⟩
def IvPost (w : World) (B p k : Nat) (a : Int) (e : Ending) (w' : World) : Prop :=
 (∃ E V en by_, e = .returned (.tuple #[EdV E V, .int .i64 en, .int .i64 by_]) ∧ Iv a E en by_ ∧ OT w' w.heap.size V E.ins) ∧ TQ w B p k 60 w'
theorem results_edc {fn : Func} {tmps : Array Value} {w : World} {s t r : Tmp} {b : Nat} {k p n c d sn sd : Int} {v x y : Value} (hr : fn.results = #[.cell t 40, .tmp s, .tmp r]) (hs : tmps.getD s undef = x) (ht : tmps.getD t undef = .pointer (some ⟨b, 0, none⟩)) (hy : tmps.getD r undef = y)
  (hc : ED w b k p n c d sn sd v) (hv : (∃ ao m cp, v = .slice ao m cp)) : (results fn tmps).run Tryz.prog w = .ok (.tuple #[edV k p n c d sn sd v, x, y]) w := by
 obtain ⟨ao, m, cp, rfl⟩ := hv
 have h := run_loadVar_mid (P := Tryz.prog) w b 0 40 (edC k p n c d sn sd (.slice ao m cp)).toList _ hc.range Tryz.underlying40 rfl (by kernel_rfl)
 obtain ⟨C, hC⟩ : ∃ C, C = (edC k p n c d sn sd (.slice ao m cp)).toList.toArray := ⟨_, rfl⟩
 rw [← hC] at h
 unfold results
 rw [hr]
 have ht2 : tmps[t]?.getD undef = .pointer (some ⟨b, 0, none⟩) := by rw [← Array.getD_eq_getD_getElem?]; exact ht
 have hs2 : tmps[s]?.getD undef = x := by rw [← Array.getD_eq_getD_getElem?]; exact hs
 have hy2 : tmps[r]?.getD undef = y := by rw [← Array.getD_eq_getD_getElem?]; exact hy
 simp [ht2, hs2, hy2, asAddr, h]
 rw [hC]
 rfl
theorem iv_put {cl : List Trk.Clip} (h : ClipsOK cl 3) (hz : ∀ c ∈ cl, c.a.name.size ≠ 1) (a k : Int) (hk : k = 1 ∨ k = 3) (a0 : 0 ≤ a) (a1 : a ≤ 1000) : Iv a ⟨k, a, 0, 0, 0, 0, 0, cl⟩ (if k = 1 then a else a + Trk.total cl) (if k = 1 then Trk.total cl else 0) := by
 obtain ⟨h1, h2, h3⟩ := insert_v h (by omega) k a hk a0 a1
 have t1 := h.t1
 have t2 := h.t2
 have hr : (⟨k, a, 0, 0, 0, 0, 0, cl⟩ : Trk.Ed).rem = if k = 1 then 0 else Trk.total cl := by unfold Trk.Ed.rem; rw [h2]
 refine ⟨rfl, h1, by rw [h3]; exact h.n, by rw [h3]; exact hz, by rw [h2]; exact t1, by rw [h2]; omega, ?_, ?_, ?_, ?_, by rw [h3]; omega, by rw [h3]; omega⟩
 ·rw [hr]; split <;> omega
 ·rw [hr, h3]; split <;> omega
 ·rw [hr]; split <;> omega
 ·rw [hr]; split <;> omega
theorem iv_cut (a m : Int) (a0 : 0 ≤ a) (a1 : a ≤ 1000) (m0 : 1 ≤ m) (m1 : m ≤ 9) : Iv a ⟨2, a, m, 0, 0, 0, 0, []⟩ (a + m) (-m) :=
 ⟨rfl, extract_v a m a0 a1 m0 (by omega), by simp [Trk.Ed.put], fun c hc => by simp [Trk.Ed.put] at hc, m0, show m ≤ 27 by omega, rfl, by show -m = (0 : Int) - m; omega, show 0 ≤ m by omega, show m ≤ 27 by omega, by show (0 : Int) ≤ 0; omega, by show (0 : Int) ≤ 27; omega⟩
theorem iv_lift (a m : Int) (a0 : 0 ≤ a) (a1 : a ≤ 1000) (m0 : 1 ≤ m) (m1 : m ≤ 9) : Iv a ⟨4, a, m, 0, 0, 0, 0, []⟩ (a + m) 0 := by
 have ht : Trk.total [Trk.gap m] = m := by show m + 0 = m; omega
 refine ⟨rfl, lift_v a m a0 a1 m0 (by omega), by simp [Trk.Ed.put], fun c hc => ?_, m0, show m ≤ 27 by omega, rfl, ?_, show 0 ≤ m by omega, show m ≤ 27 by omega, ?_, ?_⟩
 ·simp [Trk.Ed.put] at hc
  subst hc
  show (0 : Nat) ≠ 1; decide
 ·show (0 : Int) = Trk.total [Trk.gap m] - m; omega
 ·show (0 : Int) ≤ Trk.total [Trk.gap m]; omega
 ·show Trk.total [Trk.gap m] ≤ 27; omega
set_option maxRecDepth 100000 in
set_option maxHeartbeats 16000000 in
theorem interval_any (B p k : Nat) (a : Int) (w : World) (ht : TP w B p k) (hk : k < 400000) (a0 : 0 ≤ a) (a1 : a ≤ 1000) :
  Calls Tryz.prog 61 #[.pointer (some ⟨p, 0, none⟩), .int .i64 a] w (IvPost w B p k a) := by
 have hB := ht.1
 have hp := ht.2.1
 go_enter Tryz.func61, Tryz.ntmps61
 go_upto_region 1 with fail
 obtain ⟨w1, hw1⟩ : ∃ y, y = w.alloc (.cells #[.int .i64 0, .int .i64 0, .int .i64 0, .int .i64 0, .int .i64 0, .int .i64 0, .int .i64 0, .slice none 0 0] 40) := ⟨_, rfl⟩
 rw [← hw1]
 have HE := Lib.hid (show ED w1 w.heap.size 0 0 0 0 0 0 0 (.slice none 0 0) by rw [hw1]; exact ED.box w 0 0 0 0 0 0 0 (.slice none 0 0) rfl 40)
 have hb : Below w.heap.size w w1 := by rw [hw1]; exact below_box _ _
 have HU := Lib.hid (Turn.of (g := p) (Nat.le_of_lt hp) hb)
 have HT := Lib.hid (ht.low (n := w.heap.size) (Nat.le_of_lt (Nat.lt_of_le_of_lt hB hp)) hp hb)
 have HS := Lib.hid (show w1.heap.size = w.heap.size + 1 by rw [hw1]; simp [go_sem])
 obtain ⟨g, hg⟩ : ∃ y, y = w.heap.size := ⟨_, rfl⟩
 rw [← hg] at HE ⊢
 have HG := Lib.hid (show g = w.heap.size ∧ p < g by omega)
 clear hw1 hb hg ht
 go_wp2_with fail
 refine (next_any B p k 9 _ HT.out (by omega) (by omega) (by omega)).mono ?_
 rintro e w2 ⟨r, rfl, r0, r1, hT_, hg_⟩
 have hgr := Turn.grown hg_ HT.out.2.1
 replace HU := Lib.hid (HU.out.trans hgr)
 replace HE := Lib.hid (hgr.ed (by have := HG.out; omega) HE.out)
 have HS2 := Lib.hid (show w.heap.size + 1 ≤ w2.heap.size by have := HS.out; have := hgr.s; omega)
 replace HT := Lib.hid hT_
 obtain ⟨m, hm⟩ : ∃ m, m = 1 + r := ⟨_, rfl⟩
 have hm1 : 1 + r = m := hm.symm
 have m0 : 1 ≤ m := by omega
 have m1 : m ≤ 9 := by omega
 clear hT_ hg_ hgr hm HS
 go_wp2_with fail
 refine (track_any B p (k + 1) 1 w2 HT.out (by omega) (by omega)).mono ?_
 rintro e w3 ⟨⟨vt, l, rfl, ho, hs, hl⟩, ⟨k3, hk3, hT_⟩, ht⟩
 have HO := Lib.hid ho
 have HSL := Lib.hid hs
 replace HU := Lib.hid (HU.out.trans ht)
 replace HE := Lib.hid (ht.ed (by have := HG.out; omega) HE.out)
 replace HT := Lib.hid hT_
 have HS3 := Lib.hid (show w2.heap.size ≤ w3.heap.size from ht.s)
 clear ho hs hT_ ht hm1
 go_wp2_with fail
 refine (clip_any B p k3 w3 HT.out (by omega)).mono ?_
 rintro e w4 ⟨⟨z, rfl, hz⟩, ⟨k4, hk4, hT_⟩, ht⟩
 replace HO := Lib.hid (HO.out.turn ht (by have := HS2.out; have := HG.out; omega))
 replace HU := Lib.hid (HU.out.trans ht)
 replace HE := Lib.hid (ht.ed (by have := HG.out; omega) HE.out)
 replace HT := Lib.hid hT_
 have HZ := Lib.hid hz
 replace HS3 := Lib.hid (show w2.heap.size ≤ w4.heap.size from Nat.le_trans HS3.out ht.s)
 clear hT_ ht hz
 unfold clipV
 obtain ⟨C, hC⟩ : ∃ C, C = (clipC z).toArray := ⟨_, rfl⟩
 rw [← hC]
 have HCC := Lib.hid hC
 clear hC
 dsimp only
 iterate 1 go_step
 refine Great.wpList_buildSliceTo rfl 23 48 1 #[(0, .tmp 16)] rfl w4.heap.size rfl _ rfl Tryz.underlying23 C ?_ ?_
 ·simp only [List.map_toArray, List.map_cons, List.map_nil, List.toList_toArray]
  rw [HCC.out]
  exact built_clip z
 have hbx : CA (w4.alloc (.cells C 48)) w4.heap.size 0 z := by rw [HCC.out]; exact CA.box w4 z 48
 have hb : Below w4.heap.size w4 (w4.alloc (.cells C 48)) := below_box _ _
 have hsz : w2.heap.size ≤ (w4.alloc (.cells C 48)).heap.size := Nat.le_trans HS3.out hb.size
 replace HO := Lib.hid (HO.out.below hb)
 simp only [Act.put, List.setIfInBounds_toArray, List.set_cons_succ, List.set_cons_zero]
 refine wpList_appT 23 Tryz.underlying23 _ rfl (.tmp 14) (.tmp 17) rfl rfl w2.heap.size vt l rfl HO.out hsz w4.heap.size 1 z rfl hbx (by omega) ?_
 intro vn w5 q1 q2 q3 q4
 simp only [Act.put, List.setIfInBounds_toArray, List.set_cons_succ, List.set_cons_zero]
 have hbl : Below w2.heap.size w4 w5 := (hb.mono HS3.out).trans q2
 have HTK := Lib.hid q1
 replace HT := Lib.hid (HT.out.low (n := w2.heap.size) (by have := HG.out; have := HS2.out; omega) (by have := HG.out; have := HS2.out; omega) hbl)
 replace HU := Lib.hid (HU.out.low hp (hbl.mono (by have := HS2.out; omega)))
 replace HE := Lib.hid (HE.out.same (hbl.block g (by have := HG.out; have := HS2.out; omega)))
 have HCO := Lib.hid (clipsOK_snoc HSL.out (show l.length ≤ 2 by omega) HZ.out (by omega))
 have HNZ := Lib.hid (show ∀ c ∈ l ++ [z], c.a.name.size ≠ 1 from fun c hc => (HSL.out.snoc HZ.out.short c hc).2.2)
 have HS5 := Lib.hid (show w2.heap.size ≤ w5.heap.size from Nat.le_trans HS3.out (Nat.le_trans hb.size q4))
 clear q1 q2 q3 q4 hbl hbx hb hsz HO HSL HZ HCC hl HS3
 obtain ⟨cl, hcl⟩ : ∃ cl, cl = l ++ [z] := ⟨_, rfl⟩
 rw [← hcl] at HTK HCO HNZ
 clear hcl
 obtain ⟨va, vc, hvn, -⟩ := HTK.out.tk
 obtain ⟨nc, hnc⟩ : ∃ nc, nc = cl.length := ⟨_, rfl⟩
 rw [← hnc] at hvn
 subst hvn
 clear hnc
 have HLN := Lib.hid (fun w (h : Tk w (.slice va nc vc) cl) => length_any (L := 1000000) _ cl w h HCO.out.v (by decide))
 have T0 := HCO.out.t1
 have T1 := HCO.out.t2
 obtain ⟨T, hT⟩ : ∃ T, T = Trk.total cl := ⟨_, rfl⟩
 rw [← hT] at HLN T0 T1
 have HTT := Lib.hid hT
 clear hT
 go_wp2_with fail
 refine (HLN.out _ HTK.out.tk).mono ?_
 rintro e w6 ⟨rfl, hb⟩
 replace HTK := Lib.hid (HTK.out.below hb)
 replace HE := Lib.hid (HE.out.below hb)
 replace HU := Lib.hid (HU.out.low hp (hb.mono HU.out.s))
 replace HT := Lib.hid (HT.out.low (n := w5.heap.size) (by have := HT.out.1; have := HT.out.2.1; omega) HT.out.2.1 hb)
 replace HS5 := Lib.hid (Nat.le_trans HS5.out hb.size)
 clear hb HLN
 go_wp2_with fail
 refine (next_any B p k4 4 _ HT.out (by omega) (by omega) (by omega)).mono ?_
 rintro e w7 ⟨r2, rfl, r20, r21, hT_, hg_⟩
 have hgr := Turn.grown hg_ HT.out.2.1
 replace HU := Lib.hid (HU.out.trans hgr)
 replace HE := Lib.hid (hgr.ed (by have := HG.out; omega) HE.out)
 replace HTK := Lib.hid (HTK.out.turn hgr (by have := HG.out; have := HS2.out; omega))
 replace HT := Lib.hid hT_
 clear hT_ hg_ hgr
 have ha1 : -9223372036854775808 ≤ a + m ∧ a + m ≤ 9223372036854775807 := by omega
 have HFIN := Lib.hid (show ∀ (w8 : World) (kk pp mm : Int) (v : Value), ED w8 g kk pp mm 0 0 0 0 v → (∀ b2, b2 ≠ g → w8.heap[b2]? = w7.heap[b2]?) → w8.heap.size = w7.heap.size → (∀ n w0, n ≤ g → Below n w0 w7 → Below n w0 w8) → OT w8 w.heap.size (.slice va nc vc) cl ∧ TQ w B p k 60 w8 from
  fun w8 kk pp mm v h1 h2 h3 h4 => by
   have hg1 := HG.out.1
   have hg2 := HG.out.2
   refine ⟨(HTK.out.blocks fun x kk2 cp e => h2 x (fun hx => ?_)).lower (by have := HS2.out; omega), ?_⟩
   ·have := (HTK.out.blk e).1
    have := HS2.out
    omega
   ·refine TQ.of (k' := k4 + 1) (by omega) (HT.out.far hg2 h4) ?_
    exact HU.out.into (by omega) (by omega) ⟨Nat.le_of_eq h3.symm, fun b _ hn => h2 b hn, h4⟩)
 rcases (show r2 = 0 ∨ r2 = 1 ∨ r2 = 2 ∨ r2 = 3 by omega) with rfl | rfl | rfl | rfl
 ·go_upto_region 6 with fail
  apply wp_region_lit
  iterate 15 go_step
  refine wpl_storeE 1 a 0 0 0 0 0 va nc vc HE.out rfl rfl rfl rfl ?_
  intro w8 q1 q2 q3 q4 q5
  have HQ := Lib.hid q1
  obtain ⟨z1, z2⟩ := HFIN.out w8 _ _ _ _ q1 q2 q3 q4
  have HZ1 := Lib.hid z1
  have HZ2 := Lib.hid z2
  clear q1 q2 q3 q4 q5 z1 z2
  simp only [Act.put, List.setIfInBounds_toArray, List.set_cons_succ, List.set_cons_zero]
  iterate 7 go_step
  go_wp2_with fail
  exact bodyPost_ret (results_edc (x := .int .i64 (a)) (y := .int .i64 (T)) Tryz.results61 rfl rfl rfl HQ.out ⟨_, _, _, rfl⟩) rfl ⟨⟨⟨1, a, 0, 0, 0, 0, 0, cl⟩, _, _, _, rfl, by have h := iv_put HCO.out HNZ.out a 1 (.inl rfl) a0 a1; rw [if_pos rfl, if_pos rfl, ← HTT.out] at h; exact h, HZ1.out⟩, HZ2.out⟩
 ·go_upto_region 8 with fail
  apply wp_region_lit
  iterate 24 go_step
  refine wpl_storeE 2 a m 0 0 0 0 none 0 0 HE.out rfl rfl rfl rfl ?_
  intro w8 q1 q2 q3 q4 q5
  have HQ := Lib.hid q1
  obtain ⟨z1, z2⟩ := HFIN.out w8 _ _ _ _ q1 q2 q3 q4
  have HZ1 := Lib.hid z1
  have HZ2 := Lib.hid z2
  clear q1 q2 q3 q4 q5 z1 z2
  simp only [Act.put, List.setIfInBounds_toArray, List.set_cons_succ, List.set_cons_zero]
  iterate 7 go_step
  go_wp2_with fail
  exact bodyPost_ret (results_edc (x := .int .i64 (a + m)) (y := .int .i64 (-m)) Tryz.results61 rfl rfl rfl HQ.out ⟨_, _, _, rfl⟩) rfl ⟨⟨⟨2, a, m, 0, 0, 0, 0, []⟩, _, _, _, rfl, iv_cut a m a0 a1 m0 m1, OT.nil _ _⟩, HZ2.out⟩
 ·go_upto_region 10 with fail
  apply wp_region_lit
  iterate 18 go_step
  refine wpl_storeE 3 a 0 0 0 0 0 va nc vc HE.out rfl rfl rfl rfl ?_
  intro w8 q1 q2 q3 q4 q5
  have HQ := Lib.hid q1
  obtain ⟨z1, z2⟩ := HFIN.out w8 _ _ _ _ q1 q2 q3 q4
  have HZ1 := Lib.hid z1
  have HZ2 := Lib.hid z2
  clear q1 q2 q3 q4 q5 z1 z2
  simp only [Act.put, List.setIfInBounds_toArray, List.set_cons_succ, List.set_cons_zero]
  iterate 7 go_step
  go_wp2_with fail
  exact bodyPost_ret (results_edc (x := .int .i64 (a + T)) (y := .int .i64 (0)) Tryz.results61 rfl rfl rfl HQ.out ⟨_, _, _, rfl⟩) rfl ⟨⟨⟨3, a, 0, 0, 0, 0, 0, cl⟩, _, _, _, rfl, by have h := iv_put HCO.out HNZ.out a 3 (.inr rfl) a0 a1; rw [if_neg (by decide), if_neg (by decide), ← HTT.out] at h; exact h, HZ1.out⟩, HZ2.out⟩
 ·go_upto_region 11 with fail
  apply wp_region_lit
  iterate 18 go_step
  refine wpl_storeE 4 a m 0 0 0 0 none 0 0 HE.out rfl rfl rfl rfl ?_
  intro w8 q1 q2 q3 q4 q5
  have HQ := Lib.hid q1
  obtain ⟨z1, z2⟩ := HFIN.out w8 _ _ _ _ q1 q2 q3 q4
  have HZ1 := Lib.hid z1
  have HZ2 := Lib.hid z2
  clear q1 q2 q3 q4 q5 z1 z2
  simp only [Act.put, List.setIfInBounds_toArray, List.set_cons_succ, List.set_cons_zero]
  iterate 7 go_step
  go_wp2_with fail
  exact bodyPost_ret (results_edc (x := .int .i64 (a + m)) (y := .int .i64 (0)) Tryz.results61 rfl rfl rfl HQ.out ⟨_, _, _, rfl⟩) rfl ⟨⟨⟨4, a, m, 0, 0, 0, 0, []⟩, _, _, _, rfl, iv_lift a m a0 a1 m0 m1, OT.nil _ _⟩, HZ2.out⟩
def PairPost (w : World) (e : Ending) (w' : World) : Prop :=
 ∃ E V F U a1 a2 b1, e = .returned (.tuple #[EdV E V, EdV F U, EdV (edAt F (a2 + b1)) U]) ∧ Pr E F a1 a2 b1 ∧ OT w' w.heap.size V E.ins ∧ OT w' w.heap.size U F.ins ∧ Below w.heap.size w w'
theorem results_pair {fn : Func} {tmps : Array Value} {w : World} {s t r : Tmp} {g2 g3 g4 : Nat} {E F : Trk.Ed} {q : Int} {V U : Value} (hr : fn.results = #[.cell s 40, .cell t 40, .cell r 40]) (hs : tmps.getD s undef = .pointer (some ⟨g2, 0, none⟩)) (ht : tmps.getD t undef = .pointer (some ⟨g3, 0, none⟩)) (hy : tmps.getD r undef = .pointer (some ⟨g4, 0, none⟩))
  (hc : E3 w g2 g3 g4 E F q V U) (hv : ∃ ao m cp, V = .slice ao m cp) (hu : ∃ ao m cp, U = .slice ao m cp) : (results fn tmps).run Tryz.prog w = .ok (.tuple #[EdV E V, EdV F U, EdV (edAt F q) U]) w := by
 obtain ⟨ao, m, cp, rfl⟩ := hv
 obtain ⟨bo, n, dp, rfl⟩ := hu
 have h1 := run_loadVar_mid (P := Tryz.prog) w g2 0 40 (edC E.k E.p E.m E.c E.d E.sn E.sd (.slice ao m cp)).toList _ hc.a.range Tryz.underlying40 rfl (by kernel_rfl)
 have h2 := run_loadVar_mid (P := Tryz.prog) w g3 0 40 (edC F.k F.p F.m F.c F.d F.sn F.sd (.slice bo n dp)).toList _ hc.b.range Tryz.underlying40 rfl (by kernel_rfl)
 have h3 := run_loadVar_mid (P := Tryz.prog) w g4 0 40 (edC F.k q F.m F.c F.d F.sn F.sd (.slice bo n dp)).toList _ hc.c.range Tryz.underlying40 rfl (by kernel_rfl)
 obtain ⟨C1, hC1⟩ : ∃ C, C = (edC E.k E.p E.m E.c E.d E.sn E.sd (.slice ao m cp)).toList.toArray := ⟨_, rfl⟩
 obtain ⟨C2, hC2⟩ : ∃ C, C = (edC F.k F.p F.m F.c F.d F.sn F.sd (.slice bo n dp)).toList.toArray := ⟨_, rfl⟩
 obtain ⟨C3, hC3⟩ : ∃ C, C = (edC F.k q F.m F.c F.d F.sn F.sd (.slice bo n dp)).toList.toArray := ⟨_, rfl⟩
 rw [← hC1] at h1
 rw [← hC2] at h2
 rw [← hC3] at h3
 unfold results
 rw [hr]
 have ht2 : tmps[t]?.getD undef = .pointer (some ⟨g3, 0, none⟩) := by rw [← Array.getD_eq_getD_getElem?]; exact ht
 have hs2 : tmps[s]?.getD undef = .pointer (some ⟨g2, 0, none⟩) := by rw [← Array.getD_eq_getD_getElem?]; exact hs
 have hy2 : tmps[r]?.getD undef = .pointer (some ⟨g4, 0, none⟩) := by rw [← Array.getD_eq_getD_getElem?]; exact hy
 simp [ht2, hs2, hy2, asAddr, h1, h2, h3]
 rw [hC1, hC2, hC3]
 exact ⟨rfl, rfl, rfl⟩
set_option maxRecDepth 100000 in
set_option maxHeartbeats 16000000 in
theorem pair_any (v : Value) (w : World) (h : Ints w v) : Calls Tryz.prog 22 #[v] w (PairPost w) := by
 obtain ⟨ao, n, cp, rfl, hnc, hn, hI⟩ := h
 have HI := Lib.hid hI
 clear hI
 go_enter Tryz.func22, Tryz.ntmps22
 go_upto_region 2 with fail
 obtain ⟨w1, hw1⟩ : ∃ y, y = (((w.alloc (.cells #[.int .i64 0, .int .i64 0, .int .i64 0, .int .i64 0, .int .i64 0, .int .i64 0, .int .i64 0, .slice none 0 0] 40)).alloc (.cells #[.int .i64 0, .int .i64 0, .int .i64 0, .int .i64 0, .int .i64 0, .int .i64 0, .int .i64 0, .slice none 0 0] 40)).alloc (.cells #[.int .i64 0, .int .i64 0, .int .i64 0, .int .i64 0, .int .i64 0, .int .i64 0, .int .i64 0, .slice none 0 0] 40)).alloc (.cells #[.slice ao n cp, .int .i64 0] 52) := ⟨_, rfl⟩
 rw [← hw1]
 obtain ⟨g2, hg2⟩ : ∃ y, y = w.heap.size := ⟨_, rfl⟩
 obtain ⟨g3, hg3⟩ : ∃ y, y = w.heap.size + 1 := ⟨_, rfl⟩
 obtain ⟨g4, hg4⟩ : ∃ y, y = w.heap.size + 1 + 1 := ⟨_, rfl⟩
 obtain ⟨p, hp⟩ : ∃ y, y = w.heap.size + 1 + 1 + 1 := ⟨_, rfl⟩
 have HB := Lib.hid (show Below w.heap.size w w1 by rw [hw1]; go_grown)
 have H2 := Lib.hid (show ED w1 g2 0 0 0 0 0 0 0 (.slice none 0 0) by rw [hw1, hg2]; constructor <;> simp [go_sem])
 have H3 := Lib.hid (show ED w1 g3 0 0 0 0 0 0 0 (.slice none 0 0) by rw [hw1, hg3]; constructor <;> simp [go_sem])
 have H4 := Lib.hid (show ED w1 g4 0 0 0 0 0 0 0 (.slice none 0 0) by rw [hw1, hg4]; constructor <;> simp [go_sem])
 have HT := Lib.hid (show TP w1 w.heap.size p 0 by
  refine ⟨by omega, by rw [hw1, hp]; simp [go_sem], ao, n, cp, by rw [hw1, hp]; simp [go_sem], by rw [hw1, hp]; simp [go_sem], by rw [hw1, hp]; simp [go_sem], hnc, hn, fun i hi => ?_⟩
  obtain ⟨b, o, x, e, hc⟩ := HI.out i hi
  exact ⟨b, o, x, e, block_lt_of_cell hc, (HB.out.cell (block_lt_of_cell hc)).trans hc⟩)
 have HG := Lib.hid (show w.heap.size = g2 ∧ g3 = g2 + 1 ∧ g4 = g2 + 2 ∧ p = g2 + 3 by omega)
 have HS := Lib.hid (show p < w1.heap.size from HT.out.2.1)
 rw [← hp, ← hg4, ← hg3, ← hg2]
 clear hw1 hg2 hg3 hg4 hp HI
 go_wp2_with fail
 refine (next_any w.heap.size p 0 20 _ HT.out (by omega) (by omega) (by omega)).mono ?_
 rintro e w2 ⟨a1, rfl, a10, a11, hT_, hg_⟩
 have hgr := Turn.grown hg_ HT.out.2.1
 replace H2 := Lib.hid (hgr.ed (by have := HG.out; omega) H2.out)
 replace H3 := Lib.hid (hgr.ed (by have := HG.out; omega) H3.out)
 replace H4 := Lib.hid (hgr.ed (by have := HG.out; omega) H4.out)
 replace HB := Lib.hid (hgr.b _ _ (by have := HG.out; omega) HB.out)
 replace HS := Lib.hid (Nat.lt_of_lt_of_le HS.out hgr.s)
 clear hgr
 replace HT := Lib.hid hT_
 clear hT_ hg_
 go_wp2_with fail
 refine (interval_any w.heap.size p _ a1 _ HT.out (by omega) (by omega) (by omega)).mono ?_
 rintro e w3 ⟨⟨E, V, n1, b1, rfl, hiv, hov⟩, ⟨k3, hk3, hT_⟩, hgr⟩
 have HOV := Lib.hid (hov.lower (show p + 1 ≤ w2.heap.size by have := HS.out; omega))
 replace H2 := Lib.hid (hgr.ed (by have := HG.out; omega) H2.out)
 replace H3 := Lib.hid (hgr.ed (by have := HG.out; omega) H3.out)
 replace H4 := Lib.hid (hgr.ed (by have := HG.out; omega) H4.out)
 replace HB := Lib.hid (hgr.b _ _ (by have := HG.out; omega) HB.out)
 replace HS := Lib.hid (Nat.lt_of_lt_of_le HS.out hgr.s)
 clear hgr
 replace HT := Lib.hid hT_
 have HIV := Lib.hid hiv
 have e0 := hiv.e
 have r0 := hiv.r0
 have r1 := hiv.r1
 have u0 := hiv.u0
 have u1 := hiv.u1
 have e1 := hiv.b
 obtain ⟨va, vc, hV, -⟩ := hov.tk
 obtain ⟨vn, hvn⟩ : ∃ k, k = E.ins.length := ⟨_, rfl⟩
 rw [← hvn] at hV
 subst hV
 clear hT_ hiv hov hvn
 obtain ⟨rm, hrm⟩ : ∃ r, r = E.rem := ⟨_, rfl⟩
 obtain ⟨pu, hpu⟩ : ∃ r, r = Trk.total E.put := ⟨_, rfl⟩
 rw [← hrm] at e0 r0 r1 e1
 rw [← hpu] at u0 u1 e1
 have HRM := Lib.hid (And.intro hrm hpu)
 have n10 : 0 ≤ n1 := by omega
 have n11 : n1 ≤ 46 := by omega
 have b10 : -27 ≤ b1 := by omega
 have b11 : b1 ≤ 27 := by omega
 have HAB := Lib.hid (And.intro e0 e1)
 clear e0 e1 hrm hpu r0 r1 u0 u1
 unfold EdV edV
 dsimp only
 iterate 13 go_step
 refine wpl_storeE E.k E.p E.m E.c E.d E.sn E.sd va vn vc H2.out rfl rfl rfl rfl ?_
 intro w4 q1 q2 q3 q4 q5
 simp only [Act.put, List.setIfInBounds_toArray, List.set_cons_succ, List.set_cons_zero]
 replace H2 := Lib.hid q1
 replace H3 := Lib.hid (H3.out.same (q2 g3 (by have := HG.out; omega)))
 replace H4 := Lib.hid (H4.out.same (q2 g4 (by have := HG.out; omega)))
 replace HT := Lib.hid (HT.out.store (by have := HG.out; omega) (by have := HG.out; omega) q2 q3)
 replace HOV := Lib.hid (HOV.out.store (by have := HG.out; omega) q2)
 replace HB := Lib.hid (q4 _ _ (by have := HG.out; omega) HB.out)
 replace HS := Lib.hid (show p < w4.heap.size by rw [q3]; exact HS.out)
 clear q1 q2 q3 q4 q5
 go_wp2_with fail
 refine (next_any w.heap.size p k3 12 _ HT.out (by omega) (by omega) (by omega)).mono ?_
 rintro e w5 ⟨r, rfl, r0, r1, hT_, hg_⟩
 have hgr := Turn.grown hg_ HT.out.2.1
 replace H2 := Lib.hid (hgr.ed (by have := HG.out; omega) H2.out)
 replace H3 := Lib.hid (hgr.ed (by have := HG.out; omega) H3.out)
 replace H4 := Lib.hid (hgr.ed (by have := HG.out; omega) H4.out)
 replace HOV := Lib.hid (HOV.out.turn hgr (by omega))
 replace HB := Lib.hid (hgr.b _ _ (by have := HG.out; omega) HB.out)
 replace HS := Lib.hid (Nat.lt_of_lt_of_le HS.out hgr.s)
 clear hgr
 replace HT := Lib.hid hT_
 obtain ⟨a2, ha2⟩ : ∃ a, a = n1 + 1 + r := ⟨_, rfl⟩
 have e2 : n1 + 1 + r = a2 := ha2.symm
 have HA2 := Lib.hid ha2
 have a20 : 1 ≤ a2 := by omega
 have a21 : a2 ≤ 58 := by omega
 clear hT_ hg_ ha2
 go_wp2_with fail
 refine (interval_any w.heap.size p _ a2 _ HT.out (by omega) (by omega) (by omega)).mono ?_
 rintro e w6 ⟨⟨F, U, n2, b2, rfl, hiv, hov⟩, ⟨k6, hk6, hT_⟩, hgr⟩
 have HOU := Lib.hid (hov.lower (show p + 1 ≤ w5.heap.size by have := HS.out; omega))
 replace H2 := Lib.hid (hgr.ed (by have := HG.out; omega) H2.out)
 replace H3 := Lib.hid (hgr.ed (by have := HG.out; omega) H3.out)
 replace H4 := Lib.hid (hgr.ed (by have := HG.out; omega) H4.out)
 replace HOV := Lib.hid (HOV.out.turn hgr (by omega))
 replace HB := Lib.hid (hgr.b _ _ (by have := HG.out; omega) HB.out)
 replace HS := Lib.hid (Nat.lt_of_lt_of_le HS.out hgr.s)
 clear hgr
 replace HT := Lib.hid hT_
 have HIW := Lib.hid hiv
 obtain ⟨ua, uc, hU, -⟩ := hov.tk
 obtain ⟨un, hun⟩ : ∃ k, k = F.ins.length := ⟨_, rfl⟩
 rw [← hun] at hU
 subst hU
 have HFP := Lib.hid hiv.p
 clear hT_ hiv hov hun e2
 unfold EdV edV
 dsimp only
 iterate 13 go_step
 refine wpl_storeE F.k F.p F.m F.c F.d F.sn F.sd ua un uc H3.out rfl rfl rfl rfl ?_
 intro w7 q1 q2 q3 q4 q5
 simp only [Act.put, List.setIfInBounds_toArray, List.set_cons_succ, List.set_cons_zero]
 replace H3 := Lib.hid q1
 replace H2 := Lib.hid (H2.out.same (q2 g2 (by have := HG.out; omega)))
 replace H4 := Lib.hid (H4.out.same (q2 g4 (by have := HG.out; omega)))
 replace HOV := Lib.hid (HOV.out.store (by have := HG.out; omega) q2)
 replace HOU := Lib.hid (HOU.out.store (by have := HG.out; omega) q2)
 replace HB := Lib.hid (q4 _ _ (by have := HG.out; omega) HB.out)
 clear q1 q2 q3 q4 q5 HT HS
 go_upto_region 4 with fail
 apply wp_region_lit
 refine wpl_loadE H3.out rfl rfl rfl ?_
 refine wpl_storeE F.k F.p F.m F.c F.d F.sn F.sd ua un uc H4.out rfl rfl rfl rfl ?_
 intro w8 q1 q2 q3 q4 q5
 simp only [Act.put, List.setIfInBounds_toArray, List.set_cons_succ, List.set_cons_zero]
 replace H4 := Lib.hid q1
 replace H2 := Lib.hid (H2.out.same (q2 g2 (by have := HG.out; omega)))
 replace H3 := Lib.hid (H3.out.same (q2 g3 (by have := HG.out; omega)))
 replace HOV := Lib.hid (HOV.out.store (by have := HG.out; omega) q2)
 replace HOU := Lib.hid (HOU.out.store (by have := HG.out; omega) q2)
 replace HB := Lib.hid (q4 _ _ (by have := HG.out; omega) HB.out)
 clear q1 q2 q3 q4 q5
 have k1 := H4.out.k1
 have kf := H4.out.fz
 obtain ⟨q, hq⟩ : ∃ q, q = F.p + b1 := ⟨_, rfl⟩
 have e3 : F.p + b1 = q := hq.symm
 have HQ := Lib.hid hq
 have hq0 : -1000 ≤ q ∧ q ≤ 1000 := by have := HFP.out; omega
 clear hq
 go_upto_region 6 with fail
 obtain ⟨w9, hw9⟩ : ∃ z, z = w8.setCell ⟨g4, 1, none⟩ (.int .i64 q) := ⟨_, rfl⟩
 rw [← hw9]
 have h9 : ∀ b2, b2 ≠ g4 → w9.heap[b2]? = w8.heap[b2]? := fun b2 hn => by rw [hw9]; exact setCells_other g4 b2 hn [.int .i64 q] 1 w8
 replace H4 := Lib.hid (show ED w9 g4 F.k q F.m F.c F.d F.sn F.sd (.slice ua un uc) by rw [hw9]; exact H4.out.set1 q)
 replace H2 := Lib.hid (H2.out.same (h9 g2 (by have := HG.out; omega)))
 replace H3 := Lib.hid (H3.out.same (h9 g3 (by have := HG.out; omega)))
 replace HOV := Lib.hid (HOV.out.store (g := g4) (by have := HG.out; omega) h9)
 replace HOU := Lib.hid (HOU.out.store (g := g4) (by have := HG.out; omega) h9)
 replace HB := Lib.hid (show Below w.heap.size w w9 by rw [hw9]; exact HB.out.setCell (p := ⟨g4, 1, none⟩) (by have := HG.out; show _ ≤ g4; omega) _)
 clear h9 hw9 k1 kf e3
 have HE3 := Lib.hid (show E3 w9 g2 g3 g4 E F q (.slice va vn vc) (.slice ua un uc) from ⟨H2.out, H3.out, H4.out⟩)
 clear H2 H3 H4
 refine Plan.wp_region_plan (fun w' => E3 w' g2 g3 g4 E F q (.slice va vn vc) (.slice ua un uc)) (([0, 1, 2].map (·, true)) ++ ([3, 4, 5].map (·, false))) (by kernel_rfl) (by kernel_rfl) (by kernel_rfl) (HE3.out.below (Below.refl _ _).drew) ?_
 refine' Plan.plan_seg _ [0, 1, 2] ([3, 4, 5].map (·, false)) (by kernel_rfl) (by kernel_rfl) rfl (by exact HE3.out.below (Below.refl _ _).drew) (fun wx hS => ?_) ?_
 rotate_left
 ·have HS := Lib.hid hS
  clear hS
  go_light
  (apply Plan.seg_pick; rfl; intro K hK)
  refine wpl_loadE HS.out.a rfl rfl rfl ?_
  go_wp
  (apply Plan.seg_pick; rfl; intro K hK)
  refine wpl_loadE HS.out.b rfl rfl rfl ?_
  go_wp
  (apply Plan.seg_pick; rfl; intro K hK)
  refine wpl_loadE HS.out.c rfl rfl rfl ?_
  go_wp
  exact Plan.seg_nil
 obtain ⟨w10, hw10⟩ : ∃ x, x = w9.drew := ⟨_, rfl⟩
 rw [← hw10]
 have hb : Below w9.heap.size w9 w10 := by rw [hw10]; exact (Below.refl _ _).drew
 replace HE3 := Lib.hid (HE3.out.below hb)
 replace HOV := Lib.hid (HOV.out.below hb)
 replace HOU := Lib.hid (HOU.out.below hb)
 replace HB := Lib.hid (HB.out.trans (hb.mono HB.out.size))
 clear hb hw10
 simp only [Act.put, List.setIfInBounds_toArray, List.set_cons_succ, List.set_cons_zero]
 refine Plan.plan_of_effect rfl (fun K hK => ?_)
 refine wpl_storeE E.k E.p E.m E.c E.d E.sn E.sd va vn vc HE3.out.a rfl rfl rfl rfl ?_
 intro w11 q1 q2 q3 q4 q5
 have hn3 : E3 w11 g2 g3 g4 E F q (.slice va vn vc) (.slice ua un uc) := ⟨q1, HE3.out.b.same (q2 g3 (by have := HG.out; omega)), HE3.out.c.same (q2 g4 (by have := HG.out; omega))⟩
 replace HE3 := Lib.hid hn3
 replace HOV := Lib.hid (HOV.out.store (by have := HG.out; omega) q2)
 replace HOU := Lib.hid (HOU.out.store (by have := HG.out; omega) q2)
 replace HB := Lib.hid (q4 _ _ (by have := HG.out; omega) HB.out)
 clear hn3 q1 q2 q3 q4 q5
 go_wp2_with fail
 refine ⟨HE3.out, ?_⟩
 refine Plan.plan_of_effect rfl (fun K hK => ?_)
 refine wpl_storeE F.k F.p F.m F.c F.d F.sn F.sd ua un uc HE3.out.b rfl rfl rfl rfl ?_
 intro w12 q1 q2 q3 q4 q5
 have hn3 : E3 w12 g2 g3 g4 E F q (.slice va vn vc) (.slice ua un uc) := ⟨HE3.out.a.same (q2 g2 (by have := HG.out; omega)), q1, HE3.out.c.same (q2 g4 (by have := HG.out; omega))⟩
 replace HE3 := Lib.hid hn3
 replace HOV := Lib.hid (HOV.out.store (by have := HG.out; omega) q2)
 replace HOU := Lib.hid (HOU.out.store (by have := HG.out; omega) q2)
 replace HB := Lib.hid (q4 _ _ (by have := HG.out; omega) HB.out)
 clear hn3 q1 q2 q3 q4 q5
 go_wp2_with fail
 refine ⟨HE3.out, ?_⟩
 refine Plan.plan_of_effect rfl (fun K hK => ?_)
 refine wpl_storeE F.k q F.m F.c F.d F.sn F.sd ua un uc HE3.out.c rfl rfl rfl rfl ?_
 intro w13 q1 q2 q3 q4 q5
 have hn3 : E3 w13 g2 g3 g4 E F q (.slice va vn vc) (.slice ua un uc) := ⟨HE3.out.a.same (q2 g2 (by have := HG.out; omega)), HE3.out.b.same (q2 g3 (by have := HG.out; omega)), q1⟩
 replace HE3 := Lib.hid hn3
 replace HOV := Lib.hid (HOV.out.store (by have := HG.out; omega) q2)
 replace HOU := Lib.hid (HOU.out.store (by have := HG.out; omega) q2)
 replace HB := Lib.hid (q4 _ _ (by have := HG.out; omega) HB.out)
 clear hn3 q1 q2 q3 q4 q5
 go_wp2_with fail
 refine ⟨HE3.out, ?_⟩
 refine Plan.plan_done ?_
 go_wp2_with fail
 refine bodyPost_ret (results_pair Tryz.results22 rfl rfl rfl HE3.out ⟨_, _, _, rfl⟩ ⟨_, _, _, rfl⟩) rfl ?_
 refine ⟨E, _, F, _, a1, a2, b1, by rw [HQ.out, HFP.out], ⟨⟨n1, HIV.out⟩, ⟨n2, b2, HIW.out⟩, a10, by omega, ?_, ?_⟩, HOV.out.lower (by have := HG.out; omega), HOU.out.lower (by have := HG.out; omega), HB.out⟩
 ·have := HAB.out; have := HRM.out; have := HA2.out; omega
 ·have := HAB.out; have := HRM.out; have := HA2.out; omega
set_option maxRecDepth 100000 in
set_option maxHeartbeats 8000000 in
theorem applyx_any (v u : Value) (t : List Trk.Clip) (e : Trk.Ed) (w : World) (h : Tk w v t) (hu : Tk w u e.ins) (hV : VT 1000000 t) (hN : Trk.Norm t) (hE : ExV 1000000 e) (hl : t.length + 2 + e.put.length ≤ 63)
  (hee : (if e.k = 1 then max e.p (Trk.total t) else e.p) + e.T ≤ 2147483647) : Calls Tryz.prog 24 #[v, EdV e u] w (OTPost w (Trk.nf (e.exl t))) := by
 have HA := Lib.hid (fun (w : World) (h : Tk w v t) (hu : Tk w u e.ins) => apply_f v u t e w h hu hV hN hE hl hee)
 have HT := Lib.hid h
 have HU := Lib.hid hu
 obtain ⟨ao, cp, rfl, -⟩ := h
 obtain ⟨bo, dp, rfl, -⟩ := hu
 obtain ⟨n, hn⟩ : ∃ n, n = t.length := ⟨_, rfl⟩
 obtain ⟨m, hm⟩ : ∃ m, m = e.ins.length := ⟨_, rfl⟩
 rw [← hn] at HA HT ⊢
 rw [← hm] at HA HU ⊢
 clear hn hm hl hee hE hN hV
 obtain ⟨R, hR⟩ : ∃ R, R = Trk.nf (e.exl t) := ⟨_, rfl⟩
 rw [← hR] at HA ⊢
 clear hR
 unfold EdV edV at HA ⊢
 go_enter Tryz.func24, Tryz.ntmps24
 go_upto_region 1 with fail
 have HE := Lib.hid (ED.box w e.k e.p e.m e.c e.d e.sn e.sd (.slice bo m dp) rfl 40)
 have hb : Below w.heap.size w (w.alloc (.cells (edC e.k e.p e.m e.c e.d e.sn e.sd (.slice bo m dp)) 40)) := below_box _ _
 unfold edC at hb ⊢
 obtain ⟨w1, hw1⟩ : ∃ z, z = w.alloc (.cells #[.int .i64 e.k, .int .i64 e.p, .int .i64 e.m, .int .i64 e.c, .int .i64 e.d, .int .i64 e.sn, .int .i64 e.sd, .slice bo m dp] 40) := ⟨_, rfl⟩
 rw [← hw1] at HE hb ⊢
 obtain ⟨g, hg⟩ : ∃ g, g = w.heap.size := ⟨_, rfl⟩
 rw [← hg] at HE ⊢
 replace HT := Lib.hid (HT.out.below hb)
 replace HU := Lib.hid (HU.out.below hb)
 have HB := Lib.hid hb
 clear hw1 hg hb
 apply wp_region_lit
 iterate 3 go_step
 refine wpl_loadE HE.out rfl rfl rfl ?_
 simp only [Act.put, List.setIfInBounds_toArray, List.set_cons_succ, List.set_cons_zero]
 go_wp2_with fail
 refine (HA.out _ HT.out HU.out).mono ?_
 rintro ev w2 ⟨vu, x1, x2, x3, ra, rl, rc, rfl, ho, hb⟩
 have HO := Lib.hid (ho.lower HB.out.size)
 replace HB := Lib.hid (HB.out.trans (hb.mono HB.out.size))
 clear ho hb HE HT HU HA
 unfold edC
 go_wp2_with fail
 go_ret
 exact ⟨_, rfl, HO.out.below (below_box _ _), HB.out.trans ((below_box _ _).mono HB.out.size)⟩
theorem norm_long : Trk.Norm [longC] := by rw [← nf_long]; exact Trk.nf_norm long_good
def bobB : ByteArray := ⟨#[98, 111, 98]⟩
theorem bob_ok : okWord bobB := .inr ⟨98, 111, 98, rfl, ⟨by decide, by decide⟩, ⟨by decide, by decide⟩, by decide, by decide⟩
theorem sep_merge {n a b s t : List Trk.Clip} (Nn : Trk.Norm n) (Na : Trk.Norm a) (Nb : Trk.Norm b) (h1 : a ≠ n) (h2 : b ≠ n) (h3 : a ≠ b) (hsep : ∀ p q x p' q' x', Trk.Diff n a p q x → Trk.Diff n b p' q' x' → q < p')
  (hln : 3 * n.length + a.length + b.length ≤ 64) (tn : Trk.total n ≤ 100000) (ta : Trk.total a ≤ 100000) (tb : Trk.total b ≤ 100000) (hst : (s = a ∧ t = b) ∨ (s = b ∧ t = a)) {code : Int} {x : List Trk.Clip} (hm : MergeR n s t code x) :
  code = 0 ∧ Trk.Norm x ∧ ∃ p1 q1 x1 p2 q2 x2, Trk.Diff n a p1 q1 x1 ∧ Trk.Diff n b p2 q2 x2 ∧ ∀ i, 0 ≤ i → Trk.fr x i = if i < p2 + (Trk.total a - Trk.total n) then Trk.fr a i else Trk.fr b (i - (Trk.total a - Trk.total n)) := by
 have en := Nn.nf
 have ea := Na.nf
 have eb := Nb.nf
 have gn := Nn.g
 have ga := Na.g
 have gb := Nb.g
 have hns : ¬ shortC n s t := by
  unfold shortC
  rcases hst with ⟨rfl, rfl⟩ | ⟨rfl, rfl⟩
  ·rw [en, ea, eb]; rintro (h | h | h); exact h2 h; exact h3 h.symm; exact h1 h
  ·rw [en, ea, eb]; rintro (h | h | h); exact h1 h; exact h3 h; exact h2 h
 rcases hm with ⟨hc, -⟩ | ⟨-, p1, q1, x1, p2, q2, x2, ht, hr⟩
 ·exact absurd hc hns
 have ht' : Two n s t p1 q1 x1 p2 q2 x2 := by
  rcases hst with ⟨rfl, rfl⟩ | ⟨rfl, rfl⟩
  ·rw [en, ea, eb] at ht; exact ht
  ·rw [en, ea, eb] at ht; exact ht
 obtain ⟨d1, d2⟩ : Trk.Diff n a p1 q1 x1 ∧ Trk.Diff n b p2 q2 x2 := by
  rcases hst with ⟨rfl, rfl⟩ | ⟨rfl, rfl⟩ <;> rcases ht' with ⟨k1, k2, k3⟩ | ⟨k1, k2, k3⟩
  ·exact ⟨k1, k2⟩
  ·exfalso
   have := hsep _ _ _ _ _ _ k2 k1
   have := k1.le
   have := k2.le
   omega
  ·exfalso
   have := hsep _ _ _ _ _ _ k2 k1
   omega
  ·exact ⟨k1, k2⟩
 have hq := hsep _ _ _ _ _ _ d1 d2
 rcases hr with ⟨hcf, -⟩ | ⟨-, hr⟩
 ·omega
 rw [en] at hr
 obtain ⟨c0, c1, c2, c3, c4⟩ := d1.le
 obtain ⟨f0, f1, f2, f3, f4⟩ := d2.le
 have tx1 := d1.total ga
 have tx2 := d2.total gb
 have hlen : (pieces n p1 q1 x1 p2 q2 x2).flatten.length ≤ 64 := by
  have k1 := partL_len gn (Int.le_refl 0) c0 (by omega)
  have k2 := partL_len gn (show 0 ≤ q1 by omega) (show q1 ≤ p2 by omega) (by omega)
  have k3 := partL_len gn (show 0 ≤ q2 by omega) f2 (Int.le_refl _)
  have k4 := d1.len ga
  have k5 := d2.len gb
  simp only [pieces, List.flatten_cons, List.flatten_nil, List.append_nil, List.length_append]
  omega
 have htot : Trk.total (pieces n p1 q1 x1 p2 q2 x2).flatten ≤ 2147483647 := by
  have tA := partL_total gn (Int.le_refl 0) c0
  have tB := partL_total gn (show 0 ≤ q1 by omega) (show q1 ≤ p2 by omega)
  have tC := partL_total gn (show 0 ≤ q2 by omega) f2
  simp only [pieces, List.flatten_cons, List.flatten_nil, List.append_nil, Trk.total_append, tA, tB, tC]
  omega
 rcases hr with ⟨hlong, -⟩ | ⟨-, hg⟩
 ·omega
 have gp := (pieces_fr d1 d2 gn ga gb (by omega) (Int.le_refl 0)).1
 rcases hg with ⟨-, -, k, -, hk⟩ | ⟨rfl, rfl, -⟩
 ·exfalso
  have h5 : Trk.GoodL (flatK (pieces n p1 q1 x1 p2 q2 x2) k) := fun c hc => gp c (by
   obtain ⟨l, hl, hcl⟩ := List.mem_flatten.1 hc
   exact List.mem_flatten.2 ⟨l, List.mem_of_mem_take hl, hcl⟩)
  have h3 := (Trk.pk_of h5).n
  have h4 := flatK_len (pieces n p1 q1 x1 p2 q2 x2) k
  omega
 refine ⟨rfl, Trk.nf_norm gp, p1, q1, x1, p2, q2, x2, d1, d2, fun i i0 => ?_⟩
 rw [Trk.nf_fr gp i0, (pieces_fr d1 d2 gn ga gb (by omega) i0).2]
 have eD : p1 + Trk.total x1 - q1 = Trk.total a - Trk.total n := by omega
 rw [eD]
section
variable {u1 u2 v P1 P2 : List Trk.Clip} {a1 r1 a2 r2 : Int}
theorem Apart.vu2 (h : Apart u1 u2 v P1 P2 a1 r1 a2 r2) : v ≠ u2 := by
 have q0 := h.h1.p0
 have q1 := h.h1.r0
 have q4 := h.s
 intro e
 have h1 := h.at1
 rw [e, h.h2.f0 q0 (by omega)] at h1
 exact h.h1.ne h1.symm
theorem Apart.u1l (h : Apart u1 u2 v P1 P2 a1 r1 a2 r2) : u1 ≠ [longC] := fun e => h.ne0 (by rw [e])
theorem Apart.u2l (h : Apart u1 u2 v P1 P2 a1 r1 a2 r2) : u2 ≠ [longC] := h.h2.short (long_fr (by have := h.h2.e; have := h.h2.r0; omega))
theorem Apart.lens (h : Apart u1 u2 v P1 P2 a1 r1 a2 r2) : u1.length ≤ 6 ∧ v.length ≤ 11 := by
 have h1 := h.h1.x.l
 have h2 := h.v.l
 have := h.l1
 have := h.l2
 simp only [List.length_singleton] at h1
 omega
theorem Apart.vtot (h : Apart u1 u2 v P1 P2 a1 r1 a2 r2) : Trk.total v ≤ 5000 := by
 have h2 := h.v.tt
 have h3 := h.h1.total
 have q0 := h.h1.p0
 have q1 := h.h1.r0
 have q2 := h.h2.r0
 have q3 := h.h2.e
 have := h.z1
 have := h.z2
 omega
theorem Apart.diff2 (h : Apart u1 u2 v P1 P2 a1 r1 a2 r2) {p q : Int} {x : List Trk.Clip} (hd : Trk.Diff u1 v p q x) : p = a2 + (Trk.total P1 - r1) := by
 have q0 := h.h1.p0
 have q1 := h.h1.r0
 have q2 := h.h2.r0
 have q3 := h.h2.e
 have q4 := h.s
 have t1 := Trk.total_nonneg h.h1.g
 have hu := h.h1.total
 rcases Int.lt_trichotomy p (a2 + (Trk.total P1 - r1)) with k | k | k
 ·exfalso
  have hp0 := hd.pre.h0
  have hsame : Trk.fr v p = Trk.fr u1 p := by rw [h.v.f _ hp0, if_pos k]
  have hpv : p < Trk.total v := by
   rcases Int.lt_or_le p (Trk.total v) with k2 | k2
   ·exact k2
   ·exfalso
    have e1 : Trk.fr v (a2 + (Trk.total P1 - r1) - 1) = Trk.fr u1 (a2 + (Trk.total P1 - r1) - 1) := by rw [h.v.f _ (by omega), if_pos (by omega)]
    rw [Trk.fr_beyond h.v.n.g (by omega)] at e1
    by_cases k3 : a1 + Trk.total P1 ≤ a2 + (Trk.total P1 - r1) - 1
    ·rw [h.h1.f2 k3, long_fr (by omega)] at e1
     have e2 := congrArg (fun c => c.a.name.size) e1
     rw [long_name] at e2
     exact absurd e2 (by decide)
    ·omega
  exact hd.pre.x (by omega) hpv hsame.symm
 ·exact k
 ·exfalso
  exact h.ne1 (hd.pre.f _ (by omega) k).symm
theorem Apart.diff1 (h : Apart u1 u2 v P1 P2 a1 r1 a2 r2) {p q : Int} {x : List Trk.Clip} (hd : Trk.Diff u1 [longC] p q x) : q ≤ a1 + Trk.total P1 := by
 have q0 := h.h1.p0
 have q1 := h.h1.r0
 have q3 := h.h1.e
 have t1 := Trk.total_nonneg h.h1.g
 have hu := h.h1.total
 have hp : p = a1 := by
  rcases Int.lt_trichotomy p a1 with k | k | k
  ·exfalso
   have hp0 := hd.pre.h0
   refine hd.pre.x (by omega) (by rw [long_total]; omega) ?_
   rw [h.h1.f0 hp0 k, long_fr (by omega)]
  ·exact k
  ·exfalso
   exact h.ne0 (hd.pre.f _ q0 k)
 subst hp
 have hs := hd.suf
 rw [hu, long_total] at hs
 rcases Int.lt_or_le (p + Trk.total P1) q with k | k
 ·exfalso
  have h3 := hs.x (by omega)
  rw [hu, long_total, h.h1.f2 (by omega)] at h3
  exact h3 (by congr 1; omega)
 ·exact k
theorem Apart.undo1 (h : Apart u1 u2 v P1 P2 a1 r1 a2 r2) {c : Int} {x : List Trk.Clip} (hm : MergeR u1 v [longC] c x) : c = 0 ∧ x = u2 := by
 have q0 := h.h1.p0
 have q1 := h.h1.r0
 have q2 := h.h2.r0
 have q3 := h.h2.e
 have q4 := h.s
 have t1 := Trk.total_nonneg h.h1.g
 have t2 := Trk.total_nonneg h.h2.g
 have hu := h.h1.total
 have hl := h.lens
 obtain ⟨rfl, hx, p1, q1', x1, p2, q2', x2, d1, d2, hf⟩ := sep_merge (n := u1) (a := [longC]) (b := v) h.h1.x.n norm_long h.v.n (Ne.symm h.u1l) h.vu (Ne.symm h.vl)
  (fun p q x p' q' x' k1 k2 => by have := h.diff1 k1; have := h.diff2 k2; omega) (by simp only [List.length_singleton]; omega) (by have := h.z1; omega) (by rw [long_total]; omega) (by have := h.vtot; omega) (.inr ⟨rfl, rfl⟩) hm
 refine ⟨rfl, hx.eq h.h2.x.n fun i i0 => ?_⟩
 rw [hf i i0, h.diff2 d2, hu, long_total]
 by_cases k1 : i < a2
 ·rw [if_pos (by omega), h.h2.f0 i0 k1, long_fr (by omega)]
 rw [if_neg (by omega), h.v.f _ (by omega), if_neg (by omega)]
 by_cases k2 : i < a2 + Trk.total P2
 ·rw [if_pos (by omega), h.h2.f1 (by omega) k2]
  congr 1; omega
 ·rw [if_neg (by omega), h.h1.f2 (by omega), h.h2.f2 (by omega)]
  congr 1; omega
end
theorem both_run {t a b v : List Trk.Clip} {U W : ByteArray} (ht : Trk.Norm t) (ha : Trk.Norm a) (hat : a ≠ t) (hva : v ≠ a) (hv : Trk.Norm v) (hm : ∀ c x, MergeR t a b c x → c = 0 ∧ x = v) {now : Int} {ds : List Dc} {cs : List Int}
  (h : RunR StpS [⟨1, annB, docB, 0, 0, t⟩, ⟨4, U, docB, 0, 0, a⟩, ⟨4, W, docB, 0, 0, b⟩] now ds cs) : now = 0 ∧ cs = [0, 0, 0] ∧ ∃ d, ds = [d] ∧ Both2 t a v U W d := by
 have hmid : ∀ now ds cs, RunR StpS [⟨1, annB, docB, 0, 0, t⟩, ⟨4, U, docB, 0, 0, a⟩] now ds cs → now = 0 ∧ cs = [0, 0] ∧ ds = [⟨docB, ⟨#[]⟩, 0, [⟨1, annB, 0, false, t⟩, ⟨2, U, 0, false, a⟩]⟩] := by
  intro now ds cs h
  obtain ⟨cs0, c, d', hr, rfl, rfl, rfl, hc⟩ := next_run (es := [⟨1, annB, docB, 0, 0, t⟩]) (show (4 : Int) ≠ 1 by decide) (d := madeD annB docB t) (fun now ds cs hr => ⟨(first_run (L := 0) rfl hr).1, (first_run (L := 0) rfl hr).2.2⟩) rfl h
  obtain ⟨-, rfl, -⟩ := first_run (L := 0) rfl hr
  unfold ChR at hc
  simp only [show (4 : Int) ≠ 2 by decide, show (4 : Int) ≠ 3 by decide, if_false, if_true] at hc
  cases hc with
  | locked hh => exact absurd rfl hh.1
  | range _ h2 => simp [madeD] at h2
  | full _ _ h3 => simp [madeD] at h3
  | last _ h2 h3 cur hcr =>
   obtain rfl : cur = ⟨1, annB, 0, false, Trk.nf t⟩ := (Option.some.inj hcr).symm
   refine ⟨rfl, rfl, ?_⟩
   rw [if_pos rfl, ht.nf, ha.nf]
   unfold addR
   rw [if_neg (by dsimp only; rw [ha.nf, ht.nf]; exact hat)]
   unfold madeD
   rw [ht.nf]
   rfl
  | merge _ k h2 h2' h3 cur b hcr hb x hm => simp [madeD] at h2'
  | fails _ k h2 h2' h3 cur b hcr hb _ x hm hz => simp [madeD] at h2'
 obtain ⟨cs0, c, d', hr, rfl, rfl, rfl, hc⟩ := next_run (es := [⟨1, annB, docB, 0, 0, t⟩, ⟨4, U, docB, 0, 0, a⟩]) (show (4 : Int) ≠ 1 by decide) (fun now ds cs hr => ⟨(hmid _ _ _ hr).1, (hmid _ _ _ hr).2.2⟩) rfl h
 obtain ⟨-, rfl, -⟩ := hmid _ _ _ hr
 unfold ChR at hc
 simp only [show (4 : Int) ≠ 2 by decide, show (4 : Int) ≠ 3 by decide, if_false, if_true] at hc
 cases hc with
 | locked hh => exact absurd rfl hh.1
 | range _ h2 => simp at h2
 | full _ _ h3 => simp at h3
 | last _ h2 h3 cur hcr => simp at h2
 | merge _ k h2 h2' h3 cur b hcr hb x hmm =>
  obtain rfl : k = 0 := by omega
  cases hcr
  cases hb
  obtain ⟨-, rfl⟩ := hm _ _ hmm
  refine ⟨rfl, rfl, _, rfl, ?_⟩
  rw [if_pos rfl]
  unfold addR
  rw [if_neg (by dsimp only; rw [ha.nf, hv.nf]; exact hva)]
  exact ⟨rfl, rfl, rfl⟩
 | fails _ k h2 h2' h3 cur b hcr hb _ x hmm hz =>
  obtain rfl : k = 0 := by omega
  cases hcr
  cases hb
  exact absurd (hm _ _ hmm).1 hz
theorem evs_three (w : World) (e1 e2 e3 : Ev) (t1 t2 t3 : Value) (k1 : Tk w t1 e1.t) (k2 : Tk w t2 e2.t) (k3 : Tk w t3 e3.t) (n1 : e1.kind = 1 ∨ e1.kind = 4 ∨ t1 = .slice none 0 0) (n2 : e2.kind = 1 ∨ e2.kind = 4 ∨ t2 = .slice none 0 0) (n3 : e3.kind = 1 ∨ e3.kind = 4 ∨ t3 = .slice none 0 0) :
  Evs (w.alloc (.cells (evtL e1 t1 ++ (evtL e2 t2 ++ evtL e3 t3)).toArray 59)) (.slice (some ⟨w.heap.size, 0, none⟩) 3 3) [e1, e2, e3] := by
 have hb : Below w.heap.size w (w.alloc (.cells (evtL e1 t1 ++ (evtL e2 t2 ++ evtL e3 t3)).toArray 59)) := below_box _ _
 refine ⟨_, _, rfl, Nat.le_refl _, by unfold maxLen; omega, fun i e hi => ?_⟩
 match i, hi with
 | 0, hi =>
  obtain rfl := Option.some.inj hi
  exact ⟨_, 0, t1, rfl, range_box w _ 59 _ _ (fun j u hj => by
   have hlt := (List.getElem?_eq_some_iff.1 hj).1
   rw [show 0 + 0 * 6 + j = j by omega, List.getElem?_append_left hlt]
   exact hj), k1.below hb, fun h1 h4 => by rcases n1 with h | h | h <;> first | exact absurd h h1 | exact absurd h h4 | exact h⟩
 | 1, hi =>
  obtain rfl := Option.some.inj hi
  exact ⟨_, 0, t2, rfl, range_box w _ 59 _ _ (fun j u hj => by
   have hlt := (List.getElem?_eq_some_iff.1 hj).1
   rw [show 0 + 1 * 6 + j = 6 + j by omega, List.getElem?_append_right (by simp [evtL])]
   rw [show 6 + j - (evtL e1 t1).length = j by simp [evtL], List.getElem?_append_left hlt]
   exact hj), k2.below hb, fun h1 h4 => by rcases n2 with h | h | h <;> first | exact absurd h h1 | exact absurd h h4 | exact h⟩
 | 2, hi =>
  obtain rfl := Option.some.inj hi
  exact ⟨_, 0, t3, rfl, range_box w _ 59 _ _ (fun j u hj => by
   rw [show 0 + 2 * 6 + j = 12 + j by omega, List.getElem?_append_right (by simp [evtL]; omega)]
   rw [show 12 + j - (evtL e1 t1).length = 6 + j by simp [evtL]; omega, List.getElem?_append_right (by simp [evtL])]
   rw [show 6 + j - (evtL e2 t2).length = j by simp [evtL]]
   exact hj), k3.below hb, fun h1 h4 => by rcases n3 with h | h | h <;> first | exact absurd h h1 | exact absurd h h4 | exact h⟩
theorem built_ev3 (e1 e2 e3 : Ev) (t1 t2 t3 : Value) : Tryz.prog.builtSlice 59 3 [(0, .agg (evtL e1 t1).toArray), (1, .agg (evtL e2 t2).toArray), (2, .agg (evtL e3 t3).toArray)] = some (evtL e1 t1 ++ (evtL e2 t2 ++ evtL e3 t3)).toArray := by kernel_rfl
theorem Pr.inl {E F : Trk.Ed} {a1 a2 b1 : Int} (h : Pr E F a1 a2 b1) : InL (Trk.nf (E.exl [longC])) E.put a1 E.rem ∧ InL (Trk.nf (F.exl [longC])) F.put a2 F.rem ∧ a1 + E.rem < a2 ∧ E.put.length ≤ 3 ∧ F.put.length ≤ 3 ∧ Trk.total E.put ≤ 27 ∧ Trk.total F.put ≤ 27 ∧ b1 = Trk.total E.put - E.rem ∧ 1 ≤ a2 + b1 ∧ a2 + b1 ≤ 100 := by
 obtain ⟨n1, he⟩ := h.e
 obtain ⟨n2, b2, hf⟩ := h.f
 have c0 := h.c0
 have c1 := h.c1
 have s0 := h.s0
 have s1 := h.s1
 have r1 := he.r1
 have r0 := he.r0
 have u0 := he.u0
 have u1 := he.u1
 have hb := he.b
 have r2 := hf.r1
 exact ⟨InL.of he c0 (by omega), InL.of hf (by omega) (by omega), by omega, he.l, hf.l, u1, hf.u1, hb, by omega, by omega⟩
theorem long_apply {E : Trk.Ed} {a en by_ : Int} (h : Iv a E en by_) (a1 : a ≤ 1000) (v u : Value) (w : World) (ht : Tk w v [longC]) (hu : Tk w u E.ins) : Calls Tryz.prog 24 #[v, EdV E u] w (OTPost w (Trk.nf (E.exl [longC]))) :=
 applyx_any v u [longC] E w ht hu long_vt norm_long h.v (by have := h.l; show 1 + 2 + _ ≤ 63; omega) (by
  have := h.t1; have := h.p
  rw [long_total]
  split <;> omega)
theorem then_apply {u : List Trk.Clip} {put : List Trk.Clip} {p rem : Int} (hi : InL u put p rem) (hl : put.length ≤ 5) (hz : Trk.total put ≤ 1000) {F : Trk.Ed} {a en by_ : Int} (h : Iv a F en by_) (a1 : a ≤ 1000) :
  ExF u (Trk.nf (F.exl u)) F.put a F.rem ∧ ∀ (v y : Value) (w : World), Tk w v u → Tk w y F.ins → Calls Tryz.prog 24 #[v, EdV F y] w (OTPost w (Trk.nf (F.exl u))) := by
 have k1 := hi.len hl
 have k2 := hi.total
 have k3 := hi.r0
 have k4 := h.l
 have k5 := h.t1
 have k6 := h.p
 have hee : (if F.k = 1 then max F.p (Trk.total u) else F.p) + F.T ≤ 2147483647 := by split <;> omega
 refine ⟨?_, fun v y w ht hu => applyx_any v y u F w ht hu hi.x.v hi.x.n h.v (by omega) hee⟩
 have hx := exch_of hi.x.v h.v (by omega) hee
 rw [k6] at hx
 exact hx
end Go.Proofs.YtfoohocgdcgbcaaGreat
