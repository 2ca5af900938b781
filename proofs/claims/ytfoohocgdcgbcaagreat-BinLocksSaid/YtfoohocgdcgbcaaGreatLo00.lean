/- Texts of this claim joined: SJ XA ML MM MN MP NI NN NQ MQ NT NU NV. -/
import Derived.Stop.Asserts
import Derived.Handy
import Derived.OwnWalk
import Derived.Test.YtfoohocgdcgbcaaGreatBs17
set_option linter.unusedVariables false
set_option linter.unusedSimpArgs false
namespace Go.Proofs.YtfoohocgdcgbcaaGreat
open Go.RowKit
theorem ta_hit154 (x : Value) (w : World) : (Instr.typeAssert (.iface 154 x) 20 154 true).run Tryz.prog w = .ok (.tuple #[x, .bool true]) w := by
 simp [Instr.typeAssert, run_underlying Tryz.underlying154]
end Go.Proofs.YtfoohocgdcgbcaaGreat
namespace Go.Trk
end Go.Trk
namespace Go.Proofs.YtfoohocgdcgbcaaGreat
open Go.RowKit
def ExRes (w : World) (u : List Trk.Clip) (e : Ending) (w' : World) : Prop :=
 ∃ vu x1 x2 x3 ra rl rc, e = .returned (.tuple #[vu, .agg (edC x1 x2 x3 0 0 0 0 (.slice ra rl rc)), .int .i64 0]) ∧ OT w' w.heap.size vu u ∧ Below w.heap.size w w'
theorem apply_f (v u : Value) (t : List Trk.Clip) (e : Trk.Ed) (w : World) (h : Tk w v t) (hu : Tk w u e.ins) (hV : VT 1000000 t) (hN : Trk.Norm t) (hE : ExV 1000000 e) (hl : t.length + 2 + e.put.length ≤ 63)
  (hee : (if e.k = 1 then max e.p (Trk.total t) else e.p) + e.T ≤ 2147483647) : Calls Tryz.prog 45 #[v, EdV e u] w (ExRes w (Trk.nf (e.exl t))) := by
 have hx := exch_of hV hE (by omega) hee
 have h1 := apply_x (L := 1000000) v u t e w h hu hV hE (by decide) (by rw [hN.nf]; omega) (by rw [hN.nf]; exact hee) (by rw [hN.nf]; have := hx.l; omega)
 rw [hN.nf] at h1
 refine h1.mono ?_
 rintro ev w' ⟨v', vr, rfl, hou, hor, hb⟩
 obtain ⟨ra, rc, rfl, -⟩ := hor.tk
 exact ⟨_, _, _, _, _, _, _, rfl, hou, hb⟩
def IvPost (w : World) (B p k : Nat) (a : Int) (e : Ending) (w' : World) : Prop :=
 (∃ E V en by_, e = .returned (.tuple #[EdV E V, .int .i64 en, .int .i64 by_]) ∧ Iv a E en by_ ∧ OT w' w.heap.size V E.ins) ∧ TQ w B p k 60 w'
theorem results_edc {fn : Func} {tmps : Array Value} {w : World} {s t r : Tmp} {b : Nat} {k p n c d sn sd : Int} {v x y : Value} (hr : fn.results = #[.cell t 40, .tmp s, .tmp r]) (hs : tmps.getD s undef = x) (ht : tmps.getD t undef = .pointer (some ⟨b, 0, none⟩)) (hy : tmps.getD r undef = y)
  (hc : ED w b k p n c d sn sd v) (hv : (∃ ao m cp, v = .slice ao m cp)) : (results fn tmps).run Tryz.prog w = .ok (.tuple #[edV k p n c d sn sd v, x, y]) w := by
 obtain ⟨ao, m, cp, rfl⟩ := hv
 have h := run_loadVar_mid (P := Tryz.prog) w b 0 40 (edC k p n c d sn sd (.slice ao m cp)).toList _ hc.range Tryz.underlying40 rfl (by kernel_rfl)
 obtain ⟨C, hC⟩ : ∃ C, C = (edC k p n c d sn sd (.slice ao m cp)).toList.toArray := ⟨_, rfl⟩
 rw [← hC] at h
 unfold results
 rw [hr]
 have ht2 : tmps[t]?.getD undef = .pointer (some ⟨b, 0, none⟩) := by rw [← Array.getD_eq_getD_getElem?]; exact ht
 have hs2 : tmps[s]?.getD undef = x := by rw [← Array.getD_eq_getD_getElem?]; exact hs
 have hy2 : tmps[r]?.getD undef = y := by rw [← Array.getD_eq_getD_getElem?]; exact hy
 simp [ht2, hs2, hy2, asAddr, h]
 rw [hC]
 rfl
theorem iv_put {cl : List Trk.Clip} (h : ClipsOK cl 3) (hz : ∀ c ∈ cl, c.a.name.size ≠ 1) (a k : Int) (hk : k = 1 ∨ k = 3) (a0 : 0 ≤ a) (a1 : a ≤ 1000) : Iv a ⟨k, a, 0, 0, 0, 0, 0, cl⟩ (if k = 1 then a else a + Trk.total cl) (if k = 1 then Trk.total cl else 0) := by
 obtain ⟨h1, h2, h3⟩ := insert_v h (by omega) k a hk a0 a1
 have t1 := h.t1
 have t2 := h.t2
 have hr : (⟨k, a, 0, 0, 0, 0, 0, cl⟩ : Trk.Ed).rem = if k = 1 then 0 else Trk.total cl := by unfold Trk.Ed.rem; rw [h2]
 refine ⟨rfl, h1, by rw [h3]; exact h.n, by rw [h3]; exact hz, by rw [h2]; exact t1, by rw [h2]; omega, ?_, ?_, ?_, ?_, by rw [h3]; omega, by rw [h3]; omega⟩
 ·rw [hr]; split <;> omega
 ·rw [hr, h3]; split <;> omega
 ·rw [hr]; split <;> omega
 ·rw [hr]; split <;> omega
theorem iv_cut (a m : Int) (a0 : 0 ≤ a) (a1 : a ≤ 1000) (m0 : 1 ≤ m) (m1 : m ≤ 9) : Iv a ⟨2, a, m, 0, 0, 0, 0, []⟩ (a + m) (-m) :=
 ⟨rfl, extract_v a m a0 a1 m0 (by omega), by simp [Trk.Ed.put], fun c hc => by simp [Trk.Ed.put] at hc, m0, show m ≤ 27 by omega, rfl, by show -m = (0 : Int) - m; omega, show 0 ≤ m by omega, show m ≤ 27 by omega, by show (0 : Int) ≤ 0; omega, by show (0 : Int) ≤ 27; omega⟩
theorem iv_lift (a m : Int) (a0 : 0 ≤ a) (a1 : a ≤ 1000) (m0 : 1 ≤ m) (m1 : m ≤ 9) : Iv a ⟨4, a, m, 0, 0, 0, 0, []⟩ (a + m) 0 := by
 have ht : Trk.total [Trk.gap m] = m := by show m + 0 = m; omega
 refine ⟨rfl, lift_v a m a0 a1 m0 (by omega), by simp [Trk.Ed.put], fun c hc => ?_, m0, show m ≤ 27 by omega, rfl, ?_, show 0 ≤ m by omega, show m ≤ 27 by omega, ?_, ?_⟩
 ·simp [Trk.Ed.put] at hc
  subst hc
  show (0 : Nat) ≠ 1; decide
 ·show (0 : Int) = Trk.total [Trk.gap m] - m; omega
 ·show (0 : Int) ≤ Trk.total [Trk.gap m]; omega
 ·show Trk.total [Trk.gap m] ≤ 27; omega
set_option maxRecDepth 100000 in
set_option maxHeartbeats 16000000 in
theorem interval_any (B p k : Nat) (a : Int) (w : World) (ht : TP w B p k) (hk : k < 400000) (a0 : 0 ≤ a) (a1 : a ≤ 1000) :
  Calls Tryz.prog 61 #[.pointer (some ⟨p, 0, none⟩), .int .i64 a] w (IvPost w B p k a) := by
 have hB := ht.1
 have hp := ht.2.1
 go_enter Tryz.func61, Tryz.ntmps61
 go_upto_region 1 with fail
 obtain ⟨w1, hw1⟩ : ∃ y, y = w.alloc (.cells #[.int .i64 0, .int .i64 0, .int .i64 0, .int .i64 0, .int .i64 0, .int .i64 0, .int .i64 0, .slice none 0 0] 40) := ⟨_, rfl⟩
 rw [← hw1]
 have HE := Lib.hid (show ED w1 w.heap.size 0 0 0 0 0 0 0 (.slice none 0 0) by rw [hw1]; exact ED.box w 0 0 0 0 0 0 0 (.slice none 0 0) rfl 40)
 have hb : Below w.heap.size w w1 := by rw [hw1]; exact below_box _ _
 have HU := Lib.hid (Turn.of (g := p) (Nat.le_of_lt hp) hb)
 have HT := Lib.hid (ht.low (n := w.heap.size) (Nat.le_of_lt (Nat.lt_of_le_of_lt hB hp)) hp hb)
 have HS := Lib.hid (show w1.heap.size = w.heap.size + 1 by rw [hw1]; simp [go_sem])
 obtain ⟨g, hg⟩ : ∃ y, y = w.heap.size := ⟨_, rfl⟩
 rw [← hg] at HE ⊢
 have HG := Lib.hid (show g = w.heap.size ∧ p < g by omega)
 clear hw1 hb hg ht
 go_wp2_with fail
 refine (next_any B p k 9 _ HT.out (by omega) (by omega) (by omega)).mono ?_
 rintro e w2 ⟨r, rfl, r0, r1, hT_, hg_⟩
 have hgr := Turn.grown hg_ HT.out.2.1
 replace HU := Lib.hid (HU.out.trans hgr)
 replace HE := Lib.hid (hgr.ed (by have := HG.out; omega) HE.out)
 have HS2 := Lib.hid (show w.heap.size + 1 ≤ w2.heap.size by have := HS.out; have := hgr.s; omega)
 replace HT := Lib.hid hT_
 obtain ⟨m, hm⟩ : ∃ m, m = 1 + r := ⟨_, rfl⟩
 have hm1 : 1 + r = m := hm.symm
 have m0 : 1 ≤ m := by omega
 have m1 : m ≤ 9 := by omega
 clear hT_ hg_ hgr hm HS
 go_wp2_with fail
 refine (track_any B p (k + 1) 1 w2 HT.out (by omega) (by omega)).mono ?_
 rintro e w3 ⟨⟨vt, l, rfl, ho, hs, hl⟩, ⟨k3, hk3, hT_⟩, ht⟩
 have HO := Lib.hid ho
 have HSL := Lib.hid hs
 replace HU := Lib.hid (HU.out.trans ht)
 replace HE := Lib.hid (ht.ed (by have := HG.out; omega) HE.out)
 replace HT := Lib.hid hT_
 have HS3 := Lib.hid (show w2.heap.size ≤ w3.heap.size from ht.s)
 clear ho hs hT_ ht hm1
 go_wp2_with fail
 refine (clip_any B p k3 w3 HT.out (by omega)).mono ?_
 rintro e w4 ⟨⟨z, rfl, hz⟩, ⟨k4, hk4, hT_⟩, ht⟩
 replace HO := Lib.hid (HO.out.turn ht (by have := HS2.out; have := HG.out; omega))
 replace HU := Lib.hid (HU.out.trans ht)
 replace HE := Lib.hid (ht.ed (by have := HG.out; omega) HE.out)
 replace HT := Lib.hid hT_
 have HZ := Lib.hid hz
 replace HS3 := Lib.hid (show w2.heap.size ≤ w4.heap.size from Nat.le_trans HS3.out ht.s)
 clear hT_ ht hz
 unfold clipV
 obtain ⟨C, hC⟩ : ∃ C, C = (clipC z).toArray := ⟨_, rfl⟩
 rw [← hC]
 have HCC := Lib.hid hC
 clear hC
 dsimp only
 iterate 1 go_step
 refine Great.wpList_buildSliceTo rfl 23 48 1 #[(0, .tmp 16)] rfl w4.heap.size rfl _ rfl Tryz.underlying23 C ?_ ?_
 ·simp only [List.map_toArray, List.map_cons, List.map_nil, List.toList_toArray]
  rw [HCC.out]
  exact built_clip z
 have hbx : CA (w4.alloc (.cells C 48)) w4.heap.size 0 z := by rw [HCC.out]; exact CA.box w4 z 48
 have hb : Below w4.heap.size w4 (w4.alloc (.cells C 48)) := below_box _ _
 have hsz : w2.heap.size ≤ (w4.alloc (.cells C 48)).heap.size := Nat.le_trans HS3.out hb.size
 replace HO := Lib.hid (HO.out.below hb)
 simp only [Act.put, List.setIfInBounds_toArray, List.set_cons_succ, List.set_cons_zero]
 refine wpList_appT 23 Tryz.underlying23 _ rfl (.tmp 14) (.tmp 17) rfl rfl w2.heap.size vt l rfl HO.out hsz w4.heap.size 1 z rfl hbx (by omega) ?_
 intro vn w5 q1 q2 q3 q4
 simp only [Act.put, List.setIfInBounds_toArray, List.set_cons_succ, List.set_cons_zero]
 have hbl : Below w2.heap.size w4 w5 := (hb.mono HS3.out).trans q2
 have HTK := Lib.hid q1
 replace HT := Lib.hid (HT.out.low (n := w2.heap.size) (by have := HG.out; have := HS2.out; omega) (by have := HG.out; have := HS2.out; omega) hbl)
 replace HU := Lib.hid (HU.out.low hp (hbl.mono (by have := HS2.out; omega)))
 replace HE := Lib.hid (HE.out.same (hbl.block g (by have := HG.out; have := HS2.out; omega)))
 have HCO := Lib.hid (clipsOK_snoc HSL.out (show l.length ≤ 2 by omega) HZ.out (by omega))
 have HNZ := Lib.hid (show ∀ c ∈ l ++ [z], c.a.name.size ≠ 1 from fun c hc => (HSL.out.snoc HZ.out.short c hc).2.2)
 have HS5 := Lib.hid (show w2.heap.size ≤ w5.heap.size from Nat.le_trans HS3.out (Nat.le_trans hb.size q4))
 clear q1 q2 q3 q4 hbl hbx hb hsz HO HSL HZ HCC hl HS3
 obtain ⟨cl, hcl⟩ : ∃ cl, cl = l ++ [z] := ⟨_, rfl⟩
 rw [← hcl] at HTK HCO HNZ
 clear hcl
 obtain ⟨va, vc, hvn, -⟩ := HTK.out.tk
 obtain ⟨nc, hnc⟩ : ∃ nc, nc = cl.length := ⟨_, rfl⟩
 rw [← hnc] at hvn
 subst hvn
 clear hnc
 have HLN := Lib.hid (fun w (h : Tk w (.slice va nc vc) cl) => length_any (L := 1000000) _ cl w h HCO.out.v (by decide))
 have T0 := HCO.out.t1
 have T1 := HCO.out.t2
 obtain ⟨T, hT⟩ : ∃ T, T = Trk.total cl := ⟨_, rfl⟩
 rw [← hT] at HLN T0 T1
 have HTT := Lib.hid hT
 clear hT
 go_wp2_with fail
 refine (HLN.out _ HTK.out.tk).mono ?_
 rintro e w6 ⟨rfl, hb⟩
 replace HTK := Lib.hid (HTK.out.below hb)
 replace HE := Lib.hid (HE.out.below hb)
 replace HU := Lib.hid (HU.out.low hp (hb.mono HU.out.s))
 replace HT := Lib.hid (HT.out.low (n := w5.heap.size) (by have := HT.out.1; have := HT.out.2.1; omega) HT.out.2.1 hb)
 replace HS5 := Lib.hid (Nat.le_trans HS5.out hb.size)
 clear hb HLN
 go_wp2_with fail
 refine (next_any B p k4 4 _ HT.out (by omega) (by omega) (by omega)).mono ?_
 rintro e w7 ⟨r2, rfl, r20, r21, hT_, hg_⟩
 have hgr := Turn.grown hg_ HT.out.2.1
 replace HU := Lib.hid (HU.out.trans hgr)
 replace HE := Lib.hid (hgr.ed (by have := HG.out; omega) HE.out)
 replace HTK := Lib.hid (HTK.out.turn hgr (by have := HG.out; have := HS2.out; omega))
 replace HT := Lib.hid hT_
 clear hT_ hg_ hgr
 have ha1 : -9223372036854775808 ≤ a + m ∧ a + m ≤ 9223372036854775807 := by omega
 have HFIN := Lib.hid (show ∀ (w8 : World) (kk pp mm : Int) (v : Value), ED w8 g kk pp mm 0 0 0 0 v → (∀ b2, b2 ≠ g → w8.heap[b2]? = w7.heap[b2]?) → w8.heap.size = w7.heap.size → (∀ n w0, n ≤ g → Below n w0 w7 → Below n w0 w8) → OT w8 w.heap.size (.slice va nc vc) cl ∧ TQ w B p k 60 w8 from
  fun w8 kk pp mm v h1 h2 h3 h4 => by
   have hg1 := HG.out.1
   have hg2 := HG.out.2
   refine ⟨(HTK.out.blocks fun x kk2 cp e => h2 x (fun hx => ?_)).lower (by have := HS2.out; omega), ?_⟩
   ·have := (HTK.out.blk e).1
    have := HS2.out
    omega
   ·refine TQ.of (k' := k4 + 1) (by omega) (HT.out.far hg2 h4) ?_
    exact HU.out.into (by omega) (by omega) ⟨Nat.le_of_eq h3.symm, fun b _ hn => h2 b hn, h4⟩)
 rcases (show r2 = 0 ∨ r2 = 1 ∨ r2 = 2 ∨ r2 = 3 by omega) with rfl | rfl | rfl | rfl
 ·go_upto_region 6 with fail
  apply wp_region_lit
  iterate 15 go_step
  refine wpl_storeE 1 a 0 0 0 0 0 va nc vc HE.out rfl rfl rfl rfl ?_
  intro w8 q1 q2 q3 q4 q5
  have HQ := Lib.hid q1
  obtain ⟨z1, z2⟩ := HFIN.out w8 _ _ _ _ q1 q2 q3 q4
  have HZ1 := Lib.hid z1
  have HZ2 := Lib.hid z2
  clear q1 q2 q3 q4 q5 z1 z2
  simp only [Act.put, List.setIfInBounds_toArray, List.set_cons_succ, List.set_cons_zero]
  iterate 7 go_step
  go_wp2_with fail
  exact bodyPost_ret (results_edc (x := .int .i64 (a)) (y := .int .i64 (T)) Tryz.results61 rfl rfl rfl HQ.out ⟨_, _, _, rfl⟩) rfl ⟨⟨⟨1, a, 0, 0, 0, 0, 0, cl⟩, _, _, _, rfl, by have h := iv_put HCO.out HNZ.out a 1 (.inl rfl) a0 a1; rw [if_pos rfl, if_pos rfl, ← HTT.out] at h; exact h, HZ1.out⟩, HZ2.out⟩
 ·go_upto_region 8 with fail
  apply wp_region_lit
  iterate 24 go_step
  refine wpl_storeE 2 a m 0 0 0 0 none 0 0 HE.out rfl rfl rfl rfl ?_
  intro w8 q1 q2 q3 q4 q5
  have HQ := Lib.hid q1
  obtain ⟨z1, z2⟩ := HFIN.out w8 _ _ _ _ q1 q2 q3 q4
  have HZ1 := Lib.hid z1
  have HZ2 := Lib.hid z2
  clear q1 q2 q3 q4 q5 z1 z2
  simp only [Act.put, List.setIfInBounds_toArray, List.set_cons_succ, List.set_cons_zero]
  iterate 7 go_step
  go_wp2_with fail
  exact bodyPost_ret (results_edc (x := .int .i64 (a + m)) (y := .int .i64 (-m)) Tryz.results61 rfl rfl rfl HQ.out ⟨_, _, _, rfl⟩) rfl ⟨⟨⟨2, a, m, 0, 0, 0, 0, []⟩, _, _, _, rfl, iv_cut a m a0 a1 m0 m1, OT.nil _ _⟩, HZ2.out⟩
 ·go_upto_region 10 with fail
  apply wp_region_lit
  iterate 18 go_step
  refine wpl_storeE 3 a 0 0 0 0 0 va nc vc HE.out rfl rfl rfl rfl ?_
  intro w8 q1 q2 q3 q4 q5
  have HQ := Lib.hid q1
  obtain ⟨z1, z2⟩ := HFIN.out w8 _ _ _ _ q1 q2 q3 q4
  have HZ1 := Lib.hid z1
  have HZ2 := Lib.hid z2
  clear q1 q2 q3 q4 q5 z1 z2
  simp only [Act.put, List.setIfInBounds_toArray, List.set_cons_succ, List.set_cons_zero]
  iterate 7 go_step
  go_wp2_with fail
  exact bodyPost_ret (results_edc (x := .int .i64 (a + T)) (y := .int .i64 (0)) Tryz.results61 rfl rfl rfl HQ.out ⟨_, _, _, rfl⟩) rfl ⟨⟨⟨3, a, 0, 0, 0, 0, 0, cl⟩, _, _, _, rfl, by have h := iv_put HCO.out HNZ.out a 3 (.inr rfl) a0 a1; rw [if_neg (by decide), if_neg (by decide), ← HTT.out] at h; exact h, HZ1.out⟩, HZ2.out⟩
 ·go_upto_region 11 with fail
  apply wp_region_lit
  iterate 18 go_step
  refine wpl_storeE 4 a m 0 0 0 0 none 0 0 HE.out rfl rfl rfl rfl ?_
  intro w8 q1 q2 q3 q4 q5
  have HQ := Lib.hid q1
  obtain ⟨z1, z2⟩ := HFIN.out w8 _ _ _ _ q1 q2 q3 q4
  have HZ1 := Lib.hid z1
  have HZ2 := Lib.hid z2
  clear q1 q2 q3 q4 q5 z1 z2
  simp only [Act.put, List.setIfInBounds_toArray, List.set_cons_succ, List.set_cons_zero]
  iterate 7 go_step
  go_wp2_with fail
  exact bodyPost_ret (results_edc (x := .int .i64 (a + m)) (y := .int .i64 (0)) Tryz.results61 rfl rfl rfl HQ.out ⟨_, _, _, rfl⟩) rfl ⟨⟨⟨4, a, m, 0, 0, 0, 0, []⟩, _, _, _, rfl, iv_lift a m a0 a1 m0 m1, OT.nil _ _⟩, HZ2.out⟩
def PairPost (w : World) (e : Ending) (w' : World) : Prop :=
 ∃ E V F U a1 a2 b1, e = .returned (.tuple #[EdV E V, EdV F U, EdV (edAt F (a2 + b1)) U]) ∧ Pr E F a1 a2 b1 ∧ OT w' w.heap.size V E.ins ∧ OT w' w.heap.size U F.ins ∧ Below w.heap.size w w'
theorem results_pair {fn : Func} {tmps : Array Value} {w : World} {s t r : Tmp} {g2 g3 g4 : Nat} {E F : Trk.Ed} {q : Int} {V U : Value} (hr : fn.results = #[.cell s 40, .cell t 40, .cell r 40]) (hs : tmps.getD s undef = .pointer (some ⟨g2, 0, none⟩)) (ht : tmps.getD t undef = .pointer (some ⟨g3, 0, none⟩)) (hy : tmps.getD r undef = .pointer (some ⟨g4, 0, none⟩))
  (hc : E3 w g2 g3 g4 E F q V U) (hv : ∃ ao m cp, V = .slice ao m cp) (hu : ∃ ao m cp, U = .slice ao m cp) : (results fn tmps).run Tryz.prog w = .ok (.tuple #[EdV E V, EdV F U, EdV (edAt F q) U]) w := by
 obtain ⟨ao, m, cp, rfl⟩ := hv
 obtain ⟨bo, n, dp, rfl⟩ := hu
 have h1 := run_loadVar_mid (P := Tryz.prog) w g2 0 40 (edC E.k E.p E.m E.c E.d E.sn E.sd (.slice ao m cp)).toList _ hc.a.range Tryz.underlying40 rfl (by kernel_rfl)
 have h2 := run_loadVar_mid (P := Tryz.prog) w g3 0 40 (edC F.k F.p F.m F.c F.d F.sn F.sd (.slice bo n dp)).toList _ hc.b.range Tryz.underlying40 rfl (by kernel_rfl)
 have h3 := run_loadVar_mid (P := Tryz.prog) w g4 0 40 (edC F.k q F.m F.c F.d F.sn F.sd (.slice bo n dp)).toList _ hc.c.range Tryz.underlying40 rfl (by kernel_rfl)
 obtain ⟨C1, hC1⟩ : ∃ C, C = (edC E.k E.p E.m E.c E.d E.sn E.sd (.slice ao m cp)).toList.toArray := ⟨_, rfl⟩
 obtain ⟨C2, hC2⟩ : ∃ C, C = (edC F.k F.p F.m F.c F.d F.sn F.sd (.slice bo n dp)).toList.toArray := ⟨_, rfl⟩
 obtain ⟨C3, hC3⟩ : ∃ C, C = (edC F.k q F.m F.c F.d F.sn F.sd (.slice bo n dp)).toList.toArray := ⟨_, rfl⟩
 rw [← hC1] at h1
 rw [← hC2] at h2
 rw [← hC3] at h3
 unfold results
 rw [hr]
 have ht2 : tmps[t]?.getD undef = .pointer (some ⟨g3, 0, none⟩) := by rw [← Array.getD_eq_getD_getElem?]; exact ht
 have hs2 : tmps[s]?.getD undef = .pointer (some ⟨g2, 0, none⟩) := by rw [← Array.getD_eq_getD_getElem?]; exact hs
 have hy2 : tmps[r]?.getD undef = .pointer (some ⟨g4, 0, none⟩) := by rw [← Array.getD_eq_getD_getElem?]; exact hy
 simp [ht2, hs2, hy2, asAddr, h1, h2, h3]
 rw [hC1, hC2, hC3]
 exact ⟨rfl, rfl, rfl⟩
set_option maxRecDepth 100000 in
set_option maxHeartbeats 16000000 in
theorem pair_any (v : Value) (w : World) (h : Ints w v) : Calls Tryz.prog 22 #[v] w (PairPost w) := by
 obtain ⟨ao, n, cp, rfl, hnc, hn, hI⟩ := h
 have HI := Lib.hid hI
 clear hI
 go_enter Tryz.func22, Tryz.ntmps22
 go_upto_region 2 with fail
 obtain ⟨w1, hw1⟩ : ∃ y, y = (((w.alloc (.cells #[.int .i64 0, .int .i64 0, .int .i64 0, .int .i64 0, .int .i64 0, .int .i64 0, .int .i64 0, .slice none 0 0] 40)).alloc (.cells #[.int .i64 0, .int .i64 0, .int .i64 0, .int .i64 0, .int .i64 0, .int .i64 0, .int .i64 0, .slice none 0 0] 40)).alloc (.cells #[.int .i64 0, .int .i64 0, .int .i64 0, .int .i64 0, .int .i64 0, .int .i64 0, .int .i64 0, .slice none 0 0] 40)).alloc (.cells #[.slice ao n cp, .int .i64 0] 52) := ⟨_, rfl⟩
 rw [← hw1]
 obtain ⟨g2, hg2⟩ : ∃ y, y = w.heap.size := ⟨_, rfl⟩
 obtain ⟨g3, hg3⟩ : ∃ y, y = w.heap.size + 1 := ⟨_, rfl⟩
 obtain ⟨g4, hg4⟩ : ∃ y, y = w.heap.size + 1 + 1 := ⟨_, rfl⟩
 obtain ⟨p, hp⟩ : ∃ y, y = w.heap.size + 1 + 1 + 1 := ⟨_, rfl⟩
 have HB := Lib.hid (show Below w.heap.size w w1 by rw [hw1]; go_grown)
 have H2 := Lib.hid (show ED w1 g2 0 0 0 0 0 0 0 (.slice none 0 0) by rw [hw1, hg2]; constructor <;> simp [go_sem])
 have H3 := Lib.hid (show ED w1 g3 0 0 0 0 0 0 0 (.slice none 0 0) by rw [hw1, hg3]; constructor <;> simp [go_sem])
 have H4 := Lib.hid (show ED w1 g4 0 0 0 0 0 0 0 (.slice none 0 0) by rw [hw1, hg4]; constructor <;> simp [go_sem])
 have HT := Lib.hid (show TP w1 w.heap.size p 0 by
  refine ⟨by omega, by rw [hw1, hp]; simp [go_sem], ao, n, cp, by rw [hw1, hp]; simp [go_sem], by rw [hw1, hp]; simp [go_sem], by rw [hw1, hp]; simp [go_sem], hnc, hn, fun i hi => ?_⟩
  obtain ⟨b, o, x, e, hc⟩ := HI.out i hi
  exact ⟨b, o, x, e, block_lt_of_cell hc, (HB.out.cell (block_lt_of_cell hc)).trans hc⟩)
 have HG := Lib.hid (show w.heap.size = g2 ∧ g3 = g2 + 1 ∧ g4 = g2 + 2 ∧ p = g2 + 3 by omega)
 have HS := Lib.hid (show p < w1.heap.size from HT.out.2.1)
 rw [← hp, ← hg4, ← hg3, ← hg2]
 clear hw1 hg2 hg3 hg4 hp HI
 go_wp2_with fail
 refine (next_any w.heap.size p 0 20 _ HT.out (by omega) (by omega) (by omega)).mono ?_
 rintro e w2 ⟨a1, rfl, a10, a11, hT_, hg_⟩
 have hgr := Turn.grown hg_ HT.out.2.1
 replace H2 := Lib.hid (hgr.ed (by have := HG.out; omega) H2.out)
 replace H3 := Lib.hid (hgr.ed (by have := HG.out; omega) H3.out)
 replace H4 := Lib.hid (hgr.ed (by have := HG.out; omega) H4.out)
 replace HB := Lib.hid (hgr.b _ _ (by have := HG.out; omega) HB.out)
 replace HS := Lib.hid (Nat.lt_of_lt_of_le HS.out hgr.s)
 clear hgr
 replace HT := Lib.hid hT_
 clear hT_ hg_
 go_wp2_with fail
 refine (interval_any w.heap.size p _ a1 _ HT.out (by omega) (by omega) (by omega)).mono ?_
 rintro e w3 ⟨⟨E, V, n1, b1, rfl, hiv, hov⟩, ⟨k3, hk3, hT_⟩, hgr⟩
 have HOV := Lib.hid (hov.lower (show p + 1 ≤ w2.heap.size by have := HS.out; omega))
 replace H2 := Lib.hid (hgr.ed (by have := HG.out; omega) H2.out)
 replace H3 := Lib.hid (hgr.ed (by have := HG.out; omega) H3.out)
 replace H4 := Lib.hid (hgr.ed (by have := HG.out; omega) H4.out)
 replace HB := Lib.hid (hgr.b _ _ (by have := HG.out; omega) HB.out)
 replace HS := Lib.hid (Nat.lt_of_lt_of_le HS.out hgr.s)
 clear hgr
 replace HT := Lib.hid hT_
 have HIV := Lib.hid hiv
 have e0 := hiv.e
 have r0 := hiv.r0
 have r1 := hiv.r1
 have u0 := hiv.u0
 have u1 := hiv.u1
 have e1 := hiv.b
 obtain ⟨va, vc, hV, -⟩ := hov.tk
 obtain ⟨vn, hvn⟩ : ∃ k, k = E.ins.length := ⟨_, rfl⟩
 rw [← hvn] at hV
 subst hV
 clear hT_ hiv hov hvn
 obtain ⟨rm, hrm⟩ : ∃ r, r = E.rem := ⟨_, rfl⟩
 obtain ⟨pu, hpu⟩ : ∃ r, r = Trk.total E.put := ⟨_, rfl⟩
 rw [← hrm] at e0 r0 r1 e1
 rw [← hpu] at u0 u1 e1
 have HRM := Lib.hid (And.intro hrm hpu)
 have n10 : 0 ≤ n1 := by omega
 have n11 : n1 ≤ 46 := by omega
 have b10 : -27 ≤ b1 := by omega
 have b11 : b1 ≤ 27 := by omega
 have HAB := Lib.hid (And.intro e0 e1)
 clear e0 e1 hrm hpu r0 r1 u0 u1
 unfold EdV edV
 dsimp only
 iterate 13 go_step
 refine wpl_storeE E.k E.p E.m E.c E.d E.sn E.sd va vn vc H2.out rfl rfl rfl rfl ?_
 intro w4 q1 q2 q3 q4 q5
 simp only [Act.put, List.setIfInBounds_toArray, List.set_cons_succ, List.set_cons_zero]
 replace H2 := Lib.hid q1
 replace H3 := Lib.hid (H3.out.same (q2 g3 (by have := HG.out; omega)))
 replace H4 := Lib.hid (H4.out.same (q2 g4 (by have := HG.out; omega)))
 replace HT := Lib.hid (HT.out.store (by have := HG.out; omega) (by have := HG.out; omega) q2 q3)
 replace HOV := Lib.hid (HOV.out.store (by have := HG.out; omega) q2)
 replace HB := Lib.hid (q4 _ _ (by have := HG.out; omega) HB.out)
 replace HS := Lib.hid (show p < w4.heap.size by rw [q3]; exact HS.out)
 clear q1 q2 q3 q4 q5
 go_wp2_with fail
 refine (next_any w.heap.size p k3 12 _ HT.out (by omega) (by omega) (by omega)).mono ?_
 rintro e w5 ⟨r, rfl, r0, r1, hT_, hg_⟩
 have hgr := Turn.grown hg_ HT.out.2.1
 replace H2 := Lib.hid (hgr.ed (by have := HG.out; omega) H2.out)
 replace H3 := Lib.hid (hgr.ed (by have := HG.out; omega) H3.out)
 replace H4 := Lib.hid (hgr.ed (by have := HG.out; omega) H4.out)
 replace HOV := Lib.hid (HOV.out.turn hgr (by omega))
 replace HB := Lib.hid (hgr.b _ _ (by have := HG.out; omega) HB.out)
 replace HS := Lib.hid (Nat.lt_of_lt_of_le HS.out hgr.s)
 clear hgr
 replace HT := Lib.hid hT_
 obtain ⟨a2, ha2⟩ : ∃ a, a = n1 + 1 + r := ⟨_, rfl⟩
 have e2 : n1 + 1 + r = a2 := ha2.symm
 have HA2 := Lib.hid ha2
 have a20 : 1 ≤ a2 := by omega
 have a21 : a2 ≤ 58 := by omega
 clear hT_ hg_ ha2
 go_wp2_with fail
 refine (interval_any w.heap.size p _ a2 _ HT.out (by omega) (by omega) (by omega)).mono ?_
 rintro e w6 ⟨⟨F, U, n2, b2, rfl, hiv, hov⟩, ⟨k6, hk6, hT_⟩, hgr⟩
 have HOU := Lib.hid (hov.lower (show p + 1 ≤ w5.heap.size by have := HS.out; omega))
 replace H2 := Lib.hid (hgr.ed (by have := HG.out; omega) H2.out)
 replace H3 := Lib.hid (hgr.ed (by have := HG.out; omega) H3.out)
 replace H4 := Lib.hid (hgr.ed (by have := HG.out; omega) H4.out)
 replace HOV := Lib.hid (HOV.out.turn hgr (by omega))
 replace HB := Lib.hid (hgr.b _ _ (by have := HG.out; omega) HB.out)
 replace HS := Lib.hid (Nat.lt_of_lt_of_le HS.out hgr.s)
 clear hgr
 replace HT := Lib.hid hT_
 have HIW := Lib.hid hiv
 obtain ⟨ua, uc, hU, -⟩ := hov.tk
 obtain ⟨un, hun⟩ : ∃ k, k = F.ins.length := ⟨_, rfl⟩
 rw [← hun] at hU
 subst hU
 have HFP := Lib.hid hiv.p
 clear hT_ hiv hov hun e2
 unfold EdV edV
 dsimp only
 iterate 13 go_step
 refine wpl_storeE F.k F.p F.m F.c F.d F.sn F.sd ua un uc H3.out rfl rfl rfl rfl ?_
 intro w7 q1 q2 q3 q4 q5
 simp only [Act.put, List.setIfInBounds_toArray, List.set_cons_succ, List.set_cons_zero]
 replace H3 := Lib.hid q1
 replace H2 := Lib.hid (H2.out.same (q2 g2 (by have := HG.out; omega)))
 replace H4 := Lib.hid (H4.out.same (q2 g4 (by have := HG.out; omega)))
 replace HOV := Lib.hid (HOV.out.store (by have := HG.out; omega) q2)
 replace HOU := Lib.hid (HOU.out.store (by have := HG.out; omega) q2)
 replace HB := Lib.hid (q4 _ _ (by have := HG.out; omega) HB.out)
 clear q1 q2 q3 q4 q5 HT HS
 go_upto_region 4 with fail
 apply wp_region_lit
 refine wpl_loadE H3.out rfl rfl rfl ?_
 refine wpl_storeE F.k F.p F.m F.c F.d F.sn F.sd ua un uc H4.out rfl rfl rfl rfl ?_
 intro w8 q1 q2 q3 q4 q5
 simp only [Act.put, List.setIfInBounds_toArray, List.set_cons_succ, List.set_cons_zero]
 replace H4 := Lib.hid q1
 replace H2 := Lib.hid (H2.out.same (q2 g2 (by have := HG.out; omega)))
 replace H3 := Lib.hid (H3.out.same (q2 g3 (by have := HG.out; omega)))
 replace HOV := Lib.hid (HOV.out.store (by have := HG.out; omega) q2)
 replace HOU := Lib.hid (HOU.out.store (by have := HG.out; omega) q2)
 replace HB := Lib.hid (q4 _ _ (by have := HG.out; omega) HB.out)
 clear q1 q2 q3 q4 q5
 have k1 := H4.out.k1
 have kf := H4.out.fz
 obtain ⟨q, hq⟩ : ∃ q, q = F.p + b1 := ⟨_, rfl⟩
 have e3 : F.p + b1 = q := hq.symm
 have HQ := Lib.hid hq
 have hq0 : -1000 ≤ q ∧ q ≤ 1000 := by have := HFP.out; omega
 clear hq
 go_upto_region 6 with fail
 obtain ⟨w9, hw9⟩ : ∃ z, z = w8.setCell ⟨g4, 1, none⟩ (.int .i64 q) := ⟨_, rfl⟩
 rw [← hw9]
 have h9 : ∀ b2, b2 ≠ g4 → w9.heap[b2]? = w8.heap[b2]? := fun b2 hn => by rw [hw9]; exact setCells_other g4 b2 hn [.int .i64 q] 1 w8
 replace H4 := Lib.hid (show ED w9 g4 F.k q F.m F.c F.d F.sn F.sd (.slice ua un uc) by rw [hw9]; exact H4.out.set1 q)
 replace H2 := Lib.hid (H2.out.same (h9 g2 (by have := HG.out; omega)))
 replace H3 := Lib.hid (H3.out.same (h9 g3 (by have := HG.out; omega)))
 replace HOV := Lib.hid (HOV.out.store (g := g4) (by have := HG.out; omega) h9)
 replace HOU := Lib.hid (HOU.out.store (g := g4) (by have := HG.out; omega) h9)
 replace HB := Lib.hid (show Below w.heap.size w w9 by rw [hw9]; exact HB.out.setCell (p := ⟨g4, 1, none⟩) (by have := HG.out; show _ ≤ g4; omega) _)
 clear h9 hw9 k1 kf e3
 have HE3 := Lib.hid (show E3 w9 g2 g3 g4 E F q (.slice va vn vc) (.slice ua un uc) from ⟨H2.out, H3.out, H4.out⟩)
 clear H2 H3 H4
 refine Plan.wp_region_plan (fun w' => E3 w' g2 g3 g4 E F q (.slice va vn vc) (.slice ua un uc)) (([0, 1, 2].map (·, true)) ++ ([3, 4, 5].map (·, false))) (by kernel_rfl) (by kernel_rfl) (by kernel_rfl) (HE3.out.below (Below.refl _ _).drew) ?_
 refine' Plan.plan_seg _ [0, 1, 2] ([3, 4, 5].map (·, false)) (by kernel_rfl) (by kernel_rfl) rfl (by exact HE3.out.below (Below.refl _ _).drew) (fun wx hS => ?_) ?_
 rotate_left
 ·have HS := Lib.hid hS
  clear hS
  go_light
  (apply Plan.seg_pick; rfl; intro K hK)
  refine wpl_loadE HS.out.a rfl rfl rfl ?_
  go_wp
  (apply Plan.seg_pick; rfl; intro K hK)
  refine wpl_loadE HS.out.b rfl rfl rfl ?_
  go_wp
  (apply Plan.seg_pick; rfl; intro K hK)
  refine wpl_loadE HS.out.c rfl rfl rfl ?_
  go_wp
  exact Plan.seg_nil
 obtain ⟨w10, hw10⟩ : ∃ x, x = w9.drew := ⟨_, rfl⟩
 rw [← hw10]
 have hb : Below w9.heap.size w9 w10 := by rw [hw10]; exact (Below.refl _ _).drew
 replace HE3 := Lib.hid (HE3.out.below hb)
 replace HOV := Lib.hid (HOV.out.below hb)
 replace HOU := Lib.hid (HOU.out.below hb)
 replace HB := Lib.hid (HB.out.trans (hb.mono HB.out.size))
 clear hb hw10
 simp only [Act.put, List.setIfInBounds_toArray, List.set_cons_succ, List.set_cons_zero]
 refine Plan.plan_of_effect rfl (fun K hK => ?_)
 refine wpl_storeE E.k E.p E.m E.c E.d E.sn E.sd va vn vc HE3.out.a rfl rfl rfl rfl ?_
 intro w11 q1 q2 q3 q4 q5
 have hn3 : E3 w11 g2 g3 g4 E F q (.slice va vn vc) (.slice ua un uc) := ⟨q1, HE3.out.b.same (q2 g3 (by have := HG.out; omega)), HE3.out.c.same (q2 g4 (by have := HG.out; omega))⟩
 replace HE3 := Lib.hid hn3
 replace HOV := Lib.hid (HOV.out.store (by have := HG.out; omega) q2)
 replace HOU := Lib.hid (HOU.out.store (by have := HG.out; omega) q2)
 replace HB := Lib.hid (q4 _ _ (by have := HG.out; omega) HB.out)
 clear hn3 q1 q2 q3 q4 q5
 go_wp2_with fail
 refine ⟨HE3.out, ?_⟩
 refine Plan.plan_of_effect rfl (fun K hK => ?_)
 refine wpl_storeE F.k F.p F.m F.c F.d F.sn F.sd ua un uc HE3.out.b rfl rfl rfl rfl ?_
 intro w12 q1 q2 q3 q4 q5
 have hn3 : E3 w12 g2 g3 g4 E F q (.slice va vn vc) (.slice ua un uc) := ⟨HE3.out.a.same (q2 g2 (by have := HG.out; omega)), q1, HE3.out.c.same (q2 g4 (by have := HG.out; omega))⟩
 replace HE3 := Lib.hid hn3
 replace HOV := Lib.hid (HOV.out.store (by have := HG.out; omega) q2)
 replace HOU := Lib.hid (HOU.out.store (by have := HG.out; omega) q2)
 replace HB := Lib.hid (q4 _ _ (by have := HG.out; omega) HB.out)
 clear hn3 q1 q2 q3 q4 q5
 go_wp2_with fail
 refine ⟨HE3.out, ?_⟩
 refine Plan.plan_of_effect rfl (fun K hK => ?_)
 refine wpl_storeE F.k q F.m F.c F.d F.sn F.sd ua un uc HE3.out.c rfl rfl rfl rfl ?_
 intro w13 q1 q2 q3 q4 q5
 have hn3 : E3 w13 g2 g3 g4 E F q (.slice va vn vc) (.slice ua un uc) := ⟨HE3.out.a.same (q2 g2 (by have := HG.out; omega)), HE3.out.b.same (q2 g3 (by have := HG.out; omega)), q1⟩
 replace HE3 := Lib.hid hn3
 replace HOV := Lib.hid (HOV.out.store (by have := HG.out; omega) q2)
 replace HOU := Lib.hid (HOU.out.store (by have := HG.out; omega) q2)
 replace HB := Lib.hid (q4 _ _ (by have := HG.out; omega) HB.out)
 clear hn3 q1 q2 q3 q4 q5
 go_wp2_with fail
 refine ⟨HE3.out, ?_⟩
 refine Plan.plan_done ?_
 go_wp2_with fail
 refine bodyPost_ret (results_pair Tryz.results22 rfl rfl rfl HE3.out ⟨_, _, _, rfl⟩ ⟨_, _, _, rfl⟩) rfl ?_
 refine ⟨E, _, F, _, a1, a2, b1, by rw [HQ.out, HFP.out], ⟨⟨n1, HIV.out⟩, ⟨n2, b2, HIW.out⟩, a10, by omega, ?_, ?_⟩, HOV.out.lower (by have := HG.out; omega), HOU.out.lower (by have := HG.out; omega), HB.out⟩
 ·have := HAB.out; have := HRM.out; have := HA2.out; omega
 ·have := HAB.out; have := HRM.out; have := HA2.out; omega
set_option maxRecDepth 100000 in
set_option maxHeartbeats 8000000 in
theorem applyx_any (v u : Value) (t : List Trk.Clip) (e : Trk.Ed) (w : World) (h : Tk w v t) (hu : Tk w u e.ins) (hV : VT 1000000 t) (hN : Trk.Norm t) (hE : ExV 1000000 e) (hl : t.length + 2 + e.put.length ≤ 63)
  (hee : (if e.k = 1 then max e.p (Trk.total t) else e.p) + e.T ≤ 2147483647) : Calls Tryz.prog 24 #[v, EdV e u] w (OTPost w (Trk.nf (e.exl t))) := by
 have HA := Lib.hid (fun (w : World) (h : Tk w v t) (hu : Tk w u e.ins) => apply_f v u t e w h hu hV hN hE hl hee)
 have HT := Lib.hid h
 have HU := Lib.hid hu
 obtain ⟨ao, cp, rfl, -⟩ := h
 obtain ⟨bo, dp, rfl, -⟩ := hu
 obtain ⟨n, hn⟩ : ∃ n, n = t.length := ⟨_, rfl⟩
 obtain ⟨m, hm⟩ : ∃ m, m = e.ins.length := ⟨_, rfl⟩
 rw [← hn] at HA HT ⊢
 rw [← hm] at HA HU ⊢
 clear hn hm hl hee hE hN hV
 obtain ⟨R, hR⟩ : ∃ R, R = Trk.nf (e.exl t) := ⟨_, rfl⟩
 rw [← hR] at HA ⊢
 clear hR
 unfold EdV edV at HA ⊢
 go_enter Tryz.func24, Tryz.ntmps24
 go_upto_region 1 with fail
 have HE := Lib.hid (ED.box w e.k e.p e.m e.c e.d e.sn e.sd (.slice bo m dp) rfl 40)
 have hb : Below w.heap.size w (w.alloc (.cells (edC e.k e.p e.m e.c e.d e.sn e.sd (.slice bo m dp)) 40)) := below_box _ _
 unfold edC at hb ⊢
 obtain ⟨w1, hw1⟩ : ∃ z, z = w.alloc (.cells #[.int .i64 e.k, .int .i64 e.p, .int .i64 e.m, .int .i64 e.c, .int .i64 e.d, .int .i64 e.sn, .int .i64 e.sd, .slice bo m dp] 40) := ⟨_, rfl⟩
 rw [← hw1] at HE hb ⊢
 obtain ⟨g, hg⟩ : ∃ g, g = w.heap.size := ⟨_, rfl⟩
 rw [← hg] at HE ⊢
 replace HT := Lib.hid (HT.out.below hb)
 replace HU := Lib.hid (HU.out.below hb)
 have HB := Lib.hid hb
 clear hw1 hg hb
 apply wp_region_lit
 iterate 3 go_step
 refine wpl_loadE HE.out rfl rfl rfl ?_
 simp only [Act.put, List.setIfInBounds_toArray, List.set_cons_succ, List.set_cons_zero]
 go_wp2_with fail
 refine (HA.out _ HT.out HU.out).mono ?_
 rintro ev w2 ⟨vu, x1, x2, x3, ra, rl, rc, rfl, ho, hb⟩
 have HO := Lib.hid (ho.lower HB.out.size)
 replace HB := Lib.hid (HB.out.trans (hb.mono HB.out.size))
 clear ho hb HE HT HU HA
 unfold edC
 go_wp2_with fail
 go_ret
 exact ⟨_, rfl, HO.out.below (below_box _ _), HB.out.trans ((below_box _ _).mono HB.out.size)⟩
theorem norm_long : Trk.Norm [longC] := by rw [← nf_long]; exact Trk.nf_norm long_good
section
variable {L : Int} {now : Int} {v : Value} {d : Dc} {w : World} {u nm : ByteArray}
theorem bigstep_redo (h : Dcs w v [d]) (hd : DocOK L now d) (hL : L ≤ 140737488355328) (h0 : 0 ≤ now) (h1 : now ≤ 1099511627776) (hu : okWord u) (hn : okWord nm) :
  Calls Tryz.prog 26 #[.agg #[.int .i64 now, v], .agg #[.int .i64 6, .string u, .string nm, .int .i64 0, .int .i64 0, .slice none 0 0]] w (StepPost w (OneR now [d] 6 u nm (fun d c d' => RedoR d u c d'))) :=
 bigstep_any now v d 6 u nm 0 0 none 0 0 152 (.agg #[.int .i64 6, .string u, .string nm]) _ w h hd hL h0 h1
  (OneR.fine (L := L) (by simp) (fun x hx => by rw [List.mem_singleton.1 hx]; exact hd) (fun d d' h hr => RedoR.keeps h hu hr))
  (fun w1 hb => convert_redo u nm w1 hu hn)
  (fun w1 hb => step_redo [d] v now u nm w1 (h.below hb) (by simp) (by simp) (fun x hx => by rw [List.mem_singleton.1 hx]; exact ⟨hd.own, hd.rvs⟩) (fun x hx => by rw [List.mem_singleton.1 hx]; exact hd.base4) hL)
theorem bigstep_lock (n : Int) (h : Dcs w v [d]) (hd : DocOK L now d) (hL : L ≤ 140737488355328) (h0 : 0 ≤ now) (h1 : now ≤ 1099511627776) (hu : okWord u) (hn : okWord nm) (n0 : 1 ≤ n) (n1 : n ≤ 1000) :
  Calls Tryz.prog 26 #[.agg #[.int .i64 now, v], .agg #[.int .i64 2, .string u, .string nm, .int .i64 0, .int .i64 n, .slice none 0 0]] w (StepPost w (OneR now [d] 2 u nm (fun d c d' => LockR d u (now + n) c d'))) :=
 bigstep_any now v d 2 u nm 0 n none 0 0 146 (.agg #[.int .i64 2, .string u, .string nm, .int .i64 n]) _ w h hd hL h0 h1
  (OneR.fine (L := L) (by simp) (fun x hx => by rw [List.mem_singleton.1 hx]; exact hd) (fun d d' h hr => LockR.keeps h hu n0 n1 hr))
  (fun w1 hb => convert_lock u nm n w1 hu hn n0 n1)
  (fun w1 hb => step_lock (L := L) [d] v now u nm n w1 (h.below hb) (by simp) (by simp) (fun x hx => by rw [List.mem_singleton.1 hx]; exact ⟨hd.own, hd.rvs⟩) ⟨h0, h1⟩ ⟨by omega, n1⟩ hL)
theorem bigstep_unlock (h : Dcs w v [d]) (hd : DocOK L now d) (hL : L ≤ 140737488355328) (h0 : 0 ≤ now) (h1 : now ≤ 1099511627776) (hu : okWord u) (hn : okWord nm) :
  Calls Tryz.prog 26 #[.agg #[.int .i64 now, v], .agg #[.int .i64 3, .string u, .string nm, .int .i64 0, .int .i64 0, .slice none 0 0]] w (StepPost w (OneR now [d] 3 u nm (fun d c d' => UnlockR d u c d'))) :=
 bigstep_any now v d 3 u nm 0 0 none 0 0 148 (.agg #[.int .i64 3, .string u, .string nm]) _ w h hd hL h0 h1
  (OneR.fine (L := L) (by simp) (fun x hx => by rw [List.mem_singleton.1 hx]; exact hd) (fun d d' h hr => UnlockR.keeps h hr))
  (fun w1 hb => convert_unlock u nm w1 hu hn)
  (fun w1 hb => step_unlock (L := L) [d] v now u nm w1 (h.below hb) (by simp) (by simp) (fun x hx => by rw [List.mem_singleton.1 hx]; exact ⟨hd.own, hd.rvs⟩) hL)
theorem bigstep_commit (bs : Int) (ta : Option Addr) (tn tc : Nat) (t : List Trk.Clip) (ht : Tk w (.slice ta tn tc) t) (Vt : VT L t) (h : Dcs w v [d]) (hd : DocOK L now d) (hL : L ≤ 140737488355328) (h0 : 0 ≤ now) (h1 : now ≤ 1099511627776) (hu : okWord u) (hn : okWord nm) :
  Calls Tryz.prog 26 #[.agg #[.int .i64 now, v], .agg #[.int .i64 4, .string u, .string nm, .int .i64 bs, .int .i64 0, .slice ta tn tc]] w (StepPost w (OneR now [d] 4 u nm (fun d c d' => CommitR d u bs t c d'))) :=
 bigstep_any now v d 4 u nm bs 0 ta tn tc 150 (.agg #[.int .i64 4, .string u, .string nm, .int .i64 bs, .slice ta tn tc]) _ w h hd hL h0 h1
  (OneR.fine (L := L) (by simp) (fun x hx => by rw [List.mem_singleton.1 hx]; exact hd) (fun d d' h hr => CommitR.keeps h hu Vt hr))
  (fun w1 hb => convert_commit u nm bs _ t w1 hu hn (ht.below hb) Vt hL)
  (fun w1 hb => step_commit [d] v now u nm bs ta tn tc t w1 (h.below hb) (by simp) (by simp) (fun x hx => by rw [List.mem_singleton.1 hx]; exact ⟨hd.own, hd.rvs⟩) (ht.below hb) Vt hL)
end
def bobB : ByteArray := ⟨#[98, 111, 98]⟩
theorem bob_ok : okWord bobB := .inr ⟨98, 111, 98, rfl, ⟨by decide, by decide⟩, ⟨by decide, by decide⟩, by decide, by decide⟩
theorem evs_two (w : World) (e1 e2 : Ev) (t1 t2 : Value) (k1 : Tk w t1 e1.t) (k2 : Tk w t2 e2.t) (n1 : e1.kind = 1 ∨ e1.kind = 4 ∨ t1 = .slice none 0 0) (n2 : e2.kind = 1 ∨ e2.kind = 4 ∨ t2 = .slice none 0 0) :
  Evs (w.alloc (.cells (evtL e1 t1 ++ evtL e2 t2).toArray 59)) (.slice (some ⟨w.heap.size, 0, none⟩) 2 2) [e1, e2] := by
 have hb : Below w.heap.size w (w.alloc (.cells (evtL e1 t1 ++ evtL e2 t2).toArray 59)) := below_box _ _
 refine ⟨_, _, rfl, Nat.le_refl _, by unfold maxLen; omega, fun i e hi => ?_⟩
 match i, hi with
 | 0, hi =>
  obtain rfl := Option.some.inj hi
  exact ⟨_, 0, t1, rfl, range_box w _ 59 _ _ (fun j u hj => by
   have hlt := (List.getElem?_eq_some_iff.1 hj).1
   rw [show 0 + 0 * 6 + j = j by omega, List.getElem?_append_left hlt]
   exact hj), k1.below hb, fun h1 h4 => by rcases n1 with h | h | h <;> first | exact absurd h h1 | exact absurd h h4 | exact h⟩
 | 1, hi =>
  obtain rfl := Option.some.inj hi
  exact ⟨_, 0, t2, rfl, range_box w _ 59 _ _ (fun j u hj => by
   rw [show 0 + 1 * 6 + j = 6 + j by omega, List.getElem?_append_right (by simp [evtL])]
   rw [show 6 + j - (evtL e1 t1).length = j by simp [evtL]]
   exact hj), k2.below hb, fun h1 h4 => by rcases n2 with h | h | h <;> first | exact absurd h h1 | exact absurd h h4 | exact h⟩
theorem built_ev2 (e1 e2 : Ev) (t1 t2 : Value) : Tryz.prog.builtSlice 59 2 [(0, .agg (evtL e1 t1).toArray), (1, .agg (evtL e2 t2).toArray)] = some (evtL e1 t1 ++ evtL e2 t2).toArray := by kernel_rfl
theorem Pr.inl {E F : Trk.Ed} {a1 a2 b1 : Int} (h : Pr E F a1 a2 b1) : InL (Trk.nf (E.exl [longC])) E.put a1 E.rem ∧ InL (Trk.nf (F.exl [longC])) F.put a2 F.rem ∧ a1 + E.rem < a2 ∧ E.put.length ≤ 3 ∧ F.put.length ≤ 3 ∧ Trk.total E.put ≤ 27 ∧ Trk.total F.put ≤ 27 ∧ b1 = Trk.total E.put - E.rem ∧ 1 ≤ a2 + b1 ∧ a2 + b1 ≤ 100 := by
 obtain ⟨n1, he⟩ := h.e
 obtain ⟨n2, b2, hf⟩ := h.f
 have c0 := h.c0
 have c1 := h.c1
 have s0 := h.s0
 have s1 := h.s1
 have r1 := he.r1
 have r0 := he.r0
 have u0 := he.u0
 have u1 := he.u1
 have hb := he.b
 have r2 := hf.r1
 exact ⟨InL.of he c0 (by omega), InL.of hf (by omega) (by omega), by omega, he.l, hf.l, u1, hf.u1, hb, by omega, by omega⟩
theorem long_apply {E : Trk.Ed} {a en by_ : Int} (h : Iv a E en by_) (a1 : a ≤ 1000) (v u : Value) (w : World) (ht : Tk w v [longC]) (hu : Tk w u E.ins) : Calls Tryz.prog 24 #[v, EdV E u] w (OTPost w (Trk.nf (E.exl [longC]))) :=
 applyx_any v u [longC] E w ht hu long_vt norm_long h.v (by have := h.l; show 1 + 2 + _ ≤ 63; omega) (by
  have := h.t1; have := h.p
  rw [long_total]
  split <;> omega)
def stays (now : Int) (d : Dc) : Bool := decide (d.owner = ⟨#[]⟩) || decide (now < d.till)
def tickD (now : Int) (d : Dc) : Dc := if stays now d = true then d else { d with owner := ⟨#[]⟩, till := 0 }
def tickO (now : Int) (ds : List Dc) : List Rpt := ds.filterMap fun d => if stays now d = true then none else some ⟨3, d.owner, d.name, (d.revs.length : Int) - 1⟩
def TickR (now n : Int) (ds : List Dc) (code now' : Int) (ds' : List Dc) (os : List Rpt) : Prop :=
 (1099511627776 < now + n ∧ code = 2 ∧ now' = 0 ∧ ds' = [] ∧ os = []) ∨ (now + n ≤ 1099511627776 ∧ code = 0 ∧ now' = now + n ∧ ds' = ds.map (tickD (now + n)) ∧ os = tickO (now + n) ds)
def mixD (T : Int) (ds : List Dc) (k : Nat) : List Dc := (ds.take k).map (tickD T) ++ ds.drop k
theorem mixD_zero (T : Int) (ds : List Dc) : mixD T ds 0 = ds := by simp [mixD]
theorem mixD_all (T : Int) (ds : List Dc) : mixD T ds ds.length = ds.map (tickD T) := by simp [mixD]
theorem mixD_len (T : Int) (ds : List Dc) (k : Nat) : (mixD T ds k).length = ds.length := by
 simp [mixD]
 omega
theorem mixD_at {T : Int} {ds : List Dc} {k : Nat} {d : Dc} (h : ds[k]? = some d) : (mixD T ds k)[k]? = some d := by
 have hl := (List.getElem?_eq_some_iff.1 h).1
 unfold mixD
 rw [List.getElem?_append_right (by simp; omega), List.length_map, List.length_take, show k - min k ds.length = 0 by omega, List.getElem?_drop, Nat.add_zero]
 exact h
theorem mixD_set {T : Int} {ds : List Dc} {k : Nat} {d : Dc} (h : ds[k]? = some d) : (mixD T ds k).set k (tickD T d) = mixD T ds (k + 1) := by
 obtain ⟨hl, rfl⟩ := List.getElem?_eq_some_iff.1 h
 unfold mixD
 have e : ((ds.take k).map (tickD T)).length = k := by simp; omega
 have e2 : (ds.take (k + 1)).map (tickD T) = (ds.take k).map (tickD T) ++ [tickD T ds[k]] := by rw [List.take_succ_eq_append_getElem hl, List.map_append]; rfl
 rw [List.set_append_right _ _ (by omega), e, Nat.sub_self, List.drop_eq_getElem_cons hl, List.set_cons_zero, e2, List.append_assoc]
 rfl
theorem mixD_next {T : Int} {ds : List Dc} {k : Nat} {d : Dc} (h : ds[k]? = some d) (hs : stays T d = true) : mixD T ds (k + 1) = mixD T ds k := by
 rw [← mixD_set h]
 refine list_set_same ?_
 rw [mixD_at h]
 unfold tickD
 rw [if_pos hs]
theorem tickO_stay {T : Int} {ds : List Dc} {k : Nat} {d : Dc} (h : ds[k]? = some d) (hs : stays T d = true) : tickO T (ds.take (k + 1)) = tickO T (ds.take k) := by
 rw [List.take_add_one, h]
 simp [tickO, hs]
theorem tickO_out {T : Int} {ds : List Dc} {k : Nat} {d : Dc} (h : ds[k]? = some d) (hs : stays T d = false) : tickO T (ds.take (k + 1)) = tickO T (ds.take k) ++ [⟨3, d.owner, d.name, (d.revs.length : Int) - 1⟩] := by
 rw [List.take_add_one, h]
 simp [tickO, hs]
theorem flat_out {os : List Rpt} {i : Nat} {o : Rpt} (h : os[i]? = some o) {j : Nat} (hj : j < 4) : (os.flatMap outL)[i * 4 + j]? = (outL o)[j]? := by
 induction os generalizing i with
 | nil => simp at h
 | cons x os ih =>
  rw [List.flatMap_cons]
  cases i with
  | zero =>
   obtain rfl := Option.some.inj h
   rw [List.getElem?_append_left (by simp [outL]; omega), Nat.zero_mul, Nat.zero_add]
  | succ i =>
   rw [List.getElem?_append_right (by simp [outL]; omega), show (i + 1) * 4 + j - (outL x).length = i * 4 + j by simp [outL]; omega]
   exact ih (by simpa using h)
theorem Outs.of_row {w : World} {B : Nat} {v : Value} {os : List Rpt} (h : RowX w B 88 4 v os.length (os.flatMap outL)) : Outs w v os := by
 rcases id h with ⟨rfl, h2, -⟩ | ⟨g, cap, cur, rfl, -, -, h4, h5, -⟩
 ·obtain rfl := List.length_eq_zero_iff.1 h2
  exact Outs.nil w
 ·refine ⟨_, cap, rfl, h4, h5, fun i x hi => ⟨g, 0, rfl, fun j u hj => ?_⟩⟩
  have hj4 : j < 4 := by have := (List.getElem?_eq_some_iff.1 hj).1; simpa [outL] using this
  rw [Nat.zero_add]
  exact h.cell (by rw [flat_out hi hj4]; exact hj)
theorem DX.on {w w' : World} {g cap m : Nat} {ds : List Dc} (h : DX w g cap m ds) (hg : w'.heap[g]? = w.heap[g]?) (ha : Ag (Lo m g) w w') (hm : m ≤ w'.heap.size) : DX w' g cap m ds := by
 obtain ⟨ts, h1, h2, h3⟩ := h.r
 exact ⟨hm, ts, h1, h2.blk hg, fun i d t hi ht => (h3 i d t hi ht).on ha⟩
set_option maxRecDepth 100000 in
set_option maxHeartbeats 16000000 in
theorem tick_any (ds : List Dc) (B g cap m N : Nat) (now n : Int) (w : World) (hN : ds.length = N) (hB : B ≤ g) (h : DX w g cap m ds) (hd : ∀ d ∈ ds, ownOK d ∧ 1 ≤ d.revs.length ∧ d.revs.length ≤ 64) (h0 : 0 ≤ now ∧ now ≤ 1099511627776) (h1 : 0 ≤ n ∧ n ≤ 1000) (hl : N ≤ 1000) :
  Calls Tryz.prog 103 #[.agg #[.int .i64 now, .slice (some ⟨g, 0, none⟩) N cap], .int .i64 n] w fun e w' => ∃ code now' v ov ds' os, e = .returned (.tuple #[.agg #[.int .i64 now', v], ov, .int .i64 code]) ∧ TickR now n ds code now' ds' os ∧ Dcs w' v ds' ∧ Outs w' ov os ∧ (∀ b, b < w.heap.size → b ≠ g → w'.heap[b]? = w.heap[b]?) ∧ Below B w w' := by
 have HOK := Lib.hid hd
 have HN := Lib.hid hN
 have HNB := Lib.hid hl
 obtain ⟨T, hT⟩ : ∃ T, now + n = T := ⟨_, rfl⟩
 have hT3 : T ≤ 9223372036854775807 := by omega
 have hT4 : -9223372036854775808 ≤ T := by omega
 have HT := Lib.hid hT
 have HGL := Lib.hid (show g < w.heap.size ∧ m ≤ w.heap.size ∧ B ≤ w.heap.size from ⟨h.lt.1, h.m0, by have := h.lt.1; omega⟩)
 have HDX := Lib.hid h
 have HBG := Lib.hid hB
 clear h hd hN h0 h1 hl hB
 go_enter Tryz.func103, Tryz.ntmps103
 go_upto_region 1 with fail
 obtain ⟨w1, hw1⟩ : ∃ y, y = (w.alloc (.cells #[.int .i64 now, .slice (some ⟨g, 0, none⟩) N cap] 55)).alloc (.cells #[.int .i64 0, .slice none 0 0] 55) := ⟨_, rfl⟩
 obtain ⟨b1, hb1⟩ : ∃ y, y = w.heap.size := ⟨_, rfl⟩
 obtain ⟨b2, hb2⟩ : ∃ y, y = w.heap.size + 1 := ⟨_, rfl⟩
 have hb : Below w.heap.size w w1 := by rw [hw1]; exact ((Below.refl _ _).alloc (Nat.le_refl _) _).alloc (by simp [go_sem]) _
 have hs1 : SB w1 b1 now (some ⟨g, 0, none⟩) N cap := by
  rw [hw1, hb1]
  unfold SB
  have h1 := (MapKept.heap_alloc w (.cells #[.int .i64 now, .slice (some ⟨g, 0, none⟩) N cap] 55)).1
  rw [← h1]
  exact (below_box _ _).block _ (by simp [go_sem])
 have hs2 : SB w1 b2 0 none 0 0 := by
  rw [hw1, hb2]
  unfold SB
  have := (MapKept.heap_alloc (w.alloc (.cells #[.int .i64 now, .slice (some ⟨g, 0, none⟩) N cap] 55)) (.cells #[.int .i64 0, .slice none 0 0] 55)).1
  simpa using this
 have HNE := Lib.hid (show b1 ≠ b2 ∧ b1 ≠ g ∧ b2 ≠ g ∧ w.heap.size ≤ b1 ∧ w.heap.size ≤ b2 from ⟨by omega, by have := HGL.out; omega, by have := HGL.out; omega, by omega, by omega⟩)
 rw [← hw1, ← hb2, ← hb1]
 have HS1 := Lib.hid hs1
 have HS2 := Lib.hid hs2
 replace HDX := Lib.hid (HDX.out.below hb)
 have HF := Lib.hid (show (∀ b, b < w.heap.size → b ≠ g → w1.heap[b]? = w.heap[b]?) ∧ Below B w w1 from ⟨fun b h1 _ => hb.block b h1, hb.mono HGL.out.2.2⟩)
 clear hw1 hb1 hb2 hb hs1 hs2
 have k0 := HS1.out.c0
 by_cases hr : 1099511627776 < T
 ·have HR := Lib.hid hr
  have e0 := HS2.out.c0
  have e1 := HS2.out.c1
  have f0 := HS2.out.f 0
  have f1 := HS2.out.f 1
  go_wp2_with fail
  have hput := HS2.out.put 0 none 0 0
  have z0 := hput.c0
  have z1 := hput.c1
  have hoth : ∀ x, x ≠ b2 → ((w1.setCell ⟨b2, 0, none⟩ (.int .i64 0)).setCell ⟨b2, 1, none⟩ (.slice none 0 0)).heap[x]? = w1.heap[x]? := fun x hx => (setCells_other b2 x hx [_] 1 _).trans (setCells_other b2 x hx [_] 0 w1)
  have hsz := below_setCells b2 (show B ≤ b2 by have := HNE.out; have := HGL.out; omega) [.slice none 0 0] 1 _ (below_setCells b2 (show B ≤ b2 by have := HNE.out; have := HGL.out; omega) [.int .i64 0] 0 _ HF.out.2)
  simp only [World.setCells] at hsz
  obtain ⟨wf, hwf⟩ : ∃ x, x = (w1.setCell ⟨b2, 0, none⟩ (.int .i64 0)).setCell ⟨b2, 1, none⟩ (.slice none 0 0) := ⟨_, rfl⟩
  rw [← hwf] at z0 z1 hoth hsz ⊢
  clear hwf hput
  exact bodyPost_ret (v := .tuple #[.agg #[.int .i64 0, .slice none 0 0], .slice none 0 0, .int .i64 2]) (by simp [results, Tryz.results103, go_sem, z0, z1]) rfl ⟨2, 0, _, _, [], [], rfl, .inl ⟨by rw [HT.out]; exact HR.out, rfl, rfl, rfl, rfl⟩, Dcs.nil _, Outs.nil _, fun b h1 h2 => (hoth b (by have := HNE.out; omega)).trans (HF.out.1 b h1 h2), hsz⟩
 have HR := Lib.hid hr
 have k1 := HS1.out.f 0
 go_upto_region 4 with fail
 have hs1 := HS1.out.put0 T
 have hoth : ∀ x, x ≠ b1 → (w1.setCell ⟨b1, 0, none⟩ (.int .i64 T)).heap[x]? = w1.heap[x]? := fun x hx => setCells_other b1 x hx [_] 0 w1
 replace HS2 := Lib.hid (HS2.out.same (hoth b2 (Ne.symm HNE.out.1)))
 replace HDX := Lib.hid (HDX.out.far (by have := HNE.out; have := HGL.out; omega) (Ne.symm HNE.out.2.1) 0 (.int .i64 T))
 replace HF := Lib.hid (show (∀ b, b < w.heap.size → b ≠ g → (w1.setCell ⟨b1, 0, none⟩ (.int .i64 T)).heap[b]? = w.heap[b]?) ∧ Below B w (w1.setCell ⟨b1, 0, none⟩ (.int .i64 T)) from ⟨fun b h1 h2 => (hoth b (by have := HNE.out; omega)).trans (HF.out.1 b h1 h2), by have := below_setCells b1 (show B ≤ b1 by have := HNE.out; have := HGL.out; omega) [.int .i64 T] 0 _ HF.out.2; simpa only [World.setCells] using this⟩)
 obtain ⟨w2, hw2⟩ : ∃ x, x = w1.setCell ⟨b1, 0, none⟩ (.int .i64 T) := ⟨_, rfl⟩
 rw [← hw2] at hs1 HS2 HDX HF ⊢
 replace HS1 := Lib.hid (show SB w2 b1 T (some ⟨g, 0, none⟩) N cap from hs1)
 clear hw2 hs1 hoth k0 k1 hr
 have k1 := HS1.out.c1
 go_upto_region 6 with fail
 clear k1
 go_loopw [7, 24] (fun ov i wr => ∃ k : Nat, k ≤ N ∧ i = .int .i64 (k : Int) ∧ SB wr b1 T (some ⟨g, 0, none⟩) N cap ∧ SB wr b2 0 none 0 0 ∧ DX wr g cap m (mixD T ds k) ∧ RowX wr w.heap.size 88 4 ov (tickO T (ds.take k)).length ((tickO T (ds.take k)).flatMap outL) ∧ (∀ b, b < w.heap.size → b ≠ g → wr.heap[b]? = w.heap[b]?) ∧ Below B w wr) (fun _ i _ => N - (intOf i).toNat)
 case atStart => exact ⟨0, Nat.zero_le _, rfl, HS1.out, HS2.out, by rw [mixD_zero]; exact HDX.out, .inl ⟨rfl, rfl, rfl⟩, HF.out.1, HF.out.2⟩
 case round =>
  clear HS1 HS2 HDX HF
  obtain ⟨k, hk, rfl, hs1, hs2, hdx, hox, hf1, hf2⟩ := hrel
  have HS1 := Lib.hid hs1
  have HS2 := Lib.hid hs2
  have HDX := Lib.hid hdx
  have HOX := Lib.hid hox
  have HF := Lib.hid (And.intro hf1 hf2)
  have HK := Lib.hid hk
  clear hs1 hs2 hdx hox hf1 hf2 hk
  by_cases hlt : k < N
  ·obtain ⟨d, hd⟩ : ∃ d, ds[k]? = some d := ⟨_, List.getElem?_eq_getElem (by have := HN.out; omega)⟩
   have hlt' : (k : Int) < (N : Int) := by omega
   have HD := Lib.hid hd
   have hmx := mixD_at (T := T) hd
   obtain ⟨rv, hcd, hrs⟩ := HDX.out.doc hmx
   have HMX := Lib.hid hmx
   have HOD := Lib.hid (HOK.out d (List.mem_of_getElem? hd))
   have HLT := Lib.hid hlt
   have HCD := Lib.hid hcd
   obtain ⟨ra, rc, hrv, hl1, hl2, -⟩ := hrs.get
   obtain ⟨rn, hrn⟩ : ∃ n, n = d.revs.length := ⟨_, rfl⟩
   rw [← hrn] at hrv hl1
   subst hrv
   have HRN := Lib.hid hrn
   clear hd hmx hcd hrs hl1 hl2 hrn hlt
   have hq0 : ¬ ((k : Int) < 0) := by omega
   have k1 := HS1.out.c1
   go_upto_region 9 with fail
   have d1 : wr.cell? ⟨g, k * 4 + 1, none⟩ = some (.string d.owner) := HCD.out 1 _ rfl
   have d2 : wr.cell? ⟨g, k * 4 + 2, none⟩ = some (.int .i64 d.till) := HCD.out 2 _ rfl
   have k0 := HS1.out.c0
   have hw9 : (k : Int) + 1 ≤ 9223372036854775807 := by have := HNB.out; omega
   have HW9 := Lib.hid hw9
   clear hw9
   by_cases he : d.owner = ⟨#[]⟩
   ·have HST := Lib.hid (show stays T d = true by unfold stays; rw [decide_eq_true he]; rfl)
    rw [he] at d1
    clear he d2
    go_quiet (fail)
    clear d1 k0 k1
    have hw9 := HW9.out
    go_wp2_with fail
    go_roundw
    case rel => exact ⟨k + 1, by have := HLT.out; omega, by simp, HS1.out, HS2.out, by rw [mixD_next HD.out HST.out]; exact HDX.out.below (below_drewN (Below.refl _ _) nq), by rw [tickO_stay HD.out HST.out]; exact HOX.out, HF.out.1, below_drewN HF.out.2 nq⟩
    case measure =>
     have := HLT.out
     simp [intOf]
     omega
   ·have hem : d.owner.toList.isEmpty = false := ((HOD.out.1).resolve_left he).isEmpty
    by_cases htl : T < d.till
    ·have HST := Lib.hid (show stays T d = true by unfold stays; rw [decide_eq_true htl, Bool.or_true])
     clear he
     go_quiet (fail)
     clear d1 d2 k0 k1 hem htl
     have hw9 := HW9.out
     go_wp2_with fail
     go_roundw
     case rel => exact ⟨k + 1, by have := HLT.out; omega, by simp, HS1.out, HS2.out, by rw [mixD_next HD.out HST.out]; exact HDX.out.below (below_drewN (Below.refl _ _) nq), by rw [tickO_stay HD.out HST.out]; exact HOX.out, HF.out.1, below_drewN HF.out.2 nq⟩
     case measure =>
      have := HLT.out
      simp [intOf]
      omega
    ·have HTL := Lib.hid (show (tickO T (ds.take k)).length ≤ 1000 by
      have h1 : (tickO T (ds.take k)).length ≤ (ds.take k).length := List.length_filterMap_le _ _
      rw [List.length_take] at h1
      have := HK.out; have := HNB.out
      omega)
     have HST := Lib.hid (show stays T d = false by unfold stays; rw [decide_eq_false he, decide_eq_false htl]; rfl)
     clear he
     go_quiet (fail)
     clear d1 d2 k0 k1 hem htl
     obtain ⟨w3, hw3⟩ : ∃ x, x = wr.drewN nq := ⟨_, rfl⟩
     have hb : Below wr.heap.size wr w3 := by rw [hw3]; exact below_drewN (Below.refl _ _) nq
     rw [← hw3]
     replace HS1 := Lib.hid (HS1.out.below hb)
     replace HS2 := Lib.hid (HS2.out.below hb)
     replace HDX := Lib.hid (HDX.out.below hb)
     replace HCD := Lib.hid (rangeAt_below HCD.out (by simp [docL]) hb)
     replace HOX := Lib.hid (HOX.out.below hb)
     replace HF := Lib.hid (show (∀ b, b < w.heap.size → b ≠ g → w3.heap[b]? = w.heap[b]?) ∧ Below B w w3 from ⟨fun b h1 h2 => by rw [hw3]; exact HF.out.1 b h1 h2, by rw [hw3]; exact below_drewN HF.out.2 nq⟩)
     clear hb hw3
     go_upto_region 10 with fail
     obtain ⟨O, hO⟩ : ∃ O : Rpt, O = ⟨3, d.owner, d.name, (rn : Int) - 1⟩ := ⟨_, rfl⟩
     have hOL : (outL O).toArray = #[.int .i64 3, .string d.owner, .string d.name, .int .i64 ((rn : Int) - 1)] := by rw [hO]; rfl
     have HO := Lib.hid hO
     have HOL := Lib.hid hOL
     have HRB := Lib.hid (show (rn : Int) ≤ 9223372036854775807 by have := HOD.out.2.2; have := HRN.out; omega)
     clear hO hOL
     have HCD2 := Lib.hid (rangeAt_below HCD.out (by simp [docL]) (Below.refl _ _).drew)
     refine Plan.wp_region_plan (fun w' => w'.rangeAt g (k * 4) (docL d (.slice ra rn rc))) (([0, 1, 2, 3, 4, 5, 6, 7, 8, 9, 10, 11, 12, 13, 14, 15].map (·, true)) ++ (([16, 17].map (·, false)) ++ ([18].map (·, true)))) (by kernel_rfl) (by kernel_rfl) (by kernel_rfl) HCD2.out ?_
     refine' Plan.plan_seg _ [0, 1, 2, 3, 4, 5, 6, 7, 8, 9, 10, 11, 12, 13, 14, 15] (([16, 17].map (·, false)) ++ ([18].map (·, true))) (by kernel_rfl) (by kernel_rfl) rfl (by exact HCD2.out) (fun wx hS => ?_) ?_
     rotate_left
     ·have d0 : wx.cell? ⟨g, k * 4 + 0, none⟩ = some (.string d.name) := hS 0 _ rfl
      have d1 : wx.cell? ⟨g, k * 4 + 1, none⟩ = some (.string d.owner) := hS 1 _ rfl
      have d3 : wx.cell? ⟨g, k * 4 + 3, none⟩ = some (.slice ra rn rc) := hS 3 _ rfl
      rw [Nat.add_zero] at d0
      have i2 := HRB.out
      clear hS
      go_light
      iterate 16 (apply Plan.seg_pick; rfl; intro K hK; go_wp)
      exact Plan.seg_nil
     have hb : Below w3.heap.size w3 w3.drew := (Below.refl _ _).drew
     obtain ⟨w4, hw4⟩ : ∃ x, x = w3.drew := ⟨_, rfl⟩
     rw [← hw4] at hb ⊢
     replace HS1 := Lib.hid (HS1.out.below hb)
     replace HS2 := Lib.hid (HS2.out.below hb)
     replace HDX := Lib.hid (HDX.out.below hb)
     replace HCD := Lib.hid (rangeAt_below HCD.out (by simp [docL]) hb)
     replace HOX := Lib.hid (HOX.out.below hb)
     replace HF := Lib.hid (show (∀ b, b < w.heap.size → b ≠ g → w4.heap[b]? = w.heap[b]?) ∧ Below B w w4 from ⟨fun b h1 h2 => by rw [hw4]; exact HF.out.1 b h1 h2, by rw [hw4]; exact HF.out.2.drew⟩)
     have HSZ := Lib.hid (show w.heap.size ≤ w4.heap.size from HF.out.2.size)
     clear hb hw4 HCD2
     refine Plan.plan_of_effect rfl (fun K hK => ?_)
     refine Great.wpList_buildSliceTo rfl 60 88 1 #[(0, .tmp 60)] rfl w4.heap.size rfl (some 61) rfl Tryz.underlying60 (outL O).toArray ?_ ?_
     ·simp only [List.map_toArray, List.map_cons, List.map_nil, List.toList_toArray]
      have := built_out O
      rw [HOL.out] at this ⊢
      exact this
     obtain ⟨w5, hw5⟩ : ∃ y, y = w4.alloc (.cells (outL O).toArray 88) := ⟨_, rfl⟩
     have hb : Below w4.heap.size w4 w5 := by rw [hw5]; exact below_box _ _
     obtain ⟨bo, hbo⟩ : ∃ y, y = w4.heap.size := ⟨_, rfl⟩
     have HOC := Lib.hid (show w5.rangeAt bo 0 (outL O) by
      rw [hw5, hbo]
      intro j v hj
      unfold World.cell?
      rw [(MapKept.heap_alloc w4 _).1]
      simpa using hj)
     rw [← hw5, ← hbo]
     replace HS1 := Lib.hid (HS1.out.below hb)
     replace HS2 := Lib.hid (HS2.out.below hb)
     replace HDX := Lib.hid (HDX.out.below hb)
     replace HCD := Lib.hid (rangeAt_below HCD.out (by simp [docL]) hb)
     replace HOX := Lib.hid (HOX.out.below hb)
     replace HF := Lib.hid (show (∀ b, b < w.heap.size → b ≠ g → w5.heap[b]? = w.heap[b]?) ∧ Below B w w5 from ⟨fun b h1 h2 => (hb.block b (by have := HSZ.out; omega)).trans (HF.out.1 b h1 h2), HF.out.2.trans (hb.mono (by have := HSZ.out; have := HGL.out; omega))⟩)
     replace HSZ := Lib.hid (show w.heap.size ≤ w5.heap.size from HF.out.2.size)
     clear hb hw5 hbo
     simp only [Act.put, List.setIfInBounds_toArray, List.set_cons_succ, List.set_cons_zero]
     refine wpList_nil ?_
     refine hK _ _ ⟨HCD.out, ?_⟩
     refine Plan.plan_of_effect rfl (fun K hK => ?_)
     obtain ⟨v6, w6, hrun, r1, r2, r3, r4, r5⟩ := append_x w5 w.heap.size 60 88 4 48 z88 Tryz.underlying60 info88 zeros88 u7 _ _ HOX.out HSZ.out ⟨bo, 0, none⟩ 1 1 (outL O) rfl (fun j u hj => by rw [Addr.add_mid, Nat.zero_add]; have := HOC.out j u hj; rwa [Nat.zero_add] at this) outL_one (by omega) (by unfold maxLen; have := HTL.out; omega) (fun cap h1 h2 => growslice_fits h2 (by have := HTL.out; omega))
     refine Lib.wpList_append_run (P := Tryz.prog) w5 rfl (.tmp 45) (.tmp 61) 60 60 rfl u7 (.slice (some ⟨bo, 0, none⟩) 1 1) rfl rfl _ _ hrun ?_
     have hkeep : ∀ (x : Nat) (c : Array Value) (E : TypeId) (f : Nat × Nat), w5.heap[x]? = some (.cells c E f) → E ≠ 88 → w6.heap[x]? = w5.heap[x]? := by
      intro x c E f hx hE
      refine r4 x (Array.getElem?_eq_some_iff.1 hx).1 (fun g cap hg => ?_)
      rintro rfl
      rcases HOX.out with ⟨e1, _⟩ | ⟨g', cap', cur, e1, _, hg', _⟩
      ·rw [hg] at e1; simp at e1
      ·rw [hg] at e1
       simp only [Value.slice.injEq, Option.some.injEq, Addr.mk.injEq, and_true, true_and] at e1
       obtain ⟨rfl, -⟩ := e1
       rw [hx] at hg'
       cases hg'
       exact hE rfl
     replace HS1 := Lib.hid (HS1.out.same (hkeep b1 _ _ _ HS1.out (by decide)))
     replace HS2 := Lib.hid (HS2.out.same (hkeep b2 _ _ _ HS2.out (by decide)))
     replace HCD := Lib.hid (rangeAt_ag HCD.out (r2.block g HGL.out.1))
     replace HDX := Lib.hid (HDX.out.on (r2.block g HGL.out.1) (fun b hb => r2.block b (by have := hb.1; have := HGL.out; omega)) (by have := r2.size; have := HSZ.out; have := HGL.out; omega))
     replace HOX := Lib.hid r1
     replace HF := Lib.hid (show (∀ b, b < w.heap.size → b ≠ g → w6.heap[b]? = w.heap[b]?) ∧ Below B w w6 from ⟨fun b h1 h2 => (r2.block b h1).trans (HF.out.1 b h1 h2), HF.out.2.trans (r2.mono HGL.out.2.2)⟩)
     clear hkeep r1 r2 r3 r4 r5 hrun HSZ HOC
     simp only [Act.put, List.setIfInBounds_toArray, List.set_cons_succ, List.set_cons_zero]
     refine wpList_nil ?_
     refine hK _ _ ⟨HCD.out, ?_⟩
     refine' Plan.plan_seg _ [18] [] (by kernel_rfl) (by kernel_rfl) rfl (by exact HCD.out) (fun wx hS => ?_) ?_
     rotate_left
     ·clear hS
      go_light
      iterate 1 (apply Plan.seg_pick; rfl; intro K hK; go_wp)
      exact Plan.seg_nil
     refine Plan.plan_done ?_
     have d1 : w6.cell? ⟨g, k * 4 + 1, none⟩ = some (.string d.owner) := HCD.out 1 _ rfl
     have d2 : w6.cell? ⟨g, k * 4 + 2, none⟩ = some (.int .i64 d.till) := HCD.out 2 _ rfl
     have f1 := HDX.out.frozen (k * 4 + 1)
     have f2 := HDX.out.frozen (k * 4 + 2)
     have hw9 := HW9.out
     go_wp2_with fail
     have hoth : ∀ x, x ≠ g → ((w6.setCell ⟨g, k * 4 + 1, none⟩ (.string ⟨#[]⟩)).setCell ⟨g, k * 4 + 2, none⟩ (.int .i64 0)).heap[x]? = w6.heap[x]? := fun x hx => (setCells_other g x hx [_] (k * 4 + 2) _).trans (setCells_other g x hx [_] (k * 4 + 1) w6)
     have h1 := HDX.out.set (j := 1) (d' := { d with owner := ⟨#[]⟩ }) (u := .string ⟨#[]⟩) HMX.out (by decide) rfl (fun t => rfl)
     have hi2 : ((mixD T ds k).set k { d with owner := ⟨#[]⟩ })[k]? = some { d with owner := ⟨#[]⟩ } := by rw [List.getElem?_set_self (List.getElem?_eq_some_iff.1 HMX.out).1]
     have h2 := h1.set (j := 2) (d' := { d with owner := ⟨#[]⟩, till := 0 }) (u := .int .i64 0) hi2 (by decide) rfl (fun t => rfl)
     rw [List.set_set, show ({ d with owner := ⟨#[]⟩, till := 0 } : Dc) = tickD T d by unfold tickD; rw [if_neg (by rw [HST.out]; decide)], mixD_set HD.out] at h2
     have hox : RowX w6 w.heap.size 88 4 v6 (tickO T (ds.take (k + 1))).length ((tickO T (ds.take (k + 1))).flatMap outL) := by
      have := HOX.out
      rw [HO.out, HRN.out] at this
      rw [tickO_out HD.out HST.out, List.flatMap_append, List.length_append]
      simpa using this
     have hox2 : RowX ((w6.setCell ⟨g, k * 4 + 1, none⟩ (.string ⟨#[]⟩)).setCell ⟨g, k * 4 + 2, none⟩ (.int .i64 0)) w.heap.size 88 4 v6 (tickO T (ds.take (k + 1))).length ((tickO T (ds.take (k + 1))).flatMap outL) := by
      rcases hox with h | ⟨g', cap', cur, e1, e2, e3, e4⟩
      ·exact .inl h
      ·exact .inr ⟨g', cap', cur, e1, e2, (hoth g' (by have := HGL.out; omega)).trans e3, e4⟩
     have hbf := below_setCells g HBG.out [.int .i64 0] (k * 4 + 2) _ (below_setCells g HBG.out [.string ⟨#[]⟩] (k * 4 + 1) _ HF.out.2)
     simp only [World.setCells] at hbf
     refine ⟨⟨k + 1, by have := HLT.out; omega, by simp, HS1.out.same (hoth b1 HNE.out.2.1), HS2.out.same (hoth b2 HNE.out.2.2.1), h2, hox2, fun b h1 h2 => (hoth b h2).trans (HF.out.1 b h1 h2), hbf⟩, by have := HLT.out; simp [intOf]; omega⟩
  ·have hkn : k = N := by have := HK.out; omega
   subst hkn
   have k0 := HS1.out.c0
   have k1 := HS1.out.c1
   have e0 := HS2.out.c0
   have e1 := HS2.out.c1
   have f0 := HS2.out.f 0
   have f1 := HS2.out.f 1
   have hdc := HDX.out.dcs
   rw [mixD_len, HN.out] at hdc
   have hou := Outs.of_row HOX.out
   rw [List.take_of_length_le (by rw [HN.out]; exact Nat.le_refl _)] at hou
   have HDC := Lib.hid hdc
   have HOU := Lib.hid hou
   obtain ⟨oa, oc, hov, -⟩ := hou
   obtain ⟨on', hon⟩ : ∃ n, n = (tickO T ds).length := ⟨_, rfl⟩
   rw [← hon] at hov
   subst hov
   clear hdc hon HOX
   go_wp2_with fail
   have hput := HS2.out.put T (some ⟨g, 0, none⟩) k cap
   have z0 := hput.c0
   have z1 := hput.c1
   have hoth : ∀ x, x ≠ b2 → ((wr.setCell ⟨b2, 0, none⟩ (.int .i64 T)).setCell ⟨b2, 1, none⟩ (.slice (some ⟨g, 0, none⟩) k cap)).heap[x]? = wr.heap[x]? := fun x hx => (setCells_other b2 x hx [_] 1 _).trans (setCells_other b2 x hx [_] 0 wr)
   have hB2 : B ≤ b2 := by have := HNE.out; have := HGL.out; omega
   have hbf := below_setCells b2 hB2 [.slice (some ⟨g, 0, none⟩) k cap] 1 _ (below_setCells b2 hB2 [.int .i64 T] 0 _ HF.out.2)
   simp only [World.setCells] at hbf
   have hdc := HDC.out.skipS HS2.out.noStr hoth
   have hou := HOU.out.skipS HS2.out.noStr hoth
   have hmx : mixD T ds k = ds.map (tickD T) := by rw [← HN.out]; exact mixD_all T ds
   rw [hmx] at hdc
   obtain ⟨wf, hwf⟩ : ∃ x, x = (wr.setCell ⟨b2, 0, none⟩ (.int .i64 T)).setCell ⟨b2, 1, none⟩ (.slice (some ⟨g, 0, none⟩) k cap) := ⟨_, rfl⟩
   rw [← hwf] at z0 z1 hoth hbf hdc hou ⊢
   clear hwf hput
   exact bodyPost_ret (v := .tuple #[.agg #[.int .i64 T, .slice (some ⟨g, 0, none⟩) k cap], .slice oa on' oc, .int .i64 0]) (by simp [results, Tryz.results103, go_sem, z0, z1]) rfl ⟨0, T, _, _, ds.map (tickD T), tickO T ds, rfl, .inr ⟨by rw [HT.out]; have := HR.out; omega, rfl, HT.out.symm, by rw [HT.out], by rw [HT.out]⟩, hdc, hou, fun b h1 h2 => (hoth b (by have := HNE.out; omega)).trans (HF.out.1 b h1 h2), hbf⟩
set_option maxRecDepth 100000 in
set_option maxHeartbeats 8000000 in
theorem fields_ticks (n : Int) (w : World) (n0 : 1 ≤ n) (n1 : n ≤ 1000) : Calls Tryz.prog 101 #[.agg #[.int .i64 7, .string ⟨#[]⟩, .string ⟨#[]⟩, .int .i64 0, .int .i64 n, .slice none 0 0]] w fun e w' => e = .returned (.bool true) ∧ w' = w.alloc (.cells #[.int .i64 7, .string ⟨#[]⟩, .string ⟨#[]⟩, .int .i64 0, .int .i64 n, .slice none 0 0] 59) := by
 go_enter Tryz.func101, Tryz.ntmps101
 go_wp2_with fail
 go_ret
 exact ⟨ret_bool (by simp [n0, n1]), rfl⟩
set_option maxRecDepth 100000 in
set_option maxHeartbeats 8000000 in
theorem convert_ticks (n : Int) (w : World) (n0 : 1 ≤ n) (n1 : n ≤ 1000) : Calls Tryz.prog 62 #[.agg #[.int .i64 7, .string ⟨#[]⟩, .string ⟨#[]⟩, .int .i64 0, .int .i64 n, .slice none 0 0]] w fun e w' => e = .returned (.tuple #[.iface 154 (.agg #[.int .i64 n]), .bool true]) ∧ Below w.heap.size w w' := by
 go_enter Tryz.func62, Tryz.ntmps62
 go_wp2_with fail
 refine (fields_ticks n _ n0 n1).mono ?_
 rintro e w1 ⟨rfl, rfl⟩
 go_wp2_with fail
 go_ret2
 exact ⟨rfl, by go_grown⟩
theorem DocOK.tick {L now n : Int} {d : Dc} (h : DocOK L now d) (n0 : 0 ≤ n) : DocOK L (now + n) (tickD (now + n) d) := by
 unfold tickD
 split
 ·rename_i hs
  refine ⟨h.n, h.l0, h.l1, ?_, h.r⟩
  rcases h.f with ⟨h1, h2⟩ | ⟨h1, h2, h3⟩
  ·exact .inl ⟨h1, h2⟩
  ·refine .inr ⟨h1, ?_, by omega⟩
   unfold stays at hs
   simp only [Bool.or_eq_true, decide_eq_true_eq] at hs
   rcases hs with h | h
   ·exact absurd (by rw [h]; rfl) h1.size
   ·exact h
 ·exact ⟨h.n, h.l0, h.l1, .inl ⟨rfl, rfl⟩, h.r⟩
set_option maxRecDepth 100000 in
set_option maxHeartbeats 16000000 in
theorem step_ticks (ds : List Dc) (v : Value) (now n : Int) (w : World) (h : Dcs w v ds) (h0 : ds ≠ []) (h1 : ds.length ≤ 16) (hd : ∀ d ∈ ds, ownOK d ∧ 1 ≤ d.revs.length ∧ d.revs.length ≤ 64) (hn : 0 ≤ now ∧ now ≤ 1099511627776) (hk : 0 ≤ n ∧ n ≤ 1000) :
  Calls Tryz.prog 63 #[.agg #[.int .i64 now, v], .iface 154 (.agg #[.int .i64 n])] w (StepPost w (TickR now n ds)) := by
 have OD := Lib.hid (fun w2 (hb : Below w.heap.size w w2) => owndocs_any v ds w w2 h hb h0 (by omega))
 have TK := Lib.hid (fun (B g cap m N : Nat) (w : World) (hN : ds.length = N) (hB : B ≤ g) (h : DX w g cap m ds) => tick_any ds B g cap m N now n w hN hB h hd hn hk (by omega))
 obtain ⟨va, vc, hv, -⟩ := h
 obtain ⟨N, hN⟩ : ∃ N, N = ds.length := ⟨_, rfl⟩
 rw [← hN] at hv OD
 have HN := Lib.hid hN
 subst hv
 clear hd h0 h1 hN hn hk
 have m154 := ta_hit154
 go_enter Tryz.func63, Tryz.ntmps63
 go_upto_region 1 with fail
 obtain ⟨w1, hw1⟩ : ∃ y, y = (w.alloc (.cells #[.int .i64 now, .slice va N vc] 55)).alloc (.cells #[.int .i64 0, .slice none 0 0] 55) := ⟨_, rfl⟩
 obtain ⟨b1, hb1⟩ : ∃ y, y = w.heap.size := ⟨_, rfl⟩
 obtain ⟨b2, hb2⟩ : ∃ y, y = w.heap.size + 1 := ⟨_, rfl⟩
 have hb : Below w.heap.size w w1 := by rw [hw1]; exact ((Below.refl _ _).alloc (Nat.le_refl _) _).alloc (by simp [go_sem]) _
 have HCB := Lib.hid (show CB w1 b1 b2 now (.slice va N vc) by
  rw [hw1, hb1, hb2]
  refine ⟨by simp [go_sem], by simp [go_sem], by simp [go_sem], by simp [go_sem], by simp [go_sem], by simp [go_sem], by simp [go_sem], #[.int .i64 0, .slice none 0 0], rfl, ?_⟩
  have := (MapKept.heap_alloc (w.alloc (.cells #[.int .i64 now, .slice va N vc] 55)) (.cells #[.int .i64 0, .slice none 0 0] 55)).1
  simpa using this)
 have HNE := Lib.hid (show b1 ≠ b2 ∧ b1 < w1.heap.size ∧ b2 < w1.heap.size ∧ w.heap.size ≤ b1 ∧ w.heap.size ≤ b2 from ⟨by omega, block_lt_of_cell HCB.out.c0, block_lt_of_cell HCB.out.e0, by omega, by omega⟩)
 rw [← hw1, ← hb2, ← hb1]
 have HB := Lib.hid hb
 clear hw1 hb1 hb2 hb
 obtain ⟨k0, k1, k2, k3, k4, k5, k6, -⟩ := HCB.out
 go_wp2_with fail
 refine (OD.out w1 HB.out).mono ?_
 rintro e w2 ⟨g, cap, rfl, hg, hdx, hb⟩
 replace HCB := Lib.hid (HCB.out.below hb)
 clear k0 k1 k2 k3 k4 k5 k6
 obtain ⟨k0, k1, k2, k3, k4, k5, k6, -⟩ := HCB.out
 have HG := Lib.hid (show b1 ≠ g ∧ b2 ≠ g ∧ w.heap.size ≤ g from ⟨by have := HNE.out; omega, by have := HNE.out; omega, by have := HNE.out; omega⟩)
 replace HB := Lib.hid (HB.out.trans (hb.mono HB.out.size))
 have HDX := Lib.hid hdx
 clear hb hdx hg OD
 go_upto_region 2 with fail
 clear k0 k1 k2 k3 k4 k5 k6
 replace HDX := Lib.hid (HDX.out.far HNE.out.2.2.2.1 (Ne.symm HG.out.1) 1 (.slice (some ⟨g, 0, none⟩) N cap))
 replace HCB := Lib.hid (HCB.out.put HNE.out.1 (.slice (some ⟨g, 0, none⟩) N cap))
 replace HB := Lib.hid (below_setCells b1 HNE.out.2.2.2.1 [.slice (some ⟨g, 0, none⟩) N cap] 1 _ HB.out)
 simp only [World.setCells] at HB
 obtain ⟨w3, hw3⟩ : ∃ y, y = w2.setCell ⟨b1, 1, none⟩ (.slice (some ⟨g, 0, none⟩) N cap) := ⟨_, rfl⟩
 rw [← hw3] at HDX HCB HB ⊢
 clear hw3
 go_upto_region 4 with fail
 obtain ⟨w4, hw4⟩ : ∃ y, y = w3.alloc (.cells #[.int .i64 n] 154) := ⟨_, rfl⟩
 obtain ⟨b7, hb7⟩ : ∃ y, y = w3.heap.size := ⟨_, rfl⟩
 have hb : Below w3.heap.size w3 w4 := by rw [hw4]; exact below_box _ _
 have c7 : w4.cell? ⟨b7, 0, none⟩ = some (.int .i64 n) := by rw [hw4, hb7]; simp [go_sem]
 rw [← hw4, ← hb7]
 replace HDX := Lib.hid (HDX.out.below hb)
 replace HCB := Lib.hid (HCB.out.below hb)
 replace HB := Lib.hid (HB.out.trans (hb.mono HB.out.size))
 clear hb hw4 hb7 m154
 obtain ⟨k0, k1, k2, k3, k4, k5, k6, -⟩ := HCB.out
 go_wp2_with fail
 refine (TK.out w.heap.size g cap _ N _ HN.out.symm HG.out.2.2 HDX.out).mono ?_
 rintro e w5 ⟨code, now', v', ov, ds', os, rfl, hr, hdc, hou, hf, hbt⟩
 have HL1 := Lib.hid (And.intro (block_lt_of_cell HCB.out.c0) (block_lt_of_cell HCB.out.e0))
 replace HCB := Lib.hid (HCB.out.same (hf b1 HL1.out.1 HG.out.1) (hf b2 HL1.out.2 HG.out.2.1))
 replace HB := Lib.hid (HB.out.trans hbt)
 have HR := Lib.hid hr
 have HDC := Lib.hid hdc
 have HOU := Lib.hid hou
 obtain ⟨va', vc', hv', -⟩ := hdc
 obtain ⟨vn', hvn⟩ : ∃ n, n = ds'.length := ⟨_, rfl⟩
 rw [← hvn] at hv'
 subst hv'
 obtain ⟨oa, oc, hov, -⟩ := hou
 obtain ⟨on', hon⟩ : ∃ n, n = os.length := ⟨_, rfl⟩
 rw [← hon] at hov
 subst hov
 clear hr hf hbt TK hvn hon k0 k1 k2 k3 k4 k5 k6 c7
 obtain ⟨k0, k1, k2, k3, k4, k5, k6, -⟩ := HCB.out
 go_wp2_with fail
 obtain ⟨z0, z1, zd, zb, zo⟩ := cb_fin (u := .slice va' vn' vc') HCB.out HDC.out HB.out HNE.out.2.2.2.2 now'
 have hou := HOU.out.skip (w' := (w5.setCell ⟨b2, 0, none⟩ (.int .i64 now')).setCell ⟨b2, 1, none⟩ (.slice va' vn' vc')) HCB.out.s zo
 obtain ⟨wf, hwf⟩ : ∃ x, x = (w5.setCell ⟨b2, 0, none⟩ (.int .i64 now')).setCell ⟨b2, 1, none⟩ (.slice va' vn' vc') := ⟨_, rfl⟩
 rw [← hwf] at z0 z1 zd zb hou ⊢
 clear hwf zo
 exact bodyPost_ret (v := .tuple #[.agg #[.int .i64 now', .slice va' vn' vc'], .slice oa on' oc, .int .i64 code]) (by simp [results, Tryz.results63, go_sem, z0, z1]) rfl ⟨code, now', _, _, ds', os, rfl, HR.out, zd, hou, zb⟩
theorem TickR.fine {L now n : Int} {ds : List Dc} (hl : ds.length ≤ 16) (h0 : ds ≠ []) (hn : 0 ≤ n) (hd : ∀ d ∈ ds, DocOK L now d) : Fine (TickR now n ds) := by
 refine ⟨fun now' ds' os h => ?_, fun code now' ds' os h hz => ?_⟩
 ·rcases h with ⟨-, h, -⟩ | ⟨-, -, -, rfl, -⟩
  ·cases h
  ·refine ⟨by simpa using h0, by simp; omega, fun x hx => ?_⟩
   obtain ⟨d, hm, rfl⟩ := List.mem_map.1 hx
   have k := (hd d hm).tick hn
   exact ⟨k.l0, by have := k.l1; omega, fun r hr => by have := (k.rvs.v r hr).1.n; omega⟩
 ·rcases h with ⟨-, -, h1, h2, h3⟩ | ⟨-, h, -⟩
  ·exact ⟨h1, h2, h3⟩
  ·exact absurd h hz
theorem bigstep_ticks {L now n : Int} {v : Value} {d : Dc} {w : World} (h : Dcs w v [d]) (hd : DocOK L now d) (hL : L ≤ 140737488355328) (h0 : 0 ≤ now) (h1 : now ≤ 1099511627776) (n0 : 1 ≤ n) (n1 : n ≤ 1000) :
  Calls Tryz.prog 26 #[.agg #[.int .i64 now, v], .agg #[.int .i64 7, .string ⟨#[]⟩, .string ⟨#[]⟩, .int .i64 0, .int .i64 n, .slice none 0 0]] w (StepPost w (TickR now n [d])) :=
 bigstep_any now v d 7 ⟨#[]⟩ ⟨#[]⟩ 0 n none 0 0 154 (.agg #[.int .i64 n]) _ w h hd hL h0 h1
  (TickR.fine (L := L) (by simp) (by simp) (by omega) (fun x hx => by rw [List.mem_singleton.1 hx]; exact hd))
  (fun w1 hb => convert_ticks n w1 n0 n1)
  (fun w1 hb => step_ticks [d] v now n w1 (h.below hb) (by simp) (by simp) (fun x hx => by rw [List.mem_singleton.1 hx]; exact ⟨hd.own, hd.l0, hd.l1⟩) ⟨h0, h1⟩ ⟨by omega, n1⟩)
theorem nil_vtL {L : Int} : VT L [] := ⟨Trk.VL.nil, by decide, by decide⟩
theorem bigstep_ev {L : Int} (e : Ev) (tv : Value) (now : Int) (v : Value) (d : Dc) (w : World) (he : EvOK L e) (h1 : e.kind ≠ 1) (hd : DocOK L now d) (hL : L ≤ 140737488355328) (hn0 : 0 ≤ now) (hn1 : now ≤ 1099511627776) (ht : Tk w tv e.t) (hn : e.kind ≠ 1 → e.kind ≠ 4 → tv = .slice none 0 0) (hv : Dcs w v [d]) :
  Calls Tryz.prog 26 #[.agg #[.int .i64 now, v], .agg (evtL e tv).toArray] w (StepPost w (OneR now [d] e.kind e.user e.doc (ChR now e))) := by
 obtain ⟨k, u, nm, bs, tk, t⟩ := e
 obtain ⟨hk, hu, hdn, hvt, hb, htk, hn2⟩ := he
 dsimp only at hk hu hdn hvt hb htk hn2 ht h1 hn
 unfold evtL
 dsimp only
 rcases hk with rfl | rfl | rfl | rfl | rfl | rfl
 ·exact absurd rfl h1
 ·obtain rfl := hn (by decide) (by decide)
  obtain rfl := hb (by decide)
  exact bigstep_lock (L := L) tk hv hd hL hn0 hn1 hu hdn (hn2 rfl).1 (hn2 rfl).2
 ·obtain rfl := hn (by decide) (by decide)
  obtain rfl := hb (by decide)
  obtain rfl := htk (by decide)
  exact bigstep_unlock (L := L) hv hd hL hn0 hn1 hu hdn
 ·obtain ⟨ta, tc, rfl, -⟩ := id ht
  obtain rfl := htk (by decide)
  exact bigstep_commit (L := L) bs ta _ tc t ht hvt hv hd hL hn0 hn1 hu hdn
 ·obtain rfl := hn (by decide) (by decide)
  obtain rfl := hb (by decide)
  obtain rfl := htk (by decide)
  exact bigstep_undo (L := L) hv hd hL hn0 hn1 hu hdn
 ·obtain rfl := hn (by decide) (by decide)
  obtain rfl := hb (by decide)
  obtain rfl := htk (by decide)
  exact bigstep_redo (L := L) hv hd hL hn0 hn1 hu hdn
theorem held_all {now c : Int} {e : Ev} {d d' : Dc} (hk : e.kind ≠ 3) (hh : Held d e.user) (h : ChR now e d c d') : c = 11 := by
 unfold ChR at h
 split at h
 ·cases h with
  | locked _ => rfl
  | done hn => exact absurd hh hn
 ·split at h
  ·cases h with
   | locked _ => rfl
   | range hn => exact absurd hh hn
   | full hn => exact absurd hh hn
   | last hn => exact absurd hh hn
   | merge hn => exact absurd hh hn
   | fails hn => exact absurd hh hn
  ·split at h
   ·cases h with
    | locked _ => rfl
    | none hn => exact absurd hh hn
    | some hn => exact absurd hh hn
   ·cases h with
    | locked _ => rfl
    | none hn => exact absurd hh hn
    | hit hn => exact absurd hh hn
    | fails hn => exact absurd hh hn
    | done hn => exact absurd hh hn
def annD (n : Int) (t : List Trk.Clip) : Dc := ⟨docB, annB, n, [⟨1, annB, 0, false, Trk.nf t⟩]⟩
theorem ann_held (n : Int) (t : List Trk.Clip) : Held (annD n t) bobB := ⟨show annB ≠ ⟨#[]⟩ by decide, show annB ≠ bobB by decide⟩
theorem lock_run {t : List Trk.Clip} {n now : Int} {ds : List Dc} {cs : List Int} (h : RunR StpS [⟨1, annB, docB, 0, 0, t⟩, ⟨2, annB, docB, 0, n, []⟩] now ds cs) : now = 0 ∧ ds = [annD n t] := by
 obtain ⟨cs0, c, d', hr, rfl, rfl, rfl, hc⟩ := next_run (es := [⟨1, annB, docB, 0, 0, t⟩]) (show (2 : Int) ≠ 1 by decide) (d := madeD annB docB t) (fun now ds cs hr => ⟨(first_run (L := 0) rfl hr).1, (first_run (L := 0) rfl hr).2.2⟩) rfl h
 unfold ChR at hc
 rw [if_pos rfl] at hc
 cases hc with
 | locked hh => exact absurd rfl hh.1
 | done _ =>
  refine ⟨rfl, ?_⟩
  rw [if_pos rfl]
  unfold annD madeD
  dsimp only
  rw [Int.zero_add]
theorem lock_evs {t : List Trk.Clip} {n L : Int} (ht : VT L t) (n0 : 1 ≤ n) (n1 : n ≤ 1000) : EvsOK L [⟨1, annB, docB, 0, 0, t⟩, ⟨2, annB, docB, 0, n, []⟩] := by
 constructor
 ·intro i e hi
  match i, hi with
  | 0, hi => obtain rfl := Option.some.inj hi; exact ⟨.inl rfl, ann_ok, doc_ok, ht, fun _ => rfl, fun _ => rfl, fun h => absurd (show (1 : Int) = 2 from h) (by decide)⟩
  | 1, hi => obtain rfl := Option.some.inj hi; exact ⟨.inr (.inl rfl), ann_ok, doc_ok, nil_vtL, fun _ => rfl, fun h => absurd rfl h, fun _ => ⟨n0, n1⟩⟩
 ·intro i e hi
  match i, hi with
  | 0, hi => obtain rfl := Option.some.inj hi; exact ⟨fun _ => rfl, fun _ => rfl⟩
  | 1, hi => obtain rfl := Option.some.inj hi; exact ⟨fun h => absurd (show (2 : Int) = 1 from h) (by decide), fun h => absurd h (by decide)⟩
theorem lock_ran {t : List Trk.Clip} {L n : Int} {w w' : World} {e : Ending} (Vt : VT L t) (n0 : 1 ≤ n) (n1 : n ≤ 1000) (h : RunPost w StpS [⟨1, annB, docB, 0, 0, t⟩, ⟨2, annB, docB, 0, n, []⟩] e w') :
  ∃ sa cap ov ec, e = .returned (.tuple #[.agg #[.int .i64 0, .slice sa 1 cap], ov, ec]) ∧ DocOK L 0 (annD n t) ∧ Dcs w' (.slice sa 1 cap) [annD n t] ∧ Below w.heap.size w w' := by
 obtain ⟨now, v, ov, ec, ds, cs, rfl, hr, hd, hx, hb⟩ := h
 obtain ⟨rfl, rfl⟩ := lock_run hr
 obtain ⟨-, hi⟩ := run_inv (L := L) hr (lock_evs Vt n0 n1)
 have hok : DocOK L 0 (annD n t) := by
  rcases hi with ⟨h1, -⟩ | ⟨-, d2, h1, h2⟩
  ·cases h1
  ·cases h1; exact h2
 obtain ⟨sa, cap, hv, -⟩ := id hd
 subst hv
 exact ⟨sa, cap, ov, ec, rfl, hok, hd, hb⟩
def AnnC (L n : Int) (d : Dc) : Prop := d.owner = annB ∧ d.till = n ∧ d.name = docB ∧ DocOK L 0 d
theorem ann_commit {L n : Int} {t u : List Trk.Clip} {v : Value} {ta : Option Addr} {tn tc : Nat} {w : World} (hd : DocOK L 0 (annD n t)) (hL : L ≤ 140737488355328) (ht : Tk w (.slice ta tn tc) u) (Vu : VT L u) (hv : Dcs w v [annD n t]) :
  Calls Tryz.prog 26 #[.agg #[.int .i64 0, v], .agg #[.int .i64 4, .string annB, .string docB, .int .i64 0, .int .i64 0, .slice ta tn tc]] w (OnePost w 0 (AnnC L n)) :=
 (bigstep_commit (L := L) 0 ta tn tc u ht Vu hv hd hL (Int.le_refl 0) (by decide) ann_ok doc_ok).mono fun e w' hs => one_post hs rfl fun code d' hr => by
  have hk := CommitR.keeps hd ann_ok Vu hr
  cases hr with
  | locked hh => exact absurd rfl hh.2
  | range _ h2 => simp [annD] at h2
  | full _ _ h3 => simp [annD] at h3
  | last _ h2 h3 cur hcr =>
   refine ⟨rfl, ?_, ?_, ?_, hk⟩ <;> (unfold addR annD; split <;> rfl)
  | merge _ k h2 h2' h3 cur b hcr hb x hm => simp [annD] at h2'
  | fails _ k h2 h2' h3 cur b hcr hb _ x hm hz => simp [annD] at h2'
def FreePost (L : Int) (w : World) (e : Ending) (w' : World) : Prop :=
 ∃ nw a cap ob oo oc, ∃ rv : Int, ∃ d', e = .returned (.tuple #[.agg #[.int .i64 nw, .slice a 1 cap], .slice (some ⟨ob, oo, none⟩) 1 oc, .int .i64 0]) ∧ 0 ≤ nw ∧ nw ≤ 1000 ∧ DocOK L nw d' ∧ d'.owner = ⟨#[]⟩ ∧ d'.name = docB ∧ Dcs w' (.slice a 1 cap) [d'] ∧ w'.rangeAt ob oo (outL ⟨3, annB, docB, rv⟩) ∧ Below w.heap.size w w'
theorem free_post {L nw : Int} {w w' : World} {v ov : Value} {ds : List Dc} {os : List Rpt} {d' : Dc} {rv : Int} (hd : Dcs w' v ds) (ho : Outs w' ov os) (hb : Below w.heap.size w w') (h0 : 0 ≤ nw) (h1 : nw ≤ 1000) (hds : ds = [d']) (hos : os = [⟨3, annB, docB, rv⟩]) (hok : DocOK L nw d') (hw : d'.owner = ⟨#[]⟩) (hn : d'.name = docB) :
  FreePost L w (.returned (.tuple #[.agg #[.int .i64 nw, v], ov, .int .i64 0])) w' := by
 subst hds hos
 obtain ⟨a, cap, rfl, -⟩ := id hd
 obtain ⟨oa, oc, rfl, -, -, h⟩ := ho
 obtain ⟨ob, oo, rfl, hr⟩ := h 0 _ rfl
 rw [show oo + 0 * 4 = oo by omega] at hr
 exact ⟨nw, a, cap, ob, oo, oc, rv, d', rfl, h0, h1, hok, hw, hn, hd, hr, hb⟩
theorem free_unlock {L n : Int} {d : Dc} {v : Value} {w : World} (h : AnnC L n d) (hL : L ≤ 140737488355328) (hv : Dcs w v [d]) :
  Calls Tryz.prog 26 #[.agg #[.int .i64 0, v], .agg #[.int .i64 3, .string annB, .string docB, .int .i64 0, .int .i64 0, .slice none 0 0]] w (FreePost L w) :=
 (bigstep_unlock (L := L) hv h.2.2.2 hL (Int.le_refl 0) (by decide) ann_ok doc_ok).mono fun e w' hs => by
  obtain ⟨code, now, v', ov, ds, os, rfl, hr, hd, ho, hb⟩ := hs
  cases hr with
  | none hf =>
   exfalso
   generalize hz : (-1 : Int) = z at hf
   cases hf with
   | «at» i x => omega
   | none hf => exact hf 0 d rfl h.2.2.1
  | fails i x hf hi _ d' hc hz =>
   obtain ⟨rfl, -⟩ := set_one (d' := d') hi
   cases hc with
   | other ho => exact absurd h.1 ho
   | done _ => exact absurd rfl hz
  | done i x hf hi d' hc =>
   obtain ⟨rfl, hset⟩ := set_one (d' := d') hi
   have hk := UnlockR.keeps h.2.2.2 hc
   cases hc with
   | done _ => exact free_post hd ho hb (Int.le_refl 0) (by decide) hset rfl hk rfl h.2.2.1
theorem free_tick {L n : Int} {d : Dc} {v : Value} {w : World} (h : AnnC L n d) (n0 : 1 ≤ n) (n1 : n ≤ 1000) (hL : L ≤ 140737488355328) (hv : Dcs w v [d]) :
  Calls Tryz.prog 26 #[.agg #[.int .i64 0, v], .agg #[.int .i64 7, .string ⟨#[]⟩, .string ⟨#[]⟩, .int .i64 0, .int .i64 n, .slice none 0 0]] w (FreePost L w) :=
 (bigstep_ticks (L := L) hv h.2.2.2 hL (Int.le_refl 0) (by decide) n0 n1).mono fun e w' hs => by
  obtain ⟨code, now, v', ov, ds, os, rfl, hr, hd, ho, hb⟩ := hs
  have hst : stays (0 + n) d = false := by
   unfold stays
   rw [h.1, h.2.1, decide_eq_false (by decide), decide_eq_false (by omega)]
   rfl
  rcases hr with ⟨hlt, -⟩ | ⟨-, rfl, rfl, rfl, rfl⟩
  ·omega
  ·have hk := h.2.2.2.tick (n := n) (by omega)
   rw [Int.zero_add] at *
   refine free_post (d' := tickD n d) hd ho hb (by omega) n1 rfl (by unfold tickO; simp only [List.filterMap_cons, List.filterMap_nil]; rw [hst, h.1, h.2.2.1]; rfl) hk ?_ ?_
   ·unfold tickD; rw [if_neg (by rw [hst]; decide)]
   ·unfold tickD; rw [if_neg (by rw [hst]; decide)]; exact h.2.2.1
theorem bob_lock {L nw : Int} {d : Dc} {v : Value} {w : World} (h0 : 0 ≤ nw) (h1 : nw ≤ 1000) (hd : DocOK L nw d) (ho : d.owner = ⟨#[]⟩) (hn : d.name = docB) (hL : L ≤ 140737488355328) (hv : Dcs w v [d]) :
  Calls Tryz.prog 26 #[.agg #[.int .i64 nw, v], .agg #[.int .i64 2, .string bobB, .string docB, .int .i64 0, .int .i64 1, .slice none 0 0]] w fun e w' => ∃ n a k cap ov, e = .returned (.tuple #[.agg #[.int .i64 n, .slice a k cap], ov, .int .i64 0]) ∧ Below w.heap.size w w' :=
 (bigstep_lock (L := L) 1 hv hd hL h0 (by omega) bob_ok doc_ok (by decide) (by decide)).mono fun e w' hs => by
  obtain ⟨code, now, v', ov, ds, os, rfl, hr, hd, -, hb⟩ := hs
  obtain ⟨d', hc, -⟩ := one_of hr hn
  obtain ⟨a, cap, rfl, -⟩ := id hd
  cases hc with
  | locked hh => exact absurd ho hh.1
  | done _ => exact ⟨now, a, _, cap, ov, rfl, hb⟩
def bobEs (u : List Trk.Clip) : List Ev := [⟨2, bobB, docB, 0, 1, []⟩, ⟨4, bobB, docB, 0, 0, u⟩, ⟨5, bobB, docB, 0, 0, []⟩, ⟨6, bobB, docB, 0, 0, []⟩]
theorem bob_evs {L : Int} {u : List Trk.Clip} (Vu : VT L u) (i : Nat) (e : Ev) (hi : (bobEs u)[i]? = some e) : EvOK L e ∧ e.kind ≠ 1 ∧ e.kind ≠ 3 ∧ e.user = bobB ∧ e.doc = docB := by
 have hnil : VT L [] := nil_vtL
 match i, hi with
 | 0, hi => obtain rfl := Option.some.inj hi; exact ⟨⟨.inr (.inl rfl), bob_ok, doc_ok, hnil, fun _ => rfl, fun h => absurd rfl h, fun _ => ⟨by decide, by decide⟩⟩, show (2 : Int) ≠ 1 by decide, show (2 : Int) ≠ 3 by decide, rfl, rfl⟩
 | 1, hi => obtain rfl := Option.some.inj hi; exact ⟨⟨.inr (.inr (.inr (.inl rfl))), bob_ok, doc_ok, Vu, fun _ => rfl, fun _ => rfl, fun h => absurd (show (4 : Int) = 2 from h) (by decide)⟩, show (4 : Int) ≠ 1 by decide, show (4 : Int) ≠ 3 by decide, rfl, rfl⟩
 | 2, hi => obtain rfl := Option.some.inj hi; exact ⟨⟨.inr (.inr (.inr (.inr (.inl rfl)))), bob_ok, doc_ok, hnil, fun _ => rfl, fun _ => rfl, fun h => absurd (show (5 : Int) = 2 from h) (by decide)⟩, show (5 : Int) ≠ 1 by decide, show (5 : Int) ≠ 3 by decide, rfl, rfl⟩
 | 3, hi => obtain rfl := Option.some.inj hi; exact ⟨⟨.inr (.inr (.inr (.inr (.inr rfl)))), bob_ok, doc_ok, hnil, fun _ => rfl, fun _ => rfl, fun h => absurd (show (6 : Int) = 2 from h) (by decide)⟩, show (6 : Int) ≠ 1 by decide, show (6 : Int) ≠ 3 by decide, rfl, rfl⟩
theorem bob_refused {L n : Int} {t u : List Trk.Clip} {e : Ev} {i : Nat} {tv v : Value} {w : World} (Vu : VT L u) (hi : (bobEs u)[i]? = some e) (hd : DocOK L 0 (annD n t)) (hL : L ≤ 140737488355328) (ht : Tk w tv e.t) (hn : e.kind ≠ 1 → e.kind ≠ 4 → tv = .slice none 0 0) (hv : Dcs w v [annD n t]) :
  Calls Tryz.prog 26 #[.agg #[.int .i64 0, v], .agg (evtL e tv).toArray] w (OnePost w 11 fun _ => True) := by
 obtain ⟨hok, h1, h3, hu, hdn⟩ := bob_evs Vu i e hi
 exact (bigstep_ev e tv 0 v _ w hok h1 hd hL (Int.le_refl 0) (by decide) ht hn hv).mono fun r w' hs => one_post hs hdn.symm fun code d' hr => ⟨held_all h3 (by rw [hu]; exact ann_held n t) hr, trivial⟩
theorem built_ev4 (e1 e2 e3 e4 : Ev) (t1 t2 t3 t4 : Value) : Tryz.prog.builtSlice 59 4 [(0, .agg (evtL e1 t1).toArray), (1, .agg (evtL e2 t2).toArray), (2, .agg (evtL e3 t3).toArray), (3, .agg (evtL e4 t4).toArray)] = some (evtL e1 t1 ++ (evtL e2 t2 ++ (evtL e3 t3 ++ evtL e4 t4))).toArray := by kernel_rfl
theorem evs_four (w : World) (e1 e2 e3 e4 : Ev) (t1 t2 t3 t4 : Value) (k1 : Tk w t1 e1.t) (k2 : Tk w t2 e2.t) (k3 : Tk w t3 e3.t) (k4 : Tk w t4 e4.t) (n1 : e1.kind = 1 ∨ e1.kind = 4 ∨ t1 = .slice none 0 0) (n2 : e2.kind = 1 ∨ e2.kind = 4 ∨ t2 = .slice none 0 0) (n3 : e3.kind = 1 ∨ e3.kind = 4 ∨ t3 = .slice none 0 0) (n4 : e4.kind = 1 ∨ e4.kind = 4 ∨ t4 = .slice none 0 0) :
  Evs (w.alloc (.cells (evtL e1 t1 ++ (evtL e2 t2 ++ (evtL e3 t3 ++ evtL e4 t4))).toArray 59)) (.slice (some ⟨w.heap.size, 0, none⟩) 4 4) [e1, e2, e3, e4] := by
 have hb : Below w.heap.size w (w.alloc (.cells (evtL e1 t1 ++ (evtL e2 t2 ++ (evtL e3 t3 ++ evtL e4 t4))).toArray 59)) := below_box _ _
 have six : ∀ e t, (evtL e t).length = 6 := fun _ _ => rfl
 refine ⟨_, _, rfl, Nat.le_refl _, by unfold maxLen; omega, fun i e hi => ?_⟩
 match i, hi with
 | 0, hi =>
  obtain rfl := Option.some.inj hi
  exact ⟨_, 0, t1, rfl, range_box w _ 59 _ _ (fun j u hj => by
   have hlt := (List.getElem?_eq_some_iff.1 hj).1
   rw [show 0 + 0 * 6 + j = j by omega, List.getElem?_append_left hlt]
   exact hj), k1.below hb, fun h1 h4 => by rcases n1 with h | h | h <;> first | exact absurd h h1 | exact absurd h h4 | exact h⟩
 | 1, hi =>
  obtain rfl := Option.some.inj hi
  exact ⟨_, 0, t2, rfl, range_box w _ 59 _ _ (fun j u hj => by
   have hlt := (List.getElem?_eq_some_iff.1 hj).1
   rw [List.getElem?_append_right (by rw [six]; omega), six, show 0 + 1 * 6 + j - 6 = j by omega, List.getElem?_append_left hlt]
   exact hj), k2.below hb, fun h1 h4 => by rcases n2 with h | h | h <;> first | exact absurd h h1 | exact absurd h h4 | exact h⟩
 | 2, hi =>
  obtain rfl := Option.some.inj hi
  exact ⟨_, 0, t3, rfl, range_box w _ 59 _ _ (fun j u hj => by
   have hlt := (List.getElem?_eq_some_iff.1 hj).1
   rw [List.getElem?_append_right (by rw [six]; omega), six, List.getElem?_append_right (by rw [six]; omega), six, show 0 + 2 * 6 + j - 6 - 6 = j by omega, List.getElem?_append_left hlt]
   exact hj), k3.below hb, fun h1 h4 => by rcases n3 with h | h | h <;> first | exact absurd h h1 | exact absurd h h4 | exact h⟩
 | 3, hi =>
  obtain rfl := Option.some.inj hi
  exact ⟨_, 0, t4, rfl, range_box w _ 59 _ _ (fun j u hj => by
   rw [List.getElem?_append_right (by rw [six]; omega), six, List.getElem?_append_right (by rw [six]; omega), six, List.getElem?_append_right (by rw [six]; omega), six, show 0 + 3 * 6 + j - 6 - 6 - 6 = j by omega]
   exact hj), k4.below hb, fun h1 h4 => by rcases n4 with h | h | h <;> first | exact absurd h h1 | exact absurd h h4 | exact h⟩
end Go.Proofs.YtfoohocgdcgbcaaGreat
