/- Texts of this claim joined: MK SN SO ML MM QE QG MO MP SQ SR. -/
import Derived.Handy
import Derived.OwnWalk
import Derived.Test.YtfoohocgdcgbcaaGreatBs13
set_option linter.unusedVariables false
set_option linter.unusedSimpArgs false
namespace Go.Proofs.YtfoohocgdcgbcaaGreat
open Go.RowKit
def RepR (n : List Trk.Clip) (p1 q1 : Int) (x1 : List Trk.Clip) (p2 q2 : Int) (x2 : List Trk.Clip) (code : Int) (x : List Trk.Clip) : Prop :=
 (2147483647 < Trk.total (pieces n p1 q1 x1 p2 q2 x2).flatten ∧ code = 2 ∧ x = []) ∨ (Trk.total (pieces n p1 q1 x1 p2 q2 x2).flatten ≤ 2147483647 ∧ GlueR (pieces n p1 q1 x1 p2 q2 x2) code x)
def Two (n a b : List Trk.Clip) (p1 q1 : Int) (x1 : List Trk.Clip) (p2 q2 : Int) (x2 : List Trk.Clip) : Prop :=
 (Trk.Diff n a p1 q1 x1 ∧ Trk.Diff n b p2 q2 x2 ∧ ¬ q2 < p1) ∨ (Trk.Diff n b p1 q1 x1 ∧ Trk.Diff n a p2 q2 x2 ∧ q1 < p2)
def LongR (n a b : List Trk.Clip) (code : Int) (x : List Trk.Clip) : Prop :=
 ∃ p1 q1 x1 p2 q2 x2, Two n a b p1 q1 x1 p2 q2 x2 ∧ ((p2 ≤ q1 ∧ code = 12 ∧ x = []) ∨ (q1 < p2 ∧ RepR n p1 q1 x1 p2 q2 x2 code x))
def shortC (n a b : List Trk.Clip) : Prop := Trk.nf b = Trk.nf n ∨ Trk.nf b = Trk.nf a ∨ Trk.nf a = Trk.nf n
def MergeR (n a b : List Trk.Clip) (code : Int) (x : List Trk.Clip) : Prop :=
 (shortC n a b ∧ code = 0 ∧ x = shortL n a b) ∨ (¬ shortC n a b ∧ LongR (Trk.nf n) (Trk.nf a) (Trk.nf b) code x)
def MergePost (w : World) (n a b : List Trk.Clip) (e : Ending) (w' : World) : Prop :=
 ∃ v' code x, e = .returned (.tuple #[v', .int .i64 code]) ∧ OT w' w.heap.size v' x ∧ Below w.heap.size w w' ∧ MergeR n a b code x
theorem D4.put {w : World} {g : Nat} {p q : Int} {x : Value} {e : Int} (h : D4 w g p q x e) (p' q' : Int) (x' : Value) (e' : Int) :
  D4 ((((w.setCell ⟨g, 0, none⟩ (.int .i64 p')).setCell ⟨g, 1, none⟩ (.int .i64 q')).setCell ⟨g, 2, none⟩ x').setCell ⟨g, 3, none⟩ (.int .i64 e')) g p' q' x' e' := by
 obtain ⟨h0, h1, h2, h3, hf⟩ := h
 exact ⟨by simp [go_sem, h0, h1, h2, h3, hf], by simp [go_sem, h0, h1, h2, h3, hf], by simp [go_sem, h0, h1, h2, h3, hf], by simp [go_sem, h0, h1, h2, h3, hf], fun o => by simp [go_sem, hf]⟩
theorem D4.other {w : World} {g : Nat} {p q : Int} {x : Value} {e : Int} (h : D4 w g p q x e) {g2 : Nat} (hn : g ≠ g2) (o : Nat) (u : Value) : D4 (w.setCell ⟨g2, o, none⟩ u) g p q x e := by
 obtain ⟨h0, h1, h2, h3, hf⟩ := h
 have hn2 := Ne.symm hn
 exact ⟨by simp [go_sem, h0, hn, hn2], by simp [go_sem, h1, hn, hn2], by simp [go_sem, h2, hn, hn2], by simp [go_sem, h3, hn, hn2], fun o => by simp [go_sem, hf]⟩
set_option maxRecDepth 100000 in
set_option maxHeartbeats 16000000 in
theorem merge_long {L : Int} (vn va vb : Value) (n a b : List Trk.Clip) (w : World) (hn : Tk w vn n) (ha : Tk w va a) (hb : Tk w vb b) (Vn : VT L n) (Va : VT L a) (Vb : VT L b) (hL : L ≤ 140737488355328) (hs : ¬ shortC n a b) :
  Calls Tryz.prog 17 #[vn, va, vb] w (MergePost w n a b) := by
 have HN := Lib.hid hn
 have HA := Lib.hid ha
 have HBB := Lib.hid hb
 have V1 := Lib.hid (fun (w : World) (h : Tk w vn n) => vtrack_any vn n w h Vn hL)
 have V2 := Lib.hid (fun (w : World) (h : Tk w va a) => vtrack_any va a w h Va hL)
 have V3 := Lib.hid (fun (w : World) (h : Tk w vb b) => vtrack_any vb b w h Vb hL)
 have S1 := Lib.hid (fun (w : World) (h : Tk w vb b) (h' : Tk w vn n) => same_any vb vn b n w h h' Vb Vn hL)
 have S2 := Lib.hid (fun (w : World) (h : Tk w vb b) (h' : Tk w va a) => same_any vb va b a w h h' Vb Va hL)
 have S3 := Lib.hid (fun (w : World) (h : Tk w va a) (h' : Tk w vn n) => same_any va vn a n w h h' Va Vn hL)
 have HS := Lib.hid hs
 rw [decide_eq_false (fun h => hs (.inl h))] at S1
 rw [decide_eq_false (fun h => hs (.inr (.inl h)))] at S2
 rw [decide_eq_false (fun h => hs (.inr (.inr h)))] at S3
 have NN := Lib.hid (fun (w : World) (h : Tk w vn n) => normal_any vn n w h Vn hL)
 have NA := Lib.hid (fun (w : World) (h : Tk w va a) => normal_any va a w h Va hL)
 have NB := Lib.hid (fun (w : World) (h : Tk w vb b) => normal_any vb b w h Vb hL)
 have C1 := Lib.hid (fun (v u : Value) (w : World) (h : Tk w v (Trk.nf n)) (h' : Tk w u (Trk.nf a)) => compare_any v u _ _ w h h' (nf_vt Vn) (nf_vt Va) hL)
 have C2 := Lib.hid (fun (v u : Value) (w : World) (h : Tk w v (Trk.nf n)) (h' : Tk w u (Trk.nf b)) => compare_any v u _ _ w h h' (nf_vt Vn) (nf_vt Vb) hL)
 have RP := Lib.hid (fun (v xv yv : Value) (x1 x2 : List Trk.Clip) (p1 q1 p2 q2 : Int) (w : World) (h : Tk w v (Trk.nf n)) (hx : Tk w xv x1) (hy : Tk w yv x2) (Vx : VT L x1) (Vy : VT L x2) (i0 : 0 ≤ p1) (i1 : p1 ≤ q1) (i2 : q1 ≤ p2) (i3 : p2 ≤ q2) (i4 : q2 ≤ Trk.total (Trk.nf n)) =>
  replace_any v xv yv _ x1 x2 p1 q1 p2 q2 w h hx hy (nf_vt Vn) Vx Vy hL i0 i1 i2 i3 i4)
 have VD1 := Lib.hid (fun (p q : Int) (x : List Trk.Clip) (h : Trk.Diff (Trk.nf n) (Trk.nf a) p q x) => diff_vt h (nf_vt Va))
 have VD2 := Lib.hid (fun (p q : Int) (x : List Trk.Clip) (h : Trk.Diff (Trk.nf n) (Trk.nf b) p q x) => diff_vt h (nf_vt Vb))
 obtain ⟨xn, cn, rfl, -⟩ := hn
 obtain ⟨xa, ca, rfl, -⟩ := ha
 obtain ⟨xb, cb, rfl, -⟩ := hb
 obtain ⟨nn, hnn⟩ : ∃ k, k = n.length := ⟨_, rfl⟩
 obtain ⟨na, hna⟩ : ∃ k, k = a.length := ⟨_, rfl⟩
 obtain ⟨nb, hnb⟩ : ∃ k, k = b.length := ⟨_, rfl⟩
 rw [← hnn] at HN V1 S1 S3 NN ⊢
 rw [← hna] at HA V2 S2 S3 NA ⊢
 rw [← hnb] at HBB V3 S1 S2 NB ⊢
 clear Vn Va Vb hnn hna hnb hs
 go_enter Tryz.func17, Tryz.ntmps17
 go_wp2_with fail
 refine (V1.out w HN.out).mono ?_
 rintro e w1 ⟨rfl, hb⟩
 have HB := Lib.hid hb
 clear hb
 go_wp2_with fail
 refine (V2.out w1 (HA.out.below HB.out)).mono ?_
 rintro e w2 ⟨rfl, hb⟩
 replace HB := Lib.hid (HB.out.trans (hb.mono HB.out.size))
 clear hb
 go_wp2_with fail
 refine (V3.out w2 (HBB.out.below HB.out)).mono ?_
 rintro e w3 ⟨rfl, hb⟩
 replace HB := Lib.hid (HB.out.trans (hb.mono HB.out.size))
 clear hb
 go_wp2_with fail
 refine (S1.out w3 (HBB.out.below HB.out) (HN.out.below HB.out)).mono ?_
 rintro e w4 ⟨rfl, hb⟩
 replace HB := Lib.hid (HB.out.trans (hb.mono HB.out.size))
 clear hb
 go_wp2_with fail
 refine (S2.out w4 (HBB.out.below HB.out) (HA.out.below HB.out)).mono ?_
 rintro e w5 ⟨rfl, hb⟩
 replace HB := Lib.hid (HB.out.trans (hb.mono HB.out.size))
 clear hb
 go_wp2_with fail
 refine (S3.out w5 (HA.out.below HB.out) (HN.out.below HB.out)).mono ?_
 rintro e w6 ⟨rfl, hb⟩
 replace HB := Lib.hid (HB.out.trans (hb.mono HB.out.size))
 clear hb
 go_wp2_with fail
 refine (NN.out w6 (HN.out.below HB.out)).mono ?_
 rintro e w7 ⟨v7, rfl, ho, hb⟩
 have H7 := Lib.hid ho.tk
 clear ho
 replace HB := Lib.hid (HB.out.trans (hb.mono HB.out.size))
 clear hb
 go_wp2_with fail
 refine (NA.out w7 (HA.out.below HB.out)).mono ?_
 rintro e w8 ⟨v8, rfl, ho, hb⟩
 have H8 := Lib.hid ho.tk
 clear ho
 replace H7 := Lib.hid (H7.out.below hb)
 replace HB := Lib.hid (HB.out.trans (hb.mono HB.out.size))
 clear hb
 go_wp2_with fail
 refine (C1.out _ _ w8 H7.out H8.out).mono ?_
 rintro e w9 ⟨p1, q1, x1, xv, rfl, hd, ho, hb⟩
 have H9 := Lib.hid ho.tk
 have D1 := Lib.hid hd
 clear ho hd H8
 replace H7 := Lib.hid (H7.out.below hb)
 replace HB := Lib.hid (HB.out.trans (hb.mono HB.out.size))
 clear hb
 go_wp2_with fail
 refine (NB.out w9 (HBB.out.below HB.out)).mono ?_
 rintro e w10 ⟨v10, rfl, ho, hb⟩
 have H10 := Lib.hid ho.tk
 clear ho
 replace H7 := Lib.hid (H7.out.below hb)
 replace H9 := Lib.hid (H9.out.below hb)
 replace HB := Lib.hid (HB.out.trans (hb.mono HB.out.size))
 clear hb
 go_wp2_with fail
 refine (C2.out _ _ w10 H7.out H10.out).mono ?_
 rintro e w11 ⟨p2, q2, x2, yv, rfl, hd, ho, hb⟩
 have H11 := Lib.hid ho.tk
 have D2 := Lib.hid hd
 clear ho hd H10
 replace H7 := Lib.hid (H7.out.below hb)
 replace H9 := Lib.hid (H9.out.below hb)
 replace HB := Lib.hid (HB.out.trans (hb.mono HB.out.size))
 clear hb
 clear V1 V2 V3 S1 S2 S3 NN NA NB C1 C2 HN HA HBB
 obtain ⟨xo, xc, hxv, -⟩ := H9.out
 obtain ⟨yo, yc, hyv, -⟩ := H11.out
 obtain ⟨lx, hlx⟩ : ∃ k, k = x1.length := ⟨_, rfl⟩
 obtain ⟨ly, hly⟩ : ∃ k, k = x2.length := ⟨_, rfl⟩
 rw [← hlx] at hxv
 rw [← hly] at hyv
 subst hxv hyv
 clear hlx hly
 go_upto_region 9 with fail
 obtain ⟨w12, hw12⟩ : ∃ z, z = (w11.alloc (.cells #[.int .i64 p1, .int .i64 q1, .slice xo lx xc, .int .i64 0] 98)).alloc (.cells #[.int .i64 p2, .int .i64 q2, .slice yo ly yc, .int .i64 0] 98) := ⟨_, rfl⟩
 obtain ⟨g1, hg1⟩ : ∃ g, g = w11.heap.size := ⟨_, rfl⟩
 obtain ⟨g2, hg2⟩ : ∃ g, g = w11.heap.size + 1 := ⟨_, rfl⟩
 have hb : Below w11.heap.size w11 w12 := by rw [hw12]; go_grown
 have HD := Lib.hid (show D4 w12 g1 p1 q1 (.slice xo lx xc) 0 by rw [hw12, hg1]; exact ⟨by simp [go_sem], by simp [go_sem], by simp [go_sem], by simp [go_sem], fun o => by simp [go_sem]⟩)
 have HE := Lib.hid (show D4 w12 g2 p2 q2 (.slice yo ly yc) 0 by rw [hw12, hg2]; exact ⟨by simp [go_sem], by simp [go_sem], by simp [go_sem], by simp [go_sem], fun o => by simp [go_sem]⟩)
 rw [← hw12, ← hg2, ← hg1]
 have HG := Lib.hid (show w11.heap.size ≤ g1 ∧ w11.heap.size ≤ g2 ∧ g1 ≠ g2 by omega)
 have HBW := Lib.hid hb
 have HLE := Lib.hid HB.out
 clear hb hw12 hg1 hg2 HB
 obtain ⟨d0, d1, d2, d3, df⟩ := HD.out
 obtain ⟨e0, e1, e2, e3, ef⟩ := HE.out
 have n12 := HG.out.2.2
 have n21 := Ne.symm n12
 by_cases hsw : q2 < p1
 ·have hz : decide (q2 < p1) = true := decide_eq_true hsw
  go_upto_region 11 with fail
  obtain ⟨w13, hw13⟩ : ∃ z, z = (((((((w12.setCell ⟨g1, 0, none⟩ (.int .i64 p2)).setCell ⟨g1, 1, none⟩ (.int .i64 q2)).setCell ⟨g1, 2, none⟩ (.slice yo ly yc)).setCell ⟨g1, 3, none⟩ (.int .i64 0)).setCell ⟨g2, 0, none⟩ (.int .i64 p1)).setCell ⟨g2, 1, none⟩ (.int .i64 q1)).setCell ⟨g2, 2, none⟩ (.slice xo lx xc)).setCell ⟨g2, 3, none⟩ (.int .i64 0) := ⟨_, rfl⟩
  rw [← hw13]
  have h13 : D4 w13 g1 p2 q2 (.slice yo ly yc) 0 ∧ D4 w13 g2 p1 q1 (.slice xo lx xc) 0 := by
   rw [hw13]
   have hd := HD.out.put p2 q2 (.slice yo ly yc) 0
   have he := (((HE.out.other n21 0 (.int .i64 p2)).other n21 1 (.int .i64 q2)).other n21 2 (.slice yo ly yc)).other n21 3 (.int .i64 0)
   exact ⟨(((hd.other n12 _ _).other n12 _ _).other n12 _ _).other n12 _ _, he.put p1 q1 (.slice xo lx xc) 0⟩
  have hb13 : Below w11.heap.size w11 w13 := by
   rw [hw13]
   have l1 := HG.out.1
   have l2 := HG.out.2.1
   exact (((((((HBW.out.setCell (p := ⟨g1, 0, none⟩) l1 _).setCell (p := ⟨g1, 1, none⟩) l1 _).setCell (p := ⟨g1, 2, none⟩) l1 _).setCell (p := ⟨g1, 3, none⟩) l1 _).setCell (p := ⟨g2, 0, none⟩) l2 _).setCell (p := ⟨g2, 1, none⟩) l2 _).setCell (p := ⟨g2, 2, none⟩) l2 _).setCell (p := ⟨g2, 3, none⟩) l2 _
  replace HBW := Lib.hid hb13
  replace H7 := Lib.hid (H7.out.below hb13)
  replace H9 := Lib.hid (H9.out.below hb13)
  replace H11 := Lib.hid (H11.out.below hb13)
  have H13 := Lib.hid h13
  clear hw13 hb13 h13 HD HE d0 d1 d2 d3 df e0 e1 e2 e3 ef hz
  obtain ⟨d0, d1, d2, d3, df⟩ := H13.out.1
  obtain ⟨e0, e1, e2, e3, ef⟩ := H13.out.2
  have hz2 : ¬ p1 ≤ q2 := by omega
  obtain ⟨a0, a1, a2, a3, a4⟩ := D1.out.le
  obtain ⟨b0, b1, b2, b3, b4⟩ := D2.out.le
  clear a3 a4 b3 b4
  go_wp2_with fail
  refine (RP.out v7 (.slice yo ly yc) (.slice xo lx xc) x2 x1 p2 q2 p1 q1 _ H7.out H11.out H9.out (VD2.out _ _ _ D2.out) (VD1.out _ _ _ D1.out) (by omega) (by omega) (by omega) (by omega) (by omega)).mono ?_
  rintro e w14 ⟨v14, code, x, rfl, ho, hb, hr⟩
  have HO := Lib.hid (ho.lower (Nat.le_trans HLE.out.size HBW.out.size))
  have HR := Lib.hid hr
  have HBZ := Lib.hid (HLE.out.trans ((HBW.out.trans (hb.mono HBW.out.size)).mono HLE.out.size))
  clear ho hb hr
  go_wp2_with fail
  go_ret2
  exact ⟨_, _, _, rfl, HO.out, HBZ.out, .inr ⟨HS.out, _, _, _, _, _, _, .inr ⟨D2.out, D1.out, hsw⟩, .inr ⟨hsw, HR.out⟩⟩⟩
 ·replace H7 := Lib.hid (H7.out.below HBW.out)
  replace H9 := Lib.hid (H9.out.below HBW.out)
  replace H11 := Lib.hid (H11.out.below HBW.out)
  obtain ⟨a0, a1, a2, a3, a4⟩ := D1.out.le
  obtain ⟨b0, b1, b2, b3, b4⟩ := D2.out.le
  clear a3 a4 b3 b4
  by_cases hcf : p2 ≤ q1
  ·have HBZ := Lib.hid (HLE.out.trans (HBW.out.mono HLE.out.size))
   go_wp2_with fail
   go_ret2
   exact ⟨_, _, _, rfl, OT.nil _ _, HBZ.out, .inr ⟨HS.out, _, _, _, _, _, _, .inl ⟨D1.out, D2.out, by omega⟩, .inl ⟨hcf, rfl, rfl⟩⟩⟩
  go_wp2_with fail
  refine (RP.out v7 (.slice xo lx xc) (.slice yo ly yc) x1 x2 p1 q1 p2 q2 _ H7.out H9.out H11.out (VD1.out _ _ _ D1.out) (VD2.out _ _ _ D2.out) (by omega) (by omega) (by omega) (by omega) (by omega)).mono ?_
  rintro e w14 ⟨v14, code, x, rfl, ho, hb, hr⟩
  have HO := Lib.hid (ho.lower (Nat.le_trans HLE.out.size HBW.out.size))
  have HR := Lib.hid hr
  have HBZ := Lib.hid (HLE.out.trans ((HBW.out.trans (hb.mono HBW.out.size)).mono HLE.out.size))
  clear ho hb hr
  go_wp2_with fail
  go_ret2
  exact ⟨_, _, _, rfl, HO.out, HBZ.out, .inr ⟨HS.out, _, _, _, _, _, _, .inl ⟨D1.out, D2.out, by omega⟩, .inr ⟨(by omega), HR.out⟩⟩⟩
theorem merge_any {L : Int} (vn va vb : Value) (n a b : List Trk.Clip) (w : World) (hn : Tk w vn n) (ha : Tk w va a) (hb : Tk w vb b) (Vn : VT L n) (Va : VT L a) (Vb : VT L b) (hL : L ≤ 140737488355328) :
  Calls Tryz.prog 17 #[vn, va, vb] w (MergePost w n a b) := by
 by_cases hs : shortC n a b
 ·refine (merge_short vn va vb n a b w hn ha hb Vn Va Vb hL hs).mono ?_
  rintro e w' ⟨v', rfl, ho, hbb⟩
  exact ⟨_, _, _, rfl, ho, hbb, .inl ⟨hs, rfl, rfl⟩⟩
 ·exact merge_long vn va vb n a b w hn ha hb Vn Va Vb hL hs
def Ag (S : Nat → Prop) (w w' : World) : Prop := ∀ b, S b → w'.heap[b]? = w.heap[b]?
theorem Ag.refl (S : Nat → Prop) (w : World) : Ag S w w := fun _ _ => rfl
theorem Ag.trans {S : Nat → Prop} {a b c : World} (h : Ag S a b) (k : Ag S b c) : Ag S a c := fun x hx => (k x hx).trans (h x hx)
theorem Tk.ag {w w' : World} {v : Value} {l : List Trk.Clip} (h : Tk w v l) (ha : Ag (· < w.heap.size) w w') : Tk w' v l := by
 obtain ⟨ao, cap, e, h1, h2, h3⟩ := h
 refine ⟨ao, cap, e, h1, h2, fun i c hi => ?_⟩
 obtain ⟨b, o, e2, hc⟩ := h3 i c hi
 exact ⟨b, o, e2, hc.same (ha b hc.lt)⟩
theorem rangeAt_ag {w w' : World} {b o : Nat} {xs : List Value} (h : w.rangeAt b o xs) (hs : w'.heap[b]? = w.heap[b]?) : w'.rangeAt b o xs := fun j u hj => (World.cell?_of_block (a := ⟨b, o + j, none⟩) hs).trans (h j u hj)
theorem rangeAt_lt {w : World} {b o : Nat} {xs : List Value} (h : w.rangeAt b o xs) (hn : xs ≠ []) : b < w.heap.size := by
 cases xs with
 | nil => exact absurd rfl hn
 | cons x l => exact block_lt_of_cell (h 0 x rfl)
theorem Rvs.ag {w w' : World} {v : Value} {rs : List Rv} (h : Rvs w v rs) (ha : Ag (· < w.heap.size) w w') : Rvs w' v rs := by
 obtain ⟨ao, cap, e, h1, h2, h3⟩ := h
 refine ⟨ao, cap, e, h1, h2, fun i r hi => ?_⟩
 obtain ⟨b, o, tv, e2, hr, ht⟩ := h3 i r hi
 exact ⟨b, o, tv, e2, rangeAt_ag hr (ha b (rangeAt_lt hr (by simp [revL]))), ht.ag ha⟩
theorem Dcs.ag {w w' : World} {v : Value} {ds : List Dc} (h : Dcs w v ds) (ha : Ag (· < w.heap.size) w w') : Dcs w' v ds := by
 obtain ⟨ao, cap, e, h1, h2, h3⟩ := h
 refine ⟨ao, cap, e, h1, h2, fun i d hi => ?_⟩
 obtain ⟨b, o, rv, e2, hr, ht⟩ := h3 i d hi
 exact ⟨b, o, rv, e2, rangeAt_ag hr (ha b (rangeAt_lt hr (by simp [docL]))), ht.ag ha⟩
def TS (S : Nat → Prop) (w : World) (v : Value) (l : List Trk.Clip) : Prop := ∀ w', Ag S w w' → Tk w' v l
def RS (S : Nat → Prop) (w : World) (v : Value) (rs : List Rv) : Prop := ∃ ao cap, v = .slice ao rs.length cap ∧ rs.length ≤ cap ∧ cap ≤ maxLen ∧ ∀ i r, rs[i]? = some r → ∃ b o tv, ao = some ⟨b, o, none⟩ ∧ S b ∧ w.rangeAt b (o + i * 5) (revL r tv) ∧ TS S w tv r.t
theorem TS.get {S : Nat → Prop} {w : World} {v : Value} {l : List Trk.Clip} (h : TS S w v l) : Tk w v l := h w (Ag.refl S w)
theorem RS.get {S : Nat → Prop} {w : World} {v : Value} {l : List Rv} (h : RS S w v l) : Rvs w v l := by
 obtain ⟨ao, cap, e, h1, h2, h3⟩ := h
 exact ⟨ao, cap, e, h1, h2, fun i r hi => by obtain ⟨b, o, tv, e2, -, hr, ht⟩ := h3 i r hi; exact ⟨b, o, tv, e2, hr, ht.get⟩⟩
theorem TS.of {w : World} {v : Value} {l : List Trk.Clip} (h : Tk w v l) : TS (· < w.heap.size) w v l := fun _ ha => h.ag ha
theorem RS.of {w : World} {v : Value} {l : List Rv} (h : Rvs w v l) : RS (· < w.heap.size) w v l := by
 obtain ⟨ao, cap, e, h1, h2, h3⟩ := h
 exact ⟨ao, cap, e, h1, h2, fun i r hi => by obtain ⟨b, o, tv, e2, hr, ht⟩ := h3 i r hi; exact ⟨b, o, tv, e2, rangeAt_lt hr (by simp [revL]), hr, TS.of ht⟩⟩
theorem TS.on {S : Nat → Prop} {w w' : World} {v : Value} {l : List Trk.Clip} (h : TS S w v l) (ha : Ag S w w') : TS S w' v l := fun w'' k => h w'' (ha.trans k)
theorem RS.on {S : Nat → Prop} {w w' : World} {v : Value} {l : List Rv} (h : RS S w v l) (ha : Ag S w w') : RS S w' v l := by
 obtain ⟨ao, cap, e, h1, h2, h3⟩ := h
 exact ⟨ao, cap, e, h1, h2, fun i r hi => by obtain ⟨b, o, tv, e2, hb, hr, ht⟩ := h3 i r hi; exact ⟨b, o, tv, e2, hb, rangeAt_ag hr (ha b hb), ht.on ha⟩⟩
theorem TS.mono {S T : Nat → Prop} {w : World} {v : Value} {l : List Trk.Clip} (h : TS S w v l) (hs : ∀ b, S b → T b) : TS T w v l := fun w' k => h w' fun b hb => k b (hs b hb)
theorem RS.mono {S T : Nat → Prop} {w : World} {v : Value} {l : List Rv} (h : RS S w v l) (hs : ∀ b, S b → T b) : RS T w v l := by
 obtain ⟨ao, cap, e, h1, h2, h3⟩ := h
 exact ⟨ao, cap, e, h1, h2, fun i r hi => by obtain ⟨b, o, tv, e2, hb, hr, ht⟩ := h3 i r hi; exact ⟨b, o, tv, e2, hs b hb, hr, ht.mono hs⟩⟩
theorem RowX.blk {w w' : World} {B k s g cap : Nat} {E : TypeId} {xs : List Value} (h : RowX w B E s (.slice (some ⟨g, 0, none⟩) k cap) k xs) (hs : w'.heap[g]? = w.heap[g]?) : RowX w' B E s (.slice (some ⟨g, 0, none⟩) k cap) k xs := by
 rcases h with ⟨e, _⟩ | ⟨g', cap', cur, e, hB, hg, h⟩
 ·simp at e
 ·have e' := e
  simp only [Value.slice.injEq, Option.some.injEq, Addr.mk.injEq, and_true, true_and] at e'
  obtain ⟨rfl, rfl⟩ := e'
  exact .inr ⟨g, cap, cur, e, hB, hs.trans hg, h⟩
theorem RowX.frozen {w : World} {B k s g cap : Nat} {E : TypeId} {xs : List Value} (h : RowX w B E s (.slice (some ⟨g, 0, none⟩) k cap) k xs) (o : Nat) : w.frozen? ⟨g, o, none⟩ = false := by
 rcases h with ⟨e, _⟩ | ⟨g', cap', cur, e, hB, hg, h⟩
 ·simp at e
 ·simp only [Value.slice.injEq, Option.some.injEq, Addr.mk.injEq, and_true, true_and] at e
  obtain ⟨rfl, rfl⟩ := e
  simp [World.frozen?, hg]
theorem RowX.lt {w : World} {B k s g cap : Nat} {E : TypeId} {xs : List Value} (h : RowX w B E s (.slice (some ⟨g, 0, none⟩) k cap) k xs) : B ≤ g ∧ g < w.heap.size ∧ k ≤ cap ∧ cap ≤ maxLen := by
 rcases h with ⟨e, _⟩ | ⟨g', cap', cur, e, hB, hg, hk, hc, h⟩
 ·simp at e
 ·simp only [Value.slice.injEq, Option.some.injEq, Addr.mk.injEq, and_true, true_and] at e
  obtain ⟨rfl, rfl⟩ := e
  exact ⟨hB, (Array.getElem?_eq_some_iff.1 hg).1, hk, hc⟩
def Lo (m g : Nat) (b : Nat) : Prop := b < m ∧ b ≠ g
theorem ag_set {m g : Nat} {w : World} {o : Nat} {u : Value} : Ag (Lo m g) w (w.setCell ⟨g, o, none⟩ u) := fun b hb => setCells_other g b hb.2 [u] o w
theorem ag_far {m g g2 : Nat} {w : World} {o : Nat} {u : Value} (h : m ≤ g2) : Ag (Lo m g) w (w.setCell ⟨g2, o, none⟩ u) := fun b hb => setCells_other g2 b (by have := hb.1; omega) [u] o w
theorem ag_below {m g : Nat} {w w' : World} (h : Below w.heap.size w w') (hm : m ≤ w.heap.size) : Ag (Lo m g) w w' := fun b hb => h.block b (Nat.lt_of_lt_of_le hb.1 hm)
theorem flatC_set {α : Type} {f : α → Value → List Value} {s : Nat} (hf : ∀ a v, (f a v).length = s) (l : List α) (m : List Value) (hm : m.length = l.length) {i j : Nat} {a a' : α} {v v' u : Value} (hi : l[i]? = some a) (hv : m[i]? = some v) (hj : j < s) (e : f a' v' = (f a v).set j u) :
  (flatC f l m).set (i * s + j) u = flatC f (l.set i a') (m.set i v') := by
 have hil := (List.getElem?_eq_some_iff.1 hi).1
 have len1 := flatC_len hf l m hm
 have len2 := flatC_len hf (l.set i a') (m.set i v') (by simpa using hm)
 rw [List.length_set] at len2
 refine List.ext_getElem? fun n => ?_
 by_cases hn : n < l.length * s
 ·have hs : 0 < s := by omega
  have hq : n / s < l.length := Nat.div_lt_of_lt_mul (by rw [Nat.mul_comm]; exact hn)
  obtain ⟨b, hb⟩ : ∃ b, l[n / s]? = some b := ⟨_, List.getElem?_eq_getElem hq⟩
  obtain ⟨t, ht⟩ : ∃ t, m[n / s]? = some t := ⟨_, List.getElem?_eq_getElem (by omega)⟩
  have hr := Nat.mod_lt n hs
  have hnn : n / s * s + n % s = n := by rw [Nat.mul_comm]; exact Nat.div_add_mod n s
  have g1 := flatC_get hf l m hb ht hr
  rw [hnn] at g1
  by_cases hni : n / s = i
  ·rw [hni] at hb ht hnn
   rw [hi] at hb; rw [hv] at ht
   cases hb; cases ht
   have g2 := flatC_get hf (l.set i a') (m.set i v') (i := i) (j := n % s) (a := a') (v := v') (by rw [List.getElem?_set_self hil]) (by rw [List.getElem?_set_self (by omega)]) hr
   rw [hnn] at g2
   rw [g2, e, List.getElem?_set, List.getElem?_set]
   by_cases hjn : i * s + j = n
   ·have : j = n % s := by omega
    rw [if_pos hjn, if_pos this, if_pos (by omega), if_pos (by rw [hf]; exact hj)]
   ·have : j ≠ n % s := by omega
    rw [if_neg hjn, if_neg this, g1]
  ·have g2 := flatC_get hf (l.set i a') (m.set i v') (i := n / s) (j := n % s) (a := b) (v := t) (by rw [List.getElem?_set_ne (Ne.symm hni)]; exact hb) (by rw [List.getElem?_set_ne (Ne.symm hni)]; exact ht) hr
   rw [hnn] at g2
   have hne : i * s + j ≠ n := by
    intro h
    apply hni
    rw [← h, Nat.mul_comm, Nat.mul_add_div hs, Nat.div_eq_of_lt hj]
    omega
   rw [List.getElem?_set, if_neg hne, g1, g2]
 ·rw [List.getElem?_eq_none (by rw [List.length_set]; omega), List.getElem?_eq_none (by omega)]
structure DX (w : World) (g cap m : Nat) (ds : List Dc) : Prop where
 m0 : m ≤ w.heap.size
 r : ∃ ts : List Value, ts.length = ds.length ∧ RowX w g 65 4 (.slice (some ⟨g, 0, none⟩) ds.length cap) ds.length (flatC docL ds ts) ∧ ∀ (i : Nat) (d : Dc) (t : Value), ds[i]? = some d → ts[i]? = some t → RS (Lo m g) w t d.revs
theorem docL_len : ∀ (d : Dc) (t : Value), (docL d t).length = 4 := fun _ _ => rfl
theorem revL_len : ∀ (r : Rv) (t : Value), (revL r t).length = 5 := fun _ _ => rfl
theorem DX.lt {w : World} {g cap m : Nat} {ds : List Dc} (h : DX w g cap m ds) : g < w.heap.size ∧ ds.length ≤ cap ∧ cap ≤ maxLen := by
 obtain ⟨ts, -, hr, -⟩ := h.r
 exact ⟨hr.lt.2.1, hr.lt.2.2⟩
theorem DX.frozen {w : World} {g cap m : Nat} {ds : List Dc} (h : DX w g cap m ds) (o : Nat) : w.frozen? ⟨g, o, none⟩ = false := by
 obtain ⟨ts, -, hr, -⟩ := h.r
 exact hr.frozen o
theorem DX.below {w w' : World} {g cap m : Nat} {ds : List Dc} (h : DX w g cap m ds) (hb : Below w.heap.size w w') : DX w' g cap m ds := by
 obtain ⟨ts, h1, h2, h3⟩ := h.r
 exact ⟨Nat.le_trans h.m0 hb.size, ts, h1, h2.below hb, fun i d t hd ht => (h3 i d t hd ht).on (ag_below hb h.m0)⟩
theorem DX.raise {w : World} {g cap m n : Nat} {ds : List Dc} (h : DX w g cap m ds) (hm : m ≤ n) (hn : n ≤ w.heap.size) : DX w g cap n ds := by
 obtain ⟨ts, h1, h2, h3⟩ := h.r
 exact ⟨hn, ts, h1, h2, fun i d t hd ht => (h3 i d t hd ht).mono fun b hb => ⟨Nat.lt_of_lt_of_le hb.1 hm, hb.2⟩⟩
theorem DX.doc {w : World} {g cap m : Nat} {ds : List Dc} (h : DX w g cap m ds) {i : Nat} {d : Dc} (hi : ds[i]? = some d) : ∃ t, w.rangeAt g (i * 4) (docL d t) ∧ RS (Lo m g) w t d.revs := by
 obtain ⟨ts, h1, h2, h3⟩ := h.r
 have hil := (List.getElem?_eq_some_iff.1 hi).1
 obtain ⟨t, ht⟩ : ∃ t, ts[i]? = some t := ⟨_, List.getElem?_eq_getElem (by omega)⟩
 refine ⟨t, fun j u hj => ?_, h3 i d t hi ht⟩
 have hj4 : j < 4 := by rw [← docL_len d t]; exact (List.getElem?_eq_some_iff.1 hj).1
 have hg := flatC_get docL_len ds ts hi ht hj4
 rw [hj] at hg
 exact h2.cell hg
theorem DX.dcs {w : World} {g cap m : Nat} {ds : List Dc} (h : DX w g cap m ds) : Dcs w (.slice (some ⟨g, 0, none⟩) ds.length cap) ds := by
 obtain ⟨ts, h1, h2, h3⟩ := h.r
 exact Dcs.ofRow h2 h1 fun i d t hd ht => (h3 i d t hd ht).get
theorem DX.set {w : World} {g cap m : Nat} {ds : List Dc} (h : DX w g cap m ds) {i j : Nat} {d d' : Dc} {u : Value} (hi : ds[i]? = some d) (hj : j < 4) (hr : d'.revs = d.revs) (e : ∀ t, docL d' t = (docL d t).set j u) : DX (w.setCell ⟨g, i * 4 + j, none⟩ u) g cap m (ds.set i d') := by
 obtain ⟨ts, h1, h2, h3⟩ := h.r
 have hil := (List.getElem?_eq_some_iff.1 hi).1
 obtain ⟨t, ht⟩ : ∃ t, ts[i]? = some t := ⟨_, List.getElem?_eq_getElem (by omega)⟩
 refine ⟨by simpa using h.m0, ts, by simpa using h1, ?_, fun k x y hk hy => ?_⟩
 ·have hs := h2.setCell (o := i * 4 + j) (by rw [flatC_len docL_len ds ts h1]; omega) u
  rw [flatC_set docL_len ds ts h1 hi ht hj (e t), show ts.set i t = ts from by
   refine List.ext_getElem? fun n => ?_
   rw [List.getElem?_set]
   split
   ·rename_i hin
    subst hin
    split
    ·exact ht.symm
    ·rename_i hn; exact absurd (by omega) hn
   ·rfl] at hs
  rw [List.length_set]
  exact hs
 ·have hag : Ag (Lo m g) w (w.setCell ⟨g, i * 4 + j, none⟩ u) := ag_set
  rw [List.getElem?_set] at hk
  split at hk
  ·rename_i hik
   subst hik
   cases hk
   rw [hr]
   exact (h3 i d y hi hy).on hag
  ·exact (h3 k x y hk hy).on hag
structure OR (w : World) (q cap m g : Nat) (rs : List Rv) : Prop where
 m0 : m ≤ q
 n0 : q ≠ g
 r : ∃ us : List Value, us.length = rs.length ∧ RowX w q 67 5 (.slice (some ⟨q, 0, none⟩) rs.length cap) rs.length (flatC revL rs us) ∧ ∀ (i : Nat) (r : Rv) (u : Value), rs[i]? = some r → us[i]? = some u → TS (Lo m g) w u r.t
theorem OR.lt {w : World} {q cap m g : Nat} {rs : List Rv} (h : OR w q cap m g rs) : q < w.heap.size ∧ rs.length ≤ cap ∧ cap ≤ maxLen := by
 obtain ⟨ts, -, hr, -⟩ := h.r
 exact ⟨hr.lt.2.1, hr.lt.2.2⟩
theorem OR.rs {w : World} {q cap m g : Nat} {rs : List Rv} (h : OR w q cap m g rs) : RS (Lo (q + 1) g) w (.slice (some ⟨q, 0, none⟩) rs.length cap) rs := by
 obtain ⟨us, h1, h2, h3⟩ := h.r
 refine ⟨some ⟨q, 0, none⟩, cap, rfl, h2.lt.2.2.1, h2.lt.2.2.2, fun i r hi => ?_⟩
 have hil := (List.getElem?_eq_some_iff.1 hi).1
 obtain ⟨t, ht⟩ : ∃ t, us[i]? = some t := ⟨_, List.getElem?_eq_getElem (by omega)⟩
 refine ⟨q, 0, t, rfl, ⟨by omega, h.n0⟩, fun j u hj => ?_, (h3 i r t hi ht).mono fun b hb => ⟨by have := hb.1; have := h.m0; omega, hb.2⟩⟩
 have hj5 : j < 5 := by rw [← revL_len r t]; exact (List.getElem?_eq_some_iff.1 hj).1
 have hg := flatC_get revL_len rs us hi ht hj5
 rw [hj] at hg
 have := h2.cell hg
 simpa using this
theorem OR.frozen {w : World} {q cap m g : Nat} {rs : List Rv} (h : OR w q cap m g rs) (o : Nat) : w.frozen? ⟨q, o, none⟩ = false := by
 obtain ⟨ts, -, hr, -⟩ := h.r
 exact hr.frozen o
theorem OR.cells {w : World} {q cap m g : Nat} {rs : List Rv} (h : OR w q cap m g rs) {i : Nat} {r : Rv} (hi : rs[i]? = some r) : ∃ u, w.rangeAt q (i * 5) (revL r u) ∧ TS (Lo m g) w u r.t := by
 obtain ⟨us, h1, h2, h3⟩ := h.r
 have hil := (List.getElem?_eq_some_iff.1 hi).1
 obtain ⟨t, ht⟩ : ∃ t, us[i]? = some t := ⟨_, List.getElem?_eq_getElem (by omega)⟩
 refine ⟨t, fun j u hj => ?_, h3 i r t hi ht⟩
 have hj5 : j < 5 := by rw [← revL_len r t]; exact (List.getElem?_eq_some_iff.1 hj).1
 have hg := flatC_get revL_len rs us hi ht hj5
 rw [hj] at hg
 exact h2.cell hg
theorem OR.on {w w' : World} {q cap m g : Nat} {rs : List Rv} (h : OR w q cap m g rs) (hq : w'.heap[q]? = w.heap[q]?) (ha : Ag (Lo m g) w w') : OR w' q cap m g rs := by
 obtain ⟨us, h1, h2, h3⟩ := h.r
 exact ⟨h.m0, h.n0, us, h1, h2.blk hq, fun i r u hr hu => (h3 i r u hr hu).on ha⟩
theorem OR.setBack {w : World} {q cap m g : Nat} {rs : List Rv} (h : OR w q cap m g rs) {i : Nat} {r : Rv} (hi : rs[i]? = some r) (b : Bool) : OR (w.setCell ⟨q, i * 5 + 3, none⟩ (.bool b)) q cap m g (rs.set i { r with back := b }) := by
 obtain ⟨us, h1, h2, h3⟩ := h.r
 have hil := (List.getElem?_eq_some_iff.1 hi).1
 obtain ⟨t, ht⟩ : ∃ t, us[i]? = some t := ⟨_, List.getElem?_eq_getElem (by omega)⟩
 have hag : Ag (Lo m g) w (w.setCell ⟨q, i * 5 + 3, none⟩ (.bool b)) := ag_far h.m0
 refine ⟨h.m0, h.n0, us, by simpa using h1, ?_, fun k x y hk hy => ?_⟩
 ·have hs := h2.setCell (o := i * 5 + 3) (by rw [flatC_len revL_len rs us h1]; omega) (.bool b)
  rw [flatC_set (a' := { r with back := b }) (v' := t) revL_len rs us h1 hi ht (by decide) rfl, show us.set i t = us from by
   refine List.ext_getElem? fun n => ?_
   rw [List.getElem?_set]
   split
   ·rename_i hin
    subst hin
    split
    ·exact ht.symm
    ·rename_i hn; exact absurd (by omega) hn
   ·rfl] at hs
  rw [List.length_set]
  exact hs
 ·rw [List.getElem?_set] at hk
  split at hk
  ·rename_i hik
   subst hik
   cases hk
   exact (h3 i r y hi hy).on hag
  ·exact (h3 k x y hk hy).on hag
structure PD (w : World) (g o m : Nat) (d : Dc) : Prop where
 m0 : m ≤ w.heap.size
 g0 : g < w.heap.size
 f : ∀ p, w.frozen? ⟨g, p, none⟩ = false
 r : ∃ rv, w.rangeAt g o (docL d rv) ∧ RS (Lo m g) w rv d.revs
theorem DX.pd {w : World} {g cap m : Nat} {ds : List Dc} (h : DX w g cap m ds) {i : Nat} {d : Dc} (hi : ds[i]? = some d) : PD w g (i * 4) m d := ⟨h.m0, h.lt.1, h.frozen, h.doc hi⟩
theorem PD.below {w w' : World} {g o m : Nat} {d : Dc} (h : PD w g o m d) (hb : Below w.heap.size w w') : PD w' g o m d := by
 obtain ⟨rv, h1, h2⟩ := h.r
 have hg := hb.block g h.g0
 refine ⟨Nat.le_trans h.m0 hb.size, Nat.lt_of_lt_of_le h.g0 hb.size, fun p => ?_, rv, rangeAt_ag h1 hg, h2.on (ag_below hb h.m0)⟩
 have := h.f p
 unfold World.frozen? at this ⊢
 simpa [hg] using this
theorem RS.nth {S : Nat → Prop} {w : World} {v : Value} {rs : List Rv} (h : RS S w v rs) {i : Nat} {r : Rv} (hi : rs[i]? = some r) : ∃ b o cap tv, v = .slice (some ⟨b, o, none⟩) rs.length cap ∧ w.rangeAt b (o + i * 5) (revL r tv) ∧ TS S w tv r.t := by
 obtain ⟨ao, cap, e, h1, h2, h3⟩ := h
 obtain ⟨b, o, tv, rfl, -, hr, ht⟩ := h3 i r hi
 exact ⟨b, o, cap, tv, e, hr, ht⟩
set_option maxRecDepth 100000 in
set_option maxHeartbeats 8000000 in
theorem current_any (g o m : Nat) (d : Dc) (r : Rv) (w : World) (h : PD w g o m d) (k : Nat) (hk : d.revs.length = k + 1) (hr : d.revs[k]? = some r) :
  Calls Tryz.prog 164 #[.pointer (some ⟨g, o, none⟩)] w fun e w' => (∃ tv, e = .returned tv ∧ TS (Lo m g) w tv r.t) ∧ Below w.heap.size w w' := by
 obtain ⟨rv, h1, h2⟩ := h.r
 obtain ⟨b, p, cap, tv, rfl, h3, h4⟩ := h2.nth hr
 have hlen : (k + 1 : Nat) ≤ 9223372036854775807 := by
  obtain ⟨ao, c, e, e1, e2, -⟩ := h2
  rw [hk] at e1
  unfold maxLen at e2
  omega
 have hlen' : (k : Int) + 1 ≤ 9223372036854775807 := by omega
 rw [hk] at h1
 have c3 : w.cell? ⟨g, o + 3, none⟩ = some (.slice (some ⟨b, p, none⟩) (k + 1) cap) := h1 3 _ rfl
 have c4 : w.cell? ⟨b, p + k * 5 + 4, none⟩ = some tv := h3 4 _ rfl
 have hi1 : ¬ ((k : Int) < 0) := by omega
 have hi2 : (k : Int) < ((k + 1 : Nat) : Int) := by omega
 clear h1 h2 h3 h hr hk
 have H4 := Lib.hid h4
 clear h4
 go_enter Tryz.func164, Tryz.ntmps164
 go_upto_region 1 with fail
 go_quiet (fail)
 have hb : Below w.heap.size w (w.drewN nq) := below_drewN (Below.refl _ _) nq
 go_wp2_with fail
 go_ret
 exact ⟨⟨_, rfl, H4.out⟩, hb⟩
def changedB (r : Rv) (u : ByteArray) : Bool := (decide (r.kind = 2) || decide (r.kind = 3)) && decide (r.by_ = u)
set_option maxRecDepth 100000 in
set_option maxHeartbeats 8000000 in
theorem changed_any (r : Rv) (tv : Value) (u : ByteArray) (w : World) (ho : tv.oneCell' = true) :
  Calls Tryz.prog 166 #[.agg (revL r tv).toArray, .string u] w fun e w' => e = .returned (.bool (changedB r u)) ∧ Below w.heap.size w w' := by
 obtain ⟨kd, by_, bs, bk, t⟩ := r
 unfold changedB revL
 dsimp only
 go_enter Tryz.func166, Tryz.ntmps166
 go_upto_region 1 with fail
 obtain ⟨w1, hw1⟩ : ∃ y, y = w.alloc (.cells #[.int .i64 kd, .string by_, .int .i64 bs, .bool bk, tv] 67) := ⟨_, rfl⟩
 obtain ⟨g, hg⟩ : ∃ y, y = w.heap.size := ⟨_, rfl⟩
 have hb : Below w.heap.size w w1 := by rw [hw1]; exact below_box _ _
 have c0 : w1.cell? ⟨g, 0, none⟩ = some (.int .i64 kd) := by rw [hw1, hg]; simp [go_sem]
 have c1 : w1.cell? ⟨g, 1, none⟩ = some (.string by_) := by rw [hw1, hg]; simp [go_sem]
 rw [← hw1, ← hg]
 have HB := Lib.hid hb
 clear hw1 hg hb ho
 by_cases h2 : kd = 2
 ·subst h2
  by_cases hu : by_ = u
  ·subst hu
   go_wp2_with fail
   go_ret
   exact ⟨by simp, HB.out⟩
  ·have hu' : decide (by_ = u) = false := decide_eq_false hu
   go_wp2_with fail
   go_ret
   exact ⟨ret_bool (by simp [bytes_ne hu]), HB.out⟩
 ·have h2' : decide (kd = 2) = false := decide_eq_false h2
  by_cases h3 : kd = 3
  ·subst h3
   by_cases hu : by_ = u
   ·subst hu
    go_wp2_with fail
    go_ret
    exact ⟨by simp, HB.out⟩
   ·have hu' : decide (by_ = u) = false := decide_eq_false hu
    go_wp2_with fail
    go_ret
    exact ⟨ret_bool (by simp [bytes_ne hu]), HB.out⟩
  ·have h3' : decide (kd = 3) = false := decide_eq_false h3
   go_wp2_with fail
   go_ret
   exact ⟨by simp [h2', h3'], HB.out⟩
theorem flatC_one {α : Type} {f : α → Value → List Value} {rs : List α} {ts : List Value} (ht : ts.length = rs.length) (h : ∀ (i : Nat) (r : α) (t : Value), rs[i]? = some r → ts[i]? = some t → ∀ u ∈ f r t, u.oneCell' = true) : ∀ u ∈ flatC f rs ts, u.oneCell' = true := by
 intro u hu
 unfold flatC at hu
 obtain ⟨l, hl, hul⟩ := List.mem_flatten.1 hu
 obtain ⟨i, hi, e⟩ := List.getElem_of_mem hl
 rw [List.getElem_zipWith] at e
 rw [List.length_zipWith] at hi
 subst e
 exact h i _ _ (List.getElem?_eq_getElem (by omega)) (List.getElem?_eq_getElem (by omega)) u hul
theorem flatC_snoc {α : Type} (f : α → Value → List Value) (rs : List α) (ts : List Value) (ht : ts.length = rs.length) (r : α) (t : Value) : flatC f (rs ++ [r]) (ts ++ [t]) = flatC f rs ts ++ f r t := by
 unfold flatC
 rw [List.zipWith_append ht.symm]
 simp
theorem Tk.one {w : World} {v : Value} {l : List Trk.Clip} (h : Tk w v l) : v.oneCell' = true := by
 obtain ⟨ao, cap, rfl, -⟩ := h
 rfl
theorem revL_one {r : Rv} {t : Value} (h : t.oneCell' = true) : ∀ u ∈ revL r t, u.oneCell' = true := by
 intro u hu
 simp only [revL, List.mem_cons, List.not_mem_nil, or_false] at hu
 rcases hu with rfl | rfl | rfl | rfl | rfl <;> first | rfl | exact h
theorem RS.row {S : Nat → Prop} {w : World} {v : Value} {rs : List Rv} (h : RS S w v rs) (hn : rs ≠ []) : ∃ ts : List Value, ts.length = rs.length ∧ Row w v rs.length 5 (flatC revL rs ts) ∧ ∀ (i : Nat) (r : Rv) (t : Value), rs[i]? = some r → ts[i]? = some t → TS S w t r.t := by
 obtain ⟨ao, cap, rfl, h1, h2, h3⟩ := h
 obtain ⟨r0, rs', rfl⟩ : ∃ r0 rs', rs = r0 :: rs' := by
  cases rs with
  | nil => exact absurd rfl hn
  | cons a l => exact ⟨a, l, rfl⟩
 obtain ⟨b, o, _, rfl, _, _⟩ := h3 0 r0 rfl
 obtain ⟨ts, ht, hp⟩ := pick_list (r0 :: rs') (fun i r tv => w.rangeAt b (o + i * 5) (revL r tv) ∧ TS S w tv r.t) (fun i r hi => by
  obtain ⟨b', o', tv, e, -, hr, hk⟩ := h3 i r hi
  simp only [Option.some.injEq, Addr.mk.injEq, and_true] at e
  obtain ⟨rfl, rfl⟩ := e
  exact ⟨tv, hr, hk⟩)
 have hf : ∀ r t, (revL r t).length = 5 := fun _ _ => rfl
 refine ⟨ts, ht, ⟨b, o, cap, rfl, h1, h2, flatC_len hf _ _ ht, fun j u hj => ?_⟩, fun i r t hi hj => (hp i r t hi hj).2⟩
 have hlt := (List.getElem?_eq_some_iff.1 hj).1
 rw [flatC_len hf _ _ ht] at hlt
 have hi : j / 5 < (r0 :: rs').length := by omega
 obtain ⟨r, hr⟩ : ∃ r, (r0 :: rs')[j / 5]? = some r := ⟨_, List.getElem?_eq_getElem hi⟩
 obtain ⟨t, htt⟩ : ∃ t, ts[j / 5]? = some t := ⟨_, List.getElem?_eq_getElem (by omega)⟩
 have hg := flatC_get hf _ _ hr htt (Nat.mod_lt j (show 0 < 5 by decide))
 rw [show j / 5 * 5 + j % 5 = j by omega, hj] at hg
 have hc := (hp _ r t hr htt).1 (j % 5) u hg.symm
 rw [show o + j / 5 * 5 + j % 5 = o + j by omega] at hc
 exact hc
theorem below_set_both {n : Nat} {a b : World} (h : Below n a b) (p : Addr) (u : Value) : Below n (a.setCell p u) (b.setCell p u) :=
 ⟨h.os, h.tape, h.output, by simpa [World.setCell] using h.size, fun k hk => by simp [World.setCell, Array.getElem?_modify, h.block k hk]⟩
theorem RowX.raise {w : World} {B k s g cap : Nat} {E : TypeId} {xs : List Value} (h : RowX w B E s (.slice (some ⟨g, 0, none⟩) k cap) k xs) : RowX w g E s (.slice (some ⟨g, 0, none⟩) k cap) k xs := by
 rcases h with ⟨e, _⟩ | ⟨g', cap', cur, e, hB, h⟩
 ·simp at e
 ·simp only [Value.slice.injEq, Option.some.injEq, Addr.mk.injEq, and_true, true_and] at e
  obtain ⟨rfl, rfl⟩ := e
  exact .inr ⟨g, cap, cur, rfl, Nat.le_refl _, h⟩
set_option maxRecDepth 100000 in
theorem built_rev (r : Rv) (t : Value) : Tryz.prog.builtSlice 67 1 [(0, .agg (revL r t).toArray)] = some (revL r t).toArray := by kernel_rfl
def adG (n : Nat) (xs ys : List Value) (i lo hi : Nat) (v : Value) (w : World) : Prop := if i = 5 then RowX w lo 67 5 v n xs else RowX w lo 67 5 v 1 ys
theorem adG.ext {n : Nat} {xs ys : List Value} (i lo hi : Nat) (v : Value) (w w' : World) (h : adG n xs ys i lo hi v w) (hb : Plan.Ext w w') : adG n xs ys i lo hi v w' := by
 unfold adG at h ⊢
 split <;> rename_i hi <;> simp only [hi, if_true, if_false] at h <;> exact h.below hb
def adS : List (Nat × Tmp) := [(5, 9), (7, 11)]
set_option maxRecDepth 100000 in
set_option maxHeartbeats 8000000 in
theorem addrev_any (g o m : Nat) (d : Dc) (r : Rv) (tv : Value) (w : World) (h : PD w g o m d) (h0 : d.revs ≠ []) (h1 : d.revs.length ≤ 1000) (ht : TS (Lo w.heap.size g) w tv r.t) :
  Calls Tryz.prog 165 #[.pointer (some ⟨g, o, none⟩), .agg (revL r tv).toArray] w fun e w' => e = .returned (.tuple #[]) ∧ ∃ q cap, w.heap.size ≤ q ∧ Below w.heap.size (w.setCell ⟨g, o + 3, none⟩ (.slice (some ⟨q, 0, none⟩) (d.revs.length + 1) cap)) w' ∧ OR w' q cap w.heap.size g (d.revs ++ [r]) := by
 obtain ⟨rv, hc, hr⟩ := h.r
 obtain ⟨ts, hts, hrow, hT⟩ := hr.row h0
 have c3 : w.cell? ⟨g, o + 3, none⟩ = some rv := hc 3 _ rfl
 have hf := h.f (o + 3)
 have hpos : 0 < d.revs.length := List.length_pos_iff.2 h0
 have hO : ∀ u ∈ flatC revL d.revs ts, u.oneCell' = true := flatC_one hts fun i r t hi hj => revL_one (hT i r t hi hj).get.one
 obtain ⟨xs, hxs⟩ : ∃ xs, xs = flatC revL d.revs ts := ⟨_, rfl⟩
 rw [← hxs] at hrow hO
 obtain ⟨C, hC⟩ : ∃ C, C = (revL r tv).toArray := ⟨_, rfl⟩
 rw [← hC]
 have HC := Lib.hid hC
 have HTV := Lib.hid ht
 have HG := Lib.hid (show g < w.heap.size ∧ m ≤ w.heap.size from ⟨h.g0, h.m0⟩)
 have HX := Lib.hid (show ts.length = d.revs.length ∧ xs = flatC revL d.revs ts from ⟨hts, hxs⟩)
 have HTS := Lib.hid hT
 have HRW := Lib.hid hrow
 have HO := Lib.hid hO
 have HN := Lib.hid (show 0 < d.revs.length ∧ d.revs.length ≤ 1000 from ⟨hpos, h1⟩)
 obtain ⟨ra, rc, ro, hrv, -⟩ := hrow
 clear hc hr hts hxs hT hO hpos h1 h0 h ht hC
 obtain ⟨n, hn⟩ : ∃ n, n = d.revs.length := ⟨_, rfl⟩
 rw [← hn] at HRW HN hrv ⊢
 subst hrv
 have HNN := Lib.hid hn
 clear hn
 go_enter Tryz.func165, Tryz.ntmps165
 go_upto_region 1 with fail
 obtain ⟨w1, hw1⟩ : ∃ y, y = w.alloc (.cells C 67) := ⟨_, rfl⟩
 obtain ⟨p, hp⟩ : ∃ y, y = w.heap.size := ⟨_, rfl⟩
 have hb : Below w.heap.size w w1 := by rw [hw1]; exact below_box _ _
 have hcr : w1.rangeAt p 0 (revL r tv) := by
  rw [hw1, hp, HC.out]
  intro j u hj
  unfold World.cell?
  rw [(MapKept.heap_alloc w _).1]
  simpa using hj
 rw [← hw1, ← hp]
 have HCR := Lib.hid hcr
 replace c3 := (hb.cell (p := ⟨g, o + 3, none⟩) HG.out.1).trans c3
 have hf1 := (hb.frozen (p := ⟨g, o + 3, none⟩) HG.out.1).trans hf
 have HF := Lib.hid (show w1.frozen? ⟨g, o + 3, none⟩ = false ∧ g < w1.heap.size from ⟨hf1, Nat.lt_of_lt_of_le HG.out.1 hb.size⟩)
 have HC3 := Lib.hid c3
 replace HRW := Lib.hid (HRW.out.below hb)
 have HB := Lib.hid hb
 have HP := Lib.hid hp
 clear hw1 hp hcr hf hf1 hb
 clear c3
 refine Plan.wp_region_freshw (fun w' => Below w1.heap.size w1 w') 11 (adG n xs (revL r tv)) ([0, 1, 2, 3, 4, 6].map (·, true)) adS ([8].map (·, false) ++ ([9, 10].map (·, true) ++ [11].map (·, false))) 15 (by kernel_rfl) (by kernel_rfl) (by kernel_rfl) (Below.refl _ _).drew (fun wa wb ha hb => ha.trans (hb.mono ha.size)) adG.ext ?_
 refine' Plan.plan_seg _ [0, 1, 2, 3, 4, 6] [] (by kernel_rfl) (by kernel_rfl) rfl (by exact (Below.refl _ _).drew) (fun wx hS => ?_) ?_
 rotate_left
 ·have c3' := (hS.cell (p := ⟨g, o + 3, none⟩) HF.out.2).trans HC3.out
  have HR2 := Lib.hid (rangeAt_below HCR.out (by simp [revL]) (hS.mono (Nat.le_refl _)))
  clear hS
  go_light
  iterate 5 (apply Plan.seg_pick; rfl; intro K hK; go_wp)
  (apply Plan.seg_pick; rfl; intro K hK)
  refine wpl_loadR HR2.out rfl rfl rfl ?_
  go_wp
  exact Plan.seg_nil
 refine Plan.plan_nil ?_
 simp only [Act.put, List.setIfInBounds_toArray, List.set_cons_succ, List.set_cons_zero]
 refine Plan.fresh_at_gen (fun A => A.tmps.size = 15 ∧ A.tmps[8]? = some (.slice (some ⟨ra, rc, none⟩) n ro) ∧ A.tmps[10]? = some (.agg (revL r tv).toArray)) ⟨rfl, rfl, rfl⟩ rfl (fun Aq hA => ?_) ?_
 ·obtain ⟨hsz, e8, e10⟩ := hA
  intro p' hp o ho vs wx lo hi hS hE hG K hK
  simp only [adS, List.mem_cons, List.not_mem_nil, or_false] at hp
  rcases hp with rfl | rfl
  all_goals obtain rfl := Option.some.inj ho
  ·have t8 : (Plan.puts vs adS Aq).eval (.tmp 8) = .slice (some ⟨ra, rc, none⟩) n ro := by rw [Plan.eval_out (by decide)]; simp [Act.eval, Array.getD_eq_getD_getElem?, e8]
   refine Plan.one_call rfl 106 Tryz.func106 (by kernel_rfl) (by kernel_rfl) #[.tmp 8] #[63] rfl #[.slice (some ⟨ra, rc, none⟩) n ro] (by simp only [List.map_toArray, List.map_cons, List.map_nil, t8]) (fun v w' => RowX w' wx.heap.size 67 5 v n xs ∧ Below wx.heap.size wx w') ?_ (fun v w' hR => hK _ _ (by unfold adG; rw [if_pos rfl]; exact hR.1) hR.2)
   refine (clonerevs_any _ n xs wx (HRW.out.below hS) HN.out.1 (by have := HN.out.2; omega) HO.out).mono ?_
   rintro e w' ⟨v', rfl, h1, h2⟩
   exact ⟨_, rfl, h1, h2⟩
  ·have t10 : (Plan.puts vs adS Aq).eval (.tmp 10) = .agg (revL r tv).toArray := by rw [Plan.eval_out (by decide)]; simp [Act.eval, Array.getD_eq_getD_getElem?, e10]
   refine Great.wpList_buildSliceTo rfl 63 67 1 #[(0, .tmp 10)] rfl wx.heap.size rfl (some 11) rfl Tryz.underlying63 (revL r tv).toArray ?_ ?_
   ·simp only [List.map_toArray, List.map_cons, List.map_nil, List.toList_toArray, t10]
    exact built_rev r tv
   have hrow : RowX (wx.alloc (.cells (revL r tv).toArray 67)) wx.heap.size 67 5 (.slice (some ⟨wx.heap.size, 0, none⟩) 1 1) 1 (revL r tv) := .inr ⟨wx.heap.size, 1, (revL r tv).toArray, rfl, Nat.le_refl _, (MapKept.heap_alloc wx _).1, Nat.le_refl _, by unfold maxLen; omega, rfl, rfl, rfl⟩
   have hb : Below wx.heap.size wx (wx.alloc (.cells (revL r tv).toArray 67)) := below_box _ _
   refine wpList_nil ?_
   exact hK _ _ (by unfold adG; rw [if_neg (by decide)]; exact hrow) hb
 ·intro vs lo hi w4 hS hE hall hap
  have h5 : RowX w4 (lo 5) 67 5 (vs 5) n xs := by have := (hall (5, 9) (by decide)).1; unfold adG at this; rwa [if_pos rfl] at this
  have h7 : RowX w4 (lo 7) 67 5 (vs 7) 1 (revL r tv) := by have := (hall (7, 11) (by decide)).1; unfold adG at this; rwa [if_neg (by decide)] at this
  have hlo : w1.heap.size ≤ lo 5 := by simpa using (hall (5, 9) (by decide)).2.1
  have hlo2 : lo 5 ≤ w4.heap.size := by
   rcases h5 with ⟨e, e2, _⟩ | ⟨g', cap', cur, e, hB, hg, _⟩
   ·have := HN.out.1; omega
   ·exact Nat.le_trans hB (Nat.le_of_lt (Array.getElem?_eq_some_iff.1 hg).1)
  obtain ⟨g7, c7, e7⟩ : ∃ g7 c7, vs 7 = .slice (some ⟨g7, 0, none⟩) 1 c7 := by
   rcases h7 with ⟨_, e2, _⟩ | ⟨g', cap', cur, e, _⟩
   ·omega
   ·exact ⟨_, _, e⟩
  have hc7 : ∀ j u, (revL r tv)[j]? = some u → w4.cell? ((⟨g7, 0, none⟩ : Addr).add j) = some u := by
   intro j u hj
   rw [e7] at h7
   have := h7.cell hj
   rw [Addr.add_mid, Nat.zero_add]
   exact this
  obtain ⟨v5, hv5⟩ : ∃ x, x = vs 5 := ⟨_, rfl⟩
  simp only [adS, Plan.puts, Act.put, List.setIfInBounds_toArray, List.set_cons_succ, List.set_cons_zero]
  rw [e7]
  rw [← hv5] at h5 ⊢
  clear hall hap hE h7 e7 hv5
  have hw4 := hS
  have HW4 := Lib.hid hw4
  refine Plan.plan_of_effect rfl (fun K hK => ?_)
  obtain ⟨v', w5, hrun, r1, r2, r3, r4, r5⟩ := append_x w4 (lo 5) 63 67 5 64 z67 Tryz.underlying63 info67 zeros67 v5 n xs h5 hlo2 ⟨g7, 0, none⟩ 1 c7 (revL r tv) rfl hc7 (revL_one HTV.out.get.one) (by omega) (by have := HN.out.2; unfold maxLen; omega) (fun cap h1 h2 => growslice_fits h2 (by have := HN.out.2; omega))
  have HQ := Lib.hid (And.intro r1 r2)
  have HL := Lib.hid (And.intro hlo hlo2)
  clear r1 r2 r3 r4 r5 h5 hc7 hw4 hlo hlo2
  refine Lib.wpList_append_run (P := Tryz.prog) w4 rfl (.tmp 9) (.tmp 11) 63 63 rfl v5 (.slice (some ⟨g7, 0, none⟩) 1 c7) rfl rfl _ _ hrun ?_
  clear hrun
  simp only [Act.put, List.setIfInBounds_toArray, List.set_cons_succ, List.set_cons_zero]
  have hs5 : Below w1.heap.size w1 w5 := HW4.out.trans (HQ.out.2.mono HL.out.1)
  refine wpList_nil ?_
  refine hK _ _ ⟨hs5, ?_⟩
  refine' Plan.plan_seg _ [9, 10] [(11, false)] (by kernel_rfl) (by kernel_rfl) rfl (by exact hs5) (fun wx hS => ?_) ?_
  rotate_left
  ·clear hS
   go_light
   iterate 2 (apply Plan.seg_pick; rfl; intro K hK; go_wp)
   exact Plan.seg_nil
  refine Plan.plan_of_last rfl (fun K hK => ?_)
  obtain ⟨q, cap, rfl⟩ : ∃ q cap, v' = .slice (some ⟨q, 0, none⟩) (n + 1) cap := by
   rcases HQ.out.1 with ⟨_, e2, _⟩ | ⟨g', cap', cur, e, _⟩
   ·omega
   ·exact ⟨_, _, e⟩
  have hcell := (hs5.cell (p := ⟨g, o + 3, none⟩) HF.out.2).trans HC3.out
  have hfr := (hs5.frozen (p := ⟨g, o + 3, none⟩) HF.out.2).trans HF.out.1
  have HS5 := Lib.hid hs5
  clear hs5 hS HW4
  go_wp2_with fail
  refine Plan.plan_done ?_
  go_wp2_with fail
  go_returns
  have hb5 : Below w.heap.size w w5 := HB.out.trans (HS5.out.mono HB.out.size)
  have hqr : RowX w5 q 67 5 (.slice (some ⟨q, 0, none⟩) (n + 1) cap) (n + 1) (xs ++ revL r tv) := HQ.out.1.raise
  have hql := HQ.out.1.lt
  have hqg : q ≠ g := by have := HL.out.1; have := HB.out.size; have := HG.out.1; omega
  have hqw : w.heap.size ≤ q := by have := HL.out.1; have := HB.out.size; omega
  have hag : Ag (Lo w.heap.size g) w (w5.setCell ⟨g, o + 3, none⟩ (.slice (some ⟨q, 0, none⟩) (n + 1) cap)) := (ag_below hb5 (Nat.le_refl _)).trans ag_set
  refine ⟨rfl, q, cap, hqw, below_set_both hb5 _ _, hqw, hqg, ts ++ [tv], by simp [HX.out.1], ?_, fun i r' u hr' hu => ?_⟩
  ·rw [flatC_snoc revL d.revs ts HX.out.1, ← HX.out.2, List.length_append, List.length_singleton, ← HNN.out]
   exact hqr.blk (setCells_other g q hqg [_] (o + 3) w5)
  ·by_cases hi : i < d.revs.length
   ·rw [List.getElem?_append_left hi] at hr'
    rw [List.getElem?_append_left (by rw [HX.out.1]; exact hi)] at hu
    exact ((HTS.out i r' u hr' hu).mono fun b hb => (⟨Nat.lt_of_lt_of_le hb.1 HG.out.2, hb.2⟩ : Lo w.heap.size g b)).on hag
   ·have h1 := (List.getElem?_eq_some_iff.1 hr').1
    rw [List.length_append, List.length_singleton] at h1
    have h2 : i = d.revs.length := by omega
    subst h2
    rw [List.getElem?_append_right (Nat.le_refl _)] at hr'
    rw [List.getElem?_append_right (by rw [HX.out.1]; exact Nat.le_refl _), HX.out.1] at hu
    simp only [Nat.sub_self, List.getElem?_cons_zero, Option.some.injEq] at hr' hu
    subst hr' hu
    exact HTV.out.on hag
structure Iv (a : Int) (E : Trk.Ed) (en by_ : Int) : Prop where
 p : E.p = a
 v : ExV 1000000 E
 l : E.put.length ≤ 3
 z : ∀ c ∈ E.put, c.a.name.size ≠ 1
 t0 : 1 ≤ E.T
 t1 : E.T ≤ 27
 e : en = a + E.rem
 b : by_ = Trk.total E.put - E.rem
 r0 : 0 ≤ E.rem
 r1 : E.rem ≤ 27
 u0 : 0 ≤ Trk.total E.put
 u1 : Trk.total E.put ≤ 27
theorem TP.far {w w' : World} {B p k g : Nat} (h : TP w B p k) (hg : p < g) (hb : ∀ n w0, n ≤ g → Below n w0 w → Below n w0 w') : TP w' B p k :=
 h.low (n := p + 1) (by have := h.1; omega) (by omega) (hb (p + 1) w (by omega) (Below.refl _ _))
def edAt (E : Trk.Ed) (p : Int) : Trk.Ed := { E with p := p }
theorem Iv.move {a en by_ : Int} {E : Trk.Ed} (h : Iv a E en by_) {a' : Int} (h0 : 0 ≤ a') (h1 : a' ≤ 2000) : Iv a' (edAt E a') (a' + E.rem) by_ := by
 refine ⟨rfl, ⟨⟨h.v.x.k, h0, h.v.x.g, h.v.x.i, h.v.x.t⟩, h.v.v, h.v.m, by show a' ≤ _; omega, h.v.t, h.v.c, h.v.d, h.v.sn, h.v.sd⟩, h.l, h.z, h.t0, h.t1, rfl, h.b, h.r0, h.r1, h.u0, h.u1⟩
structure Pr (E F : Trk.Ed) (a1 a2 b1 : Int) : Prop where
 e : ∃ n1, Iv a1 E n1 b1
 f : ∃ n2 b2, Iv a2 F n2 b2
 c0 : 0 ≤ a1
 c1 : a1 ≤ 19
 s0 : a1 + E.rem + 1 ≤ a2
 s1 : a2 ≤ a1 + E.rem + 12
structure E3 (w : World) (g2 g3 g4 : Nat) (E F : Trk.Ed) (q : Int) (V U : Value) : Prop where
 a : ED w g2 E.k E.p E.m E.c E.d E.sn E.sd V
 b : ED w g3 F.k F.p F.m F.c F.d F.sn F.sd U
 c : ED w g4 F.k q F.m F.c F.d F.sn F.sd U
theorem E3.below {w w' : World} {g2 g3 g4 : Nat} {E F : Trk.Ed} {q : Int} {V U : Value} (h : E3 w g2 g3 g4 E F q V U) (hb : Below w.heap.size w w') : E3 w' g2 g3 g4 E F q V U := ⟨h.a.below hb, h.b.below hb, h.c.below hb⟩
theorem TP.store {w w' : World} {B p k g : Nat} (h : TP w B p k) (hg : B ≤ g) (hp : p ≠ g) (hs : ∀ b2, b2 ≠ g → w'.heap[b2]? = w.heap[b2]?) (hz : w'.heap.size = w.heap.size) : TP w' B p k := by
 obtain ⟨h1, h2, ao, m, c, c0, c1, hf, h3, h4, h5⟩ := h
 refine ⟨h1, by rw [hz]; exact h2, ao, m, c, (World.cell?_of_block (a := ⟨p, 0, none⟩) (hs p hp)).trans c0, (World.cell?_of_block (a := ⟨p, 1, none⟩) (hs p hp)).trans c1, (World.frozen?_of_block (a := ⟨p, 1, none⟩) (hs p hp)).trans hf, h3, h4, fun i hi => ?_⟩
 obtain ⟨b, o, x, e, hbB, hc⟩ := h5 i hi
 exact ⟨b, o, x, e, hbB, (World.cell?_of_block (a := ⟨b, o + i, none⟩) (hs b (by omega))).trans hc⟩
theorem OT.store {w w' : World} {B g : Nat} {V : Value} {l : List Trk.Clip} (h : OT w B V l) (hg : g < B) (hs : ∀ b2, b2 ≠ g → w'.heap[b2]? = w.heap[b2]?) : OT w' B V l :=
 h.blocks fun x kk cp e => hs x (by have := (h.blk e).1; omega)
set_option maxRecDepth 100000 in
set_option maxHeartbeats 8000000 in
theorem docs_nil (w : World) : Calls Tryz.prog 102 #[.slice none 0 0] w fun e w' => e = .returned (.slice none 0 0) ∧ w' = w := by
 have hnil := fun w => Go.run_eql_slice_nil (P := Tryz.prog) w 53 65 none 0 0 Tryz.underlying53
 go_enter Tryz.func102, Tryz.ntmps102
 go_wp2_with fail
 go_ret
 exact ⟨rfl, rfl⟩
set_option maxRecDepth 100000 in
set_option maxHeartbeats 8000000 in
theorem fields_tick (w : World) : Calls Tryz.prog 101 #[.agg #[.int .i64 7, .string ⟨#[]⟩, .string ⟨#[]⟩, .int .i64 0, .int .i64 1, .slice none 0 0]] w fun e w' => e = .returned (.bool true) ∧ w' = w.alloc (.cells #[.int .i64 7, .string ⟨#[]⟩, .string ⟨#[]⟩, .int .i64 0, .int .i64 1, .slice none 0 0] 59) := by
 go_enter Tryz.func101, Tryz.ntmps101
 go_wp2_with fail
 go_ret
 exact ⟨rfl, rfl⟩
set_option maxRecDepth 100000 in
set_option maxHeartbeats 8000000 in
theorem convert_tick (w : World) : Calls Tryz.prog 62 #[.agg #[.int .i64 7, .string ⟨#[]⟩, .string ⟨#[]⟩, .int .i64 0, .int .i64 1, .slice none 0 0]] w fun e w' => e = .returned (.tuple #[.iface 154 (.agg #[.int .i64 1]), .bool true]) ∧ w' = ((w.alloc (.cells #[.int .i64 7, .string ⟨#[]⟩, .string ⟨#[]⟩, .int .i64 0, .int .i64 1, .slice none 0 0] 59)).alloc (.cells #[.int .i64 7, .string ⟨#[]⟩, .string ⟨#[]⟩, .int .i64 0, .int .i64 1, .slice none 0 0] 59)).alloc (.cells #[.int .i64 7, .string ⟨#[]⟩, .string ⟨#[]⟩] 142) := by
 go_enter Tryz.func62, Tryz.ntmps62
 go_wp2_with fail
 refine (fields_tick _).mono ?_
 rintro e w1 ⟨rfl, rfl⟩
 go_wp2_with fail
 go_ret2
 exact ⟨rfl, rfl⟩
set_option maxRecDepth 100000 in
set_option maxHeartbeats 8000000 in
theorem tick_none (w : World) : Calls Tryz.prog 103 #[.agg #[.int .i64 0, .slice none 0 0], .int .i64 1] w fun e w' => e = .returned (.tuple #[.agg #[.int .i64 1, .slice none 0 0], .slice none 0 0, .int .i64 0]) ∧ w' = (w.alloc (.cells #[.int .i64 1, .slice none 0 0] 55)).alloc (.cells #[.int .i64 1, .slice none 0 0] 55) := by
 go_enter Tryz.func103, Tryz.ntmps103
 go_wp2_with fail
 go_loop [7, 24] (fun v7 i => v7 = .slice none 0 0 ∧ i = .int .i64 0) (fun _ _ => 0)
 case atStart => exact ⟨rfl, rfl⟩
 case round =>
  obtain ⟨rfl, rfl⟩ := hrel
  go_wp2_with fail
  go_returns
  exact ⟨rfl, rfl⟩
set_option maxRecDepth 100000 in
set_option maxHeartbeats 8000000 in
theorem clone_none (n : Int) (w : World) : Calls Tryz.prog 64 #[.agg #[.int .i64 n, .slice none 0 0]] w fun e w' => e = .returned (.agg #[.int .i64 n, .slice none 0 0]) ∧ w' = (w.alloc (.cells #[.int .i64 n, .slice none 0 0] 55)).alloc (.cells #[.int .i64 n, .slice none 0 0] 55) := by
 go_enter Tryz.func64, Tryz.ntmps64
 go_wp2_with fail
 refine (docs_nil _).mono ?_
 rintro e w1 ⟨rfl, rfl⟩
 go_wp2_with fail
 go_loop [13] (fun i => i = .int .i64 0) (fun _ => 0)
 case atStart => rfl
 case round =>
  subst hrel
  go_wp2_with fail
  go_returns
  exact ⟨rfl, rfl⟩
set_option maxRecDepth 100000 in
set_option maxHeartbeats 8000000 in
theorem valid_none (w : World) : Calls Tryz.prog 38 #[.agg #[.int .i64 0, .slice none 0 0]] w fun e w' => e = .returned (.bool true) ∧ w' = (w.alloc (.cells #[.int .i64 0, .slice none 0 0] 55)).alloc (.map #[] 0) := by
 have hmm := @run_makeMap Tryz.prog
 go_enter Tryz.func38, Tryz.ntmps38
 go_wp2_with fail
 go_loop [24] (fun i => i = .int .i64 0) (fun _ => 0)
 case atStart => rfl
 case round =>
  subst hrel
  go_wp2_with fail
  go_returns
  exact ⟨rfl, rfl⟩
theorem ta_154_154 (x : Value) (w : World) : (Instr.typeAssert (.iface 154 x) 20 154 true).run Tryz.prog w = .ok (.tuple #[x, .bool true]) w := by
 simp [Instr.typeAssert, run_underlying Tryz.underlying154]
set_option maxRecDepth 100000 in
set_option maxHeartbeats 8000000 in
theorem step_none (w : World) : Calls Tryz.prog 63 #[.agg #[.int .i64 0, .slice none 0 0], .iface 154 (.agg #[.int .i64 1])] w fun e w' => e = .returned (.tuple #[.agg #[.int .i64 1, .slice none 0 0], .slice none 0 0, .int .i64 0]) ∧ w' = ((((w.alloc (.cells #[.int .i64 0, .slice none 0 0] 55)).alloc (.cells #[.int .i64 1, .slice none 0 0] 55)).alloc (.cells #[.int .i64 1] 154)).alloc (.cells #[.int .i64 1, .slice none 0 0] 55)).alloc (.cells #[.int .i64 1, .slice none 0 0] 55) := by
 have hta := ta_154_154
 go_enter Tryz.func63, Tryz.ntmps63
 go_wp2_with fail
 refine (docs_nil _).mono ?_
 rintro e w1 ⟨rfl, rfl⟩
 go_wp2_with fail
 refine (tick_none _).mono ?_
 rintro e w1 ⟨rfl, rfl⟩
 go_wp2_with fail
 go_returns
 exact ⟨rfl, rfl⟩
set_option maxRecDepth 100000 in
set_option maxHeartbeats 8000000 in
theorem step_tick (w : World) : Calls Tryz.prog 26 #[.agg #[.int .i64 0, .slice none 0 0], .agg #[.int .i64 7, .string ⟨#[]⟩, .string ⟨#[]⟩, .int .i64 0, .int .i64 1, .slice none 0 0]] w fun e w' => e = .returned (.tuple #[.agg #[.int .i64 1, .slice none 0 0], .slice none 0 0, .int .i64 0]) ∧ Below w.heap.size w w' := by
 go_enter Tryz.func26, Tryz.ntmps26
 go_wp2_with fail
 refine (valid_none _).mono ?_
 rintro e w1 ⟨rfl, rfl⟩
 go_wp2_with fail
 refine (convert_tick _).mono ?_
 rintro e w1 ⟨rfl, rfl⟩
 go_wp2_with fail
 refine (step_none _).mono ?_
 rintro e w1 ⟨rfl, rfl⟩
 go_wp2_with fail
 refine (clone_none _ _).mono ?_
 rintro e w1 ⟨rfl, rfl⟩
 go_wp2_with fail
 go_returns
 exact ⟨rfl, by go_grown⟩
def longC : Trk.Clip := ⟨150, 1, ⟨1, ⟨#[122]⟩, 0, 1, 1, 1, false⟩, Trk.black, 0, 0, 0, ByteArray.empty, 0, []⟩
theorem nf_long : Trk.nf [longC] = [longC] := rfl
theorem long_vt : VT 1000000 [longC] := by
 refine ⟨fun c hc => ?_, by decide, by decide⟩
 rw [List.mem_singleton] at hc
 subst hc
 have hn : Trk.okName ⟨#[122]⟩ := .inr ⟨122, rfl, by decide, by decide⟩
 have ha := tape_src0 (nm := ⟨#[122]⟩) (k := 1) (n := 0) (d := 1) (sn := 1) (sd := 1) (sm := false) (.inl rfl) hn ⟨by decide, by decide, by decide, by decide, by decide⟩ ⟨by decide, by decide, by decide, by decide, by decide⟩
 have hs : Trk.SrcIn 1000000 150 longC.a := by
  obtain ⟨h1, h2, h3, -, -, -, -⟩ := ha
  exact .inr ⟨h1, h2, h3, by decide, by decide, by decide, by decide, by decide, by decide⟩
 exact ⟨⟨hs, .inl rfl, rfl, rfl, .inr (.inl ⟨rfl, rfl, rfl, rfl, rfl, rfl⟩)⟩, by decide, by decide, fun h => by simp [longC, Trk.shares] at h⟩
theorem gap1_vt : VT 1000000 [Trk.gap 1] := by
 refine ⟨fun c hc => ?_, by decide, by decide⟩
 rw [List.mem_singleton] at hc
 subst hc
 exact ⟨⟨.inl rfl, .inl rfl, rfl, rfl, .inl ⟨rfl, rfl, rfl, rfl, rfl, rfl, rfl⟩⟩, by decide, by decide, fun h => by simp [Trk.gap, Trk.shares] at h⟩
theorem nil_vt : VT 1000000 [] := ⟨Trk.VL.nil, by decide, by decide⟩
set_option maxRecDepth 100000 in
set_option maxHeartbeats 8000000 in
theorem long_any (w : World) : Calls Tryz.prog 23 #[] w (OTPost w [longC]) := by
 go_enter Tryz.func23, Tryz.ntmps23
 go_wp2_with fail
 go_ret
 exact ⟨_, rfl, OT.box w longC, below_box _ _⟩
set_option maxRecDepth 100000 in
set_option maxHeartbeats 8000000 in
theorem awake_any (w : World) : Calls Tryz.prog 20 #[] w fun e w' => e = .returned (.bool true) ∧ Below w.heap.size w w' := by
 go_enter Tryz.func20, Tryz.ntmps20
 go_wp2_with fail
 refine (long_any _).mono ?_
 rintro e w1 ⟨v1, rfl, ho, hb⟩
 have HO := Lib.hid ho
 have HB := Lib.hid hb
 clear ho hb
 go_wp2_with fail
 refine (merge_short (.slice none 0 0) (.slice none 0 0) v1 [] [] [longC] w1 (OT.nil _ 0).tk (OT.nil _ 0).tk HO.out.tk nil_vt nil_vt long_vt (by decide) (.inr (.inr rfl))).mono ?_
 rintro e w2 ⟨m1, rfl, ho, hb⟩
 have e1 : shortL [] [] [longC] = [longC] := rfl
 rw [e1] at ho
 have HM := Lib.hid ho
 replace HB := Lib.hid (HB.out.trans (hb.mono HB.out.size))
 clear ho hb e1
 go_wp2_with fail
 refine (long_any _).mono ?_
 rintro e w3 ⟨v2, rfl, ho, hb⟩
 replace HO := Lib.hid ho
 replace HM := Lib.hid (HM.out.below hb)
 replace HB := Lib.hid (HB.out.trans (hb.mono HB.out.size))
 clear ho hb
 go_wp2_with fail
 have hgv : OT (w3.alloc (.cells (clipC (Trk.gap 1)).toArray 48)) w3.heap.size (.slice (some ⟨w3.heap.size, 0, none⟩) 1 1) [Trk.gap 1] := OT.box w3 (Trk.gap 1)
 have hbb : Below w3.heap.size w3 (w3.alloc (.cells (clipC (Trk.gap 1)).toArray 48)) := below_box _ _
 refine (merge_short v2 (.slice (some ⟨w3.heap.size, 0, none⟩) 1 1) (.slice none 0 0) [longC] [Trk.gap 1] [] _ (HO.out.below hbb).tk hgv.tk (OT.nil _ 0).tk long_vt gap1_vt nil_vt (by decide) (.inr (.inl rfl))).mono ?_
 rintro e w4 ⟨m2, rfl, ho, hb⟩
 replace HM := Lib.hid ((HM.out.below hbb).below hb)
 replace HB := Lib.hid ((HB.out.trans (hbb.mono HB.out.size)).trans (hb.mono (Nat.le_trans HB.out.size hbb.size)))
 clear ho hb hbb hgv HO
 go_wp2_with fail
 refine (step_tick _).mono ?_
 rintro e w5 ⟨rfl, hb⟩
 replace HM := Lib.hid (HM.out.below hb)
 replace HB := Lib.hid (HB.out.trans (hb.mono HB.out.size))
 clear hb
 go_upto_region 4 with fail
 obtain ⟨w6, hw6⟩ : ∃ y, y = w5.alloc (.cells #[.int .i64 1, .slice none 0 0] 55) := ⟨_, rfl⟩
 obtain ⟨g, hg⟩ : ∃ y, y = w5.heap.size := ⟨_, rfl⟩
 rw [← hw6]
 have hb : Below w5.heap.size w5 w6 := by rw [hw6]; exact below_box _ _
 have C0 := Lib.hid (show w6.cell? ⟨g, 0, none⟩ = some (.int .i64 1) by rw [hw6, hg]; simp [go_sem])
 have C1 := Lib.hid (show w6.cell? ⟨g, 1, none⟩ = some (.slice none 0 0) by rw [hw6, hg]; simp [go_sem])
 rw [← hg]
 replace HM := Lib.hid (HM.out.below hb)
 replace HB := Lib.hid (HB.out.trans (hb.mono HB.out.size))
 have HG := Lib.hid (block_lt_of_cell C0.out)
 clear hb hw6 hg
 go_wp2_with fail
 refine (long_any _).mono ?_
 rintro e w7 ⟨v3, rfl, ho, hb⟩
 have HO := Lib.hid ho
 replace HM := Lib.hid (HM.out.below hb)
 replace HB := Lib.hid (HB.out.trans (hb.mono HB.out.size))
 replace C0 := Lib.hid ((hb.cell (p := ⟨g, 0, none⟩) HG.out).trans C0.out)
 replace C1 := Lib.hid ((hb.cell (p := ⟨g, 1, none⟩) HG.out).trans C1.out)
 replace HG := Lib.hid (Nat.lt_of_lt_of_le HG.out hb.size)
 clear ho hb
 go_wp2_with fail
 refine (equal_self m1 v3 [longC] w7 HM.out.tk HO.out.tk).mono ?_
 rintro e w8 ⟨rfl, hb⟩
 replace HB := Lib.hid (HB.out.trans (hb.mono HB.out.size))
 have c0 := (hb.cell (p := ⟨g, 0, none⟩) HG.out).trans C0.out
 have c1 := (hb.cell (p := ⟨g, 1, none⟩) HG.out).trans C1.out
 clear hb C0 C1 HG
 go_wp2_with fail
 go_ret
 exact ⟨rfl, HB.out⟩
theorem one_name (c : Trk.Clip) (i : Int) : (Trk.one c i).a.name = c.a.name := Trk.moved_name c.a i
theorem fr_name : ∀ {l : List Trk.Clip} {i : Int}, Trk.GoodL l → (∀ c ∈ l, c.a.name.size ≠ 1) → (Trk.fr l i).a.name.size ≠ 1
 | [], i, _, _ => by show (0 : Nat) ≠ 1; decide
 | c :: l, i, g, h => by
  by_cases hi : i < c.len
  ·rw [Trk.fr_lt hi, one_name]; exact h c List.mem_cons_self
  ·rw [Trk.fr_ge (by omega)]; exact fr_name g.tail fun d hd => h d (List.mem_cons_of_mem _ hd)
theorem long_good : Trk.GoodL [longC] := long_vt.good
theorem long_total : Trk.total [longC] = 150 := rfl
theorem long_fr {i : Int} (h1 : i < 150) : Trk.fr [longC] i = Trk.one longC i := Trk.fr_lt h1
theorem long_inj {i j : Int} (h : Trk.one longC i = Trk.one longC j) : i = j := by
 have h1 : (Trk.one longC i).a.an = (Trk.one longC j).a.an := by rw [h]
 have g : Trk.Good longC.a := by
  rcases long_vt.v longC List.mem_cons_self |>.c.a with e | e
  ·exact absurd e (by decide)
  ·exact e.lat.g
 have key : ∀ k : Int, (Trk.moved longC.a k).an = k := fun k => by
  have e := (Trk.moved_num g k).1
  have hb : Trk.baseN longC.a = 1 := by decide
  have hp : Trk.posN longC.a k = k := by
   show (0 : Int) * _ + k * 1 * ((1 / Nat.gcd 1 1 : Nat) : Int) = k
   simp
  rw [hb, hp, Nat.gcd_one_right] at e
  simpa using e
 have h2 : (Trk.moved longC.a i).an = (Trk.moved longC.a j).an := h1
 rw [key, key] at h2
 exact h2
theorem long_name (i : Int) : (Trk.one longC i).a.name.size = 1 := by rw [one_name]; rfl
structure InL (u put : List Trk.Clip) (p rem : Int) : Prop where
 x : ExF [longC] u put p rem
 g : Trk.GoodL put
 z : ∀ c ∈ put, c.a.name.size ≠ 1
 p0 : 0 ≤ p
 r0 : 0 ≤ rem
 e : p + rem < 150
 s : 1 ≤ rem ∨ 1 ≤ Trk.total put
theorem InL.f0 {u put : List Trk.Clip} {p rem : Int} (h : InL u put p rem) {i : Int} (i0 : 0 ≤ i) (hi : i < p) : Trk.fr u i = Trk.one longC i := by
 have := h.e
 have := h.r0
 rw [h.x.f i i0, if_pos hi, long_fr (by omega)]
theorem InL.f1 {u put : List Trk.Clip} {p rem : Int} (h : InL u put p rem) {i : Int} (hi : p ≤ i) (h1 : i < p + Trk.total put) : Trk.fr u i = Trk.fr put (i - p) := by
 have := h.p0
 rw [h.x.f i (by omega), if_neg (by omega), if_pos h1]
theorem InL.f2 {u put : List Trk.Clip} {p rem : Int} (h : InL u put p rem) {i : Int} (hi : p + Trk.total put ≤ i) : Trk.fr u i = Trk.fr [longC] (i - Trk.total put + rem) := by
 have := h.p0
 have := Trk.total_nonneg h.g
 rw [h.x.f i (by omega), if_neg (by omega), if_neg (by omega)]
theorem InL.ne {u put : List Trk.Clip} {p rem : Int} (h : InL u put p rem) : Trk.fr u p ≠ Trk.one longC p := by
 have hp := h.p0
 have hr := h.r0
 have he := h.e
 have ht := Trk.total_nonneg h.g
 intro e
 by_cases h1 : 1 ≤ Trk.total put
 ·rw [h.f1 (Int.le_refl p) (by omega)] at e
  have := fr_name (i := p - p) h.g h.z
  rw [e] at this
  exact this (long_name p)
 ·rw [h.f2 (by omega), long_fr (by omega)] at e
  have := long_inj e
  have := h.s
  omega
theorem InL.total {u put : List Trk.Clip} {p rem : Int} (h : InL u put p rem) : Trk.total u = 150 - rem + Trk.total put := by
 have hp := h.p0
 have hr := h.r0
 have he := h.e
 have ht := Trk.total_nonneg h.g
 have hu := Trk.total_nonneg h.x.n.g
 have k1 : (Trk.fr u (149 - rem + Trk.total put)).kind = 1 := by
  rw [h.f2 (by omega), long_fr (by omega)]; rfl
 have lo : 149 - rem + Trk.total put < Trk.total u := by
  rcases Int.lt_or_le (149 - rem + Trk.total put) (Trk.total u) with h1 | h1
  ·exact h1
  ·rw [Trk.fr_beyond h.x.n.g h1] at k1
   cases k1
 have hi : Trk.total u ≤ 150 - rem + Trk.total put := by
  rcases Int.lt_or_le (150 - rem + Trk.total put) (Trk.total u) with h1 | h1
  ·exfalso
   cases hl : u.getLast? with
   | none =>
    have : u = [] := List.getLast?_eq_none_iff.1 hl
    rw [this] at lo
    have : (149 - rem + Trk.total put < 0) := lo
    omega
   | some c =>
    have e1 := Trk.fr_last h.x.n.g hl
    rw [h.f2 (by omega), Trk.fr_beyond long_good (by rw [long_total]; omega)] at e1
    exact h.x.n.n c hl e1.symm
  ·exact h1
 omega
theorem InL.diff {u put x : List Trk.Clip} {p rem p' q' : Int} (h : InL u put p rem) (hd : Trk.Diff [longC] u p' q' x) : p' = p ∧ q' ≤ p + rem := by
 have hp := h.p0
 have hr := h.r0
 have he := h.e
 have ht := Trk.total_nonneg h.g
 have hu := h.total
 have hpre := hd.pre
 have hs := hd.suf
 rw [long_total, hu] at hs
 have e1 : p' = p := by
  rcases Int.lt_trichotomy p' p with h1 | h1 | h1
  ·exfalso
   have := hpre.x (by rw [long_total]; omega) (by rw [hu]; omega)
   rw [h.f0 hpre.h0 h1, long_fr (by omega)] at this
   exact this rfl
  ·exact h1
  ·exfalso
   have := hpre.f p hp h1
   rw [long_fr (by omega)] at this
   exact h.ne this.symm
 refine ⟨e1, ?_⟩
 subst e1
 rcases Int.lt_or_le (p' + rem) q' with h1 | h1
 ·exfalso
  have h3 := hs.x (by omega)
  rw [long_total, hu, h.f2 (by omega)] at h3
  exact h3 (by congr 1; omega)
 ·exact h1
theorem InL.of {a en by_ : Int} {E : Trk.Ed} (h : Iv a E en by_) (a0 : 0 ≤ a) (a1 : a + E.rem < 150) : InL (Trk.nf (E.exl [longC])) E.put a E.rem := by
 have hx := exch_of long_vt h.v (by have := h.l; show 1 + 2 + _ ≤ 64; omega) (by
  have := h.t1; have := h.p; have := h.r0
  rw [long_total]
  split <;> omega)
 rw [h.p] at hx
 refine ⟨hx, h.v.x.put_good, h.z, a0, h.r0, a1, ?_⟩
 have hT := h.t0
 by_cases hk : E.k = 1
 ·right
  have : E.put = E.ins := by unfold Trk.Ed.put; rw [if_neg (by omega)]
  rw [this]
  unfold Trk.Ed.T at hT
  rw [if_pos (.inl hk)] at hT
  exact hT
 ·left
  unfold Trk.Ed.rem
  rw [if_neg hk]
  exact hT
theorem partL_good {l : List Trk.Clip} (h : Trk.GoodL l) {a b : Int} (a0 : 0 ≤ a) (ab : a ≤ b) : Trk.GoodL (partL l a b) := by
 unfold partL
 split
 ·exact Trk.GoodL.nil
 ·exact (Trk.cut_of h a0 ab).g
theorem partL_fr {l : List Trk.Clip} (h : Trk.GoodL l) {a b i : Int} (a0 : 0 ≤ a) (ab : a ≤ b) (i0 : 0 ≤ i) (i1 : i < b - a) : Trk.fr (partL l a b) i = Trk.fr l (a + i) := by
 unfold partL
 split
 ·omega
 ·exact (Trk.cut_of h a0 ab).f i i0 i1
theorem pieces_fr {n a b x1 x2 : List Trk.Clip} {p1 q1 p2 q2 : Int} (h1 : Trk.Diff n a p1 q1 x1) (h2 : Trk.Diff n b p2 q2 x2) (gn : Trk.GoodL n) (ga : Trk.GoodL a) (gb : Trk.GoodL b) (hq : q1 ≤ p2) {i : Int} (i0 : 0 ≤ i) :
  Trk.GoodL (pieces n p1 q1 x1 p2 q2 x2).flatten ∧ Trk.fr (pieces n p1 q1 x1 p2 q2 x2).flatten i = if i < p2 + (p1 + Trk.total x1 - q1) then Trk.fr a i else Trk.fr b (i - (p1 + Trk.total x1 - q1)) := by
 obtain ⟨c0, c1, c2, c3, c4⟩ := h1.le
 obtain ⟨d0, d1, d2, d3, d4⟩ := h2.le
 have g1 := h1.good ga
 have g2 := h2.good gb
 have t1 := Trk.total_nonneg g1
 have t2 := Trk.total_nonneg g2
 have gA := partL_good gn (Int.le_refl 0) c0
 have gB := partL_good gn (show 0 ≤ q1 by omega) hq
 have gC := partL_good gn (show 0 ≤ q2 by omega) d2
 have tA := partL_total gn (Int.le_refl 0) c0
 have tB := partL_total gn (show 0 ≤ q1 by omega) hq
 have tC := partL_total gn (show 0 ≤ q2 by omega) d2
 have e : (pieces n p1 q1 x1 p2 q2 x2).flatten = partL n 0 p1 ++ (x1 ++ (partL n q1 p2 ++ (x2 ++ partL n q2 (Trk.total n)))) := by simp [pieces]
 rw [e]
 refine ⟨gA.append (g1.append (gB.append (g2.append gC))), ?_⟩
 have fa := fun (i : Int) (hi : 0 ≤ i) => h1.fr gn ga hi
 have fb := fun (i : Int) (hi : 0 ≤ i) => h2.fr gn gb hi
 by_cases k1 : i < p1
 ·rw [Trk.fr_append_lt _ gA i0 (by omega), partL_fr gn (Int.le_refl 0) c0 i0 (by omega), if_pos (by omega), fa i i0, if_pos k1, Int.zero_add]
 rw [Trk.fr_append_ge _ gA (by omega), tA]
 by_cases k2 : i < p1 + Trk.total x1
 ·rw [Trk.fr_append_lt _ g1 (by omega) (by omega), if_pos (by omega), fa i i0, if_neg k1, if_pos k2]
  congr 1; omega
 rw [Trk.fr_append_ge _ g1 (by omega)]
 by_cases k3 : i < p2 + (p1 + Trk.total x1 - q1)
 ·rw [Trk.fr_append_lt _ gB (by omega) (by omega), partL_fr gn (by omega) hq (by omega) (by omega), if_pos k3, fa i i0, if_neg k1, if_neg k2]
  congr 1; omega
 rw [Trk.fr_append_ge _ gB (by omega), tB, if_neg k3, fb (i - (p1 + Trk.total x1 - q1)) (by omega), if_neg (by omega)]
 by_cases k4 : i < p2 + (p1 + Trk.total x1 - q1) + Trk.total x2
 ·rw [Trk.fr_append_lt _ g2 (by omega) (by omega), if_pos (by omega)]
  congr 1; omega
 rw [Trk.fr_append_ge _ g2 (by omega), if_neg (by omega)]
 by_cases k5 : i - (p1 - 0) - Trk.total x1 - (p2 - q1) - Trk.total x2 < Trk.total n - q2
 ·rw [partL_fr gn (by omega) d2 (by omega) k5]
  congr 1; omega
 ·rw [Trk.fr_beyond gC (by omega), Trk.fr_beyond gn (by omega)]
theorem flatK_len (P : List (List Trk.Clip)) : ∀ k, (flatK P k).length ≤ P.flatten.length := fun k => by
 have e : P.flatten = flatK P k ++ (P.drop k).flatten := by unfold flatK; rw [← List.flatten_append, List.take_append_drop]
 rw [e, List.length_append]
 omega
theorem partL_len {l : List Trk.Clip} (h : Trk.GoodL l) {a b : Int} (a0 : 0 ≤ a) (ab : a ≤ b) (b1 : b ≤ Trk.total l) : (partL l a b).length ≤ l.length := by
 unfold partL
 split
 ·simp
 ·exact Trk.cut_len h a0 ab b1
theorem two_sep {u1 u2 P1 P2 a b x1 x2 : List Trk.Clip} {a1 r1 a2 r2 p1 q1 p2 q2 : Int} (h1 : InL u1 P1 a1 r1) (h2 : InL u2 P2 a2 r2) (hs : a1 + r1 < a2) (hab : (a = u1 ∧ b = u2) ∨ (a = u2 ∧ b = u1)) (ht : Two [longC] a b p1 q1 x1 p2 q2 x2) :
  Trk.Diff [longC] u1 p1 q1 x1 ∧ Trk.Diff [longC] u2 p2 q2 x2 ∧ p1 = a1 ∧ q1 ≤ a1 + r1 ∧ p2 = a2 ∧ q2 ≤ a2 + r2 := by
 have hr1 := h1.r0
 have hr2 := h2.r0
 rcases hab with ⟨rfl, rfl⟩ | ⟨rfl, rfl⟩ <;> rcases ht with ⟨k1, k2, k3⟩ | ⟨k1, k2, k3⟩
 ·have := h1.diff k1
  have := h2.diff k2
  exact ⟨k1, k2, by omega, by omega, by omega, by omega⟩
 ·exfalso
  have := h2.diff k1
  have := h1.diff k2
  have := k1.le
  omega
 ·exfalso
  have := h2.diff k1
  have := h1.diff k2
  omega
 ·have := h1.diff k1
  have := h2.diff k2
  exact ⟨k1, k2, by omega, by omega, by omega, by omega⟩
theorem InL.len {u put : List Trk.Clip} {p rem : Int} (h : InL u put p rem) (hl : put.length ≤ 5) : u.length ≤ 8 := by
 have := h.x.l
 simp only [List.length_singleton] at this
 omega
theorem InL.short {u v put : List Trk.Clip} {p rem : Int} (h : InL u put p rem) (hv : Trk.fr v p = Trk.one longC p) : u ≠ v := fun e => h.ne (by rw [e]; exact hv)
theorem both_merge {u1 u2 P1 P2 a b : List Trk.Clip} {a1 r1 a2 r2 : Int} (h1 : InL u1 P1 a1 r1) (h2 : InL u2 P2 a2 r2) (l1 : P1.length ≤ 5) (l2 : P2.length ≤ 5) (z1 : Trk.total P1 ≤ 1000) (z2 : Trk.total P2 ≤ 1000) (hs : a1 + r1 < a2) (hab : (a = u1 ∧ b = u2) ∨ (a = u2 ∧ b = u1)) {code : Int} {x : List Trk.Clip} (hm : MergeR [longC] a b code x) :
  code = 0 ∧ Trk.Norm x ∧ ∀ i, 0 ≤ i → Trk.fr x i = if i < a2 + (Trk.total P1 - r1) then Trk.fr u1 i else Trk.fr u2 (i - (Trk.total P1 - r1)) := by
 have n1 := h1.x.n.nf
 have n2 := h2.x.n.nf
 have s1 : u1 ≠ [longC] := h1.short (long_fr (by have := h1.e; have := h1.r0; omega))
 have s2 : u2 ≠ [longC] := h2.short (long_fr (by have := h2.e; have := h2.r0; omega))
 have s3 : u1 ≠ u2 := h1.short (h2.f0 h1.p0 (by have := h1.r0; omega))
 have hns : ¬ shortC [longC] a b := by
  unfold shortC
  rw [nf_long]
  rcases hab with ⟨rfl, rfl⟩ | ⟨rfl, rfl⟩
  ·rw [n1, n2]; rintro (h | h | h); exact s2 h; exact s3 h.symm; exact s1 h
  ·rw [n1, n2]; rintro (h | h | h); exact s1 h; exact s3 h; exact s2 h
 rcases hm with ⟨hc, -⟩ | ⟨-, p1, q1, x1, p2, q2, x2, ht, hr⟩
 ·exact absurd hc hns
 have ht' : Two [longC] a b p1 q1 x1 p2 q2 x2 := by
  rw [nf_long] at ht
  rcases hab with ⟨rfl, rfl⟩ | ⟨rfl, rfl⟩
  ·rw [n1, n2] at ht; exact ht
  ·rw [n1, n2] at ht; exact ht
 obtain ⟨d1, d2, e1, e2, e3, e4⟩ := two_sep h1 h2 hs hab ht'
 have ga := h1.x.n.g
 have gb := h2.x.n.g
 rcases hr with ⟨hcf, -⟩ | ⟨hq, hr⟩
 ·omega
 rw [nf_long] at hr
 obtain ⟨c0, c1, c2, c3, c4⟩ := d1.le
 obtain ⟨f0, f1, f2, f3, f4⟩ := d2.le
 have tx1 := d1.total ga
 have tx2 := d2.total gb
 have tu1 := h1.total
 have tu2 := h2.total
 have hlen : (pieces [longC] p1 q1 x1 p2 q2 x2).flatten.length ≤ 40 := by
  have k1 := partL_len long_good (Int.le_refl 0) c0 (by omega)
  have k2 := partL_len long_good (show 0 ≤ q1 by omega) (show q1 ≤ p2 by omega) (by omega)
  have k3 := partL_len long_good (show 0 ≤ q2 by omega) f2 (Int.le_refl _)
  have k4 := d1.len ga
  have k5 := d2.len gb
  have k6 := h1.len l1
  have k7 := h2.len l2
  simp only [List.length_singleton] at k1 k2 k3
  simp only [pieces, List.flatten_cons, List.flatten_nil, List.append_nil, List.length_append]
  omega
 have htot : Trk.total (pieces [longC] p1 q1 x1 p2 q2 x2).flatten ≤ 2147483647 := by
  have tA := partL_total long_good (Int.le_refl 0) c0
  have tB := partL_total long_good (show 0 ≤ q1 by omega) (show q1 ≤ p2 by omega)
  have tC := partL_total long_good (show 0 ≤ q2 by omega) f2
  simp only [pieces, List.flatten_cons, List.flatten_nil, List.append_nil, Trk.total_append, tA, tB, tC]
  rw [long_total] at *
  have := h1.r0
  have := h2.r0
  omega
 rcases hr with ⟨hlong, -⟩ | ⟨-, hg⟩
 ·omega
 have gp := (pieces_fr d1 d2 long_good ga gb (by omega) (Int.le_refl 0)).1
 rcases hg with ⟨-, -, k, -, hk⟩ | ⟨rfl, rfl, -⟩
 ·exfalso
  have h5 : Trk.GoodL (flatK (pieces [longC] p1 q1 x1 p2 q2 x2) k) := fun c hc => gp c (by
   obtain ⟨l, hl, hcl⟩ := List.mem_flatten.1 hc
   exact List.mem_flatten.2 ⟨l, List.mem_of_mem_take hl, hcl⟩)
  have h3 := (Trk.pk_of h5).n
  have h4 := flatK_len (pieces [longC] p1 q1 x1 p2 q2 x2) k
  omega
 refine ⟨rfl, Trk.nf_norm gp, fun i i0 => ?_⟩
 rw [Trk.nf_fr gp i0, (pieces_fr d1 d2 long_good ga gb (by omega) i0).2]
 have eD : p1 + Trk.total x1 - q1 = Trk.total P1 - r1 := by rw [long_total] at *; omega
 rw [eD, e3]
theorem both_same {u1 u2 P1 P2 x v : List Trk.Clip} {a1 r1 a2 r2 : Int} (h1 : InL u1 P1 a1 r1) (h2 : InL u2 P2 a2 r2) (hs : a1 + r1 < a2) (hx : Trk.Norm x)
  (hf : ∀ i, 0 ≤ i → Trk.fr x i = if i < a2 + (Trk.total P1 - r1) then Trk.fr u1 i else Trk.fr u2 (i - (Trk.total P1 - r1))) (hv : ExF u1 v P2 (a2 + (Trk.total P1 - r1)) r2) : x = v := by
 have p1 := Trk.total_nonneg h1.g
 have p2 := Trk.total_nonneg h2.g
 have a0 := h1.p0
 have r0 := h1.r0
 have q0 := h2.r0
 refine hx.eq hv.n fun i i0 => ?_
 rw [hf i i0, hv.f i i0]
 by_cases k1 : i < a2 + (Trk.total P1 - r1)
 ·rw [if_pos k1, if_pos k1]
 rw [if_neg k1, if_neg k1]
 by_cases k2 : i < a2 + (Trk.total P1 - r1) + Trk.total P2
 ·rw [if_pos k2, h2.f1 (by omega) (by omega)]
  congr 1; omega
 ·rw [if_neg k2, h2.f2 (by omega), h1.f2 (by omega)]
  congr 1; omega
theorem two_vt {L : Int} {n a b x1 x2 : List Trk.Clip} {p1 q1 p2 q2 : Int} (h : Two n a b p1 q1 x1 p2 q2 x2) (Va : VT L a) (Vb : VT L b) :
  VT L x1 ∧ VT L x2 ∧ 0 ≤ p1 ∧ p1 ≤ q1 ∧ q1 ≤ Trk.total n ∧ 0 ≤ p2 ∧ p2 ≤ q2 ∧ q2 ≤ Trk.total n := by
 rcases h with ⟨h1, h2, -⟩ | ⟨h1, h2, -⟩
 ·obtain ⟨e1, e2, e3, -⟩ := h1.le
  obtain ⟨f1, f2, f3, -⟩ := h2.le
  exact ⟨diff_vt h1 Va, diff_vt h2 Vb, e1, e2, e3, f1, f2, f3⟩
 ·obtain ⟨e1, e2, e3, -⟩ := h1.le
  obtain ⟨f1, f2, f3, -⟩ := h2.le
  exact ⟨diff_vt h1 Vb, diff_vt h2 Va, e1, e2, e3, f1, f2, f3⟩
theorem mergeR_vt {L : Int} {n a b x : List Trk.Clip} (h : MergeR n a b 0 x) (Vn : VT L n) (Va : VT L a) (Vb : VT L b) : VT L x ∧ Trk.Norm x := by
 rcases h with ⟨-, -, rfl⟩ | ⟨-, p1, q1, x1, p2, q2, x2, ht, h⟩
 ·unfold shortL
  split
  ·exact ⟨nf_vt Va, Trk.nf_norm Va.good⟩
  ·exact ⟨nf_vt Vb, Trk.nf_norm Vb.good⟩
 ·rcases h with ⟨-, h, -⟩ | ⟨hq, h⟩
  ·omega
  ·rcases h with ⟨-, h, -⟩ | ⟨htot, h⟩
   ·omega
   ·rcases h with ⟨h, -⟩ | ⟨-, rfl, hk⟩
    ·omega
    ·obtain ⟨v1, v2, e1, e2, e3, f1, f2, f3⟩ := two_vt ht (nf_vt Va) (nf_vt Vb)
     have Vn' := nf_vt Vn
     have hP : ∀ l ∈ pieces (Trk.nf n) p1 q1 x1 p2 q2 x2, Trk.VL L l := by
      intro l hl
      simp only [pieces, List.mem_cons, List.not_mem_nil, or_false] at hl
      rcases hl with rfl | rfl | rfl | rfl | rfl
      ·exact (partL_vt Vn' (Int.le_refl _) e1 (by omega)).v
      ·exact v1.v
      ·exact (partL_vt Vn' (by omega) (by omega) (by omega)).v
      ·exact v2.v
      ·exact (partL_vt Vn' (by omega) (by omega) (by omega)).v
     generalize hPP : pieces (Trk.nf n) p1 q1 x1 p2 q2 x2 = P at *
     have hF : Trk.VL L P.flatten := by
      have := flatK_vl hP P.length
      unfold flatK at this
      rwa [List.take_length] at this
     have h5 := hk P.length (Nat.le_refl _)
     unfold flatK at h5
     rw [List.take_length] at h5
     have hg : Trk.GoodL P.flatten := hF.good
     have hpv : VT L (Trk.pk P.flatten) := ⟨Trk.pk_vl hF htot, h5, by rw [(Trk.pk_of hg).s.1]; exact htot⟩
     have := nf_vt hpv
     rw [nf_pk hg] at this
     exact ⟨this, Trk.nf_norm hg⟩
theorem OT.ts {w : World} {B g : Nat} {v : Value} {l : List Trk.Clip} (h : OT w B v l) (hg : g < B) : TS (Lo w.heap.size g) w v l := by
 intro w' ha
 have h' := h
 rcases h with ⟨rfl, hl, he⟩ | ⟨b, cap, cur, rfl, hB, hb, _⟩
 ·exact OT.tk (w := w') (B := B) (.inl ⟨rfl, hl, he⟩)
 ·exact OT.tk (w := w') (B := B) (RowX.blk h' (ha b ⟨(Array.getElem?_eq_some_iff.1 hb).1, by omega⟩))
theorem OR.top {w : World} {q cap m g : Nat} {rs : List Rv} (h : OR w q cap m g rs) : OR w q cap q g rs := by
 obtain ⟨us, h1, h2, h3⟩ := h.r
 exact ⟨Nat.le_refl _, h.n0, us, h1, h2, fun i r u hr hu => (h3 i r u hr hu).mono fun b hb => ⟨Nat.lt_of_lt_of_le hb.1 h.m0, hb.2⟩⟩
theorem PD.far {w : World} {g o m b : Nat} {d : Dc} (h : PD w g o m d) (hm : m ≤ b) (hg : g ≠ b) (p : Nat) (u : Value) : PD (w.setCell ⟨b, p, none⟩ u) g o m d := by
 obtain ⟨rv, h1, h2⟩ := h.r
 have hs : (w.setCell ⟨b, p, none⟩ u).heap[g]? = w.heap[g]? := setCells_other b g hg [u] p w
 refine ⟨by simpa [World.setCell] using h.m0, by simpa [World.setCell] using h.g0, fun q => ?_, rv, rangeAt_ag h1 hs, h2.on (ag_far hm)⟩
 have := h.f q
 unfold World.frozen? at this ⊢
 simpa [hs] using this
theorem rev_put {w : World} {b : Nat} {k bs : Int} {u : ByteArray} {bk : Bool} {t : List Trk.Clip} {x xv : Value} (h0 : w.cell? ⟨b, 0, none⟩ = some (.int .i64 k)) (h1 : w.cell? ⟨b, 1, none⟩ = some (.string u)) (h2 : w.cell? ⟨b, 2, none⟩ = some (.int .i64 bs)) (h3 : w.cell? ⟨b, 3, none⟩ = some (.bool bk)) (h4 : w.cell? ⟨b, 4, none⟩ = some x) (hf : w.frozen? ⟨b, 0, none⟩ = false) :
  (w.setCell ⟨b, 4, none⟩ xv).rangeAt b 0 (revL ⟨k, u, bs, bk, t⟩ xv) := by
 intro j v hj
 have hj5 : j < 5 := by have := (List.getElem?_eq_some_iff.1 hj).1; simpa [revL] using this
 have : j = 0 ∨ j = 1 ∨ j = 2 ∨ j = 3 ∨ j = 4 := by omega
 rcases this with rfl | rfl | rfl | rfl | rfl <;> simp only [revL, List.getElem?_cons_zero, List.getElem?_cons_succ, Option.some.injEq] at hj <;> subst hj <;> simp [go_sem, h0, h1, h2, h3, h4]
def Held (d : Dc) (u : ByteArray) : Prop := d.owner ≠ ⟨#[]⟩ ∧ d.owner ≠ u
instance (d : Dc) (u : ByteArray) : Decidable (Held d u) := by unfold Held; infer_instance
def ownOK (d : Dc) : Prop := d.owner = ⟨#[]⟩ ∨ okWord d.owner
def Chg (w : World) (g o : Nat) (d d' : Dc) (w' : World) : Prop :=
 (d' = d ∧ Below w.heap.size w w') ∨ ∃ q cap rs, d' = { d with revs := rs } ∧ w.heap.size ≤ q ∧ Below w.heap.size (w.setCell ⟨g, o + 3, none⟩ (.slice (some ⟨q, 0, none⟩) rs.length cap)) w' ∧ OR w' q cap q g rs
def PtrPost (w : World) (g o : Nat) (d : Dc) (R : Int → Dc → Prop) (e : Ending) (w' : World) : Prop := ∃ code d', e = .returned (.int .i64 code) ∧ R code d' ∧ Chg w g o d d' w'
theorem locked_any (g o m : Nat) (d : Dc) (u : ByteArray) (w : World) (h : PD w g o m d) (hd : ownOK d) : Calls Tryz.prog 147 #[.pointer (some ⟨g, o, none⟩), .string u] w fun e w' => e = .returned (.bool (decide (Held d u))) ∧ w' = w := by
 obtain ⟨rv, hc, -⟩ := h.r
 have c1 : w.cell? ⟨g, o + 1, none⟩ = some (.string d.owner) := hc 1 _ rfl
 by_cases he : d.owner = ⟨#[]⟩
 ·rw [decide_eq_false (fun h : Held d u => h.1 he)]
  exact locked_free g o u w (by rw [c1, he])
 ·have hok := hd.resolve_left he
  by_cases hu : d.owner = u
  ·rw [decide_eq_false (fun h : Held d u => h.2 hu)]
   exact locked_own g o u w (by rw [c1, hu]) (hu ▸ hok)
  ·rw [decide_eq_true (show Held d u from ⟨he, hu⟩)]
   exact locked_other g o u d.owner w c1 hok hu
structure RvsOK (L : Int) (rs : List Rv) : Prop where
 l0 : 1 ≤ rs.length
 l1 : rs.length ≤ 64
 v : ∀ r ∈ rs, VT L r.t ∧ Trk.Norm r.t
def addR (d : Dc) (cur r : Rv) : Dc := if Trk.nf r.t = Trk.nf cur.t then d else { d with revs := d.revs ++ [r] }
def curR (d : Dc) (cur : Rv) : Prop := d.revs[d.revs.length - 1]? = some cur
inductive CommitR (d : Dc) (u : ByteArray) (bs : Int) (t : List Trk.Clip) : Int → Dc → Prop where
 | locked (h : Held d u) : CommitR d u bs t 11 d
 | range (h : ¬ Held d u) (h2 : bs < 0 ∨ (d.revs.length : Int) ≤ bs) : CommitR d u bs t 1 d
 | full (h : ¬ Held d u) (h2 : 0 ≤ bs ∧ bs < (d.revs.length : Int)) (h3 : 64 ≤ d.revs.length) : CommitR d u bs t 18 d
 | last (h : ¬ Held d u) (h2 : bs = (d.revs.length : Int) - 1) (h3 : d.revs.length < 64) (cur : Rv) (hc : curR d cur) : CommitR d u bs t 0 (addR d cur ⟨2, u, bs, false, Trk.nf t⟩)
 | merge (h : ¬ Held d u) (k : Nat) (h2 : bs = (k : Int)) (h2' : bs ≠ (d.revs.length : Int) - 1) (h3 : d.revs.length < 64) (cur b : Rv) (hc : curR d cur) (hb : d.revs[k]? = some b) (x : List Trk.Clip) (hm : MergeR b.t cur.t t 0 x) : CommitR d u bs t 0 (addR d cur ⟨3, u, bs, false, x⟩)
 | fails (h : ¬ Held d u) (k : Nat) (h2 : bs = (k : Int)) (h2' : bs ≠ (d.revs.length : Int) - 1) (h3 : d.revs.length < 64) (cur b : Rv) (hc : curR d cur) (hb : d.revs[k]? = some b) (c : Int) (x : List Trk.Clip) (hm : MergeR b.t cur.t t c x) (hz : c ≠ 0) : CommitR d u bs t c d
set_option maxRecDepth 100000 in
set_option maxHeartbeats 16000000 in
theorem commit_any {L : Int} (g o m : Nat) (d : Dc) (u nm : ByteArray) (bs : Int) (t : List Trk.Clip) (tv : Value) (w : World) (h : PD w g o m d) (hd : ownOK d) (hR : RvsOK L d.revs) (ht : Tk w tv t) (Vt : VT L t) (hL : L ≤ 140737488355328) :
  Calls Tryz.prog 148 #[.pointer (some ⟨g, o, none⟩), .agg #[.int .i64 4, .string u, .string nm, .int .i64 bs, tv]] w (PtrPost w g o d (CommitR d u bs t)) := by
 have HP := Lib.hid h
 have HM0 := Lib.hid h.m0
 have HD := Lib.hid hd
 have HRR := Lib.hid hR
 have HT := Lib.hid ht
 have HV := Lib.hid Vt
 obtain ⟨ta, tc, htv, -⟩ := ht
 obtain ⟨tn, htn⟩ : ∃ k, k = t.length := ⟨_, rfl⟩
 rw [← htn] at htv
 subst htv
 clear h hd hR Vt htn
 obtain ⟨w1, hw1⟩ : ∃ y, y = w.alloc (.cells #[.int .i64 4, .string u, .string nm, .int .i64 bs, .slice ta tn tc] 150) := ⟨_, rfl⟩
 obtain ⟨b3, hb3⟩ : ∃ y, y = w.heap.size := ⟨_, rfl⟩
 have hb : Below w.heap.size w w1 := by rw [hw1]; exact below_box _ _
 have c1 : w1.cell? ⟨b3, 1, none⟩ = some (.string u) := by rw [hw1, hb3]; simp [go_sem]
 have c3 : w1.cell? ⟨b3, 3, none⟩ = some (.int .i64 bs) := by rw [hw1, hb3]; simp [go_sem]
 have c4 : w1.cell? ⟨b3, 4, none⟩ = some (.slice ta tn tc) := by rw [hw1, hb3]; simp [go_sem]
 replace HP := Lib.hid (HP.out.below hb)
 replace HT := Lib.hid (HT.out.below hb)
 have HB := Lib.hid hb
 go_enter Tryz.func148, Tryz.ntmps148
 go_upto_region 1 with fail
 rw [← hw1, ← hb3]
 clear hw1 hb3 hb
 go_wp2_with fail
 refine (locked_any g o m d u w1 HP.out HD.out).mono ?_
 rintro e w2 ⟨rfl, rfl⟩
 by_cases hlk : Held d u
 ·rw [decide_eq_true hlk]
  have HLK := Lib.hid hlk
  clear hlk
  go_wp2_with fail
  go_ret
  exact ⟨11, d, rfl, .locked HLK.out, .inl ⟨rfl, HB.out⟩⟩
 rw [decide_eq_false hlk]
 have HLK := Lib.hid hlk
 clear hlk
 obtain ⟨rv, hcd, hrs⟩ := HP.out.r
 have hn0 := HRR.out.l0
 have hn1 := HRR.out.l1
 obtain ⟨k, hk⟩ : ∃ k, d.revs.length = k + 1 := ⟨d.revs.length - 1, by omega⟩
 obtain ⟨cur, hcur⟩ : ∃ cur, d.revs[k]? = some cur := ⟨_, List.getElem?_eq_getElem (by omega)⟩
 obtain ⟨rb, ro, rc, cv, hrv, hcc, hct⟩ := hrs.nth hcur
 rw [hk] at hrv
 have d3 : w2.cell? ⟨g, o + 3, none⟩ = some rv := hcd 3 _ rfl
 subst hrv
 have HK := Lib.hid hk
 have HCUR := Lib.hid hcur
 have HNK := Lib.hid (show k < 64 by omega)
 clear hcd hrs hcc hct hcur hk hn0 hn1
 have hkk : ((k : Int) + 1) ≤ 9223372036854775807 := by have := HNK.out; omega
 go_upto_region 3 with fail
 by_cases hb0 : bs < 0
 ·go_quiet (fail)
  go_wp2_with fail
  go_ret
  exact ⟨1, d, rfl, .range HLK.out (.inl hb0), .inl ⟨rfl, below_drewN HB.out _⟩⟩
 have hb0' : decide (bs < 0) = false := decide_eq_false hb0
 by_cases hb1 : (k : Int) + 1 ≤ bs
 ·go_quiet (fail)
  go_wp2_with fail
  go_ret
  exact ⟨1, d, rfl, .range HLK.out (.inr (by rw [HK.out]; omega)), .inl ⟨rfl, below_drewN HB.out _⟩⟩
 have hb1' : decide ((k : Int) + 1 ≤ bs) = false := decide_eq_false hb1
 go_quiet (fail)
 obtain ⟨w3, hw3⟩ : ∃ y, y = w2.drewN nq := ⟨_, rfl⟩
 have hb : Below w2.heap.size w2 w3 := by rw [hw3]; exact below_drewN (Below.refl _ _) _
 rw [← hw3]
 replace c1 : w3.cell? ⟨b3, 1, none⟩ = some (.string u) := by rw [hw3]; simpa [go_sem] using c1
 replace c3 : w3.cell? ⟨b3, 3, none⟩ = some (.int .i64 bs) := by rw [hw3]; simpa [go_sem] using c3
 replace c4 : w3.cell? ⟨b3, 4, none⟩ = some (.slice ta tn tc) := by rw [hw3]; simpa [go_sem] using c4
 replace d3 : w3.cell? ⟨g, o + 3, none⟩ = some (.slice (some ⟨rb, ro, none⟩) (k + 1) rc) := by rw [hw3]; simpa [go_sem] using d3
 replace HP := Lib.hid (HP.out.below hb)
 replace HT := Lib.hid (HT.out.below hb)
 replace HB := Lib.hid (HB.out.trans (hb.mono HB.out.size))
 clear hb hw3
 go_upto_region 5 with fail
 by_cases hfull : k = 63
 ·subst hfull
  go_wp2_with fail
  go_ret
  exact ⟨18, d, rfl, .full HLK.out ⟨by omega, by rw [HK.out]; omega⟩ (by rw [HK.out]; omega), .inl ⟨rfl, HB.out⟩⟩
 have hnf : ¬ 64 ≤ (k : Int) + 1 := by have := HNK.out; omega
 go_upto_region 8 with fail
 obtain ⟨w4, hw4⟩ : ∃ y, y = w3.alloc (.cells #[.int .i64 2, .string u, .int .i64 bs, .bool false, .slice none 0 0] 67) := ⟨_, rfl⟩
 obtain ⟨b5, hb5⟩ : ∃ y, y = w3.heap.size := ⟨_, rfl⟩
 have hb : Below w3.heap.size w3 w4 := by rw [hw4]; exact below_box _ _
 have r0 : w4.cell? ⟨b5, 0, none⟩ = some (.int .i64 2) := by rw [hw4, hb5]; simp [go_sem]
 have r1 : w4.cell? ⟨b5, 1, none⟩ = some (.string u) := by rw [hw4, hb5]; simp [go_sem]
 have r2 : w4.cell? ⟨b5, 2, none⟩ = some (.int .i64 bs) := by rw [hw4, hb5]; simp [go_sem]
 have r3 : w4.cell? ⟨b5, 3, none⟩ = some (.bool false) := by rw [hw4, hb5]; simp [go_sem]
 have r4 : w4.cell? ⟨b5, 4, none⟩ = some (.slice none 0 0) := by rw [hw4, hb5]; simp [go_sem]
 have rf : ∀ o, w4.frozen? ⟨b5, o, none⟩ = false := fun o => by rw [hw4, hb5]; simp [go_sem]
 replace c1 := (hb.cell (p := ⟨b3, 1, none⟩) (block_lt_of_cell c1)).trans c1
 replace c3 := (hb.cell (p := ⟨b3, 3, none⟩) (block_lt_of_cell c3)).trans c3
 replace c4 := (hb.cell (p := ⟨b3, 4, none⟩) (block_lt_of_cell c4)).trans c4
 replace d3 := (hb.cell (p := ⟨g, o + 3, none⟩) (block_lt_of_cell d3)).trans d3
 replace HT := Lib.hid (HT.out.below hb)
 have HGG := Lib.hid (show g < b5 by rw [hb5]; exact HP.out.g0)
 have HB5 := Lib.hid (show w.heap.size ≤ b5 by rw [hb5]; exact HB.out.size)
 have hb5l : b5 < w4.heap.size := block_lt_of_cell r0
 replace HP := Lib.hid (HP.out.below hb)
 replace HB := Lib.hid (HB.out.trans (hb.mono HB.out.size))
 have HNF := Lib.hid (show k + 1 < 64 by have := HNK.out; omega)
 rw [← hw4, ← hb5]
 clear hb hw4 hb5 hb0' hb1' hfull hnf
 obtain ⟨kb, hkb⟩ : ∃ kb : Nat, bs = (kb : Int) := ⟨bs.toNat, by omega⟩
 subst hkb
 by_cases hl : kb = k
 ·subst hl
  go_quiet (fail)
  obtain ⟨w5, hw5⟩ : ∃ y, y = w4.drewN nq := ⟨_, rfl⟩
  have hb : Below w4.heap.size w4 w5 := by rw [hw5]; exact below_drewN (Below.refl _ _) _
  rw [← hw5]
  replace c4 := (hb.cell (p := ⟨b3, 4, none⟩) (block_lt_of_cell c4)).trans c4
  replace r0 := (hb.cell (p := ⟨b5, 0, none⟩) (block_lt_of_cell r0)).trans r0
  replace r1 := (hb.cell (p := ⟨b5, 1, none⟩) (block_lt_of_cell r1)).trans r1
  replace r2 := (hb.cell (p := ⟨b5, 2, none⟩) (block_lt_of_cell r2)).trans r2
  replace r3 := (hb.cell (p := ⟨b5, 3, none⟩) (block_lt_of_cell r3)).trans r3
  replace r4 := (hb.cell (p := ⟨b5, 4, none⟩) (block_lt_of_cell r4)).trans r4
  replace rf : ∀ o, w5.frozen? ⟨b5, o, none⟩ = false := fun o => (hb.frozen (p := ⟨b5, o, none⟩) hb5l).trans (rf o)
  replace hb5l := Nat.lt_of_lt_of_le hb5l hb.size
  replace HT := Lib.hid (HT.out.below hb)
  replace HP := Lib.hid (HP.out.below hb)
  replace HB := Lib.hid (HB.out.trans (hb.mono HB.out.size))
  clear hb hw5
  go_wp2_with fail
  refine (normal_any _ t w5 HT.out HV.out hL).mono ?_
  rintro e w6 ⟨xv, rfl, ho, hb⟩
  replace r0 := (hb.cell (p := ⟨b5, 0, none⟩) (block_lt_of_cell r0)).trans r0
  replace r1 := (hb.cell (p := ⟨b5, 1, none⟩) (block_lt_of_cell r1)).trans r1
  replace r2 := (hb.cell (p := ⟨b5, 2, none⟩) (block_lt_of_cell r2)).trans r2
  replace r3 := (hb.cell (p := ⟨b5, 3, none⟩) (block_lt_of_cell r3)).trans r3
  replace r4 := (hb.cell (p := ⟨b5, 4, none⟩) (block_lt_of_cell r4)).trans r4
  replace rf : ∀ o, w6.frozen? ⟨b5, o, none⟩ = false := fun o => (hb.frozen (p := ⟨b5, o, none⟩) hb5l).trans (rf o)
  have HG6 := Lib.hid hb5l
  replace HP := Lib.hid (HP.out.below hb)
  replace HB := Lib.hid (HB.out.trans (hb.mono HB.out.size))
  obtain ⟨xa, xc, hxv, -⟩ := ho.tk
  obtain ⟨xn, hxn⟩ : ∃ n, n = (Trk.nf t).length := ⟨_, rfl⟩
  rw [← hxn] at hxv
  subst hxv
  have HO := Lib.hid ho
  clear hb ho hxn
  go_upto_region 14 with fail
  obtain ⟨w7, hw7⟩ : ∃ y, y = w6.setCell ⟨b5, 4, none⟩ (.slice xa xn xc) := ⟨_, rfl⟩
  have HRC := Lib.hid (rev_put (t := Trk.nf t) (xv := .slice xa xn xc) r0 r1 r2 r3 r4 (rf 0))
  have HX := Lib.hid (HO.out.far (p := ⟨b5, 4, none⟩) HG6.out (.slice xa xn xc))
  have HXV := Lib.hid (nf_vt HV.out)
  have HGB := Lib.hid (show g < w5.heap.size from Nat.lt_trans HGG.out HG6.out)
  replace HP := Lib.hid (HP.out.far (b := b5) (Nat.le_trans HM0.out HB5.out) (Nat.ne_of_lt HGG.out) 4 (.slice xa xn xc))
  replace HB := Lib.hid (below_setCells b5 HB5.out [.slice xa xn xc] 4 _ HB.out)
  simp only [World.setCells] at HB
  rw [← hw7] at HRC HX HP HB ⊢
  clear hw7 r0 r1 r2 r3 r4 rf c4 hb5l HT HO HG6 c1 c3 d3
  obtain ⟨R, hR⟩ : ∃ R : Rv, R = ⟨2, u, (kb : Int), false, Trk.nf t⟩ := ⟨_, rfl⟩
  have HRE := Lib.hid hR
  rw [← hR] at HRC
  have hRt : R.t = Trk.nf t := by rw [hR]
  rw [← hRt] at HX HXV
  have CU := Lib.hid (fun w (h : PD w g o m d) => current_any g o m d cur w h kb HK.out HCUR.out)
  have SA := Lib.hid (fun v v2 w (h : Tk w v R.t) (h2 : Tk w v2 cur.t) => same_any v v2 R.t cur.t w h h2 HXV.out (HRR.out.v cur (List.mem_of_getElem? HCUR.out)).1 hL)
  obtain ⟨D, hD⟩ : ∃ D, D = decide (Trk.nf R.t = Trk.nf cur.t) := ⟨_, rfl⟩
  rw [← hD] at SA
  have HDD := Lib.hid hD
  clear hR hRt hD hb0 hb1 hkk
  go_upto_region 14 with fail
  have hx4 : w7.cell? ⟨b5, 4, none⟩ = some (.slice xa xn xc) := by have := HRC.out 4 _ rfl; simpa using this
  refine Plan.wp_region_plan (fun w' => w'.cell? ⟨b5, 4, none⟩ = some (.slice xa xn xc)) (([0, 1, 2].map (·, true)) ++ (([3, 4].map (·, false)) ++ ([5].map (·, true)))) (by kernel_rfl) (by kernel_rfl) (by kernel_rfl) hx4 ?_
  refine' Plan.plan_seg _ [0, 1, 2] (([3, 4].map (·, false)) ++ ([5].map (·, true))) (by kernel_rfl) (by kernel_rfl) rfl (by exact hx4) (fun wx hS => ?_) ?_
  rotate_left
  ·go_light
   iterate 3 (apply Plan.seg_pick; rfl; intro K hK; go_wp)
   exact Plan.seg_nil
  obtain ⟨v1, hv1⟩ : ∃ x, x = w7.drew := ⟨_, rfl⟩
  rw [← hv1]
  have hb : Below w7.heap.size w7 v1 := by rw [hv1]; exact (Below.refl _ _).drew
  replace hx4 : v1.cell? ⟨b5, 4, none⟩ = some (.slice xa xn xc) := by rw [hv1]; exact hx4
  have HX4 := Lib.hid hx4
  replace HP := Lib.hid (HP.out.below hb)
  replace HX := Lib.hid (HX.out.below hb)
  replace HRC := Lib.hid (rangeAt_below HRC.out (by simp [revL]) hb)
  replace HB := Lib.hid (HB.out.trans (hb.mono HB.out.size))
  clear hb hv1 hx4
  refine Plan.plan_of_effect rfl (fun K hK => ?_)
  go_wp2_with fail
  refine (CU.out _ HP.out).mono ?_
  rintro e v2 ⟨⟨cv2, rfl, hcv⟩, hb⟩
  have HCV := Lib.hid (hcv.get.below hb)
  replace HX4 := Lib.hid ((hb.cell (p := ⟨b5, 4, none⟩) (block_lt_of_cell HX4.out)).trans HX4.out)
  replace HP := Lib.hid (HP.out.below hb)
  replace HX := Lib.hid (HX.out.below hb)
  replace HRC := Lib.hid (rangeAt_below HRC.out (by simp [revL]) hb)
  replace HB := Lib.hid (HB.out.trans (hb.mono HB.out.size))
  clear hb hcv
  go_wp2_with fail
  refine ⟨HX4.out, ?_⟩
  refine Plan.plan_of_effect rfl (fun K hK => ?_)
  go_wp2_with fail
  refine (SA.out _ _ _ HX.out.tk HCV.out).mono ?_
  rintro e v3 ⟨rfl, hb⟩
  replace HX4 := Lib.hid ((hb.cell (p := ⟨b5, 4, none⟩) (block_lt_of_cell HX4.out)).trans HX4.out)
  replace HP := Lib.hid (HP.out.below hb)
  replace HX := Lib.hid (HX.out.below hb)
  replace HRC := Lib.hid (rangeAt_below HRC.out (by simp [revL]) hb)
  replace HB := Lib.hid (HB.out.trans (hb.mono HB.out.size))
  clear hb
  go_wp2_with fail
  refine ⟨HX4.out, ?_⟩
  refine' Plan.plan_seg _ [5] [] (by kernel_rfl) (by kernel_rfl) rfl (by exact HX4.out) (fun wx hS => ?_) ?_
  rotate_left
  ·clear hS
   go_light
   iterate 1 (apply Plan.seg_pick; rfl; intro K hK; go_wp)
   exact Plan.seg_nil
  refine Plan.plan_done ?_
  by_cases hs : Trk.nf R.t = Trk.nf cur.t
  ·have hD : D = true := by rw [HDD.out]; exact decide_eq_true hs
   rw [hD]
   have HS := Lib.hid hs
   clear hs hD HDD
   go_wp2_with fail
   go_ret
   refine ⟨0, d, rfl, ?_, .inl ⟨rfl, HB.out⟩⟩
   have := CommitR.last (bs := (kb : Int)) (t := t) HLK.out (by have := HK.out; omega) (by have := HK.out; have := HNF.out; omega) cur (by unfold curR; rw [HK.out]; exact HCUR.out)
   unfold addR at this
   rw [← HRE.out] at this
   rwa [if_pos HS.out] at this
  have hD : D = false := by rw [HDD.out]; exact decide_eq_false hs
  rw [hD]
  have HS := Lib.hid hs
  clear hs hD HDD SA CU HX4
  go_upto_region 15 with fail
  apply wp_region_lit
  iterate 3 go_step
  refine wpl_loadR HRC.out rfl rfl rfl ?_
  simp only [Act.put, List.setIfInBounds_toArray, List.set_cons_succ, List.set_cons_zero]
  have AD := Lib.hid (addrev_any g o m d R (.slice xa xn xc) v3 HP.out (by intro h; have := HK.out; rw [h] at this; simp at this) (by have := HK.out; have := HNK.out; omega) (HX.out.ts HGB.out))
  go_wp2_with fail
  refine AD.out.mono ?_
  rintro e v4 ⟨rfl, q, cap, hq, hbb, hor⟩
  go_wp2_with fail
  go_ret
  refine ⟨0, { d with revs := d.revs ++ [R] }, rfl, ?_, .inr ⟨q, cap, d.revs ++ [R], rfl, Nat.le_trans HB.out.size hq, ?_, hor.top⟩⟩
  ·have := CommitR.last (bs := (kb : Int)) (t := t) HLK.out (by have := HK.out; omega) (by have := HK.out; have := HNF.out; omega) cur (by unfold curR; rw [HK.out]; exact HCUR.out)
   unfold addR at this
   rw [← HRE.out] at this
   rwa [if_neg HS.out] at this
  ·rw [List.length_append, List.length_singleton]
   exact (below_set_both HB.out _ _).trans (hbb.mono HB.out.size)
 have hkl : kb < k := by omega
 go_quiet (fail)
 have hl2 : ((kb : Int) == (k : Int)) = false := by rw [beq_eq_false_iff_ne]; omega
 rw [hl2]
 obtain ⟨w5, hw5⟩ : ∃ y, y = w4.drewN nq := ⟨_, rfl⟩
 have hb : Below w4.heap.size w4 w5 := by rw [hw5]; exact below_drewN (Below.refl _ _) _
 rw [← hw5]
 replace c3 := (hb.cell (p := ⟨b3, 3, none⟩) (block_lt_of_cell c3)).trans c3
 replace c4 := (hb.cell (p := ⟨b3, 4, none⟩) (block_lt_of_cell c4)).trans c4
 replace d3 := (hb.cell (p := ⟨g, o + 3, none⟩) (block_lt_of_cell d3)).trans d3
 replace r0 := (hb.cell (p := ⟨b5, 0, none⟩) (block_lt_of_cell r0)).trans r0
 replace r1 := (hb.cell (p := ⟨b5, 1, none⟩) (block_lt_of_cell r1)).trans r1
 replace r2 := (hb.cell (p := ⟨b5, 2, none⟩) (block_lt_of_cell r2)).trans r2
 replace r3 := (hb.cell (p := ⟨b5, 3, none⟩) (block_lt_of_cell r3)).trans r3
 replace r4 := (hb.cell (p := ⟨b5, 4, none⟩) (block_lt_of_cell r4)).trans r4
 replace rf : ∀ o, w5.frozen? ⟨b5, o, none⟩ = false := fun o => (hb.frozen (p := ⟨b5, o, none⟩) hb5l).trans (rf o)
 replace hb5l := Nat.lt_of_lt_of_le hb5l hb.size
 replace HT := Lib.hid (HT.out.below hb)
 replace HP := Lib.hid (HP.out.below hb)
 replace HB := Lib.hid (HB.out.trans (hb.mono HB.out.size))
 clear hb hw5 c1 hl2
 have HKL := Lib.hid hkl
 obtain ⟨b, hbk⟩ : ∃ b, d.revs[kb]? = some b := ⟨_, List.getElem?_eq_getElem (by have := HK.out; omega)⟩
 obtain ⟨rv2, hcd, hrs⟩ := HP.out.r
 have e3 := hcd 3 _ rfl
 rw [d3] at e3
 obtain rfl := (Option.some.inj e3).symm
 obtain ⟨rb', ro', rc', bv, hrv, hcc, hct⟩ := hrs.nth hbk
 simp only [Value.slice.injEq, Option.some.injEq, Addr.mk.injEq, and_true, true_and] at hrv
 obtain ⟨⟨rfl, rfl⟩, -, rfl⟩ := hrv
 have e4 : w5.cell? ⟨rb, ro + kb * 5 + 4, none⟩ = some bv := hcc 4 _ rfl
 obtain ⟨ba, bc, hbv, -⟩ := hct.get
 obtain ⟨bn, hbn⟩ : ∃ n, n = b.t.length := ⟨_, rfl⟩
 rw [← hbn] at hbv
 subst hbv
 have HBV := Lib.hid hct.get
 have HBK := Lib.hid hbk
 have HR5 := Lib.hid (And.intro r0 (And.intro r1 (And.intro r2 (And.intro r3 (And.intro r4 (And.intro rf hb5l))))))
 have HS4 := Lib.hid (And.intro c3 (And.intro c4 (And.intro d3 e4)))
 have HQ01 := Lib.hid (show ¬ ((kb : Int) < 0) ∧ (kb : Int) < ((k + 1 : Nat) : Int) from ⟨by omega, by omega⟩)
 have CU := Lib.hid (fun w (h : PD w g o m d) => current_any g o m d cur w h k HK.out HCUR.out)
 have MG := Lib.hid (fun v2 w (h1 : Tk w (.slice ba bn bc) b.t) (h2 : Tk w v2 cur.t) (h3 : Tk w (.slice ta tn tc) t) => merge_any (.slice ba bn bc) v2 (.slice ta tn tc) b.t cur.t t w h1 h2 h3 (HRR.out.v b (List.mem_of_getElem? HBK.out)).1 (HRR.out.v cur (List.mem_of_getElem? HCUR.out)).1 HV.out hL)
 clear hcd hrs hcc hct hbn hbk r0 r1 r2 r3 r4 rf hb5l c3 c4 d3 e3 e4 hb0 hb1 hl hkl hkk
 go_upto_region 10 with fail
 have hT0 : Below w5.heap.size w5 w5 := Below.refl _ _
 refine Plan.wp_region_plan (fun w' => Below w5.heap.size w5 w') (([0, 1, 2, 3, 4, 5, 6, 7, 8, 9, 11, 12].map (·, true)) ++ (([10, 13].map (·, false)) ++ ([14, 15, 16, 17, 18].map (·, true)))) (by kernel_rfl) (by kernel_rfl) (by kernel_rfl) (Below.refl _ _).drew ?_
 refine' Plan.plan_seg _ [0, 1, 2, 3, 4, 5, 6, 7, 8, 9, 11, 12] (([10, 13].map (·, false)) ++ ([14, 15, 16, 17, 18].map (·, true))) (by kernel_rfl) (by kernel_rfl) rfl (by exact (Below.refl _ _).drew) (fun wx hS => ?_) ?_
 rotate_left
 ·have c3 := (hS.cell (p := ⟨b3, 3, none⟩) (block_lt_of_cell HS4.out.1)).trans HS4.out.1
  have c4 := (hS.cell (p := ⟨b3, 4, none⟩) (block_lt_of_cell HS4.out.2.1)).trans HS4.out.2.1
  have d3 := (hS.cell (p := ⟨g, o + 3, none⟩) (block_lt_of_cell HS4.out.2.2.1)).trans HS4.out.2.2.1
  have e4 := (hS.cell (p := ⟨rb, ro + kb * 5 + 4, none⟩) (block_lt_of_cell HS4.out.2.2.2)).trans HS4.out.2.2.2
  obtain ⟨hq0, hq1⟩ := HQ01.out
  clear hS
  go_light
  iterate 12 (apply Plan.seg_pick; rfl; intro K hK; go_wp)
  exact Plan.seg_nil
 have hb : Below w5.heap.size w5 w5.drew := (Below.refl _ _).drew
 replace HBV := Lib.hid (HBV.out.below hb)
 replace HT := Lib.hid (HT.out.below hb)
 replace HP := Lib.hid (HP.out.below hb)
 have HSS := Lib.hid hb
 clear hb hT0
 refine Plan.plan_of_effect rfl (fun K hK => ?_)
 go_wp2_with fail
 refine (CU.out _ HP.out).mono ?_
 rintro e w6 ⟨⟨cv2, rfl, hcv⟩, hb⟩
 have HCV := Lib.hid (hcv.get.below hb)
 replace HBV := Lib.hid (HBV.out.below hb)
 replace HT := Lib.hid (HT.out.below hb)
 replace HP := Lib.hid (HP.out.below hb)
 replace HSS := Lib.hid (HSS.out.trans (hb.mono HSS.out.size))
 clear hb hcv
 go_wp2_with fail
 refine ⟨HSS.out, ?_⟩
 refine Plan.plan_of_effect rfl (fun K hK => ?_)
 go_wp2_with fail
 refine (MG.out _ _ HBV.out HCV.out HT.out).mono ?_
 rintro e w7 ⟨xv, code, x, rfl, ho, hb, hmr⟩
 have HG7 := Lib.hid (show b5 < w6.heap.size from Nat.lt_of_lt_of_le HR5.out.2.2.2.2.2.2 HSS.out.size)
 replace HP := Lib.hid (HP.out.below hb)
 replace HSS := Lib.hid (HSS.out.trans (hb.mono HSS.out.size))
 have HMR := Lib.hid hmr
 obtain ⟨xa, xc, hxv, -⟩ := ho.tk
 obtain ⟨xn, hxn⟩ : ∃ n, n = x.length := ⟨_, rfl⟩
 rw [← hxn] at hxv
 subst hxv
 have HO := Lib.hid ho
 clear hb ho hxn hmr
 go_wp2_with fail
 refine ⟨HSS.out, ?_⟩
 refine' Plan.plan_seg _ [14, 15, 16, 17, 18] [] (by kernel_rfl) (by kernel_rfl) rfl (by exact HSS.out) (fun wx hS => ?_) ?_
 rotate_left
 ·clear hS
  go_light
  iterate 5 (apply Plan.seg_pick; rfl; intro K hK; go_wp)
  exact Plan.seg_nil
 refine Plan.plan_done ?_
 replace HB := Lib.hid (HB.out.trans (HSS.out.mono HB.out.size))
 by_cases hz : code = 0
 ·subst hz
  obtain ⟨r0, r1, r2, r3, r4, rf, hbl⟩ := HR5.out
  replace r0 := (HSS.out.cell (p := ⟨b5, 0, none⟩) hbl).trans r0
  replace r1 := (HSS.out.cell (p := ⟨b5, 1, none⟩) hbl).trans r1
  replace r2 := (HSS.out.cell (p := ⟨b5, 2, none⟩) hbl).trans r2
  replace r3 := (HSS.out.cell (p := ⟨b5, 3, none⟩) hbl).trans r3
  replace r4 := (HSS.out.cell (p := ⟨b5, 4, none⟩) hbl).trans r4
  replace rf : ∀ o, w7.frozen? ⟨b5, o, none⟩ = false := fun o => (HSS.out.frozen (p := ⟨b5, o, none⟩) hbl).trans (rf o)
  clear hbl
  go_upto_region 14 with fail
  obtain ⟨w8, hw8⟩ : ∃ y, y = (w7.setCell ⟨b5, 0, none⟩ (.int .i64 3)).setCell ⟨b5, 4, none⟩ (.slice xa xn xc) := ⟨_, rfl⟩
  have s0 : (w7.setCell ⟨b5, 0, none⟩ (.int .i64 3)).cell? ⟨b5, 0, none⟩ = some (.int .i64 3) := by simp [go_sem, r0, rf]
  have s1 : (w7.setCell ⟨b5, 0, none⟩ (.int .i64 3)).cell? ⟨b5, 1, none⟩ = some (.string u) := by simp [go_sem, r1]
  have s2 : (w7.setCell ⟨b5, 0, none⟩ (.int .i64 3)).cell? ⟨b5, 2, none⟩ = some (.int .i64 kb) := by simp [go_sem, r2]
  have s3 : (w7.setCell ⟨b5, 0, none⟩ (.int .i64 3)).cell? ⟨b5, 3, none⟩ = some (.bool false) := by simp [go_sem, r3]
  have s4 : (w7.setCell ⟨b5, 0, none⟩ (.int .i64 3)).cell? ⟨b5, 4, none⟩ = some (.slice none 0 0) := by simp [go_sem, r4]
  have sf : (w7.setCell ⟨b5, 0, none⟩ (.int .i64 3)).frozen? ⟨b5, 0, none⟩ = false := by simp [go_sem, rf]
  have HRC := Lib.hid (rev_put (t := x) (xv := .slice xa xn xc) s0 s1 s2 s3 s4 sf)
  have HX := Lib.hid ((HO.out.far (p := ⟨b5, 0, none⟩) HG7.out (.int .i64 3)).far (p := ⟨b5, 4, none⟩) HG7.out (.slice xa xn xc))
  have HXV := Lib.hid (mergeR_vt HMR.out (HRR.out.v b (List.mem_of_getElem? HBK.out)).1 (HRR.out.v cur (List.mem_of_getElem? HCUR.out)).1 HV.out).1
  have HGB := Lib.hid (show g < w6.heap.size from Nat.lt_trans HGG.out HG7.out)
  replace HP := Lib.hid ((HP.out.far (b := b5) (Nat.le_trans HM0.out HB5.out) (Nat.ne_of_lt HGG.out) 0 (.int .i64 3)).far (b := b5) (Nat.le_trans HM0.out HB5.out) (Nat.ne_of_lt HGG.out) 4 (.slice xa xn xc))
  replace HB := Lib.hid (below_setCells b5 HB5.out [.slice xa xn xc] 4 _ (below_setCells b5 HB5.out [.int .i64 3] 0 _ HB.out))
  simp only [World.setCells] at HB
  rw [← hw8] at HRC HX HP HB ⊢
  clear hw8 r0 r1 r2 r3 r4 rf s0 s1 s2 s3 s4 sf HR5 HS4 HSS HO HG7 HT CU MG
  obtain ⟨R, hR⟩ : ∃ R : Rv, R = ⟨3, u, (kb : Int), false, x⟩ := ⟨_, rfl⟩
  have HRE := Lib.hid hR
  rw [← hR] at HRC
  have hRt : R.t = x := by rw [hR]
  rw [← hRt] at HX HXV
  have CU := Lib.hid (fun w (h : PD w g o m d) => current_any g o m d cur w h k HK.out HCUR.out)
  have SA := Lib.hid (fun v v2 w (h : Tk w v R.t) (h2 : Tk w v2 cur.t) => same_any v v2 R.t cur.t w h h2 HXV.out (HRR.out.v cur (List.mem_of_getElem? HCUR.out)).1 hL)
  obtain ⟨D, hD⟩ : ∃ D, D = decide (Trk.nf R.t = Trk.nf cur.t) := ⟨_, rfl⟩
  rw [← hD] at SA
  have HDD := Lib.hid hD
  clear hR hRt hD
  go_upto_region 14 with fail
  have hx4 : w8.cell? ⟨b5, 4, none⟩ = some (.slice xa xn xc) := by have := HRC.out 4 _ rfl; simpa using this
  refine Plan.wp_region_plan (fun w' => w'.cell? ⟨b5, 4, none⟩ = some (.slice xa xn xc)) (([0, 1, 2].map (·, true)) ++ (([3, 4].map (·, false)) ++ ([5].map (·, true)))) (by kernel_rfl) (by kernel_rfl) (by kernel_rfl) hx4 ?_
  refine' Plan.plan_seg _ [0, 1, 2] (([3, 4].map (·, false)) ++ ([5].map (·, true))) (by kernel_rfl) (by kernel_rfl) rfl (by exact hx4) (fun wx hS => ?_) ?_
  rotate_left
  ·go_light
   iterate 3 (apply Plan.seg_pick; rfl; intro K hK; go_wp)
   exact Plan.seg_nil
  obtain ⟨v1, hv1⟩ : ∃ x, x = w8.drew := ⟨_, rfl⟩
  rw [← hv1]
  have hb : Below w8.heap.size w8 v1 := by rw [hv1]; exact (Below.refl _ _).drew
  replace hx4 : v1.cell? ⟨b5, 4, none⟩ = some (.slice xa xn xc) := by rw [hv1]; exact hx4
  have HX4 := Lib.hid hx4
  replace HP := Lib.hid (HP.out.below hb)
  replace HX := Lib.hid (HX.out.below hb)
  replace HRC := Lib.hid (rangeAt_below HRC.out (by simp [revL]) hb)
  replace HB := Lib.hid (HB.out.trans (hb.mono HB.out.size))
  clear hb hv1 hx4
  refine Plan.plan_of_effect rfl (fun K hK => ?_)
  go_wp2_with fail
  refine (CU.out _ HP.out).mono ?_
  rintro e v2 ⟨⟨cv2, rfl, hcv⟩, hb⟩
  have HCV := Lib.hid (hcv.get.below hb)
  replace HX4 := Lib.hid ((hb.cell (p := ⟨b5, 4, none⟩) (block_lt_of_cell HX4.out)).trans HX4.out)
  replace HP := Lib.hid (HP.out.below hb)
  replace HX := Lib.hid (HX.out.below hb)
  replace HRC := Lib.hid (rangeAt_below HRC.out (by simp [revL]) hb)
  replace HB := Lib.hid (HB.out.trans (hb.mono HB.out.size))
  clear hb hcv
  go_wp2_with fail
  refine ⟨HX4.out, ?_⟩
  refine Plan.plan_of_effect rfl (fun K hK => ?_)
  go_wp2_with fail
  refine (SA.out _ _ _ HX.out.tk HCV.out).mono ?_
  rintro e v3 ⟨rfl, hb⟩
  replace HX4 := Lib.hid ((hb.cell (p := ⟨b5, 4, none⟩) (block_lt_of_cell HX4.out)).trans HX4.out)
  replace HP := Lib.hid (HP.out.below hb)
  replace HX := Lib.hid (HX.out.below hb)
  replace HRC := Lib.hid (rangeAt_below HRC.out (by simp [revL]) hb)
  replace HB := Lib.hid (HB.out.trans (hb.mono HB.out.size))
  clear hb
  go_wp2_with fail
  refine ⟨HX4.out, ?_⟩
  refine' Plan.plan_seg _ [5] [] (by kernel_rfl) (by kernel_rfl) rfl (by exact HX4.out) (fun wx hS => ?_) ?_
  rotate_left
  ·clear hS
   go_light
   iterate 1 (apply Plan.seg_pick; rfl; intro K hK; go_wp)
   exact Plan.seg_nil
  refine Plan.plan_done ?_
  by_cases hs : Trk.nf R.t = Trk.nf cur.t
  ·have hD : D = true := by rw [HDD.out]; exact decide_eq_true hs
   rw [hD]
   have HS := Lib.hid hs
   clear hs hD HDD
   go_wp2_with fail
   go_ret
   refine ⟨0, d, rfl, ?_, .inl ⟨rfl, HB.out⟩⟩
   have := CommitR.merge (t := t) HLK.out kb rfl (by have := HK.out; have := HKL.out; omega) (by have := HK.out; have := HNF.out; omega) cur b (by unfold curR; rw [HK.out]; exact HCUR.out) HBK.out x HMR.out
   unfold addR at this
   rw [← HRE.out] at this
   rwa [if_pos HS.out] at this
  have hD : D = false := by rw [HDD.out]; exact decide_eq_false hs
  rw [hD]
  have HS := Lib.hid hs
  clear hs hD HDD SA CU HX4
  go_upto_region 15 with fail
  apply wp_region_lit
  iterate 3 go_step
  refine wpl_loadR HRC.out rfl rfl rfl ?_
  simp only [Act.put, List.setIfInBounds_toArray, List.set_cons_succ, List.set_cons_zero]
  have AD := Lib.hid (addrev_any g o m d R (.slice xa xn xc) v3 HP.out (by intro h; have := HK.out; rw [h] at this; simp at this) (by have := HK.out; have := HNK.out; omega) (HX.out.ts HGB.out))
  go_wp2_with fail
  refine AD.out.mono ?_
  rintro e v4 ⟨rfl, q, cap, hq, hbb, hor⟩
  go_wp2_with fail
  go_ret
  refine ⟨0, { d with revs := d.revs ++ [R] }, rfl, ?_, .inr ⟨q, cap, d.revs ++ [R], rfl, Nat.le_trans HB.out.size hq, ?_, hor.top⟩⟩
  ·have := CommitR.merge (t := t) HLK.out kb rfl (by have := HK.out; have := HKL.out; omega) (by have := HK.out; have := HNF.out; omega) cur b (by unfold curR; rw [HK.out]; exact HCUR.out) HBK.out x HMR.out
   unfold addR at this
   rw [← HRE.out] at this
   rwa [if_neg HS.out] at this
  ·rw [List.length_append, List.length_singleton]
   exact (below_set_both HB.out _ _).trans (hbb.mono HB.out.size)
 ·have hz2 : decide (code = 0) = false := decide_eq_false hz
  have HZ := Lib.hid hz
  go_wp2_with fail
  go_ret
  exact ⟨code, d, rfl, .fails HLK.out kb rfl (by have := HK.out; have := HKL.out; omega) (by have := HK.out; have := HNF.out; omega) cur b (by unfold curR; rw [HK.out]; exact HCUR.out) HBK.out code x HMR.out HZ.out, .inl ⟨rfl, HB.out⟩⟩
end Go.Proofs.YtfoohocgdcgbcaaGreat
