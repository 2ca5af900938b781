/- Texts of this claim joined: HX HZ JA JB JC JD JE. -/
import Derived.Test.YtfoohocgdcgbcaaGreatMe21
import Derived.Test.YtfoohocgdcgbcaaGreatSq
set_option linter.unusedVariables false
set_option linter.unusedSimpArgs false
set_option maxRecDepth 100000
set_option maxHeartbeats 40000000
namespace Go.Proofs.YtfoohocgdcgbcaaGreat
open Go.RowKit
structure DG (n m:List Trk.Clip) (p q:Int) (x:List Trk.Clip) (e:Int):Prop where
 d:Trk.Diff n m p q (partL m p (Trk.total m-(Trk.total n-q)))
 x:x=partR m p (Trk.total m-(Trk.total n-q))
 e:e=partE m p (Trk.total m-(Trk.total n-q))
theorem DG.tv {n m x:List Trk.Clip} {p q e:Int} (h:DG n m p q x e) (hm:TV m):TV x:=by
 rw[h.x]
 exact partR_tv hm h.d.le.1 h.d.le.2.2.2.1 (by have:=h.d.le;omega)
def RepG (n:List Trk.Clip) (E1 p1 q1:Int) (x1:List Trk.Clip) (E2 p2 q2:Int) (x2:List Trk.Clip) (code:Int) (x:List Trk.Clip):Prop:=
 (¬okRep n E1 p1 q1 E2 p2 q2∧code=2∧x=[])∨(okRep n E1 p1 q1 E2 p2 q2∧RepR n p1 q1 x1 p2 q2 x2 code x)
def TwoG (n a b:List Trk.Clip) (p1 q1:Int) (x1:List Trk.Clip) (E1 p2 q2:Int) (x2:List Trk.Clip) (E2:Int):Prop:=
 (DG n a p1 q1 x1 E1∧DG n b p2 q2 x2 E2∧¬q2<p1)∨(DG n b p1 q1 x1 E1∧DG n a p2 q2 x2 E2∧q1<p2)
def LongG (n a b:List Trk.Clip) (code:Int) (x:List Trk.Clip):Prop:=
 ∃ p1 q1 x1 E1 p2 q2 x2 E2,TwoG n a b p1 q1 x1 E1 p2 q2 x2 E2∧((p2≤q1∧code=12∧x=[])∨(q1<p2∧RepG n E1 p1 q1 x1 E2 p2 q2 x2 code x))
def MergeVG (n a b:List Trk.Clip) (code:Int) (x:List Trk.Clip):Prop:=
 (shortC n a b∧code=0∧x=shortL n a b)∨(¬shortC n a b∧LongG (Trk.nf n) (Trk.nf a) (Trk.nf b) code x)
def MergeG (w:World) (n a b:List Trk.Clip) (e:Ending) (w':World):Prop:=
 ∃ v' code x,e=.returned (.tuple #[v',.int .i64 code])∧OG w' w.heap.size 0 v' x∧Below w.heap.size w w'∧MergeVG n a b code x
theorem mergeg_short (D1 D2 D3:Nat) (vn va vb:Value) (n a b:List Trk.Clip) (w:World) (hn:TG w D1 vn n) (ha:TG w D2 va a) (hb:TG w D3 vb b) (Vn:TV n) (Va:TV a) (Vb:TV b)
  (hs:Trk.nf b=Trk.nf n∨Trk.nf b=Trk.nf a∨Trk.nf a=Trk.nf n) :
  Calls Tryz.prog 17 #[vn,va,vb] w fun e w'=>∃ v',e=.returned (.tuple #[v',.int .i64 0])∧OG w' w.heap.size 0 v' (shortL n a b)∧Below w.heap.size w w':=by
 have HN:=Hd hn
 have HA:=Hd ha
 have HBB:=Hd hb
 have V1:=Hd (fun(w:World) (h:TG w D1 vn n)=>vtrackg_yes D1 vn n w h Vn)
 have V2:=Hd (fun(w:World) (h:TG w D2 va a)=>vtrackg_yes D2 va a w h Va)
 have V3:=Hd (fun(w:World) (h:TG w D3 vb b)=>vtrackg_yes D3 vb b w h Vb)
 have S1:=Hd (fun(w:World) (h:TG w D3 vb b) (h':TG w D1 vn n)=>sameg_any D3 D1 vb vn b n w h h' Vb Vn)
 have S2:=Hd (fun(w:World) (h:TG w D3 vb b) (h':TG w D2 va a)=>sameg_any D3 D2 vb va b a w h h' Vb Va)
 have S3:=Hd (fun(w:World) (h:TG w D2 va a) (h':TG w D1 vn n)=>sameg_any D2 D1 va vn a n w h h' Va Vn)
 have NA:=Hd (fun(w:World) (h:TG w D2 va a)=>normalg_any D2 va a w h Va)
 have NB:=Hd (fun(w:World) (h:TG w D3 vb b)=>normalg_any D3 vb b w h Vb)
 have CA':=Hd (fun(v:Value) (w:World) (h:TG w 0 v (Trk.nf a))=>clonetrackg_any 0 v (Trk.nf a) w h (by have:=Va.nf.n;omega) Va.nf.cl)
 have CB':=Hd (fun(v:Value) (w:World) (h:TG w 0 v (Trk.nf b))=>clonetrackg_any 0 v (Trk.nf b) w h (by have:=Vb.nf.n;omega) Vb.nf.cl)
 obtain⟨xn,cn,rfl⟩:=hn.form
 obtain⟨xa,ca,rfl⟩:=ha.form
 obtain⟨xb,cb,rfl⟩:=hb.form
 obtain⟨nn,hnn⟩:=Xq (n.length)
 obtain⟨na,hna⟩:=Xq (a.length)
 obtain⟨nb,hnb⟩:=Xq (b.length)
 rw[← hnn]at HN V1 S1 S3 ⊢
 rw[← hna]at HA V2 S2 S3 NA ⊢
 rw[← hnb]at HBB V3 S1 S2 NB ⊢
 obtain⟨R,hR⟩:=Xq (shortL n a b)
 rw[← hR]
 have HR:=Hd hR
 have HS:=Hd hs
 clear hn ha hb Vn Va Vb hnn hna hnb hs hR
 go_enter Tryz.func17,Tryz.ntmps17
 go_wp2_with fail
 refine(V1.out w HN.out).mono ?_
 rintro e w1 ⟨rfl,hb⟩
 have HB:=Hd hb
 clear hb
 go_wp2_with fail
 refine(V2.out w1 (HA.out.below HB.out)).mono ?_
 rintro e w2 ⟨rfl,hb⟩
 replace HB:=Tb HB hb
 clear hb
 go_wp2_with fail
 refine(V3.out w2 (HBB.out.below HB.out)).mono ?_
 rintro e w3 ⟨rfl,hb⟩
 replace HB:=Tb HB hb
 clear hb
 go_wp2_with fail
 refine(S1.out w3 (HBB.out.below HB.out) (HN.out.below HB.out)).mono ?_
 rintro e w4 ⟨rfl,hb⟩
 replace HB:=Tb HB hb
 clear hb
 by_cases c1:Trk.nf b=Trk.nf n
 ·have HC1:=Hd c1
  have d1:decide (Trk.nf b=Trk.nf n)=true:=decide_eq_true c1
  rw[d1]
  clear c1 d1
  go_wp2_with fail
  refine(NA.out w4 (HA.out.below HB.out)).mono ?_
  rintro e wp ⟨r1,rfl,ho,hb⟩
  replace HB:=Tb HB hb
  have HO:=Hd ho.tg
  clear hb ho
  go_wp2_with fail
  refine(CA'.out r1 wp HO.out).mono ?_
  rintro e wq ⟨r2,rfl,ho,hb⟩
  have HO2:=Hd ho
  have HB2:=Tb HB hb
  have HLE:=Hd HB.out.size
  clear hb ho
  go_wp2_with fail
  go_ret2
  exact⟨_,rfl,by rw[HR.out];unfold shortL;rw[if_pos (Or.inl HC1.out)];exact HO2.out.lower HLE.out,HB2.out⟩
 have HC1:=Hd c1
 have d1:decide (Trk.nf b=Trk.nf n)=false:=decide_eq_false c1
 rw[d1]
 clear c1 d1
 go_wp2_with fail
 refine(S2.out w4 (HBB.out.below HB.out) (HA.out.below HB.out)).mono ?_
 rintro e w5 ⟨rfl,hb⟩
 replace HB:=Tb HB hb
 clear hb
 by_cases c2:Trk.nf b=Trk.nf a
 ·have HC2:=Hd c2
  have d1:decide (Trk.nf b=Trk.nf a)=true:=decide_eq_true c2
  rw[d1]
  clear c2 d1
  go_wp2_with fail
  refine(NA.out w5 (HA.out.below HB.out)).mono ?_
  rintro e wp ⟨r1,rfl,ho,hb⟩
  replace HB:=Tb HB hb
  have HO:=Hd ho.tg
  clear hb ho
  go_wp2_with fail
  refine(CA'.out r1 wp HO.out).mono ?_
  rintro e wq ⟨r2,rfl,ho,hb⟩
  have HO2:=Hd ho
  have HB2:=Tb HB hb
  have HLE:=Hd HB.out.size
  clear hb ho
  go_wp2_with fail
  go_ret2
  exact⟨_,rfl,by rw[HR.out];unfold shortL;rw[if_pos (Or.inr HC2.out)];exact HO2.out.lower HLE.out,HB2.out⟩
 have HC2:=Hd c2
 have d1:decide (Trk.nf b=Trk.nf a)=false:=decide_eq_false c2
 have c3:Trk.nf a=Trk.nf n:=by rcases HS.out with h |h |h;exact absurd h HC1.out;exact absurd h c2;exact h
 have d3:decide (Trk.nf a=Trk.nf n)=true:=decide_eq_true c3
 rw[d1]
 clear c2 d1 c3
 go_wp2_with fail
 refine(S3.out w5 (HA.out.below HB.out) (HN.out.below HB.out)).mono ?_
 rintro e w6 ⟨rfl,hb⟩
 replace HB:=Tb HB hb
 clear hb
 rw[d3]
 clear d3
 go_wp2_with fail
 refine(NB.out w6 (HBB.out.below HB.out)).mono ?_
 rintro e wp ⟨r1,rfl,ho,hb⟩
 replace HB:=Tb HB hb
 have HO:=Hd ho.tg
 clear hb ho
 go_wp2_with fail
 refine(CB'.out r1 wp HO.out).mono ?_
 rintro e wq ⟨r2,rfl,ho,hb⟩
 have HO2:=Hd ho
 have HB2:=Tb HB hb
 have HLE:=Hd HB.out.size
 clear hb ho
 go_wp2_with fail
 go_ret2
 exact⟨_,rfl,by rw[HR.out];unfold shortL;rw[if_neg (fun h=>h.elim HC1.out HC2.out)];exact HO2.out.lower HLE.out,HB2.out⟩
theorem mergeg_long (D1 D2 D3:Nat) (vn va vb:Value) (n a b:List Trk.Clip) (w:World) (hn:TG w D1 vn n) (ha:TG w D2 va a) (hb:TG w D3 vb b) (Vn:TV n) (Va:TV a) (Vb:TV b) (hs:¬shortC n a b) :
  Calls Tryz.prog 17 #[vn,va,vb] w (MergeG w n a b):=by
 have HN:=Hd hn
 have HA:=Hd ha
 have HBB:=Hd hb
 have V1:=Hd (fun(w:World) (h:TG w D1 vn n)=>vtrackg_yes D1 vn n w h Vn)
 have V2:=Hd (fun(w:World) (h:TG w D2 va a)=>vtrackg_yes D2 va a w h Va)
 have V3:=Hd (fun(w:World) (h:TG w D3 vb b)=>vtrackg_yes D3 vb b w h Vb)
 have S1:=Hd (fun(w:World) (h:TG w D3 vb b) (h':TG w D1 vn n)=>sameg_any D3 D1 vb vn b n w h h' Vb Vn)
 have S2:=Hd (fun(w:World) (h:TG w D3 vb b) (h':TG w D2 va a)=>sameg_any D3 D2 vb va b a w h h' Vb Va)
 have S3:=Hd (fun(w:World) (h:TG w D2 va a) (h':TG w D1 vn n)=>sameg_any D2 D1 va vn a n w h h' Va Vn)
 have HS:=Hd hs
 rw[decide_eq_false (fun h=>hs (.inl h))]at S1
 rw[decide_eq_false (fun h=>hs (.inr (.inl h)))]at S2
 rw[decide_eq_false (fun h=>hs (.inr (.inr h)))]at S3
 have NN:=Hd (fun(w:World) (h:TG w D1 vn n)=>normalg_any D1 vn n w h Vn)
 have NA:=Hd (fun(w:World) (h:TG w D2 va a)=>normalg_any D2 va a w h Va)
 have NB:=Hd (fun(w:World) (h:TG w D3 vb b)=>normalg_any D3 vb b w h Vb)
 have C1:=Hd (fun(v u:Value) (w:World) (h:TG w 0 v (Trk.nf n)) (h':TG w 0 u (Trk.nf a))=>compareg_any 0 0 v u _ _ w h h' Vn.nf Va.nf)
 have C2:=Hd (fun(v u:Value) (w:World) (h:TG w 0 v (Trk.nf n)) (h':TG w 0 u (Trk.nf b))=>compareg_any 0 0 v u _ _ w h h' Vn.nf Vb.nf)
 have RP:=Hd (fun(v xv yv:Value) (x1 x2:List Trk.Clip) (p1 q1 p2 q2 E1 E2:Int) (w:World) (h:TG w 0 v (Trk.nf n)) (hx:TG w 0 xv x1) (hy:TG w 0 yv x2) (Vx:TV x1) (Vy:TV x2) (he1:E1=0∨E1=2) (he2:E2=0∨E2=2) (i0:0≤p1) (i1:p1≤q1) (i2:q1≤p2) (i3:p2≤q2) (i4:q2≤Trk.total (Trk.nf n))=>
  replaceg_any 0 0 0 v xv yv _ x1 x2 p1 q1 p2 q2 E1 E2 w h hx hy Vn.nf Vx Vy he1 he2 i0 i1 i2 i3 i4)
 have VD1:=Hd (fun(p q E:Int) (x:List Trk.Clip) (h:DG (Trk.nf n) (Trk.nf a) p q x E)=>h.tv Va.nf)
 have VD2:=Hd (fun(p q E:Int) (x:List Trk.Clip) (h:DG (Trk.nf n) (Trk.nf b) p q x E)=>h.tv Vb.nf)
 obtain⟨xn,cn,rfl⟩:=hn.form
 obtain⟨xa,ca,rfl⟩:=ha.form
 obtain⟨xb,cb,rfl⟩:=hb.form
 obtain⟨nn,hnn⟩:=Xq (n.length)
 obtain⟨na,hna⟩:=Xq (a.length)
 obtain⟨nb,hnb⟩:=Xq (b.length)
 rw[← hnn]at HN V1 S1 S3 NN ⊢
 rw[← hna]at HA V2 S2 S3 NA ⊢
 rw[← hnb]at HBB V3 S1 S2 NB ⊢
 clear hn ha hb Vn Va Vb hnn hna hnb hs
 go_enter Tryz.func17,Tryz.ntmps17
 go_wp2_with fail
 refine(V1.out w HN.out).mono ?_
 rintro e w1 ⟨rfl,hb⟩
 have HB:=Hd hb
 clear hb
 go_wp2_with fail
 refine(V2.out w1 (HA.out.below HB.out)).mono ?_
 rintro e w2 ⟨rfl,hb⟩
 replace HB:=Tb HB hb
 clear hb
 go_wp2_with fail
 refine(V3.out w2 (HBB.out.below HB.out)).mono ?_
 rintro e w3 ⟨rfl,hb⟩
 replace HB:=Tb HB hb
 clear hb
 go_wp2_with fail
 refine(S1.out w3 (HBB.out.below HB.out) (HN.out.below HB.out)).mono ?_
 rintro e w4 ⟨rfl,hb⟩
 replace HB:=Tb HB hb
 clear hb
 go_wp2_with fail
 refine(S2.out w4 (HBB.out.below HB.out) (HA.out.below HB.out)).mono ?_
 rintro e w5 ⟨rfl,hb⟩
 replace HB:=Tb HB hb
 clear hb
 go_wp2_with fail
 refine(S3.out w5 (HA.out.below HB.out) (HN.out.below HB.out)).mono ?_
 rintro e w6 ⟨rfl,hb⟩
 replace HB:=Tb HB hb
 clear hb
 go_wp2_with fail
 refine(NN.out w6 (HN.out.below HB.out)).mono ?_
 rintro e w7 ⟨v7,rfl,ho,hb⟩
 have H7:=Hd ho.tg
 clear ho
 replace HB:=Tb HB hb
 clear hb
 go_wp2_with fail
 refine(NA.out w7 (HA.out.below HB.out)).mono ?_
 rintro e w8 ⟨v8,rfl,ho,hb⟩
 have H8:=Hd ho.tg
 clear ho
 replace H7:=Hd (H7.out.below hb)
 replace HB:=Tb HB hb
 clear hb
 go_wp2_with fail
 refine(C1.out _ _ w8 H7.out H8.out).mono ?_
 rintro e w9 ⟨p1,q1,xv,rfl,hdd,ho,hb⟩
 obtain⟨E1,hE1,hEE1,hd⟩:∃ E,E=partE (Trk.nf a) p1 (Trk.total (Trk.nf a)-(Trk.total (Trk.nf n)-q1))∧(E=0∨E=2)∧True:=⟨_,rfl,partE_or _ _ _,trivial⟩
 obtain⟨x1,hxx1⟩:=Xq (partR (Trk.nf a) p1 (Trk.total (Trk.nf a)-(Trk.total (Trk.nf n)-q1)))
 rw[← hE1]
 rw[← hxx1]at ho
 have D1:=Hd (show DG (Trk.nf n) (Trk.nf a) p1 q1 x1 E1 from⟨hdd,hxx1,hE1⟩)
 have H9:=Hd ho.tg
 have HEE1:=Hd hEE1
 clear ho hd hdd hEE1 hE1 hxx1 H8
 replace H7:=Hd (H7.out.below hb)
 replace HB:=Tb HB hb
 clear hb
 go_wp2_with fail
 refine(NB.out w9 (HBB.out.below HB.out)).mono ?_
 rintro e w10 ⟨v10,rfl,ho,hb⟩
 have H10:=Hd ho.tg
 clear ho
 replace H7:=Hd (H7.out.below hb)
 replace H9:=Hd (H9.out.below hb)
 replace HB:=Tb HB hb
 clear hb
 go_wp2_with fail
 refine(C2.out _ _ w10 H7.out H10.out).mono ?_
 rintro e w11 ⟨p2,q2,yv,rfl,hdd,ho,hb⟩
 obtain⟨E2,hE2,hEE2,hd⟩:∃ E,E=partE (Trk.nf b) p2 (Trk.total (Trk.nf b)-(Trk.total (Trk.nf n)-q2))∧(E=0∨E=2)∧True:=⟨_,rfl,partE_or _ _ _,trivial⟩
 obtain⟨x2,hxx2⟩:=Xq (partR (Trk.nf b) p2 (Trk.total (Trk.nf b)-(Trk.total (Trk.nf n)-q2)))
 rw[← hE2]
 rw[← hxx2]at ho
 have D2:=Hd (show DG (Trk.nf n) (Trk.nf b) p2 q2 x2 E2 from⟨hdd,hxx2,hE2⟩)
 have H11:=Hd ho.tg
 have HEE2:=Hd hEE2
 clear ho hd hdd hEE2 hE2 hxx2 H10
 replace H7:=Hd (H7.out.below hb)
 replace H9:=Hd (H9.out.below hb)
 replace HB:=Tb HB hb
 clear hb
 clear V1 V2 V3 S1 S2 S3 NN NA NB C1 C2 HN HA HBB
 obtain⟨xo,xc,hxv⟩:=H9.out.form
 obtain⟨yo,yc,hyv⟩:=H11.out.form
 obtain⟨lx,hlx⟩:=Xq (x1.length)
 obtain⟨ly,hly⟩:=Xq (x2.length)
 rw[← hlx]at hxv
 rw[← hly]at hyv
 subst hxv hyv
 clear hlx hly
 go_upto_region 9 with fail
 obtain⟨w12,hw12⟩:=Xq ((w11.alloc (.cells #[.int .i64 p1,.int .i64 q1,.slice xo lx xc,.int .i64 E1] 98)).alloc (.cells #[.int .i64 p2,.int .i64 q2,.slice yo ly yc,.int .i64 E2] 98))
 obtain⟨g1,hg1⟩:=Xq (w11.heap.size)
 obtain⟨g2,hg2⟩:=Xq (w11.heap.size+1)
 have hb:Below w11.heap.size w11 w12:=by rw[hw12];go_grown
 have HD:=Hd (show D4 w12 g1 p1 q1 (.slice xo lx xc) E1 by rw[hw12,hg1];exact⟨by simp[go_sem],by simp[go_sem],by simp[go_sem],by simp[go_sem],fun o=>by simp[go_sem]⟩)
 have HE:=Hd (show D4 w12 g2 p2 q2 (.slice yo ly yc) E2 by rw[hw12,hg2];exact⟨by simp[go_sem],by simp[go_sem],by simp[go_sem],by simp[go_sem],fun o=>by simp[go_sem]⟩)
 rw[← hw12,← hg2,← hg1]
 have HG:=Hd (show w11.heap.size≤g1∧w11.heap.size≤g2∧g1≠g2 by omega)
 have HBW:=Hd hb
 have HLE:=Hd HB.out
 clear hb hw12 hg1 hg2 HB
 obtain⟨d0,d1,d2,d3,df⟩:=HD.out
 obtain⟨e0,e1,e2,e3,ef⟩:=HE.out
 have n12:=HG.out.2.2
 have n21:=Ne.symm n12
 by_cases hsw:q2<p1
 ·have hz:decide (q2<p1)=true:=decide_eq_true hsw
  go_upto_region 11 with fail
  obtain⟨w13,hw13⟩:=Xq ((((((((w12.setCell ⟨g1,0,none⟩ (.int .i64 p2)).setCell ⟨g1,1,none⟩ (.int .i64 q2)).setCell ⟨g1,2,none⟩ (.slice yo ly yc)).setCell ⟨g1,3,none⟩ (.int .i64 E2)).setCell ⟨g2,0,none⟩ (.int .i64 p1)).setCell ⟨g2,1,none⟩ (.int .i64 q1)).setCell ⟨g2,2,none⟩ (.slice xo lx xc)).setCell ⟨g2,3,none⟩ (.int .i64 E1))
  rw[← hw13]
  have h13:D4 w13 g1 p2 q2 (.slice yo ly yc) E2∧D4 w13 g2 p1 q1 (.slice xo lx xc) E1:=by
   rw[hw13]
   have hd:=HD.out.put p2 q2 (.slice yo ly yc) E2
   have he:=(((HE.out.other n21 0 (.int .i64 p2)).other n21 1 (.int .i64 q2)).other n21 2 (.slice yo ly yc)).other n21 3 (.int .i64 E2)
   exact⟨(((hd.other n12 _ _).other n12 _ _).other n12 _ _).other n12 _ _,he.put p1 q1 (.slice xo lx xc) E1⟩
  have hb13:Below w11.heap.size w11 w13:=by
   rw[hw13]
   have l1:=HG.out.1
   have l2:=HG.out.2.1
   exact(((((((HBW.out.setCell (p:=⟨g1,0,none⟩) l1 _).setCell (p:=⟨g1,1,none⟩) l1 _).setCell (p:=⟨g1,2,none⟩) l1 _).setCell (p:=⟨g1,3,none⟩) l1 _).setCell (p:=⟨g2,0,none⟩) l2 _).setCell (p:=⟨g2,1,none⟩) l2 _).setCell (p:=⟨g2,2,none⟩) l2 _).setCell (p:=⟨g2,3,none⟩) l2 _
  replace HBW:=Hd hb13
  replace H7:=Hd (H7.out.below hb13)
  replace H9:=Hd (H9.out.below hb13)
  replace H11:=Hd (H11.out.below hb13)
  have H13:=Hd h13
  clear hw13 hb13 h13 HD HE d0 d1 d2 d3 df e0 e1 e2 e3 ef hz
  obtain⟨d0,d1,d2,d3,df⟩:=H13.out.1
  obtain⟨e0,e1,e2,e3,ef⟩:=H13.out.2
  have hz2:¬p1≤q2:=by omega
  obtain⟨a0,a1,a2,a3,a4⟩:=D1.out.d.le
  obtain⟨b0,b1,b2,b3,b4⟩:=D2.out.d.le
  clear a3 a4 b3 b4
  go_wp2_with fail
  refine(RP.out v7 (.slice yo ly yc) (.slice xo lx xc) x2 x1 p2 q2 p1 q1 E2 E1 _ H7.out H11.out H9.out (VD2.out _ _ _ _ D2.out) (VD1.out _ _ _ _ D1.out) HEE2.out HEE1.out (by omega) (by omega) (by omega) (by omega) (by omega)).mono ?_
  rintro e w14 ⟨v14,code,x,rfl,ho,hb,hr⟩
  have HO:=Hd (ho.lower (Nat.le_trans HLE.out.size HBW.out.size))
  have HR:=Hd hr
  have HBZ:=Hd (HLE.out.trans ((HBW.out.trans (hb.mono HBW.out.size)).mono HLE.out.size))
  clear ho hb hr
  go_wp2_with fail
  go_ret2
  exact⟨_,_,_,rfl,HO.out,HBZ.out,.inr ⟨HS.out,_,_,_,_,_,_,_,_,.inr ⟨D2.out,D1.out,hsw⟩,.inr ⟨hsw,HR.out⟩⟩⟩
 replace H7:=Hd (H7.out.below HBW.out)
 replace H9:=Hd (H9.out.below HBW.out)
 replace H11:=Hd (H11.out.below HBW.out)
 obtain⟨a0,a1,a2,a3,a4⟩:=D1.out.d.le
 obtain⟨b0,b1,b2,b3,b4⟩:=D2.out.d.le
 clear a3 a4 b3 b4
 by_cases hcf:p2≤q1
 ·have HBZ:=Hd (HLE.out.trans (HBW.out.mono HLE.out.size))
  go_wp2_with fail
  go_ret2
  exact⟨_,_,_,rfl,OG.nil _ _ _,HBZ.out,.inr ⟨HS.out,_,_,_,_,_,_,_,_,.inl ⟨D1.out,D2.out,by omega⟩,.inl ⟨hcf,rfl,rfl⟩⟩⟩
 go_wp2_with fail
 refine(RP.out v7 (.slice xo lx xc) (.slice yo ly yc) x1 x2 p1 q1 p2 q2 E1 E2 _ H7.out H9.out H11.out (VD1.out _ _ _ _ D1.out) (VD2.out _ _ _ _ D2.out) HEE1.out HEE2.out (by omega) (by omega) (by omega) (by omega) (by omega)).mono ?_
 rintro e w14 ⟨v14,code,x,rfl,ho,hb,hr⟩
 have HO:=Hd (ho.lower (Nat.le_trans HLE.out.size HBW.out.size))
 have HR:=Hd hr
 have HBZ:=Hd (HLE.out.trans ((HBW.out.trans (hb.mono HBW.out.size)).mono HLE.out.size))
 clear ho hb hr
 go_wp2_with fail
 go_ret2
 exact⟨_,_,_,rfl,HO.out,HBZ.out,.inr ⟨HS.out,_,_,_,_,_,_,_,_,.inl ⟨D1.out,D2.out,by omega⟩,.inr ⟨(by omega),HR.out⟩⟩⟩
theorem mergeg_any (D1 D2 D3:Nat) (vn va vb:Value) (n a b:List Trk.Clip) (w:World) (hn:TG w D1 vn n) (ha:TG w D2 va a) (hb:TG w D3 vb b) (Vn:TV n) (Va:TV a) (Vb:TV b) :
  Calls Tryz.prog 17 #[vn,va,vb] w (MergeG w n a b):=by
 by_cases hs:shortC n a b
 ·refine(mergeg_short D1 D2 D3 vn va vb n a b w hn ha hb Vn Va Vb hs).mono ?_
  rintro e w' ⟨v',rfl,ho,hbb⟩
  exact⟨_,_,_,rfl,ho,hbb,.inl ⟨hs,rfl,rfl⟩⟩
 exact mergeg_long D1 D2 D3 vn va vb n a b w hn ha hb Vn Va Vb hs
end Go.Proofs.YtfoohocgdcgbcaaGreat
namespace Go.Trk
theorem Pre.uniq {n m:List Clip} {p q:Int} (h:Pre n m p) (k:Pre n m q):p=q:=by
 have h1:=h.h1
 have h2:=h.h2
 have k1:=k.h1
 have k2:=k.h2
 rcases Int.lt_trichotomy p q with e |e |e
 ·exact absurd (k.f p h.h0 e) (h.x (by omega) (by omega))
 ·exact e
 exact absurd (h.f q k.h0 e) (k.x (by omega) (by omega))
theorem Suf.uniq {n m:List Clip} {lim p q:Int} (h:Suf n m lim p) (k:Suf n m lim q):p=q:=by
 have h1:=h.h1
 have k1:=k.h1
 rcases Int.lt_trichotomy p q with e |e |e
 ·exact absurd (k.f p h.h0 e) (h.x (by omega))
 ·exact e
 exact absurd (h.f q k.h0 e) (k.x (by omega))
theorem Diff.uniq {n m x y:List Clip} {p q p' q':Int} (h:Diff n m p q x) (k:Diff n m p' q' y):p=p'∧q=q':=by
 have e:=h.pre.uniq k.pre
 subst e
 have:=h.suf.uniq k.suf
 exact⟨rfl,by omega⟩
end Go.Trk
namespace Go.Proofs.YtfoohocgdcgbcaaGreat
open Go.RowKit
def MergeAG (n a b:List Trk.Clip) (code:Int) (x:List Trk.Clip):Prop:=
 (¬(TV n∧TV a∧TV b)∧code=1∧x=[])∨((TV n∧TV a∧TV b)∧MergeVG n a b code x)
def MergeAP (w:World) (n a b:List Trk.Clip) (e:Ending) (w':World):Prop:=
 ∃ v' code x,e=.returned (.tuple #[v',.int .i64 code])∧OG w' w.heap.size 0 v' x∧Below w.heap.size w w'∧MergeAG n a b code x
theorem merge_bad (D1 D2 D3:Nat) (vn va vb:Value) (n a b:List Trk.Clip) (w:World) (hn:TG w D1 vn n) (ha:TG w D2 va a) (hb:TG w D3 vb b) (In:∀ c∈n,InC c) (Ia:∀ c∈a,InC c) (Ib:∀ c∈b,InC c) (hbad:¬(TV n∧TV a∧TV b)) :
  Calls Tryz.prog 17 #[vn,va,vb] w fun e w'=>e=.returned (.tuple #[.slice none 0 0,.int .i64 1])∧Below w.heap.size w w':=by
 have HN:=Hd hn
 have HA:=Hd ha
 have HBB:=Hd hb
 have V1:=Hd (fun(w:World) (h:TG w D1 vn n)=>vtrackg_any D1 vn n w h In)
 have V2:=Hd (fun(w:World) (h:TG w D2 va a)=>vtrackg_any D2 va a w h Ia)
 have V3:=Hd (fun(w:World) (h:TG w D3 vb b)=>vtrackg_any D3 vb b w h Ib)
 have HBAD:=Hd hbad
 obtain⟨xn,cn,rfl⟩:=hn.form
 obtain⟨xa,ca,rfl⟩:=ha.form
 obtain⟨xb,cb,rfl⟩:=hb.form
 obtain⟨nn,hnn⟩:=Xq (n.length)
 obtain⟨na,hna⟩:=Xq (a.length)
 obtain⟨nb,hnb⟩:=Xq (b.length)
 rw[← hnn]at HN V1 ⊢
 rw[← hna]at HA V2 ⊢
 rw[← hnb]at HBB V3 ⊢
 clear hn ha hb In Ia Ib hnn hna hnb hbad
 go_enter Tryz.func17,Tryz.ntmps17
 go_wp2_with fail
 refine(V1.out w HN.out).mono ?_
 rintro e w1 ⟨rfl,hb⟩
 have HB:=Hd hb
 clear hb
 cases h1:trackB n with
 |false=>
  go_wp2_with fail
  go_ret2
  exact⟨rfl,HB.out⟩
 | true =>
  have T1:=Hd (trackB_iff.1 h1)
  clear h1
  go_wp2_with fail
  refine(V2.out w1 (HA.out.below HB.out)).mono ?_
  rintro e w2 ⟨rfl,hb⟩
  replace HB:=Tb HB hb
  clear hb
  cases h2:trackB a with
  |false=>
   go_wp2_with fail
   go_ret2
   exact⟨rfl,HB.out⟩
  | true =>
   have T2:=Hd (trackB_iff.1 h2)
   clear h2
   go_wp2_with fail
   refine(V3.out w2 (HBB.out.below HB.out)).mono ?_
   rintro e w3 ⟨rfl,hb⟩
   replace HB:=Tb HB hb
   clear hb
   cases h3:trackB b with
   |false=>
    go_wp2_with fail
    go_ret2
    exact⟨rfl,HB.out⟩
   |true=>exact absurd ⟨T1.out,T2.out,trackB_iff.1 h3⟩ HBAD.out
open Classical in
theorem merge_all (D1 D2 D3:Nat) (vn va vb:Value) (n a b:List Trk.Clip) (w:World) (hn:TG w D1 vn n) (ha:TG w D2 va a) (hb:TG w D3 vb b) (In:∀ c∈n,InC c) (Ia:∀ c∈a,InC c) (Ib:∀ c∈b,InC c) :
  Calls Tryz.prog 17 #[vn,va,vb] w (MergeAP w n a b):=by
 by_cases h:TV n∧TV a∧TV b
 ·refine(mergeg_any D1 D2 D3 vn va vb n a b w hn ha hb h.1 h.2.1 h.2.2).mono ?_
  rintro e w' ⟨v',code,x,rfl,ho,hbb,hr⟩
  exact⟨_,_,_,rfl,ho,hbb,.inr ⟨h,hr⟩⟩
 refine(merge_bad D1 D2 D3 vn va vb n a b w hn ha hb In Ia Ib h).mono ?_
 rintro e w' ⟨rfl,hbb⟩
 exact⟨_,_,_,rfl,OG.nil _ _ _,hbb,.inl ⟨h,rfl,rfl⟩⟩
theorem rmoved_coreW (k:Int) (nm:ByteArray) (an sn:Int) (a d:Nat) (sm:Bool) (n:Int) (w:World) (hne:(⟨k,nm,an,(a:Int),sn,(d:Int),sm⟩:Trk.Src)≠Trk.black) (a0:1≤a) (d0:1≤d) (a1:a≤65536) (d1:d≤65536) (b:Nat) (hb:b=baseN a d) (b0:1≤b) (b1:b≤65536)
  (e1 e2:Nat) (he1:(b:Int) / (a:Int)=(e1:Int)) (he2:(b:Int) / (d:Int)=(e2:Int)) (X1 X2 X3:Int) (h1:an*(e1:Int)=X1) (h2:n*sn=X2) (h3:X2*(e2:Int)=X3)
  (b3:-576460752303423488≤X1∧X1≤576460752303423488) (b4:-288230376151711744≤X2∧X2≤288230376151711744) (b5:-288230376151711744≤X3∧X3≤288230376151711744) (b6:an.natAbs≤576460752303423488) (b7:n.natAbs≤4294967296) (b8:sn.natAbs≤67108864) (b9:e1≤65536) (b10:e2≤65536)
  (g:Nat) (hg:g=Nat.gcd (X1+X3).natAbs b) (g0:1≤g) (g1:g≤b) (N':Int) (D':Nat) (hN:(X1+X3).tdiv (g:Int)=N') (hD:(b:Int) / (g:Int)=(D':Int)) (D0:1≤D') (D1:D'≤65536) (N0:N'.natAbs≤1152921504606846976) (r:Bool) (hw:withinN N'.natAbs D' 1099511627776=r) :
  Calls Tryz.prog 143 #[srcV ⟨k,nm,an,(a:Int),sn,(d:Int),sm⟩,.int .i64 n] w fun e w'=>e=.returned (.tuple #[srcV ⟨k,nm,N',(D':Int),sn,(d:Int),sm⟩,.bool r])∧Below w.heap.size w w':=by
 obtain⟨s,hs⟩:∃ s:Trk.Src,s=⟨k,nm,an,(a:Int),sn,(d:Int),sm⟩:=⟨_,rfl⟩
 have HBL:=Hd (fun w=>rblack_any ⟨k,nm,an,(a:Int),sn,(d:Int),sm⟩ w)
 rw[decide_eq_false hne]at HBL
 have HBA:=Hd (fun w=>base_any k nm an sn a d sm w a0 d0 (by omega) (by omega))
 rw[← hb]at HBA
 have HGC:=Hd (fun w=>rgcd_any (X1+X3) b w (by omega) (by omega) (by omega))
 rw[← hg]at HGC
 have HWI:=Hd (fun w=>rwithin_any N' D' 1099511627776 w (by omega) (by omega) D0 (by omega) (by decide))
 rw[hw]at HWI
 replace HBL:Hid (∀ w,Calls Tryz.prog 139 #[.agg #[.int .i64 k,.string nm,.int .i64 an,.int .i64 (a:Int),.int .i64 sn,.int .i64 (d:Int),.bool sm]] w fun e w'=>e=.returned (.bool false)∧Below w.heap.size w w'):=HBL
 show Calls Tryz.prog 143 #[.agg #[.int .i64 k,.string nm,.int .i64 an,.int .i64 (a:Int),.int .i64 sn,.int .i64 (d:Int),.bool sm],.int .i64 n] w _
 clear hb hg hw hne hs
 go_enter Tryz.func143,Tryz.ntmps143
 go_upto_region 1 with fail
 obtain⟨w1,hw1⟩:=Xq ((w.alloc (.cells #[.int .i64 k,.string nm,.int .i64 an,.int .i64 (a:Int),.int .i64 sn,.int .i64 (d:Int),.bool sm] 46)).alloc (.cells #[.int .i64 0,.string ⟨#[]⟩,.int .i64 0,.int .i64 0,.int .i64 0,.int .i64 0,.bool false] 46))
 rw[← hw1]
 have HS:=Hd (show SVar w1 w.heap.size ⟨k,nm,an,(a:Int),sn,(d:Int),sm⟩ by
  rw[hw1]
  exact(SVar.box w ⟨k,nm,an,(a:Int),sn,(d:Int),sm⟩ 46).below (below_box _ _))
 have HZ:=Hd (show SVar w1 (w.heap.size+1) Trk.black by
  have h2:=SVar.box (w.alloc (.cells #[.int .i64 k,.string nm,.int .i64 an,.int .i64 (a:Int),.int .i64 sn,.int .i64 (d:Int),.bool sm] 46)) Trk.black 46
  rw[show(w.alloc (.cells #[.int .i64 k,.string nm,.int .i64 an,.int .i64 (a:Int),.int .i64 sn,.int .i64 (d:Int),.bool sm] 46)).heap.size=w.heap.size+1 by simp]at h2
  rw[hw1]
  exact h2)
 have HB:=Hd (show Below w.heap.size w w1 by rw[hw1];exact((Below.refl _ _).alloc (Nat.le_refl _) _).alloc (by simp) _)
 obtain⟨g1,hg1⟩:=Xq (w.heap.size)
 obtain⟨g2,hg2⟩:=Xq (w.heap.size+1)
 rw[← hg2]at HZ ⊢
 rw[← hg1]at HS ⊢
 have HG:=Hd (show w.heap.size≤g1∧w.heap.size≤g2∧g1≠g2 by omega)
 clear hw1 hg1 hg2
 obtain⟨x0,x1,x2,x3,x4,x5,x6⟩:=HS.out.at0
 go_wp2_with fail
 refine(HBL.out _).mono ?_
 rintro e w2 ⟨rfl,hb⟩
 replace HS:=Hd (HS.out.below hb)
 replace HZ:=Hd (HZ.out.below hb)
 replace HB:=Tb HB hb
 clear hb x0 x1 x2 x3 x4 x5 x6
 obtain⟨x0,x1,x2,x3,x4,x5,x6⟩:=HS.out.at0
 go_wp2_with fail
 refine(HBA.out _).mono ?_
 rintro e w3 ⟨rfl,hb⟩
 replace HS:=Hd (HS.out.below hb)
 replace HZ:=Hd (HZ.out.below hb)
 replace HB:=Tb HB hb
 clear hb x0 x1 x2 x3 x4 x5 x6
 obtain⟨x0,x1,x2,x3,x4,x5,x6⟩:=HS.out.at0
 have hai:¬(a:Int)=0:=by omega
 have hdi:¬(d:Int)=0:=by omega
 go_upto_region 4 with fail
 go_quiet (fail)
 go_upto_region 5 with fail
 obtain⟨w4,hw4⟩:=Xq (w3.drewN nq)
 rw[← hw4]
 have hb:Below w3.heap.size w3 w4:=by rw[hw4];exact below_drewN (Below.refl _ _) _
 replace HS:=Hd (HS.out.below hb)
 replace HZ:=Hd (HZ.out.below hb)
 replace HB:=Tb HB hb
 clear hb hw4 x0 x1 x2 x3 x4 x5 x6 h1 h2 h3 he1 he2
 go_wp2_with fail
 refine(HGC.out _).mono ?_
 rintro e w5 ⟨rfl,nn,hnn⟩
 have hb:Below w4.heap.size w4 w5:=by rw[hnn];exact below_drewN (Below.refl _ _) _
 replace HS:=Hd (HS.out.below hb)
 replace HZ:=Hd (HZ.out.below hb)
 replace HB:=Tb HB hb
 clear hb hnn
 have hgi:¬(g:Int)=0:=by omega
 go_upto_region 6 with fail
 refine Plan.wp_region_plan (fun w'=>SVar w' g2 Trk.black) (([0,1,2,3,4,5,6,7].map (·,true))++([8].map (·,false))) (by kernel_rfl) (by kernel_rfl) (by kernel_rfl) (HZ.out.below (Below.refl _ _).drew) ?_
 refine' Plan.plan_seg _ [0,1,2,3,4,5,6,7] ([8].map (·,false)) (by kernel_rfl) (by kernel_rfl) rfl (by exact HZ.out.below (Below.refl _ _).drew) (fun wx hS=>?_) ?_
 rotate_left
 ·clear hS
  go_light
  iterate 8 (apply Plan.seg_pick;rfl;intro K hK;go_wp)
  exact Plan.seg_nil
 obtain⟨w6,hw6⟩:=Xq (w5.drew)
 rw[← hw6]
 have hb:Below w5.heap.size w5 w6:=by rw[hw6];exact(Below.refl _ _).drew
 replace HS:=Hd (HS.out.below hb)
 replace HZ:=Hd (HZ.out.below hb)
 replace HB:=Tb HB hb
 clear hb hw6
 obtain⟨x0,x1,x2,x3,x4,x5,x6⟩:=HS.out.at0
 have f2:=HS.out.f 2
 have f3:=HS.out.f 3
 refine Plan.plan_of_effect rfl (fun K hK=>?_)
 go_wp2_with fail
 refine⟨(HZ.out.far HG.out.2.2.symm 2 (.int .i64 N')).far HG.out.2.2.symm 3 (.int .i64 (D':Int)),?_⟩
 refine Plan.plan_done ?_
 replace HS:=Hd (HS.out.setAt N' (D':Int))
 replace HZ:=Hd ((HZ.out.far HG.out.2.2.symm 2 (.int .i64 N')).far HG.out.2.2.symm 3 (.int .i64 (D':Int)))
 replace HB:=Hd ((HB.out.setCell (p:=⟨g1,2,none⟩) HG.out.1 (.int .i64 N')).setCell (p:=⟨g1,3,none⟩) HG.out.1 (.int .i64 (D':Int)))
 obtain⟨w7,hw7⟩:=Xq ((w6.setCell ⟨g1,2,none⟩ (.int .i64 N')).setCell ⟨g1,3,none⟩ (.int .i64 (D':Int)))
 rw[← hw7]at HS HZ HB ⊢
 clear hw7 x0 x1 x2 x3 x4 x5 x6 f2 f3
 go_upto_region 7 with fail
 refine Plan.wp_region_plan (fun w'=>SVar w' g1 ⟨k,nm,N',(D':Int),sn,(d:Int),sm⟩) (([0,1,2].map (·,true))++(([3,4].map (·,false))++([5].map (·,true)))) (by kernel_rfl) (by kernel_rfl) (by kernel_rfl) (HS.out.below (Below.refl _ _).drew) ?_
 refine' Plan.plan_seg _ [0,1,2] (([3,4].map (·,false))++([5].map (·,true))) (by kernel_rfl) (by kernel_rfl) rfl (by exact HS.out.below (Below.refl _ _).drew) (fun wx hS=>?_) ?_
 rotate_left
 ·have HS2:=Hd hS
  obtain⟨x0,x1,x2,x3,x4,x5,x6⟩:=hS.at0
  clear hS
  go_light
  (apply Plan.seg_pick;rfl;intro K hK)
  refine wpl_loadS _ rfl HS2.out.c rfl rfl rfl ?_
  go_wp
  iterate 2 (apply Plan.seg_pick;rfl;intro K hK;go_wp)
  exact Plan.seg_nil
 obtain⟨w8,hw8⟩:=Xq (w7.drew)
 rw[← hw8]
 have hb:Below w7.heap.size w7 w8:=by rw[hw8];exact(Below.refl _ _).drew
 replace HS:=Hd (HS.out.below hb)
 replace HZ:=Hd (HZ.out.below hb)
 replace HB:=Tb HB hb
 clear hb hw8
 refine Plan.plan_of_effect rfl (fun K hK=>?_)
 go_wp2_with fail
 refine(HWI.out _).mono ?_
 rintro e w9 ⟨rfl,hb⟩
 replace HS:=Hd (HS.out.below hb)
 replace HZ:=Hd (HZ.out.below hb)
 replace HB:=Tb HB hb
 clear hb
 go_wp2_with fail
 refine⟨HS.out,?_⟩
 refine Plan.plan_of_effect rfl (fun K hK=>?_)
 refine wpl_storeS ⟨k,nm,N',(D':Int),sn,(d:Int),sm⟩ none rfl HZ.out.there rfl rfl rfl rfl ?_
 have hput:=HZ.out.put ⟨k,nm,N',(D':Int),sn,(d:Int),sm⟩
 have hsta:SVar (w9.setCells g2 0 (srcC ⟨k,nm,N',(D':Int),sn,(d:Int),sm⟩)) g1 ⟨k,nm,N',(D':Int),sn,(d:Int),sm⟩:=by
  have hs:(w9.setCells g2 0 (srcC ⟨k,nm,N',(D':Int),sn,(d:Int),sm⟩)).heap[g1]?=w9.heap[g1]?:=setCells_other g2 g1 HG.out.2.2 _ _ _
  exact⟨fun j v hj=>(World.cell?_of_block (a:=⟨g1,0+j,none⟩) hs).trans (HS.out.c j v hj),fun o=>(World.frozen?_of_block (a:=⟨g1,o,none⟩) hs).trans (HS.out.f o)⟩
 have hbel:=below_setCells g2 HG.out.2.1 (srcC ⟨k,nm,N',(D':Int),sn,(d:Int),sm⟩) 0 _ HB.out
 have HP:=Hd (And.intro hput hbel)
 have HT:=Hd hsta
 obtain⟨w10,hw10⟩:=Xq (w9.setCells g2 0 (srcC ⟨k,nm,N',(D':Int),sn,(d:Int),sm⟩))
 rw[← hw10]at HP HT ⊢
 clear hw10 hput hbel hsta
 go_wp2_with fail
 refine⟨HT.out,?_⟩
 refine' Plan.plan_seg _ [5] [] (by kernel_rfl) (by kernel_rfl) rfl (by exact HT.out) (fun wx hS=>?_) ?_
 rotate_left
 ·clear hS
  go_light
  iterate 1 (apply Plan.seg_pick;rfl;intro K hK;go_wp)
  exact Plan.seg_nil
 refine Plan.plan_done ?_
 iterate 3 go_step
 refine bodyPost_ret (v:=.tuple #[srcV ⟨k,nm,N',(D':Int),sn,(d:Int),sm⟩,.bool r]) (results_src2 Tryz.results143 rfl rfl HP.out.1) rfl ⟨rfl,HP.out.2⟩
theorem rmoved_black (n:Int) (w:World) :
  Calls Tryz.prog 143 #[srcV Trk.black,.int .i64 n] w fun e w'=>e=.returned (.tuple #[srcV Trk.black,.bool true])∧Below w.heap.size w w':=by
 have HBL:=Hd (fun w=>rblack_any Trk.black w)
 rw[decide_eq_true rfl]at HBL
 have hb:srcV Trk.black=.agg #[.int .i64 0,.string ⟨#[]⟩,.int .i64 0,.int .i64 0,.int .i64 0,.int .i64 0,.bool false]:=rfl
 rw[hb]at HBL ⊢
 go_enter Tryz.func143,Tryz.ntmps143
 go_upto_region 1 with fail
 obtain⟨w1,hw1⟩:=Xq ((w.alloc (.cells #[.int .i64 0,.string ⟨#[]⟩,.int .i64 0,.int .i64 0,.int .i64 0,.int .i64 0,.bool false] 46)).alloc (.cells #[.int .i64 0,.string ⟨#[]⟩,.int .i64 0,.int .i64 0,.int .i64 0,.int .i64 0,.bool false] 46))
 rw[← hw1]
 have HS:=Hd (show SVar w1 w.heap.size Trk.black by
  rw[hw1]
  exact(SVar.box w Trk.black 46).below (below_box _ _))
 have HZ:=Hd (show SVar w1 (w.heap.size+1) Trk.black by
  have h2:=SVar.box (w.alloc (.cells #[.int .i64 0,.string ⟨#[]⟩,.int .i64 0,.int .i64 0,.int .i64 0,.int .i64 0,.bool false] 46)) Trk.black 46
  rw[show(w.alloc (.cells #[.int .i64 0,.string ⟨#[]⟩,.int .i64 0,.int .i64 0,.int .i64 0,.int .i64 0,.bool false] 46)).heap.size=w.heap.size+1 by simp]at h2
  rw[hw1]
  exact h2)
 have HB:=Hd (show Below w.heap.size w w1 by rw[hw1];exact((Below.refl _ _).alloc (Nat.le_refl _) _).alloc (by simp) _)
 obtain⟨g1,hg1⟩:=Xq (w.heap.size)
 obtain⟨g2,hg2⟩:=Xq (w.heap.size+1)
 rw[← hg2]at HZ ⊢
 rw[← hg1]at HS ⊢
 have HG:=Hd (show w.heap.size≤g1∧w.heap.size≤g2∧g1≠g2 by omega)
 clear hw1 hg1 hg2
 obtain⟨x0,x1,x2,x3,x4,x5,x6⟩:=HS.out.at0
 simp only[Trk.black]at x0 x1 x2 x3 x4 x5 x6
 go_wp2_with fail
 refine(HBL.out _).mono ?_
 rintro e w2 ⟨rfl,hb⟩
 replace HS:=Hd (HS.out.below hb)
 replace HZ:=Hd (HZ.out.below hb)
 replace HB:=Tb HB hb
 clear hb x0 x1 x2 x3 x4 x5 x6
 go_upto_region 2 with fail
 apply wp_region_lit
 refine wpl_loadS (some 11) rfl HS.out.c rfl rfl rfl ?_
 refine wpl_storeS Trk.black none rfl HZ.out.there rfl rfl rfl rfl ?_
 have hput:=HZ.out.put Trk.black
 have hbel:=below_setCells g2 HG.out.2.1 (srcC Trk.black) 0 _ HB.out
 have HP:=Hd (And.intro hput hbel)
 obtain⟨w10,hw10⟩:=Xq (w2.setCells g2 0 (srcC Trk.black))
 rw[← hw10]at HP ⊢
 clear hw10 hput hbel
 go_wp2_with fail
 refine bodyPost_ret (v:=.tuple #[srcV Trk.black,.bool true]) (results_src2 Tryz.results143 rfl rfl HP.out.1) rfl ⟨rfl,HP.out.2⟩
noncomputable def inB (s:Trk.Src):Bool:=open Classical in decide (s=Trk.black)||withinN s.an.natAbs s.ad.toNat 1099511627776
theorem inB_black:inB Trk.black=true:=by unfold inB;simp
theorem rmoved_wide (s:Trk.Src) (n:Int) (w:World) (h:Trk.OkW 8796093022208 s) (n0:n.natAbs≤4294967296) :
  Calls Tryz.prog 143 #[srcV s,.int .i64 n] w fun e w'=>e=.returned (.tuple #[srcV (Trk.moved s n),.bool (inB (Trk.moved s n))])∧Below w.heap.size w w':=by
 rcases h with rfl |h
 ·rw[Trk.moved_black,inB_black];exact rmoved_black n w
 have hne:=h.g.ne
 have hmg:=Trk.moved_good h.g n
 obtain⟨q,D,g,em,g0,eD,eq,eg⟩:=Trk.moved_parts h.g n
 have hin:inB (Trk.moved s n)=withinN q.natAbs D 1099511627776:=by
  unfold inB
  rw[decide_eq_false hmg.ne,em]
  simp
 obtain⟨p1,p2,p3,p4,p5,p6⟩:=h.bounds
 have hb0:=Trk.base_pos h.g
 have hl:=h.l
 have hA:=h.a
 have hV:=h.v
 obtain⟨c1,c2,c3,c4⟩:=Trk.base_nat (A:=s.ad.toNat) (D:=s.sd.toNat) (by omega) (by omega)
 rw[hin,em]
 clear hin hmg h em
 unfold Trk.baseN at eD eg hb0 hl
 unfold Trk.posN at eq eg
 obtain⟨k,nm,an,ad,sn,sd,sm⟩:=s
 simp only at *
 obtain⟨a,rfl⟩:=Int.eq_ofNat_of_zero_le (show 0≤ad by omega)
 obtain⟨d,rfl⟩:=Int.eq_ofNat_of_zero_le (show 0≤sd by omega)
 simp only[Int.toNat_natCast]at *
 have a0:1≤a:=by omega
 have d0:1≤d:=by omega
 have a1:a≤65536:=by omega
 have d1:d≤65536:=by omega
 obtain⟨b,hb⟩:=Xq (a / a.gcd d*d)
 have hbN:b=baseN a d:=by
  unfold baseN
  have h1:65536≤4294967296 / d:=(Nat.le_div_iff_mul_le d0).2 (by omega)
  have h2:a / Nat.gcd a d≤a:=Nat.div_le_self _ _
  rw[if_neg (by omega),if_neg (by omega)]
  exact hb
 rw[← hb]at eD eg hb0 hl c1 c2 c3 c4
 obtain⟨e1,he1⟩:=Xq (d / a.gcd d)
 obtain⟨e2,he2⟩:=Xq (a / a.gcd d)
 rw[← he1,← he2]at eq eg
 rw[← he1]at c1 c2
 rw[← he2]at c3
 have i1:(b:Int) / (a:Int)=(e1:Int):=by rw[← c2];exact(Int.natCast_ediv b a).symm
 have i2:(b:Int) / (d:Int)=(e2:Int):=by rw[← c3];exact(Int.natCast_ediv b d).symm
 have e10:e1≤b:=by rw[← c2];exact Nat.div_le_self _ _
 have e20:e2≤b:=by rw[← c3];exact Nat.div_le_self _ _
 have hde:d*e2=b:=by rw[hb,he2,Nat.mul_comm]
 obtain⟨X1,hX1⟩:=Xq (an*(e1:Int))
 obtain⟨X2,hX2⟩:=Xq (n*sn)
 obtain⟨X3,hX3⟩:=Xq (X2*(e2:Int))
 rw[← hX2,← hX1,← hX3]at eq eg
 have m1:X1.natAbs≤8796093022208*b:=by
  rw[hX1,Int.natAbs_mul,Int.natAbs_natCast,c1,← Nat.mul_assoc]
  exact Nat.mul_le_mul_right _ hA
 have m2:X2.natAbs≤4294967296*(1024*d):=by rw[hX2,Int.natAbs_mul];exact Nat.mul_le_mul n0 hV
 have m3:X3.natAbs≤4398046511104*b:=by
  rw[hX3,Int.natAbs_mul,Int.natAbs_natCast,← hde,show 4398046511104*(d*e2)=4294967296*(1024*d)*e2 by rw[← Nat.mul_assoc,← Nat.mul_assoc]]
  exact Nat.mul_le_mul_right _ m2
 have g1:g≤b:=by rw[eg];exact Nat.gcd_le_right _ hb0
 have hN:(X1+X3).tdiv (g:Int)=q:=by rw[← eq];exact Int.mul_tdiv_cancel _ (by omega)
 have hD:(b:Int) / (g:Int)=(D:Int):=by rw[← eD,Int.natCast_mul];exact Int.mul_ediv_cancel _ (by omega)
 have D0:1≤D:=by
  rcases Nat.eq_zero_or_pos D with e |e
  ·rw[e,Nat.zero_mul]at eD;omega
  exact e
 have D1:D≤b:=by rw[← eD];exact Nat.le_mul_of_pos_right _ g0
 have hq:q.natAbs≤(X1+X3).natAbs:=by
  rw[← eq,Int.natAbs_mul,Int.natAbs_natCast]
  exact Nat.le_mul_of_pos_right _ g0
 exact rmoved_coreW k nm an sn a d sm n w hne a0 d0 a1 d1 b hbN (by omega) (by omega) e1 e2 i1 i2 X1 X2 X3 hX1.symm hX2.symm hX3.symm (by omega) (by omega) (by omega) (by omega) n0 p6 (by omega) (by omega) g eg g0 g1 q D hN hD D0 (by omega) (by omega) _ rfl
theorem rcopy_any (c:Trk.Clip) (x:Value) (w:World) (hi:IT w x c.chan) (hl:c.chan.length≤1048576) :
  Calls Tryz.prog 142 #[clipGV c x] w fun e w'=>∃ x',e=.returned (clipGV c x')∧Ch w' 0 x' c.chan∧Below w.heap.size w w':=by
 obtain⟨ax,cx,ex,-⟩:=id hi
 have HI:=Hd (fun w1 (hb:Below w.heap.size w w1)=>hi.below hb)
 have HL:=Hd hl
 unfold clipGV
 rw[ex]at HI ⊢
 obtain⟨nx,hnx⟩:=Xq (c.chan.length)
 rw[← hnx]at HI ⊢
 clear hi ex hnx hl
 obtain⟨C,hC⟩:=Xq ((clipG c (.slice ax nx cx)).toArray)
 rw[← hC]
 have HC:=Hd hC
 clear hC
 go_enter Tryz.func142,Tryz.ntmps142
 go_upto_region 1 with fail
 obtain⟨w1,hw1⟩:=Xq ((w.alloc (.cells C 48)).alloc (.cells (clipC (Trk.gap 0)).toArray 48))
 have hw1':=hw1
 simp only[clipC,Trk.gap,Trk.black,show(ByteArray.empty:ByteArray)=⟨#[]⟩ from rfl]at hw1'
 rw[← hw1']
 clear hw1'
 rw[HC.out]at hw1
 obtain⟨hx,hy,hb1⟩:GB w1 w.heap.size c (.slice ax nx cx)∧GB w1 (w.heap.size+1) (Trk.gap 0) (.slice none 0 0)∧Below w.heap.size w w1:=by
  subst hw1
  refine⟨(GB.box w c _).below (below_box _ _),?_,by go_grown⟩
  have h2:=GB.box (w.alloc (.cells (clipG c (.slice ax nx cx)).toArray 48)) (Trk.gap 0) (.slice none 0 0)
  rw[show(w.alloc (.cells (clipG c (.slice ax nx cx)).toArray 48)).heap.size=w.heap.size+1 by simp]at h2
  exact h2
 obtain⟨g1,hg1⟩:=Xq (w.heap.size)
 obtain⟨g2,hg2⟩:=Xq (w.heap.size+1)
 rw[← hg2]at hy ⊢
 rw[← hg1]at hx ⊢
 have hne:g1≠g2:=by omega
 have hn1:w.heap.size≤g1:=by omega
 have hn2:w.heap.size≤g2:=by omega
 clear hw1 hg1 hg2
 have y21:=hx.ga.k21
 simp only[Nat.zero_add]at y21
 have HX:=Hd hx
 have HY:=Hd hy
 have HB:=Hd hb1
 clear hx hy hb1
 apply wp_region_lit
 iterate 6 go_step
 refine wpList_appI _ rfl (.const (.slice none 0 0)) (.tmp 4) rfl rfl w1.heap.size (.slice none 0 0) _ c.chan rfl rfl (Or.inl ⟨rfl,rfl,rfl⟩) (Nat.le_refl _) (HI.out _ HB.out) HL.out ?_
 intro x' w2 hch hb _ _
 simp only[Act.put,sA1,sB1,sC1]
 obtain⟨ay,cy,ey⟩:=hch.form
 obtain⟨ny,hny⟩:=Xq (c.chan.length)
 rw[← hny]at ey
 subst ey
 have HX2:=Hd (HX.out.below hb)
 have HY2:=Hd (HY.out.below hb)
 have HB2:=Tb HB hb
 have HCH:=Hd hch
 have yf:=HX2.out.fz
 have y21':=HX2.out.ga.k21
 simp only[Nat.zero_add]at y21'
 clear hb hch y21 hny
 go_upto_region 2 with fail
 have HX3:=Hd (HX2.out.set_ch (.slice ay ny cy))
 have HY3:=Hd (HY2.out.other hne.symm 21 (.slice ay ny cy))
 have HB3:=Hd (HB2.out.setCell (p:=⟨g1,21,none⟩) hn1 (.slice ay ny cy))
 have HCH3:=Hd (HCH.out.far (w':=w2.setCell ⟨g1,21,none⟩ (.slice ay ny cy)) (by simp) HX2.out.e (by decide) (Nat.zero_le _) (fun b hb hn=>setCells_other g1 b hn [_] 21 w2))
 clear yf y21'
 obtain⟨w3,hw3⟩:=Xq (w2.setCell ⟨g1,21,none⟩ (.slice ay ny cy))
 rw[← hw3]at HX3 HY3 HB3 HCH3 ⊢
 clear hw3
 rw[HC.out]
 apply wp_region_lit
 refine wpl_loadG HX3.out.ga rfl rfl rfl ?_
 refine wpl_storeB2 c ay ny cy HY3.out rfl rfl rfl rfl ?_
 intro w4 hv hk hs hb
 have hb4:=hb _ _ hn2 HB3.out
 have hch4:=HCH3.out.far (Nat.le_of_eq hs.symm) HY3.out.e (by decide) (Nat.zero_le _) (fun b hb hn=>hk b hn)
 clear hb hk hs
 go_wp2_with fail
 refine bodyPost_ret (v:=.agg (clipG c (.slice ay ny cy)).toArray) (results_clipG Tryz.results142 rfl hv.ga) rfl ⟨_,rfl,hch4,hb4⟩
structure SHB (w0 w:World) (g1 g2 g3:Nat) (c:Trk.Clip) (x:Value) (e:Trk.Clip) (z:Value):Prop where
 y:GB w g1 c x
 x:GB w g2 (Trk.gap 0) (.slice none 0 0)
 v:GB w g3 e z
 c:Ch w 0 z c.chan
 u:Below w0.heap.size w0 w
theorem SHB.below {w0 w w':World} {g1 g2 g3:Nat} {c e:Trk.Clip} {x z:Value} (h:SHB w0 w g1 g2 g3 c x e z) (hb:Below w.heap.size w w'):SHB w0 w' g1 g2 g3 c x e z:=
 ⟨h.y.below hb,h.x.below hb,h.v.below hb,h.c.below hb,h.u.trans (hb.mono h.u.size)⟩
theorem SHB.turn {w0 w w':World} {g1 g2 g3:Nat} {c e e':Trk.Clip} {x z:Value} (h:SHB w0 w g1 g2 g3 c x e z) (h1:g1≠g3) (h2:g2≠g3) (hv:GB w' g3 e' z) (hk:∀ b,b≠g3→w'.heap[b]?=w.heap[b]?) (hs:w'.heap.size=w.heap.size) (hu:Below w0.heap.size w0 w'):SHB w0 w' g1 g2 g3 c x e' z:=
 ⟨⟨(hk g1 h1).trans h.y.e⟩,⟨(hk g2 h2).trans h.x.e⟩,hv,h.c.far (Nat.le_of_eq hs.symm) h.v.e (by decide) (Nat.zero_le _) (fun b _ hn=>hk b hn),hu⟩
theorem SVar.keepB {w w':World} {g:Nat} {s:Trk.Src} (h:SVar w g s) (hs:w'.heap[g]?=w.heap[g]?):SVar w' g s:=
 ⟨fun j v hj=>(World.cell?_of_block (a:=⟨g,0+j,none⟩) hs).trans (h.c j v hj),fun o=>(World.frozen?_of_block (a:=⟨g,o,none⟩) hs).trans (h.f o)⟩
theorem results_clipB {fn:Func} {tmps:Array Value} {w:World} {s r:Tmp} {b:Nat} {c:Trk.Clip} {x y:Value} (hr:fn.results=#[.cell s 48,.tmp r]) (ht:tmps.getD s undef=.pointer (some ⟨b,0,none⟩)) (hy:tmps.getD r undef=y) (hc:GA w b 0 c x):(results fn tmps).run Tryz.prog w=.ok (.tuple #[.agg (clipG c x).toArray,y]) w:=by
 have h:=run_loadVar_mid (P:=Tryz.prog) w b 0 48 (clipG c x) _ hc.range Tryz.underlying48 rfl (by kernel_rfl)
 obtain⟨C,hC⟩:=Xq ((clipG c x).toArray)
 rw[← hC]at h ⊢
 unfold results
 rw[hr]
 have ht2:tmps[s]?.getD undef=.pointer (some ⟨b,0,none⟩):=by rw[← Array.getD_eq_getD_getElem?];exact ht
 have hy2:tmps[r]?.getD undef=y:=by rw[← Array.getD_eq_getD_getElem?];exact hy
 simp[ht2,hy2,asAddr,h]
theorem shares_dec (k:Int):decide (k=2∨k=3)=Trk.shares k:=by
 unfold Trk.shares
 by_cases h1:k=2<;>by_cases h2:k=3<;>simp[h1,h2]
theorem rshift_any (c:Trk.Clip) (x:Value) (n:Int) (w:World) (hi:IT w x c.chan) (hl:c.chan.length≤1048576) (ha:Trk.OkW 8796093022208 c.a) (hb:Trk.OkW 8796093022208 c.b) (n0:n.natAbs≤4294967296) (ho:c.off.natAbs≤4611686018427387904) :
  Calls Tryz.prog 98 #[clipGV c x,.int .i64 n] w fun e w'=>∃ x',e=.returned (.tuple #[clipGV (Trk.shift c n) x',.bool (inB (Trk.moved c.a n)&&inB (Trk.moved c.b n))])∧Ch w' 0 x' c.chan∧Below w.heap.size w w':=by
 have HMA:=fun w=>rmoved_wide c.a n w ha n0
 have HMB:=fun w=>rmoved_wide c.b n w hb n0
 have HSF:=Hd (show Trk.shift c n={ c with a:=Trk.moved c.a n,b:=Trk.moved c.b n,off:=if Trk.shares c.kind=true then c.off+n else c.off } from rfl)
 obtain⟨ma,hma⟩:=Xq (Trk.moved c.a n)
 obtain⟨mb,hmb⟩:=Xq (Trk.moved c.b n)
 rw[← hma]at HMA
 rw[← hmb]at HMB
 rw[← hma,← hmb]at HSF ⊢
 obtain⟨ra,hra⟩:=Xq (inB ma)
 obtain⟨rb,hrb⟩:=Xq (inB mb)
 rw[← hra]at HMA ⊢
 rw[← hrb]at HMB ⊢
 simp only[srcV,srcC]at HMA HMB
 replace HMA:=Hd HMA
 replace HMB:=Hd HMB
 have HSH:=fun w=>rshares_all c.kind w
 rw[shares_dec]at HSH
 replace HSH:=Hd HSH
 have HCP:=Hd (fun w1 (hb:Below w.heap.size w w1)=>rcopy_any c x w1 (hi.below hb) hl)
 obtain⟨ax,cx,ex,-⟩:=id hi
 obtain⟨nx,hnx⟩:=Xq (c.chan.length)
 rw[← hnx]at ex
 rw[ex]at HCP ⊢
 have HNX:=Hd hnx
 clear hi ex hnx hl ha hb hma hmb hra hrb
 unfold clipGV at HCP ⊢
 obtain⟨C,hC⟩:=Xq ((clipG c (.slice ax nx cx)).toArray)
 rw[← hC]at HCP ⊢
 have HC:=Hd hC
 clear hC
 go_enter Tryz.func98,Tryz.ntmps98
 go_upto_region 1 with fail
 obtain⟨w1,hw1⟩:=Xq ((w.alloc (.cells C 48)).alloc (.cells (clipC (Trk.gap 0)).toArray 48))
 have hw1':=hw1
 simp only[clipC,Trk.gap,Trk.black,show(ByteArray.empty:ByteArray)=⟨#[]⟩ from rfl]at hw1'
 rw[← hw1']
 clear hw1'
 rw[HC.out]at hw1
 obtain⟨hx,hy,hb1⟩:GB w1 w.heap.size c (.slice ax nx cx)∧GB w1 (w.heap.size+1) (Trk.gap 0) (.slice none 0 0)∧Below w.heap.size w w1:=by
  subst hw1
  refine⟨(GB.box w c _).below (below_box _ _),?_,by go_grown⟩
  have h2:=GB.box (w.alloc (.cells (clipG c (.slice ax nx cx)).toArray 48)) (Trk.gap 0) (.slice none 0 0)
  rw[show(w.alloc (.cells (clipG c (.slice ax nx cx)).toArray 48)).heap.size=w.heap.size+1 by simp]at h2
  exact h2
 obtain⟨g1,hg1⟩:=Xq (w.heap.size)
 obtain⟨g2,hg2⟩:=Xq (w.heap.size+1)
 have hz1:w1.heap.size=g2+1:=by rw[hw1,hg2];simp
 rw[← hg2]at hy ⊢
 rw[← hg1]at hx ⊢
 have hne:g1≠g2:=by omega
 have hlt12:g1<g2:=by omega
 have hn1:w.heap.size≤g1:=by omega
 have hn2:w.heap.size≤g2:=by omega
 clear hw1 hg1 hg2
 have HX:=Hd hx
 have HY:=Hd hy
 have HB:=Hd hb1
 have HZ:=Hd (show g1<w1.heap.size∧g2<w1.heap.size by omega)
 clear hx hy hb1 hz1 hlt12
 apply wp_region_lit
 refine wpl_loadG HX.out.ga rfl rfl rfl ?_
 rw[← HC.out]
 simp only[Act.put,sA1,sB1,sC1]
 go_wp2_with fail
 refine(HCP.out _ HB.out).mono ?_
 rintro e w2 ⟨x',rfl,hch,hb⟩
 obtain⟨ay,cy,ey⟩:=hch.form
 rw[← HNX.out]at ey
 subst ey
 replace HX:=Hd (HX.out.below hb)
 replace HY:=Hd (HY.out.below hb)
 replace HB:=Tb HB hb
 have HCH:=Hd hch
 have hz2:=hb.size
 have hlt:=HZ.out
 clear hb hch
 dsimp only
 apply_assumption
 refine wpl_allocB rfl rfl (fun w3 hg hb hs3=>?_)
 simp only[Act.put,sA1,sB1,sC1]
 obtain⟨g3,hg3⟩:=Xq (w2.heap.size)
 rw[← hg3]at hg ⊢
 have h13:g1≠g3:=by omega
 have h23:g2≠g3:=by omega
 have hn3:w.heap.size≤g3:=by have:=HB.out.size;omega
 replace HX:=Hd (HX.out.below hb)
 replace HY:=Hd (HY.out.below hb)
 replace HB:=Tb HB hb
 replace HCH:=Hd (HCH.out.below hb)
 clear hg3 hb hz2 hlt HZ hs3
 refine wpl_storeB2 c ay nx cy hg rfl rfl rfl rfl ?_
 intro w4 hv ho4 hsz4 hb4
 have T:Hid (SHB w w4 g1 g2 g3 c (.slice ax nx cx) c (.slice ay nx cy)):=Hd ⟨⟨(ho4 _ h13).trans HX.out.e⟩,⟨(ho4 _ h23).trans HY.out.e⟩,hv,HCH.out.far (Nat.le_of_eq hsz4.symm) hg.e (by decide) (Nat.zero_le _) (fun b _ hn=>ho4 b hn),hb4 _ _ hn3 HB.out⟩
 clear HX HY HB HCH hv ho4 hsz4 hb4 hg
 obtain⟨_,_,x2,x3,x4,x5,x6,x7,x8,_⟩:=T.out.y.ga.at0
 go_wp2_with fail
 refine(HMA.out _).mono ?_
 rintro e w5 ⟨rfl,hb⟩
 replace T:=Hd (T.out.below hb)
 clear hb x2 x3 x4 x5 x6 x7 x8
 obtain⟨_,_,_,_,_,_,_,_,_,x9,x10,x11,x12,x13,x14,x15,_⟩:=T.out.y.ga.at0
 obtain⟨C2,hC2⟩:=Xq ((clipG c (.slice ay nx cy)).toArray)
 rw[← hC2]
 clear hC2
 go_upto_region 3 with fail
 obtain⟨w6,hw6⟩:=Xq (w5.alloc (.cells #[.int .i64 ma.kind,.string ma.name,.int .i64 ma.an,.int .i64 ma.ad,.int .i64 ma.sn,.int .i64 ma.sd,.bool ma.smooth] 46))
 obtain⟨g7,hg7⟩:=Xq (w5.heap.size)
 have hb:Below w5.heap.size w5 w6:=by rw[hw6];exact below_box _ _
 have A7:=Hd (show SVar w6 g7 ma by rw[hw6,hg7];exact SVar.box w5 ma 46)
 have h37:g7≠g3:=by have:=T.out.v.lt;omega
 rw[← hw6,← hg7]
 replace T:=Hd (T.out.below hb)
 clear hb hw6 hg7 x9 x10 x11 x12 x13 x14 x15
 obtain⟨_,_,_,_,_,_,_,_,_,x9,x10,x11,x12,x13,x14,x15,_⟩:=T.out.y.ga.at0
 go_wp2_with fail
 refine(HMB.out _).mono ?_
 rintro e w7 ⟨rfl,hb⟩
 replace T:=Hd (T.out.below hb)
 replace A7:=Hd (A7.out.below hb)
 clear hb x9 x10 x11 x12 x13 x14 x15
 go_upto_region 4 with fail
 obtain⟨w8,hw8⟩:=Xq (w7.alloc (.cells #[.int .i64 mb.kind,.string mb.name,.int .i64 mb.an,.int .i64 mb.ad,.int .i64 mb.sn,.int .i64 mb.sd,.bool mb.smooth] 46))
 obtain⟨g9,hg9⟩:=Xq (w7.heap.size)
 have hb:Below w7.heap.size w7 w8:=by rw[hw8];exact below_box _ _
 have A9:=Hd (show SVar w8 g9 mb by rw[hw8,hg9];exact SVar.box w7 mb 46)
 have h39:g9≠g3:=by have:=T.out.v.lt;omega
 rw[← hw8,← hg9]
 replace T:=Hd (T.out.below hb)
 replace A7:=Hd (A7.out.below hb)
 clear hb hw8 hg9
 go_cut [] from 27 (fun wx=>SHB w wx g1 g2 g3 c (.slice ax nx cx) { c with a:=ma,b:=mb } (.slice ay nx cy))
 case first J K' h1 h2=>
  refine Plan.wp_region_plan (fun w'=>SVar w' g7 ma∧SVar w' g9 mb) (([0,1,2].map (·,true))++(([3].map (·,false))++(([4].map (·,true))++([5].map (·,false))))) (by kernel_rfl) (by kernel_rfl) (by kernel_rfl) ⟨A7.out.below (Below.refl _ _).drew,A9.out.below (Below.refl _ _).drew⟩ ?_
  refine' Plan.plan_seg _ [0,1,2] (([3].map (·,false))++(([4].map (·,true))++([5].map (·,false)))) (by kernel_rfl) (by kernel_rfl) rfl (by exact⟨A7.out.below (Below.refl _ _).drew,A9.out.below (Below.refl _ _).drew⟩) (fun wx hS=>?_) ?_
  rotate_left
  ·obtain⟨x0,x1,x2,x3,x4,x5,x6⟩:=hS.1.at0
   obtain⟨y0,y1,y2,y3,y4,y5,y6⟩:=hS.2.at0
   clear hS
   go_light
   iterate 3 (apply Plan.seg_pick;rfl;intro K hK;go_wp)
   exact Plan.seg_nil
  obtain⟨w9,hw9⟩:=Xq (w8.drew)
  rw[← hw9]
  have hb:Below w8.heap.size w8 w9:=by rw[hw9];exact(Below.refl _ _).drew
  replace T:=Hd (T.out.below hb)
  replace A7:=Hd (A7.out.below hb)
  replace A9:=Hd (A9.out.below hb)
  clear hb hw9
  refine Plan.plan_of_effect rfl (fun K hK=>?_)
  obtain⟨_,_,x2,x3,x4,x5,x6,x7,x8,_⟩:=T.out.v.ga.at0
  have xf:=T.out.v.fz
  go_wp2_with fail
  obtain⟨w10,hw10⟩:=Xq ((((((((w9.setCell ⟨g3,2,none⟩ (.int .i64 ma.kind)).setCell ⟨g3,3,none⟩ (.string ma.name)).setCell ⟨g3,4,none⟩ (.int .i64 ma.an)).setCell ⟨g3,5,none⟩ (.int .i64 ma.ad)).setCell ⟨g3,6,none⟩ (.int .i64 ma.sn)).setCell ⟨g3,7,none⟩ (.int .i64 ma.sd)).setCell ⟨g3,8,none⟩ (.bool ma.smooth)))
  have hv:=T.out.v.set_a ma
  have hu:=below_set_a T.out.u hn3 ma
  rw[← hw10]at hv hu ⊢
  have hk:∀ b,b≠g3→w10.heap[b]?=w9.heap[b]?:=fun b hn=>by rw[hw10];simp[World.setCell,Array.getElem?_modify,Ne.symm hn]
  have hs:w10.heap.size=w9.heap.size:=by rw[hw10];simp[World.setCell]
  replace T:=Hd (T.out.turn h13 h23 hv hk hs hu)
  replace A7:=Hd (A7.out.keepB (hk g7 h37))
  replace A9:=Hd (A9.out.keepB (hk g9 h39))
  clear x2 x3 x4 x5 x6 x7 x8 xf hw10 hv hu hk hs
  refine⟨⟨A7.out,A9.out⟩,?_⟩
  refine' Plan.plan_seg _ [4] ([5].map (·,false)) (by kernel_rfl) (by kernel_rfl) rfl (by exact⟨A7.out,A9.out⟩) (fun wx hS=>?_) ?_
  rotate_left
  ·clear hS
   go_light
   iterate 1 (apply Plan.seg_pick;rfl;intro K hK;go_wp)
   exact Plan.seg_nil
  refine Plan.plan_of_effect rfl (fun K hK=>?_)
  obtain⟨_,_,_,_,_,_,_,_,_,x9,x10,x11,x12,x13,x14,x15,_⟩:=T.out.v.ga.at0
  have xf:=T.out.v.fz
  go_wp2_with fail
  obtain⟨w11,hw11⟩:=Xq ((((((((w10.setCell ⟨g3,9,none⟩ (.int .i64 mb.kind)).setCell ⟨g3,10,none⟩ (.string mb.name)).setCell ⟨g3,11,none⟩ (.int .i64 mb.an)).setCell ⟨g3,12,none⟩ (.int .i64 mb.ad)).setCell ⟨g3,13,none⟩ (.int .i64 mb.sn)).setCell ⟨g3,14,none⟩ (.int .i64 mb.sd)).setCell ⟨g3,15,none⟩ (.bool mb.smooth)))
  have hv:=T.out.v.set_b mb
  have hu:=below_set_b T.out.u hn3 mb
  rw[← hw11]at hv hu ⊢
  have hk:∀ b,b≠g3→w11.heap[b]?=w10.heap[b]?:=fun b hn=>by rw[hw11];simp[World.setCell,Array.getElem?_modify,Ne.symm hn]
  have hs:w11.heap.size=w10.heap.size:=by rw[hw11];simp[World.setCell]
  replace T:=Hd (T.out.turn h13 h23 hv hk hs hu)
  replace A7:=Hd (A7.out.keepB (hk g7 h37))
  replace A9:=Hd (A9.out.keepB (hk g9 h39))
  clear x9 x10 x11 x12 x13 x14 x15 xf hw11 hv hu hk hs
  refine⟨⟨A7.out,A9.out⟩,?_⟩
  refine Plan.plan_done ?_
  refine h2 _ _ (Met.intro (h1 _ _ ?_))
  (repeat apply Exists.intro)
  exact⟨T.out,rfl⟩
 clear T
 have T:=Hd hcut
 clear hcut
 have y1:=T.out.y.ga.k1
 simp only[Nat.zero_add]at y1
 go_upto_if 33 with(go_at_call 137;refine(HSH.out _).mono ?_;rintro e w' ⟨rfl,rfl⟩)
 clear y1
 obtain⟨of,hof2⟩:=Xq ((if Trk.shares c.kind=true then c.off+n else c.off))
 go_cut [33] from 34 (fun _ wx=>SHB w wx g1 g2 g3 c (.slice ax nx cx) { c with a:=ma,b:=mb,off:=of } (.slice ay nx cy))
 case first=>
  have x16:=T.out.y.ga.k16
  simp only[Nat.zero_add]at x16
  obtain⟨_,_,_,_,_,_,_,_,_,_,_,_,_,_,_,_,z16,_⟩:=T.out.v.ga.at0
  have xf:=T.out.v.fz
  go_wp2_with fail
  all_goals go_meet
  case rel=>
   rename_i hsh
   simp only[hsh,if_true]at hof2
   rw[hof2]
   exact T.out.turn h13 h23 (T.out.v.set_off _) (fun b hn=>by simp[World.setCell,Array.getElem?_modify,Ne.symm hn]) (by simp[World.setCell]) (T.out.u.setCell hn3 _)
  case rel=>
   rename_i hsh
   simp only[hsh,Bool.false_eq_true,if_false]at hof2
   rw[hof2]
   exact T.out
 case rest=>
  clear T
  have T:=Hd hcut
  clear hcut
  rw[← hof2]at HSF
  clear A7 A9 h37 h39 HMA HMB HSH hof2
  go_upto_region 7 with fail
  obtain⟨E,hE⟩:∃ E:Trk.Clip,E={ c with a:=ma,b:=mb,off:=of }:=⟨_,rfl⟩
  rw[← hE]at T HSF
  clear hE
  apply wp_region_lit
  refine wpl_loadG T.out.v.ga rfl rfl rfl ?_
  simp only[Act.put,sA1,sB1,sC1]
  have HT2:=Hd (fun(w':World) (hv:GB w' g2 E (.slice ay nx cy)) (hk:∀ b,b≠g2→w'.heap[b]?=wc.heap[b]?) (hs:w'.heap.size=wc.heap.size)=>T.out.c.far (w':=w') (Nat.le_of_eq hs.symm) T.out.x.e (by decide) (Nat.zero_le _) (fun b _ hn=>hk b hn))
  cases ra
  all_goals
   iterate 11 go_step
   refine wpl_storeB2 E ay nx cy T.out.x rfl rfl rfl rfl ?_
   intro w5' hv hk hs hb
   have hb5:=hb _ _ hn2 T.out.u
   have hch:=HT2.out _ hv hk hs
   clear hb hk hs HT2 T
   go_wp2_with fail
   refine bodyPost_ret (v:=.tuple #[.agg (clipG E (.slice ay nx cy)).toArray,.bool _]) (results_clipB Tryz.results98 rfl rfl hv.ga) rfl ⟨_,by rw[HSF.out];rfl,hch,hb5⟩
theorem rsameclip_any (c d:Trk.Clip) (x y:Value) (w:World) (hx:IT w x c.chan) (hy:IT w y d.chan) :
  Calls Tryz.prog 59 #[clipGV c x,clipGV d y] w fun e w'=>e=.returned (.bool (decide (c=d)))∧Below w.heap.size w w':=by
 unfold clipGV
 have hqa:=run_eq_src c.a d.a
 have hqb:=run_eq_src c.b d.b
 have HX:=Hd hx
 have HY:=Hd hy
 obtain⟨ax,cx,rfl,hx1,hx2,-⟩:=hx
 obtain⟨ay,cy,rfl,hy1,hy2,-⟩:=hy
 obtain⟨l,hl⟩:=Xq (c.chan)
 obtain⟨m,hm⟩:=Xq (d.chan)
 rw[← hl]at HX hx1 ⊢
 rw[← hm]at HY hy1 ⊢
 have HLM:=Hd (And.intro hl hm)
 clear hl hm
 obtain⟨N,hN⟩:=Xq (l.length)
 obtain⟨M,hM⟩:=Xq (m.length)
 have hn63:N≤9223372036854775807:=by unfold maxLen at hx2;omega
 rw[← hN]at hx1 HX ⊢
 rw[← hM]at hy1 HY ⊢
 have HN:=Hd hN
 have HM:=Hd hM
 clear hN hM hx2 hy2
 obtain⟨C,hC⟩:=Xq ((clipG c (.slice ax N cx)).toArray)
 obtain⟨D,hD⟩:=Xq ((clipG d (.slice ay M cy)).toArray)
 rw[← hC,← hD]
 have HCC:=Hd hC
 have HDD:=Hd hD
 clear hC hD
 have HQ:=Hd (And.intro hqa hqb)
 clear hqa hqb
 go_enter Tryz.func59,Tryz.ntmps59
 go_upto_region 1 with fail
 obtain⟨w1,hw1⟩:=Xq ((w.alloc (.cells C 48)).alloc (.cells D 48))
 rw[← hw1]
 rw[HCC.out,HDD.out]at hw1
 obtain⟨hx,hy,hb1⟩:=boxG2_facts hw1
 obtain⟨g1,hg1⟩:=Xq (w.heap.size)
 obtain⟨g2,hg2⟩:=Xq (w.heap.size+1)
 rw[← hg2]at hy ⊢
 rw[← hg1]at hx ⊢
 replace HX:=Hd (HX.out.below hb1)
 replace HY:=Hd (HY.out.below hb1)
 have HB:=Hd hb1
 clear hw1 hb1 hg1 hg2
 have HXG:=Hd hx
 have HYG:=Hd hy
 obtain⟨_,_,_,_,_,_,_,_,_,_,_,_,_,_,_,_,_,_,_,_,_,x21⟩:=hx.c.at0
 obtain⟨_,_,_,_,_,_,_,_,_,_,_,_,_,_,_,_,_,_,_,_,_,y21⟩:=hy.c.at0
 clear hx hy
 by_cases hNM:N=M
 rotate_left
 ·have hNM':((N:Int) != (M:Int))=true:=by
   have:(N:Int)≠(M:Int):=by omega
   simpa using this
  have HF:Hid (decide (c=d)=false):=Hd (decide_eq_false fun e=>hNM (by rw[HN.out,HM.out,HLM.out.1,HLM.out.2,e]))
  clear hNM
  go_wp2_with fail
  go_ret
  exact⟨ret_bool HF.out.symm,HB.out⟩
 subst hNM
 go_wp2_with fail
 go_loopw [5] (fun i wr=>∃ k:Nat,k≤N∧i=.int .i64 (k:Int)∧(∀ j,j<k→l[j]?=m[j]?)∧∃ n,wr=w1.drewN n) (fun i _=>N-(intOf i).toNat)
 case atStart=>exact⟨0,Nat.zero_le _,rfl,fun j hj=>absurd hj (Nat.not_lt_zero j),0,rfl⟩
 case round =>
  obtain⟨k,hk,rfl,hL,n,rfl⟩:=hrel
  have HL:=Hd hL
  clear hL
  by_cases hlt:k<N
  ·have hlt':(k:Int)<(N:Int):=by omega
   obtain⟨c',hc⟩:∃ c,l[k]?=some c:=⟨_,List.getElem?_eq_getElem (by rw[← HN.out];exact hlt)⟩
   obtain⟨d',hd⟩:∃ c,m[k]?=some c:=⟨_,List.getElem?_eq_getElem (by rw[← HM.out];exact hlt)⟩
   have HC:=Hd hc
   have HD:=Hd hd
   obtain⟨b1,o1,rfl,d1⟩:∃ b o,ax=some ⟨b,o,none⟩∧(w1.cell? ⟨b,o+k,none⟩=some (.int .i64 c')):=by
    obtain⟨a',c2,e,_,_,h3⟩:=HX.out
    obtain⟨b,o,e2,_,h4⟩:=h3 k c' HC.out
    simp only[Value.slice.injEq]at e
    exact⟨b,o,e.1.trans e2,h4⟩
   obtain⟨b2,o2,rfl,d2⟩:∃ b o,ay=some ⟨b,o,none⟩∧(w1.cell? ⟨b,o+k,none⟩=some (.int .i64 d')):=by
    obtain⟨a',c2,e,_,_,h3⟩:=HY.out
    obtain⟨b,o,e2,_,h4⟩:=h3 k d' HD.out
    simp only[Value.slice.injEq]at e
    exact⟨b,o,e.1.trans e2,h4⟩
   clear hc hd
   by_cases hcd:c'=d'
   ·have hcd':(c' != d')=false:=by simpa using hcd
    have HCD:=Hd hcd
    clear hcd
    go_wp2_with fail
    go_quiet (fail)
    go_wp2_with fail
    go_roundw
    case rel=>exact⟨k+1,by omega,by simp,fun j hj=>by
     rcases Nat.lt_or_ge j k with h |h
     ·exact HL.out j h
     have e:j=k:=by omega
     subst e
     rw[HC.out,HD.out,HCD.out],_,rfl⟩
    case measure=>
     show N-(intOf (.int .i64 ((k:Int)+1))).toNat<N-(intOf (.int .i64 (k:Int))).toNat
     simp[intOf]
     omega
   have hcd':(c' != d')=true:=by simpa using hcd
   have HFF:Hid (decide (c=d)=false):=Hd (decide_eq_false fun e=>hcd (by
    have h1:=HC.out
    rw[HLM.out.1,e,← HLM.out.2,HD.out]at h1
    exact(Option.some.inj h1).symm))
   clear hcd
   go_wp2_with fail
   go_quiet (fail)
   go_wp2_with fail
   go_ret
   exact⟨ret_bool HFF.out.symm,below_drewN (below_drewN HB.out _) _⟩
  have hkl:k=N:=by omega
  have HT:Hid (c.chan=d.chan):=Hd (by
   rw[← HLM.out.1,← HLM.out.2]
   refine List.ext_getElem? fun j=>?_
   rcases Nat.lt_or_ge j k with h |h
   ·exact HL.out j h
   rw[List.getElem?_eq_none (by rw[← HN.out];omega),List.getElem?_eq_none (by rw[← HM.out];omega)])
  subst hkl
  clear hlt HL
  obtain⟨hqa,hqb⟩:=HQ.out
  have HBD:=Hd (below_drewN HB.out n)
  obtain⟨x0,x1,x2,x3,x4,x5,x6,x7,x8,x9,x10,x11,x12,x13,x14,x15,x16,x17,x18,x19,x20,_⟩:=HXG.out.c.at0
  obtain⟨y0,y1,y2,y3,y4,y5,y6,y7,y8,y9,y10,y11,y12,y13,y14,y15,y16,y17,y18,y19,y20,_⟩:=HYG.out.c.at0
  go_wp2_with fail
  all_goals go_ret
  all_goals refine⟨ret_bool ?_,?_⟩
  all_goals first
   |exact HBD.out
   |exact below_drewN HB.out _
   | (refine (decide_eq_true ?_).symm
      refine Trk.Clip.ext2 ?_ ?_ ?_ ?_ ?_ ?_ ?_ ?_ ?_ HT.out<;>first |assumption |exact bytes_inj2 (by assumption))
   |(refine Eq.symm (decide_eq_decide.2 ⟨fun h=>?_,fun h=>?_⟩)<;>first |(rw[h]) |(refine Trk.Clip.ext2 ?_ ?_ ?_ ?_ ?_ ?_ ?_ ?_ ?_ HT.out<;>first |assumption |exact bytes_inj2 (by assumption)))
   | (refine (decide_eq_false ?_).symm
      rintro rfl
      first |exact absurd rfl (by assumption) |(exfalso;simp_all))
theorem rcont_core (d c:Trk.Clip) (y x:Value) (w:World) (hd:OkG d) (hc:OkG c) (hiy:IT w y d.chan) (hix:IT w x c.chan) (hk:¬(c.kind=0∧d.kind=0)) :
  Calls Tryz.prog 144 #[clipGV c x,clipGV d y] w fun e w'=>e=.returned (.bool (decide (Trk.cont d c)))∧Below w.heap.size w w':=by
 have HQ:=Hd (show(decide (Trk.cont d c))=decide (Trk.withLen (Trk.shift c c.len) d.len=d) from decide_eq_decide.2 ((cont_law hd.g hc.g).trans ⟨Eq.symm,Eq.symm⟩))
 have hl:=hc.g.l
 have HSH:=Hd (fun w1 (hb:Below w.heap.size w w1)=>rshift_any c x c.len w1 (hix.below hb) (by have:=hc.ch;omega) hc.a hc.b (by have:=hc.l;omega) hc.o)
 have HSC:=Hd (fun(e:Trk.Clip) (z:Value) w1 (hz:IT w1 z e.chan) (hb:Below w.heap.size w w1)=>rsameclip_any e d z y w1 hz (hiy.below hb))
 obtain⟨ay,cy,ey,-⟩:=id hiy
 obtain⟨ax,cx,ex,-⟩:=id hix
 obtain⟨ny,hny⟩:=Xq (d.chan.length)
 obtain⟨nx,hnx⟩:=Xq (c.chan.length)
 rw[← hny]at ey
 rw[← hnx]at ex
 rw[ey]at HSC
 rw[ex]at HSH
 rw[ex,ey]
 have HNX:=Hd hnx
 clear hiy hix ex ey hny hnx hd hc
 obtain⟨S,hS⟩:=Xq (Trk.shift c c.len)
 have HSN:=Hd (show S.chan=c.chan by rw[hS];rfl)
 rw[← hS]at HQ HSH
 clear hS
 unfold clipGV at HSH HSC ⊢
 obtain⟨C,hC⟩:=Xq ((clipG c (.slice ax nx cx)).toArray)
 obtain⟨D,hD⟩:=Xq ((clipG d (.slice ay ny cy)).toArray)
 rw[← hC]at HSH ⊢
 rw[← hD]at HSC ⊢
 have HC:=Hd hC
 have HD:=Hd hD
 clear hC hD
 go_enter Tryz.func144,Tryz.ntmps144
 go_upto_region 1 with fail
 obtain⟨w1,hw1⟩:=Xq ((w.alloc (.cells C 48)).alloc (.cells D 48))
 rw[← hw1]
 rw[HC.out,HD.out]at hw1
 obtain⟨hx,hy,hb1⟩:GB w1 w.heap.size c (.slice ax nx cx)∧GB w1 (w.heap.size+1) d (.slice ay ny cy)∧Below w.heap.size w w1:=by
  subst hw1
  refine⟨(GB.box w c (.slice ax nx cx)).below (below_box _ _),?_,by go_grown⟩
  have h2:=GB.box (w.alloc (.cells (clipG c (.slice ax nx cx)).toArray 48)) d (.slice ay ny cy)
  rw[show(w.alloc (.cells (clipG c (.slice ax nx cx)).toArray 48)).heap.size=w.heap.size+1 by simp]at h2
  exact h2
 obtain⟨g1,hg1⟩:=Xq (w.heap.size)
 obtain⟨g2,hg2⟩:=Xq (w.heap.size+1)
 rw[← hg2]at hy ⊢
 rw[← hg1]at hx ⊢
 have hn1:w.heap.size≤g1:=by omega
 have hn2:w.heap.size≤g2:=by omega
 clear hw1 hg1 hg2
 have x1:=hx.ga.k1
 have y1:=hy.ga.k1
 simp only[Nat.zero_add]at x1 y1
 have HX:=Hd hx
 have HY:=Hd hy
 have HB:=Hd hb1
 clear hx hy hb1
 go_cut [14] from 7 (fun v wx=>v=.bool false∧wx=w1)
 case first=>
  go_wp2_with fail
  all_goals go_meet
  all_goals first
   |exact⟨rfl,rfl⟩
   |(refine⟨?_,rfl⟩;simp_all)
 obtain⟨e14,rfl⟩:=hcut
 subst e14
 go_upto_region 3 with fail
 clear x1 y1
 obtain⟨x0,_⟩:=HX.out.ga.at0
 apply wp_region_lit
 refine wpl_loadG HX.out.ga rfl rfl rfl ?_
 rw[← HC.out]
 simp only[Act.put,sA1,sB1,sC1]
 go_wp2_with fail
 refine(HSH.out _ HB.out).mono ?_
 rintro e w2 ⟨x',rfl,hch,hb⟩
 obtain⟨az,cz,ez⟩:=hch.form
 rw[← HNX.out]at ez
 subst ez
 replace HY:=Hd (HY.out.below hb)
 replace HB:=Tb HB hb
 have HCH:=Hd hch
 clear hb hch x0
 dsimp only
 apply_assumption
 iterate 9 go_step
 refine wpl_allocB rfl rfl (fun w3 hg hb hs3=>?_)
 simp only[Act.put,sA1,sB1,sC1]
 obtain⟨g3,hg3⟩:=Xq (w2.heap.size)
 rw[← hg3]at hg ⊢
 have h23:g2≠g3:=by have:=HY.out.lt;omega
 have hn3:w.heap.size≤g3:=by have:=HB.out.size;omega
 replace HY:=Hd (HY.out.below hb)
 replace HB:=Tb HB hb
 replace HCH:=Hd (HCH.out.below hb)
 clear hg3 hb hs3
 refine wpl_storeB2 S az nx cz hg rfl rfl rfl rfl ?_
 intro w4 hv ho4 hsz4 hb4
 have HV:Hid (GB w4 g3 S (.slice az nx cz)):=Hd hv
 replace HY:Hid (GB w4 g2 d (.slice ay ny cy)):=Hd ⟨(ho4 _ h23).trans HY.out.e⟩
 replace HCH:=Hd (HCH.out.far (Nat.le_of_eq hsz4.symm) hg.e (by decide) (Nat.zero_le _) (fun b _ hn=>ho4 b hn))
 replace HB:=Hd (hb4 _ _ hn3 HB.out)
 clear hv ho4 hsz4 hb4 hg
 obtain⟨y0,_⟩:=HY.out.ga.at0
 obtain⟨z0,_⟩:=HV.out.ga.at0
 have zf:=HV.out.fz
 go_upto_region 5 with fail
 have hk:∀ b,b≠g3→(w4.setCell ⟨g3,0,none⟩ (.int .i64 d.len)).heap[b]?=w4.heap[b]?:=fun b hn=>by simp[World.setCell,Array.getElem?_modify,Ne.symm hn]
 replace HCH:=Hd (HCH.out.far (w':=w4.setCell ⟨g3,0,none⟩ (.int .i64 d.len)) (by simp[World.setCell]) HV.out.e (by decide) (Nat.zero_le _) (fun b _ hn=>hk b hn))
 replace HV:=Hd (HV.out.set_len d.len)
 replace HY:=Hd (HY.out.other h23 0 (.int .i64 d.len))
 replace HB:=Hd (HB.out.setCell (p:=⟨g3,0,none⟩) hn3 (.int .i64 d.len))
 obtain⟨w5,hw5⟩:=Xq (w4.setCell ⟨g3,0,none⟩ (.int .i64 d.len))
 rw[← hw5]at HV HY HB HCH ⊢
 clear hw5 hk y0 z0 zf
 apply wp_region_lit
 refine wpl_loadG HV.out.ga rfl rfl rfl ?_
 refine wpl_loadG HY.out.ga rfl rfl rfl ?_
 rw[← HD.out]
 simp only[Act.put,sA1,sB1,sC1]
 go_wp2_with fail
 refine(HSC.out _ _ _ (by rw[show({ S with len:=d.len }:Trk.Clip).chan=c.chan from HSN.out];exact HCH.out.it) HB.out).mono ?_
 rintro e w6 ⟨rfl,hb⟩
 have HB6:=Tb HB hb
 clear hb
 go_wp2_with fail
 go_ret
 exact⟨by rw[HQ.out];rfl,HB6.out⟩
theorem rcont_gaps (c d:Trk.Clip) (x y:Value) (w:World) (k1:c.kind=0) (k2:d.kind=0):Calls Tryz.prog 144 #[clipGV c x,clipGV d y] w fun e w'=>e=.returned (.bool true)∧Below w.heap.size w w':=by
 unfold clipGV
 obtain⟨C,hC⟩:=Xq ((clipG c x).toArray)
 obtain⟨D,hD⟩:=Xq ((clipG d y).toArray)
 rw[← hC,← hD]
 have HC:=Hd hC
 have HD:=Hd hD
 clear hC hD
 go_enter Tryz.func144,Tryz.ntmps144
 go_upto_region 1 with fail
 obtain⟨w1,hw1⟩:=Xq ((w.alloc (.cells C 48)).alloc (.cells D 48))
 rw[← hw1]
 rw[HC.out,HD.out]at hw1
 obtain⟨hx,hy,hb1⟩:=boxG2_facts hw1
 obtain⟨g1,hg1⟩:=Xq (w.heap.size)
 obtain⟨g2,hg2⟩:=Xq (w.heap.size+1)
 rw[← hg2]at hy ⊢
 rw[← hg1]at hx ⊢
 have x1:=hx.c.k1
 have y1:=hy.c.k1
 rw[k1]at x1
 rw[k2]at y1
 simp only[Nat.zero_add]at x1 y1
 clear hw1 hg1 hg2 hx hy
 go_wp2_with fail
 go_ret
 exact⟨rfl,hb1⟩
theorem rcont_any (d c:Trk.Clip) (y x:Value) (w:World) (hd:OkG d) (hc:OkG c) (hiy:IT w y d.chan) (hix:IT w x c.chan) :
  Calls Tryz.prog 144 #[clipGV c x,clipGV d y] w fun e w'=>e=.returned (.bool (decide (Trk.cont d c)))∧Below w.heap.size w w':=by
 by_cases hk:c.kind=0∧d.kind=0
 ·have e:=decide_eq_true (cont_gap hd.g hc.g hk.1 hk.2)
  rw[e]
  exact rcont_gaps c d x y w hk.1 hk.2
 exact rcont_core d c y x w hd hc hiy hix hk
end Go.Proofs.YtfoohocgdcgbcaaGreat
