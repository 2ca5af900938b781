/- Texts of this claim joined: JN JP JO AV QE QG IA IB JR. -/
import Derived.Test.YtfoohocgdcgbcaaGreatCh23
import Derived.Test.YtfoohocgdcgbcaaGreatSq
set_option linter.unusedVariables false
set_option linter.unusedSimpArgs false
set_option maxRecDepth 100000
set_option maxHeartbeats 40000000
namespace Go.Proofs.YtfoohocgdcgbcaaGreat
open Go.RowKit
open Classical in
theorem rinside_any (D:Nat) (v:Value) (l:List Trk.Clip) (w:World) (h:TG w D v l) (hR:RCL l) :
  Calls Tryz.prog 57 #[v] w fun e w'=>e=.returned (.bool (decide (VGL l)))∧Below w.heap.size w w':=by
 obtain⟨ao,cap,rfl,hc1,hc2,hT⟩:=h
 have HT:=Hd (show TG w D (.slice ao l.length cap) l from⟨ao,cap,rfl,hc1,hc2,hT⟩)
 clear hT
 have HRC:=Hd hR
 obtain⟨R,hR'⟩:=Xq (decide (VGL l))
 rw[← hR']
 have HR:=Hd hR'
 obtain⟨N,hN⟩:=Xq (l.length)
 rw[← hN]at hc1 HT
 have HLe:=Hd hN
 have hm:N≤9223372036854775807:=Nat.le_trans hc1 (Nat.le_trans hc2 (by decide))
 rw[← hN]
 clear hR' hN hc2 hR
 go_enter Tryz.func57,Tryz.ntmps57
 go_wp2_with fail
 go_loopw [3] (fun v3 wr=>∃ k:Nat,k≤N∧v3=.int .i64 (k:Int)∧(∀ (i:Nat) (c:Trk.Clip),i<k→l[i]?=some c→VG c)∧Below w.heap.size w wr) (fun i _=>N-(intOf i).toNat)
 case atStart=>exact⟨0,Nat.zero_le _,rfl,fun i c h=>absurd h (Nat.not_lt_zero i),Below.refl _ _⟩
 case round =>
  obtain⟨k,hk,rfl,hL,hb⟩:=hrel
  have HL:=Hd hL
  clear hL
  by_cases hlt:k<N
  ·have hlt':(k:Int)<(N:Int):=by omega
   have hkl:k<l.length:=by rw[← HLe.out];exact hlt
   obtain⟨c,hc⟩:∃ c,l[k]?=some c:=⟨_,List.getElem?_eq_getElem hkl⟩
   obtain⟨ao',cap',e,_,_,hT⟩:=HT.out.below hb
   simp only[Value.slice.injEq]at e
   obtain⟨rfl,-,rfl⟩:=e
   obtain⟨b,o,x,rfl,hA,hI⟩:=hT k c hc
   obtain⟨xa,xc,ex⟩:=hI.form
   obtain⟨xn,hxn⟩:=Xq (c.chan.length)
   rw[← hxn]at ex
   subst ex
   have HA:=Hd hA
   have HB:=Hd hb
   have HC:=Hd hc
   have HVC:=Hd (fun w2 (hb2:Below wr.heap.size wr w2)=>rclip_says c _ w2 (hI.it.below hb2) (HRC.out c (List.mem_of_getElem? hc)).i)
   unfold clipGV at HVC
   clear hT hA hb hc hkl hI hxn
   go_upto_region 4 with fail
   apply wp_region_lit
   iterate 9 go_step
   refine wpl_loadG HA.out rfl rfl rfl ?_
   simp only[Act.put,sA1,sB1,sC1]
   obtain⟨C,hC⟩:=Xq ((clipG c (.slice xa xn xc)).toArray)
   rw[← hC]at HVC ⊢
   clear hC
   go_wp2_with fail
   refine(HVC.out _ (Below.refl _ _)).mono ?_
   rintro e w4 ⟨rfl,hb⟩
   have HB4:=Tb HB hb
   clear hb HA HB
   cases hv:clipB c c.chan with
   |false=>
    have HRR:Hid (R=false):=Hd (by rw[HR.out];exact decide_eq_false (fun h=>by have:=clipB_iff.2 (h c (List.mem_of_getElem? HC.out));rw[hv]at this;cases this))
    clear hv
    go_wp2_with fail
    go_ret
    exact⟨ret_bool (HRR.out).symm,HB4.out⟩
   | true =>
    have HVV:=Hd (clipB_iff.1 hv)
    clear hv
    go_wp2_with fail
    go_roundw
    case rel=>exact⟨k+1,by omega,by simp,fun i d hi hd=>by
     rcases Nat.lt_or_ge i k with h |h
     ·exact HL.out i d h hd
     have e:i=k:=by omega
     subst e
     rw[Option.some.inj (hd.symm.trans HC.out)];exact HVV.out,HB4.out⟩
    case measure=>
     show N-(intOf (.int .i64 ((k:Int)+1))).toNat<N-(intOf (.int .i64 (k:Int))).toNat
     simp[intOf]
     omega
  have hkl:k=N:=by omega
  have HB:=Hd hb
  have HRR:Hid (R=true):=Hd (by rw[HR.out];exact decide_eq_true (fun c hc=>by
   obtain⟨i,hi,e⟩:=List.getElem_of_mem hc
   exact HL.out i c (by rw[hkl,HLe.out];exact hi) (by rw[List.getElem?_eq_getElem hi,e])))
  clear hb
  subst hkl
  go_wp2_with fail
  go_ret
  exact⟨ret_bool (HRR.out).symm,HB.out⟩
def IvG (w:World) (n m:List Trk.Clip) (e:Ending) (w':World):Prop:=
 ∃ p q xv,e=.returned (.tuple #[.int .i64 p,.int .i64 q,xv])∧Trk.Diff n m p q (partL m p (Trk.total m-(Trk.total n-q)))∧OG w' w.heap.size 0 xv (partL m p (Trk.total m-(Trk.total n-q)))∧Below w.heap.size w w'
theorem rinterval_any (D1 D2:Nat) (v u:Value) (n m:List Trk.Clip) (w:World) (h:TG w D1 v n) (h':TG w D2 u m) (Vn:TV n) (Vm:TV m) :
  Calls Tryz.prog 54 #[v,u] w (IvG w (Trk.nf n) (Trk.nf m)):=by
 have HT:=Hd h
 have HU:=Hd h'
 have N1:=Hd (fun(w:World) (h:TG w D1 v n)=>rnormal_any D1 v n w h Vn)
 have N2:=Hd (fun(w:World) (h:TG w D2 u m)=>rnormal_any D2 u m w h Vm)
 have Wn:=Vn.nf
 have Wm:=Vm.nf
 obtain⟨A,hA⟩:=Xq (Trk.nf n)
 obtain⟨B,hB⟩:=Xq (Trk.nf m)
 unfold OGPost at N1 N2
 rw[← hA]at N1 Wn ⊢
 rw[← hB]at N2 Wm ⊢
 have L1:=Hd (fun(u:Value) (w:World) (h:TG w 0 u A)=>rlength_any 0 u A w h Wn)
 have L2:=Hd (fun(u:Value) (w:World) (h:TG w 0 u B)=>rlength_any 0 u B w h Wm)
 have EQ:=Hd (fun(a b:Value) (M:Int) (w:World) (h:TG w 0 a A) (h':TG w 0 b B) (hM:M=min (Trk.total A) (Trk.total B))=>req96_any 0 0 a b A B M w h h' Wn Wm hM)
 have TL:=Hd (fun(a b:Value) (M:Int) (w:World) (h:TG w 0 a A) (h':TG w 0 b B) (M0:0≤M) (h1:M≤Trk.total A) (h2:M≤Trk.total B)=>rtail_any 0 0 a b A B M w h h' Wn Wm M0 h1 h2)
 have PT:=Hd (fun(b:Value) (f t:Int) (w:World) (h':TG w 0 b B) (f0:0≤f) (ft:f≤t) (t1:t≤Trk.total B)=>rpart_any 0 b B f t w h' Wm f0 ft t1)
 unfold OGPost at PT
 have tn:=Wn.t
 have tm:=Wm.t
 have t0:=Trk.total_nonneg Wn.good
 have t1:=Trk.total_nonneg Wm.good
 obtain⟨N,hN⟩:=Xq (Trk.total A)
 obtain⟨M,hM⟩:=Xq (Trk.total B)
 rw[← hN]at tn t0
 rw[← hM]at tm t1
 have HNM:=Hd (And.intro hN hM)
 clear hN hM Wn Wm hA hB h h' Vn Vm
 go_enter Tryz.func54,Tryz.ntmps54
 go_wp2_with fail
 refine(N1.out _ HT.out).mono ?_
 rintro e w1 ⟨a,rfl,ho,hb⟩
 have HB:=Hd hb
 have HA:=Hd ho.tg
 replace HU:=Hd (HU.out.below hb)
 clear hb ho
 go_wp2_with fail
 refine(N2.out _ HU.out).mono ?_
 rintro e w2 ⟨b,rfl,ho,hb⟩
 replace HA:=Hd (HA.out.below hb)
 have HBB:=Hd ho.tg
 replace HB:=Tb HB hb
 clear hb ho HT HU N1 N2
 go_wp2_with fail
 refine(L1.out _ _ HA.out).mono ?_
 rintro e w3 ⟨rfl,hb⟩
 replace HA:=Hd (HA.out.below hb)
 replace HBB:=Hd (HBB.out.below hb)
 replace HB:=Tb HB hb
 rw[← HNM.out.1]
 clear hb
 go_wp2_with fail
 refine(L2.out _ _ HBB.out).mono ?_
 rintro e w4 ⟨rfl,hb⟩
 replace HA:=Hd (HA.out.below hb)
 replace HBB:=Hd (HBB.out.below hb)
 replace HB:=Tb HB hb
 rw[← HNM.out.2]
 clear hb
 go_wp2_with fail
 obtain⟨k,hk⟩:=Xq (min N M)
 rw[← hk]
 have HK:=Hd hk
 have k0:0≤k:=by omega
 have k1:k≤N:=by omega
 have k2:k≤M:=by omega
 clear hk
 refine(EQ.out _ _ k _ HA.out HBB.out (by rw[← HNM.out.1,← HNM.out.2];exact HK.out)).mono ?_
 rintro e w5 ⟨p,rfl,hp,hb⟩
 replace HA:=Hd (HA.out.below hb)
 replace HBB:=Hd (HBB.out.below hb)
 replace HB:=Tb HB hb
 have HP:=Hd hp
 have p0:=hp.h0
 have p1:p≤N:=by rw[HNM.out.1];exact hp.h1
 have p2:p≤M:=by rw[HNM.out.2];exact hp.h2
 have p3:p≤k:=by have:=HK.out;omega
 clear hb hp
 go_wp2_with fail
 refine(TL.out _ _ (k-p) _ HA.out HBB.out (by omega) (by rw[← HNM.out.1];omega) (by rw[← HNM.out.2];omega)).mono ?_
 rintro e w6 ⟨s,rfl,hs,hb⟩
 replace HA:=Hd (HA.out.below hb)
 replace HBB:=Hd (HBB.out.below hb)
 replace HB:=Tb HB hb
 have HS:=Hd hs
 have s0:=hs.h0
 have s1:=hs.h1
 clear hb hs
 go_wp2_with fail
 refine(L1.out _ _ HA.out).mono ?_
 rintro e w7 ⟨rfl,hb⟩
 replace HBB:=Hd (HBB.out.below hb)
 replace HB:=Tb HB hb
 rw[← HNM.out.1]
 clear hb HA
 obtain⟨q,hq⟩:=Xq (N-s)
 obtain⟨r,hr⟩:=Xq (M-s)
 have eq1:N-s=q:=hq.symm
 have er1:M-s=r:=hr.symm
 have HQR:=Hd (And.intro hq hr)
 have q0:p≤q:=by omega
 have q1:q≤2147483647:=by omega
 have r0:p≤r:=by omega
 have r2:r≤M:=by omega
 clear hq hr
 go_wp2_with fail
 refine(L2.out _ _ HBB.out).mono ?_
 rintro e w8 ⟨rfl,hb⟩
 replace HBB:=Hd (HBB.out.below hb)
 replace HB:=Tb HB hb
 rw[← HNM.out.2]
 clear hb
 go_wp2_with fail
 refine(PT.out _ p r _ HBB.out p0 r0 (by rw[← HNM.out.2];exact r2)).mono ?_
 rintro e w9 ⟨xv,rfl,ho,hb⟩
 have hr':r=Trk.total B-(Trk.total A-q):=by
  rw[← HNM.out.1,← HNM.out.2]
  have:=HQR.out
  omega
 have hdf:Trk.Diff A B p q (partL B p (Trk.total B-(Trk.total A-q))):=by
  refine⟨HP.out,?_,rfl⟩
  have h1:Trk.total A-q=s:=by rw[← HNM.out.1];have:=HQR.out;omega
  rw[h1,← HNM.out.1,← HNM.out.2,← HK.out]
  exact HS.out
 rw[hr']at ho
 have HO:=Hd (ho.lower HB.out.size)
 have HD:=Hd hdf
 replace HB:=Tb HB hb
 clear hb ho hr' hdf eq1 er1
 go_wp2_with fail
 go_returns
 exact⟨p,q,xv,rfl,HD.out,HO.out,HB.out⟩
def ChgA (n m:List Trk.Clip) (p q:Int) (x:List Trk.Clip) (ok:Bool):Prop:=
 (ok=false∧(¬(TV n∧TV m)∨Trk.nf n=Trk.nf m)∧p=0∧q=0∧x=[])∨(ok=true∧(TV n∧TV m)∧Trk.nf n≠Trk.nf m∧Trk.Diff (Trk.nf n) (Trk.nf m) p q (partL (Trk.nf m) p (Trk.total (Trk.nf m)-(Trk.total (Trk.nf n)-q)))∧x=partR (Trk.nf m) p (Trk.total (Trk.nf m)-(Trk.total (Trk.nf n)-q)))
theorem ChgA.uniq {n m x y:List Trk.Clip} {p q p' q':Int} {a b:Bool} (h:ChgA n m p q x a) (k:ChgA n m p' q' y b):p=p'∧q=q'∧x=y∧a=b:=by
 rcases h with⟨rfl,h1,rfl,rfl,rfl⟩ |⟨rfl,h1,h2,h3,rfl⟩<;>rcases k with⟨rfl,k1,rfl,rfl,rfl⟩ |⟨rfl,k1,k2,k3,rfl⟩
 ·exact⟨rfl,rfl,rfl,rfl⟩
 ·exact(h1.elim (fun h=>h k1) k2).elim
 ·exact(k1.elim (fun k=>k h1) h2).elim
 obtain⟨rfl,rfl⟩:=h3.uniq k3
 exact⟨rfl,rfl,rfl,rfl⟩
def ChgAP (w:World) (n m:List Trk.Clip) (e:Ending) (w':World):Prop:=
 ∃ p q xv x ok,e=.returned (.tuple #[.int .i64 p,.int .i64 q,xv,.bool ok])∧ChgA n m p q x ok∧OG w' w.heap.size 0 xv x∧Below w.heap.size w w'
theorem change_bad (D1 D2:Nat) (v u:Value) (n m:List Trk.Clip) (w:World) (h:TG w D1 v n) (h':TG w D2 u m) (In:∀ c∈n,InC c) (Im:∀ c∈m,InC c) (hbad:¬(TV n∧TV m)) :
  Calls Tryz.prog 27 #[v,u] w fun e w'=>e=.returned (.tuple #[.int .i64 0,.int .i64 0,.slice none 0 0,.bool false])∧Below w.heap.size w w':=by
 have HT:=Hd h
 have HU:=Hd h'
 have V1:=Hd (fun(w:World) (h:TG w D1 v n)=>vtrackg_any D1 v n w h In)
 have V2:=Hd (fun(w:World) (h:TG w D2 u m)=>vtrackg_any D2 u m w h Im)
 have HBAD:=Hd hbad
 obtain⟨ao,ca,rfl⟩:=h.form
 obtain⟨bo,cb,rfl⟩:=h'.form
 obtain⟨ln,hln⟩:=Xq (n.length)
 obtain⟨lm,hlm⟩:=Xq (m.length)
 rw[← hln]at HT V1 ⊢
 rw[← hlm]at HU V2 ⊢
 clear h h' In Im hln hlm hbad
 go_enter Tryz.func27,Tryz.ntmps27
 go_wp2_with fail
 refine(V1.out w HT.out).mono ?_
 rintro e w1 ⟨rfl,hb⟩
 have HB:=Hd hb
 clear hb
 cases h1:trackB n with
 |false=>
  go_wp2_with fail
  go_returns
  exact⟨rfl,HB.out⟩
 | true =>
  have T1:=Hd (trackB_iff.1 h1)
  clear h1
  go_wp2_with fail
  refine(V2.out w1 (HU.out.below HB.out)).mono ?_
  rintro e w2 ⟨rfl,hb⟩
  replace HB:=Tb HB hb
  clear hb
  cases h2:trackB m with
  |false=>
   go_wp2_with fail
   go_returns
   exact⟨rfl,HB.out⟩
  |true=>exact absurd ⟨T1.out,trackB_iff.1 h2⟩ HBAD.out
open Classical in
theorem change_all (D1 D2:Nat) (v u:Value) (n m:List Trk.Clip) (w:World) (h:TG w D1 v n) (h':TG w D2 u m) (In:∀ c∈n,InC c) (Im:∀ c∈m,InC c) :
  Calls Tryz.prog 27 #[v,u] w (ChgAP w n m):=by
 by_cases hv:TV n∧TV m
 ·refine(changeg_any D1 D2 v u n m w h h' hv.1 hv.2).mono ?_
  rintro e w' ⟨p,q,xv,x,ok,rfl,hr,ho,hbb⟩
  refine⟨p,q,xv,x,ok,rfl,?_,ho,hbb⟩
  rcases hr with⟨h1,h2,h3,h4,h5⟩ |⟨h1,h2,h3,h4⟩
  ·exact .inl ⟨h1,.inr h2,h3,h4,h5⟩
  exact .inr ⟨h1,hv,h2,h3,h4⟩
 refine(change_bad D1 D2 v u n m w h h' In Im hv).mono ?_
 rintro e w' ⟨rfl,hbb⟩
 exact⟨0,0,_,[],false,rfl,.inl ⟨rfl,.inl hv,rfl,rfl,rfl⟩,OG.nil _ _ _,hbb⟩
theorem partR_no {l:List Trk.Clip} {a b:Int} (h:partE l a b≠0):partR l a b=[]:=by
 unfold partE at h
 unfold partR
 by_cases hn:a=b∨okCut l a
 ·rw[if_pos hn]at h
  exact absurd rfl h
 exact if_neg hn
open Classical in
theorem rchange_all (D1 D2:Nat) (v u:Value) (n m:List Trk.Clip) (w:World) (h:TG w D1 v n) (h':TG w D2 u m) (In:∀ c∈n,InC c) (Im:∀ c∈m,InC c) :
  Calls Tryz.prog 28 #[v,u] w (ChgAP w n m):=by
 have HT:=Hd h
 have HU:=Hd h'
 have V1:=Hd (fun(w:World) (h:TG w D1 v n)=>rtrackg_any D1 v n w h In)
 have V2:=Hd (fun(w:World) (h:TG w D2 u m)=>rtrackg_any D2 u m w h Im)
 have S1:=Hd (fun(Vn:TV n) (Vm:TV m) (w:World) (h:TG w D1 v n) (h':TG w D2 u m)=>rsame_any D1 D2 v u n m w h h' Vn Vm)
 have IV:=Hd (fun(Vn:TV n) (Vm:TV m) (w:World) (h:TG w D1 v n) (h':TG w D2 u m)=>rinterval_any D1 D2 v u n m w h h' Vn Vm)
 obtain⟨ao,ca,rfl⟩:=h.form
 obtain⟨bo,cb,rfl⟩:=h'.form
 obtain⟨ln,hln⟩:=Xq (n.length)
 obtain⟨lm,hlm⟩:=Xq (m.length)
 rw[← hln]at HT V1 S1 IV ⊢
 rw[← hlm]at HU V2 S1 IV ⊢
 clear h h' In Im hln hlm
 go_enter Tryz.func28,Tryz.ntmps28
 go_wp2_with fail
 refine(V1.out w HT.out).mono ?_
 rintro e w1 ⟨rfl,hb⟩
 have HB:=Hd hb
 clear hb
 cases h1:trackB n with
 |false=>
  have T1:=Hd (show ¬(TV n∧TV m) from fun h=>by rw[trackB_iff.2 h.1]at h1;cases h1)
  clear h1
  go_wp2_with fail
  go_returns
  exact⟨0,0,.slice none 0 0,[],false,rfl,.inl ⟨rfl,.inl T1.out,rfl,rfl,rfl⟩,OG.nil _ _ _,HB.out⟩
 | true =>
  have T1:=Hd (trackB_iff.1 h1)
  clear h1
  go_wp2_with fail
  refine(V2.out w1 (HU.out.below HB.out)).mono ?_
  rintro e w2 ⟨rfl,hb⟩
  replace HB:=Tb HB hb
  clear hb
  cases h2:trackB m with
  |false=>
   have T2:=Hd (show ¬(TV n∧TV m) from fun h=>by rw[trackB_iff.2 h.2]at h2;cases h2)
   clear h2
   go_wp2_with fail
   go_returns
   exact⟨0,0,.slice none 0 0,[],false,rfl,.inl ⟨rfl,.inl T2.out,rfl,rfl,rfl⟩,OG.nil _ _ _,HB.out⟩
  | true =>
   have T2:=Hd (trackB_iff.1 h2)
   clear h2
   go_wp2_with fail
   refine(S1.out T1.out T2.out _ (HT.out.below HB.out) (HU.out.below HB.out)).mono ?_
   rintro e w3 ⟨rfl,hb⟩
   replace HB:=Tb HB hb
   clear hb
   by_cases hs:Trk.nf n=Trk.nf m
   ·have HS:=Hd hs
    rw[decide_eq_true hs]
    clear hs
    go_wp2_with fail
    go_returns
    exact⟨0,0,.slice none 0 0,[],false,rfl,.inl ⟨rfl,.inr HS.out,rfl,rfl,rfl⟩,OG.nil _ _ _,HB.out⟩
   have HS:=Hd hs
   rw[decide_eq_false hs]
   clear hs
   go_wp2_with fail
   refine(IV.out T1.out T2.out _ (HT.out.below HB.out) (HU.out.below HB.out)).mono ?_
   rintro e w4 ⟨p,q,xv,rfl,hd,ho,hb⟩
   have hle:=hd.le
   have hin:=part_in T2.out.nf (a:=p) (b:=Trk.total (Trk.nf m)-(Trk.total (Trk.nf n)-q)) (by omega) (by omega) (by omega)
   have hrc:=partL_rcl T2.out.nf (f:=p) (t:=Trk.total (Trk.nf m)-(Trk.total (Trk.nf n)-q)) (by omega) (by omega) (by omega)
   have hno:=partR_no (l:=Trk.nf m) (a:=p) (b:=Trk.total (Trk.nf m)-(Trk.total (Trk.nf n)-q))
   have hof:=partR_of (l:=Trk.nf m) (a:=p) (b:=Trk.total (Trk.nf m)-(Trk.total (Trk.nf n)-q))
   have HD:=Hd hd
   obtain⟨X,hX⟩:=Xq (partL (Trk.nf m) p (Trk.total (Trk.nf m)-(Trk.total (Trk.nf n)-q)))
   rw[← hX]at ho hin hrc hof
   have INS:=Hd (fun(w:World) (h:TG w 0 xv X)=>rinside_any 0 xv X w h hrc)
   obtain⟨xa,xc,hxv⟩:=ho.tg.form
   obtain⟨xn,hxn⟩:=Xq (X.length)
   rw[← hxn]at hxv
   subst hxv
   have HO:=Hd (ho.lower HB.out.size)
   have HIN:=Hd hin
   have HNO:=Hd hno
   have HOF:=Hd hof
   replace HB:=Tb HB hb
   clear hb ho hd hle hin hrc hno hof hX hxn S1 IV V1 V2 HT HU
   go_wp2_with fail
   refine(INS.out _ HO.out.tg).mono ?_
   rintro e w5 ⟨rfl,hb⟩
   replace HO:=Hd (HO.out.below hb)
   replace HB:=Tb HB hb
   clear hb INS
   by_cases hv:VGL X
   ·rw[decide_eq_true hv]
    have HR:=Hd (HOF.out (HIN.out.1 hv))
    clear hv
    go_wp2_with fail
    go_returns
    exact⟨p,q,.slice xa xn xc,X,true,rfl,.inr ⟨rfl,⟨T1.out,T2.out⟩,HS.out,HD.out,HR.out.symm⟩,HO.out,HB.out⟩
   rw[decide_eq_false hv]
   have HR:=Hd (HNO.out (fun h=>hv (HIN.out.2 h)))
   clear hv
   go_wp2_with fail
   go_returns
   exact⟨p,q,.slice none 0 0,[],true,rfl,.inr ⟨rfl,⟨T1.out,T2.out⟩,HS.out,HD.out,HR.out.symm⟩,OG.nil _ _ _,HB.out⟩
theorem two_text {c d:UInt8} {P:Nat→Prop} {m:Nat} (hm:2≤m) (hc:P c.toNat) (hd:P d.toNat):TextP P m ⟨#[c,d]⟩:=
 ⟨show 1 ≤ 2 by decide, hm, fun i hi => by
  have hi2:i<2:=hi
  rcases(show i=0∨i=1 by omega) with rfl |rfl
  ·exact hc
  exact hd⟩
theorem one_text {c:UInt8} {P:Nat→Prop} {m:Nat} (hm:1≤m) (hc:P c.toNat):TextP P m ⟨#[c]⟩:=
 ⟨show 1 ≤ 1 by decide, hm, fun i hi => by
  have hi2:i<1:=hi
  obtain rfl:i=0:=by omega
  exact hc⟩
theorem okName_text {s:ByteArray} (h:Trk.okName s):TextP NC 32 s∧s.size≤2:=by
 rcases h with⟨c,d,rfl,h0,h1,h2,h3⟩ |⟨c,rfl,h0,h1⟩
 ·exact⟨two_text (by decide) (.inl ⟨by omega,by omega⟩) (.inr (.inl ⟨by omega,by omega⟩)),Nat.le_refl 2⟩
 exact⟨one_text (by decide) (.inl ⟨by omega,by omega⟩),show 1≤2 by decide⟩
theorem okLine_text {s:ByteArray} (h:Trk.okLine s):TextP LC 64 s:=
 ⟨h.1,h.2.1,fun i hi=>by have:=h.2.2 i hi;exact⟨by omega,by omega⟩⟩
theorem srcOK_of {L n:Int} {s:Trk.Src} (h:Trk.SrcP L n s) (hL:L≤140737488355328):SrcOK s∧InS s:=by
 obtain⟨a0,a1,s0,s1,n0,n1,v0,v1⟩:=h.nums
 obtain⟨f0,f1⟩:=h.far hL
 have hda:s.ad.toNat∣6006:=by
  have:=h.lat.a
  rw[show s.ad=((s.ad.toNat:Nat):Int) by omega]at this
  exact Int.natCast_dvd_natCast.1 this
 have hds:s.sd.toNat∣6006:=by
  have:=h.lat.s
  rw[show s.sd=((s.sd.toNat:Nat):Int) by omega]at this
  exact Int.natCast_dvd_natCast.1 this
 have hl:=lcm_le hda hds (by omega)
 have ga:=h.lat.g.a1
 have gs:=h.lat.g.s1
 have hn:=okName_text h.nm
 refine⟨⟨h.k,hn.1,?_,?_,by omega,by omega,by omega,by omega,by omega⟩,⟨by rcases h.k with e |e<;>rw[e]<;>decide,by rcases h.k with e |e<;>rw[e]<;>decide,by have:=hn.2;omega,by omega,by omega,by omega,by omega,by omega,by omega,by omega,by omega⟩⟩
 ·rw[validR_yes a0 (by omega),ga];rfl
 rw[validR_yes s0 (by omega),gs];rfl
theorem srcIn_ok {L n:Int} {s:Trk.Src} (h:Trk.SrcIn L n s) (hL:L≤140737488355328):srcB s=true∧InS s:=by
 rcases h with rfl |h
 ·exact⟨srcB_yes (.inl rfl),by constructor<;>decide⟩
 exact⟨srcB_yes (.inr (srcOK_of h hL).1),(srcOK_of h hL).2⟩
theorem chansB_nil:chansB []=true:=chansB_yes ⟨by decide,fun i c h=>by simp at h⟩
theorem vc_valid {L:Int} {c:Trk.Clip} (h:Trk.VC L c) (hL:L≤140737488355328):clipB c c.chan=true∧InC c:=by
 have ha:=srcIn_ok h.c.a hL
 have hb:=srcIn_ok h.c.b hL
 have hs:∀ k,(k=2∨k=3)→Trk.shares k=true:=by rintro k (rfl |rfl)<;>rfl
 obtain⟨l0,l1,l2⟩:=h.l
 have ht:c.text.size<9223372036854775808:=by
  rcases h.c.kd with⟨_,_,_,_,_,_,e⟩ |⟨_,_,_,_,_,e⟩ |⟨_,_,e⟩ |⟨_,_,_,e⟩ |⟨_,_,_,_,_,e⟩ |⟨_,_,_,_,_,e⟩
  iterate 5 rw[e];decide
  have:=e.2.1;omega
 refine⟨?_,ha.2,hb.2,ht⟩
 rw[h.c.ch]
 unfold clipB headB bodyB tailB
 rw[decide_eq_true l0,decide_eq_true l1,h.c.gn,chansB_nil,ha.1,hb.1]
 rcases h.c.kd with⟨h0,h1,h2,h3,h4,h5,h6⟩ |⟨h0,h2,h3,h4,h5,h6⟩ |⟨h0,h5,h6⟩ |⟨h0,h5,h5',h6⟩ |⟨h0,h3,h4,h5,h5',h6⟩ |⟨h0,h2,h3,h4,h5,h6⟩
 ·simp[h0,h1,h2,h3,h4,h5,h6]
 ·simp[h0,h2,h3,h4,h5,h6]
 ·obtain⟨o0,o1,o2,o3⟩:=l2 (hs _ (.inl h0))
  simp[h0,h5,h6,o0,o1,o2,o3]
 ·obtain⟨o0,o1,o2,o3⟩:=l2 (hs _ (.inr h0))
  simp[h0,h5,h5',h6,o0,o1,o2,o3]
 ·simp[h0,h3,h4,h5,h5',h6]
 simp[h0,h2,h3,h4,h5,lineB_yes (okLine_text h6)]
theorem Tk.gt {L:Int} {w:World} {v:Value} {l:List Trk.Clip} (h:Tk w v l) (hV:Trk.VL L l) (hL:L≤140737488355328):GT w v l:=by
 obtain⟨ao,cap,e,h1,h2,h3⟩:=h
 refine⟨ao,cap,e,h1,h2,fun i c hi=>?_⟩
 obtain⟨b,o,e2,hA⟩:=h3 i c hi
 have hv:=hV c (List.mem_of_getElem? hi)
 exact⟨b,o,.slice none 0 0,e2,GA.of hA.get,by rw[hv.c.ch];exact IT.nil w,(vc_valid hv hL).2⟩
theorem trackB_vt {L:Int} {l:List Trk.Clip} (h:VT L l) (hL:L≤140737488355328):trackB l=true:=
 trackB_yes ⟨h.n,fun i c hi=>(vc_valid (h.v c (List.mem_of_getElem? hi)) hL).1,h.t⟩
theorem VT.tv {L:Int} {l:List Trk.Clip} (h:VT L l) (hL:L≤140737488355328):TV l:=trackB_iff.1 (trackB_vt h hL)
theorem VT.inc {L:Int} {l:List Trk.Clip} (h:VT L l) (hL:L≤140737488355328):∀ c∈l,InC c:=fun c hc=>(vc_valid (h.v c hc) hL).2
theorem docs_nil (w:World):Calls Tryz.prog 102 #[.slice none 0 0] w fun e w'=>e=.returned (.slice none 0 0)∧w'=w:=by
 have hnil:=fun w=>Go.run_eql_slice_nil (P:=Tryz.prog) w 53 65 none 0 0 Tryz.underlying53
 go_enter Tryz.func102,Tryz.ntmps102
 go_wp2_with fail
 go_ret
 exact⟨rfl,rfl⟩
theorem fields_tick (w:World):Calls Tryz.prog 101 #[.agg #[.int .i64 7,.string ⟨#[]⟩,.string ⟨#[]⟩,.int .i64 0,.int .i64 1,.slice none 0 0]] w fun e w'=>e=.returned (.bool true)∧w'=w.alloc (.cells #[.int .i64 7,.string ⟨#[]⟩,.string ⟨#[]⟩,.int .i64 0,.int .i64 1,.slice none 0 0] 59):=by
 go_enter Tryz.func101,Tryz.ntmps101
 go_wp2_with fail
 go_ret
 exact⟨rfl,rfl⟩
theorem convert_tick (w:World):Calls Tryz.prog 62 #[.agg #[.int .i64 7,.string ⟨#[]⟩,.string ⟨#[]⟩,.int .i64 0,.int .i64 1,.slice none 0 0]] w fun e w'=>e=.returned (.tuple #[.iface 154 (.agg #[.int .i64 1]),.bool true])∧w'=((w.alloc (.cells #[.int .i64 7,.string ⟨#[]⟩,.string ⟨#[]⟩,.int .i64 0,.int .i64 1,.slice none 0 0] 59)).alloc (.cells #[.int .i64 7,.string ⟨#[]⟩,.string ⟨#[]⟩,.int .i64 0,.int .i64 1,.slice none 0 0] 59)).alloc (.cells #[.int .i64 7,.string ⟨#[]⟩,.string ⟨#[]⟩] 142):=by
 go_enter Tryz.func62,Tryz.ntmps62
 go_wp2_with fail
 refine(fields_tick _).mono ?_
 rintro e w1 ⟨rfl,rfl⟩
 go_wp2_with fail
 go_ret2
 exact⟨rfl,rfl⟩
theorem tick_none (w:World):Calls Tryz.prog 103 #[.agg #[.int .i64 0,.slice none 0 0],.int .i64 1] w fun e w'=>e=.returned (.tuple #[.agg #[.int .i64 1,.slice none 0 0],.slice none 0 0,.int .i64 0])∧w'=(w.alloc (.cells #[.int .i64 1,.slice none 0 0] 55)).alloc (.cells #[.int .i64 1,.slice none 0 0] 55):=by
 go_enter Tryz.func103,Tryz.ntmps103
 go_wp2_with fail
 go_loop [7,24] (fun v7 i=>v7=.slice none 0 0∧i=.int .i64 0) (fun _ _=>0)
 case atStart=>exact⟨rfl,rfl⟩
 case round=>
  obtain⟨rfl,rfl⟩:=hrel
  go_wp2_with fail
  go_returns
  exact⟨rfl,rfl⟩
theorem clone_none (n:Int) (w:World):Calls Tryz.prog 64 #[.agg #[.int .i64 n,.slice none 0 0]] w fun e w'=>e=.returned (.agg #[.int .i64 n,.slice none 0 0])∧w'=(w.alloc (.cells #[.int .i64 n,.slice none 0 0] 55)).alloc (.cells #[.int .i64 n,.slice none 0 0] 55):=by
 go_enter Tryz.func64,Tryz.ntmps64
 go_wp2_with fail
 refine(docs_nil _).mono ?_
 rintro e w1 ⟨rfl,rfl⟩
 go_wp2_with fail
 go_loop [13] (fun i=>i=.int .i64 0) (fun _=>0)
 case atStart=>rfl
 case round=>
  subst hrel
  go_wp2_with fail
  go_returns
  exact⟨rfl,rfl⟩
theorem valid_none (w:World):Calls Tryz.prog 38 #[.agg #[.int .i64 0,.slice none 0 0]] w fun e w'=>e=.returned (.bool true)∧w'=(w.alloc (.cells #[.int .i64 0,.slice none 0 0] 55)).alloc (.map #[] 0):=by
 have hmm:=@run_makeMap Tryz.prog
 go_enter Tryz.func38,Tryz.ntmps38
 go_wp2_with fail
 go_loop [24] (fun i=>i=.int .i64 0) (fun _=>0)
 case atStart=>rfl
 case round=>
  subst hrel
  go_wp2_with fail
  go_returns
  exact⟨rfl,rfl⟩
theorem ta_154_154 (x:Value) (w:World):(Instr.typeAssert (.iface 154 x) 20 154 true).run Tryz.prog w=.ok (.tuple #[x,.bool true]) w:=by
 simp[Instr.typeAssert,run_underlying Tryz.underlying154]
theorem step_none (w:World):Calls Tryz.prog 63 #[.agg #[.int .i64 0,.slice none 0 0],.iface 154 (.agg #[.int .i64 1])] w fun e w'=>e=.returned (.tuple #[.agg #[.int .i64 1,.slice none 0 0],.slice none 0 0,.int .i64 0])∧w'=((((w.alloc (.cells #[.int .i64 0,.slice none 0 0] 55)).alloc (.cells #[.int .i64 1,.slice none 0 0] 55)).alloc (.cells #[.int .i64 1] 154)).alloc (.cells #[.int .i64 1,.slice none 0 0] 55)).alloc (.cells #[.int .i64 1,.slice none 0 0] 55):=by
 have hta:=ta_154_154
 go_enter Tryz.func63,Tryz.ntmps63
 go_wp2_with fail
 refine(docs_nil _).mono ?_
 rintro e w1 ⟨rfl,rfl⟩
 go_wp2_with fail
 refine(tick_none _).mono ?_
 rintro e w1 ⟨rfl,rfl⟩
 go_wp2_with fail
 go_returns
 exact⟨rfl,rfl⟩
theorem step_tick (w:World):Calls Tryz.prog 26 #[.agg #[.int .i64 0,.slice none 0 0],.agg #[.int .i64 7,.string ⟨#[]⟩,.string ⟨#[]⟩,.int .i64 0,.int .i64 1,.slice none 0 0]] w fun e w'=>e=.returned (.tuple #[.agg #[.int .i64 1,.slice none 0 0],.slice none 0 0,.int .i64 0])∧Below w.heap.size w w':=by
 go_enter Tryz.func26,Tryz.ntmps26
 go_wp2_with fail
 refine(valid_none _).mono ?_
 rintro e w1 ⟨rfl,rfl⟩
 go_wp2_with fail
 refine(convert_tick _).mono ?_
 rintro e w1 ⟨rfl,rfl⟩
 go_wp2_with fail
 refine(step_none _).mono ?_
 rintro e w1 ⟨rfl,rfl⟩
 go_wp2_with fail
 refine(clone_none _ _).mono ?_
 rintro e w1 ⟨rfl,rfl⟩
 go_wp2_with fail
 go_returns
 exact⟨rfl,by go_grown⟩
def longC:Trk.Clip:=⟨150,1,⟨1,⟨#[122]⟩,0,1,1,1,false⟩,Trk.black,0,0,0,ByteArray.empty,0,[]⟩
theorem long_vt:VT 1000000 [longC]:=by
 refine⟨fun c hc=>?_,by decide,by decide⟩
 rw[List.mem_singleton]at hc
 subst hc
 have hn:Trk.okName ⟨#[122]⟩:=.inr ⟨122,rfl,by decide,by decide⟩
 have ha:=tape_src0 (nm:=⟨#[122]⟩) (k:=1) (n:=0) (d:=1) (sn:=1) (sd:=1) (sm:=false) (.inl rfl) hn ⟨by decide,by decide,by decide,by decide,by decide⟩ ⟨by decide,by decide,by decide,by decide,by decide⟩
 have hs:Trk.SrcIn 1000000 150 longC.a:=by
  obtain⟨h1,h2,h3,-,-,-,-⟩:=ha
  exact .inr ⟨h1,h2,h3,by decide,by decide,by decide,by decide,by decide,by decide⟩
 exact⟨⟨hs,.inl rfl,rfl,rfl,.inr (.inl ⟨rfl,rfl,rfl,rfl,rfl,rfl⟩)⟩,by decide,by decide,fun h=>by simp[longC,Trk.shares]at h⟩
theorem gap1_vt:VT 1000000 [Trk.gap 1]:=by
 refine⟨fun c hc=>?_,by decide,by decide⟩
 rw[List.mem_singleton]at hc
 subst hc
 exact⟨⟨.inl rfl,.inl rfl,rfl,rfl,.inl ⟨rfl,rfl,rfl,rfl,rfl,rfl,rfl⟩⟩,by decide,by decide,fun h=>by simp[Trk.gap,Trk.shares]at h⟩
theorem nil_vt:VT 1000000 []:=⟨Trk.VL.nil,by decide,by decide⟩
theorem long_any (w:World):Calls Tryz.prog 23 #[] w (OTPost w [longC]):=by
 go_enter Tryz.func23,Tryz.ntmps23
 go_wp2_with fail
 go_ret
 exact⟨_,rfl,OT.box w longC,below_box _ _⟩
theorem awake_any (w:World):Calls Tryz.prog 20 #[] w fun e w'=>e=.returned (.bool true)∧Below w.heap.size w w':=by
 go_enter Tryz.func20,Tryz.ntmps20
 go_wp2_with fail
 refine(long_any _).mono ?_
 rintro e w1 ⟨v1,rfl,ho,hb⟩
 have HO:=Hd ho
 have HB:=Hd hb
 clear ho hb
 go_wp2_with fail
 refine(merge_short (.slice none 0 0) (.slice none 0 0) v1 [] [] [longC] w1 (OT.nil _ 0).tk (OT.nil _ 0).tk HO.out.tk nil_vt nil_vt long_vt (by decide) (.inr (.inr rfl))).mono ?_
 rintro e w2 ⟨m1,rfl,ho,hb⟩
 have e1:shortL [] [] [longC]=[longC]:=rfl
 rw[e1]at ho
 have HM:=Hd ho
 replace HB:=Tb HB hb
 clear ho hb e1
 go_wp2_with fail
 refine(long_any _).mono ?_
 rintro e w3 ⟨v2,rfl,ho,hb⟩
 replace HO:=Hd ho
 replace HM:=Hd (HM.out.below hb)
 replace HB:=Tb HB hb
 clear ho hb
 go_wp2_with fail
 have hgv:OT (w3.alloc (.cells (clipC (Trk.gap 1)).toArray 48)) w3.heap.size (.slice (some ⟨w3.heap.size,0,none⟩) 1 1) [Trk.gap 1]:=OT.box w3 (Trk.gap 1)
 have hbb:Below w3.heap.size w3 (w3.alloc (.cells (clipC (Trk.gap 1)).toArray 48)):=below_box _ _
 refine(merge_short v2 (.slice (some ⟨w3.heap.size,0,none⟩) 1 1) (.slice none 0 0) [longC] [Trk.gap 1] [] _ (HO.out.below hbb).tk hgv.tk (OT.nil _ 0).tk long_vt gap1_vt nil_vt (by decide) (.inr (.inl rfl))).mono ?_
 rintro e w4 ⟨m2,rfl,ho,hb⟩
 replace HM:=Hd ((HM.out.below hbb).below hb)
 replace HB:=Hd ((HB.out.trans (hbb.mono HB.out.size)).trans (hb.mono (Nat.le_trans HB.out.size hbb.size)))
 clear ho hb hbb hgv HO
 go_wp2_with fail
 refine(step_tick _).mono ?_
 rintro e w5 ⟨rfl,hb⟩
 replace HM:=Hd (HM.out.below hb)
 replace HB:=Tb HB hb
 clear hb
 go_upto_region 4 with fail
 obtain⟨w6,hw6⟩:=Xq (w5.alloc (.cells #[.int .i64 1,.slice none 0 0] 55))
 obtain⟨g,hg⟩:=Xq (w5.heap.size)
 rw[← hw6]
 have hb:Below w5.heap.size w5 w6:=by rw[hw6];exact below_box _ _
 have C0:=Hd (show w6.cell? ⟨g,0,none⟩=some (.int .i64 1) by rw[hw6,hg];simp[go_sem])
 have C1:=Hd (show w6.cell? ⟨g,1,none⟩=some (.slice none 0 0) by rw[hw6,hg];simp[go_sem])
 rw[← hg]
 replace HM:=Hd (HM.out.below hb)
 replace HB:=Tb HB hb
 have HG:=Hd (block_lt_of_cell C0.out)
 clear hb hw6 hg
 go_wp2_with fail
 refine(long_any _).mono ?_
 rintro e w7 ⟨v3,rfl,ho,hb⟩
 have HO:=Hd ho
 replace HM:=Hd (HM.out.below hb)
 replace HB:=Tb HB hb
 replace C0:=Hd ((hb.cell (p:=⟨g,0,none⟩) HG.out).trans C0.out)
 replace C1:=Hd ((hb.cell (p:=⟨g,1,none⟩) HG.out).trans C1.out)
 replace HG:=Hd (Nat.lt_of_lt_of_le HG.out hb.size)
 clear ho hb
 go_wp2_with fail
 refine(equal_self m1 v3 [longC] w7 HM.out.tk HO.out.tk).mono ?_
 rintro e w8 ⟨rfl,hb⟩
 replace HB:=Tb HB hb
 have c0:=(hb.cell (p:=⟨g,0,none⟩) HG.out).trans C0.out
 have c1:=(hb.cell (p:=⟨g,1,none⟩) HG.out).trans C1.out
 clear hb C0 C1 HG
 go_wp2_with fail
 go_ret
 exact⟨rfl,HB.out⟩
structure TI (w:World) (v:Value) (l:List Trk.Clip):Prop where
 t:∃ D,TG w D v l
 i:∀ c∈l,InC c
theorem TI.below {w w':World} {v:Value} {l:List Trk.Clip} (h:TI w v l) (hb:Below w.heap.size w w'):TI w' v l:=by
 obtain⟨D,hD⟩:=h.t
 exact⟨⟨D,hD.below hb⟩,h.i⟩
theorem GT.ti {w:World} {v:Value} {l:List Trk.Clip} (h:GT w v l):TI w v l:=by
 refine⟨⟨_,h.tg⟩,fun c hc=>?_⟩
 obtain⟨i,hi,e⟩:=List.getElem_of_mem hc
 obtain⟨ao,cap,_,_,_,h3⟩:=h
 obtain⟨b,o,x,_,_,_,hi⟩:=h3 i c (by rw[List.getElem?_eq_getElem hi,e])
 exact hi
theorem OT.ti {L:Int} {w:World} {B:Nat} {v:Value} {l:List Trk.Clip} (h:OT w B v l) (hV:VT L l) (hL:L≤140737488355328):TI w v l:=
 ⟨⟨0,h.tk.tg (fun c hc=>(hV.v c hc).c.ch) 0⟩,hV.inc hL⟩
theorem cut_ti (v:Value) (l:List Trk.Clip) (w:World) (h:TI w v l):Calls Tryz.prog 16 #[v] w fun e w'=>∃ v',e=.returned v'∧TI w' v' (l.take 80)∧Below w.heap.size w w':=by
 have HI:=Hd h.i
 obtain⟨D,ao,cap,rfl,h1,h2,h3⟩:=h.t
 have H3:=Hd h3
 have HT:=Hd h
 clear h h3
 obtain⟨N,hN⟩:=Xq (l.length)
 rw[← hN]at h1 ⊢
 have HN:=Hd hN
 clear hN
 have h4:=Hd h2
 by_cases hlt:80<N
 ·have hlt':(80:Int)<(N:Int):=by omega
  have hc:80≤cap:=by omega
  clear h2
  go_enter Tryz.func16,Tryz.ntmps16
  go_wp2_with fail
  go_ret
  refine⟨.slice ao 80 cap,rfl,⟨⟨D,ao,cap,by rw[List.length_take,← HN.out,Nat.min_eq_left (by omega)],by rw[List.length_take,← HN.out];omega,h4.out,fun i c hi=>?_⟩,fun c hc=>HI.out c (List.mem_of_mem_take hc)⟩,Below.refl _ _⟩
  rw[List.getElem?_take]at hi
  split at hi
  ·exact H3.out i c hi
  simp at hi
 have hlt':¬(80:Int)<(N:Int):=by omega
 clear h2
 go_enter Tryz.func16,Tryz.ntmps16
 go_wp2_with fail
 go_ret
 refine⟨.slice ao N cap,rfl,?_,Below.refl _ _⟩
 rw[List.take_of_length_le (by rw[← HN.out];omega)]
 have h:=HT.out
 rw[← HN.out]at h
 exact h
def ThreeTI (w:World) (e:Ending) (w':World):Prop:=∃ v a b l m n,e=.returned (.tuple #[v,a,b])∧TI w' v l∧TI w' a m∧TI w' b n∧Below w.heap.size w w'
theorem TI.form {w:World} {v:Value} {l:List Trk.Clip} (h:TI w v l):∃ ao n cap,v=.slice ao n cap:=by
 obtain⟨D,hD⟩:=h.t
 obtain⟨ao,cap,e⟩:=hD.form
 exact⟨ao,_,cap,e⟩
theorem change_ti (v u:Value) (n m:List Trk.Clip) (w:World) (h:TI w v n) (h':TI w u m):Calls Tryz.prog 27 #[v,u] w (ChgAP w n m):=by
 obtain⟨D1,h1⟩:=h.t
 obtain⟨D2,h2⟩:=h'.t
 exact change_all D1 D2 v u n m w h1 h2 h.i h'.i
theorem rchange_ti (v u:Value) (n m:List Trk.Clip) (w:World) (h:TI w v n) (h':TI w u m):Calls Tryz.prog 28 #[v,u] w (ChgAP w n m):=by
 obtain⟨D1,h1⟩:=h.t
 obtain⟨D2,h2⟩:=h'.t
 exact rchange_all D1 D2 v u n m w h1 h2 h.i h'.i
theorem requal_yes (C1 C2:Nat) (v u:Value) (l:List Trk.Clip) (w:World) (h:TG w C1 v l) (h':TG w C2 u l):Calls Tryz.prog 19 #[v,u] w fun e w'=>e=.returned (.bool true)∧Below w.heap.size w w':=by
 have:=requal_any C1 C2 v u l l w h h'
 rw[decide_eq_true rfl]at this
 exact this
theorem changes_of (v0 v1 v3:Value) (l0 l1:List Trk.Clip) (w:World) (h0:TI w v0 l0) (h1:TI w v1 l1) (h3:Calls Tryz.prog 15 #[v3] w (ThreeTI w)) :
  Calls Tryz.prog 8 #[v0,v1,v3] w fun e w'=>e=.returned (.bool true)∧Below w.heap.size w w':=by
 have H0:=Hd h0
 have H1:=Hd h1
 have H3:=Hd h3
 clear h0 h1 h3
 go_enter Tryz.func8,Tryz.ntmps8
 go_wp2_with fail
 refine H3.out.mono ?_
 rintro e w1 ⟨x,a,b,l,m,n,rfl,hx,ha,hb',hb⟩
 obtain⟨o3,n3,k3,rfl⟩:=hx.form
 obtain⟨o4,n4,k4,rfl⟩:=ha.form
 obtain⟨o5,n5,k5,rfl⟩:=hb'.form
 have HX:=Hd hx
 have HA:=Hd ha
 have HB':=Hd hb'
 have HB:=Hd hb
 replace H0:=Hd (H0.out.below hb)
 replace H1:=Hd (H1.out.below hb)
 clear hx ha hb' hb H3
 go_wp2_with fail
 refine(cut_ti _ _ _ H0.out).mono ?_
 rintro e w2 ⟨c0,rfl,hc,hb⟩
 obtain⟨o0,n0,k0,rfl⟩:=hc.form
 have C0:=Hd hc
 replace H1:=Hd (H1.out.below hb)
 replace HX:=Hd (HX.out.below hb)
 replace HA:=Hd (HA.out.below hb)
 replace HB':=Hd (HB'.out.below hb)
 replace HB:=Tb HB hb
 clear hc hb H0
 go_wp2_with fail
 refine(cut_ti _ _ _ H1.out).mono ?_
 rintro e w3 ⟨c1,rfl,hc,hb⟩
 obtain⟨o1,n1,k1,rfl⟩:=hc.form
 have C1:=Hd hc
 replace C0:=Hd (C0.out.below hb)
 replace HX:=Hd (HX.out.below hb)
 replace HA:=Hd (HA.out.below hb)
 replace HB':=Hd (HB'.out.below hb)
 replace HB:=Tb HB hb
 clear hc hb H1
 dsimp only
 apply_assumption
 iterate 9 go_step
 refine Great.wpList_buildSliceTo rfl 68 23 5 #[(0,.tmp 28),(1,.tmp 30),(2,.tmp 31),(3,.tmp 32),(4,.tmp 33)] rfl w3.heap.size rfl (some 34) rfl Tryz.underlying68 #[.slice o0 n0 k0,.slice o1 n1 k1,.slice o3 n3 k3,.slice o4 n4 k4,.slice o5 n5 k5] ?_ ?_
 ·simp only[List.map_toArray,List.map_cons,List.map_nil,List.toList_toArray]
  kernel_rfl
 obtain⟨w5,hw5⟩:=Xq (w3.alloc (.cells #[.slice o0 n0 k0,.slice o1 n1 k1,.slice o3 n3 k3,.slice o4 n4 k4,.slice o5 n5 k5] 23))
 obtain⟨gs,hgs⟩:=Xq (w3.heap.size)
 have hb:Below w3.heap.size w3 w5:=by rw[hw5];exact below_box _ _
 have f0:∀ i v,i<5→(#[.slice o0 n0 k0,.slice o1 n1 k1,.slice o3 n3 k3,.slice o4 n4 k4,.slice o5 n5 k5]:Array Value)[i]?=some v→w5.cell? ⟨gs,i,none⟩=some v:=by
  intro i v hi hv
  rw[hw5,hgs]
  rcases(show i=0∨i=1∨i=2∨i=3∨i=4 by omega) with rfl |rfl |rfl |rfl |rfl<;>(simp at hv;subst hv;simp[go_sem])
 rw[← hw5,← hgs]
 replace C0:=Hd (C0.out.below hb)
 replace C1:=Hd (C1.out.below hb)
 replace HX:=Hd (HX.out.below hb)
 replace HA:=Hd (HA.out.below hb)
 replace HB':=Hd (HB'.out.below hb)
 replace HB:=Tb HB hb
 have HF:=Hd f0
 clear f0 hb hw5 hgs
 have HK:=Hd (show ∀ k,k<5→∃ oa na ka l',w5.cell? ⟨gs,k,none⟩=some (.slice oa na ka)∧TI w5 (.slice oa na ka) l' from fun k hk=>by
  rcases(show k=0∨k=1∨k=2∨k=3∨k=4 by omega) with rfl |rfl |rfl |rfl |rfl
  ·exact⟨_,_,_,_,HF.out 0 _ (by decide) rfl,C0.out⟩
  ·exact⟨_,_,_,_,HF.out 1 _ (by decide) rfl,C1.out⟩
  ·exact⟨_,_,_,_,HF.out 2 _ (by decide) rfl,HX.out⟩
  ·exact⟨_,_,_,_,HF.out 3 _ (by decide) rfl,HA.out⟩
  exact⟨_,_,_,_,HF.out 4 _ (by decide) rfl,HB'.out⟩)
 clear HF C0 C1 HX HA HB'
 go_upto_region 4 with fail
 go_loopw [37] (fun i wr=>∃ k:Nat,k≤5∧i=.int .i64 (k:Int)∧Below w5.heap.size w5 wr) (fun i _=>5-(intOf i).toNat)
 case atStart=>exact⟨0,Nat.zero_le _,rfl,Below.refl _ _⟩
 case round =>
  obtain⟨k,hk,rfl,hb⟩:=hrel
  have HBK:=Hd hb
  clear hb
  by_cases hlt:k<5
  ·have hlt':(k:Int)<5:=by omega
   have HLT:=Hd hlt
   go_upto_region 7 with fail
   go_loopw [42] (fun i wi=>∃ j:Nat,j≤5∧i=.int .i64 (j:Int)∧Below w5.heap.size w5 wi) (fun i _=>5-(intOf i).toNat)
   case atStart=>exact⟨0,Nat.zero_le _,rfl,HBK.out⟩
   case round=>
    clear HBK
    obtain⟨j,hj,rfl,hb⟩:=hrel
    have HBK:=Hd hb
    clear hb
    by_cases hjt:j<5
    ·have hjt':(j:Int)<5:=by omega
     obtain⟨oa,na,ka,n',h0,t0⟩:=HK.out k hlt
     obtain⟨ob,nb,kb,a',h1,t1⟩:=HK.out j hjt
     have H0:=Hd ((HBK.out.cell (p:=⟨gs,k,none⟩) (block_lt_of_cell h0)).trans h0)
     have H1:=Hd ((HBK.out.cell (p:=⟨gs,j,none⟩) (block_lt_of_cell h1)).trans h1)
     have T0:=Hd (t0.below HBK.out)
     have T1:=Hd (t1.below HBK.out)
     clear t0 t1 h0 h1 HK
     have MA:=Hd (fun(w:World) (t0:TI w (.slice oa na ka) n') (t1:TI w (.slice ob nb kb) a')=>change_ti _ _ n' a' w t0 t1)
     have MB:=Hd (fun(w:World) (t0:TI w (.slice oa na ka) n') (t1:TI w (.slice ob nb kb) a')=>rchange_ti _ _ n' a' w t0 t1)
     go_upto_region 9 with fail
     refine Plan.wp_region_plan (fun w'=>w'.cell? ⟨gs,k,none⟩=some (.slice oa na ka)∧w'.cell? ⟨gs,j,none⟩=some (.slice ob nb kb)) (([0,1,2,3,4,5,6,7].map (·,true))++(([8].map (·,false))++([9,10,11,12,13,14,15,16,17].map (·,true)))) (by kernel_rfl) (by kernel_rfl) (by kernel_rfl) ⟨H0.out,H1.out⟩ ?_
     refine' Plan.plan_seg _ [0,1,2,3,4,5,6,7] (([8].map (·,false))++([9,10,11,12,13,14,15,16,17].map (·,true))) (by kernel_rfl) (by kernel_rfl) rfl (by exact⟨H0.out,H1.out⟩) (fun wx hS=>?_) ?_
     rotate_left
     ·obtain⟨q0,q1⟩:=hS
      go_light
      iterate 8 (apply Plan.seg_pick;rfl;intro K hK;go_wp)
      exact Plan.seg_nil
     obtain⟨wda,hwd⟩:=Xq (wr.drew)
     rw[← hwd]
     have hb:Below wr.heap.size wr wda:=by rw[hwd];exact(Below.refl _ _).drew
     replace H0:=Hd ((hb.cell (p:=⟨gs,k,none⟩) (block_lt_of_cell H0.out)).trans H0.out)
     replace H1:=Hd ((hb.cell (p:=⟨gs,j,none⟩) (block_lt_of_cell H1.out)).trans H1.out)
     replace T0:=Hd (T0.out.below hb)
     replace T1:=Hd (T1.out.below hb)
     replace HBK:=Tb HBK hb
     clear hb hwd
     refine Plan.plan_of_effect rfl (fun K hK=>?_)
     go_wp2_with fail
     refine(MA.out _ T0.out T1.out).mono ?_
     rintro e w7 ⟨p1,q1,r1,y1,b1,rfl,hm,ho,hb⟩
     have R1:=Hd ho.tg
     have M1:=Hd hm
     obtain⟨or,cr,er⟩:=ho.tg.form
     obtain⟨nr,hnr⟩:=Xq (y1.length)
     rw[← hnr]at er
     subst er
     replace H0:=Hd ((hb.cell (p:=⟨gs,k,none⟩) (block_lt_of_cell H0.out)).trans H0.out)
     replace H1:=Hd ((hb.cell (p:=⟨gs,j,none⟩) (block_lt_of_cell H1.out)).trans H1.out)
     replace T0:=Hd (T0.out.below hb)
     replace T1:=Hd (T1.out.below hb)
     replace HBK:=Tb HBK hb
     clear ho hb hm hnr MA
     go_wp2_with fail
     refine⟨⟨H0.out,H1.out⟩,?_⟩
     refine' Plan.plan_seg _ [9,10,11,12,13,14,15,16,17] [] (by kernel_rfl) (by kernel_rfl) rfl (by exact⟨H0.out,H1.out⟩) (fun wx hS=>?_) ?_
     rotate_left
     ·clear hS
      go_light
      iterate 9 (apply Plan.seg_pick;rfl;intro K hK;go_wp)
      exact Plan.seg_nil
     refine Plan.plan_done ?_
     go_upto_region 10 with fail
     refine Plan.wp_region_plan (fun w'=>w'.cell? ⟨gs,k,none⟩=some (.slice oa na ka)∧w'.cell? ⟨gs,j,none⟩=some (.slice ob nb kb)) (([0,1,2,3,4,5,6,7].map (·,true))++(([8].map (·,false))++([9,10,11,12,13,14,15,16,17].map (·,true)))) (by kernel_rfl) (by kernel_rfl) (by kernel_rfl) ⟨H0.out,H1.out⟩ ?_
     refine' Plan.plan_seg _ [0,1,2,3,4,5,6,7] (([8].map (·,false))++([9,10,11,12,13,14,15,16,17].map (·,true))) (by kernel_rfl) (by kernel_rfl) rfl (by exact⟨H0.out,H1.out⟩) (fun wx hS=>?_) ?_
     rotate_left
     ·obtain⟨q0,q1⟩:=hS
      go_light
      iterate 8 (apply Plan.seg_pick;rfl;intro K hK;go_wp)
      exact Plan.seg_nil
     obtain⟨wdb,hwd⟩:=Xq (w7.drew)
     rw[← hwd]
     have hb:Below w7.heap.size w7 wdb:=by rw[hwd];exact(Below.refl _ _).drew
     replace H0:=Hd ((hb.cell (p:=⟨gs,k,none⟩) (block_lt_of_cell H0.out)).trans H0.out)
     replace H1:=Hd ((hb.cell (p:=⟨gs,j,none⟩) (block_lt_of_cell H1.out)).trans H1.out)
     replace T0:=Hd (T0.out.below hb)
     replace T1:=Hd (T1.out.below hb)
     replace HBK:=Tb HBK hb
     replace R1:=Hd (R1.out.below hb)
     clear hb hwd
     refine Plan.plan_of_effect rfl (fun K hK=>?_)
     go_wp2_with fail
     refine(MB.out _ T0.out T1.out).mono ?_
     rintro e w8 ⟨p2,q2,r2,y2,b2,rfl,hm,ho,hb⟩
     obtain⟨rfl,rfl,rfl,rfl⟩:=M1.out.uniq hm
     have R2:=Hd ho.tg
     obtain⟨os,cs,es⟩:=ho.tg.form
     obtain⟨ns,hns⟩:=Xq (y1.length)
     rw[← hns]at es
     subst es
     replace H0:=Hd ((hb.cell (p:=⟨gs,k,none⟩) (block_lt_of_cell H0.out)).trans H0.out)
     replace H1:=Hd ((hb.cell (p:=⟨gs,j,none⟩) (block_lt_of_cell H1.out)).trans H1.out)
     replace R1:=Hd (R1.out.below hb)
     replace HBK:=Tb HBK hb
     clear ho hb hm hns MB M1 T0 T1
     go_wp2_with fail
     refine⟨⟨H0.out,H1.out⟩,?_⟩
     refine' Plan.plan_seg _ [9,10,11,12,13,14,15,16,17] [] (by kernel_rfl) (by kernel_rfl) rfl (by exact⟨H0.out,H1.out⟩) (fun wx hS=>?_) ?_
     rotate_left
     ·clear hS
      go_light
      iterate 9 (apply Plan.seg_pick;rfl;intro K hK;go_wp)
      exact Plan.seg_nil
     refine Plan.plan_done ?_
     clear H0 H1
     go_wp2_with fail
     refine(requal_yes _ _ _ _ y1 _ R1.out R2.out).mono ?_
     rintro e w9 ⟨rfl,hb⟩
     replace HBK:=Tb HBK hb
     clear hb R1 R2
     go_wp2_with fail
     go_roundw
     case rel=>exact⟨j+1,by omega,by simp,HBK.out⟩
     case measure=>
      simp[intOf]
      omega
    have hj5:j=5:=by omega
    subst hj5
    go_wp2_with fail
    go_roundw
    case rel=>exact⟨k+1,by have:=HLT.out;omega,by simp,HBK.out⟩
    case measure=>
     simp[intOf]
     omega
  have hk5:k=5:=by omega
  subst hk5
  clear HK
  go_wp2_with fail
  refine(awake_any _).mono ?_
  rintro e w6 ⟨rfl,hb⟩
  have HB6:=Hd (HB.out.trans ((HBK.out.trans (hb.mono HBK.out.size)).mono HB.out.size))
  clear hb
  go_wp2_with fail
  go_ret
  exact⟨rfl,HB6.out⟩
end Go.Proofs.YtfoohocgdcgbcaaGreat
