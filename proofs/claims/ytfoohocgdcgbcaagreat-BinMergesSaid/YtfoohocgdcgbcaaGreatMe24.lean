/- Texts of this claim joined: JN QE QG MP JQ JT JU AV IA IB QX JV. -/
import Derived.Test.YtfoohocgdcgbcaaGreatMe23
import Derived.Test.YtfoohocgdcgbcaaGreatSq
set_option linter.unusedVariables false
set_option linter.unusedSimpArgs false
set_option maxRecDepth 100000
set_option maxHeartbeats 40000000
namespace Go.Proofs.YtfoohocgdcgbcaaGreat
open Go.RowKit
open Classical in
theorem rinside_any (D:Nat) (v:Value) (l:List Trk.Clip) (w:World) (h:TG w D v l) (hR:RCL l) :
  Calls Tryz.prog 57 #[v] w fun e w'=>e=.returned (.bool (decide (VGL l)))∧Below w.heap.size w w':=by
 obtain⟨ao,cap,rfl,hc1,hc2,hT⟩:=h
 have HT:=Hd (show TG w D (.slice ao l.length cap) l from⟨ao,cap,rfl,hc1,hc2,hT⟩)
 clear hT
 have HRC:=Hd hR
 obtain⟨R,hR'⟩:=Xq (decide (VGL l))
 rw[← hR']
 have HR:=Hd hR'
 obtain⟨N,hN⟩:=Xq (l.length)
 rw[← hN]at hc1 HT
 have HLe:=Hd hN
 have hm:N≤9223372036854775807:=Nat.le_trans hc1 (Nat.le_trans hc2 (by decide))
 rw[← hN]
 clear hR' hN hc2 hR
 go_enter Tryz.func57,Tryz.ntmps57
 go_wp2_with fail
 go_loopw [3] (fun v3 wr=>∃ k:Nat,k≤N∧v3=.int .i64 (k:Int)∧(∀ (i:Nat) (c:Trk.Clip),i<k→l[i]?=some c→VG c)∧Below w.heap.size w wr) (fun i _=>N-(intOf i).toNat)
 case atStart=>exact⟨0,Nat.zero_le _,rfl,fun i c h=>absurd h (Nat.not_lt_zero i),Below.refl _ _⟩
 case round =>
  obtain⟨k,hk,rfl,hL,hb⟩:=hrel
  have HL:=Hd hL
  clear hL
  by_cases hlt:k<N
  ·have hlt':(k:Int)<(N:Int):=by omega
   have hkl:k<l.length:=by rw[← HLe.out];exact hlt
   obtain⟨c,hc⟩:∃ c,l[k]?=some c:=⟨_,List.getElem?_eq_getElem hkl⟩
   obtain⟨ao',cap',e,_,_,hT⟩:=HT.out.below hb
   simp only[Value.slice.injEq]at e
   obtain⟨rfl,-,rfl⟩:=e
   obtain⟨b,o,x,rfl,hA,hI⟩:=hT k c hc
   obtain⟨xa,xc,ex⟩:=hI.form
   obtain⟨xn,hxn⟩:=Xq (c.chan.length)
   rw[← hxn]at ex
   subst ex
   have HA:=Hd hA
   have HB:=Hd hb
   have HC:=Hd hc
   have HVC:=Hd (fun w2 (hb2:Below wr.heap.size wr w2)=>rclip_says c _ w2 (hI.it.below hb2) (HRC.out c (List.mem_of_getElem? hc)).i)
   unfold clipGV at HVC
   clear hT hA hb hc hkl hI hxn
   go_upto_region 4 with fail
   apply wp_region_lit
   iterate 9 go_step
   refine wpl_loadG HA.out rfl rfl rfl ?_
   simp only[Act.put,sA1,sB1,sC1]
   obtain⟨C,hC⟩:=Xq ((clipG c (.slice xa xn xc)).toArray)
   rw[← hC]at HVC ⊢
   clear hC
   go_wp2_with fail
   refine(HVC.out _ (Below.refl _ _)).mono ?_
   rintro e w4 ⟨rfl,hb⟩
   have HB4:=Tb HB hb
   clear hb HA HB
   cases hv:clipB c c.chan with
   |false=>
    have HRR:Hid (R=false):=Hd (by rw[HR.out];exact decide_eq_false (fun h=>by have:=clipB_iff.2 (h c (List.mem_of_getElem? HC.out));rw[hv]at this;cases this))
    clear hv
    go_wp2_with fail
    go_ret
    exact⟨ret_bool (HRR.out).symm,HB4.out⟩
   | true =>
    have HVV:=Hd (clipB_iff.1 hv)
    clear hv
    go_wp2_with fail
    go_roundw
    case rel=>exact⟨k+1,by omega,by simp,fun i d hi hd=>by
     rcases Nat.lt_or_ge i k with h |h
     ·exact HL.out i d h hd
     have e:i=k:=by omega
     subst e
     rw[Option.some.inj (hd.symm.trans HC.out)];exact HVV.out,HB4.out⟩
    case measure=>
     show N-(intOf (.int .i64 ((k:Int)+1))).toNat<N-(intOf (.int .i64 (k:Int))).toNat
     simp[intOf]
     omega
  have hkl:k=N:=by omega
  have HB:=Hd hb
  have HRR:Hid (R=true):=Hd (by rw[HR.out];exact decide_eq_true (fun c hc=>by
   obtain⟨i,hi,e⟩:=List.getElem_of_mem hc
   exact HL.out i c (by rw[hkl,HLe.out];exact hi) (by rw[List.getElem?_eq_getElem hi,e])))
  clear hb
  subst hkl
  go_wp2_with fail
  go_ret
  exact⟨ret_bool (HRR.out).symm,HB.out⟩
def IvG (w:World) (n m:List Trk.Clip) (e:Ending) (w':World):Prop:=
 ∃ p q xv,e=.returned (.tuple #[.int .i64 p,.int .i64 q,xv])∧Trk.Diff n m p q (partL m p (Trk.total m-(Trk.total n-q)))∧OG w' w.heap.size 0 xv (partL m p (Trk.total m-(Trk.total n-q)))∧Below w.heap.size w w'
theorem rinterval_any (D1 D2:Nat) (v u:Value) (n m:List Trk.Clip) (w:World) (h:TG w D1 v n) (h':TG w D2 u m) (Vn:TV n) (Vm:TV m) :
  Calls Tryz.prog 54 #[v,u] w (IvG w (Trk.nf n) (Trk.nf m)):=by
 have HT:=Hd h
 have HU:=Hd h'
 have N1:=Hd (fun(w:World) (h:TG w D1 v n)=>rnormal_any D1 v n w h Vn)
 have N2:=Hd (fun(w:World) (h:TG w D2 u m)=>rnormal_any D2 u m w h Vm)
 have Wn:=Vn.nf
 have Wm:=Vm.nf
 obtain⟨A,hA⟩:=Xq (Trk.nf n)
 obtain⟨B,hB⟩:=Xq (Trk.nf m)
 unfold OGPost at N1 N2
 rw[← hA]at N1 Wn ⊢
 rw[← hB]at N2 Wm ⊢
 have L1:=Hd (fun(u:Value) (w:World) (h:TG w 0 u A)=>rlength_any 0 u A w h Wn)
 have L2:=Hd (fun(u:Value) (w:World) (h:TG w 0 u B)=>rlength_any 0 u B w h Wm)
 have EQ:=Hd (fun(a b:Value) (M:Int) (w:World) (h:TG w 0 a A) (h':TG w 0 b B) (hM:M=min (Trk.total A) (Trk.total B))=>req96_any 0 0 a b A B M w h h' Wn Wm hM)
 have TL:=Hd (fun(a b:Value) (M:Int) (w:World) (h:TG w 0 a A) (h':TG w 0 b B) (M0:0≤M) (h1:M≤Trk.total A) (h2:M≤Trk.total B)=>rtail_any 0 0 a b A B M w h h' Wn Wm M0 h1 h2)
 have PT:=Hd (fun(b:Value) (f t:Int) (w:World) (h':TG w 0 b B) (f0:0≤f) (ft:f≤t) (t1:t≤Trk.total B)=>rpart_any 0 b B f t w h' Wm f0 ft t1)
 unfold OGPost at PT
 have tn:=Wn.t
 have tm:=Wm.t
 have t0:=Trk.total_nonneg Wn.good
 have t1:=Trk.total_nonneg Wm.good
 obtain⟨N,hN⟩:=Xq (Trk.total A)
 obtain⟨M,hM⟩:=Xq (Trk.total B)
 rw[← hN]at tn t0
 rw[← hM]at tm t1
 have HNM:=Hd (And.intro hN hM)
 clear hN hM Wn Wm hA hB h h' Vn Vm
 go_enter Tryz.func54,Tryz.ntmps54
 go_wp2_with fail
 refine(N1.out _ HT.out).mono ?_
 rintro e w1 ⟨a,rfl,ho,hb⟩
 have HB:=Hd hb
 have HA:=Hd ho.tg
 replace HU:=Hd (HU.out.below hb)
 clear hb ho
 go_wp2_with fail
 refine(N2.out _ HU.out).mono ?_
 rintro e w2 ⟨b,rfl,ho,hb⟩
 replace HA:=Hd (HA.out.below hb)
 have HBB:=Hd ho.tg
 replace HB:=Tb HB hb
 clear hb ho HT HU N1 N2
 go_wp2_with fail
 refine(L1.out _ _ HA.out).mono ?_
 rintro e w3 ⟨rfl,hb⟩
 replace HA:=Hd (HA.out.below hb)
 replace HBB:=Hd (HBB.out.below hb)
 replace HB:=Tb HB hb
 rw[← HNM.out.1]
 clear hb
 go_wp2_with fail
 refine(L2.out _ _ HBB.out).mono ?_
 rintro e w4 ⟨rfl,hb⟩
 replace HA:=Hd (HA.out.below hb)
 replace HBB:=Hd (HBB.out.below hb)
 replace HB:=Tb HB hb
 rw[← HNM.out.2]
 clear hb
 go_wp2_with fail
 obtain⟨k,hk⟩:=Xq (min N M)
 rw[← hk]
 have HK:=Hd hk
 have k0:0≤k:=by omega
 have k1:k≤N:=by omega
 have k2:k≤M:=by omega
 clear hk
 refine(EQ.out _ _ k _ HA.out HBB.out (by rw[← HNM.out.1,← HNM.out.2];exact HK.out)).mono ?_
 rintro e w5 ⟨p,rfl,hp,hb⟩
 replace HA:=Hd (HA.out.below hb)
 replace HBB:=Hd (HBB.out.below hb)
 replace HB:=Tb HB hb
 have HP:=Hd hp
 have p0:=hp.h0
 have p1:p≤N:=by rw[HNM.out.1];exact hp.h1
 have p2:p≤M:=by rw[HNM.out.2];exact hp.h2
 have p3:p≤k:=by have:=HK.out;omega
 clear hb hp
 go_wp2_with fail
 refine(TL.out _ _ (k-p) _ HA.out HBB.out (by omega) (by rw[← HNM.out.1];omega) (by rw[← HNM.out.2];omega)).mono ?_
 rintro e w6 ⟨s,rfl,hs,hb⟩
 replace HA:=Hd (HA.out.below hb)
 replace HBB:=Hd (HBB.out.below hb)
 replace HB:=Tb HB hb
 have HS:=Hd hs
 have s0:=hs.h0
 have s1:=hs.h1
 clear hb hs
 go_wp2_with fail
 refine(L1.out _ _ HA.out).mono ?_
 rintro e w7 ⟨rfl,hb⟩
 replace HBB:=Hd (HBB.out.below hb)
 replace HB:=Tb HB hb
 rw[← HNM.out.1]
 clear hb HA
 obtain⟨q,hq⟩:=Xq (N-s)
 obtain⟨r,hr⟩:=Xq (M-s)
 have eq1:N-s=q:=hq.symm
 have er1:M-s=r:=hr.symm
 have HQR:=Hd (And.intro hq hr)
 have q0:p≤q:=by omega
 have q1:q≤2147483647:=by omega
 have r0:p≤r:=by omega
 have r2:r≤M:=by omega
 clear hq hr
 go_wp2_with fail
 refine(L2.out _ _ HBB.out).mono ?_
 rintro e w8 ⟨rfl,hb⟩
 replace HBB:=Hd (HBB.out.below hb)
 replace HB:=Tb HB hb
 rw[← HNM.out.2]
 clear hb
 go_wp2_with fail
 refine(PT.out _ p r _ HBB.out p0 r0 (by rw[← HNM.out.2];exact r2)).mono ?_
 rintro e w9 ⟨xv,rfl,ho,hb⟩
 have hr':r=Trk.total B-(Trk.total A-q):=by
  rw[← HNM.out.1,← HNM.out.2]
  have:=HQR.out
  omega
 have hdf:Trk.Diff A B p q (partL B p (Trk.total B-(Trk.total A-q))):=by
  refine⟨HP.out,?_,rfl⟩
  have h1:Trk.total A-q=s:=by rw[← HNM.out.1];have:=HQR.out;omega
  rw[h1,← HNM.out.1,← HNM.out.2,← HK.out]
  exact HS.out
 rw[hr']at ho
 have HO:=Hd (ho.lower HB.out.size)
 have HD:=Hd hdf
 replace HB:=Tb HB hb
 clear hb ho hr' hdf eq1 er1
 go_wp2_with fail
 go_returns
 exact⟨p,q,xv,rfl,HD.out,HO.out,HB.out⟩
theorem docs_nil (w:World):Calls Tryz.prog 102 #[.slice none 0 0] w fun e w'=>e=.returned (.slice none 0 0)∧w'=w:=by
 have hnil:=fun w=>Go.run_eql_slice_nil (P:=Tryz.prog) w 53 65 none 0 0 Tryz.underlying53
 go_enter Tryz.func102,Tryz.ntmps102
 go_wp2_with fail
 go_ret
 exact⟨rfl,rfl⟩
theorem fields_tick (w:World):Calls Tryz.prog 101 #[.agg #[.int .i64 7,.string ⟨#[]⟩,.string ⟨#[]⟩,.int .i64 0,.int .i64 1,.slice none 0 0]] w fun e w'=>e=.returned (.bool true)∧w'=w.alloc (.cells #[.int .i64 7,.string ⟨#[]⟩,.string ⟨#[]⟩,.int .i64 0,.int .i64 1,.slice none 0 0] 59):=by
 go_enter Tryz.func101,Tryz.ntmps101
 go_wp2_with fail
 go_ret
 exact⟨rfl,rfl⟩
theorem convert_tick (w:World):Calls Tryz.prog 62 #[.agg #[.int .i64 7,.string ⟨#[]⟩,.string ⟨#[]⟩,.int .i64 0,.int .i64 1,.slice none 0 0]] w fun e w'=>e=.returned (.tuple #[.iface 154 (.agg #[.int .i64 1]),.bool true])∧w'=((w.alloc (.cells #[.int .i64 7,.string ⟨#[]⟩,.string ⟨#[]⟩,.int .i64 0,.int .i64 1,.slice none 0 0] 59)).alloc (.cells #[.int .i64 7,.string ⟨#[]⟩,.string ⟨#[]⟩,.int .i64 0,.int .i64 1,.slice none 0 0] 59)).alloc (.cells #[.int .i64 7,.string ⟨#[]⟩,.string ⟨#[]⟩] 142):=by
 go_enter Tryz.func62,Tryz.ntmps62
 go_wp2_with fail
 refine(fields_tick _).mono ?_
 rintro e w1 ⟨rfl,rfl⟩
 go_wp2_with fail
 go_ret2
 exact⟨rfl,rfl⟩
theorem tick_none (w:World):Calls Tryz.prog 103 #[.agg #[.int .i64 0,.slice none 0 0],.int .i64 1] w fun e w'=>e=.returned (.tuple #[.agg #[.int .i64 1,.slice none 0 0],.slice none 0 0,.int .i64 0])∧w'=(w.alloc (.cells #[.int .i64 1,.slice none 0 0] 55)).alloc (.cells #[.int .i64 1,.slice none 0 0] 55):=by
 go_enter Tryz.func103,Tryz.ntmps103
 go_wp2_with fail
 go_loop [7,24] (fun v7 i=>v7=.slice none 0 0∧i=.int .i64 0) (fun _ _=>0)
 case atStart=>exact⟨rfl,rfl⟩
 case round=>
  obtain⟨rfl,rfl⟩:=hrel
  go_wp2_with fail
  go_returns
  exact⟨rfl,rfl⟩
theorem clone_none (n:Int) (w:World):Calls Tryz.prog 64 #[.agg #[.int .i64 n,.slice none 0 0]] w fun e w'=>e=.returned (.agg #[.int .i64 n,.slice none 0 0])∧w'=(w.alloc (.cells #[.int .i64 n,.slice none 0 0] 55)).alloc (.cells #[.int .i64 n,.slice none 0 0] 55):=by
 go_enter Tryz.func64,Tryz.ntmps64
 go_wp2_with fail
 refine(docs_nil _).mono ?_
 rintro e w1 ⟨rfl,rfl⟩
 go_wp2_with fail
 go_loop [13] (fun i=>i=.int .i64 0) (fun _=>0)
 case atStart=>rfl
 case round=>
  subst hrel
  go_wp2_with fail
  go_returns
  exact⟨rfl,rfl⟩
theorem valid_none (w:World):Calls Tryz.prog 38 #[.agg #[.int .i64 0,.slice none 0 0]] w fun e w'=>e=.returned (.bool true)∧w'=(w.alloc (.cells #[.int .i64 0,.slice none 0 0] 55)).alloc (.map #[] 0):=by
 have hmm:=@run_makeMap Tryz.prog
 go_enter Tryz.func38,Tryz.ntmps38
 go_wp2_with fail
 go_loop [24] (fun i=>i=.int .i64 0) (fun _=>0)
 case atStart=>rfl
 case round=>
  subst hrel
  go_wp2_with fail
  go_returns
  exact⟨rfl,rfl⟩
theorem ta_154_154 (x:Value) (w:World):(Instr.typeAssert (.iface 154 x) 20 154 true).run Tryz.prog w=.ok (.tuple #[x,.bool true]) w:=by
 simp[Instr.typeAssert,run_underlying Tryz.underlying154]
theorem step_none (w:World):Calls Tryz.prog 63 #[.agg #[.int .i64 0,.slice none 0 0],.iface 154 (.agg #[.int .i64 1])] w fun e w'=>e=.returned (.tuple #[.agg #[.int .i64 1,.slice none 0 0],.slice none 0 0,.int .i64 0])∧w'=((((w.alloc (.cells #[.int .i64 0,.slice none 0 0] 55)).alloc (.cells #[.int .i64 1,.slice none 0 0] 55)).alloc (.cells #[.int .i64 1] 154)).alloc (.cells #[.int .i64 1,.slice none 0 0] 55)).alloc (.cells #[.int .i64 1,.slice none 0 0] 55):=by
 have hta:=ta_154_154
 go_enter Tryz.func63,Tryz.ntmps63
 go_wp2_with fail
 refine(docs_nil _).mono ?_
 rintro e w1 ⟨rfl,rfl⟩
 go_wp2_with fail
 refine(tick_none _).mono ?_
 rintro e w1 ⟨rfl,rfl⟩
 go_wp2_with fail
 go_returns
 exact⟨rfl,rfl⟩
theorem step_tick (w:World):Calls Tryz.prog 26 #[.agg #[.int .i64 0,.slice none 0 0],.agg #[.int .i64 7,.string ⟨#[]⟩,.string ⟨#[]⟩,.int .i64 0,.int .i64 1,.slice none 0 0]] w fun e w'=>e=.returned (.tuple #[.agg #[.int .i64 1,.slice none 0 0],.slice none 0 0,.int .i64 0])∧Below w.heap.size w w':=by
 go_enter Tryz.func26,Tryz.ntmps26
 go_wp2_with fail
 refine(valid_none _).mono ?_
 rintro e w1 ⟨rfl,rfl⟩
 go_wp2_with fail
 refine(convert_tick _).mono ?_
 rintro e w1 ⟨rfl,rfl⟩
 go_wp2_with fail
 refine(step_none _).mono ?_
 rintro e w1 ⟨rfl,rfl⟩
 go_wp2_with fail
 refine(clone_none _ _).mono ?_
 rintro e w1 ⟨rfl,rfl⟩
 go_wp2_with fail
 go_returns
 exact⟨rfl,by go_grown⟩
def longC:Trk.Clip:=⟨150,1,⟨1,⟨#[122]⟩,0,1,1,1,false⟩,Trk.black,0,0,0,ByteArray.empty,0,[]⟩
theorem long_vt:VT 1000000 [longC]:=by
 refine⟨fun c hc=>?_,by decide,by decide⟩
 rw[List.mem_singleton]at hc
 subst hc
 have hn:Trk.okName ⟨#[122]⟩:=.inr ⟨122,rfl,by decide,by decide⟩
 have ha:=tape_src0 (nm:=⟨#[122]⟩) (k:=1) (n:=0) (d:=1) (sn:=1) (sd:=1) (sm:=false) (.inl rfl) hn ⟨by decide,by decide,by decide,by decide,by decide⟩ ⟨by decide,by decide,by decide,by decide,by decide⟩
 have hs:Trk.SrcIn 1000000 150 longC.a:=by
  obtain⟨h1,h2,h3,-,-,-,-⟩:=ha
  exact .inr ⟨h1,h2,h3,by decide,by decide,by decide,by decide,by decide,by decide⟩
 exact⟨⟨hs,.inl rfl,rfl,rfl,.inr (.inl ⟨rfl,rfl,rfl,rfl,rfl,rfl⟩)⟩,by decide,by decide,fun h=>by simp[longC,Trk.shares]at h⟩
theorem gap1_vt:VT 1000000 [Trk.gap 1]:=by
 refine⟨fun c hc=>?_,by decide,by decide⟩
 rw[List.mem_singleton]at hc
 subst hc
 exact⟨⟨.inl rfl,.inl rfl,rfl,rfl,.inl ⟨rfl,rfl,rfl,rfl,rfl,rfl,rfl⟩⟩,by decide,by decide,fun h=>by simp[Trk.gap,Trk.shares]at h⟩
theorem nil_vt:VT 1000000 []:=⟨Trk.VL.nil,by decide,by decide⟩
theorem long_any (w:World):Calls Tryz.prog 23 #[] w (OTPost w [longC]):=by
 go_enter Tryz.func23,Tryz.ntmps23
 go_wp2_with fail
 go_ret
 exact⟨_,rfl,OT.box w longC,below_box _ _⟩
theorem partL_good {l:List Trk.Clip} (h:Trk.GoodL l) {a b:Int} (a0:0≤a) (ab:a≤b):Trk.GoodL (partL l a b):=by
 unfold partL
 split
 ·exact Trk.GoodL.nil
 exact(Trk.cut_of h a0 ab).g
theorem partL_fr {l:List Trk.Clip} (h:Trk.GoodL l) {a b i:Int} (a0:0≤a) (ab:a≤b) (i0:0≤i) (i1:i<b-a):Trk.fr (partL l a b) i=Trk.fr l (a+i):=by
 unfold partL
 split
 ·omega
 exact(Trk.cut_of h a0 ab).f i i0 i1
theorem partL_len {l:List Trk.Clip} (h:Trk.GoodL l) {a b:Int} (a0:0≤a) (ab:a≤b) (b1:b≤Trk.total l):(partL l a b).length≤l.length:=by
 unfold partL
 split
 ·simp
 exact Trk.cut_len h a0 ab b1
end Go.Proofs.YtfoohocgdcgbcaaGreat
namespace Go.Trk
theorem snoc_len (o:List Clip) (c:Clip):o.length≤(snoc o c).length:=by
 unfold snoc
 cases h:o.getLast? with
 |none=>rw[List.getLast?_eq_none_iff.1 h];exact Nat.zero_le _
 | some p =>
  simp only
  split
  ·have:=congrArg List.length (getLast_split h)
   simp only[List.length_append,List.length_cons,List.length_nil]at this ⊢
   omega
  simp
theorem pk_len_append (u v:List Clip):(pk u).length≤(pk (u++v)).length:=by
 refine list_snoc (P:=fun v=>(pk u).length≤(pk (u++v)).length) (by rw[List.append_nil];exact Nat.le_refl _) (fun v c ih=>?_) v
 rw[← List.append_assoc,pk_snoc]
 exact Nat.le_trans ih (snoc_len _ c)
theorem fr_tail {l m:List Clip} (gl:GoodL l) (hm:0<total m):fr (l++m) (total (l++m)-1)=fr m (total m-1):=by
 rw[total_append,fr_append_ge m gl (by omega)]
 congr 1
 omega
theorem nf_pk_eq {l:List Clip} (g:GoodL l) (h:0<total l→(fr l (total l-1)).kind≠0):nf l=pk l:=by
 unfold nf dropGap
 have hp:=pk_of g
 cases hl:(pk l).getLast? with
 |none=>rfl
 |some p=>
  simp only
  have h1:=fr_last hp.g hl
  have hm:p∈pk l:=by rw[getLast_split hl];simp
  have h2:=len_le_total hp.g hm
  have h3:=(hp.g p hm).l
  have e:=hp.s.t
  rw[if_neg]
  rw[← h1,e,hp.s.f _ (by omega)]
  exact h (by omega)
theorem Norm.last {l:List Clip} (h:Norm l) (ht:0<total l):(fr l (total l-1)).kind≠0:=by
 cases hl:l.getLast? with
 |none=>rw[List.getLast?_eq_none_iff.1 hl]at ht;exact absurd ht (by decide)
 |some c=>rw[fr_last h.g hl];exact h.n c hl
end Go.Trk
namespace Go.Proofs.YtfoohocgdcgbcaaGreat
open Go.RowKit
theorem partL_same (l:List Trk.Clip) (a:Int):partL l a a=[]:=if_pos rfl
theorem glue_last {n m1 m2 x1 y1 y2:List Trk.Clip} {p1 q1 p2 q2:Int} (Nn:Trk.Norm n) (N2:Trk.Norm m2) (g1:Trk.GoodL x1) (h1:Trk.Diff n m1 p1 q1 y1) (h2:Trk.Diff n m2 p2 q2 y2) (hlt:q1<p2) :
  Trk.nf (pieces n p1 q1 x1 p2 q2 (partL m2 p2 (Trk.total m2-(Trk.total n-q2)))).flatten=Trk.pk (pieces n p1 q1 x1 p2 q2 (partL m2 p2 (Trk.total m2-(Trk.total n-q2)))).flatten:=by
 have l1:=h1.le
 have l2:=h2.le
 have hg:=Nn.g
 have hA:=partL_good hg (Int.le_refl 0) l1.1
 have hM:=partL_good hg (a:=q1) (b:=p2) (by omega) (by omega)
 have hX:=partL_good N2.g (a:=p2) (b:=Trk.total m2-(Trk.total n-q2)) (by omega) (by omega)
 have hE:=partL_good hg (a:=q2) (b:=Trk.total n) (by omega) (by omega)
 have tM:=partL_total hg (a:=q1) (b:=p2) (by omega) (by omega)
 have tX:=partL_total N2.g (a:=p2) (b:=Trk.total m2-(Trk.total n-q2)) (by omega) (by omega)
 have tE:=partL_total hg (a:=q2) (b:=Trk.total n) (by omega) (by omega)
 have e:(pieces n p1 q1 x1 p2 q2 (partL m2 p2 (Trk.total m2-(Trk.total n-q2)))).flatten=(partL n 0 p1++x1++partL n q1 p2++partL m2 p2 (Trk.total m2-(Trk.total n-q2)))++partL n q2 (Trk.total n):=by
  simp[pieces,List.append_assoc]
 rw[e]
 refine Trk.nf_pk_eq ((((hA.append g1).append hM).append hX).append hE) (fun _=>?_)
 by_cases c1:q2<Trk.total n
 ·rw[Trk.fr_tail (((hA.append g1).append hM).append hX) (by omega),tE,partL_fr hg (by omega) (by omega) (by omega) (by omega),show q2+(Trk.total n-q2-1)=Trk.total n-1 by omega]
  exact Nn.last (by omega)
 have c2:q2=Trk.total n:=by omega
 rw[c2,partL_same,List.append_nil,show Trk.total m2-(Trk.total n-Trk.total n)=Trk.total m2 by omega]
 rw[c2,show Trk.total m2-(Trk.total n-Trk.total n)=Trk.total m2 by omega]at hX tX
 by_cases c3:p2<Trk.total m2
 ·rw[Trk.fr_tail ((hA.append g1).append hM) (by omega),tX,partL_fr N2.g (by omega) (by omega) (by omega) (by omega),show p2+(Trk.total m2-p2-1)=Trk.total m2-1 by omega]
  exact N2.last (by omega)
 have c4:p2=Trk.total m2:=by omega
 rw[← c4,partL_same,List.append_nil,Trk.fr_tail (hA.append g1) (by omega),tM,partL_fr hg (by omega) (by omega) (by omega) (by omega),show q1+(p2-q1-1)=p2-1 by omega,h2.pre.f (p2-1) (by omega) (by omega),c4]
 exact N2.last (by omega)
structure RD (n m:List Trk.Clip) (p q:Int) (x:List Trk.Clip):Prop where
 d:Trk.Diff n m p q (partL m p (Trk.total m-(Trk.total n-q)))
 x:x=partL m p (Trk.total m-(Trk.total n-q))
def RTwo (n a b:List Trk.Clip) (p1 q1:Int) (x1:List Trk.Clip) (p2 q2:Int) (x2:List Trk.Clip):Prop:=
 (RD n a p1 q1 x1∧RD n b p2 q2 x2∧¬q2<p1)∨(RD n b p1 q1 x1∧RD n a p2 q2 x2∧q1<p2)
def RGlue (P:List (List Trk.Clip)) (code:Int) (x:List Trk.Clip):Prop:=
 (¬(∀ l∈P,VGL l)∧code=2∧x=[])∨((∀ l∈P,VGL l)∧((2147483647<Trk.total P.flatten∧code=2∧x=[])∨(Trk.total P.flatten≤2147483647∧((64<(Trk.nf P.flatten).length∧code=5∧x=[])∨((Trk.nf P.flatten).length≤64∧code=0∧x=Trk.nf P.flatten)))))
def RLong (n a b:List Trk.Clip) (code:Int) (x:List Trk.Clip):Prop:=
 ∃ p1 q1 x1 p2 q2 x2,RTwo n a b p1 q1 x1 p2 q2 x2∧((p2≤q1∧code=12∧x=[])∨(q1<p2∧RGlue (pieces n p1 q1 x1 p2 q2 x2) code x))
def RMergeV (n a b:List Trk.Clip) (code:Int) (x:List Trk.Clip):Prop:=
 (shortC n a b∧code=0∧x=shortL n a b)∨(¬shortC n a b∧RLong (Trk.nf n) (Trk.nf a) (Trk.nf b) code x)
def RMergeA (n a b:List Trk.Clip) (code:Int) (x:List Trk.Clip):Prop:=
 (¬(TV n∧TV a∧TV b)∧code=1∧x=[])∨((TV n∧TV a∧TV b)∧RMergeV n a b code x)
theorem glue_agree {n m1 m2 x1 x2 y1 y2 x y:List Trk.Clip} {p1 q1 E1 p2 q2 E2 c d:Int} (Vn:TV n) (V1:TV m1) (V2:TV m2) (Nn:Trk.Norm n) (N2:Trk.Norm m2) (h1:DG n m1 p1 q1 x1 E1) (h2:DG n m2 p2 q2 x2 E2) (k1:RD n m1 p1 q1 y1) (k2:RD n m2 p2 q2 y2) (hlt:q1<p2)
  (h:RepG n E1 p1 q1 x1 E2 p2 q2 x2 c x) (k:RGlue (pieces n p1 q1 y1 p2 q2 y2) d y):c=d∧x=y:=by
 have l1:=h1.d.le
 have l2:=h2.d.le
 have i1:=part_in V1 (a:=p1) (b:=Trk.total m1-(Trk.total n-q1)) (by omega) (by omega) (by omega)
 have i2:=part_in V2 (a:=p2) (b:=Trk.total m2-(Trk.total n-q2)) (by omega) (by omega) (by omega)
 have j1:=part_in Vn (a:=0) (b:=p1) (by omega) (by omega) (by omega)
 have j2:=part_in Vn (a:=q1) (b:=p2) (by omega) (by omega) (by omega)
 have j3:=part_in Vn (a:=q2) (b:=Trk.total n) (by omega) (by omega) (by omega)
 rw[← k1.x,← h1.e]at i1
 rw[← k2.x,← h2.e]at i2
 have hV:(∀ l∈pieces n p1 q1 y1 p2 q2 y2,VGL l)↔okRep n E1 p1 q1 E2 p2 q2:=by
  unfold okRep
  rw[← i1,← i2,← j1,← j2,← j3]
  simp only[pieces,List.mem_cons,List.not_mem_nil,or_false,forall_eq_or_imp,forall_eq]
  exact⟨fun⟨a,b,c,d,e⟩=>⟨b,d,a,c,e⟩,fun⟨b,d,a,c,e⟩=>⟨a,b,c,d,e⟩⟩
 rcases h with⟨hn,rfl,rfl⟩ |⟨ho,h⟩
 ·rcases k with⟨_,rfl,rfl⟩ |⟨ko,_⟩
  ·exact⟨rfl,rfl⟩
  exact absurd (hV.1 ko) hn
 rcases k with⟨kn,_⟩ |⟨_,k⟩
 ·exact absurd (hV.2 ho) kn
 have e1:x1=y1:=by rw[h1.x,k1.x];exact partR_of (by rw[← h1.e];exact ho.1)
 have e2:x2=y2:=by rw[h2.x,k2.x];exact partR_of (by rw[← h2.e];exact ho.2.1)
 subst e1 e2
 have g1:Trk.GoodL x1:=by rw[k1.x];exact partL_good V1.good (by omega) (by omega)
 have hl:=glue_last Nn N2 g1 h1.d h2.d hlt
 rw[← k2.x]at hl
 rcases h with⟨t1,rfl,rfl⟩ |⟨t1,h⟩<;>rcases k with⟨t2,rfl,rfl⟩ |⟨t2,k⟩
 ·exact⟨rfl,rfl⟩
 ·omega
 ·omega
 have hf:flatK (pieces n p1 q1 x1 p2 q2 x2) (pieces n p1 q1 x1 p2 q2 x2).length=(pieces n p1 q1 x1 p2 q2 x2).flatten:=by
  unfold flatK
  rw[List.take_length]
 rcases h with⟨rfl,rfl,i,hi,hi2⟩ |⟨rfl,rfl,hi⟩<;>rcases k with⟨hk,rfl,rfl⟩ |⟨hk,rfl,rfl⟩
 ·exact⟨rfl,rfl⟩
 ·have:(pieces n p1 q1 x1 p2 q2 x2).flatten=flatK (pieces n p1 q1 x1 p2 q2 x2) i++((pieces n p1 q1 x1 p2 q2 x2).drop i).flatten:=by
   unfold flatK
   rw[← List.flatten_append,List.take_append_drop]
  have h3:=Trk.pk_len_append (flatK (pieces n p1 q1 x1 p2 q2 x2) i) ((pieces n p1 q1 x1 p2 q2 x2).drop i).flatten
  rw[← this,← hl]at h3
  omega
 ·have h3:=hi _ (Nat.le_refl _)
  rw[hf,← hl]at h3
  omega
 exact⟨rfl,rfl⟩
theorem DG.rd {n m x y:List Trk.Clip} {p q e p' q':Int} (h:DG n m p q x e) (k:RD n m p' q' y):p'=p∧q'=q:=by
 obtain⟨e1,e2⟩:=k.d.uniq h.d
 exact⟨e1,e2⟩
theorem RLong.agree {n a b x y:List Trk.Clip} {c d:Int} (Vn:TV n) (Va:TV a) (Vb:TV b) (Nn:Trk.Norm n) (Na:Trk.Norm a) (Nb:Trk.Norm b) (h:LongG n a b c x) (k:RLong n a b d y):c=d∧x=y:=by
 obtain⟨p1,q1,x1,E1,p2,q2,x2,E2,ht,h⟩:=h
 obtain⟨p1',q1',y1,p2',q2',y2,kt,k⟩:=k
 rcases ht with⟨h1,h2,hc⟩ |⟨h1,h2,hc⟩<;>rcases kt with⟨k1,k2,kc⟩ |⟨k1,k2,kc⟩
 ·obtain⟨rfl,rfl⟩:=h1.rd k1
  obtain⟨rfl,rfl⟩:=h2.rd k2
  rcases h with⟨h,rfl,rfl⟩ |⟨h,hr⟩<;>rcases k with⟨k,rfl,rfl⟩ |⟨k,kr⟩
  ·exact⟨rfl,rfl⟩
  ·omega
  ·omega
  exact glue_agree Vn Va Vb Nn Nb h1 h2 k1 k2 h hr kr
 ·obtain⟨rfl,rfl⟩:=h1.rd k2
  obtain⟨rfl,rfl⟩:=h2.rd k1
  exact absurd kc hc
 ·obtain⟨rfl,rfl⟩:=h1.rd k2
  obtain⟨rfl,rfl⟩:=h2.rd k1
  exact absurd hc kc
 obtain⟨rfl,rfl⟩:=h1.rd k1
 obtain⟨rfl,rfl⟩:=h2.rd k2
 rcases h with⟨h,rfl,rfl⟩ |⟨h,hr⟩<;>rcases k with⟨k,rfl,rfl⟩ |⟨k,kr⟩
 ·exact⟨rfl,rfl⟩
 ·omega
 ·omega
 exact glue_agree Vn Vb Va Nn Na h1 h2 k1 k2 h hr kr
theorem RMergeA.agree {n a b x y:List Trk.Clip} {c d:Int} (h:MergeAG n a b c x) (k:RMergeA n a b d y):c=d∧x=y:=by
 rcases h with⟨h,rfl,rfl⟩ |⟨h,hr⟩<;>rcases k with⟨k,rfl,rfl⟩ |⟨k,kr⟩
 ·exact⟨rfl,rfl⟩
 ·exact absurd k h
 ·exact absurd h k
 obtain⟨Vn,Va,Vb⟩:=h
 rcases hr with⟨h1,rfl,rfl⟩ |⟨h1,hl⟩<;>rcases kr with⟨k1,rfl,rfl⟩ |⟨k1,kl⟩
 ·exact⟨rfl,rfl⟩
 ·exact absurd h1 k1
 ·exact absurd k1 h1
 exact RLong.agree Vn.nf Va.nf Vb.nf (Trk.nf_norm Vn.good) (Trk.nf_norm Va.good) (Trk.nf_norm Vb.good) hl kl
def RMergeAP (w:World) (n a b:List Trk.Clip) (e:Ending) (w':World):Prop:=
 ∃ v' code x,e=.returned (.tuple #[v',.int .i64 code])∧OG w' w.heap.size 0 v' x∧Below w.heap.size w w'∧RMergeA n a b code x
structure RX (T p q:Int) (x:List Trk.Clip):Prop where
 p0:0≤p
 pq:p≤q
 q1:q≤T
 c:RCL x
 n:x.length≤64
 t:Trk.total x≤2147483647
theorem RD.rx {n m x:List Trk.Clip} {p q:Int} (h:RD n m p q x) (hm:TV m):RX (Trk.total n) p q x:=by
 have hl:=h.d.le
 have ht:=hm.t
 refine⟨hl.1,hl.2.1,hl.2.2.1,?_,?_,?_⟩
 ·rw[h.x]
  exact partL_rcl hm (by omega) (by omega) (by omega)
 ·rw[h.x]
  exact Nat.le_trans (partL_len hm.good (by omega) (by omega) (by omega)) hm.n
 rw[h.x,partL_total hm.good (by omega) (by omega)]
 omega
theorem part_rx {n:List Trk.Clip} (h:TV n) {f t:Int} (f0:0≤f) (ft:f≤t) (t1:t≤Trk.total n):RCL (partL n f t)∧(partL n f t).length≤64:=
 ⟨partL_rcl h f0 ft t1,Nat.le_trans (partL_len h.good f0 ft t1) h.n⟩
open Classical in
theorem rmerge_long (D1 D2 D3:Nat) (vn va vb:Value) (n a b:List Trk.Clip) (w:World) (hn:TG w D1 vn n) (ha:TG w D2 va a) (hb:TG w D3 vb b) (Vn:TV n) (Va:TV a) (Vb:TV b) (hs:¬shortC n a b) :
  Calls Tryz.prog 18 #[vn,va,vb] w (RMergeAP w n a b):=by
 have HN:=Hd hn
 have HA:=Hd ha
 have HBB:=Hd hb
 have HV:=Hd (And.intro Vn (And.intro Va Vb))
 have V1:=Hd (fun(w:World) (h:TG w D1 vn n)=>rtrack_yes D1 vn n w h Vn)
 have V2:=Hd (fun(w:World) (h:TG w D2 va a)=>rtrack_yes D2 va a w h Va)
 have V3:=Hd (fun(w:World) (h:TG w D3 vb b)=>rtrack_yes D3 vb b w h Vb)
 have S1:=Hd (fun(w:World) (h:TG w D3 vb b) (h':TG w D1 vn n)=>rsame_any D3 D1 vb vn b n w h h' Vb Vn)
 have S2:=Hd (fun(w:World) (h:TG w D2 va a) (h':TG w D3 vb b)=>rsame_any D2 D3 va vb a b w h h' Va Vb)
 have S3:=Hd (fun(w:World) (h:TG w D2 va a) (h':TG w D1 vn n)=>rsame_any D2 D1 va vn a n w h h' Va Vn)
 have HS:=Hd hs
 rw[decide_eq_false (fun h=>hs (.inl h))]at S1
 rw[decide_eq_false (fun h=>hs (.inr (.inl h.symm)))]at S2
 rw[decide_eq_false (fun h=>hs (.inr (.inr h)))]at S3
 have NN:=Hd (fun(w:World) (h:TG w D1 vn n)=>rnormal_any D1 vn n w h Vn)
 have I1:=Hd (fun(w:World) (h:TG w D1 vn n) (h':TG w D2 va a)=>rinterval_any D1 D2 vn va n a w h h' Vn Va)
 have I2:=Hd (fun(w:World) (h:TG w D1 vn n) (h':TG w D3 vb b)=>rinterval_any D1 D3 vn vb n b w h h' Vn Vb)
 have W:=Vn.nf
 have Wa:=Va.nf
 have Wb:=Vb.nf
 have HRM:=Hd (fun(code:Int) (x:List Trk.Clip) (h:RLong (Trk.nf n) (Trk.nf a) (Trk.nf b) code x)=>(show RMergeA n a b code x from .inr ⟨HV.out,.inr ⟨HS.out,h⟩⟩))
 unfold OGPost at NN
 obtain⟨A,hA⟩:=Xq (Trk.nf n)
 obtain⟨Ma,hMa⟩:=Xq (Trk.nf a)
 obtain⟨Mb,hMb⟩:=Xq (Trk.nf b)
 rw[← hA]at NN I1 I2 W HRM
 rw[← hMa]at I1 Wa HRM
 rw[← hMb]at I2 Wb HRM
 have RXA:=Hd (fun(p q:Int) (x:List Trk.Clip) (h:RD A Ma p q x)=>h.rx Wa)
 have RXB:=Hd (fun(p q:Int) (x:List Trk.Clip) (h:RD A Mb p q x)=>h.rx Wb)
 have LN:=Hd (fun(u:Value) (w:World) (h:TG w 0 u A)=>rlength_any 0 u A w h W)
 have PT:=Hd (fun(u:Value) (f t:Int) (w:World) (h:TG w 0 u A) (f0:0≤f) (ft:f≤t) (t1:t≤Trk.total A)=>rpart_any 0 u A f t w h W f0 ft t1)
 have PR:=Hd (fun(f t:Int) (f0:0≤f) (ft:f≤t) (t1:t≤Trk.total A)=>part_rx W f0 ft t1)
 have PTT:=Hd (fun(f t:Int) (f0:0≤f) (ft:f≤t)=>partL_total W.good f0 ft)
 unfold OGPost at PT
 have tn:=W.t
 have tn0:=Trk.total_nonneg W.good
 obtain⟨T,hT⟩:=Xq (Trk.total A)
 rw[← hT]at tn tn0 LN PT PR RXA RXB
 have HTA:=Hd hT
 obtain⟨xn,cn,rfl⟩:=hn.form
 obtain⟨xa,ca,rfl⟩:=ha.form
 obtain⟨xb,cb,rfl⟩:=hb.form
 obtain⟨nn,hnn⟩:=Xq (n.length)
 obtain⟨na,hna⟩:=Xq (a.length)
 obtain⟨nb,hnb⟩:=Xq (b.length)
 rw[← hnn]at HN V1 S1 S3 NN I1 I2 ⊢
 rw[← hna]at HA V2 S2 S3 I1 ⊢
 rw[← hnb]at HBB V3 S1 S2 I2 ⊢
 clear hn ha hb Vn Va Vb W Wa Wb hnn hna hnb hs hA hMa hMb hT HV HS
 go_enter Tryz.func18,Tryz.ntmps18
 go_wp2_with fail
 refine(V1.out w HN.out).mono ?_
 rintro e w1 ⟨rfl,hb⟩
 have HB:=Hd hb
 clear hb
 go_wp2_with fail
 refine(V2.out _ (HA.out.below HB.out)).mono ?_
 rintro e w1' ⟨rfl,hb⟩
 replace HB:=Tb HB hb
 clear hb
 go_wp2_with fail
 refine(V3.out _ (HBB.out.below HB.out)).mono ?_
 rintro e w1' ⟨rfl,hb⟩
 replace HB:=Tb HB hb
 clear hb
 go_wp2_with fail
 refine(S1.out _ (HBB.out.below HB.out) (HN.out.below HB.out)).mono ?_
 rintro e w1' ⟨rfl,hb⟩
 replace HB:=Tb HB hb
 clear hb
 go_wp2_with fail
 refine(S2.out _ (HA.out.below HB.out) (HBB.out.below HB.out)).mono ?_
 rintro e w1' ⟨rfl,hb⟩
 replace HB:=Tb HB hb
 clear hb
 go_wp2_with fail
 refine(S3.out _ (HA.out.below HB.out) (HN.out.below HB.out)).mono ?_
 rintro e w1' ⟨rfl,hb⟩
 replace HB:=Tb HB hb
 clear hb
 go_wp2_with fail
 refine(I1.out _ (HN.out.below HB.out) (HA.out.below HB.out)).mono ?_
 rintro e w1' ⟨p1,q1,xv1,rfl,hd,ho,hb⟩
 obtain⟨x1,hx⟩:=Xq (partL Ma p1 (Trk.total Ma-(Trk.total A-q1)))
 rw[← hx]at ho
 have R1:=Hd (show RD A Ma p1 q1 x1 from⟨hd,hx⟩)
 have X1:=Hd ho.tg
 obtain⟨xo1,xc1,hxv⟩:=ho.tg.form
 obtain⟨xl1,hxl⟩:=Xq (x1.length)
 rw[← hxl]at hxv
 subst hxv
 replace HB:=Tb HB hb
 clear hb ho hd hx hxl
 go_wp2_with fail
 refine(I2.out _ (HN.out.below HB.out) (HBB.out.below HB.out)).mono ?_
 rintro e w2' ⟨p2,q2,xv2,rfl,hd,ho,hb⟩
 obtain⟨x2,hx⟩:=Xq (partL Mb p2 (Trk.total Mb-(Trk.total A-q2)))
 rw[← hx]at ho
 have R2:=Hd (show RD A Mb p2 q2 x2 from⟨hd,hx⟩)
 have X2:=Hd ho.tg
 obtain⟨xo2,xc2,hxv⟩:=ho.tg.form
 obtain⟨xl2,hxl⟩:=Xq (x2.length)
 rw[← hxl]at hxv
 subst hxv
 replace X1:=Hd (X1.out.below hb)
 replace HB:=Tb HB hb
 clear hb ho hd hx hxl
 clear V1 V2 V3 S1 S2 S3 I1 I2 HA HBB
 go_upto_if 64 with fail
 go_cut [8,9,10,11,12,13,64] from 65 (fun v8 v9 v10 v11 v12 v13 v64 wx=>∃ p1 q1 x1 p2 q2 x2 xo1 xl1 xc1 xo2 xl2 xc2,v8=.int .i64 p1∧v9=.int .i64 q1∧v10=.slice xo1 xl1 xc1∧v11=.int .i64 p2∧v12=.int .i64 q2∧v13=.slice xo2 xl2 xc2∧RTwo A Ma Mb p1 q1 x1 p2 q2 x2∧RX T p1 q1 x1∧RX T p2 q2 x2∧TG wx 0 (.slice xo1 xl1 xc1) x1∧TG wx 0 (.slice xo2 xl2 xc2) x2∧Below w.heap.size w wx)
 case first=>
  by_cases hsw:q2<p1
  ·have hz:decide (q2<p1)=true:=decide_eq_true hsw
   go_wp2_with fail
   all_goals go_meet
   case rel=>exact⟨_,_,_,_,_,_,_,_,_,_,_,_,rfl,rfl,rfl,rfl,rfl,rfl,.inr ⟨R2.out,R1.out,hsw⟩,RXB.out _ _ _ R2.out,RXA.out _ _ _ R1.out,X2.out,X1.out,HB.out⟩
  have hz:decide (q2<p1)=false:=decide_eq_false hsw
  go_wp2_with fail
  all_goals go_meet
  case rel=>exact⟨_,_,_,_,_,_,_,_,_,_,_,_,rfl,rfl,rfl,rfl,rfl,rfl,.inl ⟨R1.out,R2.out,by omega⟩,RXA.out _ _ _ R1.out,RXB.out _ _ _ R2.out,X1.out,X2.out,HB.out⟩
 case rest =>
  clear R1 R2 X1 X2 RXA RXB
  obtain⟨p1,q1,x1,p2,q2,x2,xo1,xl1,xc1,xo2,xl2,xc2,rfl,rfl,rfl,rfl,rfl,rfl,htw,rx1,rx2,t1,t2,hb⟩:=hcut
  obtain⟨i0,i1,i2,rc1,n1,tt1⟩:=rx1
  obtain⟨j0,j1,j2,rc2,n2,tt2⟩:=rx2
  have HTW:=Hd htw
  have X1:=Hd t1
  have X2:=Hd t2
  have HB:=Hd hb
  have RC1:=Hd (And.intro rc1 n1)
  have RC2:=Hd (And.intro rc2 n2)
  have g1:=Trk.total_nonneg rc1.good
  have g2:=Trk.total_nonneg rc2.good
  have TT:=Hd (And.intro (And.intro g1 tt1) (And.intro g2 tt2))
  clear htw t1 t2 hb rc1 rc2 n1 n2 g1 g2 tt1 tt2
  by_cases hcf:p2≤q1
  ·go_wp2_with fail
   go_ret2
   exact⟨_,_,_,rfl,OG.nil _ _ _,HB.out,HRM.out _ _ ⟨_,_,_,_,_,_,HTW.out,.inl ⟨hcf,rfl,rfl⟩⟩⟩
  go_wp2_with fail
  refine(NN.out _ (HN.out.below HB.out)).mono ?_
  rintro e w3' ⟨v14,rfl,ho,hb⟩
  have H7:=Hd ho.tg
  replace X1:=Hd (X1.out.below hb)
  replace X2:=Hd (X2.out.below hb)
  replace HB:=Tb HB hb
  clear hb ho NN HN
  go_wp2_with fail
  refine(PT.out _ 0 p1 _ H7.out (Int.le_refl _) i0 (by omega)).mono ?_
  rintro e w4' ⟨v4,rfl,ho,hb⟩
  obtain⟨a4,c4,hf⟩:=ho.tg.form
  obtain⟨n4,hn4⟩:=Xq ((partL A 0 p1).length)
  rw[← hn4]at hf
  subst hf
  have H4:=Hd ho.tg
  replace X1:=Hd (X1.out.below hb)
  replace X2:=Hd (X2.out.below hb)
  replace H7:=Hd (H7.out.below hb)
  replace HB:=Tb HB hb
  clear hb ho hn4
  go_wp2_with fail
  refine(PT.out _ q1 p2 _ H7.out (by omega) (by omega) (by omega)).mono ?_
  rintro e w5' ⟨v5,rfl,ho,hb⟩
  obtain⟨a5,c5,hf⟩:=ho.tg.form
  obtain⟨n5,hn5⟩:=Xq ((partL A q1 p2).length)
  rw[← hn5]at hf
  subst hf
  have H5:=Hd ho.tg
  replace X1:=Hd (X1.out.below hb)
  replace X2:=Hd (X2.out.below hb)
  replace H7:=Hd (H7.out.below hb)
  replace H4:=Hd (H4.out.below hb)
  replace HB:=Tb HB hb
  clear hb ho hn5
  go_wp2_with fail
  refine(LN.out _ _ H7.out).mono ?_
  rintro e w6' ⟨rfl,hb⟩
  replace X1:=Hd (X1.out.below hb)
  replace X2:=Hd (X2.out.below hb)
  replace H7:=Hd (H7.out.below hb)
  replace H4:=Hd (H4.out.below hb)
  replace H5:=Hd (H5.out.below hb)
  replace HB:=Tb HB hb
  clear hb
  go_wp2_with fail
  refine(PT.out _ q2 T _ H7.out (by omega) (by omega) (Int.le_refl _)).mono ?_
  rintro e w7' ⟨v6,rfl,ho,hb⟩
  obtain⟨a6,c6,hf⟩:=ho.tg.form
  obtain⟨n6,hn6⟩:=Xq ((partL A q2 T).length)
  rw[← hn6]at hf
  subst hf
  have H6:=Hd ho.tg
  replace X1:=Hd (X1.out.below hb)
  replace X2:=Hd (X2.out.below hb)
  replace H4:=Hd (H4.out.below hb)
  replace H5:=Hd (H5.out.below hb)
  replace HB:=Tb HB hb
  clear hb ho hn6
  dsimp only
  apply_assumption
  refine Great.wpList_buildSliceTo rfl 68 23 5 #[(0,.tmp 78),(1,.tmp 79),(2,.tmp 83),(3,.tmp 84),(4,.tmp 89)] rfl w7'.heap.size rfl (some 90) rfl Tryz.underlying68 #[.slice a4 n4 c4,.slice xo1 xl1 xc1,.slice a5 n5 c5,.slice xo2 xl2 xc2,.slice a6 n6 c6] ?_ ?_
  ·simp only[List.map_toArray,List.map_cons,List.map_nil,List.toList_toArray]
   kernel_rfl
  obtain⟨w8,hw8⟩:=Xq (w7'.alloc (.cells #[.slice a4 n4 c4,.slice xo1 xl1 xc1,.slice a5 n5 c5,.slice xo2 xl2 xc2,.slice a6 n6 c6] 23))
  obtain⟨gs,hgs⟩:=Xq (w7'.heap.size)
  have hb:Below w7'.heap.size w7' w8:=by rw[hw8];exact below_box _ _
  have f0:w8.cell? ⟨gs,0,none⟩=some (.slice a4 n4 c4):=by rw[hw8,hgs];simp[go_sem]
  have f1:w8.cell? ⟨gs,1,none⟩=some (.slice xo1 xl1 xc1):=by rw[hw8,hgs];simp[go_sem]
  have f2:w8.cell? ⟨gs,2,none⟩=some (.slice a5 n5 c5):=by rw[hw8,hgs];simp[go_sem]
  have f3:w8.cell? ⟨gs,3,none⟩=some (.slice xo2 xl2 xc2):=by rw[hw8,hgs];simp[go_sem]
  have f4:w8.cell? ⟨gs,4,none⟩=some (.slice a6 n6 c6):=by rw[hw8,hgs];simp[go_sem]
  rw[← hw8,← hgs]
  clear hw8 hgs
  replace X1:=Hd (X1.out.below hb)
  replace X2:=Hd (X2.out.below hb)
  replace H4:=Hd (H4.out.below hb)
  replace H5:=Hd (H5.out.below hb)
  replace H6:=Hd (H6.out.below hb)
  replace HB:=Tb HB hb
  clear hb
  have HRG:=Hd (fun(code:Int) (x:List Trk.Clip) (h:RGlue (pieces A p1 q1 x1 p2 q2 x2) code x)=>HRM.out code x ⟨_,_,_,_,_,_,HTW.out,.inr ⟨by omega,h⟩⟩)
  have HP:=Hd (show pieces A p1 q1 x1 p2 q2 x2=[partL A 0 p1,x1,partL A q1 p2,x2,partL A q2 T] by rw[HTA.out];rfl)
  have HTF:=Hd (show Trk.total (pieces A p1 q1 x1 p2 q2 x2).flatten=p1+Trk.total x1+(p2-q1)+Trk.total x2+(T-q2) by
   rw[HP.out]
   simp only[List.flatten_cons,List.flatten_nil,List.append_nil,Trk.total_append]
   rw[PTT.out 0 p1 (Int.le_refl _) i0,PTT.out q1 p2 (by omega) (by omega),PTT.out q2 T (by omega) (by omega)]
   omega)
  obtain⟨PP,hPP⟩:=Xq (pieces A p1 q1 x1 p2 q2 x2)
  rw[← hPP]at HRG HP HTF
  clear hPP
  have HC:=Hd (show ∀ i x,PP[i]?=some x→∃ a m c,w8.cell? ⟨gs,i,none⟩=some (.slice a m c)∧TG w8 0 (.slice a m c) x∧RCL x∧x.length≤64 from fun i x hi=>by
   rw[HP.out]at hi
   have hlt:=(List.getElem?_eq_some_iff.1 hi).1
   rcases(show i=0∨i=1∨i=2∨i=3∨i=4 by simp at hlt;omega) with rfl |rfl |rfl |rfl |rfl
   all_goals
    simp only[List.getElem?_cons_zero,List.getElem?_cons_succ,Option.some.injEq]at hi
    subst hi
   ·exact⟨_,_,_,f0,H4.out,PR.out 0 p1 (Int.le_refl _) i0 (by omega)⟩
   ·exact⟨_,_,_,f1,X1.out,RC1.out⟩
   ·exact⟨_,_,_,f2,H5.out,PR.out q1 p2 (by omega) (by omega) (by omega)⟩
   ·exact⟨_,_,_,f3,X2.out,RC2.out⟩
   exact⟨_,_,_,f4,H6.out,PR.out q2 T (by omega) (by omega) (Int.le_refl _)⟩)
  have HPL:=Hd (show PP.length=5 by rw[HP.out];rfl)
  have hF1:Trk.total PP.flatten≤6442450941:=by
   rw[HTF.out]
   have:=TT.out
   omega
  have HF1:=Hd hF1
  clear hF1 f0 f1 f2 f3 f4 H4 H5 H6 H7 X1 X2 RC1 RC2 TT PR PT LN HRM HP HTF HTW PTT HTA
  clear i0 i1 i2 j0 j1 j2 hcf tn tn0
  go_upto_region 16 with fail
  go_loopw [15,92] (fun v15 v92 wl=>∃ k:Nat,k≤5∧v92=.int .i64 (k:Int)∧OG wl w8.heap.size 0 v15 (flatK PP k)∧(∀ l∈PP.take k,VGL l)∧(flatK PP k).length≤64*k∧Below w8.heap.size w8 wl) (fun _ i _=>5-(intOf i).toNat)
  case atStart=>exact⟨0,Nat.zero_le _,rfl,OG.nil _ _ _,fun l hl=>by simp at hl,Nat.le_refl _,Below.refl _ _⟩
  case round =>
   obtain⟨k,hk,rfl,ho,hv,hl,hb⟩:=hrel
   have HO:=Hd ho
   have HVG:=Hd hv
   have HBK:=Hd hb
   clear ho hv hb
   by_cases hlt:k<5
   ·have hlt':(k:Int)<5:=by omega
    obtain⟨x,hx⟩:∃ x,PP[k]?=some x:=⟨_,List.getElem?_eq_getElem (by rw[HPL.out];exact hlt)⟩
    obtain⟨ya,ym,yc,hcell,htk,hrc,hxl⟩:=HC.out k x hx
    have cx:=(HBK.out.cell (p:=⟨gs,k,none⟩) (block_lt_of_cell hcell)).trans hcell
    have HXT:=Hd (htk.below HBK.out)
    have INS:=Hd (fun(w:World) (h:TG w 0 (.slice ya ym yc) x)=>rinside_any 0 (.slice ya ym yc) x w h hrc)
    have HXX:=Hd hx
    have hfl:=flatK_succ hx
    have HFL:=Hd hfl
    clear hcell htk hrc hx hfl
    go_wp2_with fail
    refine(INS.out _ HXT.out).mono ?_
    rintro e w9 ⟨rfl,hb⟩
    replace HXT:=Hd (HXT.out.below hb)
    replace HO:=Hd (HO.out.below hb)
    replace HBK:=Tb HBK hb
    clear hb cx
    by_cases hvx:VGL x
    ·have HVX:=Hd hvx
     rw[decide_eq_true hvx]
     clear hvx
     obtain⟨oa,om,oc,rfl⟩:∃ ao n cap,u15=.slice ao n cap:=by
      obtain⟨ao,cap,e⟩:=HO.out.tg.form
      exact⟨ao,_,cap,e⟩
     go_upto_region 20 with fail
     apply wp_region_lit
     iterate 6 go_step
     refine wpList_appG _ 23 23 Tryz.underlying23 Tryz.underlying23 rfl (.tmp 99) (.tmp 100) rfl w8.heap.size 0 (.slice oa om oc) _ (flatK PP k) x rfl rfl HO.out HBK.out.size (Nat.zero_le _) HXT.out (by omega) ?_
     intro v' w10 r1 r2 r3 r4
     simp only[Act.put,sA1,sB1,sC1]
     rw[← HFL.out]at r1
     have HR:=Hd r1
     replace HBK:=Hd (HBK.out.trans r2)
     have hlen:(flatK PP (k+1)).length≤64*(k+1):=by rw[HFL.out,List.length_append];omega
     have HLN:=Hd hlen
     clear r1 r2 r3 r4 hlen
     go_wp2_with fail
     go_roundw
     case rel=>
      refine⟨k+1,by omega,by simp,HR.out,fun l hl=>?_,HLN.out,HBK.out⟩
      rw[List.take_add_one,HXX.out]at hl
      rcases List.mem_append.1 hl with hl |hl
      ·exact HVG.out l hl
      rw[Option.toList_some,List.mem_singleton]at hl
      rw[hl]
      exact HVX.out
     case measure=>
      simp[intOf]
      omega
    have HVX:=Hd hvx
    rw[decide_eq_false hvx]
    clear hvx
    go_wp2_with fail
    go_ret2
    exact⟨_,_,_,rfl,OG.nil _ _ _,HB.out.trans (HBK.out.mono HB.out.size),HRG.out _ _ (.inl ⟨fun h=>HVX.out (h x (List.mem_of_getElem? HXX.out)),rfl,rfl⟩)⟩
   have hk5:k=5:=by omega
   subst hk5
   have htk:PP.take 5=PP:=List.take_of_length_le (by rw[HPL.out];exact Nat.le_refl _)
   have hv:∀ l∈PP,VGL l:=by
    have h:=HVG.out
    rw[htk]at h
    exact h
   have hf:flatK PP 5=PP.flatten:=by unfold flatK;rw[htk]
   have hvf:VGL PP.flatten:=fun c hc=>by
    obtain⟨l,hl,hcl⟩:=List.mem_flatten.1 hc
    exact hv l hl c hcl
   rw[hf]at HO hl
   have hF1:=HF1.out
   have HRG2:=Hd (fun(code:Int) (x:List Trk.Clip) (h:(2147483647<Trk.total PP.flatten∧code=2∧x=[])∨(Trk.total PP.flatten≤2147483647∧((64<(Trk.nf PP.flatten).length∧code=5∧x=[])∨((Trk.nf PP.flatten).length≤64∧code=0∧x=Trk.nf PP.flatten))))=>HRG.out code x (.inr ⟨hv,h⟩))
   obtain⟨F,hF⟩:=Xq (PP.flatten)
   rw[← hF]at hvf HO hl hF1 HRG2
   clear hF hv hf htk HC HVG HRG HF1
   have hgf:=hvf.good
   have HVF:=Hd hvf
   have CL:=Hd (fun(u:Value) (w:World) (h:TG w 0 u F) (ht:Trk.total F≤2147483647)=>rclean_any 0 u F w h (fun c hc=>(hvf c hc).okg) (by omega) (by omega))
   unfold OGPost at CL
   have tot:∀ j,Trk.total (F.take j)≤Trk.total F:=fun j=>total_take F hgf j
   have tot0:∀ j,0≤Trk.total (F.take j):=fun j=>Trk.total_nonneg (fun x hx=>hgf x (List.mem_of_mem_take hx))
   have TOT:=Hd (And.intro tot tot0)
   replace HB:=Hd (HB.out.trans (HBK.out.mono HB.out.size))
   have HT:=Hd HO.out.tg
   obtain⟨oa,oc,e⟩:=HO.out.tg.form
   obtain⟨om,hom⟩:=Xq (F.length)
   rw[← hom]at e hl
   subst e
   have HOM:=Hd hom
   clear hom tot tot0 hvf hgf HBK HO
   go_upto_region 24 with fail
   go_loopw [18,19] (fun v18 v19 wq=>∃ j:Nat,j≤om∧v19=.int .i64 (j:Int)∧v18=.int .i64 (Trk.total (F.take j))∧TG wq 0 (.slice oa om oc) F∧Below w.heap.size w wq) (fun _ i _=>om-(intOf i).toNat)
   case atStart=>exact⟨0,Nat.zero_le _,rfl,rfl,HT.out,HB.out⟩
   case round=>
    clear HT HB
    obtain⟨j,hj,rfl,rfl,ht,hb⟩:=hrel
    by_cases hjt:j<om
    ·have hjt':(j:Int)<(om:Int):=by omega
     have hkl:j<F.length:=by rw[← HOM.out];exact hjt
     obtain⟨c,hc⟩:∃ c,F[j]?=some c:=⟨_,List.getElem?_eq_getElem hkl⟩
     have HT:=Hd ht
     obtain⟨ao',cap',e,_,_,hT⟩:=ht
     simp only[Value.slice.injEq]at e
     obtain⟨rfl,-,rfl⟩:=e
     obtain⟨bb,o,x,rfl,hA,hx⟩:=hT j c hc
     clear hT hx
     have hn:Trk.total (F.take (j+1))=Trk.total (F.take j)+c.len:=by
      rw[List.take_add_one,hc]
      show Trk.total (F.take j++[c])=_
      rw[Trk.total_append]
      show _+(c.len+0)=_
      omega
     have h1:=TOT.out.1 (j+1)
     have h2:=TOT.out.2 j
     have h3:=(HVF.out c (List.mem_of_getElem? hc)).l0
     obtain⟨s,hs⟩:=Xq (Trk.total (F.take j))
     rw[← hs]at hn h2 ⊢
     have h5:s+c.len≤6442450941:=by omega
     have HN:=Hd hn
     have HA:=Hd hA
     have HB:=Hd hb
     have x0:=HA.out.k0
     clear hA hb hc hkl hn h1 hs hF1
     go_wp2_with fail
     go_roundw
     case rel=>exact⟨j+1,by omega,by simp,by rw[HN.out],HT.out,HB.out⟩
     case measure=>
      show om-(intOf (.int .i64 ((j:Int)+1))).toNat<om-(intOf (.int .i64 (j:Int))).toNat
      simp[intOf]
      omega
    have hkl:j=om:=by omega
    have e:F.take j=F:=List.take_of_length_le (by rw[← HOM.out];omega)
    rw[e]
    have HT:=Hd ht
    have HB:=Hd hb
    clear hb ht e TOT
    subst hkl
    obtain⟨S,hS⟩:=Xq (Trk.total F)
    rw[← hS]at CL HRG2 hF1 ⊢
    clear hS
    by_cases hlong:2147483647<S
    ·have HLG:=Hd hlong
     go_wp2_with fail
     go_ret2
     exact⟨_,_,_,rfl,OG.nil _ _ _,HB.out,HRG2.out _ _ (.inl ⟨HLG.out,rfl,rfl⟩)⟩
    have HLG:=Hd (show S≤2147483647 by omega)
    go_wp2_with fail
    refine(CL.out _ _ HT.out HLG.out).mono ?_
    rintro e w11 ⟨v11,rfl,ho,hb⟩
    obtain⟨xa',xc',hf⟩:=ho.tg.form
    have HO:=Hd (ho.lower HB.out.size)
    replace HB:=Tb HB hb
    obtain⟨xl,hxl⟩:=Xq ((Trk.nf F).length)
    rw[← hxl]at hf HRG2
    subst hf
    clear ho hb hxl CL HT
    by_cases h64:64<xl
    ·have h64':(64:Int)<(xl:Int):=by omega
     go_wp2_with fail
     go_ret2
     exact⟨_,_,_,rfl,OG.nil _ _ _,HB.out,HRG2.out _ _ (.inr ⟨HLG.out,.inl ⟨h64,rfl,rfl⟩⟩)⟩
    have h64':¬(64:Int)<(xl:Int):=by omega
    go_wp2_with fail
    go_ret2
    exact⟨_,_,_,rfl,HO.out,HB.out,HRG2.out _ _ (.inr ⟨HLG.out,.inr ⟨by omega,rfl,rfl⟩⟩)⟩
theorem rmerge_head (D1 D2 D3:Nat) (vn va vb:Value) (n a b:List Trk.Clip) (w:World) (hn:TG w D1 vn n) (ha:TG w D2 va a) (hb:TG w D3 vb b) (In:∀ c∈n,InC c) (Ia:∀ c∈a,InC c) (Ib:∀ c∈b,InC c) (hs:¬((TV n∧TV a∧TV b)∧¬shortC n a b)) :
  Calls Tryz.prog 18 #[vn,va,vb] w (RMergeAP w n a b):=by
 have HN:=Hd hn
 have HA:=Hd ha
 have HBB:=Hd hb
 have V1:=Hd (fun(w:World) (h:TG w D1 vn n)=>rtrackg_any D1 vn n w h In)
 have V2:=Hd (fun(w:World) (h:TG w D2 va a)=>rtrackg_any D2 va a w h Ia)
 have V3:=Hd (fun(w:World) (h:TG w D3 vb b)=>rtrackg_any D3 vb b w h Ib)
 have S1:=Hd (fun(Vb:TV b) (Vn:TV n) (w:World) (h:TG w D3 vb b) (h':TG w D1 vn n)=>rsame_any D3 D1 vb vn b n w h h' Vb Vn)
 have S2:=Hd (fun(Va:TV a) (Vb:TV b) (w:World) (h:TG w D2 va a) (h':TG w D3 vb b)=>rsame_any D2 D3 va vb a b w h h' Va Vb)
 have S3:=Hd (fun(Va:TV a) (Vn:TV n) (w:World) (h:TG w D2 va a) (h':TG w D1 vn n)=>rsame_any D2 D1 va vn a n w h h' Va Vn)
 have NA:=Hd (fun(Va:TV a) (w:World) (h:TG w D2 va a)=>rnormal_any D2 va a w h Va)
 have NB:=Hd (fun(Vb:TV b) (w:World) (h:TG w D3 vb b)=>rnormal_any D3 vb b w h Vb)
 unfold OGPost at NA NB
 have HS:=Hd hs
 obtain⟨xn,cn,rfl⟩:=hn.form
 obtain⟨xa,ca,rfl⟩:=ha.form
 obtain⟨xb,cb,rfl⟩:=hb.form
 obtain⟨nn,hnn⟩:=Xq (n.length)
 obtain⟨na,hna⟩:=Xq (a.length)
 obtain⟨nb,hnb⟩:=Xq (b.length)
 rw[← hnn]at HN V1 S1 S3 ⊢
 rw[← hna]at HA V2 S2 S3 NA ⊢
 rw[← hnb]at HBB V3 S1 S2 NB ⊢
 clear hn ha hb In Ia Ib hnn hna hnb hs
 go_enter Tryz.func18,Tryz.ntmps18
 go_wp2_with fail
 refine(V1.out w HN.out).mono ?_
 rintro e w1 ⟨rfl,hb⟩
 have HB:=Hd hb
 clear hb
 cases h1:trackB n with
 |false=>
  have T:=Hd (show ¬(TV n∧TV a∧TV b) from fun h=>by rw[trackB_iff.2 h.1]at h1;cases h1)
  clear h1
  go_wp2_with fail
  go_ret2
  exact⟨_,_,_,rfl,OG.nil _ _ _,HB.out,.inl ⟨T.out,rfl,rfl⟩⟩
 | true =>
  have T1:=Hd (trackB_iff.1 h1)
  clear h1
  go_wp2_with fail
  refine(V2.out w1 (HA.out.below HB.out)).mono ?_
  rintro e w2 ⟨rfl,hb⟩
  replace HB:=Tb HB hb
  clear hb
  cases h2:trackB a with
  |false=>
   have T:=Hd (show ¬(TV n∧TV a∧TV b) from fun h=>by rw[trackB_iff.2 h.2.1]at h2;cases h2)
   clear h2
   go_wp2_with fail
   go_ret2
   exact⟨_,_,_,rfl,OG.nil _ _ _,HB.out,.inl ⟨T.out,rfl,rfl⟩⟩
  | true =>
   have T2:=Hd (trackB_iff.1 h2)
   clear h2
   go_wp2_with fail
   refine(V3.out w2 (HBB.out.below HB.out)).mono ?_
   rintro e w3 ⟨rfl,hb⟩
   replace HB:=Tb HB hb
   clear hb
   cases h3:trackB b with
   |false=>
    have T:=Hd (show ¬(TV n∧TV a∧TV b) from fun h=>by rw[trackB_iff.2 h.2.2]at h3;cases h3)
    clear h3
    go_wp2_with fail
    go_ret2
    exact⟨_,_,_,rfl,OG.nil _ _ _,HB.out,.inl ⟨T.out,rfl,rfl⟩⟩
   | true =>
    have T3:=Hd (trackB_iff.1 h3)
    clear h3 V1 V2 V3
    go_wp2_with fail
    refine(S1.out T3.out T1.out _ (HBB.out.below HB.out) (HN.out.below HB.out)).mono ?_
    rintro e w4 ⟨rfl,hb⟩
    replace HB:=Tb HB hb
    clear hb
    by_cases c1:Trk.nf b=Trk.nf n
    ·have HC:=Hd c1
     rw[decide_eq_true c1]
     clear c1
     go_wp2_with fail
     refine(NA.out T2.out _ (HA.out.below HB.out)).mono ?_
     rintro e w5 ⟨v5,rfl,ho,hb⟩
     have HO:=Hd (ho.lower HB.out.size)
     replace HB:=Tb HB hb
     clear hb ho
     go_wp2_with fail
     go_ret2
     exact⟨_,_,_,rfl,HO.out,HB.out,.inr ⟨⟨T1.out,T2.out,T3.out⟩,.inl ⟨.inl HC.out,rfl,by unfold shortL;rw[if_pos (.inl HC.out)]⟩⟩⟩
    have HC1:=Hd c1
    rw[decide_eq_false c1]
    clear c1
    go_wp2_with fail
    refine(S2.out T2.out T3.out _ (HA.out.below HB.out) (HBB.out.below HB.out)).mono ?_
    rintro e w5 ⟨rfl,hb⟩
    replace HB:=Tb HB hb
    clear hb
    by_cases c2:Trk.nf a=Trk.nf b
    ·have HC:=Hd c2.symm
     rw[decide_eq_true c2]
     clear c2
     go_wp2_with fail
     refine(NA.out T2.out _ (HA.out.below HB.out)).mono ?_
     rintro e w6 ⟨v5,rfl,ho,hb⟩
     have HO:=Hd (ho.lower HB.out.size)
     replace HB:=Tb HB hb
     clear hb ho
     go_wp2_with fail
     go_ret2
     exact⟨_,_,_,rfl,HO.out,HB.out,.inr ⟨⟨T1.out,T2.out,T3.out⟩,.inl ⟨.inr (.inl HC.out),rfl,by unfold shortL;rw[if_pos (.inr HC.out)]⟩⟩⟩
    have HC2:=Hd c2
    rw[decide_eq_false c2]
    clear c2
    go_wp2_with fail
    refine(S3.out T2.out T1.out _ (HA.out.below HB.out) (HN.out.below HB.out)).mono ?_
    rintro e w6 ⟨rfl,hb⟩
    replace HB:=Tb HB hb
    clear hb
    by_cases c3:Trk.nf a=Trk.nf n
    ·have HC:=Hd c3
     rw[decide_eq_true c3]
     clear c3
     go_wp2_with fail
     refine(NB.out T3.out _ (HBB.out.below HB.out)).mono ?_
     rintro e w7 ⟨v5,rfl,ho,hb⟩
     have HO:=Hd (ho.lower HB.out.size)
     replace HB:=Tb HB hb
     clear hb ho
     go_wp2_with fail
     go_ret2
     exact⟨_,_,_,rfl,HO.out,HB.out,.inr ⟨⟨T1.out,T2.out,T3.out⟩,.inl ⟨.inr (.inr HC.out),rfl,by unfold shortL;rw[if_neg (fun h=>h.elim HC1.out (fun h=>HC2.out h.symm))]⟩⟩⟩
    exact absurd ⟨⟨T1.out,T2.out,T3.out⟩,fun h=>h.elim HC1.out (fun h=>h.elim (fun h=>HC2.out h.symm) c3)⟩ HS.out
open Classical in
theorem rmerge_all (D1 D2 D3:Nat) (vn va vb:Value) (n a b:List Trk.Clip) (w:World) (hn:TG w D1 vn n) (ha:TG w D2 va a) (hb:TG w D3 vb b) (In:∀ c∈n,InC c) (Ia:∀ c∈a,InC c) (Ib:∀ c∈b,InC c) :
  Calls Tryz.prog 18 #[vn,va,vb] w (RMergeAP w n a b):=by
 by_cases h:(TV n∧TV a∧TV b)∧¬shortC n a b
 ·exact rmerge_long D1 D2 D3 vn va vb n a b w hn ha hb h.1.1 h.1.2.1 h.1.2.2 h.2
 exact rmerge_head D1 D2 D3 vn va vb n a b w hn ha hb In Ia Ib h
theorem two_text {c d:UInt8} {P:Nat→Prop} {m:Nat} (hm:2≤m) (hc:P c.toNat) (hd:P d.toNat):TextP P m ⟨#[c,d]⟩:=
 ⟨show 1 ≤ 2 by decide, hm, fun i hi => by
  have hi2:i<2:=hi
  rcases(show i=0∨i=1 by omega) with rfl |rfl
  ·exact hc
  exact hd⟩
theorem one_text {c:UInt8} {P:Nat→Prop} {m:Nat} (hm:1≤m) (hc:P c.toNat):TextP P m ⟨#[c]⟩:=
 ⟨show 1 ≤ 1 by decide, hm, fun i hi => by
  have hi2:i<1:=hi
  obtain rfl:i=0:=by omega
  exact hc⟩
theorem okName_text {s:ByteArray} (h:Trk.okName s):TextP NC 32 s∧s.size≤2:=by
 rcases h with⟨c,d,rfl,h0,h1,h2,h3⟩ |⟨c,rfl,h0,h1⟩
 ·exact⟨two_text (by decide) (.inl ⟨by omega,by omega⟩) (.inr (.inl ⟨by omega,by omega⟩)),Nat.le_refl 2⟩
 exact⟨one_text (by decide) (.inl ⟨by omega,by omega⟩),show 1≤2 by decide⟩
theorem okLine_text {s:ByteArray} (h:Trk.okLine s):TextP LC 64 s:=
 ⟨h.1,h.2.1,fun i hi=>by have:=h.2.2 i hi;exact⟨by omega,by omega⟩⟩
theorem srcOK_of {L n:Int} {s:Trk.Src} (h:Trk.SrcP L n s) (hL:L≤140737488355328):SrcOK s∧InS s:=by
 obtain⟨a0,a1,s0,s1,n0,n1,v0,v1⟩:=h.nums
 obtain⟨f0,f1⟩:=h.far hL
 have hda:s.ad.toNat∣6006:=by
  have:=h.lat.a
  rw[show s.ad=((s.ad.toNat:Nat):Int) by omega]at this
  exact Int.natCast_dvd_natCast.1 this
 have hds:s.sd.toNat∣6006:=by
  have:=h.lat.s
  rw[show s.sd=((s.sd.toNat:Nat):Int) by omega]at this
  exact Int.natCast_dvd_natCast.1 this
 have hl:=lcm_le hda hds (by omega)
 have ga:=h.lat.g.a1
 have gs:=h.lat.g.s1
 have hn:=okName_text h.nm
 refine⟨⟨h.k,hn.1,?_,?_,by omega,by omega,by omega,by omega,by omega⟩,⟨by rcases h.k with e |e<;>rw[e]<;>decide,by rcases h.k with e |e<;>rw[e]<;>decide,by have:=hn.2;omega,by omega,by omega,by omega,by omega,by omega,by omega,by omega,by omega⟩⟩
 ·rw[validR_yes a0 (by omega),ga];rfl
 rw[validR_yes s0 (by omega),gs];rfl
theorem srcIn_ok {L n:Int} {s:Trk.Src} (h:Trk.SrcIn L n s) (hL:L≤140737488355328):srcB s=true∧InS s:=by
 rcases h with rfl |h
 ·exact⟨srcB_yes (.inl rfl),by constructor<;>decide⟩
 exact⟨srcB_yes (.inr (srcOK_of h hL).1),(srcOK_of h hL).2⟩
theorem chansB_nil:chansB []=true:=chansB_yes ⟨by decide,fun i c h=>by simp at h⟩
theorem vc_valid {L:Int} {c:Trk.Clip} (h:Trk.VC L c) (hL:L≤140737488355328):clipB c c.chan=true∧InC c:=by
 have ha:=srcIn_ok h.c.a hL
 have hb:=srcIn_ok h.c.b hL
 have hs:∀ k,(k=2∨k=3)→Trk.shares k=true:=by rintro k (rfl |rfl)<;>rfl
 obtain⟨l0,l1,l2⟩:=h.l
 have ht:c.text.size<9223372036854775808:=by
  rcases h.c.kd with⟨_,_,_,_,_,_,e⟩ |⟨_,_,_,_,_,e⟩ |⟨_,_,e⟩ |⟨_,_,_,e⟩ |⟨_,_,_,_,_,e⟩ |⟨_,_,_,_,_,e⟩
  iterate 5 rw[e];decide
  have:=e.2.1;omega
 refine⟨?_,ha.2,hb.2,ht⟩
 rw[h.c.ch]
 unfold clipB headB bodyB tailB
 rw[decide_eq_true l0,decide_eq_true l1,h.c.gn,chansB_nil,ha.1,hb.1]
 rcases h.c.kd with⟨h0,h1,h2,h3,h4,h5,h6⟩ |⟨h0,h2,h3,h4,h5,h6⟩ |⟨h0,h5,h6⟩ |⟨h0,h5,h5',h6⟩ |⟨h0,h3,h4,h5,h5',h6⟩ |⟨h0,h2,h3,h4,h5,h6⟩
 ·simp[h0,h1,h2,h3,h4,h5,h6]
 ·simp[h0,h2,h3,h4,h5,h6]
 ·obtain⟨o0,o1,o2,o3⟩:=l2 (hs _ (.inl h0))
  simp[h0,h5,h6,o0,o1,o2,o3]
 ·obtain⟨o0,o1,o2,o3⟩:=l2 (hs _ (.inr h0))
  simp[h0,h5,h5',h6,o0,o1,o2,o3]
 ·simp[h0,h3,h4,h5,h5',h6]
 simp[h0,h2,h3,h4,h5,lineB_yes (okLine_text h6)]
theorem trackB_vt {L:Int} {l:List Trk.Clip} (h:VT L l) (hL:L≤140737488355328):trackB l=true:=
 trackB_yes ⟨h.n,fun i c hi=>(vc_valid (h.v c (List.mem_of_getElem? hi)) hL).1,h.t⟩
theorem VT.tv {L:Int} {l:List Trk.Clip} (h:VT L l) (hL:L≤140737488355328):TV l:=trackB_iff.1 (trackB_vt h hL)
theorem VT.inc {L:Int} {l:List Trk.Clip} (h:VT L l) (hL:L≤140737488355328):∀ c∈l,InC c:=fun c hc=>(vc_valid (h.v c hc) hL).2
structure TI (w:World) (v:Value) (l:List Trk.Clip):Prop where
 t:∃ D,TG w D v l
 i:∀ c∈l,InC c
theorem TI.below {w w':World} {v:Value} {l:List Trk.Clip} (h:TI w v l) (hb:Below w.heap.size w w'):TI w' v l:=by
 obtain⟨D,hD⟩:=h.t
 exact⟨⟨D,hD.below hb⟩,h.i⟩
theorem GT.ti {w:World} {v:Value} {l:List Trk.Clip} (h:GT w v l):TI w v l:=by
 refine⟨⟨_,h.tg⟩,fun c hc=>?_⟩
 obtain⟨i,hi,e⟩:=List.getElem_of_mem hc
 obtain⟨ao,cap,_,_,_,h3⟩:=h
 obtain⟨b,o,x,_,_,_,hi⟩:=h3 i c (by rw[List.getElem?_eq_getElem hi,e])
 exact hi
theorem OT.ti {L:Int} {w:World} {B:Nat} {v:Value} {l:List Trk.Clip} (h:OT w B v l) (hV:VT L l) (hL:L≤140737488355328):TI w v l:=
 ⟨⟨0,h.tk.tg (fun c hc=>(hV.v c hc).c.ch) 0⟩,hV.inc hL⟩
theorem merge_ti (vn va vb:Value) (n a b:List Trk.Clip) (w:World) (hn:TI w vn n) (ha:TI w va a) (hb:TI w vb b):Calls Tryz.prog 17 #[vn,va,vb] w (MergeAP w n a b):=by
 obtain⟨D1,h1⟩:=hn.t
 obtain⟨D2,h2⟩:=ha.t
 obtain⟨D3,h3⟩:=hb.t
 exact merge_all D1 D2 D3 vn va vb n a b w h1 h2 h3 hn.i ha.i hb.i
theorem cut_ti (v:Value) (l:List Trk.Clip) (w:World) (h:TI w v l):Calls Tryz.prog 16 #[v] w fun e w'=>∃ v',e=.returned v'∧TI w' v' (l.take 80)∧Below w.heap.size w w':=by
 have HI:=Hd h.i
 obtain⟨D,ao,cap,rfl,h1,h2,h3⟩:=h.t
 have H3:=Hd h3
 have HT:=Hd h
 clear h h3
 obtain⟨N,hN⟩:=Xq (l.length)
 rw[← hN]at h1 ⊢
 have HN:=Hd hN
 clear hN
 have h4:=Hd h2
 by_cases hlt:80<N
 ·have hlt':(80:Int)<(N:Int):=by omega
  have hc:80≤cap:=by omega
  clear h2
  go_enter Tryz.func16,Tryz.ntmps16
  go_wp2_with fail
  go_ret
  refine⟨.slice ao 80 cap,rfl,⟨⟨D,ao,cap,by rw[List.length_take,← HN.out,Nat.min_eq_left (by omega)],by rw[List.length_take,← HN.out];omega,h4.out,fun i c hi=>?_⟩,fun c hc=>HI.out c (List.mem_of_mem_take hc)⟩,Below.refl _ _⟩
  rw[List.getElem?_take]at hi
  split at hi
  ·exact H3.out i c hi
  simp at hi
 have hlt':¬(80:Int)<(N:Int):=by omega
 clear h2
 go_enter Tryz.func16,Tryz.ntmps16
 go_wp2_with fail
 go_ret
 refine⟨.slice ao N cap,rfl,?_,Below.refl _ _⟩
 rw[List.take_of_length_le (by rw[← HN.out];omega)]
 have h:=HT.out
 rw[← HN.out]at h
 exact h
def ThreeTI (w:World) (e:Ending) (w':World):Prop:=∃ v a b l m n,e=.returned (.tuple #[v,a,b])∧TI w' v l∧TI w' a m∧TI w' b n∧Below w.heap.size w w'
theorem TI.form {w:World} {v:Value} {l:List Trk.Clip} (h:TI w v l):∃ ao n cap,v=.slice ao n cap:=by
 obtain⟨D,hD⟩:=h.t
 obtain⟨ao,cap,e⟩:=hD.form
 exact⟨ao,_,cap,e⟩
theorem nil_ti (w:World):TI w (.slice none 0 0) []:=⟨⟨0,TG.nil _ _⟩,fun c hc=>by cases hc⟩
theorem mergeA_short {n a b x:List Trk.Clip} {code:Int} (h:MergeAG n a b code x) (hv:TV n∧TV a∧TV b) (hs:shortC n a b):code=0∧x=shortL n a b:=by
 rcases h with⟨h,_⟩ |⟨_,⟨_,h⟩ |⟨h,_⟩⟩
 ·exact absurd hv h
 ·exact h
 exact absurd hs h
theorem requal_awake (C1 C2:Nat) (v u:Value) (l:List Trk.Clip) (w:World) (h:TG w C1 v l) (h':TG w C2 u l):Calls Tryz.prog 19 #[v,u] w fun e w'=>e=.returned (.bool true)∧Below w.heap.size w w':=by
 have:=requal_any C1 C2 v u l l w h h'
 rw[decide_eq_true rfl]at this
 exact this
theorem awakeg_any (w:World):Calls Tryz.prog 20 #[] w fun e w'=>e=.returned (.bool true)∧Below w.heap.size w w':=by
 go_enter Tryz.func20,Tryz.ntmps20
 go_wp2_with fail
 refine(long_any _).mono ?_
 rintro e w1 ⟨v1,rfl,ho,hb⟩
 have HO:=Hd ho
 have HB:=Hd hb
 clear ho hb
 go_wp2_with fail
 refine(merge_ti (.slice none 0 0) (.slice none 0 0) v1 [] [] [longC] w1 (nil_ti _) (nil_ti _) (HO.out.ti long_vt (by decide))).mono ?_
 rintro e w2 ⟨m1,code,x,rfl,ho,hb,hm⟩
 obtain⟨rfl,rfl⟩:=mergeA_short hm ⟨nil_vt.tv (by decide),nil_vt.tv (by decide),long_vt.tv (by decide)⟩ (.inr (.inr rfl))
 have e1:shortL [] [] [longC]=[longC]:=rfl
 rw[e1]at ho
 have HM:=Hd ho
 replace HB:=Tb HB hb
 clear ho hb e1
 go_wp2_with fail
 refine(long_any _).mono ?_
 rintro e w3 ⟨v2,rfl,ho,hb⟩
 replace HO:=Hd ho
 replace HM:=Hd (HM.out.below hb)
 replace HB:=Tb HB hb
 clear ho hb
 go_wp2_with fail
 have hgv:OT (w3.alloc (.cells (clipC (Trk.gap 1)).toArray 48)) w3.heap.size (.slice (some ⟨w3.heap.size,0,none⟩) 1 1) [Trk.gap 1]:=OT.box w3 (Trk.gap 1)
 have hbb:Below w3.heap.size w3 (w3.alloc (.cells (clipC (Trk.gap 1)).toArray 48)):=below_box _ _
 refine(merge_ti v2 (.slice (some ⟨w3.heap.size,0,none⟩) 1 1) (.slice none 0 0) [longC] [Trk.gap 1] [] _ ((HO.out.below hbb).ti long_vt (by decide)) (hgv.ti gap1_vt (by decide)) (nil_ti _)).mono ?_
 rintro e w4 ⟨m2,code,x,rfl,ho,hb,hm⟩
 obtain⟨rfl,rfl⟩:=mergeA_short hm ⟨long_vt.tv (by decide),gap1_vt.tv (by decide),nil_vt.tv (by decide)⟩ (.inr (.inl rfl))
 replace HM:=Hd ((HM.out.below hbb).below hb)
 replace HB:=Hd ((HB.out.trans (hbb.mono HB.out.size)).trans (hb.mono (Nat.le_trans HB.out.size hbb.size)))
 clear ho hb hbb hgv HO
 go_wp2_with fail
 refine(step_tick _).mono ?_
 rintro e w5 ⟨rfl,hb⟩
 replace HM:=Hd (HM.out.below hb)
 replace HB:=Tb HB hb
 clear hb
 go_upto_region 4 with fail
 obtain⟨w6,hw6⟩:=Xq (w5.alloc (.cells #[.int .i64 1,.slice none 0 0] 55))
 obtain⟨g,hg⟩:=Xq (w5.heap.size)
 rw[← hw6]
 have hb:Below w5.heap.size w5 w6:=by rw[hw6];exact below_box _ _
 have C0:=Hd (show w6.cell? ⟨g,0,none⟩=some (.int .i64 1) by rw[hw6,hg];simp[go_sem])
 have C1:=Hd (show w6.cell? ⟨g,1,none⟩=some (.slice none 0 0) by rw[hw6,hg];simp[go_sem])
 rw[← hg]
 replace HM:=Hd (HM.out.below hb)
 replace HB:=Tb HB hb
 have HG:=Hd (block_lt_of_cell C0.out)
 clear hb hw6 hg
 go_wp2_with fail
 refine(long_any _).mono ?_
 rintro e w7 ⟨v3,rfl,ho,hb⟩
 have HO:=Hd ho
 replace HM:=Hd (HM.out.below hb)
 replace HB:=Tb HB hb
 replace C0:=Hd ((hb.cell (p:=⟨g,0,none⟩) HG.out).trans C0.out)
 replace C1:=Hd ((hb.cell (p:=⟨g,1,none⟩) HG.out).trans C1.out)
 replace HG:=Hd (Nat.lt_of_lt_of_le HG.out hb.size)
 clear ho hb
 go_wp2_with fail
 refine(requal_awake _ _ m1 v3 [longC] w7 HM.out.tg (HO.out.tk.tg (fun c hc=>(long_vt.v c hc).c.ch) 0)).mono ?_
 rintro e w8 ⟨rfl,hb⟩
 replace HB:=Tb HB hb
 have c0:=(hb.cell (p:=⟨g,0,none⟩) HG.out).trans C0.out
 have c1:=(hb.cell (p:=⟨g,1,none⟩) HG.out).trans C1.out
 clear hb C0 C1 HG
 go_wp2_with fail
 go_ret
 exact⟨rfl,HB.out⟩
theorem rmerge_ti (vn va vb:Value) (n a b:List Trk.Clip) (w:World) (hn:TI w vn n) (ha:TI w va a) (hb:TI w vb b):Calls Tryz.prog 18 #[vn,va,vb] w (RMergeAP w n a b):=by
 obtain⟨D1,h1⟩:=hn.t
 obtain⟨D2,h2⟩:=ha.t
 obtain⟨D3,h3⟩:=hb.t
 exact rmerge_all D1 D2 D3 vn va vb n a b w h1 h2 h3 hn.i ha.i hb.i
theorem merges_of (v0 v1 v2 v3:Value) (l0 l1 l2:List Trk.Clip) (w:World) (h0:TI w v0 l0) (h1:TI w v1 l1) (h2:TI w v2 l2) (h3:Calls Tryz.prog 15 #[v3] w (ThreeTI w)) :
  Calls Tryz.prog 3 #[v0,v1,v2,v3] w fun e w'=>e=.returned (.bool true)∧Below w.heap.size w w':=by
 have H0:=Hd h0
 have H1:=Hd h1
 have H2:=Hd h2
 have H3:=Hd h3
 clear h0 h1 h2 h3
 go_enter Tryz.func3,Tryz.ntmps3
 go_wp2_with fail
 refine H3.out.mono ?_
 rintro e w1 ⟨x,a,b,l,m,n,rfl,hx,ha,hb',hb⟩
 obtain⟨o3,n3,k3,rfl⟩:=hx.form
 obtain⟨o4,n4,k4,rfl⟩:=ha.form
 obtain⟨o5,n5,k5,rfl⟩:=hb'.form
 have HX:=Hd hx
 have HA:=Hd ha
 have HB':=Hd hb'
 have HB:=Hd hb
 replace H0:=Hd (H0.out.below hb)
 replace H1:=Hd (H1.out.below hb)
 replace H2:=Hd (H2.out.below hb)
 clear hx ha hb' hb H3
 go_wp2_with fail
 refine(cut_ti _ _ _ H0.out).mono ?_
 rintro e w2 ⟨c0,rfl,hc,hb⟩
 obtain⟨o0,n0,k0,rfl⟩:=hc.form
 have C0:=Hd hc
 replace HX:=Hd (HX.out.below hb)
 replace HA:=Hd (HA.out.below hb)
 replace HB':=Hd (HB'.out.below hb)
 replace H0:=Hd (H0.out.below hb)
 replace H1:=Hd (H1.out.below hb)
 replace H2:=Hd (H2.out.below hb)
 replace HB:=Tb HB hb
 clear hc hb
 go_wp2_with fail
 refine(cut_ti _ _ _ H1.out).mono ?_
 rintro e w3 ⟨c1,rfl,hc,hb⟩
 obtain⟨o1,n1,k1,rfl⟩:=hc.form
 have C1:=Hd hc
 replace HX:=Hd (HX.out.below hb)
 replace HA:=Hd (HA.out.below hb)
 replace HB':=Hd (HB'.out.below hb)
 replace C0:=Hd (C0.out.below hb)
 replace H0:=Hd (H0.out.below hb)
 replace H2:=Hd (H2.out.below hb)
 replace HB:=Tb HB hb
 clear hc hb H1
 go_wp2_with fail
 refine(cut_ti _ _ _ H2.out).mono ?_
 rintro e w4 ⟨c2,rfl,hc,hb⟩
 obtain⟨o2,n2,k2,rfl⟩:=hc.form
 have C2:=Hd hc
 replace HX:=Hd (HX.out.below hb)
 replace HA:=Hd (HA.out.below hb)
 replace HB':=Hd (HB'.out.below hb)
 replace C0:=Hd (C0.out.below hb)
 replace C1:=Hd (C1.out.below hb)
 replace H0:=Hd (H0.out.below hb)
 replace HB:=Tb HB hb
 clear hc hb H2
 go_wp2_with fail
 refine(cut_ti _ _ _ H0.out).mono ?_
 rintro e w4a ⟨c6,rfl,hc,hb⟩
 obtain⟨o6,n6,k6,rfl⟩:=hc.form
 have C6:=Hd hc
 replace HX:=Hd (HX.out.below hb)
 replace HA:=Hd (HA.out.below hb)
 replace HB':=Hd (HB'.out.below hb)
 replace C0:=Hd (C0.out.below hb)
 replace C1:=Hd (C1.out.below hb)
 replace C2:=Hd (C2.out.below hb)
 replace H0:=Hd (H0.out.below hb)
 replace HB:=Tb HB hb
 clear hc hb
 go_wp2_with fail
 refine(cut_ti _ _ _ H0.out).mono ?_
 rintro e w4b ⟨c7,rfl,hc,hb⟩
 obtain⟨o7,n7,k7,rfl⟩:=hc.form
 have C7:=Hd hc
 replace HX:=Hd (HX.out.below hb)
 replace HA:=Hd (HA.out.below hb)
 replace HB':=Hd (HB'.out.below hb)
 replace C0:=Hd (C0.out.below hb)
 replace C1:=Hd (C1.out.below hb)
 replace C2:=Hd (C2.out.below hb)
 replace C6:=Hd (C6.out.below hb)
 replace HB:=Tb HB hb
 clear hc hb H0
 dsimp only
 apply_assumption
 iterate 21 go_step
 refine Great.wpList_buildSliceTo rfl 29 28 5 #[(0,.tmp 30),(1,.tmp 34),(2,.tmp 39),(3,.tmp 44),(4,.tmp 48)] rfl w4b.heap.size rfl (some 49) rfl Tryz.underlying29 #[.slice o0 n0 k0,.slice o1 n1 k1,.slice o2 n2 k2,.slice o3 n3 k3,.slice o4 n4 k4,.slice o5 n5 k5,.slice o3 n3 k3,.slice o6 n6 k6,.slice o5 n5 k5,.slice o7 n7 k7,.slice o4 n4 k4,.slice o5 n5 k5,.slice o4 n4 k4,.slice o3 n3 k3,.slice o5 n5 k5] ?_ ?_
 ·simp only[List.map_toArray,List.map_cons,List.map_nil,List.toList_toArray]
  kernel_rfl
 obtain⟨w5,hw5⟩:=Xq (w4b.alloc (.cells #[.slice o0 n0 k0,.slice o1 n1 k1,.slice o2 n2 k2,.slice o3 n3 k3,.slice o4 n4 k4,.slice o5 n5 k5,.slice o3 n3 k3,.slice o6 n6 k6,.slice o5 n5 k5,.slice o7 n7 k7,.slice o4 n4 k4,.slice o5 n5 k5,.slice o4 n4 k4,.slice o3 n3 k3,.slice o5 n5 k5] 28))
 obtain⟨gs,hgs⟩:=Xq (w4b.heap.size)
 have hb:Below w4b.heap.size w4b w5:=by rw[hw5];exact below_box _ _
 have f0:∀ i v,i<15→(#[.slice o0 n0 k0,.slice o1 n1 k1,.slice o2 n2 k2,.slice o3 n3 k3,.slice o4 n4 k4,.slice o5 n5 k5,.slice o3 n3 k3,.slice o6 n6 k6,.slice o5 n5 k5,.slice o7 n7 k7,.slice o4 n4 k4,.slice o5 n5 k5,.slice o4 n4 k4,.slice o3 n3 k3,.slice o5 n5 k5]:Array Value)[i]?=some v→w5.cell? ⟨gs,i,none⟩=some v:=by
  intro i v hi hv
  rw[hw5,hgs]
  rcases(show i=0∨i=1∨i=2∨i=3∨i=4∨i=5∨i=6∨i=7∨i=8∨i=9∨i=10∨i=11∨i=12∨i=13∨i=14 by omega) with rfl |rfl |rfl |rfl |rfl |rfl |rfl |rfl |rfl |rfl |rfl |rfl |rfl |rfl |rfl<;>(simp at hv;subst hv;simp[go_sem])
 rw[← hw5,← hgs]
 replace HX:=Hd (HX.out.below hb)
 replace HA:=Hd (HA.out.below hb)
 replace HB':=Hd (HB'.out.below hb)
 replace C0:=Hd (C0.out.below hb)
 replace C1:=Hd (C1.out.below hb)
 replace C2:=Hd (C2.out.below hb)
 replace C6:=Hd (C6.out.below hb)
 replace C7:=Hd (C7.out.below hb)
 replace HB:=Tb HB hb
 have HF:=Hd f0
 clear f0 hb hw5 hgs
 have HK:=Hd (show ∀ k,k<5→∃ oa na ka ob nb kb oc nc kc n' a' b',w5.cell? ⟨gs,k*3,none⟩=some (.slice oa na ka)∧w5.cell? ⟨gs,k*3+1,none⟩=some (.slice ob nb kb)∧w5.cell? ⟨gs,k*3+2,none⟩=some (.slice oc nc kc)∧TI w5 (.slice oa na ka) n'∧TI w5 (.slice ob nb kb) a'∧TI w5 (.slice oc nc kc) b' from fun k hk=>by
  rcases(show k=0∨k=1∨k=2∨k=3∨k=4 by omega) with rfl |rfl |rfl |rfl |rfl
  ·exact⟨_,_,_,_,_,_,_,_,_,_,_,_,HF.out 0 _ (by decide) rfl,HF.out 1 _ (by decide) rfl,HF.out 2 _ (by decide) rfl,C0.out,C1.out,C2.out⟩
  ·exact⟨_,_,_,_,_,_,_,_,_,_,_,_,HF.out 3 _ (by decide) rfl,HF.out 4 _ (by decide) rfl,HF.out 5 _ (by decide) rfl,HX.out,HA.out,HB'.out⟩
  ·exact⟨_,_,_,_,_,_,_,_,_,_,_,_,HF.out 6 _ (by decide) rfl,HF.out 7 _ (by decide) rfl,HF.out 8 _ (by decide) rfl,HX.out,C6.out,HB'.out⟩
  ·exact⟨_,_,_,_,_,_,_,_,_,_,_,_,HF.out 9 _ (by decide) rfl,HF.out 10 _ (by decide) rfl,HF.out 11 _ (by decide) rfl,C7.out,HA.out,HB'.out⟩
  exact⟨_,_,_,_,_,_,_,_,_,_,_,_,HF.out 12 _ (by decide) rfl,HF.out 13 _ (by decide) rfl,HF.out 14 _ (by decide) rfl,HA.out,HX.out,HB'.out⟩)
 clear HF HX HA HB' C0 C1 C2 C6 C7
 go_upto_region 3 with fail
 go_loopw [51] (fun i wr=>∃ k:Nat,k≤5∧i=.int .i64 (k:Int)∧Below w5.heap.size w5 wr) (fun i _=>5-(intOf i).toNat)
 case atStart=>exact⟨0,Nat.zero_le _,rfl,Below.refl _ _⟩
 case round=>
  obtain⟨k,hk,rfl,hb⟩:=hrel
  have HBK:=Hd hb
  clear hb
  by_cases hlt:k<5
  ·have hlt':(k:Int)<5:=by omega
   obtain⟨oa,na,ka,ob,nb,kb,oc,nc,kc,n',a',b',h0,h1,h2,t0,t1,t2⟩:=HK.out k hlt
   replace h0:=(HBK.out.cell (p:=⟨gs,k*3,none⟩) (block_lt_of_cell h0)).trans h0
   replace h1:=(HBK.out.cell (p:=⟨gs,k*3+1,none⟩) (block_lt_of_cell h1)).trans h1
   replace h2:=(HBK.out.cell (p:=⟨gs,k*3+2,none⟩) (block_lt_of_cell h2)).trans h2
   have T0:=Hd (t0.below HBK.out)
   have T1:=Hd (t1.below HBK.out)
   have T2:=Hd (t2.below HBK.out)
   clear t0 t1 t2 HK
   go_upto_region 5 with fail
   obtain⟨w6,hw6⟩:=Xq (wr.alloc (.cells #[.slice oa na ka,.slice ob nb kb,.slice oc nc kc] 28))
   obtain⟨g,hg⟩:=Xq (wr.heap.size)
   have hb:Below wr.heap.size wr w6:=by rw[hw6];exact below_box _ _
   have HG:=Hd (show w6.cell? ⟨g,0,none⟩=some (.slice oa na ka)∧w6.cell? ⟨g,1,none⟩=some (.slice ob nb kb)∧w6.cell? ⟨g,2,none⟩=some (.slice oc nc kc) by
    rw[hw6,hg]
    exact⟨by simp[go_sem],by simp[go_sem],by simp[go_sem]⟩)
   rw[← hw6,← hg]
   replace T0:=Hd (T0.out.below hb)
   replace T1:=Hd (T1.out.below hb)
   replace T2:=Hd (T2.out.below hb)
   replace HBK:=Tb HBK hb
   clear hb hw6 hg h0 h1 h2
   have MA:=Hd (fun(w:World) (t0:TI w (.slice oa na ka) n') (t1:TI w (.slice ob nb kb) a') (t2:TI w (.slice oc nc kc) b')=>merge_ti _ _ _ n' a' b' w t0 t1 t2)
   have MB:=Hd (fun(w:World) (t0:TI w (.slice oa na ka) n') (t1:TI w (.slice ob nb kb) a') (t2:TI w (.slice oc nc kc) b')=>rmerge_ti _ _ _ n' a' b' w t0 t1 t2)
   obtain⟨d0,d1,d2⟩:=HG.out
   go_wp2_with fail
   refine(MA.out _ T0.out T1.out T2.out).mono ?_
   rintro e w7 ⟨r1,e1,y1,rfl,ho,hb,hm⟩
   have R1:=Hd ho.tg
   have M1:=Hd hm
   obtain⟨or,cr,er⟩:=ho.tg.form
   obtain⟨nr,hnr⟩:=Xq (y1.length)
   rw[← hnr]at er
   subst er
   replace d0:=(hb.cell (p:=⟨g,0,none⟩) (block_lt_of_cell d0)).trans d0
   replace d1:=(hb.cell (p:=⟨g,1,none⟩) (block_lt_of_cell d1)).trans d1
   replace d2:=(hb.cell (p:=⟨g,2,none⟩) (block_lt_of_cell d2)).trans d2
   replace T0:=Hd (T0.out.below hb)
   replace T1:=Hd (T1.out.below hb)
   replace T2:=Hd (T2.out.below hb)
   replace HBK:=Tb HBK hb
   clear ho hb hm hnr MA HG
   go_wp2_with fail
   refine(MB.out _ T0.out T1.out T2.out).mono ?_
   rintro e w8 ⟨r2,e2,y2,rfl,ho,hb,hm⟩
   obtain⟨rfl,rfl⟩:=RMergeA.agree M1.out hm
   have R2:=Hd ho.tg
   obtain⟨os,cs,es⟩:=ho.tg.form
   obtain⟨ns,hns⟩:=Xq (y1.length)
   rw[← hns]at es
   subst es
   replace R1:=Hd (R1.out.below hb)
   replace HBK:=Tb HBK hb
   clear ho hb hm hns MB M1 T0 T1 T2 d0 d1 d2
   go_wp2_with fail
   refine(requal_awake _ _ _ _ y1 _ R1.out R2.out).mono ?_
   rintro e w9 ⟨rfl,hb⟩
   replace HBK:=Tb HBK hb
   clear hb R1 R2
   go_wp2_with fail
   go_roundw
   case rel=>exact⟨k+1,by omega,by simp,HBK.out⟩
   case measure=>
    simp[intOf]
    omega
  have hk3:k=5:=by omega
  subst hk3
  clear HK
  go_wp2_with fail
  refine(awakeg_any _).mono ?_
  rintro e w6 ⟨rfl,hb⟩
  have HB6:=Hd (HB.out.trans ((HBK.out.trans (hb.mono HBK.out.size)).mono HB.out.size))
  clear hb
  go_wp2_with fail
  go_ret
  exact⟨rfl,HB6.out⟩
end Go.Proofs.YtfoohocgdcgbcaaGreat
