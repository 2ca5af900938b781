/- Texts of this claim joined: WE WF WG WH WI XA YA YB YC. -/
import Derived.Test.YtfoohocgdcgbcaaGreatMe11
import Derived.Test.YtfoohocgdcgbcaaGreatMe14
import Derived.Test.YtfoohocgdcgbcaaGreatMe15
import Derived.Test.YtfoohocgdcgbcaaGreatSq
set_option linter.unusedVariables false
set_option linter.unusedSimpArgs false
set_option maxRecDepth 100000
set_option maxHeartbeats 40000000
namespace Go.Proofs.YtfoohocgdcgbcaaGreat
open Go.Trk
open Go.RowKit
theorem okName_two (c:UInt8) (n:Nat) (hc:c=109∨c=115) (hn:n<10):okName ⟨#[c,UInt8.ofNat (48+n)]⟩:=by
 refine .inl ⟨c,UInt8.ofNat (48+n),rfl,?_⟩
 have e:(UInt8.ofNat (48+n)).toNat=48+n:=by rw[UInt8.toNat_ofNat'];omega
 rw[e]
 rcases hc with rfl |rfl
 ·refine⟨by decide,by decide,by omega,by omega⟩
 refine⟨by decide,by decide,by omega,by omega⟩
theorem source_any (B p k:Nat) (w:World) (ht:TP w B p k) (hk:k<800000) :
  Calls Tryz.prog 82 #[.pointer (some ⟨p,0,none⟩),.int .i64 3,.int .i64 2] w (SrcPost w B p k 6):=by
 have HT:=Hd ht
 have hB:=ht.1
 have hp:=ht.2.1
 clear ht
 go_enter Tryz.func82,Tryz.ntmps82
 go_upto_region 1 with fail
 obtain⟨w1,hw1⟩:=Xq (w.alloc (.cells (srcC black).toArray 46))
 have hw1':=hw1
 simp only[srcC,black,show(ByteArray.empty:ByteArray)=⟨#[]⟩ from rfl]at hw1'
 rw[← hw1']
 clear hw1'
 obtain⟨g6,hg6⟩:=Xq (w.heap.size)
 have hb:Below w.heap.size w w1:=by rw[hw1];exact below_box _ _
 have HV:=Hd (show SVar w1 g6 black by rw[hw1,hg6];exact SVar.box w black 46)
 have HU:=Hd (Turn.of (g:=p) (Nat.le_of_lt hp) hb)
 replace HT:=Hd (HT.out.below (by omega) hb)
 have HG:=Hd (show w.heap.size≤g6∧g6≠p∧B≤g6∧p≤g6 by omega)
 rw[← hg6]
 clear hw1 hb hg6
 go_wp2_with fail
 refine(next_any B p k 8 _ HT.out (by omega) (by omega) (by omega)).mono ?_
 rintro e w2 ⟨r,rfl,r0,r1,hT_,hg_⟩
 have ht:=Turn.grown hg_ HT.out.2.1
 replace HU:=Hd (HU.out.trans ht)
 replace HV:=Hd (HV.out.turn ht HG.out.2.1)
 replace HT:=Hd hT_
 clear hT_ hg_ ht
 by_cases hr0:r=0
 ·subst hr0
  go_upto_region 3 with fail
  apply wp_region_lit
  iterate 3 go_step
  refine wpl_storeS black none rfl HV.out.there rfl rfl rfl rfl ?_
  have HV2:=Hd (HV.out.put black)
  have ht:=Turn.cells g6 0 (srcC black) w2
  replace HU:=Hd (HU.out.into HG.out.1 HG.out.2.2.2 ht)
  replace HT:=Hd (HT.out.turn ht HG.out.2.1.symm HG.out.2.2.1)
  obtain⟨w3,hw3⟩:=Xq (w2.setCells g6 0 (srcC black))
  rw[← hw3]at HV2 HU HT ⊢
  clear hw3 ht
  simp only[Act.put,sA1,sB1,sC1]
  iterate 4 go_step
  refine bodyPost_ret (results_src Tryz.results82 rfl HV2.out) rfl ⟨⟨_,rfl,.inl rfl⟩,TQ.of (by omega) HT.out HU.out⟩
 have hrb:(r==0)=false:=by simpa using hr0
 go_wp2_with fail
 refine(rat_any B p (k+1) 40 _ HT.out (by omega) (by omega)).mono ?_
 rintro e w3 ⟨⟨pn,pd,rfl,hpos⟩,⟨k3,hk3,hT_⟩,ht⟩
 replace HU:=Hd (HU.out.trans ht)
 replace HV:=Hd (HV.out.turn ht HG.out.2.1)
 replace HT:=Hd hT_
 have HP:=Hd hpos
 clear hT_ ht hpos
 go_wp2_with fail
 refine(speed_any B p k3 _ HT.out (by omega)).mono ?_
 rintro e w4 ⟨⟨sn,sd,rfl,hsp⟩,⟨k4,hk4,hT_⟩,ht⟩
 replace HU:=Hd (HU.out.trans ht)
 replace HV:=Hd (HV.out.turn ht HG.out.2.1)
 replace HT:=Hd hT_
 have HS:=Hd hsp
 clear hT_ ht hsp
 go_wp2_with fail
 refine(next_any B p k4 5 _ HT.out (by omega) (by omega) (by omega)).mono ?_
 rintro e w5 ⟨q,rfl,q0,q1,hT_,hg_⟩
 have ht:=Turn.grown hg_ HT.out.2.1
 replace HU:=Hd (HU.out.trans ht)
 replace HV:=Hd (HV.out.turn ht HG.out.2.1)
 replace HT:=Hd hT_
 clear hT_ hg_ ht
 obtain⟨sm,hsm⟩:=Xq ((q==0))
 go_upto_region 5 with fail
 obtain⟨w6,hw6⟩:=Xq (w5.alloc (.cells (srcC ⟨1,ByteArray.empty,pn,pd,sn,sd,q==0⟩).toArray 46))
 have hw6':=hw6
 simp only[srcC,show(ByteArray.empty:ByteArray)=⟨#[]⟩ from rfl]at hw6'
 rw[← hw6']
 clear hw6'
 obtain⟨g8,hg8⟩:=Xq (w5.heap.size)
 have hb:Below w5.heap.size w5 w6:=by rw[hw6];exact below_box _ _
 have HX:=Hd (show SVar w6 g8 ⟨1,ByteArray.empty,pn,pd,sn,sd,q==0⟩ by rw[hw6,hg8];exact SVar.box w5 _ 46)
 have HG8:=Hd (show w.heap.size≤g8∧g8≠p∧B≤g8∧p≤g8∧g6≠g8 by have h1:=HT.out.2.1;have h2:=HU.out.s;have h3:=HV.out.lt;omega)
 replace HU:=Hd (HU.out.trans (Turn.of (g:=p) (Nat.le_of_lt HT.out.2.1) hb))
 replace HV:=Hd (HV.out.turn (Turn.of (g:=p) (Nat.le_of_lt HT.out.2.1) hb) HG.out.2.1)
 replace HT:=Hd (HT.out.below (Nat.le_trans HT.out.1 (Nat.le_of_lt HT.out.2.1)) hb)
 rw[← hg8]
 obtain⟨sm,hsm2⟩:=Xq ((q==0))
 rw[← hsm2]at HX ⊢
 clear hw6 hb hg8 hsm hsm2
 by_cases hr1:r=1
 ·subst hr1
  go_wp2_with fail
  refine(next_any B p (k4+1) 2 _ HT.out (by omega) (by omega) (by omega)).mono ?_
  rintro e w7 ⟨i,rfl,i0,i1,hT_,hg_⟩
  obtain⟨i,rfl⟩:∃ n:Nat,i=n:=⟨i.toNat,by omega⟩
  have ht:=Turn.grown hg_ HT.out.2.1
  replace HU:=Hd (HU.out.trans ht)
  replace HV:=Hd (HV.out.turn ht HG.out.2.1)
  replace HX:=Hd (HX.out.turn ht HG8.out.2.1)
  replace HT:=Hd hT_
  clear hT_ hg_ ht
  go_wp2_with fail
  refine(tname_any 115 i _ (by omega)).mono ?_
  rintro e w8 ⟨rfl,rfl⟩
  have HNM:=Hd (And.intro (okName_two 115 i (.inr rfl) (by omega)) (show(⟨#[115,UInt8.ofNat (48+i)]⟩:ByteArray).size≠1 from by show(2:Nat)≠1;decide))
  obtain⟨nm,hnm⟩:∃ nm:ByteArray,nm=⟨#[115,UInt8.ofNat (48+i)]⟩:=⟨_,rfl⟩
  rw[← hnm]at HNM ⊢
  clear hnm
  obtain⟨x0,x1,_⟩:=HX.out.at0
  have xf:=HX.out.f
  go_upto_region 10 with fail
  have hx:=HX.out.setKind 2 |>.setName nm
  have ht:Turn g8 w7 ((w7.setCell ⟨g8,0,none⟩ (.int .i64 2)).setCell ⟨g8,1,none⟩ (.string nm)):=(Turn.cell g8 0 _ _).trans (Turn.cell g8 1 _ _)
  obtain⟨w9,hw9⟩:=Xq (((w7.setCell ⟨g8,0,none⟩ (.int .i64 2)).setCell ⟨g8,1,none⟩ (.string nm)))
  rw[← hw9]at hx ht ⊢
  replace HU:=Hd (HU.out.into HG8.out.1 HG8.out.2.2.2.1 ht)
  replace HT:=Hd (HT.out.turn ht HG8.out.2.1.symm HG8.out.2.2.1)
  replace HV:=Hd (HV.out.turn ht (by have:=HG8.out.2.2.2.2;omega))
  have HX9:=Hd hx
  clear hx ht hw9 x0 x1 xf HX
  apply wp_region_lit
  refine wpl_loadS (some 52) rfl HX9.out.c rfl rfl rfl ?_
  simp only[Act.put,sA1,sB1,sC1]
  refine wpl_storeS _ none rfl HV.out.there rfl rfl rfl rfl ?_
  have HV2:=Hd (HV.out.put ⟨2,nm,pn,pd,sn,sd,sm⟩)
  have ht:=Turn.cells g6 0 (srcC ⟨2,nm,pn,pd,sn,sd,sm⟩) w9
  replace HU:=Hd (HU.out.into HG.out.1 HG.out.2.2.2 ht)
  replace HT:=Hd (HT.out.turn ht HG.out.2.1.symm HG.out.2.2.1)
  iterate 4 go_step
  refine bodyPost_ret (results_src Tryz.results82 rfl HV2.out) rfl ⟨⟨_,rfl,tape_src (.inr rfl) HNM.out.1 HP.out HS.out HNM.out.2⟩,TQ.of (by omega) HT.out HU.out⟩
 have hrb1:(r==1)=false:=by simpa using hr1
 go_wp2_with fail
 refine(next_any B p (k4+1) 3 _ HT.out (by omega) (by omega) (by omega)).mono ?_
 rintro e w7 ⟨i,rfl,i0,i1,hT_,hg_⟩
 obtain⟨i,rfl⟩:∃ n:Nat,i=n:=⟨i.toNat,by omega⟩
 have ht:=Turn.grown hg_ HT.out.2.1
 replace HU:=Hd (HU.out.trans ht)
 replace HV:=Hd (HV.out.turn ht HG.out.2.1)
 replace HX:=Hd (HX.out.turn ht HG8.out.2.1)
 replace HT:=Hd hT_
 clear hT_ hg_ ht
 go_wp2_with fail
 refine(tname_any 109 i _ (by omega)).mono ?_
 rintro e w8 ⟨rfl,rfl⟩
 have HNM:=Hd (And.intro (okName_two 109 i (.inl rfl) (by omega)) (show(⟨#[109,UInt8.ofNat (48+i)]⟩:ByteArray).size≠1 from by show(2:Nat)≠1;decide))
 obtain⟨nm,hnm⟩:∃ nm:ByteArray,nm=⟨#[109,UInt8.ofNat (48+i)]⟩:=⟨_,rfl⟩
 rw[← hnm]at HNM ⊢
 clear hnm
 obtain⟨x0,x1,_⟩:=HX.out.at0
 have xf:=HX.out.f
 go_upto_region 10 with fail
 have hx:=HX.out.setName nm
 have ht:Turn g8 w7 (w7.setCell ⟨g8,1,none⟩ (.string nm)):=Turn.cell g8 1 _ _
 obtain⟨w9,hw9⟩:=Xq ((w7.setCell ⟨g8,1,none⟩ (.string nm)))
 rw[← hw9]at hx ht ⊢
 replace HU:=Hd (HU.out.into HG8.out.1 HG8.out.2.2.2.1 ht)
 replace HT:=Hd (HT.out.turn ht HG8.out.2.1.symm HG8.out.2.2.1)
 replace HV:=Hd (HV.out.turn ht (by have:=HG8.out.2.2.2.2;omega))
 have HX9:=Hd hx
 clear hx ht hw9 x0 x1 xf HX
 apply wp_region_lit
 refine wpl_loadS (some 52) rfl HX9.out.c rfl rfl rfl ?_
 simp only[Act.put,sA1,sB1,sC1]
 refine wpl_storeS _ none rfl HV.out.there rfl rfl rfl rfl ?_
 have HV2:=Hd (HV.out.put ⟨1,nm,pn,pd,sn,sd,sm⟩)
 have ht:=Turn.cells g6 0 (srcC ⟨1,nm,pn,pd,sn,sd,sm⟩) w9
 replace HU:=Hd (HU.out.into HG.out.1 HG.out.2.2.2 ht)
 replace HT:=Hd (HT.out.turn ht HG.out.2.1.symm HG.out.2.2.1)
 iterate 4 go_step
 refine bodyPost_ret (results_src Tryz.results82 rfl HV2.out) rfl ⟨⟨_,rfl,tape_src (.inl rfl) HNM.out.1 HP.out HS.out HNM.out.2⟩,TQ.of (by omega) HT.out HU.out⟩
theorem CV.turn {w w':World} {g g2:Nat} {c:Clip} (h:CV w g c) (ht:Turn g2 w w') (hn:g≠g2):CV w' g c:=h.same (ht.o g h.lt hn)
theorem CV.thereS {w:World} {g:Nat} {c:Clip} (h:CV w g c) (j:Nat) (hj:j+7≤22):w.there g j 7:=fun q hq=>by
 have:=h.there (j+q) (by omega)
 rwa [Nat.zero_add]at this
theorem CV.seta {w:World} {g:Nat} {c:Clip} (h:CV w g c) (s:Src):CV (w.setCells g 2 (srcC s)) g { c with a:=s }:=h.set_a s
theorem CV.setb {w:World} {g:Nat} {c:Clip} (h:CV w g c) (s:Src):CV (w.setCells g 9 (srcC s)) g { c with b:=s }:=h.set_b s
theorem CV.set_total {w:World} {b:Nat} {c:Clip} (h:CV w b c) (v:Int):CV (w.setCell ⟨b,17,none⟩ (.int .i64 v)) b { c with total:=v }:=by
 obtain⟨h0,f⟩:=h
 obtain⟨x0,x1,x2,x3,x4,x5,x6,x7,x8,x9,x10,x11,x12,x13,x14,x15,x16,x17,x18,x19,x20,x21⟩:=h0.at0
 exact⟨by constructor<;>simp[go_sem,x0,x1,x2,x3,x4,x5,x6,x7,x8,x9,x10,x11,x12,x13,x14,x15,x16,x17,x18,x19,x20,x21],fun o=>(World.frozen?_setCell _ _ _ _).trans (f o)⟩
theorem CV.set_param {w:World} {b:Nat} {c:Clip} (h:CV w b c) (v:Int):CV (w.setCell ⟨b,18,none⟩ (.int .i64 v)) b { c with param:=v }:=by
 obtain⟨h0,f⟩:=h
 obtain⟨x0,x1,x2,x3,x4,x5,x6,x7,x8,x9,x10,x11,x12,x13,x14,x15,x16,x17,x18,x19,x20,x21⟩:=h0.at0
 exact⟨by constructor<;>simp[go_sem,x0,x1,x2,x3,x4,x5,x6,x7,x8,x9,x10,x11,x12,x13,x14,x15,x16,x17,x18,x19,x20,x21],fun o=>(World.frozen?_setCell _ _ _ _).trans (f o)⟩
theorem CV.set_text {w:World} {b:Nat} {c:Clip} (h:CV w b c) (v:ByteArray):CV (w.setCell ⟨b,19,none⟩ (.string v)) b { c with text:=v }:=by
 obtain⟨h0,f⟩:=h
 obtain⟨x0,x1,x2,x3,x4,x5,x6,x7,x8,x9,x10,x11,x12,x13,x14,x15,x16,x17,x18,x19,x20,x21⟩:=h0.at0
 exact⟨by constructor<;>simp[go_sem,x0,x1,x2,x3,x4,x5,x6,x7,x8,x9,x10,x11,x12,x13,x14,x15,x16,x17,x18,x19,x20,x21],fun o=>(World.frozen?_setCell _ _ _ _).trans (f o)⟩
theorem tape_in {s:Src} (h:TapeS s) {n:Int} (n0:0≤n) (n1:n≤32):Trk.SrcIn 1000000 n s:=by
 rcases h with rfl |⟨h1,h2,h3,h4,h5,h6,h7⟩
 ·exact .inl rfl
 have b:=mul_bound (d:=n) (D:=32) (by omega) n1 h4 h5
 exact .inr ⟨h1,h2,h3,h4,h5,by omega,by omega,by omega,by omega⟩
structure TapeC (c:Clip):Prop where
 l0:1≤c.len
 l1:c.len≤9
 a:TapeS c.a
 b:TapeS c.b
 ch:c.chan=[]
 gn:c.gain=0
 kd:KindOK c
 sh:shares c.kind=true→0≤c.off∧c.off≤2∧c.off+c.len≤c.total∧c.total≤20
theorem TapeC.vc {c:Clip} (h:TapeC c):Trk.VC 1000000 c:=
 ⟨⟨tape_in h.a (by have := h.l0; omega) (by have := h.l1; omega), tape_in h.b (by have := h.l0; omega) (by have := h.l1; omega), h.ch, h.gn, h.kd⟩, h.l0, by have := h.l1; omega, fun hs => by
  obtain⟨a,b,c,d⟩:=h.sh hs
  have:=h.l0
  omega⟩
theorem wpl_storeC {ops:Array Oper} {rest:List Oper} {op:Oper} {a:Act} {w:World} {Q:Exit→Act→World→Prop} {b:Nat} {c:Clip} (e:Clip) {x y:Operand} (hc:CV w b c) (hgd:op.guard=none) (ho:op.op=.store 48 x y)
  (hx:a.eval x=.pointer (some ⟨b,0,none⟩)) (hy:a.eval y=.agg (clipC e).toArray) (h:wpList Tryz.prog ops Q rest (a.put op.dst undef) (w.setCells b 0 (clipC e))):wpList Tryz.prog ops Q (op::rest) a w:=
 wpList_store_mid hgd 48 x y ho b 0 (clipC e).toArray hx hy hc.there (by kernel_rfl) (clip_oneCell e) h
def kinds:Array Int:=#[1,1,1,0,2,3,4,5]
def kindTab:Array Value:=#[.int .i64 1,.int .i64 1,.int .i64 1,.int .i64 0,.int .i64 2,.int .i64 3,.int .i64 4,.int .i64 5]
theorem kind_get {w:World} {g q:Nat} (h:w.heap[g]?=some (.cells kindTab 3 (0,0))) (hq:q<8):w.cell? ⟨g,q,none⟩=some (.int .i64 (kinds[q]!)):=by
 rcases(show q=0∨q=1∨q=2∨q=3∨q=4∨q=5∨q=6∨q=7 by omega) with rfl |rfl |rfl |rfl |rfl |rfl |rfl |rfl<;>simp[World.cell?,h,kinds,kindTab]
theorem kind_ok {q:Nat} (hq:q<8):kinds[q]! = 0∨kinds[q]! = 1∨kinds[q]! = 2∨kinds[q]! = 3∨kinds[q]! = 4∨kinds[q]! = 5:=by
 rcases(show q=0∨q=1∨q=2∨q=3∨q=4∨q=5∨q=6∨q=7 by omega) with rfl |rfl |rfl |rfl |rfl |rfl |rfl |rfl<;>simp[kinds]
def textTab:Array Value:=#[.string ⟨#[65]⟩,.string ⟨#[82,69,69,76,32,55]⟩,.string ⟨#[116,104,101,32,101,110,100,46]⟩,.string ⟨#[49,50,58,51,48]⟩]
theorem line_of {b:ByteArray} (h:1≤b.size∧b.size≤64∧∀ x∈b.data.toList,32≤x.toNat∧x.toNat≤126):okLine b:=by
 refine⟨h.1,h.2.1,fun i hi=>?_⟩
 have hm:b[i]∈b.data.toList:=by
  have e:b[i]=b.data[i]:=rfl
  rw[e]
  exact Array.mem_toList_iff.2 (Array.getElem_mem _)
 have:=h.2.2 _ hm
 omega
theorem text_get {w:World} {g q:Nat} (h:w.heap[g]?=some (.cells textTab 9 (0,0))) (hq:q<4):∃ tx,w.cell? ⟨g,q,none⟩=some (.string tx)∧okLine tx:=by
 rcases(show q=0∨q=1∨q=2∨q=3 by omega) with rfl |rfl |rfl |rfl
 ·exact⟨_,by simp[World.cell?,h,textTab];rfl,line_of (by decide)⟩
 ·exact⟨_,by simp[World.cell?,h,textTab];rfl,line_of (by decide)⟩
 ·exact⟨_,by simp[World.cell?,h,textTab];rfl,line_of (by decide)⟩
 exact⟨_,by simp[World.cell?,h,textTab];rfl,line_of (by decide)⟩
def ClipPost (w:World) (B p k j:Nat) (P:Clip→Prop) (e:Ending) (w':World):Prop:=(∃ c,e=.returned (clipV c)∧P c)∧TQ w B p k j w'
theorem clip_any (B p k:Nat) (w:World) (ht:TP w B p k) (hk:k<700000) :
  Calls Tryz.prog 44 #[.pointer (some ⟨p,0,none⟩),.int .i64 3,.int .i64 2] w (ClipPost w B p k 20 TapeC):=by
 have HT:=Hd ht
 have hB:=ht.1
 have hp:=ht.2.1
 clear ht
 go_enter Tryz.func44,Tryz.ntmps44
 go_upto_region 1 with fail
 obtain⟨w1,hw1⟩:=Xq (w.alloc (.cells (clipC (gap 0)).toArray 48))
 have hw1':=hw1
 simp only[clipC,gap,black,show(ByteArray.empty:ByteArray)=⟨#[]⟩ from rfl]at hw1'
 rw[← hw1']
 clear hw1'
 obtain⟨g6,hg6⟩:=Xq (w.heap.size)
 have hb:Below w.heap.size w w1:=by rw[hw1];exact below_box _ _
 have HV:=Hd (show CV w1 g6 (gap 0) by rw[hw1,hg6];exact CV.box w (gap 0) 48)
 have HU:=Hd (Turn.of (g:=p) (Nat.le_of_lt hp) hb)
 replace HT:=Hd (HT.out.below (by omega) hb)
 have HG:=Hd (show w.heap.size≤g6∧g6≠p∧B≤g6∧p≤g6 by omega)
 rw[← hg6]
 clear hw1 hb hg6
 go_wp2_with fail
 refine(next_any B p k 9 _ HT.out (by omega) (by omega) (by omega)).mono ?_
 rintro e w2 ⟨r,rfl,r0,r1,hT_,hg_⟩
 have ht:=Turn.grown hg_ HT.out.2.1
 replace HU:=Hd (HU.out.trans ht)
 replace HV:=Hd (HV.out.turn ht HG.out.2.1)
 replace HT:=Hd hT_
 clear hT_ hg_ ht
 dsimp only
 iterate 4 go_step
 refine Great.wpList_buildSliceTo rfl 24 3 8 #[(0,.const (.int .i64 1)),(1,.const (.int .i64 1)),(2,.const (.int .i64 1)),(3,.const (.int .i64 0)),(4,.const (.int .i64 2)),(5,.const (.int .i64 3)),(6,.const (.int .i64 4)),(7,.const (.int .i64 5))] rfl _ rfl (some 11) rfl Tryz.underlying24 kindTab ?_ ?_
 ·kernel_rfl
 obtain⟨w3,hw3⟩:=Xq (w2.alloc (.cells kindTab 3))
 obtain⟨g9,hg9⟩:=Xq (w2.heap.size)
 have hb:Below w2.heap.size w2 w3:=by rw[hw3];exact below_box _ _
 have HK:=Hd (show w3.heap[g9]?=some (.cells kindTab 3 (0,0)) by rw[hw3,hg9];exact(MapKept.heap_alloc w2 _).1)
 have HG9:=Hd (show g9≠p by have:=HT.out.2.1;omega)
 rw[← hw3,← hg9]
 replace HU:=Hd (HU.out.trans (Turn.of (g:=p) (Nat.le_of_lt HT.out.2.1) hb))
 replace HV:=Hd (HV.out.below hb)
 replace HT:=Hd (HT.out.below (Nat.le_trans HT.out.1 (Nat.le_of_lt HT.out.2.1)) hb)
 clear hw3 hg9 hb
 simp only[Act.put,sA1,sB1,sC1]
 go_wp2_with fail
 refine(next_any B p (k+1) 8 _ HT.out (by omega) (by omega) (by omega)).mono ?_
 rintro e w4 ⟨q,rfl,q0,q1,hT_,hg_⟩
 obtain⟨q,rfl⟩:∃ n:Nat,q=n:=⟨q.toNat,by omega⟩
 have ht:=Turn.grown hg_ HT.out.2.1
 replace HU:=Hd (HU.out.trans ht)
 replace HV:=Hd (HV.out.turn ht HG.out.2.1)
 replace HK:=Hd ((ht.o g9 (Array.getElem?_eq_some_iff.1 HK.out).1 HG9.out).trans HK.out)
 replace HT:=Hd hT_
 clear hT_ hg_ ht
 have hq8:q<8:=by omega
 have z:=kind_get HK.out hq8
 have HKO:=Hd (kind_ok hq8)
 obtain⟨kd,hkd⟩:=Xq (kinds[q]!)
 rw[← hkd]at z HKO
 clear hkd hq8
 dsimp only
 iterate 10 go_step
 iterate 0 go_step
 refine wpl_alloc rfl rfl (fun w5 hg hb2 hs2=>?_)
 obtain⟨g7,hg7⟩:=Xq (w4.heap.size)
 rw[← hg7]at hg ⊢
 have HG7:=Hd (show w.heap.size≤g7∧g7≠p∧B≤g7∧p≤g7∧g6≠g7 by have h1:=HT.out.2.1;have h2:=HU.out.s;have h3:=HV.out.lt;omega)
 replace HU:=Hd (HU.out.trans (Turn.of (g:=p) (Nat.le_of_lt HT.out.2.1) hb2))
 replace HV:=Hd (HV.out.below hb2)
 replace HT:=Hd (HT.out.below (Nat.le_trans HT.out.1 (Nat.le_of_lt HT.out.2.1)) hb2)
 clear hb2 hs2 hg7 z
 obtain⟨LL,hLL⟩:=Xq (1+r)
 rw[← hLL]
 have hL0:1≤LL:=by omega
 have hL1:LL≤9:=by omega
 clear hLL r0 r1
 simp only[Act.put,sA1,sB1,sC1]
 refine wpl_storeC ⟨LL,kd,black,black,0,0,0,ByteArray.empty,0,[]⟩ hg rfl rfl rfl rfl ?_
 have hv:=hg.put ⟨LL,kd,black,black,0,0,0,ByteArray.empty,0,[]⟩
 have ht:=Turn.cells g7 0 (clipC ⟨LL,kd,black,black,0,0,0,ByteArray.empty,0,[]⟩) w5
 obtain⟨w6,hw6⟩:=Xq (w5.setCells g7 0 (clipC ⟨LL,kd,black,black,0,0,0,ByteArray.empty,0,[]⟩))
 rw[← hw6]at hv ht ⊢
 have HX:=Hd hv
 replace HU:=Hd (HU.out.into HG7.out.1 HG7.out.2.2.2.1 ht)
 replace HT:=Hd (HT.out.turn ht HG7.out.2.1.symm HG7.out.2.2.1)
 replace HV:=Hd (HV.out.turn ht HG7.out.2.2.2.2)
 clear hv ht hw6 hg HK
 simp only[Act.put,sA1,sB1,sC1]
 rcases HKO.out with rfl |rfl |rfl |rfl |rfl |rfl
 ·have x1:=HX.out.c.k1
  simp only[Nat.zero_add]at x1
  go_upto_region 3 with fail
  clear x1
  apply wp_region_lit
  obtain⟨CC,hCC⟩:=Xq ((clipC ⟨LL,0,black,black,0,0,0,ByteArray.empty,0,[]⟩).toArray)
  have HCC:=Hd hCC
  clear hCC
  refine wpl_load HX.out.c rfl rfl rfl ?_
  rw[← HCC.out]
  simp only[Act.put,sA1,sB1,sC1]
  refine wpl_storeC ⟨LL,0,black,black,0,0,0,ByteArray.empty,0,[]⟩ HV.out rfl rfl rfl (by rw[← HCC.out];rfl) ?_
  have hv:=HV.out.put ⟨LL,0,black,black,0,0,0,ByteArray.empty,0,[]⟩
  have ht:=Turn.cells g6 0 (clipC ⟨LL,0,black,black,0,0,0,ByteArray.empty,0,[]⟩) w6
  obtain⟨wz,hwz⟩:=Xq (World.setCells w6 g6 0 (clipC ⟨LL,0,black,black,0,0,0,ByteArray.empty,0,[]⟩))
  rw[← hwz]at hv ht ⊢
  replace HU:=Hd (HU.out.into HG.out.1 HG.out.2.2.2 ht)
  replace HT:=Hd (HT.out.turn ht HG.out.2.1.symm HG.out.2.2.1)
  have HV9:=Hd hv
  clear hv ht hwz HX HV
  simp only[Act.put,sA1,sB1,sC1]
  iterate 4 go_step
  refine bodyPost_ret (v:=.agg CC) (by rw[HCC.out];exact results_clip Tryz.results44 rfl HV9.out.c) rfl ⟨⟨_,by rw[HCC.out];rfl,?_⟩,TQ.of (by omega) HT.out HU.out⟩
  exact⟨hL0,hL1,.inl rfl,.inl rfl,rfl,rfl,.inl ⟨rfl,rfl,rfl,rfl,rfl,rfl,rfl⟩,fun h=>by simp[shares]at h⟩
 ·have x1:=HX.out.c.k1
  simp only[Nat.zero_add]at x1
  go_wp2_with fail
  refine(source_any B p (k+1+1) _ HT.out (by omega)).mono ?_
  rintro e w7 ⟨⟨sa,rfl,hsa⟩,⟨ksa,hksa,hT_⟩,ht⟩
  replace HU:=Hd (HU.out.trans ht)
  replace HV:=Hd (HV.out.turn ht HG.out.2.1)
  replace HX:=Hd (HX.out.turn ht HG7.out.2.1)
  replace HT:=Hd hT_
  clear hT_ ht
  have Hsa:=Hd hsa
  clear hsa
  dsimp only
  iterate 4 go_step
  refine wpl_storeS sa none rfl (HX.out.thereS 2 (by decide)) rfl rfl rfl rfl ?_
  have hx:=HX.out.seta sa
  have ht:=Turn.cells g7 2 (srcC sa) w7
  obtain⟨w7s,hwn⟩:=Xq (World.setCells w7 g7 2 (srcC sa))
  rw[← hwn]at hx ht ⊢
  replace HX:=Hd hx
  replace HU:=Hd (HU.out.into HG7.out.1 HG7.out.2.2.2.1 ht)
  replace HT:=Hd (HT.out.turn ht HG7.out.2.1.symm HG7.out.2.2.1)
  replace HV:=Hd (HV.out.turn ht HG7.out.2.2.2.2)
  clear hx ht hwn
  simp only[Act.put,sA1,sB1,sC1]
  have x1:=HX.out.c.k1
  simp only[Nat.zero_add]at x1
  go_upto_region 18 with fail
  clear x1
  apply wp_region_lit
  obtain⟨CC,hCC⟩:=Xq ((clipC ⟨LL,1,sa,black,0,0,0,ByteArray.empty,0,[]⟩).toArray)
  have HCC:=Hd hCC
  clear hCC
  refine wpl_load HX.out.c rfl rfl rfl ?_
  rw[← HCC.out]
  simp only[Act.put,sA1,sB1,sC1]
  refine wpl_storeC ⟨LL,1,sa,black,0,0,0,ByteArray.empty,0,[]⟩ HV.out rfl rfl rfl (by rw[← HCC.out];rfl) ?_
  have hv:=HV.out.put ⟨LL,1,sa,black,0,0,0,ByteArray.empty,0,[]⟩
  have ht:=Turn.cells g6 0 (clipC ⟨LL,1,sa,black,0,0,0,ByteArray.empty,0,[]⟩) w7s
  obtain⟨wz,hwz⟩:=Xq (World.setCells w7s g6 0 (clipC ⟨LL,1,sa,black,0,0,0,ByteArray.empty,0,[]⟩))
  rw[← hwz]at hv ht ⊢
  replace HU:=Hd (HU.out.into HG.out.1 HG.out.2.2.2 ht)
  replace HT:=Hd (HT.out.turn ht HG.out.2.1.symm HG.out.2.2.1)
  have HV9:=Hd hv
  clear hv ht hwz HX HV
  simp only[Act.put,sA1,sB1,sC1]
  iterate 4 go_step
  refine bodyPost_ret (v:=.agg CC) (by rw[HCC.out];exact results_clip Tryz.results44 rfl HV9.out.c) rfl ⟨⟨_,by rw[HCC.out];rfl,?_⟩,TQ.of (by omega) HT.out HU.out⟩
  exact⟨hL0,hL1,Hsa.out,.inl rfl,rfl,rfl,.inr (.inl ⟨rfl,rfl,rfl,rfl,rfl,rfl⟩),fun h=>by simp[shares]at h⟩
 ·have x1:=HX.out.c.k1
  simp only[Nat.zero_add]at x1
  go_wp2_with fail
  refine(source_any B p (k+1+1) _ HT.out (by omega)).mono ?_
  clear x1
  rintro e w7 ⟨⟨sa,rfl,hsa⟩,⟨ksa,hksa,hT_⟩,ht⟩
  replace HU:=Hd (HU.out.trans ht)
  replace HV:=Hd (HV.out.turn ht HG.out.2.1)
  replace HX:=Hd (HX.out.turn ht HG7.out.2.1)
  replace HT:=Hd hT_
  clear hT_ ht
  have Hsa:=Hd hsa
  clear hsa
  dsimp only
  iterate 4 go_step
  refine wpl_storeS sa none rfl (HX.out.thereS 2 (by decide)) rfl rfl rfl rfl ?_
  have hx:=HX.out.seta sa
  have ht:=Turn.cells g7 2 (srcC sa) w7
  obtain⟨w7s,hwn⟩:=Xq (World.setCells w7 g7 2 (srcC sa))
  rw[← hwn]at hx ht ⊢
  replace HX:=Hd hx
  replace HU:=Hd (HU.out.into HG7.out.1 HG7.out.2.2.2.1 ht)
  replace HT:=Hd (HT.out.turn ht HG7.out.2.1.symm HG7.out.2.2.1)
  replace HV:=Hd (HV.out.turn ht HG7.out.2.2.2.2)
  clear hx ht hwn
  simp only[Act.put,sA1,sB1,sC1]
  have x1:=HX.out.c.k1
  simp only[Nat.zero_add]at x1
  go_wp2_with fail
  refine(source_any B p ksa _ HT.out (by omega)).mono ?_
  clear x1
  rintro e w8 ⟨⟨sb,rfl,hsb⟩,⟨ksb,hksb,hT_⟩,ht⟩
  replace HU:=Hd (HU.out.trans ht)
  replace HV:=Hd (HV.out.turn ht HG.out.2.1)
  replace HX:=Hd (HX.out.turn ht HG7.out.2.1)
  replace HT:=Hd hT_
  clear hT_ ht
  have Hsb:=Hd hsb
  clear hsb
  dsimp only
  iterate 4 go_step
  refine wpl_storeS sb none rfl (HX.out.thereS 9 (by decide)) rfl rfl rfl rfl ?_
  have hx:=HX.out.setb sb
  have ht:=Turn.cells g7 9 (srcC sb) w8
  obtain⟨w8s,hwn⟩:=Xq (World.setCells w8 g7 9 (srcC sb))
  rw[← hwn]at hx ht ⊢
  replace HX:=Hd hx
  replace HU:=Hd (HU.out.into HG7.out.1 HG7.out.2.2.2.1 ht)
  replace HT:=Hd (HT.out.turn ht HG7.out.2.1.symm HG7.out.2.2.1)
  replace HV:=Hd (HV.out.turn ht HG7.out.2.2.2.2)
  clear hx ht hwn
  simp only[Act.put,sA1,sB1,sC1]
  go_wp2_with fail
  refine(next_any B p ksb 3 _ HT.out (by omega) (by omega) (by omega)).mono ?_
  rintro e w9 ⟨of,rfl,of0,of1,hT_,hg_⟩
  have ht:=Turn.grown hg_ HT.out.2.1
  clear hg_
  replace HU:=Hd (HU.out.trans ht)
  replace HV:=Hd (HV.out.turn ht HG.out.2.1)
  replace HX:=Hd (HX.out.turn ht HG7.out.2.1)
  replace HT:=Hd hT_
  clear hT_ ht
  have y1:=HX.out.c.k16
  simp only[Nat.zero_add]at y1
  have yf:=HX.out.f
  go_upto_region 10 with fail
  clear y1 yf
  have hx:=HX.out.set_off of
  have ht:=Turn.cell g7 16 (.int .i64 of) w9
  obtain⟨w9s,hwn⟩:=Xq (World.setCell w9 ⟨g7,16,none⟩ (.int .i64 of))
  rw[← hwn]at hx ht ⊢
  replace HX:=Hd hx
  replace HU:=Hd (HU.out.into HG7.out.1 HG7.out.2.2.2.1 ht)
  replace HT:=Hd (HT.out.turn ht HG7.out.2.1.symm HG7.out.2.2.1)
  replace HV:=Hd (HV.out.turn ht HG7.out.2.2.2.2)
  clear hx ht hwn
  refine Plan.wp_region_plan (fun w'=>w'.cell? ⟨g7,16,none⟩=some (.int .i64 of)∧w'.cell? ⟨g7,0,none⟩=some (.int .i64 LL)) (([0,1,2,3,4,5].map (·,true))++(([6].map (·,false))++(([7,8].map (·,true))++([9].map (·,false))))) (by kernel_rfl) (by kernel_rfl) (by kernel_rfl) ⟨(HX.out.below (Below.refl _ _).drew).c.at0.2.2.2.2.2.2.2.2.2.2.2.2.2.2.2.2.1,(HX.out.below (Below.refl _ _).drew).c.at0.1⟩ ?_
  refine' Plan.plan_seg _ [0,1,2,3,4,5] (([6].map (·,false))++(([7,8].map (·,true))++([9].map (·,false)))) (by kernel_rfl) (by kernel_rfl) rfl (by exact⟨(HX.out.below (Below.refl _ _).drew).c.at0.2.2.2.2.2.2.2.2.2.2.2.2.2.2.2.2.1,(HX.out.below (Below.refl _ _).drew).c.at0.1⟩) (fun wx hS=>?_) ?_
  rotate_left
  ·obtain⟨S1,S2⟩:=hS
   go_light
   iterate 6 (apply Plan.seg_pick;rfl;intro K hK;go_wp)
   exact Plan.seg_nil
  obtain⟨wd,hwd⟩:=Xq (World.drew w9s)
  rw[← hwd]
  have hb:Below w9s.heap.size w9s wd:=by rw[hwd];exact(Below.refl _ _).drew
  replace HU:=Hd (HU.out.trans (Turn.of (g:=p) (Nat.le_of_lt HT.out.2.1) hb))
  replace HV:=Hd (HV.out.below hb)
  replace HX:=Hd (HX.out.below hb)
  replace HT:=Hd (HT.out.below (Nat.le_trans HT.out.1 (Nat.le_of_lt HT.out.2.1)) hb)
  clear hb hwd
  refine Plan.plan_of_effect rfl (fun K hK=>?_)
  go_wp2_with fail
  refine(next_any B p (ksb+1) 3 _ HT.out (by omega) (by omega) (by omega)).mono ?_
  rintro e w10 ⟨tt,rfl,tt0,tt1,hT_,hg_⟩
  have ht:=Turn.grown hg_ HT.out.2.1
  clear hg_
  replace HU:=Hd (HU.out.trans ht)
  replace HV:=Hd (HV.out.turn ht HG.out.2.1)
  replace HX:=Hd (HX.out.turn ht HG7.out.2.1)
  replace HT:=Hd hT_
  clear hT_ ht
  go_wp2_with fail
  refine⟨⟨HX.out.c.at0.2.2.2.2.2.2.2.2.2.2.2.2.2.2.2.2.1,HX.out.c.at0.1⟩,?_⟩
  refine' Plan.plan_seg (S:=(fun w'=>w'.cell? ⟨g7,16,none⟩=some (.int .i64 of)∧w'.cell? ⟨g7,0,none⟩=some (.int .i64 LL))) _ [7,8] ([9].map (·,false)) (by kernel_rfl) (by kernel_rfl) rfl (by exact⟨HX.out.c.at0.2.2.2.2.2.2.2.2.2.2.2.2.2.2.2.2.1,HX.out.c.at0.1⟩) (fun wx hS=>?_) ?_
  rotate_left
  ·clear hS
   go_light
   iterate 2 (apply Plan.seg_pick;rfl;intro K hK;go_wp)
   exact Plan.seg_nil
  refine Plan.plan_of_effect rfl (fun K hK=>?_)
  have y1:=HX.out.c.k17
  simp only[Nat.zero_add]at y1
  have yf:=HX.out.f
  go_wp2_with fail
  clear y1 yf
  have hx:=HX.out.set_total (of+LL+tt)
  have ht:=Turn.cell g7 17 (.int .i64 (of+LL+tt)) w10
  obtain⟨w10s,hwn⟩:=Xq (World.setCell w10 ⟨g7,17,none⟩ (.int .i64 (of+LL+tt)))
  rw[← hwn]at hx ht ⊢
  replace HX:=Hd hx
  replace HU:=Hd (HU.out.into HG7.out.1 HG7.out.2.2.2.1 ht)
  replace HT:=Hd (HT.out.turn ht HG7.out.2.1.symm HG7.out.2.2.1)
  replace HV:=Hd (HV.out.turn ht HG7.out.2.2.2.2)
  clear hx ht hwn
  first |refine⟨⟨HX.out.c.at0.2.2.2.2.2.2.2.2.2.2.2.2.2.2.2.2.1,HX.out.c.at0.1⟩,?_⟩ |refine⟨HX.out.c.at0.2.2.2.2.2.2.2.2.2.2.2.2.2.2.2.2.1,HX.out.c.at0.1,?_⟩
  refine Plan.plan_done ?_
  have x1:=HX.out.c.k1
  simp only[Nat.zero_add]at x1
  go_upto_region 18 with fail
  clear x1
  apply wp_region_lit
  obtain⟨CC,hCC⟩:=Xq ((clipC ⟨LL,2,sa,sb,of,(of+LL+tt),0,ByteArray.empty,0,[]⟩).toArray)
  have HCC:=Hd hCC
  clear hCC
  refine wpl_load HX.out.c rfl rfl rfl ?_
  rw[← HCC.out]
  simp only[Act.put,sA1,sB1,sC1]
  refine wpl_storeC ⟨LL,2,sa,sb,of,(of+LL+tt),0,ByteArray.empty,0,[]⟩ HV.out rfl rfl rfl (by rw[← HCC.out];rfl) ?_
  have hv:=HV.out.put ⟨LL,2,sa,sb,of,(of+LL+tt),0,ByteArray.empty,0,[]⟩
  have ht:=Turn.cells g6 0 (clipC ⟨LL,2,sa,sb,of,(of+LL+tt),0,ByteArray.empty,0,[]⟩) w10s
  obtain⟨wz,hwz⟩:=Xq (World.setCells w10s g6 0 (clipC ⟨LL,2,sa,sb,of,(of+LL+tt),0,ByteArray.empty,0,[]⟩))
  rw[← hwz]at hv ht ⊢
  replace HU:=Hd (HU.out.into HG.out.1 HG.out.2.2.2 ht)
  replace HT:=Hd (HT.out.turn ht HG.out.2.1.symm HG.out.2.2.1)
  have HV9:=Hd hv
  clear hv ht hwz HX HV
  simp only[Act.put,sA1,sB1,sC1]
  iterate 4 go_step
  refine bodyPost_ret (v:=.agg CC) (by rw[HCC.out];exact results_clip Tryz.results44 rfl HV9.out.c) rfl ⟨⟨_,by rw[HCC.out];rfl,?_⟩,TQ.of (by omega) HT.out HU.out⟩
  exact⟨hL0,hL1,Hsa.out,Hsb.out,rfl,rfl,.inr (.inr (.inl ⟨rfl,rfl,rfl⟩)),fun _=>⟨of0,by show of≤2;omega,by show of+LL≤of+LL+tt;omega,by show of+LL+tt≤20;omega⟩⟩
 ·have x1:=HX.out.c.k1
  simp only[Nat.zero_add]at x1
  go_wp2_with fail
  refine(source_any B p (k+1+1) _ HT.out (by omega)).mono ?_
  clear x1
  rintro e w7 ⟨⟨sa,rfl,hsa⟩,⟨ksa,hksa,hT_⟩,ht⟩
  replace HU:=Hd (HU.out.trans ht)
  replace HV:=Hd (HV.out.turn ht HG.out.2.1)
  replace HX:=Hd (HX.out.turn ht HG7.out.2.1)
  replace HT:=Hd hT_
  clear hT_ ht
  have Hsa:=Hd hsa
  clear hsa
  dsimp only
  iterate 4 go_step
  refine wpl_storeS sa none rfl (HX.out.thereS 2 (by decide)) rfl rfl rfl rfl ?_
  have hx:=HX.out.seta sa
  have ht:=Turn.cells g7 2 (srcC sa) w7
  obtain⟨w7s,hwn⟩:=Xq (World.setCells w7 g7 2 (srcC sa))
  rw[← hwn]at hx ht ⊢
  replace HX:=Hd hx
  replace HU:=Hd (HU.out.into HG7.out.1 HG7.out.2.2.2.1 ht)
  replace HT:=Hd (HT.out.turn ht HG7.out.2.1.symm HG7.out.2.2.1)
  replace HV:=Hd (HV.out.turn ht HG7.out.2.2.2.2)
  clear hx ht hwn
  simp only[Act.put,sA1,sB1,sC1]
  have x1:=HX.out.c.k1
  simp only[Nat.zero_add]at x1
  go_wp2_with fail
  refine(source_any B p ksa _ HT.out (by omega)).mono ?_
  clear x1
  rintro e w8 ⟨⟨sb,rfl,hsb⟩,⟨ksb,hksb,hT_⟩,ht⟩
  replace HU:=Hd (HU.out.trans ht)
  replace HV:=Hd (HV.out.turn ht HG.out.2.1)
  replace HX:=Hd (HX.out.turn ht HG7.out.2.1)
  replace HT:=Hd hT_
  clear hT_ ht
  have Hsb:=Hd hsb
  clear hsb
  dsimp only
  iterate 4 go_step
  refine wpl_storeS sb none rfl (HX.out.thereS 9 (by decide)) rfl rfl rfl rfl ?_
  have hx:=HX.out.setb sb
  have ht:=Turn.cells g7 9 (srcC sb) w8
  obtain⟨w8s,hwn⟩:=Xq (World.setCells w8 g7 9 (srcC sb))
  rw[← hwn]at hx ht ⊢
  replace HX:=Hd hx
  replace HU:=Hd (HU.out.into HG7.out.1 HG7.out.2.2.2.1 ht)
  replace HT:=Hd (HT.out.turn ht HG7.out.2.1.symm HG7.out.2.2.1)
  replace HV:=Hd (HV.out.turn ht HG7.out.2.2.2.2)
  clear hx ht hwn
  simp only[Act.put,sA1,sB1,sC1]
  go_wp2_with fail
  refine(next_any B p ksb 3 _ HT.out (by omega) (by omega) (by omega)).mono ?_
  rintro e w9 ⟨of,rfl,of0,of1,hT_,hg_⟩
  have ht:=Turn.grown hg_ HT.out.2.1
  clear hg_
  replace HU:=Hd (HU.out.trans ht)
  replace HV:=Hd (HV.out.turn ht HG.out.2.1)
  replace HX:=Hd (HX.out.turn ht HG7.out.2.1)
  replace HT:=Hd hT_
  clear hT_ ht
  have y1:=HX.out.c.k16
  simp only[Nat.zero_add]at y1
  have yf:=HX.out.f
  go_upto_region 10 with fail
  clear y1 yf
  have hx:=HX.out.set_off of
  have ht:=Turn.cell g7 16 (.int .i64 of) w9
  obtain⟨w9s,hwn⟩:=Xq (World.setCell w9 ⟨g7,16,none⟩ (.int .i64 of))
  rw[← hwn]at hx ht ⊢
  replace HX:=Hd hx
  replace HU:=Hd (HU.out.into HG7.out.1 HG7.out.2.2.2.1 ht)
  replace HT:=Hd (HT.out.turn ht HG7.out.2.1.symm HG7.out.2.2.1)
  replace HV:=Hd (HV.out.turn ht HG7.out.2.2.2.2)
  clear hx ht hwn
  refine Plan.wp_region_plan (fun w'=>w'.cell? ⟨g7,16,none⟩=some (.int .i64 of)∧w'.cell? ⟨g7,0,none⟩=some (.int .i64 LL)) (([0,1,2,3,4,5].map (·,true))++(([6].map (·,false))++(([7,8].map (·,true))++([9].map (·,false))))) (by kernel_rfl) (by kernel_rfl) (by kernel_rfl) ⟨(HX.out.below (Below.refl _ _).drew).c.at0.2.2.2.2.2.2.2.2.2.2.2.2.2.2.2.2.1,(HX.out.below (Below.refl _ _).drew).c.at0.1⟩ ?_
  refine' Plan.plan_seg _ [0,1,2,3,4,5] (([6].map (·,false))++(([7,8].map (·,true))++([9].map (·,false)))) (by kernel_rfl) (by kernel_rfl) rfl (by exact⟨(HX.out.below (Below.refl _ _).drew).c.at0.2.2.2.2.2.2.2.2.2.2.2.2.2.2.2.2.1,(HX.out.below (Below.refl _ _).drew).c.at0.1⟩) (fun wx hS=>?_) ?_
  rotate_left
  ·obtain⟨S1,S2⟩:=hS
   go_light
   iterate 6 (apply Plan.seg_pick;rfl;intro K hK;go_wp)
   exact Plan.seg_nil
  obtain⟨wd,hwd⟩:=Xq (World.drew w9s)
  rw[← hwd]
  have hb:Below w9s.heap.size w9s wd:=by rw[hwd];exact(Below.refl _ _).drew
  replace HU:=Hd (HU.out.trans (Turn.of (g:=p) (Nat.le_of_lt HT.out.2.1) hb))
  replace HV:=Hd (HV.out.below hb)
  replace HX:=Hd (HX.out.below hb)
  replace HT:=Hd (HT.out.below (Nat.le_trans HT.out.1 (Nat.le_of_lt HT.out.2.1)) hb)
  clear hb hwd
  refine Plan.plan_of_effect rfl (fun K hK=>?_)
  go_wp2_with fail
  refine(next_any B p (ksb+1) 3 _ HT.out (by omega) (by omega) (by omega)).mono ?_
  rintro e w10 ⟨tt,rfl,tt0,tt1,hT_,hg_⟩
  have ht:=Turn.grown hg_ HT.out.2.1
  clear hg_
  replace HU:=Hd (HU.out.trans ht)
  replace HV:=Hd (HV.out.turn ht HG.out.2.1)
  replace HX:=Hd (HX.out.turn ht HG7.out.2.1)
  replace HT:=Hd hT_
  clear hT_ ht
  go_wp2_with fail
  refine⟨⟨HX.out.c.at0.2.2.2.2.2.2.2.2.2.2.2.2.2.2.2.2.1,HX.out.c.at0.1⟩,?_⟩
  refine' Plan.plan_seg (S:=(fun w'=>w'.cell? ⟨g7,16,none⟩=some (.int .i64 of)∧w'.cell? ⟨g7,0,none⟩=some (.int .i64 LL))) _ [7,8] ([9].map (·,false)) (by kernel_rfl) (by kernel_rfl) rfl (by exact⟨HX.out.c.at0.2.2.2.2.2.2.2.2.2.2.2.2.2.2.2.2.1,HX.out.c.at0.1⟩) (fun wx hS=>?_) ?_
  rotate_left
  ·clear hS
   go_light
   iterate 2 (apply Plan.seg_pick;rfl;intro K hK;go_wp)
   exact Plan.seg_nil
  refine Plan.plan_of_effect rfl (fun K hK=>?_)
  have y1:=HX.out.c.k17
  simp only[Nat.zero_add]at y1
  have yf:=HX.out.f
  go_wp2_with fail
  clear y1 yf
  have hx:=HX.out.set_total (of+LL+tt)
  have ht:=Turn.cell g7 17 (.int .i64 (of+LL+tt)) w10
  obtain⟨w10s,hwn⟩:=Xq (World.setCell w10 ⟨g7,17,none⟩ (.int .i64 (of+LL+tt)))
  rw[← hwn]at hx ht ⊢
  replace HX:=Hd hx
  replace HU:=Hd (HU.out.into HG7.out.1 HG7.out.2.2.2.1 ht)
  replace HT:=Hd (HT.out.turn ht HG7.out.2.1.symm HG7.out.2.2.1)
  replace HV:=Hd (HV.out.turn ht HG7.out.2.2.2.2)
  clear hx ht hwn
  first |refine⟨⟨HX.out.c.at0.2.2.2.2.2.2.2.2.2.2.2.2.2.2.2.2.1,HX.out.c.at0.1⟩,?_⟩ |refine⟨HX.out.c.at0.2.2.2.2.2.2.2.2.2.2.2.2.2.2.2.2.1,HX.out.c.at0.1,?_⟩
  refine Plan.plan_done ?_
  have x1:=HX.out.c.k1
  simp only[Nat.zero_add]at x1
  go_wp2_with fail
  refine(next_any B p (ksb+1+1) 4 _ HT.out (by omega) (by omega) (by omega)).mono ?_
  clear x1
  rintro e w11 ⟨pa,rfl,pa0,pa1,hT_,hg_⟩
  have ht:=Turn.grown hg_ HT.out.2.1
  clear hg_
  replace HU:=Hd (HU.out.trans ht)
  replace HV:=Hd (HV.out.turn ht HG.out.2.1)
  replace HX:=Hd (HX.out.turn ht HG7.out.2.1)
  replace HT:=Hd hT_
  clear hT_ ht
  have y1:=HX.out.c.k18
  simp only[Nat.zero_add]at y1
  have yf:=HX.out.f
  go_upto_region 18 with fail
  clear y1 yf
  have hx:=HX.out.set_param pa
  have ht:=Turn.cell g7 18 (.int .i64 pa) w11
  obtain⟨w11s,hwn⟩:=Xq (World.setCell w11 ⟨g7,18,none⟩ (.int .i64 pa))
  rw[← hwn]at hx ht ⊢
  replace HX:=Hd hx
  replace HU:=Hd (HU.out.into HG7.out.1 HG7.out.2.2.2.1 ht)
  replace HT:=Hd (HT.out.turn ht HG7.out.2.1.symm HG7.out.2.2.1)
  replace HV:=Hd (HV.out.turn ht HG7.out.2.2.2.2)
  clear hx ht hwn
  apply wp_region_lit
  obtain⟨CC,hCC⟩:=Xq ((clipC ⟨LL,3,sa,sb,of,(of+LL+tt),pa,ByteArray.empty,0,[]⟩).toArray)
  have HCC:=Hd hCC
  clear hCC
  refine wpl_load HX.out.c rfl rfl rfl ?_
  rw[← HCC.out]
  simp only[Act.put,sA1,sB1,sC1]
  refine wpl_storeC ⟨LL,3,sa,sb,of,(of+LL+tt),pa,ByteArray.empty,0,[]⟩ HV.out rfl rfl rfl (by rw[← HCC.out];rfl) ?_
  have hv:=HV.out.put ⟨LL,3,sa,sb,of,(of+LL+tt),pa,ByteArray.empty,0,[]⟩
  have ht:=Turn.cells g6 0 (clipC ⟨LL,3,sa,sb,of,(of+LL+tt),pa,ByteArray.empty,0,[]⟩) w11s
  obtain⟨wz,hwz⟩:=Xq (World.setCells w11s g6 0 (clipC ⟨LL,3,sa,sb,of,(of+LL+tt),pa,ByteArray.empty,0,[]⟩))
  rw[← hwz]at hv ht ⊢
  replace HU:=Hd (HU.out.into HG.out.1 HG.out.2.2.2 ht)
  replace HT:=Hd (HT.out.turn ht HG.out.2.1.symm HG.out.2.2.1)
  have HV9:=Hd hv
  clear hv ht hwz HX HV
  simp only[Act.put,sA1,sB1,sC1]
  iterate 4 go_step
  refine bodyPost_ret (v:=.agg CC) (by rw[HCC.out];exact results_clip Tryz.results44 rfl HV9.out.c) rfl ⟨⟨_,by rw[HCC.out];rfl,?_⟩,TQ.of (by omega) HT.out HU.out⟩
  exact⟨hL0,hL1,Hsa.out,Hsb.out,rfl,rfl,.inr (.inr (.inr (.inl ⟨rfl,pa0,by show pa≤3;omega,rfl⟩))),fun _=>⟨of0,by show of≤2;omega,by show of+LL≤of+LL+tt;omega,by show of+LL+tt≤20;omega⟩⟩
 ·have x1:=HX.out.c.k1
  simp only[Nat.zero_add]at x1
  go_wp2_with fail
  refine(source_any B p (k+1+1) _ HT.out (by omega)).mono ?_
  clear x1
  rintro e w7 ⟨⟨sa,rfl,hsa⟩,⟨ksa,hksa,hT_⟩,ht⟩
  replace HU:=Hd (HU.out.trans ht)
  replace HV:=Hd (HV.out.turn ht HG.out.2.1)
  replace HX:=Hd (HX.out.turn ht HG7.out.2.1)
  replace HT:=Hd hT_
  clear hT_ ht
  have Hsa:=Hd hsa
  clear hsa
  dsimp only
  iterate 4 go_step
  refine wpl_storeS sa none rfl (HX.out.thereS 2 (by decide)) rfl rfl rfl rfl ?_
  have hx:=HX.out.seta sa
  have ht:=Turn.cells g7 2 (srcC sa) w7
  obtain⟨w7s,hwn⟩:=Xq (World.setCells w7 g7 2 (srcC sa))
  rw[← hwn]at hx ht ⊢
  replace HX:=Hd hx
  replace HU:=Hd (HU.out.into HG7.out.1 HG7.out.2.2.2.1 ht)
  replace HT:=Hd (HT.out.turn ht HG7.out.2.1.symm HG7.out.2.2.1)
  replace HV:=Hd (HV.out.turn ht HG7.out.2.2.2.2)
  clear hx ht hwn
  simp only[Act.put,sA1,sB1,sC1]
  have x1:=HX.out.c.k1
  simp only[Nat.zero_add]at x1
  go_wp2_with fail
  refine(source_any B p ksa _ HT.out (by omega)).mono ?_
  clear x1
  rintro e w8 ⟨⟨sb,rfl,hsb⟩,⟨ksb,hksb,hT_⟩,ht⟩
  replace HU:=Hd (HU.out.trans ht)
  replace HV:=Hd (HV.out.turn ht HG.out.2.1)
  replace HX:=Hd (HX.out.turn ht HG7.out.2.1)
  replace HT:=Hd hT_
  clear hT_ ht
  have Hsb:=Hd hsb
  clear hsb
  dsimp only
  iterate 4 go_step
  refine wpl_storeS sb none rfl (HX.out.thereS 9 (by decide)) rfl rfl rfl rfl ?_
  have hx:=HX.out.setb sb
  have ht:=Turn.cells g7 9 (srcC sb) w8
  obtain⟨w8s,hwn⟩:=Xq (World.setCells w8 g7 9 (srcC sb))
  rw[← hwn]at hx ht ⊢
  replace HX:=Hd hx
  replace HU:=Hd (HU.out.into HG7.out.1 HG7.out.2.2.2.1 ht)
  replace HT:=Hd (HT.out.turn ht HG7.out.2.1.symm HG7.out.2.2.1)
  replace HV:=Hd (HV.out.turn ht HG7.out.2.2.2.2)
  clear hx ht hwn
  simp only[Act.put,sA1,sB1,sC1]
  go_wp2_with fail
  refine(next_any B p ksb 256 _ HT.out (by omega) (by omega) (by omega)).mono ?_
  rintro e w9 ⟨pa,rfl,pa0,pa1,hT_,hg_⟩
  have ht:=Turn.grown hg_ HT.out.2.1
  clear hg_
  replace HU:=Hd (HU.out.trans ht)
  replace HV:=Hd (HV.out.turn ht HG.out.2.1)
  replace HX:=Hd (HX.out.turn ht HG7.out.2.1)
  replace HT:=Hd hT_
  clear hT_ ht
  have y1:=HX.out.c.k18
  simp only[Nat.zero_add]at y1
  have yf:=HX.out.f
  go_upto_region 18 with fail
  clear y1 yf
  have hx:=HX.out.set_param pa
  have ht:=Turn.cell g7 18 (.int .i64 pa) w9
  obtain⟨w9s,hwn⟩:=Xq (World.setCell w9 ⟨g7,18,none⟩ (.int .i64 pa))
  rw[← hwn]at hx ht ⊢
  replace HX:=Hd hx
  replace HU:=Hd (HU.out.into HG7.out.1 HG7.out.2.2.2.1 ht)
  replace HT:=Hd (HT.out.turn ht HG7.out.2.1.symm HG7.out.2.2.1)
  replace HV:=Hd (HV.out.turn ht HG7.out.2.2.2.2)
  clear hx ht hwn
  apply wp_region_lit
  obtain⟨CC,hCC⟩:=Xq ((clipC ⟨LL,4,sa,sb,0,0,pa,ByteArray.empty,0,[]⟩).toArray)
  have HCC:=Hd hCC
  clear hCC
  refine wpl_load HX.out.c rfl rfl rfl ?_
  rw[← HCC.out]
  simp only[Act.put,sA1,sB1,sC1]
  refine wpl_storeC ⟨LL,4,sa,sb,0,0,pa,ByteArray.empty,0,[]⟩ HV.out rfl rfl rfl (by rw[← HCC.out];rfl) ?_
  have hv:=HV.out.put ⟨LL,4,sa,sb,0,0,pa,ByteArray.empty,0,[]⟩
  have ht:=Turn.cells g6 0 (clipC ⟨LL,4,sa,sb,0,0,pa,ByteArray.empty,0,[]⟩) w9s
  obtain⟨wz,hwz⟩:=Xq (World.setCells w9s g6 0 (clipC ⟨LL,4,sa,sb,0,0,pa,ByteArray.empty,0,[]⟩))
  rw[← hwz]at hv ht ⊢
  replace HU:=Hd (HU.out.into HG.out.1 HG.out.2.2.2 ht)
  replace HT:=Hd (HT.out.turn ht HG.out.2.1.symm HG.out.2.2.1)
  have HV9:=Hd hv
  clear hv ht hwz HX HV
  simp only[Act.put,sA1,sB1,sC1]
  iterate 4 go_step
  refine bodyPost_ret (v:=.agg CC) (by rw[HCC.out];exact results_clip Tryz.results44 rfl HV9.out.c) rfl ⟨⟨_,by rw[HCC.out];rfl,?_⟩,TQ.of (by omega) HT.out HU.out⟩
  exact⟨hL0,hL1,Hsa.out,Hsb.out,rfl,rfl,.inr (.inr (.inr (.inr (.inl ⟨rfl,rfl,rfl,pa0,by show pa≤255;omega,rfl⟩)))),fun h=>by simp[shares]at h⟩
 have x1:=HX.out.c.k1
 simp only[Nat.zero_add]at x1
 go_wp2_with fail
 refine(source_any B p (k+1+1) _ HT.out (by omega)).mono ?_
 clear x1
 rintro e w7 ⟨⟨sa,rfl,hsa⟩,⟨ksa,hksa,hT_⟩,ht⟩
 replace HU:=Hd (HU.out.trans ht)
 replace HV:=Hd (HV.out.turn ht HG.out.2.1)
 replace HX:=Hd (HX.out.turn ht HG7.out.2.1)
 replace HT:=Hd hT_
 clear hT_ ht
 have Hsa:=Hd hsa
 clear hsa
 dsimp only
 iterate 4 go_step
 refine wpl_storeS sa none rfl (HX.out.thereS 2 (by decide)) rfl rfl rfl rfl ?_
 have hx:=HX.out.seta sa
 have ht:=Turn.cells g7 2 (srcC sa) w7
 obtain⟨w7s,hwn⟩:=Xq (World.setCells w7 g7 2 (srcC sa))
 rw[← hwn]at hx ht ⊢
 replace HX:=Hd hx
 replace HU:=Hd (HU.out.into HG7.out.1 HG7.out.2.2.2.1 ht)
 replace HT:=Hd (HT.out.turn ht HG7.out.2.1.symm HG7.out.2.2.1)
 replace HV:=Hd (HV.out.turn ht HG7.out.2.2.2.2)
 clear hx ht hwn
 simp only[Act.put,sA1,sB1,sC1]
 have x1:=HX.out.c.k1
 simp only[Nat.zero_add]at x1
 go_upto_region 17 with fail
 clear x1
 apply wp_region_lit
 refine Great.wpList_buildSliceTo rfl 107 9 4 #[(0,.const (.string ⟨#[65]⟩)),(1,.const (.string ⟨#[82,69,69,76,32,55]⟩)),(2,.const (.string ⟨#[116,104,101,32,101,110,100,46]⟩)),(3,.const (.string ⟨#[49,50,58,51,48]⟩))] rfl _ rfl (some 66) rfl Tryz.underlying107 textTab ?_ ?_
 ·kernel_rfl
 obtain⟨w8,hw8⟩:=Xq (w7s.alloc (.cells textTab 9))
 obtain⟨gt,hgt⟩:=Xq (w7s.heap.size)
 have hb:Below w7s.heap.size w7s w8:=by rw[hw8];exact below_box _ _
 have HTX:=Hd (show w8.heap[gt]?=some (.cells textTab 9 (0,0)) by rw[hw8,hgt];exact(MapKept.heap_alloc w7s _).1)
 have HGT:=Hd (show gt≠p by have:=HT.out.2.1;omega)
 rw[← hw8,← hgt]
 replace HU:=Hd (HU.out.trans (Turn.of (g:=p) (Nat.le_of_lt HT.out.2.1) hb))
 replace HV:=Hd (HV.out.below hb)
 replace HX:=Hd (HX.out.below hb)
 replace HT:=Hd (HT.out.below (Nat.le_trans HT.out.1 (Nat.le_of_lt HT.out.2.1)) hb)
 clear hw8 hgt hb
 simp only[Act.put,sA1,sB1,sC1]
 go_wp2_with fail
 refine(next_any B p ksa 4 _ HT.out (by omega) (by omega) (by omega)).mono ?_
 rintro e w9 ⟨ti,rfl,ti0,ti1,hT_,hg_⟩
 have ht:=Turn.grown hg_ HT.out.2.1
 replace HTX:=Hd ((ht.o gt (Array.getElem?_eq_some_iff.1 HTX.out).1 HGT.out).trans HTX.out)
 obtain⟨ti,rfl⟩:∃ n:Nat,ti=n:=⟨ti.toNat,by omega⟩
 clear hg_
 replace HU:=Hd (HU.out.trans ht)
 replace HV:=Hd (HV.out.turn ht HG.out.2.1)
 replace HX:=Hd (HX.out.turn ht HG7.out.2.1)
 replace HT:=Hd hT_
 clear hT_ ht
 obtain⟨tx,y2,htx⟩:=text_get HTX.out (show ti<4 by omega)
 have HLN:=Hd htx
 clear htx
 have y1:=HX.out.c.k19
 simp only[Nat.zero_add]at y1
 have yf:=HX.out.f
 go_upto_region 18 with fail
 clear y1 yf y2
 have hx:=HX.out.set_text tx
 have ht:=Turn.cell g7 19 (.string tx) w9
 obtain⟨w9s,hwn⟩:=Xq (World.setCell w9 ⟨g7,19,none⟩ (.string tx))
 rw[← hwn]at hx ht ⊢
 replace HX:=Hd hx
 replace HU:=Hd (HU.out.into HG7.out.1 HG7.out.2.2.2.1 ht)
 replace HT:=Hd (HT.out.turn ht HG7.out.2.1.symm HG7.out.2.2.1)
 replace HV:=Hd (HV.out.turn ht HG7.out.2.2.2.2)
 clear hx ht hwn
 apply wp_region_lit
 obtain⟨CC,hCC⟩:=Xq ((clipC ⟨LL,5,sa,black,0,0,0,tx,0,[]⟩).toArray)
 have HCC:=Hd hCC
 clear hCC
 refine wpl_load HX.out.c rfl rfl rfl ?_
 rw[← HCC.out]
 simp only[Act.put,sA1,sB1,sC1]
 refine wpl_storeC ⟨LL,5,sa,black,0,0,0,tx,0,[]⟩ HV.out rfl rfl rfl (by rw[← HCC.out];rfl) ?_
 have hv:=HV.out.put ⟨LL,5,sa,black,0,0,0,tx,0,[]⟩
 have ht:=Turn.cells g6 0 (clipC ⟨LL,5,sa,black,0,0,0,tx,0,[]⟩) w9s
 obtain⟨wz,hwz⟩:=Xq (World.setCells w9s g6 0 (clipC ⟨LL,5,sa,black,0,0,0,tx,0,[]⟩))
 rw[← hwz]at hv ht ⊢
 replace HU:=Hd (HU.out.into HG.out.1 HG.out.2.2.2 ht)
 replace HT:=Hd (HT.out.turn ht HG.out.2.1.symm HG.out.2.2.1)
 have HV9:=Hd hv
 clear hv ht hwz HX HV
 simp only[Act.put,sA1,sB1,sC1]
 iterate 4 go_step
 refine bodyPost_ret (v:=.agg CC) (by rw[HCC.out];exact results_clip Tryz.results44 rfl HV9.out.c) rfl ⟨⟨_,by rw[HCC.out];rfl,?_⟩,TQ.of (by omega) HT.out HU.out⟩
 exact⟨hL0,hL1,Hsa.out,.inl rfl,rfl,rfl,.inr (.inr (.inr (.inr (.inr ⟨rfl,rfl,rfl,rfl,rfl,HLN.out⟩)))),fun h=>by simp[shares]at h⟩
def Short (c:Clip):Prop:=Trk.VC 1000000 c∧c.len≤9∧c.a.name.size≠1
theorem TapeS.nz {s:Src} (h:TapeS s):s.name.size≠1:=by
 rcases h with rfl |h
 ·show(0:Nat)≠1;decide
 exact h.2.2.2.2.2.2.2
theorem TapeC.short {c:Clip} (h:TapeC c):Short c:=⟨h.vc,h.l1,h.a.nz⟩
theorem half_short {c:Clip} {m:Int} (h:TapeC c) (m0:1≤m) (m1:m≤4) (k2:c.kind≠2) (k3:c.kind≠3) (s0:c.a.sn=1) (s1:c.a.sd=1) (hb:c.b=black) :
  Short { c with len:=m,a:={ c.a with an:=c.a.an+c.len*c.a.ad } }:=by
 have l0:=h.l0
 have l1:=h.l1
 have hsh:shares c.kind=false:=by unfold shares;simp[k2,k3]
 rcases h.a with e |⟨h1,h2,h3,h4,h5,h6,h7⟩
 ·rw[e]at s0
  exact absurd s0 (by decide)
 have g:=h1.g
 have hv:svel c.a=6006:=by unfold svel;rw[s0,s1];rfl
 have hp:spos { c.a with an:=c.a.an+c.len*c.a.ad }=spos c.a+c.len*6006:=by
  show(c.a.an+c.len*c.a.ad)*(6006 / c.a.ad)=c.a.an*(6006 / c.a.ad)+c.len*6006
  have e:=Int.mul_ediv_cancel' h1.a
  rw[Int.add_mul,Int.mul_assoc,e]
 have hv2:svel { c.a with an:=c.a.an+c.len*c.a.ad }=6006:=hv
 have hg:Trk.Good { c.a with an:=c.a.an+c.len*c.a.ad }:=by
  refine⟨g.k,g.a0,?_,g.s0,g.s1⟩
  have e1:Int.gcd (c.a.an+c.len*c.a.ad) c.a.ad=Int.gcd c.a.an c.a.ad:=by rw[Int.gcd_add_mul_right_left]
  have e2:∀ n d:Int,1≤d→n.natAbs.gcd d.toNat=Int.gcd n d:=fun n d hd=>by
   show n.natAbs.gcd d.toNat=n.natAbs.gcd d.natAbs
   congr 1
   omega
  show(c.a.an+c.len*c.a.ad).natAbs.gcd c.a.ad.toNat=1
  rw[e2 _ _ g.a0,e1,← e2 _ _ g.a0]
  exact g.a1
 refine⟨⟨⟨.inr ⟨⟨hg,h1.a,h1.s⟩,h2,h3,by rw[hv2];decide,by rw[hv2];decide,by rw[hp];omega,by rw[hp];omega,?_,?_⟩,tape_in h.b (show 0≤m by omega) (show m≤32 by omega),h.ch,h.gn,?_⟩,m0,show m≤2147483647 by omega,fun hs=>?_⟩,show m≤9 by omega,h.a.nz⟩
 ·rw[hp,hv2];show _≤_+m*6006;omega
 ·rw[hp,hv2];show _+m*6006≤_;omega
 ·have k:=h.kd
  unfold KindOK at k ⊢
  rcases k with⟨k0,ka,_⟩ |k |k |k |k |k
  ·exact absurd (h2) (by rw[ka];decide)
  ·exact .inr (.inl k)
  ·exact .inr (.inr (.inl k))
  ·exact .inr (.inr (.inr (.inl k)))
  ·exact .inr (.inr (.inr (.inr (.inl k))))
  exact .inr (.inr (.inr (.inr (.inr k))))
 have hs':shares c.kind=true:=hs
 rw[hsh]at hs'
 cases hs'
theorem CV.set_an {w:World} {b:Nat} {c:Clip} (h:CV w b c) (v:Int):CV (w.setCell ⟨b,4,none⟩ (.int .i64 v)) b { c with a:={ c.a with an:=v } }:=by
 obtain⟨h0,f⟩:=h
 obtain⟨x0,x1,x2,x3,x4,x5,x6,x7,x8,x9,x10,x11,x12,x13,x14,x15,x16,x17,x18,x19,x20,x21⟩:=h0.at0
 exact⟨by constructor<;>simp[go_sem,x0,x1,x2,x3,x4,x5,x6,x7,x8,x9,x10,x11,x12,x13,x14,x15,x16,x17,x18,x19,x20,x21],fun o=>(World.frozen?_setCell _ _ _ _).trans (f o)⟩
theorem Turn.low {w w1 w2:World} {p:Nat} (h:Turn p w w1) (hp:p<w.heap.size) (hb:Below w.heap.size w1 w2):Turn p w w2:=
 ⟨Nat.le_trans h.s hb.size,fun b hbw hn=>(hb.block b hbw).trans (h.o b hbw hn),fun n w0 hn hbb=>(h.b n w0 hn hbb).trans (hb.mono (by omega))⟩
theorem TP.low {w w':World} {B p k n:Nat} (h:TP w B p k) (hB:B≤n) (hp:p<n) (hb:Below n w w'):TP w' B p k:=by
 obtain⟨h1,h2,ao,m,c,c0,c1,hf,h3,h4,h5⟩:=h
 refine⟨h1,Nat.lt_of_lt_of_le h2 hb.size,ao,m,c,(hb.cell hp).trans c0,(hb.cell hp).trans c1,(hb.frozen (p:=⟨p,1,none⟩) hp).trans hf,h3,h4,fun i hi=>?_⟩
 obtain⟨b,o,x,e,hbB,hc⟩:=h5 i hi
 exact⟨b,o,x,e,hbB,(hb.cell (Nat.lt_of_lt_of_le hbB hB)).trans hc⟩
theorem OT.turn {w w':World} {B p:Nat} {v:Value} {l:List Clip} (h:OT w B v l) (ht:Turn p w w') (hp:p<B):OT w' B v l:=
 h.blocks fun g kk cp e=>ht.o g (h.blk e).2 (by have:=(h.blk e).1;omega)
def ShortL (l:List Clip):Prop:=∀ c∈l,Short c
theorem ShortL.snoc {l:List Clip} {c:Clip} (h:ShortL l) (hc:Short c):ShortL (l++[c]):=fun x hx=>by
 rcases List.mem_append.1 hx with hx |hx
 ·exact h x hx
 simp at hx;subst hx;exact hc
def TrackPost (w:World) (B p k j n:Nat) (e:Ending) (w':World):Prop:=(∃ v l,e=.returned v∧OT w' w.heap.size v l∧ShortL l∧l.length≤n)∧TQ w B p k j w'
theorem track_any (B p k m : Nat) (w : World) (ht : TP w B p k) (hk : k < 500000) (hm : m ≤ 20) :
  Calls Tryz.prog 43 #[.pointer (some ⟨p,0,none⟩),.int .i64 3,.int .i64 2,.int .i64 (m:Int)] w (TrackPost w B p k (1+m*30) (2*m)):=by
 have HT:=Hd ht
 have hB:=ht.1
 have hp:=ht.2.1
 clear ht
 go_enter Tryz.func43,Tryz.ntmps43
 go_wp2_with fail
 refine(next_any B p k ((m:Int)+1) _ HT.out (by omega) (by omega) (by omega)).mono ?_
 rintro e w1 ⟨r,rfl,r0,r1,hT_,hg_⟩
 obtain⟨r,rfl⟩:∃ n:Nat,r=n:=⟨r.toNat,by omega⟩
 have HU:=Hd (Turn.grown hg_ HT.out.2.1)
 replace HT:=Hd hT_
 have hrm:r≤m:=by omega
 clear hT_ hg_ r0 r1
 go_wp2_with fail
 go_loopw [9,10] (fun v9 v10 wr=>∃ (j k':Nat) (l:List Clip),j≤r∧v10=.int .i64 (j:Int)∧OT wr w.heap.size v9 l∧Hid (ShortL l)∧l.length+2*j≤2*r∧k'+j*30≤k+1+r*30∧TP wr B p k'∧Turn p w wr) (fun _ i _=>(intOf i).toNat)
 case atStart=>exact⟨r,k+1,[],Nat.le_refl _,rfl,OT.nil _ _,Hd (fun c hc=>by cases hc),by simp,by omega,HT.out,HU.out⟩
 case round =>
  clear HT HU
  obtain⟨j,k',l,hj,rfl,ho,HSL,hlen,hk',ht,hu⟩:=hrel
  have HO:=Hd ho
  have HT:=Hd ht
  have HU:=Hd hu
  clear ho ht hu
  by_cases hj0:0<j
  ·have hj0':(0:Int)<(j:Int):=by omega
   go_wp2_with fail
   refine(clip_any B p k' _ HT.out (by omega)).mono ?_
   rintro e w2 ⟨⟨c,rfl,hc⟩,⟨k2,hk2,hT_⟩,ht⟩
   replace HU:=Hd (HU.out.trans ht)
   replace HO:=Hd (HO.out.turn ht hp)
   replace HT:=Hd hT_
   have HC:=Hd hc
   clear hT_ ht hc
   unfold clipV
   obtain⟨C,hC⟩:=Xq ((clipC c).toArray)
   rw[← hC]
   have HCC:=Hd hC
   clear hC
   dsimp only
   iterate 1 go_step
   refine wpl_alloc rfl rfl (fun w3 hg hb2 hs2=>?_)
   obtain⟨g11,hg11⟩:=Xq (w2.heap.size)
   rw[← hg11]at hg ⊢
   have HNO:=Hd (show ∀ g kk cp,u9=.slice (some ⟨g,0,none⟩) kk cp→g<g11 from fun g kk cp e=>by rw[hg11];exact(HO.out.blk e).2)
   have HG:=Hd (show w.heap.size≤g11∧g11≠p by have h1:=HT.out.2.1;have h2:=HU.out.s;omega)
   replace HO:=Hd (HO.out.below hb2)
   replace HU:=Hd (HU.out.low hp (hb2.mono HU.out.s))
   replace HT:=Hd (HT.out.below (Nat.le_trans HT.out.1 (Nat.le_of_lt HT.out.2.1)) hb2)
   clear hb2 hs2
   simp only[Act.put,sA1,sB1,sC1]
   refine wpl_storeC c hg rfl rfl rfl (by rw[← HCC.out];rfl) ?_
   have hv:=hg.put c
   have ht:=Turn.cells g11 0 (clipC c) w3
   have hb3:Below w.heap.size w3 (w3.setCells g11 0 (clipC c)):=ht.b _ _ HG.out.1 (Below.refl _ _)
   obtain⟨w4,hw4⟩:=Xq (w3.setCells g11 0 (clipC c))
   rw[← hw4]at hv ht hb3 ⊢
   have HX:=Hd hv
   replace HO:=Hd (HO.out.blocks (fun g kk cp e=>ht.o g (by have:=HNO.out g kk cp e;have:=hg.lt;omega) (by have:=HNO.out g kk cp e;omega)))
   replace HU:=Hd (HU.out.low hp hb3)
   replace HT:=Hd (HT.out.low (show B≤w.heap.size by omega) hp hb3)
   clear hv ht hw4 hg hg11 hb3
   simp only[Act.put,sA1,sB1,sC1]
   go_upto_region 6 with fail
   apply wp_region_lit
   iterate 3 go_step
   refine wpl_load HX.out.c rfl rfl rfl ?_
   rw[← HCC.out]
   simp only[Act.put,sA1,sB1,sC1]
   refine Great.wpList_buildSliceTo rfl 23 48 1 #[(0,.tmp 27)] rfl w4.heap.size rfl _ rfl Tryz.underlying23 C ?_ ?_
   ·simp only[List.map_toArray,List.map_cons,List.map_nil,List.toList_toArray]
    rw[HCC.out]
    exact built_clip c
   have hbx:CA (w4.alloc (.cells C 48)) w4.heap.size 0 c:=by rw[HCC.out];exact CA.box w4 c 48
   have hb:Below w4.heap.size w4 (w4.alloc (.cells C 48)):=below_box _ _
   have hsz:w.heap.size≤(w4.alloc (.cells C 48)).heap.size:=Nat.le_trans HU.out.s hb.size
   replace HO:=Hd (HO.out.below hb)
   have HBX:=Hd hb
   clear hb
   simp only[Act.put,sA1,sB1,sC1]
   refine wpList_appT 23 Tryz.underlying23 _ rfl (.tmp 26) (.tmp 28) rfl rfl w.heap.size u9 l rfl HO.out hsz w4.heap.size 1 c rfl hbx (by have:=hlen;simp;omega) ?_
   intro vn w5 r1 r2 r3 r4
   simp only[Act.put,sA1,sB1,sC1]
   have hbl:Below w.heap.size w4 w5:=(HBX.out.mono HU.out.s).trans r2
   replace HX:=Hd (HX.out.same ((r3 g11 (Nat.lt_of_lt_of_le HX.out.lt HBX.out.size) (fun g cp e=>by have:=HNO.out g _ cp e;omega)).trans (HBX.out.block g11 HX.out.lt)))
   replace HO:=Hd r1
   replace HU:=Hd (HU.out.low hp hbl)
   replace HT:=Hd (HT.out.low (show B≤w.heap.size by omega) hp hbl)
   clear r1 r2 r3 r4 hbl hbx hsz HBX HNO
   go_wp2_with fail
   refine(next_any B p k2 4 _ HT.out (by omega) (by omega) (by omega)).mono ?_
   rintro e w6 ⟨q,rfl,q0,q1,hT_,hg_⟩
   have ht:=Turn.grown hg_ HT.out.2.1
   replace HU:=Hd (HU.out.trans ht)
   replace HO:=Hd (HO.out.turn ht hp)
   replace HX:=Hd (HX.out.turn ht HG.out.2)
   replace HT:=Hd hT_
   clear hT_ hg_ ht
   obtain⟨va,vc,rfl⟩:∃ va vc,vn=.slice va (l.length+1) vc:=by
    obtain⟨ao,cp,e,_⟩:=HO.out.tk
    rw[List.length_append]at e
    exact⟨ao,cp,e⟩
   obtain⟨N,hN⟩:=Xq (l.length)
   rw[← hN]at HO hlen ⊢
   have HNL:=Hd hN
   clear hN
   have hN64:((N:Int)+1)<64:=by omega
   by_cases hq0:q=0
   ·subst hq0
    go_upto_region 9 with fail
    apply wp_region_lit
    refine wpl_load HX.out.c rfl rfl rfl ?_
    rw[← HCC.out]
    refine wpl_alloc rfl rfl (fun w7 hg hb2 hs2=>?_)
    obtain⟨g13,hg13⟩:=Xq (w6.heap.size)
    rw[← hg13]at hg ⊢
    have HNO:=Hd (show ∀ g kk cp,Value.slice va (N+1) vc=.slice (some ⟨g,0,none⟩) kk cp→g<g13 from fun g kk cp e=>by rw[hg13];exact(HO.out.blk e).2)
    have HG3:=Hd (show w.heap.size≤g13∧g13≠p∧g11≠g13 by have h1:=HT.out.2.1;have h2:=HU.out.s;have h3:=HX.out.lt;omega)
    replace HO:=Hd (HO.out.below hb2)
    replace HX:=Hd (HX.out.below hb2)
    replace HU:=Hd (HU.out.low hp (hb2.mono HU.out.s))
    replace HT:=Hd (HT.out.below (Nat.le_trans HT.out.1 (Nat.le_of_lt HT.out.2.1)) hb2)
    clear hb2 hs2
    simp only[Act.put,sA1,sB1,sC1]
    refine wpl_storeC c hg rfl rfl rfl (by rw[← HCC.out];rfl) ?_
    have hv:=hg.put c
    have ht:=Turn.cells g13 0 (clipC c) w7
    have hb3:Below w.heap.size w7 (w7.setCells g13 0 (clipC c)):=ht.b _ _ HG3.out.1 (Below.refl _ _)
    obtain⟨w8,hw8⟩:=Xq (w7.setCells g13 0 (clipC c))
    rw[← hw8]at hv ht hb3 ⊢
    have HY:=Hd hv
    replace HO:=Hd (HO.out.blocks (fun g kk cp e=>ht.o g (by have:=HNO.out g kk cp e;have:=hg.lt;omega) (by have:=HNO.out g kk cp e;omega)))
    replace HX:=Hd (HX.out.turn ht HG3.out.2.2)
    replace HU:=Hd (HU.out.low hp hb3)
    replace HT:=Hd (HT.out.low (show B≤w.heap.size by omega) hp hb3)
    clear hv ht hw8 hg hg13 hb3
    simp only[Act.put,sA1,sB1,sC1]
    go_wp2_with fail
    refine(next_any B p (k2+1) 4 _ HT.out (by omega) (by omega) (by omega)).mono ?_
    rintro e w9 ⟨i,rfl,i0,i1,hT_,hg_⟩
    have ht:=Turn.grown hg_ HT.out.2.1
    replace HU:=Hd (HU.out.trans ht)
    replace HO:=Hd (HO.out.turn ht hp)
    replace HX:=Hd (HX.out.turn ht HG.out.2)
    replace HY:=Hd (HY.out.turn ht HG3.out.2.1)
    replace HT:=Hd hT_
    clear hT_ hg_ ht
    have y1:=HY.out.c.k0
    have yf:=HY.out.f
    go_upto_region 11 with fail
    clear y1 yf
    obtain⟨ml,hml⟩:=Xq (1+i)
    rw[← hml]
    have hml0:1≤ml:=by omega
    have hml1:ml≤4:=by omega
    clear hml i0 i1
    have hv:=HY.out.set_len ml
    have ht:=Turn.cell g13 0 (.int .i64 ml) w9
    have hb3:Below w.heap.size w9 (w9.setCell ⟨g13,0,none⟩ (.int .i64 ml)):=ht.b _ _ HG3.out.1 (Below.refl _ _)
    obtain⟨w10,hw10⟩:=Xq (w9.setCell ⟨g13,0,none⟩ (.int .i64 ml))
    rw[← hw10]at hv ht hb3 ⊢
    replace HO:=Hd (HO.out.blocks (fun g kk cp e=>ht.o g (HO.out.blk e).2 (by have:=HNO.out g kk cp e;omega)))
    replace HX:=Hd (HX.out.turn ht HG3.out.2.2)
    replace HY:=Hd hv
    replace HU:=Hd (HU.out.low hp hb3)
    replace HT:=Hd (HT.out.low (show B≤w.heap.size by omega) hp hb3)
    clear hv ht hw10 hb3
    go_cut [64] from 44 to 83 (fun v64 wx=>∃ tb:Bool,v64=.bool tb∧Hid (tb=true→c.kind≠2∧c.kind≠3∧c.a.sn=1∧c.a.sd=1∧c.b=black)∧wx=w10)
    case first=>
     obtain⟨_,x1,_,_,_,_,x6,x7,_,x9,x10,x11,x12,x13,x14,x15,_⟩:=HX.out.c.at0
     have hbk:c.b=black∨c.b.kind=1∨c.b.kind=2:=by rcases HC.out.b with h |h;exact .inl h;exact .inr h.2.1
     have HBK:=Hd hbk
     clear hbk
     obtain⟨kd,hkd⟩:=Xq (c.kind)
     obtain⟨sn,hsn⟩:=Xq (c.a.sn)
     obtain⟨sd,hsd⟩:=Xq (c.a.sd)
     rw[← hkd]at x1
     rw[← hsn]at x6
     rw[← hsd]at x7
     have HEQ:=Hd (And.intro hkd (And.intro hsn hsd))
     clear hkd hsn hsd
     by_cases k2':kd=2
     ·have f2:(kd != 2)=false:=by simp[k2']
      clear k2'
      go_wp2_with fail
      all_goals go_meet
      all_goals exact⟨_,rfl,Hd (fun h=>by cases h),rfl⟩
     have f2:(kd != 2)=true:=by simp[k2']
     by_cases k3':kd=3
     ·have f3:(kd != 3)=false:=by simp[k3']
      clear k2' k3'
      go_wp2_with fail
      all_goals go_meet
      all_goals exact⟨_,rfl,Hd (fun h=>by cases h),rfl⟩
     have f3:(kd != 3)=true:=by simp[k3']
     have HKK:=Hd (And.intro k2' k3')
     clear k2' k3'
     by_cases s1:sn=1
     ·by_cases s2:sd=1
      ·have HSS:=Hd (And.intro s1 s2)
       subst s1
       subst s2
       rcases HBK.out with hb |hb
       ·rw[hb]at x9 x10 x11 x12 x13 x14 x15
        simp only[black,show(ByteArray.empty:ByteArray)=⟨#[]⟩ from rfl]at x9 x10 x11 x12 x13 x14 x15
        have HBB:=Hd hb
        clear hb
        go_wp2_with fail
        all_goals go_meet
        all_goals exact⟨_,rfl,Hd (fun h=>⟨by rw[← HEQ.out.1];exact HKK.out.1,by rw[← HEQ.out.1];exact HKK.out.2,HEQ.out.2.1.symm,HEQ.out.2.2.symm,HBB.out⟩),rfl⟩
       obtain⟨bk,hbk⟩:=Xq (c.b.kind)
       rw[← hbk]at x9 hb
       have hb0:(bk==0)=false:=by rcases hb with h |h<;>simp[h]
       have hb1:¬bk=0:=by simpa using hb0
       clear hb hbk
       go_wp2_with fail
       all_goals go_meet
       all_goals exact⟨_,rfl,Hd (fun h=>by first |cases h |(simp at h)),rfl⟩
      have g2:(sd==1)=false:=by simpa using s2
      go_wp2_with fail
      all_goals go_meet
      all_goals exact⟨_,rfl,Hd (fun h=>by first |cases h |(simp at h)),rfl⟩
     have g1:(sn==1)=false:=by simpa using s1
     go_wp2_with fail
     all_goals go_meet
     all_goals exact⟨_,rfl,Hd (fun h=>by first |cases h |(simp at h)),rfl⟩
    obtain⟨tb,rfl,HTB,rfl⟩:=hcut
    cases tb
    ·go_wp2_with fail
     go_roundw
     case rel=>exact⟨j-1,k2+1+1,l++[c],by omega,by congr 1;omega,HO.out,Hd (HSL.out.snoc HC.out.short),by rw[List.length_append,← HNL.out];show N+1+2*(j-1)≤_;omega,by omega,HT.out,HU.out⟩
     case measure=>
      show((j:Int)-1).toNat<((j:Int)).toNat
      omega
    obtain⟨c2,c3,cs,cd,cb⟩:=HTB.out rfl
    have HHS:=Hd (half_short HC.out hml0 hml1 c2 c3 cs cd cb)
    have hml9:=HC.out.l1
    have hml8:=HC.out.l0
    have han : 0 ≤ c.a.an ∧ c.a.an ≤ 1000000 ∧ 0 ≤ c.a.ad ∧ c.a.ad ≤ 6006 := by
     rcases tape_in HC.out.a (show(0:Int)≤1 by decide) (by decide) with e |h
     ·rw[e]at cs;exact absurd cs (by decide)
     have h1:=h.nums
     have h2:0≤c.a.an:=by
      rcases HC.out.a with e |⟨g1,_,_,_,_,g6,_⟩
      ·rw[e]at cs;exact absurd cs (by decide)
      unfold spos at g6
      have hq:0<6006 / c.a.ad:=Int.ediv_pos_of_pos_of_dvd (by decide) (by omega) g1.a
      rcases Int.lt_or_le c.a.an 0 with hn |hn
      ·have:=Int.mul_neg_of_neg_of_pos hn hq
       omega
      exact hn
     omega
    obtain⟨ha0,ha1,ha2,ha3⟩:=han
    have hmu:=mul_bound0 (d:=c.len) (D:=9) (v:=c.a.ad) (V:=6006) (by omega) (by omega) (by omega) ha3
    obtain⟨hmu0,hmu1⟩:=hmu
    have y0:=HX.out.c.k0
    have z4:=HY.out.c.k4
    have z5:=HY.out.c.k5
    simp only[Nat.zero_add]at z4 z5
    have yf:=HY.out.f
    have c4:({ c with len:=ml }:Clip).a.an=c.a.an:=rfl
    have c5:({ c with len:=ml }:Clip).a.ad=c.a.ad:=rfl
    rw[c4]at z4
    rw[c5]at z5
    clear c2 c3 cs cd cb c4 c5
    go_upto_region 13 with fail
    clear y0 z4 z5 yf
    have hv:=HY.out.set_an (c.a.an+c.len*c.a.ad)
    have ht:=Turn.cell g13 4 (.int .i64 (c.a.an+c.len*c.a.ad)) wc
    have hb3:Below w.heap.size wc (wc.setCell ⟨g13,4,none⟩ (.int .i64 (c.a.an+c.len*c.a.ad))):=ht.b _ _ HG3.out.1 (Below.refl _ _)
    obtain⟨w11,hw11⟩:=Xq (wc.setCell ⟨g13,4,none⟩ (.int .i64 (c.a.an+c.len*c.a.ad)))
    rw[← hw11]at hv ht hb3 ⊢
    replace HO:=Hd (HO.out.blocks (fun g kk cp e=>ht.o g (HO.out.blk e).2 (by have:=HNO.out g kk cp e;omega)))
    replace HY:=Hd hv
    replace HU:=Hd (HU.out.low hp hb3)
    replace HT:=Hd (HT.out.low (show B≤w.heap.size by omega) hp hb3)
    clear hv ht hw11 hb3 hmu0 hmu1 ha0 ha1 ha2 ha3 HX HCC
    obtain⟨dd,hdd⟩:∃ dd:Clip,dd={ c with len:=ml,a:={ c.a with an:=c.a.an+c.len*c.a.ad } }:=⟨_,rfl⟩
    replace HY:=Hd (show CV w11 g13 dd by rw[hdd];exact HY.out)
    rw[← hdd]at HHS
    clear hdd
    obtain⟨E,hE⟩:=Xq ((clipC dd).toArray)
    have HEE:=Hd hE
    clear hE
    apply wp_region_lit
    iterate 3 go_step
    refine wpl_load HY.out.c rfl rfl rfl ?_
    rw[← HEE.out]
    simp only[Act.put,sA1,sB1,sC1]
    refine Great.wpList_buildSliceTo rfl 23 48 1 #[(0,.tmp 81)] rfl w11.heap.size rfl _ rfl Tryz.underlying23 E ?_ ?_
    ·simp only[List.map_toArray,List.map_cons,List.map_nil,List.toList_toArray]
     rw[HEE.out]
     exact built_clip dd
    have hbx:CA (w11.alloc (.cells E 48)) w11.heap.size 0 dd:=by rw[HEE.out];exact CA.box w11 dd 48
    have hb:Below w11.heap.size w11 (w11.alloc (.cells E 48)):=below_box _ _
    have hsz:w.heap.size≤(w11.alloc (.cells E 48)).heap.size:=Nat.le_trans HU.out.s hb.size
    replace HO:=Hd (HO.out.below hb)
    have HBX:=Hd hb
    clear hb
    simp only[Act.put,sA1,sB1,sC1]
    refine wpList_appT 23 Tryz.underlying23 _ rfl (.tmp 80) (.tmp 82) rfl rfl w.heap.size (.slice va (N+1) vc) (l++[c]) rfl HO.out hsz w11.heap.size 1 dd rfl hbx (by have:=hlen;have:=HNL.out;simp;omega) ?_
    intro vm w12 r1 r2 r3 r4
    simp only[Act.put,sA1,sB1,sC1]
    have hbl:Below w.heap.size w11 w12:=(HBX.out.mono HU.out.s).trans r2
    replace HO:=Hd r1
    replace HU:=Hd (HU.out.low hp hbl)
    replace HT:=Hd (HT.out.low (show B≤w.heap.size by omega) hp hbl)
    clear r1 r2 r3 r4 hbl hbx hsz HBX HNO
    go_wp2_with fail
    go_roundw
    case rel=>exact⟨j-1,k2+1+1,l++[c]++[dd],by omega,by congr 1;omega,HO.out,Hd ((HSL.out.snoc HC.out.short).snoc HHS.out),by rw[List.length_append,List.length_append,← HNL.out];show N+1+1+2*(j-1)≤_;omega,by omega,HT.out,HU.out⟩
    case measure=>
     show((j:Int)-1).toNat<((j:Int)).toNat
     omega
   have hqb:(q==0)=false:=by simpa using hq0
   go_wp2_with fail
   go_roundw
   case rel=>exact⟨j-1,k2+1,l++[c],by omega,by congr 1;omega,HO.out,Hd (HSL.out.snoc HC.out.short),by rw[List.length_append,← HNL.out];show N+1+2*(j-1)≤_;omega,by omega,HT.out,HU.out⟩
   case measure=>
    show((j:Int)-1).toNat<((j:Int)).toNat
    omega
  have hj1:j=0:=by omega
  subst hj1
  go_wp2_with fail
  go_ret
  exact⟨⟨_,l,rfl,HO.out,HSL.out,by omega⟩,⟨k',by omega,HT.out⟩,HU.out⟩
def Ints (w:World) (v:Value):Prop:=∃ ao n c,v=.slice ao n c∧n≤c∧n≤9223372036854775807∧∀ i,i<n→∃ b o x,ao=some ⟨b,o,none⟩∧w.cell? ⟨b,o+i,none⟩=some (.int .i64 x)
theorem short_total:∀ {l:List Clip},ShortL l→Trk.total l≤9*l.length
 |[],_=>by show(0:Int)≤_;simp
 |c::l,h=>by
  have ih:=short_total (l:=l) fun x hx=>h x (List.mem_cons_of_mem _ hx)
  have hc:=(h c List.mem_cons_self).2.1
  rw[total_cons,List.length_cons]
  omega
theorem nf_vt {L:Int} {t:List Clip} (h:VT L t):VT L (nf t):=
 ⟨nf_vl h.v (by have:=h.t;omega),Nat.le_trans (nf_length h.v.good) h.n,Int.le_trans (nf_total h.v.good) h.t⟩
theorem exl_vl {L:Int} {n:List Clip} {e:Ed} (hV:VT L n) (hE:ExV L e) (hee:(if e.k=1 then max e.p (Trk.total n) else e.p)+e.T≤2147483647) :
  VL L (e.exl n)∧Trk.total (e.exl n)≤2147483647∧(e.exl n).length≤n.length+1+1+64+(n.length+1):=by
 have hx:=hE.x
 have o:=hx.of hV.v.good
 have pt:=hx.put_total
 have tn:=total_nonneg hV.v.good
 have hp:=hx.p
 have hr:=hx.rem_nonneg
 have h1:=hV.t
 have ht:=hx.t
 have hrem:e.rem=if e.k=1 then 0 else e.T:=rfl
 refine⟨?_,?_,?_⟩
 ·show VL L (exL n e.p e.rem e.put)
  unfold exL
  refine((((cut_vl hV.v (Int.le_refl 0) (by omega) (by omega)).append (gapL_vl (by have:=hE.p;omega))).append ?_).append (aft_vl hV.v (by omega) h1))
  show VL L (if e.k=4 then[gap e.m] else e.ins)
  split
  ·rename_i h4
   have hT:e.T=e.m:=by unfold Ed.T;rw[if_neg (by omega)]
   exact VL.cons (gap_vc (by omega) (by have:=hE.t;omega)) VL.nil
  exact hE.v.v
 ·rw[o.t,pt,hrem]
  by_cases k1:e.k=1
  ·rw[if_pos k1]at hee ⊢
   rw[if_neg (by omega)]
   omega
  rw[if_neg k1]at hee ⊢
  have:=hE.p
  split<;>omega
 have h2:=o.n
 have h3:e.put.length≤64:=by
  show(if e.k=4 then[gap e.m] else e.ins).length≤64
  split
  ·simp
  exact hE.v.n
 omega
theorem apply_x {L:Int} (v u:Value) (t:List Clip) (e:Ed) (w:World) (h:Tk w v t) (hu:Tk w u e.ins) (hV:VT L t) (hE:ExV L e) (hL:L≤140737488355328) (hn:(nf t).length≤63)
  (hee:(if e.k=1 then max e.p (Trk.total (nf t)) else e.p)+e.T≤2147483647) (hl:(nf (e.exl (nf t))).length≤64) :
  Calls Tryz.prog 45 #[v,EdV e u] w (EdPost w (nf t) (nf (e.exl (nf t))) e.p (e.p+e.T) (undoK e.k)):=by
 have hx:=exl_vl (nf_vt hV) hE hee
 refine(apply_exch (M:=L) v u t (e.exl (nf t)) e.k e.p e.m e.c e.d e.sn e.sd e.p (e.p+e.T) (undoK e.k) 0 true w h e.ins hu hV hL hE.x.k (fun w' hu'=>valid_ex u e w' hu' hE hL)
  (fun _ w' vn hn' hu'=>(ex_any vn u (nf t) e w' hn' hu' (nf_vt hV) hE.v hL hn hE.x hee).mono fun _ _ h=>.inl ⟨rfl,h⟩) (fun _=>⟨hx.1,hx.2.1,by omega,hl⟩) hL (by decide)).mono ?_
 rintro ev w' (⟨_,_,h⟩ |⟨h,_⟩)
 ·exact h
 rcases h with h |h
 ·cases h
 exact absurd rfl h
theorem adj_ok {L:Int} {n:List Clip} {k:Int} {c:Nat} {d sn sd:Int} (hV:VT L n) (hd:d.natAbs≤2147483648) (hk:k=10→SpeedOK sn sd) (hk2:5≤k∧k≤10) (h0:adjCode n k c d sn sd=0) :
  VL (L+2147483648*18018+2147483648*18018+2147483647*18018) (adjL n k c d sn sd)∧Trk.total (adjL n k c d sn sd)≤2147483647∧missingL n k c=false:=by
 unfold adjCode at h0
 split at h0
 ·cases h0
 rename_i hm
 split at h0
 ·cases h0
 rename_i hb
 split at h0
 ·cases h0
 rename_i hx
 have hm':missingL n k c=false:=by simpa using hm
 have hx1:Trk.total (adjL n k c d sn sd)≤2147483647:=by
  rcases Int.lt_or_le 2147483647 (Trk.total (adjL n k c d sn sd)) with h |h
  ·exact absurd (.inl h) hx
  exact h
 have hx2:∀ x∈adjL n k c d sn sd,okLen x:=Classical.not_not.1 fun h=>hx (.inr h)
 have hcl:=adj_cls (L:=L) (D:=2147483648) (M:=2147483647) (n:=n) (k:=k) (d:=d) (sn:=sn) (sd:=sd) (c:=c) (fun y hy=>(hV.v y hy).c) (by omega) (by omega)
  (fun y hy => ⟨by have := (hV.v y hy).l.1; omega, (hV.v y hy).l.2.1⟩) (by decide) (by
   by_cases h10:k=10
   ·exact .inr (.inr (.inr (.inr (.inr ⟨hk h10,fun h=>hb ⟨h10,h⟩⟩))))
   omega)
 exact⟨fun x hx=>⟨hcl x hx,hx2 x hx⟩,hx1,hm'⟩
def ClipsPost (w:World) (n:List Clip) (k:Int) (c:Nat) (d sn sd:Int) (ok:Bool) (e:Ending) (w':World):Prop:=
 (ok=true∧adjCode n k c d sn sd=0∧EdPost w n (nf (adjL n k c d sn sd)) (fromL n k c d) (toL n k c d) (undK k d) e w') ∨
 ((ok=false∨adjCode n k c d sn sd≠0)∧e=.returned (.tuple #[.slice none 0 0,edV 0 0 0 0 0 0 0 (.slice none 0 0),.int .i64 (if ok=true then adjCode n k c d sn sd else 1)])∧Below w.heap.size w w')
theorem code_bd (n:List Clip) (k:Int) (c:Nat) (d sn sd:Int):-1000≤adjCode n k c d sn sd∧adjCode n k c d sn sd≤1000:=by
 unfold adjCode
 split
 ·decide
 split
 ·decide
 split<;>decide
theorem apply_c {L:Int} (v:Value) (t:List Clip) (k:Int) (c:Nat) (d:Int) (cap:Nat) (ao:Option Addr) (w:World) (h:Tk w v t) (hV:VT L t) (hL:L≤1000000000) (hn:(nf t).length≤63) (hk:5≤k∧k≤9) (hc:c≤1048576) (hcap:cap≤maxLen)
  (hd:-2147483648≤d∧d≤2147483648) :
  Calls Tryz.prog 45 #[v,edV k 0 0 (c:Int) d 0 0 (.slice ao 0 cap)] w (ClipsPost w (nf t) k c d 0 0 (decide (d≠0∧-2147483647≤d∧d≤2147483647))):=by
 obtain⟨ok,hok⟩:=Xq (decide (d≠0∧-2147483647≤d∧d≤2147483647))
 rw[← hok]
 have hu:Tk w (.slice ao 0 cap) []:=⟨ao,cap,rfl,Nat.zero_le _,hcap,fun i x hi=>by simp at hi⟩
 refine apply_clip (M:=L+2147483648*18018+2147483648*18018+2147483647*18018) v (.slice ao 0 cap) t (adjL (nf t) k c d 0 0) k 0 0 (c:Int) d 0 0 (fromL (nf t) k c d) (toL (nf t) k c d) (undK k d) (adjCode (nf t) k c d 0 0) ok w h [] hu hV (by omega) (by omega)
  (fun w' _=>by rw[hok];exact valid_adj k c d ao cap w' hk hc)
  (fun ho w' vn hn' _=>?_) (fun h0=>?_) (by omega) (code_bd _ _ _ _ _ _)
 ·have hd2:=of_decide_eq_true (hok ▸ ho:decide (d≠0∧-2147483647≤d∧d≤2147483647)=true)
  exact adjust_any (D:=0) vn (.slice ao 0 cap) (nf t) k 0 0 c d 0 0 w' hn' ⟨_,_,_,rfl⟩ (nf_vt hV) hn (by omega) (fun _=>⟨by omega,hd2.1⟩) (fun h=>by omega) (by omega) hc
 have ha:=adj_ok (nf_vt hV) (by omega) (fun h=>by omega) (by omega) h0
 have hl:(adjL (nf t) k c d 0 0).length=(nf t).length:=adjL_length _ _ _ _ _ _
 exact⟨ha.1,ha.2.1,by omega,Nat.le_trans (nf_length ha.1.good) (by omega)⟩
theorem apply_r {L:Int} (v:Value) (t:List Clip) (c:Nat) (sn sd:Int) (cap:Nat) (ao:Option Addr) (w:World) (h:Tk w v t) (hV:VT L t) (hL:L≤1000000000) (hn:(nf t).length≤63) (hc:c≤1048576) (hcap:cap≤maxLen) (hs:SpeedOK sn sd) :
  Calls Tryz.prog 45 #[v,edV 10 0 0 (c:Int) 0 sn sd (.slice ao 0 cap)] w (ClipsPost w (nf t) 10 c 0 sn sd true):=by
 have hu:Tk w (.slice ao 0 cap) []:=⟨ao,cap,rfl,Nat.zero_le _,hcap,fun i x hi=>by simp at hi⟩
 refine apply_clip (M:=L+2147483648*18018+2147483648*18018+2147483647*18018) v (.slice ao 0 cap) t (adjL (nf t) 10 c 0 sn sd) 10 0 0 (c:Int) 0 sn sd (fromL (nf t) 10 c 0) (toL (nf t) 10 c 0) (undK 10 0) (adjCode (nf t) 10 c 0 sn sd) true w h [] hu hV (by omega) (by omega)
  (fun w' _=>valid_ret c sn sd ao cap w' hc hs)
  (fun ho w' vn hn' _=>?_) (fun h0=>?_) (by omega) (code_bd _ _ _ _ _ _)
 ·exact adjust_any (D:=0) vn (.slice ao 0 cap) (nf t) 10 0 0 c 0 sn sd w' hn' ⟨_,_,_,rfl⟩ (nf_vt hV) hn (by omega) (fun h=>by omega) (fun _=>⟨rfl,hs⟩) (by omega) hc
 have ha:=adj_ok (nf_vt hV) (by decide) (fun _=>hs) (by decide) h0
 have hl:(adjL (nf t) 10 c 0 sn sd).length=(nf t).length:=adjL_length _ _ _ _ _ _
 exact⟨ha.1,ha.2.1,by omega,Nat.le_trans (nf_length ha.1.good) (by omega)⟩
end Go.Proofs.YtfoohocgdcgbcaaGreat
namespace Go.Trk
theorem cutRaw_none (l:List Clip) (f:Int) {n:Int} (hn:n≤0):cutRaw l f n=[]:=by
 cases l with
 |nil=>unfold cutRaw;rw[if_neg (by omega)]
 |cons c l=>unfold cutRaw;rw[if_pos hn]
theorem cutRaw_len2:∀ {l:List Clip} {f n:Int},GoodL l→0≤f→f+n≤total l→(cutRaw l f n).length≤l.length
 |[],f,n,_,hf,h=>by
  have:total ([]:List Clip)=0:=rfl
  rw[cutRaw_none _ _ (by omega)]
  simp
 | c :: l, f, n, g, hf, h => by
  have c1:=g.head.l
  have t1:=total_nonneg g.tail
  rw[total_cons]at h
  unfold cutRaw
  split
  ·simp
  split
  ·have:=cutRaw_len2 (l:=l) (f:=f-c.len) (n:=n) g.tail (by omega) (by omega)
   simp only[List.length_cons]
   omega
  have:=cutRaw_len2 (l:=l) (f:=0) (n:=n-min (c.len-f) n) g.tail (by omega) (by omega)
  simp only[List.length_cons]
  omega
theorem cutRaw_both:∀ {l:List Clip} {a b n:Int},GoodL l→0≤a→a≤b→a≤total l→b+n≤total l→(cutRaw l 0 a).length+(cutRaw l b n).length≤l.length+1
 |[],a,b,n,_,ha,hb,ht,h=>by
  have:total ([]:List Clip)=0:=rfl
  rw[cutRaw_none _ _ (show a≤0 by omega)]
  have:=cutRaw_length [] b n
  simpa using this
 | c :: l, a, b, n, g, ha, hb, ht, h => by
  have c1:=g.head.l
  by_cases h0:a≤0
  ·rw[cutRaw_none _ _ h0]
   have:=cutRaw_length (c::l) b n
   simpa using this
  by_cases h1:a≤c.len
  ·have e:cutRaw (c::l) 0 a=[withLen (shift c 0) (min (c.len-0) a)]:=by
    show(if a≤0 then[] else if c.len≤0 then cutRaw l (0-c.len) a else withLen (shift c 0) (min (c.len-0) a)::cutRaw l 0 (a-min (c.len-0) a))=_
    rw[if_neg h0,if_neg (by omega),cutRaw_none _ _ (by omega)]
   have:=cutRaw_len2 (l:=c::l) (f:=b) (n:=n) g (by omega) h
   rw[e]
   simp only[List.length_cons,List.length_nil]at this ⊢
   omega
  have e:cutRaw (c::l) 0 a=withLen (shift c 0) (min (c.len-0) a)::cutRaw l 0 (a-min (c.len-0) a):=by
   show(if a≤0 then[] else if c.len≤0 then cutRaw l (0-c.len) a else withLen (shift c 0) (min (c.len-0) a)::cutRaw l 0 (a-min (c.len-0) a))=_
   rw[if_neg h0,if_neg (by omega)]
  rw[total_cons]at ht h
  have e2:min (c.len-0) a=c.len:=by omega
  by_cases hn:n≤0
  ·rw[cutRaw_none _ _ hn]
   have:=cutRaw_len2 (l:=c::l) (f:=0) (n:=a) g (Int.le_refl 0) (by rw[total_cons];omega)
   simp only[List.length_nil]
   omega
  have e3:cutRaw (c::l) b n=cutRaw l (b-c.len) n:=by
   show(if n≤0 then[] else if c.len≤b then cutRaw l (b-c.len) n else withLen (shift c b) (min (c.len-b) n)::cutRaw l 0 (n-min (c.len-b) n))=_
   rw[if_neg hn,if_pos (by omega)]
  have ih:=cutRaw_both (l:=l) (a:=a-c.len) (b:=b-c.len) (n:=n) g.tail (by omega) (by omega) (by omega) (by omega)
  rw[e,e2,e3]
  simp only[List.length_cons]
  omega
theorem exL_length {n ins:List Clip} {p rem:Int} (gn:GoodL n) (hp:0≤p) (hr:0≤rem):(exL n p rem ins).length≤n.length+2+ins.length:=by
 have tn:=total_nonneg gn
 have lg:=gapL_len (p-total n)
 have hb:=(pk_of (cutRaw_spec (l:=n) (f:=0) (n:=min p (total n)-0) gn (Int.le_refl 0) (by omega)).1).n
 have hb':(cut n 0 (min p (total n))).length≤(cutRaw n 0 (min p (total n))).length:=by
  have e:min p (total n)-0=min p (total n):=by omega
  unfold cut
  rw[e]at hb ⊢
  exact hb
 have ha:(cut n 0 (min p (total n))).length+(aft n (p+rem)).length≤n.length+1:=by
  unfold aft
  split
  ·rename_i h
   have h2:=(pk_of (cutRaw_spec (l:=n) (f:=p+rem) (n:=total n-(p+rem)) gn (by omega) (by omega)).1).n
   have h3:=cutRaw_both (l:=n) (a:=min p (total n)) (b:=p+rem) (n:=total n-(p+rem)) gn (by omega) (by omega) (by omega) (by omega)
   have h4:(cut n (p+rem) (total n)).length≤(cutRaw n (p+rem) (total n-(p+rem))).length:=h2
   omega
  have h3:=cutRaw_length n 0 (min p (total n))
  simp only[List.length_nil]
  omega
 unfold exL
 simp only[List.length_append]
 omega
end Go.Trk
namespace Go.Proofs.YtfoohocgdcgbcaaGreat
open Go.Trk
open Go.RowKit
structure ClipsOK (l:List Clip) (m:Nat):Prop where
 v:VT 1000000 l
 n:l.length≤m
 t1:1≤Trk.total l
 t2:Trk.total l≤9*(m:Int)
theorem clipsOK_snoc {l:List Clip} {z:Clip} {m:Nat} (h:ShortL l) (hl:l.length≤m) (hz:TapeC z) (hm:m≤40):ClipsOK (l++[z]) (m+1):=by
 have hs:=h.snoc hz.short
 have ht:=short_total hs
 have hv:VL 1000000 (l++[z]):=fun x hx=>(hs x hx).1
 have hlen:(l++[z]).length≤m+1:=by simp;omega
 have h1:=total_nonneg (l:=l) (fun x hx=>(h x hx).1.good)
 have h2:=hz.l0
 refine⟨⟨hv,by omega,by omega⟩,hlen,?_,by omega⟩
 rw[total_append,total_one]
 omega
theorem insert_v {cl:List Clip} {m:Nat} (h:ClipsOK cl m) (hm:m≤40) (k n:Int) (hk:k=1∨k=3) (n0:0≤n) (n1:n≤1000):ExV 1000000 ⟨k,n,0,0,0,0,0,cl⟩∧(⟨k,n,0,0,0,0,0,cl⟩:Ed).T=Trk.total cl∧(⟨k,n,0,0,0,0,0,cl⟩:Ed).put=cl:=by
 have t1:=h.t1
 have t2:=h.t2
 have eT:(⟨k,n,0,0,0,0,0,cl⟩:Ed).T=Trk.total cl:=by unfold Ed.T;rw[if_pos hk]
 refine⟨⟨⟨?_,n0,h.v.v.good,fun e=>?_,by rw[eT];exact t1⟩,h.v,fun _=>rfl,?_,by rw[eT];omega,rfl,rfl,rfl,rfl⟩,eT,?_⟩
 ·rcases hk with e |e
  ·exact .inl e
  exact .inr (.inr (.inl e))
 ·have e':k=2∨k=4:=e
  omega
 ·show n≤_;omega
 unfold Ed.put
 rw[if_neg (by show ¬k=4;omega)]
theorem extract_v (n k:Int) (n0:0≤n) (n1:n≤1000) (k0:1≤k) (k1:k≤1000):ExV 1000000 ⟨2,n,k,0,0,0,0,[]⟩:=
 ⟨⟨.inr (.inl rfl),n0,GoodL.nil,fun _=>rfl,k0⟩,⟨VL.nil,by simp,by show(0:Int)≤_;decide⟩,fun h=>by rcases h with h |h<;>(have h2:(2:Int)=_:=h;omega),by show n≤_;omega,by show k≤_;omega,rfl,rfl,rfl,rfl⟩
theorem lift_v (n m:Int) (n0:0≤n) (n1:n≤1000) (m0:1≤m) (m1:m≤1000):ExV 1000000 ⟨4,n,m,0,0,0,0,[]⟩:=
 ⟨⟨.inr (.inr (.inr rfl)),n0,GoodL.nil,fun _=>rfl,m0⟩,⟨VL.nil,by simp,by show(0:Int)≤_;decide⟩,fun h=>by rcases h with h |h<;>(have h2:(4:Int)=_:=h;omega),by show n≤_;omega,by show m≤_;omega,rfl,rfl,rfl,rfl⟩
theorem wrap_in (n:Int) (h:-9223372036854775808≤n∧n≤9223372036854775807):wrap64 n=n:=by unfold wrap64;omega
theorem rgcd_nat (x y:Nat) (w:World) (hx:x<9223372036854775808) (hy:y<9223372036854775808) :
  Calls Tryz.prog 163 #[.int .i64 (x:Int),.int .i64 (y:Int)] w fun e w'=>e=.returned (.int .i64 ((Nat.gcd x y:Nat):Int))∧∃ m,w'=w.drewN m:=by
 obtain⟨g,hg⟩:=Xq (Nat.gcd x y)
 rw[← hg]
 replace hg:=Hd hg
 go_enter Tryz.func163,Tryz.ntmps163
 go_wp2
 go_loopw [0,1] (fun i j wr=>∃ a b:Nat,i=.int .i64 (a:Int)∧j=.int .i64 (b:Int)∧a<9223372036854775808∧b<9223372036854775808∧Hid (g=Nat.gcd a b)∧∃ m,wr=w.drewN m) (fun i j _=>(intOf j).toNat)
 case atStart=>exact⟨x,y,rfl,rfl,hx,hy,hg,0,rfl⟩
 case round=>
  obtain⟨a,b,rfl,rfl,ha,hb,hG,m,rfl⟩:=hrel
  by_cases h0:b=0
  ·subst h0
   go_wp2
   go_ret
   exact⟨by rw[hG.out];simp,m,rfl⟩
  have e1:¬(b:Int)=0:=by omega
  have hm:=Nat.mod_lt a (Nat.pos_of_ne_zero h0)
  go_wp2
  go_quiet (fail)
  go_wp2
  go_round
  case rel=>exact⟨b,a % b,rfl,by simp,hb,by omega,Hd (by rw[hG.out,gcd_step h0]),m+_,World.drewN_drewN _ _ _⟩
  case measure=>simp[intOf];omega
theorem rgcd_any (x:Int) (y:Nat) (w:World) (h0:-9223372036854775808<x) (h1:x<9223372036854775808) (hy:y<9223372036854775808) :
  Calls Tryz.prog 163 #[.int .i64 x,.int .i64 (y:Int)] w fun e w'=>e=.returned (.int .i64 ((Nat.gcd x.natAbs y:Nat):Int))∧∃ m,w'=w.drewN m:=by
 by_cases hn:x<0
 ·obtain⟨n,hn2⟩:∃ n:Nat,n=x.natAbs:=⟨_,rfl⟩
  have hx:x=-(n:Int):=by omega
  rw[← hn2]
  have hn3:n<9223372036854775808:=by omega
  subst hx
  have hn4:0<n:=by omega
  clear hn2 h0 h1 hn
  obtain⟨g,hg⟩:=Xq (Nat.gcd n y)
  rw[← hg]
  replace hg:=Hd hg
  go_enter Tryz.func163,Tryz.ntmps163
  go_wp2
  go_loopw [0,1] (fun i j wr=>∃ a b:Nat,i=.int .i64 (a:Int)∧j=.int .i64 (b:Int)∧a<9223372036854775808∧b<9223372036854775808∧Hid (g=Nat.gcd a b)∧∃ m,wr=w.drewN m) (fun i j _=>(intOf j).toNat)
  case atStart=>exact⟨n,y,rfl,rfl,hn3,hy,hg,0,rfl⟩
  case round=>
   obtain⟨a,b,rfl,rfl,ha,hb,hG,m,rfl⟩:=hrel
   by_cases h0:b=0
   ·subst h0
    go_wp2
    go_ret
    exact⟨by rw[hG.out];simp,m,rfl⟩
   have e1:¬(b:Int)=0:=by omega
   have hm:=Nat.mod_lt a (Nat.pos_of_ne_zero h0)
   go_wp2
   go_quiet (fail)
   go_wp2
   go_round
   case rel=>exact⟨b,a % b,rfl,by simp,hb,by omega,Hd (by rw[hG.out,gcd_step h0]),m+_,World.drewN_drewN _ _ _⟩
   case measure=>simp[intOf];omega
 obtain⟨n,rfl⟩:∃ n:Nat,x=n:=⟨x.toNat,by omega⟩
 rw[Int.natAbs_natCast]
 exact rgcd_nat n y w (by omega) hy
def baseN (a b:Nat):Nat:=if 4294967296<a∨4294967296<b then 0 else if 4294967296 / b<a / Nat.gcd a b then 0 else a / Nat.gcd a b*b
theorem base_any (k:Int) (nm:ByteArray) (an sn:Int) (a b:Nat) (sm:Bool) (w:World) (a0:1≤a) (b0:1≤b) (a1:a<9223372036854775808) (b1:b<9223372036854775808) :
  Calls Tryz.prog 162 #[.agg #[.int .i64 k,.string nm,.int .i64 an,.int .i64 (a:Int),.int .i64 sn,.int .i64 (b:Int),.bool sm]] w fun e w'=>e=.returned (.int .i64 (baseN a b:Int))∧Below w.heap.size w w':=by
 obtain⟨B,hB⟩:=Xq (baseN a b)
 rw[← hB]
 have HBB:=Hd hB
 clear hB
 go_enter Tryz.func162,Tryz.ntmps162
 by_cases h1:4294967296<a
 ·have g1:decide ((a:Int)>4294967296)=true:=decide_eq_true (by omega)
  go_wp2_with fail
  go_ret
  refine⟨?_,below_box w _⟩
  rw[HBB.out]
  simp[baseN,h1]
 have g1:decide ((a:Int)>4294967296)=false:=decide_eq_false (by omega)
 by_cases h2:4294967296<b
 ·have g2:decide ((b:Int)>4294967296)=true:=decide_eq_true (by omega)
  go_wp2_with fail
  go_ret
  refine⟨?_,below_box w _⟩
  rw[HBB.out]
  simp[baseN,h2]
 have g2:decide ((b:Int)>4294967296)=false:=decide_eq_false (by omega)
 have HG:=Hd (fun w=>rgcd_any (a:Int) b w (by omega) (by omega) (by omega))
 rw[Int.natAbs_natCast]at HG
 obtain⟨g,hg⟩:=Xq (Nat.gcd a b)
 rw[← hg]at HG
 have hg0:0<g:=by rw[hg];exact Nat.gcd_pos_of_pos_left _ a0
 have hg1:g≤a:=by rw[hg];exact Nat.gcd_le_left _ a0
 have hgi:¬(g:Int)=0:=by omega
 have hbi:¬(b:Int)=0:=by omega
 have HGG:=Hd hg
 clear hg
 go_upto_region 3 with fail
 go_quiet (first |(go_at_call 163;exact Calls.quiet_of (HG.out _)))
 go_upto_region 4 with fail
 obtain⟨q,hq⟩:=Xq (a / g)
 have hqi:(a:Int) / (g:Int)=(q:Int):=by rw[hq];exact(Int.natCast_ediv a g).symm
 have hq1:q≤4294967296:=by rw[hq];exact Nat.le_trans (Nat.div_le_self _ _) (by omega)
 rw[hqi,show wrap64 (q:Int)=(q:Int) from wrap_in _ (by omega)]
 obtain⟨r,hr⟩:=Xq (4294967296 / b)
 have hri:(4294967296:Int) / (b:Int)=(r:Int):=by rw[hr];exact(Int.natCast_ediv 4294967296 b).symm
 have hrt:(4294967296:Int).tdiv (b:Int)=(r:Int):=by rw[Int.tdiv_eq_ediv_of_nonneg (by decide)];exact hri
 have hrb:r*b≤4294967296:=by rw[hr];exact Nat.div_mul_le_self _ _
 have HQ:=Hd hq
 have HR:=Hd hr
 have HB2:B=if r<q then 0 else q*b:=by
  rw[HBB.out]
  unfold baseN
  rw[if_neg (by omega),← HGG.out,← HQ.out,← HR.out]
 have HBB2:=Hd HB2
 clear hq hqi hr HB2
 have hrw:wrap64 (r:Int)=(r:Int):=wrap_in _ (by have:r≤4294967296:=Nat.le_trans (Nat.le_mul_of_pos_right r b0) hrb;omega)
 by_cases h3:r<q
 ·have g3:decide ((q:Int)>(r:Int))=true:=decide_eq_true (by omega)
  go_wp2_with fail
  go_ret
  refine⟨?_,below_drewN (below_box w _) _⟩
  rw[HBB2.out,if_pos h3]
  rfl
 have g3:decide ((q:Int)>(r:Int))=false:=decide_eq_false (by omega)
 have hm:q*b≤4294967296:=Nat.le_trans (Nat.mul_le_mul_right b (by omega)) hrb
 have g4:decide ((4294967296:Int) / (b:Int)<(q:Int))=false:=by rw[hri];exact g3
 have HM:=Hd hm
 clear hm hrb hrw hri hrt g3
 go_wp2_with fail
 go_ret
 refine⟨?_,below_drewN (below_box w _) _⟩
 rw[HBB2.out,if_neg h3]
 have hm:=HM.out
 rw[← Int.natCast_mul,show wrap64 ((q*b:Nat):Int)=((q*b:Nat):Int) from wrap_in _ (by omega)]
 rfl
def withinN (n d m:Nat):Bool:=decide (n / d<m)||(decide (n / d=m)&&decide (n % d=0))
theorem rwithin_any (x:Int) (d m:Nat) (w:World) (h0:-9223372036854775808<x) (h1:x<9223372036854775808) (d0:1≤d) (d1:d<9223372036854775808) (m1:m<9223372036854775808) :
  Calls Tryz.prog 161 #[.agg #[.int .i64 x,.int .i64 (d:Int)],.int .i64 (m:Int)] w fun e w'=>e=.returned (.bool (withinN x.natAbs d m))∧Below w.heap.size w w':=by
 obtain⟨n,hn⟩:∃ n:Nat,n=x.natAbs:=⟨_,rfl⟩
 rw[← hn]
 have hn1:n<9223372036854775808:=by omega
 have hx:x=n∨x=-(n:Int)∧0<n:=by omega
 obtain⟨r,hr⟩:=Xq (withinN n d m)
 rw[← hr]
 have HR:=Hd hr
 have HX:=Hd hx
 obtain⟨q,hq⟩:=Xq (n / d)
 have hqi:(n:Int) / (d:Int)=(q:Int):=by rw[hq];exact(Int.natCast_ediv n d).symm
 have hq1:q≤n:=by rw[hq];exact Nat.div_le_self _ _
 obtain⟨t,ht⟩:=Xq (n % d)
 have hti:(n:Int) % (d:Int)=(t:Int):=by rw[ht];rfl
 have ht1:t≤n:=by rw[ht];exact Nat.mod_le _ _
 have HRV:Hid (r=(decide (q<m)||(decide (q=m)&&decide (t=0)))):=Hd (by rw[hr,hq,ht];rfl)
 have hdi:¬(d:Int)=0:=by omega
 clear hn hr hx hq ht HR
 rcases HX.out with rfl |⟨rfl,hp⟩
 all_goals
  clear HX h0 h1
  by_cases c1:q<m
  ·have g1:decide ((q:Int)<(m:Int))=true:=decide_eq_true (by omega)
   have hr2:r=true:=by rw[HRV.out];simp[c1]
   rw[hr2]
   go_enter Tryz.func161,Tryz.ntmps161
   go_wp2_with fail
   go_ret
   exact⟨rfl,below_box w _⟩
  have g1:decide ((q:Int)<(m:Int))=false:=decide_eq_false (by omega)
  by_cases c2:q=m
  ·have g2:((q:Int)==(m:Int))=true:=by simp[c2]
   have hr2:r=((t:Int)==0):=by rw[HRV.out,Bool.eq_iff_iff];simp[c2]
   rw[hr2]
   clear c2
   go_enter Tryz.func161,Tryz.ntmps161
   go_wp2_with fail
   go_ret
   exact⟨rfl,below_box w _⟩
  have g2:((q:Int)==(m:Int))=false:=by simp;omega
  have hr2:r=false:=by rw[HRV.out];simp[c1,c2]
  rw[hr2]
  go_enter Tryz.func161,Tryz.ntmps161
  go_wp2_with fail
  go_ret
  exact⟨rfl,below_box w _⟩
end Go.Proofs.YtfoohocgdcgbcaaGreat
namespace Go.Trk
theorem dvd_base {a d:Nat} (ha:1≤a) (hd:1≤d):a∣a / Nat.gcd a d*d∧d∣a / Nat.gcd a d*d:=by
 refine⟨?_,Nat.dvd_mul_left _ _⟩
 obtain⟨k,hk⟩:=Nat.gcd_dvd_right a d
 have h1:a / Nat.gcd a d*Nat.gcd a d=a:=Nat.div_mul_cancel (Nat.gcd_dvd_left a d)
 refine⟨k,?_⟩
 calc a / Nat.gcd a d*d=a / Nat.gcd a d*(Nat.gcd a d*k):=by rw[← hk]
  _=a / Nat.gcd a d*Nat.gcd a d*k:=(Nat.mul_assoc _ _ _).symm
  _=a*k:=by rw[h1]
end Go.Trk
namespace Go.Proofs.YtfoohocgdcgbcaaGreat
open Go.Trk
open Go.RowKit
theorem rblack_any (s:Src) (w:World):Calls Tryz.prog 139 #[srcV s] w fun e w'=>e=.returned (.bool (decide (s=black)))∧Below w.heap.size w w':=by
 have HQ:=fun w=>run_eq_src s black w
 obtain⟨r,hr⟩:=Xq (decide (s=black))
 rw[← hr]at HQ ⊢
 clear hr
 simp only[black,show(ByteArray.empty:ByteArray)=⟨#[]⟩ from rfl]at HQ
 show Calls Tryz.prog 139 #[.agg #[.int .i64 s.kind,.string s.name,.int .i64 s.an,.int .i64 s.ad,.int .i64 s.sn,.int .i64 s.sd,.bool s.smooth]] w _
 go_enter Tryz.func139,Tryz.ntmps139
 go_wp2_with fail
 go_ret
 exact⟨rfl,below_box w _⟩
theorem SVar.below {w w':World} {g:Nat} {s:Src} (h:SVar w g s) (hb:Below w.heap.size w w'):SVar w' g s:=
 ⟨fun j v hj=>(hb.cell h.lt).trans (h.c j v hj),fun o=>(hb.frozen (p:=⟨g,o,none⟩) h.lt).trans (h.f o)⟩
theorem SVar.setAt {w:World} {g:Nat} {s:Src} (h:SVar w g s) (n d:Int):SVar ((w.setCell ⟨g,2,none⟩ (.int .i64 n)).setCell ⟨g,3,none⟩ (.int .i64 d)) g { s with an:=n,ad:=d }:=by
 obtain⟨x0,x1,x2,x3,x4,x5,x6⟩:=h.at0
 refine SVar.of ?_ ?_ ?_ ?_ ?_ ?_ ?_ (fun o=>by rw[World.frozen?_setCell,World.frozen?_setCell];exact h.f o)<;>simp[go_sem,x0,x1,x2,x3,x4,x5,x6]
theorem SVar.far {w:World} {g:Nat} {s:Src} (h:SVar w g s) {g2:Nat} (hn:g≠g2) (o:Nat) (v:Value):SVar (w.setCell ⟨g2,o,none⟩ v) g s:=by
 have hs:(w.setCell ⟨g2,o,none⟩ v).heap[g]?=w.heap[g]?:=by simp[World.setCell,Array.getElem?_modify,hn.symm]
 exact⟨fun j v hj=>(World.cell?_of_block (a:=⟨g,0+j,none⟩) hs).trans (h.c j v hj),fun o=>(World.frozen?_of_block (a:=⟨g,o,none⟩) hs).trans (h.f o)⟩
theorem results_src2 {fn:Func} {tmps:Array Value} {w:World} {t r:Tmp} {g:Nat} {s:Src} {x:Value} (hr:fn.results=#[.cell t 46,.tmp r]) (ht:tmps.getD t undef=.pointer (some ⟨g,0,none⟩)) (hx:tmps.getD r undef=x) (hc:SVar w g s) :
  (results fn tmps).run Tryz.prog w=.ok (.tuple #[srcV s,x]) w:=by
 have h:=run_loadVar_mid (P:=Tryz.prog) w g 0 46 (srcC s) _ hc.c Tryz.underlying46 rfl (by kernel_rfl)
 obtain⟨C,hC⟩:=Xq ((srcC s).toArray)
 unfold srcV
 rw[← hC]at h ⊢
 unfold results
 rw[hr]
 have ht2:tmps[t]?.getD undef=.pointer (some ⟨g,0,none⟩):=by rw[← Array.getD_eq_getD_getElem?];exact ht
 have hx2:tmps[r]?.getD undef=x:=by rw[← Array.getD_eq_getD_getElem?];exact hx
 simp[ht2,hx2,asAddr,h]
end Go.Proofs.YtfoohocgdcgbcaaGreat
