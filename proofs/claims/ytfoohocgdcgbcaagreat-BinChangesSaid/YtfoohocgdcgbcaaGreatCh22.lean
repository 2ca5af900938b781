/- Texts of this claim joined: HS HT HU HV MJ MK HW HX HZ JA JB JC JD JE. -/
import Derived.Test.YtfoohocgdcgbcaaGreatCh21
import Derived.Test.YtfoohocgdcgbcaaGreatSq
set_option linter.unusedVariables false
set_option linter.unusedSimpArgs false
set_option maxRecDepth 100000
set_option maxHeartbeats 40000000
namespace Go.Proofs.YtfoohocgdcgbcaaGreat
open Go.RowKit
theorem sameframeg_yes (c d:Trk.Clip) (x y:Value) (j k:Int) (w:World) (hix:IT w x c.chan) (hiy:IT w y d.chan) (hch:c.chan=d.chan) (fc:FrB c j) (fd:FrB d k) :
  Calls Tryz.prog 136 #[clipGV c x,.int .i64 j,clipGV d y,.int .i64 k] w fun e w'=>e=.returned (.bool (decide (Trk.one c j=Trk.one d k)))∧Below w.heap.size w w':=by
 have HCH:=Hd hch
 obtain⟨ax,cx,ex,-⟩:=id hix
 obtain⟨ay,cy,ey,-⟩:=id hiy
 have HEI:=Hd (fun w1 (hb:Below w.heap.size w w1)=>equali_any x y c.chan d.chan w1 (hix.below hb) (hiy.below hb))
 rw[decide_eq_true hch,ex,ey]at HEI
 rw[ex,ey]
 clear hix hiy ex ey hch
 obtain⟨nx,hnx⟩:=Xq (c.chan.length)
 obtain⟨ny,hny⟩:=Xq (d.chan.length)
 rw[← hnx,← hny]at HEI ⊢
 clear hnx hny
 have S1:=Hd (fun w=>samesource_any c.a d.a j k w fc.a fd.a fc.pa fd.pa)
 have S2:=Hd (fun w=>samesource_any c.b d.b j k w fc.b fd.b fc.pb fd.pb)
 have HE:=Hd (Trk.one_eq (c:=c) (d:=d) j k fc.z fd.z)
 have o0:=fc.o0
 have o1:=fc.o1
 have o2:=fd.o0
 have o3:=fd.o1
 have j0:=fc.k0
 have j1:=fc.k1
 have k0:=fd.k0
 have k1:=fd.k1
 clear fc fd
 obtain⟨D,hD⟩:=Xq (decide (Trk.one c j=Trk.one d k))
 rw[← hD]
 have HD:=Hd hD
 clear hD
 obtain⟨sa,hsa⟩:=Xq (decide (Trk.moved c.a j=Trk.moved d.a k))
 obtain⟨sb,hsb⟩:=Xq (decide (Trk.moved c.b j=Trk.moved d.b k))
 rw[← hsa]at S1
 rw[← hsb]at S2
 have HSA:=Hd hsa
 have HSB:=Hd hsb
 clear hsa hsb
 unfold clipGV
 obtain⟨C,hC⟩:=Xq ((clipG c (.slice ax nx cx)).toArray)
 obtain⟨DD,hDD⟩:=Xq ((clipG d (.slice ay ny cy)).toArray)
 rw[← hC,← hDD]
 have HCC:=Hd hC
 have HDD:=Hd hDD
 clear hC hDD
 go_enter Tryz.func136,Tryz.ntmps136
 go_upto_region 1 with fail
 obtain⟨w1,hw1⟩:=Xq ((w.alloc (.cells C 48)).alloc (.cells DD 48))
 rw[← hw1]
 rw[HCC.out,HDD.out]at hw1
 obtain⟨hx,hy,hb1⟩:=boxG2_facts hw1
 obtain⟨g1,hg1⟩:=Xq (w.heap.size)
 obtain⟨g2,hg2⟩:=Xq (w.heap.size+1)
 rw[← hg2]at hy ⊢
 rw[← hg1]at hx ⊢
 have HB:=Hd hb1
 have HX:=Hd hx
 have HY:=Hd hy
 clear hw1 hb1 hg1 hg2
 obtain⟨x0,x1,x2,x3,x4,x5,x6,x7,x8,x9,x10,x11,x12,x13,x14,x15,x16,x17,x18,x19,x20,x21⟩:=hx.c.at0
 obtain⟨y0,y1,y2,y3,y4,y5,y6,y7,y8,y9,y10,y11,y12,y13,y14,y15,y16,y17,y18,y19,y20,y21⟩:=hy.c.at0
 clear hx hy x0 y0
 have HNO:¬(Trk.one c j=Trk.one d k)→false=D:=fun h=>by rw[HD.out];exact(decide_eq_false h).symm
 replace HNO:=Hd HNO
 go_upto_region 3 with(go_at_call 107;refine(HEI.out _ HB.out).mono ?_;rintro e w' ⟨rfl,nq,rfl⟩)
 all_goals try
  go_ret
  refine⟨ret_bool (HNO.out fun h=>?_),(by first |exact HB.out |exact below_drewN HB.out _)⟩
  obtain⟨⟨h1,h2,h3,h4,h5,h6⟩,h7,h8,h9⟩:=HE.out.1 h
  first
  |contradiction
  |exact absurd (congrArg ByteArray.toList h4) (by assumption)
  |(exfalso;simp_all;done)
 rename_i hk ht hp htx hg K1 a1 K2 a2
 have HEQ:=Hd (show(Trk.shares c.kind=true→c.off+j=d.off+k)→D=(sa&&sb) from fun hs=>by
  have h:=HE.out
  rw[HD.out,HSA.out,HSB.out,← Bool.decide_and]
  exact decide_eq_decide.2 (h.trans ⟨fun h=>h.2.2,fun h2=>⟨⟨hk,ht,hp,bytes_inj2 htx,hg,HCH.out⟩,hs,h2.1,h2.2⟩⟩))
 have hbq:Below w1.heap.size w1 (w1.drewN nq):=below_drewN (Below.refl _ _) _
 replace HX:=Hd (HX.out.below hbq)
 replace HY:=Hd (HY.out.below hbq)
 replace HB:=Hd (HB.out.trans (hbq.mono HB.out.size))
 clear hbq x1 x2 x3 x4 x5 x6 x7 x8 x9 x10 x11 x12 x13 x14 x15 x16 y1 y2 y3 y4 y5 y6 y7 y8 y9 y10 y11 y12 y13 y14 y15 y16
 obtain⟨w1q,hw1q⟩:=Xq (w1.drewN nq)
 rw[← hw1q]at HX HY HB ⊢
 clear hw1q
 obtain⟨_,x1,x2,x3,x4,x5,x6,x7,x8,x9,x10,x11,x12,x13,x14,x15,x16,_⟩:=HX.out.c.at0
 obtain⟨_,y1,y2,y3,y4,y5,y6,y7,y8,y9,y10,y11,y12,y13,y14,y15,y16,_⟩:=HY.out.c.at0
 clear ht hp htx hg x17 x18 x19 x20 x21 y17 y18 y19 y20 y21
 have HK:=Hd hk
 unfold srcC at S1 S2
 go_upto_region 5 with fail
 all_goals try
  go_ret
  refine⟨ret_bool (HNO.out fun h=>?_),(by first |exact HB.out |exact below_drewN HB.out _)⟩
  obtain⟨⟨h1,h2,h3,h4,h5,h6⟩,h7,h8,h9⟩:=HE.out.1 h
  first
  |contradiction
  |(exact absurd (h7 (by rw[h1];simp_all[Trk.shares])) (by assumption))
  |(exfalso;simp_all[Trk.shares];done)
 all_goals
  have hd:D=(sa&&sb):=HEQ.out fun hs=>by
   rw[hk]at hs
   first
   |(simp_all[Trk.shares];done)
   | (have h2 : (c.off + j != d.off + k) = false := by assumption
      simpa using h2)
  have HDS:=Hd hd
  clear hd hk
  clear y1 x1 x16 y16
  go_wp2_with fail
  refine(S1.out _).mono ?_
  rintro e w2 ⟨rfl,hb⟩
  replace HX:=Hd (HX.out.below hb)
  replace HY:=Hd (HY.out.below hb)
  replace HB:=Tb HB hb
  clear hb x2 x3 x4 x5 x6 x7 x8 x9 x10 x11 x12 x13 x14 x15 y2 y3 y4 y5 y6 y7 y8 y9 y10 y11 y12 y13 y14 y15
  obtain⟨x0,x1,x2,x3,x4,x5,x6,x7,x8,x9,x10,x11,x12,x13,x14,x15,x16,x17,x18,x19,x20,x21⟩:=HX.out.c.at0
  obtain⟨y0,y1,y2,y3,y4,y5,y6,y7,y8,y9,y10,y11,y12,y13,y14,y15,y16,y17,y18,y19,y20,y21⟩:=HY.out.c.at0
  cases sa
  ·go_wp2_with fail
   go_ret
   exact⟨ret_bool (by rw[HDS.out];rfl),HB.out⟩
  go_wp2_with fail
  refine(S2.out _).mono ?_
  rintro e w3 ⟨rfl,hb⟩
  replace HB:=Tb HB hb
  clear hb
  go_wp2_with fail
  go_ret
  exact⟨ret_bool (by rw[HDS.out];rfl),HB.out⟩
theorem sameframeg_no (c d:Trk.Clip) (x y:Value) (j k:Int) (w:World) (hix:IT w x c.chan) (hiy:IT w y d.chan) (hch:c.chan≠d.chan) (fc:FrB c j) (fd:FrB d k) :
  Calls Tryz.prog 136 #[clipGV c x,.int .i64 j,clipGV d y,.int .i64 k] w fun e w'=>e=.returned (.bool (decide (Trk.one c j=Trk.one d k)))∧Below w.heap.size w w':=by
 have HCH:=Hd hch
 obtain⟨ax,cx,ex,-⟩:=id hix
 obtain⟨ay,cy,ey,-⟩:=id hiy
 have HEI:=Hd (fun w1 (hb:Below w.heap.size w w1)=>equali_any x y c.chan d.chan w1 (hix.below hb) (hiy.below hb))
 rw[decide_eq_false hch,ex,ey]at HEI
 rw[ex,ey]
 clear hix hiy ex ey hch
 obtain⟨nx,hnx⟩:=Xq (c.chan.length)
 obtain⟨ny,hny⟩:=Xq (d.chan.length)
 rw[← hnx,← hny]at HEI ⊢
 clear hnx hny
 have S1:=Hd (fun w=>samesource_any c.a d.a j k w fc.a fd.a fc.pa fd.pa)
 have S2:=Hd (fun w=>samesource_any c.b d.b j k w fc.b fd.b fc.pb fd.pb)
 have HE:=Hd (Trk.one_eq (c:=c) (d:=d) j k fc.z fd.z)
 have o0:=fc.o0
 have o1:=fc.o1
 have o2:=fd.o0
 have o3:=fd.o1
 have j0:=fc.k0
 have j1:=fc.k1
 have k0:=fd.k0
 have k1:=fd.k1
 clear fc fd
 obtain⟨D,hD⟩:=Xq (decide (Trk.one c j=Trk.one d k))
 rw[← hD]
 have HD:=Hd hD
 clear hD
 obtain⟨sa,hsa⟩:=Xq (decide (Trk.moved c.a j=Trk.moved d.a k))
 obtain⟨sb,hsb⟩:=Xq (decide (Trk.moved c.b j=Trk.moved d.b k))
 rw[← hsa]at S1
 rw[← hsb]at S2
 have HSA:=Hd hsa
 have HSB:=Hd hsb
 clear hsa hsb
 unfold clipGV
 obtain⟨C,hC⟩:=Xq ((clipG c (.slice ax nx cx)).toArray)
 obtain⟨DD,hDD⟩:=Xq ((clipG d (.slice ay ny cy)).toArray)
 rw[← hC,← hDD]
 have HCC:=Hd hC
 have HDD:=Hd hDD
 clear hC hDD
 go_enter Tryz.func136,Tryz.ntmps136
 go_upto_region 1 with fail
 obtain⟨w1,hw1⟩:=Xq ((w.alloc (.cells C 48)).alloc (.cells DD 48))
 rw[← hw1]
 rw[HCC.out,HDD.out]at hw1
 obtain⟨hx,hy,hb1⟩:=boxG2_facts hw1
 obtain⟨g1,hg1⟩:=Xq (w.heap.size)
 obtain⟨g2,hg2⟩:=Xq (w.heap.size+1)
 rw[← hg2]at hy ⊢
 rw[← hg1]at hx ⊢
 have HB:=Hd hb1
 have HX:=Hd hx
 have HY:=Hd hy
 clear hw1 hb1 hg1 hg2
 obtain⟨x0,x1,x2,x3,x4,x5,x6,x7,x8,x9,x10,x11,x12,x13,x14,x15,x16,x17,x18,x19,x20,x21⟩:=hx.c.at0
 obtain⟨y0,y1,y2,y3,y4,y5,y6,y7,y8,y9,y10,y11,y12,y13,y14,y15,y16,y17,y18,y19,y20,y21⟩:=hy.c.at0
 clear hx hy x0 y0
 have HNO:¬(Trk.one c j=Trk.one d k)→false=D:=fun h=>by rw[HD.out];exact(decide_eq_false h).symm
 replace HNO:=Hd HNO
 go_upto_region 3 with(go_at_call 107;refine(HEI.out _ HB.out).mono ?_;rintro e w' ⟨rfl,nq,rfl⟩)
 all_goals try
  go_ret
  refine⟨ret_bool (HNO.out fun h=>?_),(by first |exact HB.out |exact below_drewN HB.out _)⟩
  obtain⟨⟨h1,h2,h3,h4,h5,h6⟩,h7,h8,h9⟩:=HE.out.1 h
  first
  |exact absurd h6 HCH.out
  |contradiction
  |exact absurd (congrArg ByteArray.toList h4) (by assumption)
  |(exfalso;simp_all;done)
theorem sameframeg_any (c d:Trk.Clip) (x y:Value) (j k:Int) (w:World) (hix:IT w x c.chan) (hiy:IT w y d.chan) (fc:FrB c j) (fd:FrB d k) :
  Calls Tryz.prog 136 #[clipGV c x,.int .i64 j,clipGV d y,.int .i64 k] w fun e w'=>e=.returned (.bool (decide (Trk.one c j=Trk.one d k)))∧Below w.heap.size w w':=by
 by_cases h:c.chan=d.chan
 ·exact sameframeg_yes c d x y j k w hix hiy h fc fd
 exact sameframeg_no c d x y j k w hix hiy h fc fd
theorem PosB.of {s:Trk.Src} {k:Int} (h:SrcOK s) (k0:-4294967296≤k) (k1:k≤4294967296):PosB s k:=by
 have hw:=h.wide
 have hb:=hw.bounds
 exact⟨hb.2.1,hb.2.2.2.1,hw.l,h.a0,h.a1,h.s0,h.s1,k0,k1⟩
theorem VG.frb {c:Trk.Clip} (h:VG c) {k:Int} (k0:-4294967296≤k) (k1:k≤4294967296):FrB c k:=by
 have ho:=h.off
 exact⟨h.a.okw.okay,h.b.okw.okay,h.a.imp id fun h=>PosB.of h k0 k1,h.b.imp id fun h=>PosB.of h k0 k1,ho.2.2.1,ho.1,ho.2.1,k0,k1⟩
theorem prefixg_any (D1 D2:Nat) (v u:Value) (n m:List Trk.Clip) (w:World) (h:TG w D1 v n) (h':TG w D2 u m) (Vn:TV n) (Vm:TV m) :
  Calls Tryz.prog 92 #[v,u] w fun e w'=>∃ p,e=.returned (.int .i64 p)∧Trk.Pre n m p∧Below w.heap.size w w':=by
 have HT:=Hd h
 have HU:=Hd h'
 obtain⟨ao,cap,rfl,hc1,hc2,-⟩:=h
 obtain⟨bo,dap,rfl,hd1,hd2,-⟩:=h'
 have HGN:=Hd Vn.good
 have HGM:=Hd Vm.good
 have tn:=Vn.t
 have tm:=Vm.t
 have HSF:=Hd (fun(c d:Trk.Clip) (x y:Value) (hc:c∈n) (hd:d∈m) (j k:Int) (j0:-4294967296≤j) (j1:j≤4294967296) (k0:-4294967296≤k) (k1:k≤4294967296) (w:World) (hx:IT w x c.chan) (hy:IT w y d.chan)=>
  sameframeg_any c d x y j k w hx hy ((Vn.c c hc).frb j0 j1) ((Vm.c d hd).frb k0 k1))
 have HLN:=Hd (fun(c:Trk.Clip) (hc:c∈n)=>And.intro (Vn.c c hc).l0 (Vn.c c hc).l1)
 have HLM:=Hd (fun(c:Trk.Clip) (hc:c∈m)=>And.intro (Vm.c c hc).l0 (Vm.c c hc).l1)
 have nn:=Vn.n
 have nm:=Vm.n
 obtain⟨N,hN⟩:=Xq (n.length)
 obtain⟨M,hM⟩:=Xq (m.length)
 rw[← hN]at HT nn hc1 ⊢
 rw[← hM]at HU nm hd1 ⊢
 have HN:=Hd hN
 have HM:=Hd hM
 have TT:=Hd (And.intro tn tm)
 clear Vn Vm hN hM hc1 hc2 hd1 hd2 tn tm
 go_enter Tryz.func92,Tryz.ntmps92
 go_upto_region 4 with fail
 go_loopw [5,6,7,8,9] (fun v5 v6 v7 v8 v9 wr=>∃ (i j:Nat) (b s p:Int),v5=.int .i64 p∧v6=.int .i64 (i:Int)∧v7=.int .i64 (j:Int)∧v8=.int .i64 b∧v9=.int .i64 s∧Trk.PreAt n m i j b s p∧Below w.heap.size w wr) (fun _ i j _ _ _=>(N-(intOf i).toNat)+(M-(intOf j).toNat))
 case atStart=>exact⟨0,0,0,0,0,rfl,rfl,rfl,rfl,rfl,Trk.PreAt.zero HGN.out HGM.out,Below.refl _ _⟩
 case round=>
  obtain⟨i,j,b,s,p,rfl,rfl,rfl,rfl,rfl,hp,hb⟩:=hrel
  have HP:=Hd hp
  have HB:=Hd hb
  have li:i≤N:=by have:=hp.a.il;have:=HN.out;omega
  have lj:j≤M:=by have:=hp.c.il;have:=HM.out;omega
  have pb:=hp.a.le HGN.out
  have pb2:0≤p∧p≤2147483647:=⟨pb.1,Int.le_trans pb.2 TT.out.1⟩
  clear hp hb pb
  by_cases hi:i<N
  rotate_left
  ·have d1:decide ((i:Int)<(N:Int))=false:=decide_eq_false (by omega)
   have hiN:i=N:=by omega
   go_upto_region 4 with fail
   go_quiet (fail)
   go_wp2_with fail
   go_ret
   exact⟨p,rfl,HP.out.done HGN.out HGM.out (.inl (hiN.trans HN.out)),below_drewN HB.out _⟩
  have d1:decide ((i:Int)<(N:Int))=true:=decide_eq_true (by omega)
  by_cases hj:j<M
  rotate_left
  ·have d2:decide ((j:Int)<(M:Int))=false:=decide_eq_false (by omega)
   have hjM:j=M:=by omega
   go_upto_region 4 with fail
   go_quiet (fail)
   go_wp2_with fail
   go_ret
   exact⟨p,rfl,HP.out.done HGN.out HGM.out (.inr (.inl (hjM.trans HM.out))),below_drewN HB.out _⟩
  have d2:decide ((j:Int)<(M:Int))=true:=decide_eq_true (by omega)
  obtain⟨c,hc⟩:∃ c,n[i]?=some c:=⟨_,List.getElem?_eq_getElem (by have:=HN.out;omega)⟩
  obtain⟨d,hd⟩:∃ d,m[j]?=some d:=⟨_,List.getElem?_eq_getElem (by have:=HM.out;omega)⟩
  obtain⟨ao',cap',e,_,_,hT⟩:=HT.out.below HB.out
  have e1:=HN.out
  simp only[Value.slice.injEq]at e
  obtain⟨rfl,-,rfl⟩:=e
  obtain⟨b1,o1,xc,rfl,hA,hX⟩:=hT i c hc
  obtain⟨ax,cx,ex⟩:=hX.form
  obtain⟨nx,hnx⟩:=Xq (c.chan.length)
  rw[← hnx]at ex
  subst ex
  have HIX:=Hd hX.it
  clear hX hnx
  obtain⟨bo',dap',e,_,_,hU⟩:=HU.out.below HB.out
  simp only[Value.slice.injEq]at e
  obtain⟨rfl,-,rfl⟩:=e
  obtain⟨b2,o2,yc,rfl,hA2,hY⟩:=hU j d hd
  obtain⟨ay,cy,ey⟩:=hY.form
  obtain⟨ny,hny⟩:=Xq (d.chan.length)
  rw[← hny]at ey
  subst ey
  have HIY:=Hd hY.it
  clear hY hny
  have HA:=Hd hA
  have HA2:=Hd hA2
  have HQ:=Hd (And.intro hc hd)
  have cl:=HLN.out c (List.mem_of_getElem? hc)
  have dl:=HLM.out d (List.mem_of_getElem? hd)
  have b0:=HP.out.a.b0
  have b01:=HP.out.a.b1 c hc
  have s0:=HP.out.c.b0
  have s01:=HP.out.c.b1 d hd
  have HSC:=Hd (fun w1 h1 h2=>HSF.out c d (.slice ax nx cx) (.slice ay ny cy) (List.mem_of_getElem? hc) (List.mem_of_getElem? hd) b s (by omega) (by omega) (by omega) (by omega) w1 h1 h2)
  unfold clipGV at HSC
  clear hT hU hA hA2 hc hd e1
  obtain⟨C,hC⟩:=Xq ((clipG c (.slice ax nx cx)).toArray)
  obtain⟨D,hD⟩:=Xq ((clipG d (.slice ay ny cy)).toArray)
  rw[← hC,← hD]at HSC
  have HC:=Hd hC
  have HD:=Hd hD
  clear hC hD
  have i1:(i:Int)<(N:Int):=by omega
  have j1:(j:Int)<(M:Int):=by omega
  go_upto_region 4 with fail
  refine Plan.wp_region_plan (fun w'=>GA w' b1 (o1+i*22) c (.slice ax nx cx)∧GA w' b2 (o2+j*22) d (.slice ay ny cy)) (([0,1,2,3,4,5,6,7,8,9,10,11,12,13,14,15,16,17,18,19,20].map (·,true))++(([21].map (·,false))++([22].map (·,true)))) (by kernel_rfl) (by kernel_rfl) (by kernel_rfl) ⟨HA.out.below (Below.refl _ _).drew,HA2.out.below (Below.refl _ _).drew⟩ ?_
  refine' Plan.plan_seg _ [0,1,2,3,4,5,6,7,8,9,10,11,12,13,14,15,16,17,18,19,20] (([21].map (·,false))++([22].map (·,true))) (by kernel_rfl) (by kernel_rfl) rfl (by exact⟨HA.out.below (Below.refl _ _).drew,HA2.out.below (Below.refl _ _).drew⟩) (fun wx hS=>?_) ?_
  rotate_left
  ·obtain⟨S1,S2⟩:=hS
   have HS1:=Hd S1
   have HS2:=Hd S2
   clear S1 S2
   go_light
   iterate 14 (apply Plan.seg_pick;rfl;intro K hK;go_wp)
   (apply Plan.seg_pick;rfl;intro K hK)
   go_guarded
   refine wp_load_mid 48 _ rfl b1 (o1+i*22) rfl (clipG c (.slice ax nx cx)) _ HS1.out.range Tryz.underlying48 rfl (by kernel_rfl) ?_
   rw[← HC.out]
   go_wp
   iterate 4 (apply Plan.seg_pick;rfl;intro K hK;go_wp)
   (apply Plan.seg_pick;rfl;intro K hK)
   go_guarded
   refine wp_load_mid 48 _ rfl b2 (o2+j*22) rfl (clipG d (.slice ay ny cy)) _ HS2.out.range Tryz.underlying48 rfl (by kernel_rfl) ?_
   rw[← HD.out]
   go_wp
   iterate 1 (apply Plan.seg_pick;rfl;intro K hK;go_wp)
   exact Plan.seg_nil
  obtain⟨w4,hw4⟩:=Xq (wr.drew)
  rw[← hw4]
  have hb:Below wr.heap.size wr w4:=by rw[hw4];exact(Below.refl _ _).drew
  replace HA:=Hd (HA.out.below hb)
  replace HA2:=Hd (HA2.out.below hb)
  replace HIX:=Hd (HIX.out.below hb)
  replace HIY:=Hd (HIY.out.below hb)
  replace HB:=Tb HB hb
  clear hb hw4
  obtain⟨r,hr⟩:=Xq (decide (Trk.one c b=Trk.one d s))
  rw[← hr]at HSC
  have HR:=Hd hr
  clear hr
  refine Plan.plan_of_effect rfl (fun K hK=>?_)
  go_wp2_with fail
  refine(HSC.out _ HIX.out HIY.out).mono ?_
  rintro e w5 ⟨rfl,hb⟩
  replace HA:=Hd (HA.out.below hb)
  replace HA2:=Hd (HA2.out.below hb)
  replace HB:=Tb HB hb
  clear hb HSC
  go_wp2_with fail
  refine⟨⟨HA.out,HA2.out⟩,?_⟩
  refine' Plan.plan_seg _ [22] [] (by kernel_rfl) (by kernel_rfl) rfl (by exact⟨HA.out,HA2.out⟩) (fun wx hS=>?_) ?_
  rotate_left
  ·clear hS
   go_light
   iterate 1 (apply Plan.seg_pick;rfl;intro K hK;go_wp)
   exact Plan.seg_nil
  refine Plan.plan_done ?_
  cases r with
  |false=>
   go_wp2_with fail
   go_ret
   exact⟨p,rfl,HP.out.done HGN.out HGM.out (.inr (.inr ⟨c,d,HQ.out.1,HQ.out.2,of_decide_eq_false HR.out.symm⟩)),HB.out⟩
  | true =>
   obtain⟨t,ht⟩:=Xq (min (c.len-b) (d.len-s))
   have HN2:=Hd (HP.out.step HGN.out HGM.out HQ.out.1 HQ.out.2 (of_decide_eq_true HR.out.symm) ht)
   have pt:=HN2.out.a.le HGN.out
   have pt2:p+t≤2147483647:=Int.le_trans pt.2 TT.out.1
   have x0:=HA.out.k0
   have y0:=HA2.out.k0
   have t1:1≤t:=by omega
   have t2:t≤c.len-b:=by omega
   have t3:t≤d.len-s:=by omega
   have HBT:=Hd (show b+t=c.len∨s+t=d.len by omega)
   obtain⟨x,hx⟩:=Xq (c.len-b)
   obtain⟨y,hy⟩:=Xq (d.len-s)
   have e1:c.len-b=x:=hx.symm
   have e2:d.len-s=y:=hy.symm
   have HM1:=Hd (show(x≤y∧t=x)∨(y<x∧t=y) by omega)
   have x1:x≤2147483647:=by omega
   have y1:y≤2147483647:=by omega
   have x2:1≤x:=by omega
   have y2:1≤y:=by omega
   clear pt ht hx hy
   go_upto_region 5 with fail
   go_cut [10] from 34 to 75 (fun v10 wx=>v10=.int .i64 (min x y)∧∃ k,wx=w5.drewN k)
   case first J K' h1 h2=>
    go_quiet (fail)
    refine h2 _ _ (Met.intro (h1 _ _ ?_))
    (repeat apply Exists.intro)
    exact⟨⟨rfl,_,rfl⟩,rfl⟩
   case rest=>
   obtain⟨rfl,k5,rfl⟩:=hcut
   have hc1:min x y=t:=by have:=HM1.out;omega
   rw[hc1]
   clear e1 e2 x1 x2 y1 y2 hc1
   by_cases h1:b+t=c.len
   ·have z1:(b+t==c.len)=true:=by simpa using h1
    by_cases h2:s+t=d.len
    ·have z2:(s+t==d.len)=true:=by simpa using h2
     have HN3:=HN2.out
     rw[if_pos h1,if_pos h2,if_pos h1,if_pos h2]at HN3
     replace HN2:=Hd HN3
     clear HN3 h1 h2
     go_wp2_with fail
     go_roundw
     case rel=>exact⟨i+1,j+1,0,0,p+t,rfl,by simp,by simp,rfl,rfl,HN2.out,below_drewN HB.out _⟩
     case measure=>simp[intOf];omega
    have z2:(s+t==d.len)=false:=by simpa using h2
    have HN3:=HN2.out
    rw[if_pos h1,if_neg h2,if_pos h1,if_neg h2]at HN3
    replace HN2:=Hd HN3
    clear HN3 h1 h2
    go_wp2_with fail
    go_roundw
    case rel=>exact⟨i+1,j,0,s+t,p+t,rfl,by simp,by simp,rfl,rfl,HN2.out,below_drewN HB.out _⟩
    case measure=>simp[intOf];omega
   have z1:(b+t==c.len)=false:=by simpa using h1
   by_cases h2:s+t=d.len
   ·have z2:(s+t==d.len)=true:=by simpa using h2
    have HN3:=HN2.out
    rw[if_neg h1,if_pos h2,if_neg h1,if_pos h2]at HN3
    replace HN2:=Hd HN3
    clear HN3 h1 h2
    go_wp2_with fail
    go_roundw
    case rel=>exact⟨i,j+1,b+t,0,p+t,rfl,by simp,by simp,rfl,rfl,HN2.out,below_drewN HB.out _⟩
    case measure=>simp[intOf];omega
   exfalso
   exact HBT.out.elim h1 h2
theorem suffixg_any (D1 D2:Nat) (v u:Value) (n m:List Trk.Clip) (lim:Int) (w:World) (h:TG w D1 v n) (h':TG w D2 u m) (Vn:TV n) (Vm:TV m) (l0:0≤lim) (l1:lim≤Trk.total n) (l2:lim≤Trk.total m) :
  Calls Tryz.prog 93 #[v,u,.int .i64 lim] w fun e w'=>∃ s,e=.returned (.int .i64 s)∧Trk.Suf n m lim s∧Below w.heap.size w w':=by
 have HT:=Hd h
 have HU:=Hd h'
 obtain⟨ao,cap,rfl,hc1,hc2,-⟩:=h
 obtain⟨bo,dap,rfl,hd1,hd2,-⟩:=h'
 have HGN:=Hd Vn.good
 have HGM:=Hd Vm.good
 have tn:=Vn.t
 have tm:=Vm.t
 have HSF:=Hd (fun(c d:Trk.Clip) (x y:Value) (hc:c∈n) (hd:d∈m) (j k:Int) (j0:-4294967296≤j) (j1:j≤4294967296) (k0:-4294967296≤k) (k1:k≤4294967296) (w:World) (hx:IT w x c.chan) (hy:IT w y d.chan)=>
  sameframeg_any c d x y j k w hx hy ((Vn.c c hc).frb j0 j1) ((Vm.c d hd).frb k0 k1))
 have HLN:=Hd (fun(c:Trk.Clip) (hc:c∈n)=>And.intro (Vn.c c hc).l0 (Vn.c c hc).l1)
 have HLM:=Hd (fun(c:Trk.Clip) (hc:c∈m)=>And.intro (Vm.c c hc).l0 (Vm.c c hc).l1)
 have nn:=Vn.n
 have nm:=Vm.n
 have lb:lim≤2147483647:=by omega
 obtain⟨N,hN⟩:=Xq (n.length)
 obtain⟨M,hM⟩:=Xq (m.length)
 rw[← hN]at HT nn hc1 ⊢
 rw[← hM]at HU nm hd1 ⊢
 have HN:=Hd hN
 have HM:=Hd hM
 have TT:=Hd (And.intro l1 l2)
 have HL0:=Hd l0
 have HZ:=Hd (show Trk.SufAt n m N M 0 0 0 by rw[hN,hM];exact Trk.SufAt.zero Vn.good Vm.good)
 clear Vn Vm hN hM hc1 hc2 hd1 hd2 tn tm l1 l2
 go_enter Tryz.func93,Tryz.ntmps93
 go_upto_region 4 with fail
 go_loopw [7,8,9,10,11] (fun v7 v8 v9 v10 v11 wr=>∃ (i j:Nat) (b s p:Int),v7=.int .i64 p∧v8=.int .i64 ((i:Int)-1)∧v9=.int .i64 ((j:Int)-1)∧v10=.int .i64 b∧v11=.int .i64 s∧Trk.SufAt n m i j b s p∧Below w.heap.size w wr) (fun _ i j _ _ _=>(intOf i+1).toNat+(intOf j+1).toNat)
 case atStart=>exact⟨N,M,0,0,0,rfl,rfl,rfl,rfl,rfl,HZ.out,Below.refl _ _⟩
 case round=>
  obtain⟨i,j,b,s,p,rfl,rfl,rfl,rfl,rfl,hp,hb⟩:=hrel
  have HP:=Hd hp
  have HB:=Hd hb
  have li:i≤N:=by have:=hp.a.il;have:=HN.out;omega
  have lj:j≤M:=by have:=hp.c.il;have:=HM.out;omega
  have p0:=hp.a.nonneg HGN.out
  have HDN:=Hd (fun hx=>hp.done HGN.out HGM.out HL0.out TT.out.1 TT.out.2 hx)
  clear hp hb
  by_cases hpl:p<lim
  rotate_left
  ·have d1:decide (p<lim)=false:=decide_eq_false hpl
   have HD:=Hd (HDN.out (.inl (by omega)))
   clear hpl
   go_upto_region 4 with fail
   go_quiet (fail)
   go_wp2_with fail
   all_goals
    go_ret
    exact⟨min p lim,ret_int (by omega),HD.out,below_drewN HB.out _⟩
  have d1:decide (p<lim)=true:=decide_eq_true hpl
  cases i with
  | zero =>
   have HD:=Hd (HDN.out (.inr (.inl rfl)))
   have ei:(((0:Nat):Int)-1)=-1:=by omega
   rw[ei]
   clear ei
   have d2:decide ((0:Int)≤-1)=false:=rfl
   go_upto_region 4 with fail
   go_quiet (fail)
   go_wp2_with fail
   all_goals
    go_ret
    exact⟨min p lim,ret_int (by omega),HD.out,below_drewN HB.out _⟩
  |succ i=>
  cases j with
  | zero =>
   have HD:=Hd (HDN.out (.inr (.inr (.inl rfl))))
   have ei:(((0:Nat):Int)-1)=-1:=by omega
   have ej:(((i+1:Nat):Int)-1)=(i:Int):=by omega
   rw[ei,ej]
   clear ei ej
   have d2:decide ((0:Int)≤(i:Int))=true:=decide_eq_true (by omega)
   have d3:decide ((0:Int)≤-1)=false:=rfl
   go_upto_region 4 with fail
   go_quiet (fail)
   go_wp2_with fail
   all_goals
    go_ret
    exact⟨min p lim,ret_int (by omega),HD.out,below_drewN HB.out _⟩
  |succ j=>
  have ei:(((i+1:Nat):Int)-1)=(i:Int):=by omega
  have ej:(((j+1:Nat):Int)-1)=(j:Int):=by omega
  rw[ei,ej]
  clear ei ej
  obtain⟨c,hc⟩:∃ c,n[i]?=some c:=⟨_,List.getElem?_eq_getElem (by have:=HN.out;omega)⟩
  obtain⟨d,hd⟩:∃ d,m[j]?=some d:=⟨_,List.getElem?_eq_getElem (by have:=HM.out;omega)⟩
  obtain⟨ao',cap',e,_,_,hT⟩:=HT.out.below HB.out
  have e1:=HN.out
  simp only[Value.slice.injEq]at e
  obtain⟨rfl,-,rfl⟩:=e
  obtain⟨b1,o1,xc,rfl,hA,hX⟩:=hT i c hc
  obtain⟨ax,cx,ex⟩:=hX.form
  obtain⟨nx,hnx⟩:=Xq (c.chan.length)
  rw[← hnx]at ex
  subst ex
  have HIX:=Hd hX.it
  clear hX hnx
  obtain⟨bo',dap',e,_,_,hU⟩:=HU.out.below HB.out
  simp only[Value.slice.injEq]at e
  obtain⟨rfl,-,rfl⟩:=e
  obtain⟨b2,o2,yc,rfl,hA2,hY⟩:=hU j d hd
  obtain⟨ay,cy,ey⟩:=hY.form
  obtain⟨ny,hny⟩:=Xq (d.chan.length)
  rw[← hny]at ey
  subst ey
  have HIY:=Hd hY.it
  clear hY hny
  have HA:=Hd hA
  have HA2:=Hd hA2
  have HQ:=Hd (And.intro hc hd)
  have cl:=HLN.out c (List.mem_of_getElem? hc)
  have dl:=HLM.out d (List.mem_of_getElem? hd)
  have b0:=HP.out.a.b0
  have b01:=HP.out.a.b1 i c rfl hc
  have s0:=HP.out.c.b0
  have s01:=HP.out.c.b1 j d rfl hd
  have HSC:=Hd (fun w1 h1 h2=>HSF.out c d (.slice ax nx cx) (.slice ay ny cy) (List.mem_of_getElem? hc) (List.mem_of_getElem? hd) (c.len-1-b) (d.len-1-s) (by omega) (by omega) (by omega) (by omega) w1 h1 h2)
  unfold clipGV at HSC
  clear hT hU hA hA2 hc hd e1
  obtain⟨C,hC⟩:=Xq ((clipG c (.slice ax nx cx)).toArray)
  obtain⟨D,hD⟩:=Xq ((clipG d (.slice ay ny cy)).toArray)
  rw[← hC,← hD]at HSC
  have HC:=Hd hC
  have HD:=Hd hD
  clear hC hD
  have i1:(i:Int)<(N:Int):=by omega
  have j1:(j:Int)<(M:Int):=by omega
  have d2:decide ((0:Int)≤(i:Int))=true:=decide_eq_true (by omega)
  have d3:decide ((0:Int)≤(j:Int))=true:=decide_eq_true (by omega)
  go_upto_region 4 with fail
  refine Plan.wp_region_plan (fun w'=>GA w' b1 (o1+i*22) c (.slice ax nx cx)∧GA w' b2 (o2+j*22) d (.slice ay ny cy)) (([0,1,2,3,4,5,6,7,8,9,10,11,12,13,14,15,16,17,18,19,20,21,22,23,24,25,26,27,28,29,30,31,32,33,34,35].map (·,true))++(([36].map (·,false))++([37].map (·,true)))) (by kernel_rfl) (by kernel_rfl) (by kernel_rfl) ⟨HA.out.below (Below.refl _ _).drew,HA2.out.below (Below.refl _ _).drew⟩ ?_
  refine' Plan.plan_seg _ [0,1,2,3,4,5,6,7,8,9,10,11,12,13,14,15,16,17,18,19,20,21,22,23,24,25,26,27,28,29,30,31,32,33,34,35] (([36].map (·,false))++([37].map (·,true))) (by kernel_rfl) (by kernel_rfl) rfl (by exact⟨HA.out.below (Below.refl _ _).drew,HA2.out.below (Below.refl _ _).drew⟩) (fun wx hS=>?_) ?_
  rotate_left
  ·obtain⟨S1,S2⟩:=hS
   have HS1:=Hd S1
   have HS2:=Hd S2
   have x0:=S1.k0
   have y0:=S2.k0
   clear S1 S2
   go_light
   iterate 15 (apply Plan.seg_pick;rfl;intro K hK;go_wp)
   (apply Plan.seg_pick;rfl;intro K hK)
   go_guarded
   refine wp_load_mid 48 _ rfl b1 (o1+i*22) rfl (clipG c (.slice ax nx cx)) _ HS1.out.range Tryz.underlying48 rfl (by kernel_rfl) ?_
   rw[← HC.out]
   go_wp
   iterate 11 (apply Plan.seg_pick;rfl;intro K hK;go_wp)
   (apply Plan.seg_pick;rfl;intro K hK)
   go_guarded
   refine wp_load_mid 48 _ rfl b2 (o2+j*22) rfl (clipG d (.slice ay ny cy)) _ HS2.out.range Tryz.underlying48 rfl (by kernel_rfl) ?_
   rw[← HD.out]
   go_wp
   iterate 8 (apply Plan.seg_pick;rfl;intro K hK;go_wp)
   exact Plan.seg_nil
  obtain⟨w4,hw4⟩:=Xq (wr.drew)
  rw[← hw4]
  have hb:Below wr.heap.size wr w4:=by rw[hw4];exact(Below.refl _ _).drew
  replace HA:=Hd (HA.out.below hb)
  replace HA2:=Hd (HA2.out.below hb)
  replace HIX:=Hd (HIX.out.below hb)
  replace HIY:=Hd (HIY.out.below hb)
  replace HB:=Tb HB hb
  clear hb hw4
  obtain⟨r,hr⟩:=Xq (decide (Trk.one c (c.len-1-b)=Trk.one d (d.len-1-s)))
  rw[← hr]at HSC
  have HR:=Hd hr
  clear hr
  refine Plan.plan_of_effect rfl (fun K hK=>?_)
  go_wp2_with fail
  refine(HSC.out _ HIX.out HIY.out).mono ?_
  rintro e w5 ⟨rfl,hb⟩
  replace HA:=Hd (HA.out.below hb)
  replace HA2:=Hd (HA2.out.below hb)
  replace HB:=Tb HB hb
  clear hb HSC
  go_wp2_with fail
  refine⟨⟨HA.out,HA2.out⟩,?_⟩
  refine' Plan.plan_seg _ [37] [] (by kernel_rfl) (by kernel_rfl) rfl (by exact⟨HA.out,HA2.out⟩) (fun wx hS=>?_) ?_
  rotate_left
  ·clear hS
   go_light
   iterate 1 (apply Plan.seg_pick;rfl;intro K hK;go_wp)
   exact Plan.seg_nil
  refine Plan.plan_done ?_
  cases r with
  | false =>
   have HD:=Hd (HDN.out (.inr (.inr (.inr ⟨i,j,c,d,rfl,rfl,HQ.out.1,HQ.out.2,of_decide_eq_false HR.out.symm⟩))))
   go_wp2_with fail
   all_goals
    go_ret
    exact⟨min p lim,ret_int (by omega),HD.out,HB.out⟩
  | true =>
   obtain⟨t,ht⟩:=Xq (min (c.len-b) (d.len-s))
   have HN2:=Hd (HP.out.step HGN.out HGM.out HQ.out.1 HQ.out.2 (of_decide_eq_true HR.out.symm) ht)
   have x0:=HA.out.k0
   have y0:=HA2.out.k0
   have t1:1≤t:=by omega
   have t2:t≤c.len-b:=by omega
   have t3:t≤d.len-s:=by omega
   have HBT:=Hd (show b+t=c.len∨s+t=d.len by omega)
   obtain⟨x,hx⟩:=Xq (c.len-b)
   obtain⟨y,hy⟩:=Xq (d.len-s)
   have e1:c.len-b=x:=hx.symm
   have e2:d.len-s=y:=hy.symm
   have HM1:=Hd (show(x≤y∧t=x)∨(y<x∧t=y) by omega)
   have x1:x≤2147483647:=by omega
   have y1:y≤2147483647:=by omega
   have x2:1≤x:=by omega
   have y2:1≤y:=by omega
   clear ht hx hy
   go_upto_region 5 with fail
   go_cut [12] from 57 to 98 (fun v12 wx=>v12=.int .i64 (min x y)∧∃ k,wx=w5.drewN k)
   case first J K' h1 h2=>
    go_quiet (fail)
    refine h2 _ _ (Met.intro (h1 _ _ ?_))
    (repeat apply Exists.intro)
    exact⟨⟨rfl,_,rfl⟩,rfl⟩
   case rest=>
   obtain⟨rfl,k5,rfl⟩:=hcut
   have hc1:min x y=t:=by have:=HM1.out;omega
   rw[hc1]
   clear e1 e2 x1 x2 y1 y2 hc1
   by_cases h1:b+t=c.len
   ·have z1:(b+t==c.len)=true:=by simpa using h1
    by_cases h2:s+t=d.len
    ·have z2:(s+t==d.len)=true:=by simpa using h2
     have HN3:=HN2.out
     rw[if_pos h1,if_pos h2,if_pos h1,if_pos h2]at HN3
     replace HN2:=Hd HN3
     clear HN3 h1 h2
     go_wp2_with fail
     go_roundw
     case rel=>exact⟨i,j,0,0,p+t,rfl,rfl,rfl,rfl,rfl,HN2.out,below_drewN HB.out _⟩
     case measure=>simp[intOf]<;>omega
    have z2:(s+t==d.len)=false:=by simpa using h2
    have HN3:=HN2.out
    rw[if_pos h1,if_neg h2,if_pos h1,if_neg h2]at HN3
    replace HN2:=Hd HN3
    clear HN3 h1 h2
    go_wp2_with fail
    go_roundw
    case rel=>exact⟨i,j+1,0,s+t,p+t,rfl,rfl,by simp,rfl,rfl,HN2.out,below_drewN HB.out _⟩
    case measure=>simp[intOf]<;>omega
   have z1:(b+t==c.len)=false:=by simpa using h1
   by_cases h2:s+t=d.len
   ·have z2:(s+t==d.len)=true:=by simpa using h2
    have HN3:=HN2.out
    rw[if_neg h1,if_pos h2,if_neg h1,if_pos h2]at HN3
    replace HN2:=Hd HN3
    clear HN3 h1 h2
    go_wp2_with fail
    go_roundw
    case rel=>exact⟨i+1,j,b+t,0,p+t,rfl,by simp,rfl,rfl,rfl,HN2.out,below_drewN HB.out _⟩
    case measure=>simp[intOf]<;>omega
   exfalso
   exact HBT.out.elim h1 h2
def DB (w:World) (g:Nat):Prop:=∃ cur,w.heap[g]?=some (.cells cur 98 (0,0))
theorem DB.lt {w:World} {g:Nat} (h:DB w g):g<w.heap.size:=by
 obtain⟨cur,h⟩:=h
 exact(Array.getElem?_eq_some_iff.1 h).1
theorem DB.below {w w':World} {g:Nat} (h:DB w g) (hb:Below w.heap.size w w'):DB w' g:=by
 have hl:=h.lt
 obtain⟨cur,h⟩:=h
 exact⟨cur,(hb.block g hl).trans h⟩
theorem DB.set {w:World} {g:Nat} (h:DB w g) {k o:Nat} (u:Value):DB (w.setCell ⟨k,o,none⟩ u) g:=by
 obtain⟨cur,h⟩:=h
 by_cases e:k=g
 ·subst e
  exact⟨cur.setIfInBounds o u,by simp[World.setCell,Array.getElem?_modify,h]⟩
 exact⟨cur,by simp[World.setCell,Array.getElem?_modify,h,e]⟩
theorem OG.box {w:World} {B g:Nat} {v:Value} {l:List Trk.Clip} (h:OG w B 0 v l) (hd:DB w g) (hB:g<B) (o:Nat) (u:Value):OG (w.setCell ⟨g,o,none⟩ u) B 0 v l:=by
 obtain⟨cur,hd⟩:=hd
 exact h.far (by simp) hd (by decide) (Nat.zero_le _) (h.row_ne hB) (fun b _ hn=>by simp[World.setCell,Array.getElem?_modify,Ne.symm hn])
open Classical in
noncomputable def partE (l:List Trk.Clip) (a b:Int):Int:=if a=b∨okCut l a then 0 else 2
open Classical in
noncomputable def partR (l:List Trk.Clip) (a b:Int):List Trk.Clip:=if a=b∨okCut l a then partL l a b else[]
theorem partg_any (D0:Nat) (v:Value) (l:List Trk.Clip) (a b:Int) (w:World) (h:TG w D0 v l) (hV:TV l) (a0:0≤a) (ab:a≤b) (b1:b≤Trk.total l) :
  Calls Tryz.prog 94 #[v,.int .i64 a,.int .i64 b] w fun e w'=>∃ v',e=.returned (.tuple #[v',.int .i64 (partE l a b)])∧OG w' w.heap.size 0 v' (partR l a b)∧Below w.heap.size w w':=by
 by_cases he:a=b
 ·subst he
  have e1:partE l a a=0:=if_pos (Or.inl rfl)
  have e2:partR l a a=[]:=by unfold partR partL;rw[if_pos (Or.inl rfl),if_pos rfl]
  rw[e1,e2]
  obtain⟨ao,cap,rfl⟩:=h.form
  clear hV h e1 e2
  go_enter Tryz.func94,Tryz.ntmps94
  go_wp2_with fail
  go_ret2
  exact⟨_,rfl,OG.nil _ _ _,Below.refl _ _⟩
 have HC:=Hd (cutg_any D0 v l a b w h hV a0 (by omega) (by have:=hV.t;omega) (Nat.le_trans (Trk.cut_len hV.good a0 ab b1) hV.n))
 obtain⟨ao,cap,rfl⟩:=h.form
 clear hV h
 have z:(a==b)=false:=by simpa using he
 have HX:=Hd he
 clear he
 go_enter Tryz.func94,Tryz.ntmps94
 go_wp2_with fail
 refine HC.out.mono ?_
 rintro e w1 ⟨ho,hb⟩
 have HB:=Hd hb
 clear hb
 rcases ho with⟨hok,v',rfl,ho⟩ |⟨hok,rfl⟩
 ·have HO:=Hd ho
  have HK:=Hd hok
  clear ho hok
  go_wp2_with fail
  go_ret2
  refine⟨v',?_,?_,HB.out⟩
  ·unfold partE
   rw[if_pos (Or.inr HK.out)]
   rfl
  unfold partR partL
  rw[if_pos (Or.inr HK.out),if_neg HX.out]
  exact HO.out
 have HK:=Hd hok
 clear hok
 go_wp2_with fail
 go_ret2
 refine⟨.slice none 0 0,?_,?_,HB.out⟩
 ·unfold partE
  rw[if_neg (fun h=>h.elim HX.out HK.out)]
  rfl
 unfold partR
 rw[if_neg (fun h=>h.elim HX.out HK.out)]
 exact OG.nil _ _ _
def CmpG (w:World) (n m:List Trk.Clip) (e:Ending) (w':World):Prop:=
 ∃ p q xv,e=.returned (.agg #[.int .i64 p,.int .i64 q,xv,.int .i64 (partE m p (Trk.total m-(Trk.total n-q)))])∧Trk.Diff n m p q (partL m p (Trk.total m-(Trk.total n-q)))∧OG w' w.heap.size 0 xv (partR m p (Trk.total m-(Trk.total n-q)))∧Below w.heap.size w w'
theorem compareg_any (D1 D2:Nat) (v u:Value) (n m:List Trk.Clip) (w:World) (h:TG w D1 v n) (h':TG w D2 u m) (Vn:TV n) (Vm:TV m) :
  Calls Tryz.prog 49 #[v,u] w (CmpG w n m):=by
 have HT:=Hd h
 have HU:=Hd h'
 have L1:=Hd (fun(w:World) (h:TG w D1 v n)=>lengthg_any D1 v n w h Vn)
 have L2:=Hd (fun(w:World) (h:TG w D2 u m)=>lengthg_any D2 u m w h Vm)
 have PX:=Hd (fun(w:World) (h:TG w D1 v n) (h':TG w D2 u m)=>prefixg_any D1 D2 v u n m w h h' Vn Vm)
 have SX:=Hd (fun(lim:Int) (w:World) (h:TG w D1 v n) (h':TG w D2 u m)=>suffixg_any D1 D2 v u n m lim w h h' Vn Vm)
 have PA:=Hd (fun(a b:Int) (w:World) (h':TG w D2 u m)=>partg_any D2 u m a b w h' Vm)
 have tn:=Vn.t
 have tm:=Vm.t
 have t0:=Trk.total_nonneg Vn.good
 have t1:=Trk.total_nonneg Vm.good
 obtain⟨ao,cap,rfl,-⟩:=h
 obtain⟨bo,dap,rfl,-⟩:=h'
 clear Vn Vm
 obtain⟨N,hN⟩:=Xq (Trk.total n)
 obtain⟨M,hM⟩:=Xq (Trk.total m)
 rw[← hN]at tn t0
 rw[← hM]at tm t1
 have HN:=Hd hN
 have HM:=Hd hM
 clear hN hM
 obtain⟨ln,hln⟩:=Xq (n.length)
 obtain⟨lm,hlm⟩:=Xq (m.length)
 rw[← hln]at HT L1 PX SX ⊢
 rw[← hlm]at HU L2 PX SX PA ⊢
 clear hln hlm
 go_enter Tryz.func49,Tryz.ntmps49
 go_upto_region 1 with fail
 obtain⟨w1,hw1⟩:=Xq (w.alloc (.cells #[.int .i64 0,.int .i64 0,.slice none 0 0,.int .i64 0] 98))
 obtain⟨g,hg⟩:=Xq (w.heap.size)
 have hb:Below w.heap.size w w1:=by rw[hw1];exact below_box _ _
 have HD:=Hd (show D4 w1 g 0 0 (.slice none 0 0) 0 by rw[hw1,hg];exact⟨by simp[go_sem],by simp[go_sem],by simp[go_sem],by simp[go_sem],fun o=>by simp[go_sem]⟩)
 have HDB:=Hd (show DB w1 g by rw[hw1,hg];exact⟨_,(MapKept.heap_alloc w _).1⟩)
 rw[← hw1,← hg]
 have HB:=Hd hb
 have HG:=Hd (show w.heap.size≤g by omega)
 replace HT:=Hd (HT.out.below hb)
 replace HU:=Hd (HU.out.below hb)
 clear hb hw1 hg
 go_wp2_with fail
 refine(L1.out _ HT.out).mono ?_
 rintro e w2 ⟨rfl,hb⟩
 replace HB:=Tb HB hb
 replace HD:=Hd (HD.out.below hb)
 replace HDB:=Hd (HDB.out.below hb)
 replace HT:=Hd (HT.out.below hb)
 replace HU:=Hd (HU.out.below hb)
 rw[← HN.out]
 clear hb
 go_wp2_with fail
 refine(L2.out _ HU.out).mono ?_
 rintro e w3 ⟨rfl,hb⟩
 replace HB:=Tb HB hb
 replace HD:=Hd (HD.out.below hb)
 replace HDB:=Hd (HDB.out.below hb)
 replace HT:=Hd (HT.out.below hb)
 replace HU:=Hd (HU.out.below hb)
 rw[← HM.out]
 clear hb
 go_wp2_with fail
 refine(PX.out _ HT.out HU.out).mono ?_
 rintro e w4 ⟨p,rfl,hp,hb⟩
 replace HB:=Tb HB hb
 replace HD:=Hd (HD.out.below hb)
 replace HDB:=Hd (HDB.out.below hb)
 replace HT:=Hd (HT.out.below hb)
 replace HU:=Hd (HU.out.below hb)
 have HP:=Hd hp
 have p0:=hp.h0
 have p1:p≤N:=by rw[HN.out];exact hp.h1
 have p2:p≤M:=by rw[HM.out];exact hp.h2
 clear hb hp
 obtain⟨k,hk⟩:=Xq (min N M)
 have HK:=Hd hk
 have k1:k≤N:=by omega
 have k2:k≤M:=by omega
 have k3:p≤k:=by omega
 clear hk
 go_upto_region 3 with fail
 apply wp_region_lit
 iterate 15 go_step
 rw[← HK.out]
 go_wp2_with fail
 refine(SX.out (k-p) _ HT.out HU.out (by omega) (by have:=HN.out;omega) (by have:=HM.out;omega)).mono ?_
 rintro e w5 ⟨s,rfl,hs,hb⟩
 replace HB:=Tb HB hb
 replace HD:=Hd (HD.out.below hb)
 replace HDB:=Hd (HDB.out.below hb)
 replace HU:=Hd (HU.out.below hb)
 have HS:=Hd hs
 have s0:=hs.h0
 have s1:=hs.h1
 clear hb hs HT
 obtain⟨q,hq⟩:=Xq (N-s)
 obtain⟨r,hr⟩:=Xq (M-s)
 have eq1:N-s=q:=hq.symm
 have er1:M-s=r:=hr.symm
 have HQR:=Hd (And.intro hq hr)
 have q0:p≤q:=by omega
 have q1:q≤2147483647:=by omega
 have r0:p≤r:=by omega
 have r1:r≤2147483647:=by omega
 have r2:r≤M:=by omega
 clear hq hr
 go_upto_region 5 with fail
 obtain⟨w6,hw6⟩:=Xq (w5.alloc (.cells #[.int .i64 p,.int .i64 q,.slice none 0 0,.int .i64 0] 98))
 obtain⟨g2,hg2⟩:=Xq (w5.heap.size)
 have hb:Below w5.heap.size w5 w6:=by rw[hw6];exact below_box _ _
 have HE:=Hd (show D4 w6 g2 p q (.slice none 0 0) 0 by rw[hw6,hg2];exact⟨by simp[go_sem],by simp[go_sem],by simp[go_sem],by simp[go_sem],fun o=>by simp[go_sem]⟩)
 have HEB:=Hd (show DB w6 g2 by rw[hw6,hg2];exact⟨_,(MapKept.heap_alloc w5 _).1⟩)
 rw[← hw6,← hg2]
 have HG2:=Hd (show w.heap.size≤g2∧g≠g2 by have:=HB.out.size;have:=HD.out.lt;omega)
 replace HB:=Tb HB hb
 replace HD:=Hd (HD.out.below hb)
 replace HDB:=Hd (HDB.out.below hb)
 replace HU:=Hd (HU.out.below hb)
 clear hb hw6 hg2
 go_wp2_with fail
 refine(PA.out p r _ HU.out p0 r0 (by have:=HM.out;omega)).mono ?_
 rintro e w7 ⟨xv,rfl,ho,hb⟩
 obtain⟨xa,xc,hxv⟩:=ho.tg.form
 have HO:=Hd ho
 have HLE:=Hd (And.intro HB.out.size (And.intro HD.out.lt HE.out.lt))
 replace HB:=Tb HB hb
 replace HD:=Hd (HD.out.below hb)
 replace HDB:=Hd (HDB.out.below hb)
 replace HE:=Hd (HE.out.below hb)
 replace HEB:=Hd (HEB.out.below hb)
 clear hb ho
 obtain⟨er,her⟩:=Xq (partE m p r)
 rw[← her]
 have HER:=Hd her
 clear her
 obtain⟨xn,hxn⟩:=Xq ((partR m p r).length)
 rw[← hxn]at hxv
 subst hxv
 clear hxn
 obtain⟨e0,e1,e2,e3,ef⟩:=HE.out
 obtain⟨d0,d1,d2,d3,df⟩:=HD.out
 have n1:=HG2.out.2
 have n2:g2≠g:=Ne.symm n1
 go_wp2_with fail
 have hr':r=Trk.total m-(Trk.total n-q):=by
  rw[← HN.out,← HM.out]
  have:=HQR.out
  omega
 have hdf:Trk.Diff n m p q (partL m p (Trk.total m-(Trk.total n-q))):=by
  refine⟨HP.out,?_,rfl⟩
  have h1:Trk.total n-q=s:=by rw[← HN.out];have:=HQR.out;omega
  rw[h1,← HN.out,← HM.out,← HK.out]
  exact HS.out
 have hg:=HG.out
 have hg2:=HG2.out.1
 refine bodyPost_ret (results_diff (g:=g) (p:=p) (q:=q) (x:=.slice xa xn xc) (e:=er) Tryz.results49 rfl ?_) rfl ⟨p,q,.slice xa xn xc,?_,hdf,?_,?_⟩
 ·exact⟨by simp[go_sem,d0,d1,d2,d3,df],by simp[go_sem,d0,d1,d2,d3,df],by simp[go_sem,d0,d1,d2,d3,df],by simp[go_sem,d0,d1,d2,d3,df],fun o=>by simp[go_sem,df]⟩
 ·rw[← hr',← HER.out]
 ·rw[← hr']
  obtain⟨l1,l2,l3⟩:=HLE.out
  have h:=HO.out
  have b1:=HDB.out
  have b2:=HEB.out
  have h1:=h.box b2 l3 2 (.slice xa xn xc)
  have b1:=b1.set (k:=g2) (o:=2) (.slice xa xn xc)
  have b2:=b2.set (k:=g2) (o:=2) (.slice xa xn xc)
  have h2:=h1.box b2 l3 3 (.int .i64 er)
  have b1:=b1.set (k:=g2) (o:=3) (.int .i64 er)
  have h3:=h2.box b1 l2 0 (.int .i64 p)
  have b1:=b1.set (k:=g) (o:=0) (.int .i64 p)
  have h4:=h3.box b1 l2 1 (.int .i64 q)
  have b1:=b1.set (k:=g) (o:=1) (.int .i64 q)
  have h5:=h4.box b1 l2 2 (.slice xa xn xc)
  have b1:=b1.set (k:=g) (o:=2) (.slice xa xn xc)
  have h6:=h5.box b1 l2 3 (.int .i64 er)
  exact h6.lower l1
 have h:=HB.out
 exact(((((h.setCell (p:=⟨g2,2,none⟩) hg2 _).setCell (p:=⟨g2,3,none⟩) hg2 _).setCell (p:=⟨g,0,none⟩) hg _).setCell (p:=⟨g,1,none⟩) hg _).setCell (p:=⟨g,2,none⟩) hg _).setCell (p:=⟨g,3,none⟩) hg _
theorem TV.cl {l:List Trk.Clip} (h:TV l):∀ c∈l,c.chan.length≤1048576:=fun c hc=>by
 have:=(h.c c hc).ch.1
 omega
theorem TV.nil:TV []:=⟨by simp,fun c hc=>(by cases hc),by show(0:Int)≤_;decide⟩
theorem partR_tv {l:List Trk.Clip} (h:TV l) {a b:Int} (a0:0≤a) (ab:a≤b) (b1:b≤Trk.total l):TV (partR l a b):=by
 unfold partR partL
 split
 ·rename_i ho
  split
  ·exact TV.nil
  rename_i hn
  have ht:=h.t
  refine⟨Nat.le_trans (Trk.cut_len h.good a0 ab b1) h.n,cut_vg h.l a0 ab (by omega) (ho.resolve_left hn),?_⟩
  rw[(Trk.cut_of h.good a0 ab).t]
  omega
 exact TV.nil
theorem partR_of {l:List Trk.Clip} {a b:Int} (h:partE l a b=0):partR l a b=partL l a b:=by
 unfold partE at h
 unfold partR
 split
 ·rfl
 rename_i hn
 rw[if_neg hn]at h
 exact absurd h (by decide)
def ChgG (w:World) (n m:List Trk.Clip) (e:Ending) (w':World):Prop:=
 ∃ p q xv x ok,e=.returned (.tuple #[.int .i64 p,.int .i64 q,xv,.bool ok])∧((ok=false∧Trk.nf n=Trk.nf m∧p=0∧q=0∧x=[])∨(ok=true∧Trk.nf n≠Trk.nf m∧Trk.Diff (Trk.nf n) (Trk.nf m) p q (partL (Trk.nf m) p (Trk.total (Trk.nf m)-(Trk.total (Trk.nf n)-q)))∧x=partR (Trk.nf m) p (Trk.total (Trk.nf m)-(Trk.total (Trk.nf n)-q))))∧OG w' w.heap.size 0 xv x∧Below w.heap.size w w'
theorem changeg_any (D1 D2:Nat) (v u:Value) (n m:List Trk.Clip) (w:World) (h:TG w D1 v n) (h':TG w D2 u m) (Vn:TV n) (Vm:TV m) :
  Calls Tryz.prog 27 #[v,u] w (ChgG w n m):=by
 have HT:=Hd h
 have HU:=Hd h'
 have V1:=Hd (fun(w:World) (h:TG w D1 v n)=>vtrackg_yes D1 v n w h Vn)
 have V2:=Hd (fun(w:World) (h:TG w D2 u m)=>vtrackg_yes D2 u m w h Vm)
 have S1:=Hd (fun(w:World) (h:TG w D1 v n) (h':TG w D2 u m)=>sameg_any D1 D2 v u n m w h h' Vn Vm)
 have N1:=Hd (fun(w:World) (h:TG w D1 v n)=>normalg_any D1 v n w h Vn)
 have N2:=Hd (fun(w:World) (h:TG w D2 u m)=>normalg_any D2 u m w h Vm)
 have CM:=Hd (fun(v u:Value) (w:World) (h:TG w 0 v (Trk.nf n)) (h':TG w 0 u (Trk.nf m))=>compareg_any 0 0 v u _ _ w h h' Vn.nf Vm.nf)
 have CL:=Hd (fun(p q:Int) (v:Value) (w:World) (hd:Trk.Diff (Trk.nf n) (Trk.nf m) p q (partL (Trk.nf m) p (Trk.total (Trk.nf m)-(Trk.total (Trk.nf n)-q)))) (h:TG w 0 v (partR (Trk.nf m) p (Trk.total (Trk.nf m)-(Trk.total (Trk.nf n)-q))))=>
  have hv:=partR_tv Vm.nf hd.le.1 hd.le.2.2.2.1 (by have:=hd.le;omega)
  clonetrackg_any 0 v _ w h (by have:=hv.n;omega) (fun c hc=>hv.cl c hc))
 obtain⟨ao,ca,rfl⟩:=h.form
 obtain⟨bo,cb,rfl⟩:=h'.form
 clear Vn Vm h h'
 obtain⟨ln,hln⟩:=Xq (n.length)
 obtain⟨lm,hlm⟩:=Xq (m.length)
 rw[← hln]at HT V1 S1 N1 ⊢
 rw[← hlm]at HU V2 S1 N2 ⊢
 clear hln hlm
 go_enter Tryz.func27,Tryz.ntmps27
 go_wp2_with fail
 refine(V1.out _ HT.out).mono ?_
 rintro e w1 ⟨rfl,hb⟩
 have HB:=Hd hb
 clear hb
 go_wp2_with fail
 refine(V2.out _ (HU.out.below HB.out)).mono ?_
 rintro e w2 ⟨rfl,hb⟩
 replace HB:=Tb HB hb
 clear hb
 go_wp2_with fail
 refine(S1.out _ (HT.out.below HB.out) (HU.out.below HB.out)).mono ?_
 rintro e w3 ⟨rfl,hb⟩
 replace HB:=Tb HB hb
 clear hb
 by_cases hs:Trk.nf n=Trk.nf m
 ·have HS:=Hd hs
  rw[decide_eq_true hs]
  clear hs
  go_wp2_with fail
  go_returns
  exact⟨0,0,.slice none 0 0,[],false,rfl,.inl ⟨rfl,HS.out,rfl,rfl,rfl⟩,OG.nil _ _ _,HB.out⟩
 have HS:=Hd hs
 rw[decide_eq_false hs]
 clear hs
 go_wp2_with fail
 refine(N1.out _ (HT.out.below HB.out)).mono ?_
 rintro e w4 ⟨x4,rfl,ho,hb⟩
 have H4:=Hd ho.tg
 replace HB:=Tb HB hb
 clear hb ho
 go_wp2_with fail
 refine(N2.out _ (HU.out.below HB.out)).mono ?_
 rintro e w5 ⟨x5,rfl,ho,hb⟩
 have H5:=Hd ho.tg
 replace H4:=Hd (H4.out.below hb)
 replace HB:=Tb HB hb
 clear hb ho
 go_wp2_with fail
 refine(CM.out _ _ _ H4.out H5.out).mono ?_
 rintro e w6 ⟨p,q,xv,rfl,hd,ho,hb⟩
 have HD:=Hd hd
 obtain⟨er,her⟩:=Xq (partE (Trk.nf m) p (Trk.total (Trk.nf m)-(Trk.total (Trk.nf n)-q)))
 obtain⟨x,hxe⟩:=Xq (partR (Trk.nf m) p (Trk.total (Trk.nf m)-(Trk.total (Trk.nf n)-q)))
 rw[← hxe]at ho
 rw[← her]
 have HXE:=Hd hxe
 have H6:=Hd ho.tg
 replace HB:=Tb HB hb
 obtain⟨xa,xc,hxv⟩:=ho.tg.form
 obtain⟨xn,hxn⟩:=Xq (x.length)
 rw[← hxn]at hxv
 subst hxv
 clear hb ho hd hxn hxe her H4 H5 V1 V2 S1 N1 N2 CM
 go_upto_region 4 with fail
 obtain⟨w7,hw7⟩:=Xq (w6.alloc (.cells #[.int .i64 p,.int .i64 q,.slice xa xn xc,.int .i64 er] 98))
 obtain⟨g,hg⟩:=Xq (w6.heap.size)
 have hb:Below w6.heap.size w6 w7:=by rw[hw7];exact below_box _ _
 have HE:=Hd (show D4 w7 g p q (.slice xa xn xc) er by rw[hw7,hg];exact⟨by simp[go_sem],by simp[go_sem],by simp[go_sem],by simp[go_sem],fun o=>by simp[go_sem]⟩)
 rw[← hw7,← hg]
 replace H6:=Hd (H6.out.below hb)
 replace HB:=Tb HB hb
 clear hb hw7 hg
 refine Plan.wp_region_plan (fun w'=>D4 w' g p q (.slice xa xn xc) er) (([0,1,2,3,4,5].map (·,true))++(([6].map (·,false))++([7,8,9,10].map (·,true)))) (by kernel_rfl) (by kernel_rfl) (by kernel_rfl) (HE.out.below (Below.refl _ _).drew) ?_
 refine' Plan.plan_seg _ [0,1,2,3,4,5] (([6].map (·,false))++([7,8,9,10].map (·,true))) (by kernel_rfl) (by kernel_rfl) rfl (by exact HE.out.below (Below.refl _ _).drew) (fun wx hS=>?_) ?_
 rotate_left
 ·obtain⟨e0,e1,e2,e3,ef⟩:=hS
  go_light
  iterate 6 (apply Plan.seg_pick;rfl;intro K hK;go_wp)
  exact Plan.seg_nil
 obtain⟨w8,hw8⟩:=Xq (w7.drew)
 rw[← hw8]
 have hb:Below w7.heap.size w7 w8:=by rw[hw8];exact(Below.refl _ _).drew
 replace HE:=Hd (HE.out.below hb)
 replace H6:=Hd (H6.out.below hb)
 replace HB:=Tb HB hb
 clear hb hw8
 refine Plan.plan_of_effect rfl (fun K hK=>?_)
 go_wp2_with fail
 have H6C:=H6.out
 rw[HXE.out]at H6C
 refine(CL.out p q _ _ HD.out H6C).mono ?_
 clear H6C
 rintro e w9 ⟨v9,rfl,ho,hb⟩
 rw[← HXE.out]at ho
 have HO:=Hd (ho.lower HB.out.size)
 replace HE:=Hd (HE.out.below hb)
 replace HB:=Tb HB hb
 clear hb ho
 go_wp2_with fail
 refine⟨HE.out,?_⟩
 refine' Plan.plan_seg _ [7,8,9,10] [] (by kernel_rfl) (by kernel_rfl) rfl (by exact HE.out) (fun wx hS=>?_) ?_
 rotate_left
 ·clear hS
  go_light
  iterate 4 (apply Plan.seg_pick;rfl;intro K hK;go_wp)
  exact Plan.seg_nil
 refine Plan.plan_done ?_
 go_wp2_with fail
 go_returns
 exact⟨p,q,_,x,true,rfl,.inr ⟨rfl,HS.out,HD.out,HXE.out⟩,HO.out,HB.out⟩
def pieces (n:List Trk.Clip) (p1 q1:Int) (x1:List Trk.Clip) (p2 q2:Int) (x2:List Trk.Clip):List (List Trk.Clip):=[partL n 0 p1,x1,partL n q1 p2,x2,partL n q2 (Trk.total n)]
def flatK (P:List (List Trk.Clip)) (k:Nat):List Trk.Clip:=(P.take k).flatten
def GlueR (P:List (List Trk.Clip)) (code:Int) (x:List Trk.Clip):Prop:=
 (code=5∧x=[]∧∃ k,k≤P.length∧64<(Trk.pk (flatK P k)).length)∨(code=0∧x=Trk.nf P.flatten∧∀ k,k≤P.length→(Trk.pk (flatK P k)).length≤64)
def rpG (x y z:Int) (i lo hi:Nat) (v:Value) (w:World):Prop:=v=if i=5 then .int .i64 x else if i=6 then .int .i64 z else .int .i64 y
theorem rpG.ext {x y z:Int} (i lo hi:Nat) (v:Value) (w w':World) (h:rpG x y z i lo hi v w) (hb:Plan.Ext w w'):rpG x y z i lo hi v w':=h
def RepR (n:List Trk.Clip) (p1 q1:Int) (x1:List Trk.Clip) (p2 q2:Int) (x2:List Trk.Clip) (code:Int) (x:List Trk.Clip):Prop:=
 (2147483647<Trk.total (pieces n p1 q1 x1 p2 q2 x2).flatten∧code=2∧x=[])∨(Trk.total (pieces n p1 q1 x1 p2 q2 x2).flatten≤2147483647∧GlueR (pieces n p1 q1 x1 p2 q2 x2) code x)
def Two (n a b:List Trk.Clip) (p1 q1:Int) (x1:List Trk.Clip) (p2 q2:Int) (x2:List Trk.Clip):Prop:=
 (Trk.Diff n a p1 q1 x1∧Trk.Diff n b p2 q2 x2∧¬q2<p1)∨(Trk.Diff n b p1 q1 x1∧Trk.Diff n a p2 q2 x2∧q1<p2)
theorem D4.put {w:World} {g:Nat} {p q:Int} {x:Value} {e:Int} (h:D4 w g p q x e) (p' q':Int) (x':Value) (e':Int) :
  D4 ((((w.setCell ⟨g,0,none⟩ (.int .i64 p')).setCell ⟨g,1,none⟩ (.int .i64 q')).setCell ⟨g,2,none⟩ x').setCell ⟨g,3,none⟩ (.int .i64 e')) g p' q' x' e':=by
 obtain⟨h0,h1,h2,h3,hf⟩:=h
 exact⟨by simp[go_sem,h0,h1,h2,h3,hf],by simp[go_sem,h0,h1,h2,h3,hf],by simp[go_sem,h0,h1,h2,h3,hf],by simp[go_sem,h0,h1,h2,h3,hf],fun o=>by simp[go_sem,hf]⟩
theorem D4.other {w:World} {g:Nat} {p q:Int} {x:Value} {e:Int} (h:D4 w g p q x e) {g2:Nat} (hn:g≠g2) (o:Nat) (u:Value):D4 (w.setCell ⟨g2,o,none⟩ u) g p q x e:=by
 obtain⟨h0,h1,h2,h3,hf⟩:=h
 have hn2:=Ne.symm hn
 exact⟨by simp[go_sem,h0,hn,hn2],by simp[go_sem,h1,hn,hn2],by simp[go_sem,h2,hn,hn2],by simp[go_sem,h3,hn,hn2],fun o=>by simp[go_sem,hf]⟩
def five (a b c d e:Int) (k:Nat):Int:=[a,b,c,d,e].getD k 0
def okRep (n:List Trk.Clip) (E1 p1 q1 E2 p2 q2:Int):Prop:=E1=0∧E2=0∧partE n 0 p1=0∧partE n q1 p2=0∧partE n q2 (Trk.total n)=0
structure DG (n m:List Trk.Clip) (p q:Int) (x:List Trk.Clip) (e:Int):Prop where
 d:Trk.Diff n m p q (partL m p (Trk.total m-(Trk.total n-q)))
 x:x=partR m p (Trk.total m-(Trk.total n-q))
 e:e=partE m p (Trk.total m-(Trk.total n-q))
theorem DG.tv {n m x:List Trk.Clip} {p q e:Int} (h:DG n m p q x e) (hm:TV m):TV x:=by
 rw[h.x]
 exact partR_tv hm h.d.le.1 h.d.le.2.2.2.1 (by have:=h.d.le;omega)
def RepG (n:List Trk.Clip) (E1 p1 q1:Int) (x1:List Trk.Clip) (E2 p2 q2:Int) (x2:List Trk.Clip) (code:Int) (x:List Trk.Clip):Prop:=
 (¬okRep n E1 p1 q1 E2 p2 q2∧code=2∧x=[])∨(okRep n E1 p1 q1 E2 p2 q2∧RepR n p1 q1 x1 p2 q2 x2 code x)
end Go.Proofs.YtfoohocgdcgbcaaGreat
namespace Go.Trk
theorem Pre.uniq {n m:List Clip} {p q:Int} (h:Pre n m p) (k:Pre n m q):p=q:=by
 have h1:=h.h1
 have h2:=h.h2
 have k1:=k.h1
 have k2:=k.h2
 rcases Int.lt_trichotomy p q with e |e |e
 ·exact absurd (k.f p h.h0 e) (h.x (by omega) (by omega))
 ·exact e
 exact absurd (h.f q k.h0 e) (k.x (by omega) (by omega))
theorem Suf.uniq {n m:List Clip} {lim p q:Int} (h:Suf n m lim p) (k:Suf n m lim q):p=q:=by
 have h1:=h.h1
 have k1:=k.h1
 rcases Int.lt_trichotomy p q with e |e |e
 ·exact absurd (k.f p h.h0 e) (h.x (by omega))
 ·exact e
 exact absurd (h.f q k.h0 e) (k.x (by omega))
theorem Diff.uniq {n m x y:List Clip} {p q p' q':Int} (h:Diff n m p q x) (k:Diff n m p' q' y):p=p'∧q=q':=by
 have e:=h.pre.uniq k.pre
 subst e
 have:=h.suf.uniq k.suf
 exact⟨rfl,by omega⟩
end Go.Trk
namespace Go.Proofs.YtfoohocgdcgbcaaGreat
open Go.RowKit
theorem DG.uniq {n m x y:List Trk.Clip} {p q e p' q' e':Int} (h:DG n m p q x e) (k:DG n m p' q' y e'):p=p'∧q=q'∧x=y∧e=e':=by
 obtain⟨rfl,rfl⟩:=h.d.uniq k.d
 exact⟨rfl,rfl,h.x.trans k.x.symm,h.e.trans k.e.symm⟩
theorem GlueR.uniq {P:List (List Trk.Clip)} {c d:Int} {x y:List Trk.Clip} (h:GlueR P c x) (k:GlueR P d y):c=d∧x=y:=by
 rcases h with⟨rfl,rfl,i,hi,hl⟩ |⟨rfl,rfl,hl⟩<;>rcases k with⟨rfl,rfl,j,hj,kl⟩ |⟨rfl,rfl,kl⟩
 ·exact⟨rfl,rfl⟩
 ·have:=kl i hi;omega
 ·have:=hl j hj;omega
 exact⟨rfl,rfl⟩
theorem RepG.uniq {n x1 x2 x y:List Trk.Clip} {E1 p1 q1 E2 p2 q2 c d:Int} (h:RepG n E1 p1 q1 x1 E2 p2 q2 x2 c x) (k:RepG n E1 p1 q1 x1 E2 p2 q2 x2 d y):c=d∧x=y:=by
 rcases h with⟨h,rfl,rfl⟩ |⟨h,hr⟩<;>rcases k with⟨k,rfl,rfl⟩ |⟨k,kr⟩
 ·exact⟨rfl,rfl⟩
 ·exact absurd k h
 ·exact absurd h k
 rcases hr with⟨h1,rfl,rfl⟩ |⟨h1,hg⟩<;>rcases kr with⟨k1,rfl,rfl⟩ |⟨k1,kg⟩
 ·exact⟨rfl,rfl⟩
 ·omega
 ·omega
 exact hg.uniq kg
def OutG (n:List Trk.Clip) (E1 p1 q1:Int) (x1:List Trk.Clip) (E2 p2 q2:Int) (x2:List Trk.Clip) (code:Int) (x:List Trk.Clip):Prop:=
 (p2≤q1∧code=12∧x=[])∨(q1<p2∧RepG n E1 p1 q1 x1 E2 p2 q2 x2 code x)
theorem OutG.uniq {n x1 x2 x y:List Trk.Clip} {E1 p1 q1 E2 p2 q2 c d:Int} (h:OutG n E1 p1 q1 x1 E2 p2 q2 x2 c x) (k:OutG n E1 p1 q1 x1 E2 p2 q2 x2 d y):c=d∧x=y:=by
 rcases h with⟨h,rfl,rfl⟩ |⟨h,hr⟩<;>rcases k with⟨k,rfl,rfl⟩ |⟨k,kr⟩
 ·exact⟨rfl,rfl⟩
 ·omega
 ·omega
 exact hr.uniq kr
theorem rmoved_coreW (k:Int) (nm:ByteArray) (an sn:Int) (a d:Nat) (sm:Bool) (n:Int) (w:World) (hne:(⟨k,nm,an,(a:Int),sn,(d:Int),sm⟩:Trk.Src)≠Trk.black) (a0:1≤a) (d0:1≤d) (a1:a≤65536) (d1:d≤65536) (b:Nat) (hb:b=baseN a d) (b0:1≤b) (b1:b≤65536)
  (e1 e2:Nat) (he1:(b:Int) / (a:Int)=(e1:Int)) (he2:(b:Int) / (d:Int)=(e2:Int)) (X1 X2 X3:Int) (h1:an*(e1:Int)=X1) (h2:n*sn=X2) (h3:X2*(e2:Int)=X3)
  (b3:-576460752303423488≤X1∧X1≤576460752303423488) (b4:-288230376151711744≤X2∧X2≤288230376151711744) (b5:-288230376151711744≤X3∧X3≤288230376151711744) (b6:an.natAbs≤576460752303423488) (b7:n.natAbs≤4294967296) (b8:sn.natAbs≤67108864) (b9:e1≤65536) (b10:e2≤65536)
  (g:Nat) (hg:g=Nat.gcd (X1+X3).natAbs b) (g0:1≤g) (g1:g≤b) (N':Int) (D':Nat) (hN:(X1+X3).tdiv (g:Int)=N') (hD:(b:Int) / (g:Int)=(D':Int)) (D0:1≤D') (D1:D'≤65536) (N0:N'.natAbs≤1152921504606846976) (r:Bool) (hw:withinN N'.natAbs D' 1099511627776=r) :
  Calls Tryz.prog 143 #[srcV ⟨k,nm,an,(a:Int),sn,(d:Int),sm⟩,.int .i64 n] w fun e w'=>e=.returned (.tuple #[srcV ⟨k,nm,N',(D':Int),sn,(d:Int),sm⟩,.bool r])∧Below w.heap.size w w':=by
 obtain⟨s,hs⟩:∃ s:Trk.Src,s=⟨k,nm,an,(a:Int),sn,(d:Int),sm⟩:=⟨_,rfl⟩
 have HBL:=Hd (fun w=>rblack_any ⟨k,nm,an,(a:Int),sn,(d:Int),sm⟩ w)
 rw[decide_eq_false hne]at HBL
 have HBA:=Hd (fun w=>base_any k nm an sn a d sm w a0 d0 (by omega) (by omega))
 rw[← hb]at HBA
 have HGC:=Hd (fun w=>rgcd_any (X1+X3) b w (by omega) (by omega) (by omega))
 rw[← hg]at HGC
 have HWI:=Hd (fun w=>rwithin_any N' D' 1099511627776 w (by omega) (by omega) D0 (by omega) (by decide))
 rw[hw]at HWI
 replace HBL:Hid (∀ w,Calls Tryz.prog 139 #[.agg #[.int .i64 k,.string nm,.int .i64 an,.int .i64 (a:Int),.int .i64 sn,.int .i64 (d:Int),.bool sm]] w fun e w'=>e=.returned (.bool false)∧Below w.heap.size w w'):=HBL
 show Calls Tryz.prog 143 #[.agg #[.int .i64 k,.string nm,.int .i64 an,.int .i64 (a:Int),.int .i64 sn,.int .i64 (d:Int),.bool sm],.int .i64 n] w _
 clear hb hg hw hne hs
 go_enter Tryz.func143,Tryz.ntmps143
 go_upto_region 1 with fail
 obtain⟨w1,hw1⟩:=Xq ((w.alloc (.cells #[.int .i64 k,.string nm,.int .i64 an,.int .i64 (a:Int),.int .i64 sn,.int .i64 (d:Int),.bool sm] 46)).alloc (.cells #[.int .i64 0,.string ⟨#[]⟩,.int .i64 0,.int .i64 0,.int .i64 0,.int .i64 0,.bool false] 46))
 rw[← hw1]
 have HS:=Hd (show SVar w1 w.heap.size ⟨k,nm,an,(a:Int),sn,(d:Int),sm⟩ by
  rw[hw1]
  exact(SVar.box w ⟨k,nm,an,(a:Int),sn,(d:Int),sm⟩ 46).below (below_box _ _))
 have HZ:=Hd (show SVar w1 (w.heap.size+1) Trk.black by
  have h2:=SVar.box (w.alloc (.cells #[.int .i64 k,.string nm,.int .i64 an,.int .i64 (a:Int),.int .i64 sn,.int .i64 (d:Int),.bool sm] 46)) Trk.black 46
  rw[show(w.alloc (.cells #[.int .i64 k,.string nm,.int .i64 an,.int .i64 (a:Int),.int .i64 sn,.int .i64 (d:Int),.bool sm] 46)).heap.size=w.heap.size+1 by simp]at h2
  rw[hw1]
  exact h2)
 have HB:=Hd (show Below w.heap.size w w1 by rw[hw1];exact((Below.refl _ _).alloc (Nat.le_refl _) _).alloc (by simp) _)
 obtain⟨g1,hg1⟩:=Xq (w.heap.size)
 obtain⟨g2,hg2⟩:=Xq (w.heap.size+1)
 rw[← hg2]at HZ ⊢
 rw[← hg1]at HS ⊢
 have HG:=Hd (show w.heap.size≤g1∧w.heap.size≤g2∧g1≠g2 by omega)
 clear hw1 hg1 hg2
 obtain⟨x0,x1,x2,x3,x4,x5,x6⟩:=HS.out.at0
 go_wp2_with fail
 refine(HBL.out _).mono ?_
 rintro e w2 ⟨rfl,hb⟩
 replace HS:=Hd (HS.out.below hb)
 replace HZ:=Hd (HZ.out.below hb)
 replace HB:=Tb HB hb
 clear hb x0 x1 x2 x3 x4 x5 x6
 obtain⟨x0,x1,x2,x3,x4,x5,x6⟩:=HS.out.at0
 go_wp2_with fail
 refine(HBA.out _).mono ?_
 rintro e w3 ⟨rfl,hb⟩
 replace HS:=Hd (HS.out.below hb)
 replace HZ:=Hd (HZ.out.below hb)
 replace HB:=Tb HB hb
 clear hb x0 x1 x2 x3 x4 x5 x6
 obtain⟨x0,x1,x2,x3,x4,x5,x6⟩:=HS.out.at0
 have hai:¬(a:Int)=0:=by omega
 have hdi:¬(d:Int)=0:=by omega
 go_upto_region 4 with fail
 go_quiet (fail)
 go_upto_region 5 with fail
 obtain⟨w4,hw4⟩:=Xq (w3.drewN nq)
 rw[← hw4]
 have hb:Below w3.heap.size w3 w4:=by rw[hw4];exact below_drewN (Below.refl _ _) _
 replace HS:=Hd (HS.out.below hb)
 replace HZ:=Hd (HZ.out.below hb)
 replace HB:=Tb HB hb
 clear hb hw4 x0 x1 x2 x3 x4 x5 x6 h1 h2 h3 he1 he2
 go_wp2_with fail
 refine(HGC.out _).mono ?_
 rintro e w5 ⟨rfl,nn,hnn⟩
 have hb:Below w4.heap.size w4 w5:=by rw[hnn];exact below_drewN (Below.refl _ _) _
 replace HS:=Hd (HS.out.below hb)
 replace HZ:=Hd (HZ.out.below hb)
 replace HB:=Tb HB hb
 clear hb hnn
 have hgi:¬(g:Int)=0:=by omega
 go_upto_region 6 with fail
 refine Plan.wp_region_plan (fun w'=>SVar w' g2 Trk.black) (([0,1,2,3,4,5,6,7].map (·,true))++([8].map (·,false))) (by kernel_rfl) (by kernel_rfl) (by kernel_rfl) (HZ.out.below (Below.refl _ _).drew) ?_
 refine' Plan.plan_seg _ [0,1,2,3,4,5,6,7] ([8].map (·,false)) (by kernel_rfl) (by kernel_rfl) rfl (by exact HZ.out.below (Below.refl _ _).drew) (fun wx hS=>?_) ?_
 rotate_left
 ·clear hS
  go_light
  iterate 8 (apply Plan.seg_pick;rfl;intro K hK;go_wp)
  exact Plan.seg_nil
 obtain⟨w6,hw6⟩:=Xq (w5.drew)
 rw[← hw6]
 have hb:Below w5.heap.size w5 w6:=by rw[hw6];exact(Below.refl _ _).drew
 replace HS:=Hd (HS.out.below hb)
 replace HZ:=Hd (HZ.out.below hb)
 replace HB:=Tb HB hb
 clear hb hw6
 obtain⟨x0,x1,x2,x3,x4,x5,x6⟩:=HS.out.at0
 have f2:=HS.out.f 2
 have f3:=HS.out.f 3
 refine Plan.plan_of_effect rfl (fun K hK=>?_)
 go_wp2_with fail
 refine⟨(HZ.out.far HG.out.2.2.symm 2 (.int .i64 N')).far HG.out.2.2.symm 3 (.int .i64 (D':Int)),?_⟩
 refine Plan.plan_done ?_
 replace HS:=Hd (HS.out.setAt N' (D':Int))
 replace HZ:=Hd ((HZ.out.far HG.out.2.2.symm 2 (.int .i64 N')).far HG.out.2.2.symm 3 (.int .i64 (D':Int)))
 replace HB:=Hd ((HB.out.setCell (p:=⟨g1,2,none⟩) HG.out.1 (.int .i64 N')).setCell (p:=⟨g1,3,none⟩) HG.out.1 (.int .i64 (D':Int)))
 obtain⟨w7,hw7⟩:=Xq ((w6.setCell ⟨g1,2,none⟩ (.int .i64 N')).setCell ⟨g1,3,none⟩ (.int .i64 (D':Int)))
 rw[← hw7]at HS HZ HB ⊢
 clear hw7 x0 x1 x2 x3 x4 x5 x6 f2 f3
 go_upto_region 7 with fail
 refine Plan.wp_region_plan (fun w'=>SVar w' g1 ⟨k,nm,N',(D':Int),sn,(d:Int),sm⟩) (([0,1,2].map (·,true))++(([3,4].map (·,false))++([5].map (·,true)))) (by kernel_rfl) (by kernel_rfl) (by kernel_rfl) (HS.out.below (Below.refl _ _).drew) ?_
 refine' Plan.plan_seg _ [0,1,2] (([3,4].map (·,false))++([5].map (·,true))) (by kernel_rfl) (by kernel_rfl) rfl (by exact HS.out.below (Below.refl _ _).drew) (fun wx hS=>?_) ?_
 rotate_left
 ·have HS2:=Hd hS
  obtain⟨x0,x1,x2,x3,x4,x5,x6⟩:=hS.at0
  clear hS
  go_light
  (apply Plan.seg_pick;rfl;intro K hK)
  refine wpl_loadS _ rfl HS2.out.c rfl rfl rfl ?_
  go_wp
  iterate 2 (apply Plan.seg_pick;rfl;intro K hK;go_wp)
  exact Plan.seg_nil
 obtain⟨w8,hw8⟩:=Xq (w7.drew)
 rw[← hw8]
 have hb:Below w7.heap.size w7 w8:=by rw[hw8];exact(Below.refl _ _).drew
 replace HS:=Hd (HS.out.below hb)
 replace HZ:=Hd (HZ.out.below hb)
 replace HB:=Tb HB hb
 clear hb hw8
 refine Plan.plan_of_effect rfl (fun K hK=>?_)
 go_wp2_with fail
 refine(HWI.out _).mono ?_
 rintro e w9 ⟨rfl,hb⟩
 replace HS:=Hd (HS.out.below hb)
 replace HZ:=Hd (HZ.out.below hb)
 replace HB:=Tb HB hb
 clear hb
 go_wp2_with fail
 refine⟨HS.out,?_⟩
 refine Plan.plan_of_effect rfl (fun K hK=>?_)
 refine wpl_storeS ⟨k,nm,N',(D':Int),sn,(d:Int),sm⟩ none rfl HZ.out.there rfl rfl rfl rfl ?_
 have hput:=HZ.out.put ⟨k,nm,N',(D':Int),sn,(d:Int),sm⟩
 have hsta:SVar (w9.setCells g2 0 (srcC ⟨k,nm,N',(D':Int),sn,(d:Int),sm⟩)) g1 ⟨k,nm,N',(D':Int),sn,(d:Int),sm⟩:=by
  have hs:(w9.setCells g2 0 (srcC ⟨k,nm,N',(D':Int),sn,(d:Int),sm⟩)).heap[g1]?=w9.heap[g1]?:=setCells_other g2 g1 HG.out.2.2 _ _ _
  exact⟨fun j v hj=>(World.cell?_of_block (a:=⟨g1,0+j,none⟩) hs).trans (HS.out.c j v hj),fun o=>(World.frozen?_of_block (a:=⟨g1,o,none⟩) hs).trans (HS.out.f o)⟩
 have hbel:=below_setCells g2 HG.out.2.1 (srcC ⟨k,nm,N',(D':Int),sn,(d:Int),sm⟩) 0 _ HB.out
 have HP:=Hd (And.intro hput hbel)
 have HT:=Hd hsta
 obtain⟨w10,hw10⟩:=Xq (w9.setCells g2 0 (srcC ⟨k,nm,N',(D':Int),sn,(d:Int),sm⟩))
 rw[← hw10]at HP HT ⊢
 clear hw10 hput hbel hsta
 go_wp2_with fail
 refine⟨HT.out,?_⟩
 refine' Plan.plan_seg _ [5] [] (by kernel_rfl) (by kernel_rfl) rfl (by exact HT.out) (fun wx hS=>?_) ?_
 rotate_left
 ·clear hS
  go_light
  iterate 1 (apply Plan.seg_pick;rfl;intro K hK;go_wp)
  exact Plan.seg_nil
 refine Plan.plan_done ?_
 iterate 3 go_step
 refine bodyPost_ret (v:=.tuple #[srcV ⟨k,nm,N',(D':Int),sn,(d:Int),sm⟩,.bool r]) (results_src2 Tryz.results143 rfl rfl HP.out.1) rfl ⟨rfl,HP.out.2⟩
theorem rmoved_black (n:Int) (w:World) :
  Calls Tryz.prog 143 #[srcV Trk.black,.int .i64 n] w fun e w'=>e=.returned (.tuple #[srcV Trk.black,.bool true])∧Below w.heap.size w w':=by
 have HBL:=Hd (fun w=>rblack_any Trk.black w)
 rw[decide_eq_true rfl]at HBL
 have hb:srcV Trk.black=.agg #[.int .i64 0,.string ⟨#[]⟩,.int .i64 0,.int .i64 0,.int .i64 0,.int .i64 0,.bool false]:=rfl
 rw[hb]at HBL ⊢
 go_enter Tryz.func143,Tryz.ntmps143
 go_upto_region 1 with fail
 obtain⟨w1,hw1⟩:=Xq ((w.alloc (.cells #[.int .i64 0,.string ⟨#[]⟩,.int .i64 0,.int .i64 0,.int .i64 0,.int .i64 0,.bool false] 46)).alloc (.cells #[.int .i64 0,.string ⟨#[]⟩,.int .i64 0,.int .i64 0,.int .i64 0,.int .i64 0,.bool false] 46))
 rw[← hw1]
 have HS:=Hd (show SVar w1 w.heap.size Trk.black by
  rw[hw1]
  exact(SVar.box w Trk.black 46).below (below_box _ _))
 have HZ:=Hd (show SVar w1 (w.heap.size+1) Trk.black by
  have h2:=SVar.box (w.alloc (.cells #[.int .i64 0,.string ⟨#[]⟩,.int .i64 0,.int .i64 0,.int .i64 0,.int .i64 0,.bool false] 46)) Trk.black 46
  rw[show(w.alloc (.cells #[.int .i64 0,.string ⟨#[]⟩,.int .i64 0,.int .i64 0,.int .i64 0,.int .i64 0,.bool false] 46)).heap.size=w.heap.size+1 by simp]at h2
  rw[hw1]
  exact h2)
 have HB:=Hd (show Below w.heap.size w w1 by rw[hw1];exact((Below.refl _ _).alloc (Nat.le_refl _) _).alloc (by simp) _)
 obtain⟨g1,hg1⟩:=Xq (w.heap.size)
 obtain⟨g2,hg2⟩:=Xq (w.heap.size+1)
 rw[← hg2]at HZ ⊢
 rw[← hg1]at HS ⊢
 have HG:=Hd (show w.heap.size≤g1∧w.heap.size≤g2∧g1≠g2 by omega)
 clear hw1 hg1 hg2
 obtain⟨x0,x1,x2,x3,x4,x5,x6⟩:=HS.out.at0
 simp only[Trk.black]at x0 x1 x2 x3 x4 x5 x6
 go_wp2_with fail
 refine(HBL.out _).mono ?_
 rintro e w2 ⟨rfl,hb⟩
 replace HS:=Hd (HS.out.below hb)
 replace HZ:=Hd (HZ.out.below hb)
 replace HB:=Tb HB hb
 clear hb x0 x1 x2 x3 x4 x5 x6
 go_upto_region 2 with fail
 apply wp_region_lit
 refine wpl_loadS (some 11) rfl HS.out.c rfl rfl rfl ?_
 refine wpl_storeS Trk.black none rfl HZ.out.there rfl rfl rfl rfl ?_
 have hput:=HZ.out.put Trk.black
 have hbel:=below_setCells g2 HG.out.2.1 (srcC Trk.black) 0 _ HB.out
 have HP:=Hd (And.intro hput hbel)
 obtain⟨w10,hw10⟩:=Xq (w2.setCells g2 0 (srcC Trk.black))
 rw[← hw10]at HP ⊢
 clear hw10 hput hbel
 go_wp2_with fail
 refine bodyPost_ret (v:=.tuple #[srcV Trk.black,.bool true]) (results_src2 Tryz.results143 rfl rfl HP.out.1) rfl ⟨rfl,HP.out.2⟩
noncomputable def inB (s:Trk.Src):Bool:=open Classical in decide (s=Trk.black)||withinN s.an.natAbs s.ad.toNat 1099511627776
theorem inB_black:inB Trk.black=true:=by unfold inB;simp
theorem rmoved_wide (s:Trk.Src) (n:Int) (w:World) (h:Trk.OkW 8796093022208 s) (n0:n.natAbs≤4294967296) :
  Calls Tryz.prog 143 #[srcV s,.int .i64 n] w fun e w'=>e=.returned (.tuple #[srcV (Trk.moved s n),.bool (inB (Trk.moved s n))])∧Below w.heap.size w w':=by
 rcases h with rfl |h
 ·rw[Trk.moved_black,inB_black];exact rmoved_black n w
 have hne:=h.g.ne
 have hmg:=Trk.moved_good h.g n
 obtain⟨q,D,g,em,g0,eD,eq,eg⟩:=Trk.moved_parts h.g n
 have hin:inB (Trk.moved s n)=withinN q.natAbs D 1099511627776:=by
  unfold inB
  rw[decide_eq_false hmg.ne,em]
  simp
 obtain⟨p1,p2,p3,p4,p5,p6⟩:=h.bounds
 have hb0:=Trk.base_pos h.g
 have hl:=h.l
 have hA:=h.a
 have hV:=h.v
 obtain⟨c1,c2,c3,c4⟩:=Trk.base_nat (A:=s.ad.toNat) (D:=s.sd.toNat) (by omega) (by omega)
 rw[hin,em]
 clear hin hmg h em
 unfold Trk.baseN at eD eg hb0 hl
 unfold Trk.posN at eq eg
 obtain⟨k,nm,an,ad,sn,sd,sm⟩:=s
 simp only at *
 obtain⟨a,rfl⟩:=Int.eq_ofNat_of_zero_le (show 0≤ad by omega)
 obtain⟨d,rfl⟩:=Int.eq_ofNat_of_zero_le (show 0≤sd by omega)
 simp only[Int.toNat_natCast]at *
 have a0:1≤a:=by omega
 have d0:1≤d:=by omega
 have a1:a≤65536:=by omega
 have d1:d≤65536:=by omega
 obtain⟨b,hb⟩:=Xq (a / a.gcd d*d)
 have hbN:b=baseN a d:=by
  unfold baseN
  have h1:65536≤4294967296 / d:=(Nat.le_div_iff_mul_le d0).2 (by omega)
  have h2:a / Nat.gcd a d≤a:=Nat.div_le_self _ _
  rw[if_neg (by omega),if_neg (by omega)]
  exact hb
 rw[← hb]at eD eg hb0 hl c1 c2 c3 c4
 obtain⟨e1,he1⟩:=Xq (d / a.gcd d)
 obtain⟨e2,he2⟩:=Xq (a / a.gcd d)
 rw[← he1,← he2]at eq eg
 rw[← he1]at c1 c2
 rw[← he2]at c3
 have i1:(b:Int) / (a:Int)=(e1:Int):=by rw[← c2];exact(Int.natCast_ediv b a).symm
 have i2:(b:Int) / (d:Int)=(e2:Int):=by rw[← c3];exact(Int.natCast_ediv b d).symm
 have e10:e1≤b:=by rw[← c2];exact Nat.div_le_self _ _
 have e20:e2≤b:=by rw[← c3];exact Nat.div_le_self _ _
 have hde:d*e2=b:=by rw[hb,he2,Nat.mul_comm]
 obtain⟨X1,hX1⟩:=Xq (an*(e1:Int))
 obtain⟨X2,hX2⟩:=Xq (n*sn)
 obtain⟨X3,hX3⟩:=Xq (X2*(e2:Int))
 rw[← hX2,← hX1,← hX3]at eq eg
 have m1:X1.natAbs≤8796093022208*b:=by
  rw[hX1,Int.natAbs_mul,Int.natAbs_natCast,c1,← Nat.mul_assoc]
  exact Nat.mul_le_mul_right _ hA
 have m2:X2.natAbs≤4294967296*(1024*d):=by rw[hX2,Int.natAbs_mul];exact Nat.mul_le_mul n0 hV
 have m3:X3.natAbs≤4398046511104*b:=by
  rw[hX3,Int.natAbs_mul,Int.natAbs_natCast,← hde,show 4398046511104*(d*e2)=4294967296*(1024*d)*e2 by rw[← Nat.mul_assoc,← Nat.mul_assoc]]
  exact Nat.mul_le_mul_right _ m2
 have g1:g≤b:=by rw[eg];exact Nat.gcd_le_right _ hb0
 have hN:(X1+X3).tdiv (g:Int)=q:=by rw[← eq];exact Int.mul_tdiv_cancel _ (by omega)
 have hD:(b:Int) / (g:Int)=(D:Int):=by rw[← eD,Int.natCast_mul];exact Int.mul_ediv_cancel _ (by omega)
 have D0:1≤D:=by
  rcases Nat.eq_zero_or_pos D with e |e
  ·rw[e,Nat.zero_mul]at eD;omega
  exact e
 have D1:D≤b:=by rw[← eD];exact Nat.le_mul_of_pos_right _ g0
 have hq:q.natAbs≤(X1+X3).natAbs:=by
  rw[← eq,Int.natAbs_mul,Int.natAbs_natCast]
  exact Nat.le_mul_of_pos_right _ g0
 exact rmoved_coreW k nm an sn a d sm n w hne a0 d0 a1 d1 b hbN (by omega) (by omega) e1 e2 i1 i2 X1 X2 X3 hX1.symm hX2.symm hX3.symm (by omega) (by omega) (by omega) (by omega) n0 p6 (by omega) (by omega) g eg g0 g1 q D hN hD D0 (by omega) (by omega) _ rfl
theorem rcopy_any (c:Trk.Clip) (x:Value) (w:World) (hi:IT w x c.chan) (hl:c.chan.length≤1048576) :
  Calls Tryz.prog 142 #[clipGV c x] w fun e w'=>∃ x',e=.returned (clipGV c x')∧Ch w' 0 x' c.chan∧Below w.heap.size w w':=by
 obtain⟨ax,cx,ex,-⟩:=id hi
 have HI:=Hd (fun w1 (hb:Below w.heap.size w w1)=>hi.below hb)
 have HL:=Hd hl
 unfold clipGV
 rw[ex]at HI ⊢
 obtain⟨nx,hnx⟩:=Xq (c.chan.length)
 rw[← hnx]at HI ⊢
 clear hi ex hnx hl
 obtain⟨C,hC⟩:=Xq ((clipG c (.slice ax nx cx)).toArray)
 rw[← hC]
 have HC:=Hd hC
 clear hC
 go_enter Tryz.func142,Tryz.ntmps142
 go_upto_region 1 with fail
 obtain⟨w1,hw1⟩:=Xq ((w.alloc (.cells C 48)).alloc (.cells (clipC (Trk.gap 0)).toArray 48))
 have hw1':=hw1
 simp only[clipC,Trk.gap,Trk.black,show(ByteArray.empty:ByteArray)=⟨#[]⟩ from rfl]at hw1'
 rw[← hw1']
 clear hw1'
 rw[HC.out]at hw1
 obtain⟨hx,hy,hb1⟩:GB w1 w.heap.size c (.slice ax nx cx)∧GB w1 (w.heap.size+1) (Trk.gap 0) (.slice none 0 0)∧Below w.heap.size w w1:=by
  subst hw1
  refine⟨(GB.box w c _).below (below_box _ _),?_,by go_grown⟩
  have h2:=GB.box (w.alloc (.cells (clipG c (.slice ax nx cx)).toArray 48)) (Trk.gap 0) (.slice none 0 0)
  rw[show(w.alloc (.cells (clipG c (.slice ax nx cx)).toArray 48)).heap.size=w.heap.size+1 by simp]at h2
  exact h2
 obtain⟨g1,hg1⟩:=Xq (w.heap.size)
 obtain⟨g2,hg2⟩:=Xq (w.heap.size+1)
 rw[← hg2]at hy ⊢
 rw[← hg1]at hx ⊢
 have hne:g1≠g2:=by omega
 have hn1:w.heap.size≤g1:=by omega
 have hn2:w.heap.size≤g2:=by omega
 clear hw1 hg1 hg2
 have y21:=hx.ga.k21
 simp only[Nat.zero_add]at y21
 have HX:=Hd hx
 have HY:=Hd hy
 have HB:=Hd hb1
 clear hx hy hb1
 apply wp_region_lit
 iterate 6 go_step
 refine wpList_appI _ rfl (.const (.slice none 0 0)) (.tmp 4) rfl rfl w1.heap.size (.slice none 0 0) _ c.chan rfl rfl (Or.inl ⟨rfl,rfl,rfl⟩) (Nat.le_refl _) (HI.out _ HB.out) HL.out ?_
 intro x' w2 hch hb _ _
 simp only[Act.put,sA1,sB1,sC1]
 obtain⟨ay,cy,ey⟩:=hch.form
 obtain⟨ny,hny⟩:=Xq (c.chan.length)
 rw[← hny]at ey
 subst ey
 have HX2:=Hd (HX.out.below hb)
 have HY2:=Hd (HY.out.below hb)
 have HB2:=Tb HB hb
 have HCH:=Hd hch
 have yf:=HX2.out.fz
 have y21':=HX2.out.ga.k21
 simp only[Nat.zero_add]at y21'
 clear hb hch y21 hny
 go_upto_region 2 with fail
 have HX3:=Hd (HX2.out.set_ch (.slice ay ny cy))
 have HY3:=Hd (HY2.out.other hne.symm 21 (.slice ay ny cy))
 have HB3:=Hd (HB2.out.setCell (p:=⟨g1,21,none⟩) hn1 (.slice ay ny cy))
 have HCH3:=Hd (HCH.out.far (w':=w2.setCell ⟨g1,21,none⟩ (.slice ay ny cy)) (by simp) HX2.out.e (by decide) (Nat.zero_le _) (fun b hb hn=>setCells_other g1 b hn [_] 21 w2))
 clear yf y21'
 obtain⟨w3,hw3⟩:=Xq (w2.setCell ⟨g1,21,none⟩ (.slice ay ny cy))
 rw[← hw3]at HX3 HY3 HB3 HCH3 ⊢
 clear hw3
 rw[HC.out]
 apply wp_region_lit
 refine wpl_loadG HX3.out.ga rfl rfl rfl ?_
 refine wpl_storeB2 c ay ny cy HY3.out rfl rfl rfl rfl ?_
 intro w4 hv hk hs hb
 have hb4:=hb _ _ hn2 HB3.out
 have hch4:=HCH3.out.far (Nat.le_of_eq hs.symm) HY3.out.e (by decide) (Nat.zero_le _) (fun b hb hn=>hk b hn)
 clear hb hk hs
 go_wp2_with fail
 refine bodyPost_ret (v:=.agg (clipG c (.slice ay ny cy)).toArray) (results_clipG Tryz.results142 rfl hv.ga) rfl ⟨_,rfl,hch4,hb4⟩
structure SHB (w0 w:World) (g1 g2 g3:Nat) (c:Trk.Clip) (x:Value) (e:Trk.Clip) (z:Value):Prop where
 y:GB w g1 c x
 x:GB w g2 (Trk.gap 0) (.slice none 0 0)
 v:GB w g3 e z
 c:Ch w 0 z c.chan
 u:Below w0.heap.size w0 w
theorem SHB.below {w0 w w':World} {g1 g2 g3:Nat} {c e:Trk.Clip} {x z:Value} (h:SHB w0 w g1 g2 g3 c x e z) (hb:Below w.heap.size w w'):SHB w0 w' g1 g2 g3 c x e z:=
 ⟨h.y.below hb,h.x.below hb,h.v.below hb,h.c.below hb,h.u.trans (hb.mono h.u.size)⟩
theorem SHB.turn {w0 w w':World} {g1 g2 g3:Nat} {c e e':Trk.Clip} {x z:Value} (h:SHB w0 w g1 g2 g3 c x e z) (h1:g1≠g3) (h2:g2≠g3) (hv:GB w' g3 e' z) (hk:∀ b,b≠g3→w'.heap[b]?=w.heap[b]?) (hs:w'.heap.size=w.heap.size) (hu:Below w0.heap.size w0 w'):SHB w0 w' g1 g2 g3 c x e' z:=
 ⟨⟨(hk g1 h1).trans h.y.e⟩,⟨(hk g2 h2).trans h.x.e⟩,hv,h.c.far (Nat.le_of_eq hs.symm) h.v.e (by decide) (Nat.zero_le _) (fun b _ hn=>hk b hn),hu⟩
theorem SVar.keepB {w w':World} {g:Nat} {s:Trk.Src} (h:SVar w g s) (hs:w'.heap[g]?=w.heap[g]?):SVar w' g s:=
 ⟨fun j v hj=>(World.cell?_of_block (a:=⟨g,0+j,none⟩) hs).trans (h.c j v hj),fun o=>(World.frozen?_of_block (a:=⟨g,o,none⟩) hs).trans (h.f o)⟩
theorem results_clipB {fn:Func} {tmps:Array Value} {w:World} {s r:Tmp} {b:Nat} {c:Trk.Clip} {x y:Value} (hr:fn.results=#[.cell s 48,.tmp r]) (ht:tmps.getD s undef=.pointer (some ⟨b,0,none⟩)) (hy:tmps.getD r undef=y) (hc:GA w b 0 c x):(results fn tmps).run Tryz.prog w=.ok (.tuple #[.agg (clipG c x).toArray,y]) w:=by
 have h:=run_loadVar_mid (P:=Tryz.prog) w b 0 48 (clipG c x) _ hc.range Tryz.underlying48 rfl (by kernel_rfl)
 obtain⟨C,hC⟩:=Xq ((clipG c x).toArray)
 rw[← hC]at h ⊢
 unfold results
 rw[hr]
 have ht2:tmps[s]?.getD undef=.pointer (some ⟨b,0,none⟩):=by rw[← Array.getD_eq_getD_getElem?];exact ht
 have hy2:tmps[r]?.getD undef=y:=by rw[← Array.getD_eq_getD_getElem?];exact hy
 simp[ht2,hy2,asAddr,h]
theorem shares_dec (k:Int):decide (k=2∨k=3)=Trk.shares k:=by
 unfold Trk.shares
 by_cases h1:k=2<;>by_cases h2:k=3<;>simp[h1,h2]
theorem rshift_any (c:Trk.Clip) (x:Value) (n:Int) (w:World) (hi:IT w x c.chan) (hl:c.chan.length≤1048576) (ha:Trk.OkW 8796093022208 c.a) (hb:Trk.OkW 8796093022208 c.b) (n0:n.natAbs≤4294967296) (ho:c.off.natAbs≤4611686018427387904) :
  Calls Tryz.prog 98 #[clipGV c x,.int .i64 n] w fun e w'=>∃ x',e=.returned (.tuple #[clipGV (Trk.shift c n) x',.bool (inB (Trk.moved c.a n)&&inB (Trk.moved c.b n))])∧Ch w' 0 x' c.chan∧Below w.heap.size w w':=by
 have HMA:=fun w=>rmoved_wide c.a n w ha n0
 have HMB:=fun w=>rmoved_wide c.b n w hb n0
 have HSF:=Hd (show Trk.shift c n={ c with a:=Trk.moved c.a n,b:=Trk.moved c.b n,off:=if Trk.shares c.kind=true then c.off+n else c.off } from rfl)
 obtain⟨ma,hma⟩:=Xq (Trk.moved c.a n)
 obtain⟨mb,hmb⟩:=Xq (Trk.moved c.b n)
 rw[← hma]at HMA
 rw[← hmb]at HMB
 rw[← hma,← hmb]at HSF ⊢
 obtain⟨ra,hra⟩:=Xq (inB ma)
 obtain⟨rb,hrb⟩:=Xq (inB mb)
 rw[← hra]at HMA ⊢
 rw[← hrb]at HMB ⊢
 simp only[srcV,srcC]at HMA HMB
 replace HMA:=Hd HMA
 replace HMB:=Hd HMB
 have HSH:=fun w=>rshares_all c.kind w
 rw[shares_dec]at HSH
 replace HSH:=Hd HSH
 have HCP:=Hd (fun w1 (hb:Below w.heap.size w w1)=>rcopy_any c x w1 (hi.below hb) hl)
 obtain⟨ax,cx,ex,-⟩:=id hi
 obtain⟨nx,hnx⟩:=Xq (c.chan.length)
 rw[← hnx]at ex
 rw[ex]at HCP ⊢
 have HNX:=Hd hnx
 clear hi ex hnx hl ha hb hma hmb hra hrb
 unfold clipGV at HCP ⊢
 obtain⟨C,hC⟩:=Xq ((clipG c (.slice ax nx cx)).toArray)
 rw[← hC]at HCP ⊢
 have HC:=Hd hC
 clear hC
 go_enter Tryz.func98,Tryz.ntmps98
 go_upto_region 1 with fail
 obtain⟨w1,hw1⟩:=Xq ((w.alloc (.cells C 48)).alloc (.cells (clipC (Trk.gap 0)).toArray 48))
 have hw1':=hw1
 simp only[clipC,Trk.gap,Trk.black,show(ByteArray.empty:ByteArray)=⟨#[]⟩ from rfl]at hw1'
 rw[← hw1']
 clear hw1'
 rw[HC.out]at hw1
 obtain⟨hx,hy,hb1⟩:GB w1 w.heap.size c (.slice ax nx cx)∧GB w1 (w.heap.size+1) (Trk.gap 0) (.slice none 0 0)∧Below w.heap.size w w1:=by
  subst hw1
  refine⟨(GB.box w c _).below (below_box _ _),?_,by go_grown⟩
  have h2:=GB.box (w.alloc (.cells (clipG c (.slice ax nx cx)).toArray 48)) (Trk.gap 0) (.slice none 0 0)
  rw[show(w.alloc (.cells (clipG c (.slice ax nx cx)).toArray 48)).heap.size=w.heap.size+1 by simp]at h2
  exact h2
 obtain⟨g1,hg1⟩:=Xq (w.heap.size)
 obtain⟨g2,hg2⟩:=Xq (w.heap.size+1)
 have hz1:w1.heap.size=g2+1:=by rw[hw1,hg2];simp
 rw[← hg2]at hy ⊢
 rw[← hg1]at hx ⊢
 have hne:g1≠g2:=by omega
 have hlt12:g1<g2:=by omega
 have hn1:w.heap.size≤g1:=by omega
 have hn2:w.heap.size≤g2:=by omega
 clear hw1 hg1 hg2
 have HX:=Hd hx
 have HY:=Hd hy
 have HB:=Hd hb1
 have HZ:=Hd (show g1<w1.heap.size∧g2<w1.heap.size by omega)
 clear hx hy hb1 hz1 hlt12
 apply wp_region_lit
 refine wpl_loadG HX.out.ga rfl rfl rfl ?_
 rw[← HC.out]
 simp only[Act.put,sA1,sB1,sC1]
 go_wp2_with fail
 refine(HCP.out _ HB.out).mono ?_
 rintro e w2 ⟨x',rfl,hch,hb⟩
 obtain⟨ay,cy,ey⟩:=hch.form
 rw[← HNX.out]at ey
 subst ey
 replace HX:=Hd (HX.out.below hb)
 replace HY:=Hd (HY.out.below hb)
 replace HB:=Tb HB hb
 have HCH:=Hd hch
 have hz2:=hb.size
 have hlt:=HZ.out
 clear hb hch
 dsimp only
 apply_assumption
 refine wpl_allocB rfl rfl (fun w3 hg hb hs3=>?_)
 simp only[Act.put,sA1,sB1,sC1]
 obtain⟨g3,hg3⟩:=Xq (w2.heap.size)
 rw[← hg3]at hg ⊢
 have h13:g1≠g3:=by omega
 have h23:g2≠g3:=by omega
 have hn3:w.heap.size≤g3:=by have:=HB.out.size;omega
 replace HX:=Hd (HX.out.below hb)
 replace HY:=Hd (HY.out.below hb)
 replace HB:=Tb HB hb
 replace HCH:=Hd (HCH.out.below hb)
 clear hg3 hb hz2 hlt HZ hs3
 refine wpl_storeB2 c ay nx cy hg rfl rfl rfl rfl ?_
 intro w4 hv ho4 hsz4 hb4
 have T:Hid (SHB w w4 g1 g2 g3 c (.slice ax nx cx) c (.slice ay nx cy)):=Hd ⟨⟨(ho4 _ h13).trans HX.out.e⟩,⟨(ho4 _ h23).trans HY.out.e⟩,hv,HCH.out.far (Nat.le_of_eq hsz4.symm) hg.e (by decide) (Nat.zero_le _) (fun b _ hn=>ho4 b hn),hb4 _ _ hn3 HB.out⟩
 clear HX HY HB HCH hv ho4 hsz4 hb4 hg
 obtain⟨_,_,x2,x3,x4,x5,x6,x7,x8,_⟩:=T.out.y.ga.at0
 go_wp2_with fail
 refine(HMA.out _).mono ?_
 rintro e w5 ⟨rfl,hb⟩
 replace T:=Hd (T.out.below hb)
 clear hb x2 x3 x4 x5 x6 x7 x8
 obtain⟨_,_,_,_,_,_,_,_,_,x9,x10,x11,x12,x13,x14,x15,_⟩:=T.out.y.ga.at0
 obtain⟨C2,hC2⟩:=Xq ((clipG c (.slice ay nx cy)).toArray)
 rw[← hC2]
 clear hC2
 go_upto_region 3 with fail
 obtain⟨w6,hw6⟩:=Xq (w5.alloc (.cells #[.int .i64 ma.kind,.string ma.name,.int .i64 ma.an,.int .i64 ma.ad,.int .i64 ma.sn,.int .i64 ma.sd,.bool ma.smooth] 46))
 obtain⟨g7,hg7⟩:=Xq (w5.heap.size)
 have hb:Below w5.heap.size w5 w6:=by rw[hw6];exact below_box _ _
 have A7:=Hd (show SVar w6 g7 ma by rw[hw6,hg7];exact SVar.box w5 ma 46)
 have h37:g7≠g3:=by have:=T.out.v.lt;omega
 rw[← hw6,← hg7]
 replace T:=Hd (T.out.below hb)
 clear hb hw6 hg7 x9 x10 x11 x12 x13 x14 x15
 obtain⟨_,_,_,_,_,_,_,_,_,x9,x10,x11,x12,x13,x14,x15,_⟩:=T.out.y.ga.at0
 go_wp2_with fail
 refine(HMB.out _).mono ?_
 rintro e w7 ⟨rfl,hb⟩
 replace T:=Hd (T.out.below hb)
 replace A7:=Hd (A7.out.below hb)
 clear hb x9 x10 x11 x12 x13 x14 x15
 go_upto_region 4 with fail
 obtain⟨w8,hw8⟩:=Xq (w7.alloc (.cells #[.int .i64 mb.kind,.string mb.name,.int .i64 mb.an,.int .i64 mb.ad,.int .i64 mb.sn,.int .i64 mb.sd,.bool mb.smooth] 46))
 obtain⟨g9,hg9⟩:=Xq (w7.heap.size)
 have hb:Below w7.heap.size w7 w8:=by rw[hw8];exact below_box _ _
 have A9:=Hd (show SVar w8 g9 mb by rw[hw8,hg9];exact SVar.box w7 mb 46)
 have h39:g9≠g3:=by have:=T.out.v.lt;omega
 rw[← hw8,← hg9]
 replace T:=Hd (T.out.below hb)
 replace A7:=Hd (A7.out.below hb)
 clear hb hw8 hg9
 go_cut [] from 27 (fun wx=>SHB w wx g1 g2 g3 c (.slice ax nx cx) { c with a:=ma,b:=mb } (.slice ay nx cy))
 case first J K' h1 h2=>
  refine Plan.wp_region_plan (fun w'=>SVar w' g7 ma∧SVar w' g9 mb) (([0,1,2].map (·,true))++(([3].map (·,false))++(([4].map (·,true))++([5].map (·,false))))) (by kernel_rfl) (by kernel_rfl) (by kernel_rfl) ⟨A7.out.below (Below.refl _ _).drew,A9.out.below (Below.refl _ _).drew⟩ ?_
  refine' Plan.plan_seg _ [0,1,2] (([3].map (·,false))++(([4].map (·,true))++([5].map (·,false)))) (by kernel_rfl) (by kernel_rfl) rfl (by exact⟨A7.out.below (Below.refl _ _).drew,A9.out.below (Below.refl _ _).drew⟩) (fun wx hS=>?_) ?_
  rotate_left
  ·obtain⟨x0,x1,x2,x3,x4,x5,x6⟩:=hS.1.at0
   obtain⟨y0,y1,y2,y3,y4,y5,y6⟩:=hS.2.at0
   clear hS
   go_light
   iterate 3 (apply Plan.seg_pick;rfl;intro K hK;go_wp)
   exact Plan.seg_nil
  obtain⟨w9,hw9⟩:=Xq (w8.drew)
  rw[← hw9]
  have hb:Below w8.heap.size w8 w9:=by rw[hw9];exact(Below.refl _ _).drew
  replace T:=Hd (T.out.below hb)
  replace A7:=Hd (A7.out.below hb)
  replace A9:=Hd (A9.out.below hb)
  clear hb hw9
  refine Plan.plan_of_effect rfl (fun K hK=>?_)
  obtain⟨_,_,x2,x3,x4,x5,x6,x7,x8,_⟩:=T.out.v.ga.at0
  have xf:=T.out.v.fz
  go_wp2_with fail
  obtain⟨w10,hw10⟩:=Xq ((((((((w9.setCell ⟨g3,2,none⟩ (.int .i64 ma.kind)).setCell ⟨g3,3,none⟩ (.string ma.name)).setCell ⟨g3,4,none⟩ (.int .i64 ma.an)).setCell ⟨g3,5,none⟩ (.int .i64 ma.ad)).setCell ⟨g3,6,none⟩ (.int .i64 ma.sn)).setCell ⟨g3,7,none⟩ (.int .i64 ma.sd)).setCell ⟨g3,8,none⟩ (.bool ma.smooth)))
  have hv:=T.out.v.set_a ma
  have hu:=below_set_a T.out.u hn3 ma
  rw[← hw10]at hv hu ⊢
  have hk:∀ b,b≠g3→w10.heap[b]?=w9.heap[b]?:=fun b hn=>by rw[hw10];simp[World.setCell,Array.getElem?_modify,Ne.symm hn]
  have hs:w10.heap.size=w9.heap.size:=by rw[hw10];simp[World.setCell]
  replace T:=Hd (T.out.turn h13 h23 hv hk hs hu)
  replace A7:=Hd (A7.out.keepB (hk g7 h37))
  replace A9:=Hd (A9.out.keepB (hk g9 h39))
  clear x2 x3 x4 x5 x6 x7 x8 xf hw10 hv hu hk hs
  refine⟨⟨A7.out,A9.out⟩,?_⟩
  refine' Plan.plan_seg _ [4] ([5].map (·,false)) (by kernel_rfl) (by kernel_rfl) rfl (by exact⟨A7.out,A9.out⟩) (fun wx hS=>?_) ?_
  rotate_left
  ·clear hS
   go_light
   iterate 1 (apply Plan.seg_pick;rfl;intro K hK;go_wp)
   exact Plan.seg_nil
  refine Plan.plan_of_effect rfl (fun K hK=>?_)
  obtain⟨_,_,_,_,_,_,_,_,_,x9,x10,x11,x12,x13,x14,x15,_⟩:=T.out.v.ga.at0
  have xf:=T.out.v.fz
  go_wp2_with fail
  obtain⟨w11,hw11⟩:=Xq ((((((((w10.setCell ⟨g3,9,none⟩ (.int .i64 mb.kind)).setCell ⟨g3,10,none⟩ (.string mb.name)).setCell ⟨g3,11,none⟩ (.int .i64 mb.an)).setCell ⟨g3,12,none⟩ (.int .i64 mb.ad)).setCell ⟨g3,13,none⟩ (.int .i64 mb.sn)).setCell ⟨g3,14,none⟩ (.int .i64 mb.sd)).setCell ⟨g3,15,none⟩ (.bool mb.smooth)))
  have hv:=T.out.v.set_b mb
  have hu:=below_set_b T.out.u hn3 mb
  rw[← hw11]at hv hu ⊢
  have hk:∀ b,b≠g3→w11.heap[b]?=w10.heap[b]?:=fun b hn=>by rw[hw11];simp[World.setCell,Array.getElem?_modify,Ne.symm hn]
  have hs:w11.heap.size=w10.heap.size:=by rw[hw11];simp[World.setCell]
  replace T:=Hd (T.out.turn h13 h23 hv hk hs hu)
  replace A7:=Hd (A7.out.keepB (hk g7 h37))
  replace A9:=Hd (A9.out.keepB (hk g9 h39))
  clear x9 x10 x11 x12 x13 x14 x15 xf hw11 hv hu hk hs
  refine⟨⟨A7.out,A9.out⟩,?_⟩
  refine Plan.plan_done ?_
  refine h2 _ _ (Met.intro (h1 _ _ ?_))
  (repeat apply Exists.intro)
  exact⟨T.out,rfl⟩
 clear T
 have T:=Hd hcut
 clear hcut
 have y1:=T.out.y.ga.k1
 simp only[Nat.zero_add]at y1
 go_upto_if 33 with(go_at_call 137;refine(HSH.out _).mono ?_;rintro e w' ⟨rfl,rfl⟩)
 clear y1
 obtain⟨of,hof2⟩:=Xq ((if Trk.shares c.kind=true then c.off+n else c.off))
 go_cut [33] from 34 (fun _ wx=>SHB w wx g1 g2 g3 c (.slice ax nx cx) { c with a:=ma,b:=mb,off:=of } (.slice ay nx cy))
 case first=>
  have x16:=T.out.y.ga.k16
  simp only[Nat.zero_add]at x16
  obtain⟨_,_,_,_,_,_,_,_,_,_,_,_,_,_,_,_,z16,_⟩:=T.out.v.ga.at0
  have xf:=T.out.v.fz
  go_wp2_with fail
  all_goals go_meet
  case rel=>
   rename_i hsh
   simp only[hsh,if_true]at hof2
   rw[hof2]
   exact T.out.turn h13 h23 (T.out.v.set_off _) (fun b hn=>by simp[World.setCell,Array.getElem?_modify,Ne.symm hn]) (by simp[World.setCell]) (T.out.u.setCell hn3 _)
  case rel=>
   rename_i hsh
   simp only[hsh,Bool.false_eq_true,if_false]at hof2
   rw[hof2]
   exact T.out
 case rest=>
  clear T
  have T:=Hd hcut
  clear hcut
  rw[← hof2]at HSF
  clear A7 A9 h37 h39 HMA HMB HSH hof2
  go_upto_region 7 with fail
  obtain⟨E,hE⟩:∃ E:Trk.Clip,E={ c with a:=ma,b:=mb,off:=of }:=⟨_,rfl⟩
  rw[← hE]at T HSF
  clear hE
  apply wp_region_lit
  refine wpl_loadG T.out.v.ga rfl rfl rfl ?_
  simp only[Act.put,sA1,sB1,sC1]
  have HT2:=Hd (fun(w':World) (hv:GB w' g2 E (.slice ay nx cy)) (hk:∀ b,b≠g2→w'.heap[b]?=wc.heap[b]?) (hs:w'.heap.size=wc.heap.size)=>T.out.c.far (w':=w') (Nat.le_of_eq hs.symm) T.out.x.e (by decide) (Nat.zero_le _) (fun b _ hn=>hk b hn))
  cases ra
  all_goals
   iterate 11 go_step
   refine wpl_storeB2 E ay nx cy T.out.x rfl rfl rfl rfl ?_
   intro w5' hv hk hs hb
   have hb5:=hb _ _ hn2 T.out.u
   have hch:=HT2.out _ hv hk hs
   clear hb hk hs HT2 T
   go_wp2_with fail
   refine bodyPost_ret (v:=.tuple #[.agg (clipG E (.slice ay nx cy)).toArray,.bool _]) (results_clipB Tryz.results98 rfl rfl hv.ga) rfl ⟨_,by rw[HSF.out];rfl,hch,hb5⟩
theorem rsameclip_any (c d:Trk.Clip) (x y:Value) (w:World) (hx:IT w x c.chan) (hy:IT w y d.chan) :
  Calls Tryz.prog 59 #[clipGV c x,clipGV d y] w fun e w'=>e=.returned (.bool (decide (c=d)))∧Below w.heap.size w w':=by
 unfold clipGV
 have hqa:=run_eq_src c.a d.a
 have hqb:=run_eq_src c.b d.b
 have HX:=Hd hx
 have HY:=Hd hy
 obtain⟨ax,cx,rfl,hx1,hx2,-⟩:=hx
 obtain⟨ay,cy,rfl,hy1,hy2,-⟩:=hy
 obtain⟨l,hl⟩:=Xq (c.chan)
 obtain⟨m,hm⟩:=Xq (d.chan)
 rw[← hl]at HX hx1 ⊢
 rw[← hm]at HY hy1 ⊢
 have HLM:=Hd (And.intro hl hm)
 clear hl hm
 obtain⟨N,hN⟩:=Xq (l.length)
 obtain⟨M,hM⟩:=Xq (m.length)
 have hn63:N≤9223372036854775807:=by unfold maxLen at hx2;omega
 rw[← hN]at hx1 HX ⊢
 rw[← hM]at hy1 HY ⊢
 have HN:=Hd hN
 have HM:=Hd hM
 clear hN hM hx2 hy2
 obtain⟨C,hC⟩:=Xq ((clipG c (.slice ax N cx)).toArray)
 obtain⟨D,hD⟩:=Xq ((clipG d (.slice ay M cy)).toArray)
 rw[← hC,← hD]
 have HCC:=Hd hC
 have HDD:=Hd hD
 clear hC hD
 have HQ:=Hd (And.intro hqa hqb)
 clear hqa hqb
 go_enter Tryz.func59,Tryz.ntmps59
 go_upto_region 1 with fail
 obtain⟨w1,hw1⟩:=Xq ((w.alloc (.cells C 48)).alloc (.cells D 48))
 rw[← hw1]
 rw[HCC.out,HDD.out]at hw1
 obtain⟨hx,hy,hb1⟩:=boxG2_facts hw1
 obtain⟨g1,hg1⟩:=Xq (w.heap.size)
 obtain⟨g2,hg2⟩:=Xq (w.heap.size+1)
 rw[← hg2]at hy ⊢
 rw[← hg1]at hx ⊢
 replace HX:=Hd (HX.out.below hb1)
 replace HY:=Hd (HY.out.below hb1)
 have HB:=Hd hb1
 clear hw1 hb1 hg1 hg2
 have HXG:=Hd hx
 have HYG:=Hd hy
 obtain⟨_,_,_,_,_,_,_,_,_,_,_,_,_,_,_,_,_,_,_,_,_,x21⟩:=hx.c.at0
 obtain⟨_,_,_,_,_,_,_,_,_,_,_,_,_,_,_,_,_,_,_,_,_,y21⟩:=hy.c.at0
 clear hx hy
 by_cases hNM:N=M
 rotate_left
 ·have hNM':((N:Int) != (M:Int))=true:=by
   have:(N:Int)≠(M:Int):=by omega
   simpa using this
  have HF:Hid (decide (c=d)=false):=Hd (decide_eq_false fun e=>hNM (by rw[HN.out,HM.out,HLM.out.1,HLM.out.2,e]))
  clear hNM
  go_wp2_with fail
  go_ret
  exact⟨ret_bool HF.out.symm,HB.out⟩
 subst hNM
 go_wp2_with fail
 go_loopw [5] (fun i wr=>∃ k:Nat,k≤N∧i=.int .i64 (k:Int)∧(∀ j,j<k→l[j]?=m[j]?)∧∃ n,wr=w1.drewN n) (fun i _=>N-(intOf i).toNat)
 case atStart=>exact⟨0,Nat.zero_le _,rfl,fun j hj=>absurd hj (Nat.not_lt_zero j),0,rfl⟩
 case round =>
  obtain⟨k,hk,rfl,hL,n,rfl⟩:=hrel
  have HL:=Hd hL
  clear hL
  by_cases hlt:k<N
  ·have hlt':(k:Int)<(N:Int):=by omega
   obtain⟨c',hc⟩:∃ c,l[k]?=some c:=⟨_,List.getElem?_eq_getElem (by rw[← HN.out];exact hlt)⟩
   obtain⟨d',hd⟩:∃ c,m[k]?=some c:=⟨_,List.getElem?_eq_getElem (by rw[← HM.out];exact hlt)⟩
   have HC:=Hd hc
   have HD:=Hd hd
   obtain⟨b1,o1,rfl,d1⟩:∃ b o,ax=some ⟨b,o,none⟩∧(w1.cell? ⟨b,o+k,none⟩=some (.int .i64 c')):=by
    obtain⟨a',c2,e,_,_,h3⟩:=HX.out
    obtain⟨b,o,e2,_,h4⟩:=h3 k c' HC.out
    simp only[Value.slice.injEq]at e
    exact⟨b,o,e.1.trans e2,h4⟩
   obtain⟨b2,o2,rfl,d2⟩:∃ b o,ay=some ⟨b,o,none⟩∧(w1.cell? ⟨b,o+k,none⟩=some (.int .i64 d')):=by
    obtain⟨a',c2,e,_,_,h3⟩:=HY.out
    obtain⟨b,o,e2,_,h4⟩:=h3 k d' HD.out
    simp only[Value.slice.injEq]at e
    exact⟨b,o,e.1.trans e2,h4⟩
   clear hc hd
   by_cases hcd:c'=d'
   ·have hcd':(c' != d')=false:=by simpa using hcd
    have HCD:=Hd hcd
    clear hcd
    go_wp2_with fail
    go_quiet (fail)
    go_wp2_with fail
    go_roundw
    case rel=>exact⟨k+1,by omega,by simp,fun j hj=>by
     rcases Nat.lt_or_ge j k with h |h
     ·exact HL.out j h
     have e:j=k:=by omega
     subst e
     rw[HC.out,HD.out,HCD.out],_,rfl⟩
    case measure=>
     show N-(intOf (.int .i64 ((k:Int)+1))).toNat<N-(intOf (.int .i64 (k:Int))).toNat
     simp[intOf]
     omega
   have hcd':(c' != d')=true:=by simpa using hcd
   have HFF:Hid (decide (c=d)=false):=Hd (decide_eq_false fun e=>hcd (by
    have h1:=HC.out
    rw[HLM.out.1,e,← HLM.out.2,HD.out]at h1
    exact(Option.some.inj h1).symm))
   clear hcd
   go_wp2_with fail
   go_quiet (fail)
   go_wp2_with fail
   go_ret
   exact⟨ret_bool HFF.out.symm,below_drewN (below_drewN HB.out _) _⟩
  have hkl:k=N:=by omega
  have HT:Hid (c.chan=d.chan):=Hd (by
   rw[← HLM.out.1,← HLM.out.2]
   refine List.ext_getElem? fun j=>?_
   rcases Nat.lt_or_ge j k with h |h
   ·exact HL.out j h
   rw[List.getElem?_eq_none (by rw[← HN.out];omega),List.getElem?_eq_none (by rw[← HM.out];omega)])
  subst hkl
  clear hlt HL
  obtain⟨hqa,hqb⟩:=HQ.out
  have HBD:=Hd (below_drewN HB.out n)
  obtain⟨x0,x1,x2,x3,x4,x5,x6,x7,x8,x9,x10,x11,x12,x13,x14,x15,x16,x17,x18,x19,x20,_⟩:=HXG.out.c.at0
  obtain⟨y0,y1,y2,y3,y4,y5,y6,y7,y8,y9,y10,y11,y12,y13,y14,y15,y16,y17,y18,y19,y20,_⟩:=HYG.out.c.at0
  go_wp2_with fail
  all_goals go_ret
  all_goals refine⟨ret_bool ?_,?_⟩
  all_goals first
   |exact HBD.out
   |exact below_drewN HB.out _
   | (refine (decide_eq_true ?_).symm
      refine Trk.Clip.ext2 ?_ ?_ ?_ ?_ ?_ ?_ ?_ ?_ ?_ HT.out<;>first |assumption |exact bytes_inj2 (by assumption))
   |(refine Eq.symm (decide_eq_decide.2 ⟨fun h=>?_,fun h=>?_⟩)<;>first |(rw[h]) |(refine Trk.Clip.ext2 ?_ ?_ ?_ ?_ ?_ ?_ ?_ ?_ ?_ HT.out<;>first |assumption |exact bytes_inj2 (by assumption)))
   | (refine (decide_eq_false ?_).symm
      rintro rfl
      first |exact absurd rfl (by assumption) |(exfalso;simp_all))
theorem rcont_core (d c:Trk.Clip) (y x:Value) (w:World) (hd:OkG d) (hc:OkG c) (hiy:IT w y d.chan) (hix:IT w x c.chan) (hk:¬(c.kind=0∧d.kind=0)) :
  Calls Tryz.prog 144 #[clipGV c x,clipGV d y] w fun e w'=>e=.returned (.bool (decide (Trk.cont d c)))∧Below w.heap.size w w':=by
 have HQ:=Hd (show(decide (Trk.cont d c))=decide (Trk.withLen (Trk.shift c c.len) d.len=d) from decide_eq_decide.2 ((cont_law hd.g hc.g).trans ⟨Eq.symm,Eq.symm⟩))
 have hl:=hc.g.l
 have HSH:=Hd (fun w1 (hb:Below w.heap.size w w1)=>rshift_any c x c.len w1 (hix.below hb) (by have:=hc.ch;omega) hc.a hc.b (by have:=hc.l;omega) hc.o)
 have HSC:=Hd (fun(e:Trk.Clip) (z:Value) w1 (hz:IT w1 z e.chan) (hb:Below w.heap.size w w1)=>rsameclip_any e d z y w1 hz (hiy.below hb))
 obtain⟨ay,cy,ey,-⟩:=id hiy
 obtain⟨ax,cx,ex,-⟩:=id hix
 obtain⟨ny,hny⟩:=Xq (d.chan.length)
 obtain⟨nx,hnx⟩:=Xq (c.chan.length)
 rw[← hny]at ey
 rw[← hnx]at ex
 rw[ey]at HSC
 rw[ex]at HSH
 rw[ex,ey]
 have HNX:=Hd hnx
 clear hiy hix ex ey hny hnx hd hc
 obtain⟨S,hS⟩:=Xq (Trk.shift c c.len)
 have HSN:=Hd (show S.chan=c.chan by rw[hS];rfl)
 rw[← hS]at HQ HSH
 clear hS
 unfold clipGV at HSH HSC ⊢
 obtain⟨C,hC⟩:=Xq ((clipG c (.slice ax nx cx)).toArray)
 obtain⟨D,hD⟩:=Xq ((clipG d (.slice ay ny cy)).toArray)
 rw[← hC]at HSH ⊢
 rw[← hD]at HSC ⊢
 have HC:=Hd hC
 have HD:=Hd hD
 clear hC hD
 go_enter Tryz.func144,Tryz.ntmps144
 go_upto_region 1 with fail
 obtain⟨w1,hw1⟩:=Xq ((w.alloc (.cells C 48)).alloc (.cells D 48))
 rw[← hw1]
 rw[HC.out,HD.out]at hw1
 obtain⟨hx,hy,hb1⟩:GB w1 w.heap.size c (.slice ax nx cx)∧GB w1 (w.heap.size+1) d (.slice ay ny cy)∧Below w.heap.size w w1:=by
  subst hw1
  refine⟨(GB.box w c (.slice ax nx cx)).below (below_box _ _),?_,by go_grown⟩
  have h2:=GB.box (w.alloc (.cells (clipG c (.slice ax nx cx)).toArray 48)) d (.slice ay ny cy)
  rw[show(w.alloc (.cells (clipG c (.slice ax nx cx)).toArray 48)).heap.size=w.heap.size+1 by simp]at h2
  exact h2
 obtain⟨g1,hg1⟩:=Xq (w.heap.size)
 obtain⟨g2,hg2⟩:=Xq (w.heap.size+1)
 rw[← hg2]at hy ⊢
 rw[← hg1]at hx ⊢
 have hn1:w.heap.size≤g1:=by omega
 have hn2:w.heap.size≤g2:=by omega
 clear hw1 hg1 hg2
 have x1:=hx.ga.k1
 have y1:=hy.ga.k1
 simp only[Nat.zero_add]at x1 y1
 have HX:=Hd hx
 have HY:=Hd hy
 have HB:=Hd hb1
 clear hx hy hb1
 go_cut [14] from 7 (fun v wx=>v=.bool false∧wx=w1)
 case first=>
  go_wp2_with fail
  all_goals go_meet
  all_goals first
   |exact⟨rfl,rfl⟩
   |(refine⟨?_,rfl⟩;simp_all)
 obtain⟨e14,rfl⟩:=hcut
 subst e14
 go_upto_region 3 with fail
 clear x1 y1
 obtain⟨x0,_⟩:=HX.out.ga.at0
 apply wp_region_lit
 refine wpl_loadG HX.out.ga rfl rfl rfl ?_
 rw[← HC.out]
 simp only[Act.put,sA1,sB1,sC1]
 go_wp2_with fail
 refine(HSH.out _ HB.out).mono ?_
 rintro e w2 ⟨x',rfl,hch,hb⟩
 obtain⟨az,cz,ez⟩:=hch.form
 rw[← HNX.out]at ez
 subst ez
 replace HY:=Hd (HY.out.below hb)
 replace HB:=Tb HB hb
 have HCH:=Hd hch
 clear hb hch x0
 dsimp only
 apply_assumption
 iterate 9 go_step
 refine wpl_allocB rfl rfl (fun w3 hg hb hs3=>?_)
 simp only[Act.put,sA1,sB1,sC1]
 obtain⟨g3,hg3⟩:=Xq (w2.heap.size)
 rw[← hg3]at hg ⊢
 have h23:g2≠g3:=by have:=HY.out.lt;omega
 have hn3:w.heap.size≤g3:=by have:=HB.out.size;omega
 replace HY:=Hd (HY.out.below hb)
 replace HB:=Tb HB hb
 replace HCH:=Hd (HCH.out.below hb)
 clear hg3 hb hs3
 refine wpl_storeB2 S az nx cz hg rfl rfl rfl rfl ?_
 intro w4 hv ho4 hsz4 hb4
 have HV:Hid (GB w4 g3 S (.slice az nx cz)):=Hd hv
 replace HY:Hid (GB w4 g2 d (.slice ay ny cy)):=Hd ⟨(ho4 _ h23).trans HY.out.e⟩
 replace HCH:=Hd (HCH.out.far (Nat.le_of_eq hsz4.symm) hg.e (by decide) (Nat.zero_le _) (fun b _ hn=>ho4 b hn))
 replace HB:=Hd (hb4 _ _ hn3 HB.out)
 clear hv ho4 hsz4 hb4 hg
 obtain⟨y0,_⟩:=HY.out.ga.at0
 obtain⟨z0,_⟩:=HV.out.ga.at0
 have zf:=HV.out.fz
 go_upto_region 5 with fail
 have hk:∀ b,b≠g3→(w4.setCell ⟨g3,0,none⟩ (.int .i64 d.len)).heap[b]?=w4.heap[b]?:=fun b hn=>by simp[World.setCell,Array.getElem?_modify,Ne.symm hn]
 replace HCH:=Hd (HCH.out.far (w':=w4.setCell ⟨g3,0,none⟩ (.int .i64 d.len)) (by simp[World.setCell]) HV.out.e (by decide) (Nat.zero_le _) (fun b _ hn=>hk b hn))
 replace HV:=Hd (HV.out.set_len d.len)
 replace HY:=Hd (HY.out.other h23 0 (.int .i64 d.len))
 replace HB:=Hd (HB.out.setCell (p:=⟨g3,0,none⟩) hn3 (.int .i64 d.len))
 obtain⟨w5,hw5⟩:=Xq (w4.setCell ⟨g3,0,none⟩ (.int .i64 d.len))
 rw[← hw5]at HV HY HB HCH ⊢
 clear hw5 hk y0 z0 zf
 apply wp_region_lit
 refine wpl_loadG HV.out.ga rfl rfl rfl ?_
 refine wpl_loadG HY.out.ga rfl rfl rfl ?_
 rw[← HD.out]
 simp only[Act.put,sA1,sB1,sC1]
 go_wp2_with fail
 refine(HSC.out _ _ _ (by rw[show({ S with len:=d.len }:Trk.Clip).chan=c.chan from HSN.out];exact HCH.out.it) HB.out).mono ?_
 rintro e w6 ⟨rfl,hb⟩
 have HB6:=Tb HB hb
 clear hb
 go_wp2_with fail
 go_ret
 exact⟨by rw[HQ.out];rfl,HB6.out⟩
theorem rcont_gaps (c d:Trk.Clip) (x y:Value) (w:World) (k1:c.kind=0) (k2:d.kind=0):Calls Tryz.prog 144 #[clipGV c x,clipGV d y] w fun e w'=>e=.returned (.bool true)∧Below w.heap.size w w':=by
 unfold clipGV
 obtain⟨C,hC⟩:=Xq ((clipG c x).toArray)
 obtain⟨D,hD⟩:=Xq ((clipG d y).toArray)
 rw[← hC,← hD]
 have HC:=Hd hC
 have HD:=Hd hD
 clear hC hD
 go_enter Tryz.func144,Tryz.ntmps144
 go_upto_region 1 with fail
 obtain⟨w1,hw1⟩:=Xq ((w.alloc (.cells C 48)).alloc (.cells D 48))
 rw[← hw1]
 rw[HC.out,HD.out]at hw1
 obtain⟨hx,hy,hb1⟩:=boxG2_facts hw1
 obtain⟨g1,hg1⟩:=Xq (w.heap.size)
 obtain⟨g2,hg2⟩:=Xq (w.heap.size+1)
 rw[← hg2]at hy ⊢
 rw[← hg1]at hx ⊢
 have x1:=hx.c.k1
 have y1:=hy.c.k1
 rw[k1]at x1
 rw[k2]at y1
 simp only[Nat.zero_add]at x1 y1
 clear hw1 hg1 hg2 hx hy
 go_wp2_with fail
 go_ret
 exact⟨rfl,hb1⟩
theorem rcont_any (d c:Trk.Clip) (y x:Value) (w:World) (hd:OkG d) (hc:OkG c) (hiy:IT w y d.chan) (hix:IT w x c.chan) :
  Calls Tryz.prog 144 #[clipGV c x,clipGV d y] w fun e w'=>e=.returned (.bool (decide (Trk.cont d c)))∧Below w.heap.size w w':=by
 by_cases hk:c.kind=0∧d.kind=0
 ·have e:=decide_eq_true (cont_gap hd.g hc.g hk.1 hk.2)
  rw[e]
  exact rcont_gaps c d x y w hk.1 hk.2
 exact rcont_core d c y x w hd hc hiy hix hk
end Go.Proofs.YtfoohocgdcgbcaaGreat
