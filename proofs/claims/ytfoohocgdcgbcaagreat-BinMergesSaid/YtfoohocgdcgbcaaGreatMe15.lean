/- Texts of this claim joined: WA WB WC WD. -/
import Derived.Test.YtfoohocgdcgbcaaGreatMe13
import Derived.Test.YtfoohocgdcgbcaaGreatSq
set_option linter.unusedVariables false
set_option linter.unusedSimpArgs false
set_option maxRecDepth 100000
set_option maxHeartbeats 40000000
namespace Go.Proofs.YtfoohocgdcgbcaaGreat
open Go.Trk
open Go.RowKit
theorem idle43 (p q r:Addr) (w:World):CallsD Tryz.prog 83 #[.pointer (some p),.pointer (some q),.pointer (some r)] .returning w fun e u' w'=>e=.returned (.tuple #[])∧u'=.returning∧w'=w:=by
 refine callsD_of_wpS Tryz.func83 rfl fun c₀ cs hu=>?_
 apply wpS_seq
 apply wpS_region
 simp[wpOpsS,go_sem,recoverD,hu,Tryz.ntmps83,Exit.thenS]
 refine wpS_cond (t:=false) (by simp[Act.eval,Array.replicate]) ?_
 simp only[Bool.false_eq_true,if_false]
 refine wpS_of_wp (wp_skip ?_)
 cases c₀
 simp_all[bodyPostS,results,Tryz.results83]
def MidPost (w:World) (n l:List Clip) (a b uk code:Int) (e:Ending) (w':World):Prop:=
 (code=0∧EdPost w n l a b uk e w')∨(code≠0∧e=.returned (.tuple #[.slice none 0 0,edV 0 0 0 0 0 0 0 (.slice none 0 0),.int .i64 code])∧Below w.heap.size w w')
structure AB (w0 w:World) (g3 g4 g5 g6:Nat) (k p m c d sn sd:Int) (u v4:Value) (rk rp rm:Int) (rv:Value) (x6:Int):Prop where
 a:ED w g3 k p m c d sn sd u
 c4:w.cell? ⟨g4,0,none⟩=some v4
 f4:w.frozen? ⟨g4,0,none⟩=false
 r:ED w g5 rk rp rm 0 0 0 0 rv
 c6:w.cell? ⟨g6,0,none⟩=some (.int .i64 x6)
 f6:w.frozen? ⟨g6,0,none⟩=false
 b:Below w0.heap.size w0 w
theorem AB.below {w0 w w':World} {g3 g4 g5 g6:Nat} {k p m c d sn sd:Int} {u v4:Value} {rk rp rm:Int} {rv:Value} {x6:Int} (h:AB w0 w g3 g4 g5 g6 k p m c d sn sd u v4 rk rp rm rv x6) (hb:Below w.heap.size w w'):AB w0 w' g3 g4 g5 g6 k p m c d sn sd u v4 rk rp rm rv x6:=
 ⟨h.a.below hb,(hb.cell (block_lt_of_cell h.c4)).trans h.c4,(hb.frozen (p:=⟨g4,0,none⟩) (block_lt_of_cell h.c4)).trans h.f4,h.r.below hb,(hb.cell (block_lt_of_cell h.c6)).trans h.c6,(hb.frozen (p:=⟨g6,0,none⟩) (block_lt_of_cell h.c6)).trans h.f6,h.b.trans (hb.mono h.b.size)⟩
theorem AB.set4 {w0 w:World} {g3 g4 g5 g6:Nat} {k p m c d sn sd:Int} {u v4:Value} {rk rp rm:Int} {rv:Value} {x6:Int} (h:AB w0 w g3 g4 g5 g6 k p m c d sn sd u v4 rk rp rm rv x6) (h3:g3<g4) (h5:g4<g5) (h6:g5<g6) (h0:w0.heap.size≤g3) (v:Value) :
  AB w0 (w.setCell ⟨g4,0,none⟩ v) g3 g4 g5 g6 k p m c d sn sd u v rk rp rm rv x6:=by
 have ht:=Turn.cell g4 0 v w
 exact⟨ht.ed (by omega) h.a,by have:=h.c4;simp[go_sem,this],by rw[World.frozen?_setCell];exact h.f4,ht.ed (by omega) h.r,ht.get (by omega) h.c6,by rw[World.frozen?_setCell];exact h.f6,ht.b _ _ (by omega) h.b⟩
theorem AB.set6 {w0 w:World} {g3 g4 g5 g6:Nat} {k p m c d sn sd:Int} {u v4:Value} {rk rp rm:Int} {rv:Value} {x6:Int} (h:AB w0 w g3 g4 g5 g6 k p m c d sn sd u v4 rk rp rm rv x6) (h3:g3<g4) (h5:g4<g5) (h6:g5<g6) (h0:w0.heap.size≤g3) (x:Int) :
  AB w0 (w.setCell ⟨g6,0,none⟩ (.int .i64 x)) g3 g4 g5 g6 k p m c d sn sd u v4 rk rp rm rv x:=by
 have ht:=Turn.cell g6 0 (.int .i64 x) w
 exact⟨ht.ed (by omega) h.a,ht.get (by omega) h.c4,by rw[World.frozen?_setCell];exact h.f4,ht.ed (by omega) h.r,by have:=h.c6;simp[go_sem,this],by rw[World.frozen?_setCell];exact h.f6,ht.b _ _ (by omega) h.b⟩
theorem AB.set5 {w0 w w':World} {g3 g4 g5 g6:Nat} {k p m c d sn sd:Int} {u v4:Value} {rk rp rm:Int} {rv:Value} {x6:Int} (h:AB w0 w g3 g4 g5 g6 k p m c d sn sd u v4 rk rp rm rv x6) (h3:g3<g4) (h5:g4<g5) (h6:g5<g6) (h0:w0.heap.size≤g3) {rk' rp' rm':Int} {rv':Value}
  (he:ED w' g5 rk' rp' rm' 0 0 0 0 rv') (ho:∀ b,b≠g5→w'.heap[b]?=w.heap[b]?) (hb:∀ n w0,n≤g5→Below n w0 w→Below n w0 w'):AB w0 w' g3 g4 g5 g6 k p m c d sn sd u v4 rk' rp' rm' rv' x6:=
 ⟨h.a.same (ho g3 (by omega)),(World.cell?_of_block (a:=⟨g4,0,none⟩) (ho g4 (by omega))).trans h.c4,(World.frozen?_of_block (a:=⟨g4,0,none⟩) (ho g4 (by omega))).trans h.f4,he,(World.cell?_of_block (a:=⟨g6,0,none⟩) (ho g6 (by omega))).trans h.c6,(World.frozen?_of_block (a:=⟨g6,0,none⟩) (ho g6 (by omega))).trans h.f6,hb _ _ (by omega) h.b⟩
theorem results_apply {fn:Func} {tmps:Array Value} {w0 w:World} {g3 g4 g5 g6:Nat} {k p m c d sn sd:Int} {u:Value} {va:Option Addr} {vm vc:Nat} {rk rp rm:Int} {ra:Option Addr} {rl rc:Nat} {x6:Int} (hr:fn.results=#[.cell 4 23,.cell 5 40,.cell 6 30])
  (h4:tmps.getD 4 undef=.pointer (some ⟨g4,0,none⟩)) (h5:tmps.getD 5 undef=.pointer (some ⟨g5,0,none⟩)) (h6:tmps.getD 6 undef=.pointer (some ⟨g6,0,none⟩)) (h:AB w0 w g3 g4 g5 g6 k p m c d sn sd u (.slice va vm vc) rk rp rm (.slice ra rl rc) x6) :
  (results fn tmps).run Tryz.prog w=.ok (.tuple #[.slice va vm vc,edV rk rp rm 0 0 0 0 (.slice ra rl rc),.int .i64 x6]) w:=by
 unfold results
 rw[hr]
 have e4:tmps[4]?.getD undef=.pointer (some ⟨g4,0,none⟩):=by rw[← Array.getD_eq_getD_getElem?];exact h4
 have e5:tmps[5]?.getD undef=.pointer (some ⟨g5,0,none⟩):=by rw[← Array.getD_eq_getD_getElem?];exact h5
 have e6:tmps[6]?.getD undef=.pointer (some ⟨g6,0,none⟩):=by rw[← Array.getD_eq_getD_getElem?];exact h6
 have z4:=h.c4
 have z6:=h.c6
 obtain⟨y0,y1,y2,y3,y4,y5,y6,y7,_⟩:=h.r
 simp[e4,e5,e6,asAddr,go_sem,z4,z6,y0,y1,y2,y3,y4,y5,y6,y7,edV,edC]
theorem apply_exch {L M:Int} (v u:Value) (t l:List Clip) (k p m c d sn sd a b uk code:Int) (ok:Bool) (w:World) (h:Tk w v t) (ins:List Clip) (hu:Tk w u ins) (hV:VT L t) (hL:L≤140737488355328) (hk:k=1∨k=2∨k=3∨k=4)
  (hOK:∀ w',Tk w' u ins→Calls Tryz.prog 84 #[edV k p m c d sn sd u] w' fun e w''=>e=.returned (.bool ok)∧Below w'.heap.size w' w'')
  (hM:ok=true→∀ w' vn,Tk w' vn (nf t)→Tk w' u ins→Calls Tryz.prog 85 #[vn,edV k p m c d sn sd u] w' (MidPost w' (nf t) l a b uk code))
  (hl:code=0→VL M l∧Trk.total l≤2147483647∧l.length≤1048576∧(nf l).length≤64) (hM2:M≤140737488355328) (hc:-1000≤code∧code≤1000) :
  Calls Tryz.prog 45 #[v,edV k p m c d sn sd u] w fun e w'=>(ok=true∧code=0∧EdPost w (nf t) (nf l) a b uk e w') ∨
   ((ok=false∨code≠0)∧e=.returned (.tuple #[.slice none 0 0,edV 0 0 0 0 0 0 0 (.slice none 0 0),.int .i64 (if ok=true then code else 1)])∧Below w.heap.size w w'):=by
 have HT:=Hd h
 have HU:=Hd hu
 have HOK:=Hd hOK
 have HM:=Hd hM
 have HL:=Hd hl
 have HK:=Hd hk
 have HVT:=Hd (fun w (h:Tk w v t)=>vtrack_any v t w h hV hL)
 have HNO:=Hd (fun w (h:Tk w v t)=>normal_any v t w h hV hL)
 obtain⟨ua,um,uc,rfl⟩:∃ ao m cp,u=.slice ao m cp:=by obtain⟨ao,cp,e,_⟩:=hu;exact⟨_,_,_,e⟩
 obtain⟨hc1,hc2⟩:=hc
 unfold edV at HOK HM
 clear h hu hV hOK hM hl hk
 unfold edV
 go_enter_defers Tryz.func45,Tryz.ntmps45
 go_upto_region 2 with fail
 obtain⟨w1,hw1⟩:=Xq ((((w.alloc (.cells (edC k p m c d sn sd (.slice ua um uc)) 40)).alloc (.cells #[.slice none 0 0] 23)).alloc (.cells (edC 0 0 0 0 0 0 0 (.slice none 0 0)) 40)).alloc (.cells #[.int .i64 0] 30))
 have hw1':=hw1
 unfold edC at hw1'
 unfold edC
 rw[← hw1']
 clear hw1'
 obtain⟨g3,hg3⟩:=Xq (w.heap.size)
 obtain⟨g4,hg4⟩:=Xq (w.heap.size+1)
 obtain⟨g5,hg5⟩:=Xq (w.heap.size+1+1)
 obtain⟨g6,hg6⟩:=Xq (w.heap.size+1+1+1)
 have hab:AB w w1 g3 g4 g5 g6 k p m c d sn sd (.slice ua um uc) (.slice none 0 0) 0 0 0 (.slice none 0 0) 0:=by
  rw[hw1,hg3,hg4,hg5,hg6]
  refine⟨?_,?_,?_,?_,?_,?_,by go_grown⟩
  ·constructor<;>simp[go_sem,edC]
  ·simp[go_sem,edC]
  ·simp[go_sem,edC]
  ·constructor<;>simp[go_sem,edC]
  ·simp[go_sem,edC]
  simp[go_sem,edC]
 rw[← hg6,← hg5,← hg4,← hg3]
 have h34:g3<g4:=by omega
 have h45:g4<g5:=by omega
 have h56:g5<g6:=by omega
 have h03:w.heap.size≤g3:=by omega
 have HA:=Hd hab
 have HN:=Hd (And.intro h34 (And.intro h45 (And.intro h56 h03)))
 clear hw1 hab hg3 hg4 hg5 hg6 h34 h45 h56 h03
 go_wp2_with fail
 refine(HVT.out _ (HT.out.below HA.out.b)).mono ?_
 rintro e w2 ⟨rfl,hb⟩
 replace HA:=Hd (HA.out.below hb)
 clear hb HVT
 obtain⟨e0,e1,e2,e3,e4,e5,e6,e7,ef⟩:=HA.out.a
 go_wp2_with fail
 refine(HOK.out _ (HU.out.below HA.out.b)).mono ?_
 rintro e w3 ⟨rfl,hb⟩
 replace HA:=Hd (HA.out.below hb)
 clear hb e0 e1 e2 e3 e4 e5 e6 e7 ef HOK
 cases ok
 case false=>
  go_upto_region 3 with fail
  apply wp_region_lit
  iterate 3 go_step
  have z4:=HA.out.c4
  have zf4:=HA.out.f4
  iterate 3 go_step
  have ha:=HA.out.set4 HN.out.1 HN.out.2.1 HN.out.2.2.1 HN.out.2.2.2 (.slice none 0 0)
  obtain⟨w4,hwn⟩:=Xq (World.setCell w3 ⟨g4,0,none⟩ (.slice none 0 0))
  rw[← hwn]at ha ⊢
  replace HA:=Hd ha
  clear ha hwn z4 zf4
  refine wpl_storeE 0 0 0 0 0 0 0 none 0 0 HA.out.r rfl rfl rfl rfl ?_
  intro w5 q1 q2 q3 q4 q5
  simp only[Act.put,sA1,sB1,sC1]
  replace HA:=Hd (HA.out.set5 HN.out.1 HN.out.2.1 HN.out.2.2.1 HN.out.2.2.2 q1 q2 q4)
  clear q1 q2 q3 q4 q5
  have z6:=HA.out.c6
  have zf6:=HA.out.f6
  iterate 3 go_step
  have ha:=HA.out.set6 HN.out.1 HN.out.2.1 HN.out.2.2.1 HN.out.2.2.2 (1)
  obtain⟨w6,hwn⟩:=Xq (World.setCell w5 ⟨g6,0,none⟩ (.int .i64 (1)))
  rw[← hwn]at ha ⊢
  replace HA:=Hd ha
  clear ha hwn z6 zf6
  iterate 4 go_step
  refine leaves_cons (f:=83) (args:=#[.pointer (some ⟨g4,0,none⟩),.pointer (some ⟨g5,0,none⟩),.pointer (some ⟨g6,0,none⟩)]) (by simp) (by simp[go_sem]) ?_
  refine(idle43 _ _ _ _).mono ?_
  rintro e u' w'' ⟨rfl,rfl,rfl⟩
  refine⟨_,results_apply Tryz.results45 rfl rfl rfl HA.out,?_⟩
  exact .inr ⟨.inl rfl,rfl,HA.out.b⟩
 have HM2:=Hd (HM.out rfl)
 clear HM
 go_wp2_with fail
 refine(HNO.out _ (HT.out.below HA.out.b)).mono ?_
 rintro e w4 ⟨vn,rfl,ho,hb⟩
 replace HA:=Hd (HA.out.below hb)
 have HTN:=Hd ho.tk
 clear ho hb HNO
 have e0:=HA.out.a.k0
 go_upto_if 30 with fail
 go_cut [30] from 31 (fun v30 wx=>v30=.bool true∧wx=w4)
 case first=>
  rcases HK.out with rfl |rfl |rfl |rfl
  ·go_wp2_with fail
   go_meet
   case rel=>exact⟨rfl,rfl⟩
  ·go_wp2_with fail
   go_meet
   case rel=>exact⟨rfl,rfl⟩
  ·go_wp2_with fail
   go_meet
   case rel=>exact⟨rfl,rfl⟩
  go_wp2_with fail
  go_meet
  case rel=>exact⟨rfl,rfl⟩
 obtain⟨rfl,rfl⟩:=hcut
 clear e0
 go_upto_region 12 with fail
 apply wp_region_lit
 iterate 3 go_step
 refine wpl_loadE HA.out.a rfl rfl rfl ?_
 simp only[Act.put,sA1,sB1,sC1]
 iterate 2 go_step
 refine(HM2.out _ _ HTN.out (HU.out.below HA.out.b)).mono ?_
 rintro e w5 (⟨hc0,v',vr,rfl,ho,hor,hb⟩ |⟨hc0,rfl,hb⟩)
 ·subst hc0
  obtain⟨hl1,hl2,hl3,hl4⟩:=HL.out rfl
  obtain⟨mm,hmm⟩:=Xq ((if uk=2 then b-a else 0))
  have hE:EdV (backOf (nf t) a b uk) vr=.agg (edC uk a mm 0 0 0 0 vr):=by rw[hmm];rfl
  rw[hE]
  have HE:=Hd hE
  have HEN:=Hd (fun w v (h:Tk w v l)=>enormal_any v l w h hl1 hM2 hl2 hl3)
  obtain⟨ra,rc,rfl,-⟩:=hor.tk
  obtain⟨rl,hrl⟩:=Xq ((backOf (nf t) a b uk).ins.length)
  rw[← hrl]at hor HE ⊢
  have HGR:=Hd (show ∀ g kk cp,Value.slice ra rl rc=.slice (some ⟨g,0,none⟩) kk cp→g6<g from fun g kk cp e=>by have h1:=(hor.blk e).1;have h2:=block_lt_of_cell HA.out.c6;simp only at h2;omega)
  have HOR:=Hd (hor.lower HA.out.b.size)
  have HGL:=Hd (show ∀ g kk cp,v'=.slice (some ⟨g,0,none⟩) kk cp→g6<g from fun g kk cp e=>by have h1:=(ho.blk e).1;have h2:=block_lt_of_cell HA.out.c6;simp only at h2;omega)
  have HOL:=Hd ho
  replace HA:=Hd (HA.out.below hb)
  clear hE hor ho hb hmm hrl hl1 hl2 hl3
  dsimp only
  iterate 16 go_step
  refine wpl_storeE uk a mm 0 0 0 0 ra rl rc HA.out.r rfl rfl rfl rfl ?_
  intro w6 q1 q2 q3 q4 q5
  simp only[Act.put,sA1,sB1,sC1]
  replace HA:=Hd (HA.out.set5 HN.out.1 HN.out.2.1 HN.out.2.2.1 HN.out.2.2.2 q1 q2 q4)
  replace HOL:=Hd (HOL.out.blocks (fun g kk cp e=>q2 g (by have:=HGL.out g kk cp e;have:=HN.out.2.2.1;omega)))
  replace HOR:=Hd (HOR.out.blocks (fun g kk cp e=>q2 g (by have:=HGR.out g kk cp e;have:=HN.out.2.2.1;omega)))
  clear q1 q2 q3 q4 q5
  have z6:=HA.out.c6
  have zf6:=HA.out.f6
  go_upto_region 13 with fail
  have ha:=HA.out.set6 HN.out.1 HN.out.2.1 HN.out.2.2.1 HN.out.2.2.2 0
  have ho:=HOL.out.apart (p:=⟨g6,0,none⟩) (fun g kk cp e=>Nat.ne_of_lt (HGL.out g kk cp e)) (.int .i64 0)
  have hor:=HOR.out.apart (p:=⟨g6,0,none⟩) (fun g kk cp e=>Nat.ne_of_lt (HGR.out g kk cp e)) (.int .i64 0)
  obtain⟨w7,hw7⟩:=Xq (World.setCell w6 ⟨g6,0,none⟩ (.int .i64 0))
  rw[← hw7]at ha ho hor ⊢
  replace HA:=Hd ha
  replace HOL:=Hd ho
  replace HOR:=Hd hor
  clear ha ho hor hw7 z6 zf6
  have z6:=HA.out.c6
  go_wp2_with fail
  refine(HEN.out _ _ HOL.out.tk).mono ?_
  rintro e w8 ⟨va,rfl,ho,hb⟩
  obtain⟨na,ca,rfl,-⟩:=ho.tk
  obtain⟨la,hla⟩:=Xq ((nf l).length)
  rw[← hla]at ho hl4 ⊢
  have HGV:=Hd (show ∀ g kk cp,Value.slice na la ca=.slice (some ⟨g,0,none⟩) kk cp→g6<g from fun g kk cp e=>by have h1:=(ho.blk e).1;have h2:=block_lt_of_cell HA.out.c6;simp only at h2;omega)
  have HOV:=Hd (ho.lower HA.out.b.size)
  replace HA:=Hd (HA.out.below hb)
  replace HOR:=Hd (HOR.out.below hb)
  clear ho hb hla z6 HOL HGL
  have z4:=HA.out.c4
  have zf4:=HA.out.f4
  go_upto_region 16 with fail
  have ha:=HA.out.set4 HN.out.1 HN.out.2.1 HN.out.2.2.1 HN.out.2.2.2 (.slice na la ca)
  have ho:=HOV.out.apart (p:=⟨g4,0,none⟩) (fun g kk cp e=>by have:=HGV.out g kk cp e;have:=HN.out;show g4≠g;omega) (.slice na la ca)
  have hor:=HOR.out.apart (p:=⟨g4,0,none⟩) (fun g kk cp e=>by have:=HGR.out g kk cp e;have:=HN.out;show g4≠g;omega) (.slice na la ca)
  obtain⟨w9,hw9⟩:=Xq (World.setCell w8 ⟨g4,0,none⟩ (.slice na la ca))
  rw[← hw9]at ha ho hor ⊢
  replace HA:=Hd ha
  replace HOV:=Hd ho
  replace HOR:=Hd hor
  clear ha ho hor hw9 z4 zf4
  have z4:=HA.out.c4
  have hl4':¬(64:Int)<(la:Int):=by omega
  go_upto_region 18 with fail
  clear z4
  refine Plan.wp_region_plan (fun w'=>w'.cell? ⟨g4,0,none⟩=some (.slice na la ca)∧ED w' g5 uk a mm 0 0 0 0 (.slice ra rl rc)) (([0,1].map (·,true))++([2,3,4].map (·,false))) (by kernel_rfl) (by kernel_rfl) (by kernel_rfl) ⟨(HA.out.below (Below.refl _ _).drew).c4,(HA.out.below (Below.refl _ _).drew).r⟩ ?_
  refine' Plan.plan_seg _ [0,1] ([2,3,4].map (·,false)) (by kernel_rfl) (by kernel_rfl) rfl (by exact⟨(HA.out.below (Below.refl _ _).drew).c4,(HA.out.below (Below.refl _ _).drew).r⟩) (fun wx hS=>?_) ?_
  rotate_left
  ·obtain⟨S1,S2⟩:=hS
   have HS2:=Hd S2
   clear S2
   go_light
   iterate 1 (apply Plan.seg_pick;rfl;intro K hK;go_wp)
   (apply Plan.seg_pick;rfl;intro K hK)
   refine wpl_loadE HS2.out rfl rfl rfl ?_
   go_wp
   exact Plan.seg_nil
  obtain⟨w10,hw10⟩:=Xq (World.drew w9)
  rw[← hw10]
  have hb10:Below w9.heap.size w9 w10:=by rw[hw10];exact(Below.refl _ _).drew
  replace HA:=Hd (HA.out.below hb10)
  replace HOV:=Hd (HOV.out.below hb10)
  replace HOR:=Hd (HOR.out.below hb10)
  clear hb10 hw10
  refine Plan.plan_of_effect rfl (fun K hK=>?_)
  have z4:=HA.out.c4
  have zf4:=HA.out.f4
  go_wp2_with fail
  have ha:=HA.out.set4 HN.out.1 HN.out.2.1 HN.out.2.2.1 HN.out.2.2.2 (.slice na la ca)
  have ho:=HOV.out.apart (p:=⟨g4,0,none⟩) (fun g kk cp e=>by have:=HGV.out g kk cp e;have:=HN.out;show g4≠g;omega) (.slice na la ca)
  have hor:=HOR.out.apart (p:=⟨g4,0,none⟩) (fun g kk cp e=>by have:=HGR.out g kk cp e;have:=HN.out;show g4≠g;omega) (.slice na la ca)
  obtain⟨w11,hw11⟩:=Xq (World.setCell w10 ⟨g4,0,none⟩ (.slice na la ca))
  rw[← hw11]at ha ho hor ⊢
  replace HA:=Hd ha
  replace HOV:=Hd ho
  replace HOR:=Hd hor
  clear ha ho hor hw11 z4 zf4
  first |refine⟨⟨HA.out.c4,HA.out.r⟩,?_⟩ |refine⟨HA.out.r,?_⟩ |refine⟨HA.out.c4,HA.out.r,?_⟩
  refine Plan.plan_of_effect rfl (fun K hK=>?_)
  refine wpl_storeE uk a mm 0 0 0 0 ra rl rc HA.out.r rfl rfl rfl rfl ?_
  intro w12 q1 q2 q3 q4 q5
  simp only[Act.put,sA1,sB1,sC1]
  replace HA:=Hd (HA.out.set5 HN.out.1 HN.out.2.1 HN.out.2.2.1 HN.out.2.2.2 q1 q2 q4)
  replace HOV:=Hd (HOV.out.blocks (fun g kk cp e=>q2 g (by have:=HGV.out g kk cp e;have:=HN.out.2.2.1;omega)))
  replace HOR:=Hd (HOR.out.blocks (fun g kk cp e=>q2 g (by have:=HGR.out g kk cp e;have:=HN.out.2.2.1;omega)))
  clear q1 q2 q3 q4 q5
  go_wp2_with fail
  first |refine⟨⟨HA.out.c4,HA.out.r⟩,?_⟩ |refine⟨HA.out.r,?_⟩ |refine⟨HA.out.c4,HA.out.r,?_⟩
  refine Plan.plan_of_effect rfl (fun K hK=>?_)
  have z6:=HA.out.c6
  have zf6:=HA.out.f6
  go_wp2_with fail
  have ha:=HA.out.set6 HN.out.1 HN.out.2.1 HN.out.2.2.1 HN.out.2.2.2 0
  have ho:=HOV.out.apart (p:=⟨g6,0,none⟩) (fun g kk cp e=>Nat.ne_of_lt (HGV.out g kk cp e)) (.int .i64 0)
  have hor:=HOR.out.apart (p:=⟨g6,0,none⟩) (fun g kk cp e=>Nat.ne_of_lt (HGR.out g kk cp e)) (.int .i64 0)
  obtain⟨w13,hw13⟩:=Xq (World.setCell w12 ⟨g6,0,none⟩ (.int .i64 0))
  rw[← hw13]at ha ho hor ⊢
  replace HA:=Hd ha
  replace HOV:=Hd ho
  replace HOR:=Hd hor
  clear ha ho hor hw13 z6 zf6
  first |refine⟨⟨HA.out.c4,HA.out.r⟩,?_⟩ |refine⟨HA.out.r,?_⟩ |refine⟨HA.out.c4,HA.out.r,?_⟩
  refine Plan.plan_done ?_
  iterate 3 go_step
  refine leaves_cons (f:=83) (args:=#[.pointer (some ⟨g4,0,none⟩),.pointer (some ⟨g5,0,none⟩),.pointer (some ⟨g6,0,none⟩)]) (by simp) (by simp[go_sem]) ?_
  refine(idle43 _ _ _ _).mono ?_
  rintro e u' w'' ⟨rfl,rfl,rfl⟩
  refine⟨_,results_apply Tryz.results45 rfl rfl rfl HA.out,?_⟩
  refine .inl ⟨rfl,rfl,.slice na la ca,.slice ra rl rc,?_,HOV.out,HOR.out,HA.out.b⟩
  rw[HE.out]
  rfl
 have hcb:(code==0)=false:=by simpa using hc0
 have HC0:=Hd hc0
 replace HA:=Hd (HA.out.below hb)
 clear hb hc0
 dsimp only
 iterate 16 go_step
 refine wpl_storeE 0 0 0 0 0 0 0 none 0 0 HA.out.r rfl rfl rfl rfl ?_
 intro w6 q1 q2 q3 q4 q5
 simp only[Act.put,sA1,sB1,sC1]
 replace HA:=Hd (HA.out.set5 HN.out.1 HN.out.2.1 HN.out.2.2.1 HN.out.2.2.2 q1 q2 q4)
 clear q1 q2 q3 q4 q5
 have z6:=HA.out.c6
 have zf6:=HA.out.f6
 go_upto_region 13 with fail
 have ha:=HA.out.set6 HN.out.1 HN.out.2.1 HN.out.2.2.1 HN.out.2.2.2 code
 obtain⟨w7,hw7⟩:=Xq (World.setCell w6 ⟨g6,0,none⟩ (.int .i64 code))
 rw[← hw7]at ha ⊢
 replace HA:=Hd ha
 clear ha hw7 z6 zf6
 have z6:=HA.out.c6
 go_upto_region 14 with fail
 clear z6
 refine Plan.wp_region_plan (fun w'=>w'.cell? ⟨g6,0,none⟩=some (.int .i64 code)) (([0,1].map (·,true))++([2,3,4].map (·,false))) (by kernel_rfl) (by kernel_rfl) (by kernel_rfl) (HA.out.below (Below.refl _ _).drew).c6 ?_
 refine' Plan.plan_seg _ [0,1] ([2,3,4].map (·,false)) (by kernel_rfl) (by kernel_rfl) rfl (by exact(HA.out.below (Below.refl _ _).drew).c6) (fun wx hS=>?_) ?_
 rotate_left
 ·go_light
  iterate 2 (apply Plan.seg_pick;rfl;intro K hK;go_wp)
  exact Plan.seg_nil
 obtain⟨w10,hw10⟩:=Xq (World.drew w7)
 rw[← hw10]
 replace HA:=Hd (HA.out.below (show Below w7.heap.size w7 w10 by rw[hw10];exact(Below.refl _ _).drew))
 clear hw10
 refine Plan.plan_of_effect rfl (fun K hK=>?_)
 have z4:=HA.out.c4
 have zf4:=HA.out.f4
 go_wp2_with fail
 have ha:=HA.out.set4 HN.out.1 HN.out.2.1 HN.out.2.2.1 HN.out.2.2.2 (.slice none 0 0)
 obtain⟨w11,hw11⟩:=Xq (World.setCell w10 ⟨g4,0,none⟩ (.slice none 0 0))
 rw[← hw11]at ha ⊢
 replace HA:=Hd ha
 clear ha hw11 z4 zf4
 refine⟨HA.out.c6,?_⟩
 refine Plan.plan_of_effect rfl (fun K hK=>?_)
 refine wpl_storeE 0 0 0 0 0 0 0 none 0 0 HA.out.r rfl rfl rfl rfl ?_
 intro w12 q1 q2 q3 q4 q5
 simp only[Act.put,sA1,sB1,sC1]
 replace HA:=Hd (HA.out.set5 HN.out.1 HN.out.2.1 HN.out.2.2.1 HN.out.2.2.2 q1 q2 q4)
 clear q1 q2 q3 q4 q5
 go_wp2_with fail
 refine⟨HA.out.c6,?_⟩
 refine Plan.plan_of_effect rfl (fun K hK=>?_)
 have z6:=HA.out.c6
 have zf6:=HA.out.f6
 go_wp2_with fail
 have ha:=HA.out.set6 HN.out.1 HN.out.2.1 HN.out.2.2.1 HN.out.2.2.2 code
 obtain⟨w13,hw13⟩:=Xq (World.setCell w12 ⟨g6,0,none⟩ (.int .i64 code))
 rw[← hw13]at ha ⊢
 replace HA:=Hd ha
 clear ha hw13 z6 zf6
 refine⟨HA.out.c6,?_⟩
 refine Plan.plan_done ?_
 iterate 4 go_step
 refine leaves_cons (f:=83) (args:=#[.pointer (some ⟨g4,0,none⟩),.pointer (some ⟨g5,0,none⟩),.pointer (some ⟨g6,0,none⟩)]) (by simp) (by simp[go_sem]) ?_
 refine(idle43 _ _ _ _).mono ?_
 rintro e u' w'' ⟨rfl,rfl,rfl⟩
 refine⟨_,results_apply Tryz.results45 rfl rfl rfl HA.out,?_⟩
 exact .inr ⟨.inr HC0.out,rfl,HA.out.b⟩
theorem apply_clip {L M:Int} (v u:Value) (t l:List Clip) (k p m c d sn sd a b uk code:Int) (ok:Bool) (w:World) (h:Tk w v t) (ins:List Clip) (hu:Tk w u ins) (hV:VT L t) (hL:L≤140737488355328) (hk:5≤k∧k≤10)
  (hOK:∀ w',Tk w' u ins→Calls Tryz.prog 84 #[edV k p m c d sn sd u] w' fun e w''=>e=.returned (.bool ok)∧Below w'.heap.size w' w'')
  (hM:ok=true→∀ w' vn,Tk w' vn (nf t)→Tk w' u ins→Calls Tryz.prog 86 #[vn,edV k p m c d sn sd u] w' (MidPost w' (nf t) l a b uk code))
  (hl:code=0→VL M l∧Trk.total l≤2147483647∧l.length≤1048576∧(nf l).length≤64) (hM2:M≤140737488355328) (hc:-1000≤code∧code≤1000) :
  Calls Tryz.prog 45 #[v,edV k p m c d sn sd u] w fun e w'=>(ok=true∧code=0∧EdPost w (nf t) (nf l) a b uk e w') ∨
   ((ok=false∨code≠0)∧e=.returned (.tuple #[.slice none 0 0,edV 0 0 0 0 0 0 0 (.slice none 0 0),.int .i64 (if ok=true then code else 1)])∧Below w.heap.size w w'):=by
 have HT:=Hd h
 have HU:=Hd hu
 have HOK:=Hd hOK
 have HM:=Hd hM
 have HL:=Hd hl
 have HK:=Hd hk
 have HVT:=Hd (fun w (h:Tk w v t)=>vtrack_any v t w h hV hL)
 have HNO:=Hd (fun w (h:Tk w v t)=>normal_any v t w h hV hL)
 obtain⟨ua,um,uc,rfl⟩:∃ ao m cp,u=.slice ao m cp:=by obtain⟨ao,cp,e,_⟩:=hu;exact⟨_,_,_,e⟩
 obtain⟨hc1,hc2⟩:=hc
 unfold edV at HOK HM
 clear h hu hV hOK hM hl hk
 unfold edV
 go_enter_defers Tryz.func45,Tryz.ntmps45
 go_upto_region 2 with fail
 obtain⟨w1,hw1⟩:=Xq ((((w.alloc (.cells (edC k p m c d sn sd (.slice ua um uc)) 40)).alloc (.cells #[.slice none 0 0] 23)).alloc (.cells (edC 0 0 0 0 0 0 0 (.slice none 0 0)) 40)).alloc (.cells #[.int .i64 0] 30))
 have hw1':=hw1
 unfold edC at hw1'
 unfold edC
 rw[← hw1']
 clear hw1'
 obtain⟨g3,hg3⟩:=Xq (w.heap.size)
 obtain⟨g4,hg4⟩:=Xq (w.heap.size+1)
 obtain⟨g5,hg5⟩:=Xq (w.heap.size+1+1)
 obtain⟨g6,hg6⟩:=Xq (w.heap.size+1+1+1)
 have hab:AB w w1 g3 g4 g5 g6 k p m c d sn sd (.slice ua um uc) (.slice none 0 0) 0 0 0 (.slice none 0 0) 0:=by
  rw[hw1,hg3,hg4,hg5,hg6]
  refine⟨?_,?_,?_,?_,?_,?_,by go_grown⟩
  ·constructor<;>simp[go_sem,edC]
  ·simp[go_sem,edC]
  ·simp[go_sem,edC]
  ·constructor<;>simp[go_sem,edC]
  ·simp[go_sem,edC]
  simp[go_sem,edC]
 rw[← hg6,← hg5,← hg4,← hg3]
 have h34:g3<g4:=by omega
 have h45:g4<g5:=by omega
 have h56:g5<g6:=by omega
 have h03:w.heap.size≤g3:=by omega
 have HA:=Hd hab
 have HN:=Hd (And.intro h34 (And.intro h45 (And.intro h56 h03)))
 clear hw1 hab hg3 hg4 hg5 hg6 h34 h45 h56 h03
 go_wp2_with fail
 refine(HVT.out _ (HT.out.below HA.out.b)).mono ?_
 rintro e w2 ⟨rfl,hb⟩
 replace HA:=Hd (HA.out.below hb)
 clear hb HVT
 obtain⟨e0,e1,e2,e3,e4,e5,e6,e7,ef⟩:=HA.out.a
 go_wp2_with fail
 refine(HOK.out _ (HU.out.below HA.out.b)).mono ?_
 rintro e w3 ⟨rfl,hb⟩
 replace HA:=Hd (HA.out.below hb)
 clear hb e0 e1 e2 e3 e4 e5 e6 e7 ef HOK
 cases ok
 case false=>
  go_upto_region 3 with fail
  apply wp_region_lit
  iterate 3 go_step
  have z4:=HA.out.c4
  have zf4:=HA.out.f4
  iterate 3 go_step
  have ha:=HA.out.set4 HN.out.1 HN.out.2.1 HN.out.2.2.1 HN.out.2.2.2 (.slice none 0 0)
  obtain⟨w4,hwn⟩:=Xq (World.setCell w3 ⟨g4,0,none⟩ (.slice none 0 0))
  rw[← hwn]at ha ⊢
  replace HA:=Hd ha
  clear ha hwn z4 zf4
  refine wpl_storeE 0 0 0 0 0 0 0 none 0 0 HA.out.r rfl rfl rfl rfl ?_
  intro w5 q1 q2 q3 q4 q5
  simp only[Act.put,sA1,sB1,sC1]
  replace HA:=Hd (HA.out.set5 HN.out.1 HN.out.2.1 HN.out.2.2.1 HN.out.2.2.2 q1 q2 q4)
  clear q1 q2 q3 q4 q5
  have z6:=HA.out.c6
  have zf6:=HA.out.f6
  iterate 3 go_step
  have ha:=HA.out.set6 HN.out.1 HN.out.2.1 HN.out.2.2.1 HN.out.2.2.2 (1)
  obtain⟨w6,hwn⟩:=Xq (World.setCell w5 ⟨g6,0,none⟩ (.int .i64 (1)))
  rw[← hwn]at ha ⊢
  replace HA:=Hd ha
  clear ha hwn z6 zf6
  iterate 4 go_step
  refine leaves_cons (f:=83) (args:=#[.pointer (some ⟨g4,0,none⟩),.pointer (some ⟨g5,0,none⟩),.pointer (some ⟨g6,0,none⟩)]) (by simp) (by simp[go_sem]) ?_
  refine(idle43 _ _ _ _).mono ?_
  rintro e u' w'' ⟨rfl,rfl,rfl⟩
  refine⟨_,results_apply Tryz.results45 rfl rfl rfl HA.out,?_⟩
  exact .inr ⟨.inl rfl,rfl,HA.out.b⟩
 have HM2:=Hd (HM.out rfl)
 clear HM
 go_wp2_with fail
 refine(HNO.out _ (HT.out.below HA.out.b)).mono ?_
 rintro e w4 ⟨vn,rfl,ho,hb⟩
 replace HA:=Hd (HA.out.below hb)
 have HTN:=Hd ho.tk
 clear ho hb HNO
 have e0:=HA.out.a.k0
 go_upto_if 30 with fail
 go_cut [30] from 31 (fun v30 wx=>v30=.bool false∧wx=w4)
 case first=>
  have b1:(k==1)=false:=by have:=HK.out;simp;omega
  have b2:(k==2)=false:=by have:=HK.out;simp;omega
  have b3:(k==3)=false:=by have:=HK.out;simp;omega
  have b4:(k==4)=false:=by have:=HK.out;simp;omega
  go_wp2_with fail
  go_meet
  case rel=>exact⟨rfl,rfl⟩
 obtain⟨rfl,rfl⟩:=hcut
 clear e0
 go_upto_region 7 with fail
 apply wp_region_lit
 iterate 3 go_step
 refine wpl_loadE HA.out.a rfl rfl rfl ?_
 simp only[Act.put,sA1,sB1,sC1]
 iterate 2 go_step
 refine(HM2.out _ _ HTN.out (HU.out.below HA.out.b)).mono ?_
 rintro e w5 (⟨hc0,v',vr,rfl,ho,hor,hb⟩ |⟨hc0,rfl,hb⟩)
 ·subst hc0
  obtain⟨hl1,hl2,hl3,hl4⟩:=HL.out rfl
  obtain⟨mm,hmm⟩:=Xq ((if uk=2 then b-a else 0))
  have hE:EdV (backOf (nf t) a b uk) vr=.agg (edC uk a mm 0 0 0 0 vr):=by rw[hmm];rfl
  rw[hE]
  have HE:=Hd hE
  have HEN:=Hd (fun w v (h:Tk w v l)=>enormal_any v l w h hl1 hM2 hl2 hl3)
  obtain⟨ra,rc,rfl,-⟩:=hor.tk
  obtain⟨rl,hrl⟩:=Xq ((backOf (nf t) a b uk).ins.length)
  rw[← hrl]at hor HE ⊢
  have HGR:=Hd (show ∀ g kk cp,Value.slice ra rl rc=.slice (some ⟨g,0,none⟩) kk cp→g6<g from fun g kk cp e=>by have h1:=(hor.blk e).1;have h2:=block_lt_of_cell HA.out.c6;simp only at h2;omega)
  have HOR:=Hd (hor.lower HA.out.b.size)
  have HGL:=Hd (show ∀ g kk cp,v'=.slice (some ⟨g,0,none⟩) kk cp→g6<g from fun g kk cp e=>by have h1:=(ho.blk e).1;have h2:=block_lt_of_cell HA.out.c6;simp only at h2;omega)
  have HOL:=Hd ho
  replace HA:=Hd (HA.out.below hb)
  clear hE hor ho hb hmm hrl hl1 hl2 hl3
  dsimp only
  iterate 16 go_step
  refine wpl_storeE uk a mm 0 0 0 0 ra rl rc HA.out.r rfl rfl rfl rfl ?_
  intro w6 q1 q2 q3 q4 q5
  simp only[Act.put,sA1,sB1,sC1]
  replace HA:=Hd (HA.out.set5 HN.out.1 HN.out.2.1 HN.out.2.2.1 HN.out.2.2.2 q1 q2 q4)
  replace HOL:=Hd (HOL.out.blocks (fun g kk cp e=>q2 g (by have:=HGL.out g kk cp e;have:=HN.out.2.2.1;omega)))
  replace HOR:=Hd (HOR.out.blocks (fun g kk cp e=>q2 g (by have:=HGR.out g kk cp e;have:=HN.out.2.2.1;omega)))
  clear q1 q2 q3 q4 q5
  have z6:=HA.out.c6
  have zf6:=HA.out.f6
  go_upto_region 13 with fail
  have ha:=HA.out.set6 HN.out.1 HN.out.2.1 HN.out.2.2.1 HN.out.2.2.2 0
  have ho:=HOL.out.apart (p:=⟨g6,0,none⟩) (fun g kk cp e=>Nat.ne_of_lt (HGL.out g kk cp e)) (.int .i64 0)
  have hor:=HOR.out.apart (p:=⟨g6,0,none⟩) (fun g kk cp e=>Nat.ne_of_lt (HGR.out g kk cp e)) (.int .i64 0)
  obtain⟨w7,hw7⟩:=Xq (World.setCell w6 ⟨g6,0,none⟩ (.int .i64 0))
  rw[← hw7]at ha ho hor ⊢
  replace HA:=Hd ha
  replace HOL:=Hd ho
  replace HOR:=Hd hor
  clear ha ho hor hw7 z6 zf6
  have z6:=HA.out.c6
  go_wp2_with fail
  refine(HEN.out _ _ HOL.out.tk).mono ?_
  rintro e w8 ⟨va,rfl,ho,hb⟩
  obtain⟨na,ca,rfl,-⟩:=ho.tk
  obtain⟨la,hla⟩:=Xq ((nf l).length)
  rw[← hla]at ho hl4 ⊢
  have HGV:=Hd (show ∀ g kk cp,Value.slice na la ca=.slice (some ⟨g,0,none⟩) kk cp→g6<g from fun g kk cp e=>by have h1:=(ho.blk e).1;have h2:=block_lt_of_cell HA.out.c6;simp only at h2;omega)
  have HOV:=Hd (ho.lower HA.out.b.size)
  replace HA:=Hd (HA.out.below hb)
  replace HOR:=Hd (HOR.out.below hb)
  clear ho hb hla z6 HOL HGL
  have z4:=HA.out.c4
  have zf4:=HA.out.f4
  go_upto_region 16 with fail
  have ha:=HA.out.set4 HN.out.1 HN.out.2.1 HN.out.2.2.1 HN.out.2.2.2 (.slice na la ca)
  have ho:=HOV.out.apart (p:=⟨g4,0,none⟩) (fun g kk cp e=>by have:=HGV.out g kk cp e;have:=HN.out;show g4≠g;omega) (.slice na la ca)
  have hor:=HOR.out.apart (p:=⟨g4,0,none⟩) (fun g kk cp e=>by have:=HGR.out g kk cp e;have:=HN.out;show g4≠g;omega) (.slice na la ca)
  obtain⟨w9,hw9⟩:=Xq (World.setCell w8 ⟨g4,0,none⟩ (.slice na la ca))
  rw[← hw9]at ha ho hor ⊢
  replace HA:=Hd ha
  replace HOV:=Hd ho
  replace HOR:=Hd hor
  clear ha ho hor hw9 z4 zf4
  have z4:=HA.out.c4
  have hl4':¬(64:Int)<(la:Int):=by omega
  go_upto_region 18 with fail
  clear z4
  refine Plan.wp_region_plan (fun w'=>w'.cell? ⟨g4,0,none⟩=some (.slice na la ca)∧ED w' g5 uk a mm 0 0 0 0 (.slice ra rl rc)) (([0,1].map (·,true))++([2,3,4].map (·,false))) (by kernel_rfl) (by kernel_rfl) (by kernel_rfl) ⟨(HA.out.below (Below.refl _ _).drew).c4,(HA.out.below (Below.refl _ _).drew).r⟩ ?_
  refine' Plan.plan_seg _ [0,1] ([2,3,4].map (·,false)) (by kernel_rfl) (by kernel_rfl) rfl (by exact⟨(HA.out.below (Below.refl _ _).drew).c4,(HA.out.below (Below.refl _ _).drew).r⟩) (fun wx hS=>?_) ?_
  rotate_left
  ·obtain⟨S1,S2⟩:=hS
   have HS2:=Hd S2
   clear S2
   go_light
   iterate 1 (apply Plan.seg_pick;rfl;intro K hK;go_wp)
   (apply Plan.seg_pick;rfl;intro K hK)
   refine wpl_loadE HS2.out rfl rfl rfl ?_
   go_wp
   exact Plan.seg_nil
  obtain⟨w10,hw10⟩:=Xq (World.drew w9)
  rw[← hw10]
  have hb10:Below w9.heap.size w9 w10:=by rw[hw10];exact(Below.refl _ _).drew
  replace HA:=Hd (HA.out.below hb10)
  replace HOV:=Hd (HOV.out.below hb10)
  replace HOR:=Hd (HOR.out.below hb10)
  clear hb10 hw10
  refine Plan.plan_of_effect rfl (fun K hK=>?_)
  have z4:=HA.out.c4
  have zf4:=HA.out.f4
  go_wp2_with fail
  have ha:=HA.out.set4 HN.out.1 HN.out.2.1 HN.out.2.2.1 HN.out.2.2.2 (.slice na la ca)
  have ho:=HOV.out.apart (p:=⟨g4,0,none⟩) (fun g kk cp e=>by have:=HGV.out g kk cp e;have:=HN.out;show g4≠g;omega) (.slice na la ca)
  have hor:=HOR.out.apart (p:=⟨g4,0,none⟩) (fun g kk cp e=>by have:=HGR.out g kk cp e;have:=HN.out;show g4≠g;omega) (.slice na la ca)
  obtain⟨w11,hw11⟩:=Xq (World.setCell w10 ⟨g4,0,none⟩ (.slice na la ca))
  rw[← hw11]at ha ho hor ⊢
  replace HA:=Hd ha
  replace HOV:=Hd ho
  replace HOR:=Hd hor
  clear ha ho hor hw11 z4 zf4
  first |refine⟨⟨HA.out.c4,HA.out.r⟩,?_⟩ |refine⟨HA.out.r,?_⟩ |refine⟨HA.out.c4,HA.out.r,?_⟩
  refine Plan.plan_of_effect rfl (fun K hK=>?_)
  refine wpl_storeE uk a mm 0 0 0 0 ra rl rc HA.out.r rfl rfl rfl rfl ?_
  intro w12 q1 q2 q3 q4 q5
  simp only[Act.put,sA1,sB1,sC1]
  replace HA:=Hd (HA.out.set5 HN.out.1 HN.out.2.1 HN.out.2.2.1 HN.out.2.2.2 q1 q2 q4)
  replace HOV:=Hd (HOV.out.blocks (fun g kk cp e=>q2 g (by have:=HGV.out g kk cp e;have:=HN.out.2.2.1;omega)))
  replace HOR:=Hd (HOR.out.blocks (fun g kk cp e=>q2 g (by have:=HGR.out g kk cp e;have:=HN.out.2.2.1;omega)))
  clear q1 q2 q3 q4 q5
  go_wp2_with fail
  first |refine⟨⟨HA.out.c4,HA.out.r⟩,?_⟩ |refine⟨HA.out.r,?_⟩ |refine⟨HA.out.c4,HA.out.r,?_⟩
  refine Plan.plan_of_effect rfl (fun K hK=>?_)
  have z6:=HA.out.c6
  have zf6:=HA.out.f6
  go_wp2_with fail
  have ha:=HA.out.set6 HN.out.1 HN.out.2.1 HN.out.2.2.1 HN.out.2.2.2 0
  have ho:=HOV.out.apart (p:=⟨g6,0,none⟩) (fun g kk cp e=>Nat.ne_of_lt (HGV.out g kk cp e)) (.int .i64 0)
  have hor:=HOR.out.apart (p:=⟨g6,0,none⟩) (fun g kk cp e=>Nat.ne_of_lt (HGR.out g kk cp e)) (.int .i64 0)
  obtain⟨w13,hw13⟩:=Xq (World.setCell w12 ⟨g6,0,none⟩ (.int .i64 0))
  rw[← hw13]at ha ho hor ⊢
  replace HA:=Hd ha
  replace HOV:=Hd ho
  replace HOR:=Hd hor
  clear ha ho hor hw13 z6 zf6
  first |refine⟨⟨HA.out.c4,HA.out.r⟩,?_⟩ |refine⟨HA.out.r,?_⟩ |refine⟨HA.out.c4,HA.out.r,?_⟩
  refine Plan.plan_done ?_
  iterate 3 go_step
  refine leaves_cons (f:=83) (args:=#[.pointer (some ⟨g4,0,none⟩),.pointer (some ⟨g5,0,none⟩),.pointer (some ⟨g6,0,none⟩)]) (by simp) (by simp[go_sem]) ?_
  refine(idle43 _ _ _ _).mono ?_
  rintro e u' w'' ⟨rfl,rfl,rfl⟩
  refine⟨_,results_apply Tryz.results45 rfl rfl rfl HA.out,?_⟩
  refine .inl ⟨rfl,rfl,.slice na la ca,.slice ra rl rc,?_,HOV.out,HOR.out,HA.out.b⟩
  rw[HE.out]
  rfl
 have hcb:(code==0)=false:=by simpa using hc0
 have HC0:=Hd hc0
 replace HA:=Hd (HA.out.below hb)
 clear hb hc0
 dsimp only
 iterate 16 go_step
 refine wpl_storeE 0 0 0 0 0 0 0 none 0 0 HA.out.r rfl rfl rfl rfl ?_
 intro w6 q1 q2 q3 q4 q5
 simp only[Act.put,sA1,sB1,sC1]
 replace HA:=Hd (HA.out.set5 HN.out.1 HN.out.2.1 HN.out.2.2.1 HN.out.2.2.2 q1 q2 q4)
 clear q1 q2 q3 q4 q5
 have z6:=HA.out.c6
 have zf6:=HA.out.f6
 go_upto_region 13 with fail
 have ha:=HA.out.set6 HN.out.1 HN.out.2.1 HN.out.2.2.1 HN.out.2.2.2 code
 obtain⟨w7,hw7⟩:=Xq (World.setCell w6 ⟨g6,0,none⟩ (.int .i64 code))
 rw[← hw7]at ha ⊢
 replace HA:=Hd ha
 clear ha hw7 z6 zf6
 have z6:=HA.out.c6
 go_upto_region 14 with fail
 clear z6
 refine Plan.wp_region_plan (fun w'=>w'.cell? ⟨g6,0,none⟩=some (.int .i64 code)) (([0,1].map (·,true))++([2,3,4].map (·,false))) (by kernel_rfl) (by kernel_rfl) (by kernel_rfl) (HA.out.below (Below.refl _ _).drew).c6 ?_
 refine' Plan.plan_seg _ [0,1] ([2,3,4].map (·,false)) (by kernel_rfl) (by kernel_rfl) rfl (by exact(HA.out.below (Below.refl _ _).drew).c6) (fun wx hS=>?_) ?_
 rotate_left
 ·go_light
  iterate 2 (apply Plan.seg_pick;rfl;intro K hK;go_wp)
  exact Plan.seg_nil
 obtain⟨w10,hw10⟩:=Xq (World.drew w7)
 rw[← hw10]
 replace HA:=Hd (HA.out.below (show Below w7.heap.size w7 w10 by rw[hw10];exact(Below.refl _ _).drew))
 clear hw10
 refine Plan.plan_of_effect rfl (fun K hK=>?_)
 have z4:=HA.out.c4
 have zf4:=HA.out.f4
 go_wp2_with fail
 have ha:=HA.out.set4 HN.out.1 HN.out.2.1 HN.out.2.2.1 HN.out.2.2.2 (.slice none 0 0)
 obtain⟨w11,hw11⟩:=Xq (World.setCell w10 ⟨g4,0,none⟩ (.slice none 0 0))
 rw[← hw11]at ha ⊢
 replace HA:=Hd ha
 clear ha hw11 z4 zf4
 refine⟨HA.out.c6,?_⟩
 refine Plan.plan_of_effect rfl (fun K hK=>?_)
 refine wpl_storeE 0 0 0 0 0 0 0 none 0 0 HA.out.r rfl rfl rfl rfl ?_
 intro w12 q1 q2 q3 q4 q5
 simp only[Act.put,sA1,sB1,sC1]
 replace HA:=Hd (HA.out.set5 HN.out.1 HN.out.2.1 HN.out.2.2.1 HN.out.2.2.2 q1 q2 q4)
 clear q1 q2 q3 q4 q5
 go_wp2_with fail
 refine⟨HA.out.c6,?_⟩
 refine Plan.plan_of_effect rfl (fun K hK=>?_)
 have z6:=HA.out.c6
 have zf6:=HA.out.f6
 go_wp2_with fail
 have ha:=HA.out.set6 HN.out.1 HN.out.2.1 HN.out.2.2.1 HN.out.2.2.2 code
 obtain⟨w13,hw13⟩:=Xq (World.setCell w12 ⟨g6,0,none⟩ (.int .i64 code))
 rw[← hw13]at ha ⊢
 replace HA:=Hd ha
 clear ha hw13 z6 zf6
 refine⟨HA.out.c6,?_⟩
 refine Plan.plan_done ?_
 iterate 4 go_step
 refine leaves_cons (f:=83) (args:=#[.pointer (some ⟨g4,0,none⟩),.pointer (some ⟨g5,0,none⟩),.pointer (some ⟨g6,0,none⟩)]) (by simp) (by simp[go_sem]) ?_
 refine(idle43 _ _ _ _).mono ?_
 rintro e u' w'' ⟨rfl,rfl,rfl⟩
 refine⟨_,results_apply Tryz.results45 rfl rfl rfl HA.out,?_⟩
 exact .inr ⟨.inr HC0.out,rfl,HA.out.b⟩
theorem TP.below {w w':World} {B p k:Nat} (h:TP w B p k) (hB:B≤w.heap.size) (hb:Below w.heap.size w w'):TP w' B p k:=by
 obtain⟨h1,h2,ao,n,c,c0,c1,hf,h3,h4,h5⟩:=h
 refine⟨h1,Nat.lt_of_lt_of_le h2 hb.size,ao,n,c,(hb.cell h2).trans c0,(hb.cell h2).trans c1,(hb.frozen (p:=⟨p,1,none⟩) h2).trans hf,h3,h4,fun i hi=>?_⟩
 obtain⟨b,o,x,e,hbB,hc⟩:=h5 i hi
 exact⟨b,o,x,e,hbB,(hb.cell (Nat.lt_of_lt_of_le hbB hB)).trans hc⟩
theorem TP.turn {w w':World} {B p k g:Nat} (h:TP w B p k) (ht:Turn g w w') (hp:p≠g) (hB:B≤g):TP w' B p k:=by
 obtain⟨h1,h2,ao,n,c,c0,c1,hf,h3,h4,h5⟩:=h
 refine⟨h1,Nat.lt_of_lt_of_le h2 ht.s,ao,n,c,ht.get hp c0,ht.get hp c1,(World.frozen?_of_block (a:=⟨p,1,none⟩) (ht.o p h2 hp)).trans hf,h3,h4,fun i hi=>?_⟩
 obtain⟨b,o,x,e,hbB,hc⟩:=h5 i hi
 exact⟨b,o,x,e,hbB,ht.get (by omega) hc⟩
theorem Turn.grown {w w':World} {g:Nat} (h:w.grownBy w' (some g)) (hg:g<w.heap.size):Turn g w w':=
 ⟨h.size,fun b hb hn=>h.block b hb (by simpa using hn),fun n w0 hn hb=>hb.trans (only_below h hn (by omega))⟩
def TQ (w:World) (B p k j:Nat) (w':World):Prop:=(∃ k',k'≤k+j∧TP w' B p k')∧Turn p w w'
theorem Turn.into {w w1 w2:World} {p g:Nat} (h:Turn p w w1) (hg:w.heap.size≤g) (hp:p≤g) (k:Turn g w1 w2):Turn p w w2:=
 ⟨Nat.le_trans h.s k.s,fun b hb hn=>(k.o b (Nat.lt_of_lt_of_le hb h.s) (by omega)).trans (h.o b hb hn),fun n w0 hn hb=>k.b n w0 (by omega) (h.b n w0 hn hb)⟩
def RatPost (w:World) (B p k j:Nat) (P:Int→Int→Prop) (e:Ending) (w':World):Prop:=(∃ n d:Int,e=.returned (.agg #[.int .i64 n,.int .i64 d])∧P n d)∧TQ w B p k j w'
theorem speed_any (B p k:Nat) (w:World) (ht:TP w B p k) (hk:k<1000000) :
  Calls Tryz.prog 88 #[.pointer (some ⟨p,0,none⟩)] w (RatPost w B p k 1 SpeedOK):=by
 have HT:=Hd ht
 clear ht
 go_enter Tryz.func88,Tryz.ntmps88
 go_wp2_with fail
 obtain⟨w1,hw1⟩:=Xq ((w.alloc (.cells #[.int .i64 0,.int .i64 0] 38)).alloc (.cells #[.int .i64 1,.int .i64 1,.int .i64 1,.int .i64 1,.int .i64 1,.int .i64 1,.int .i64 0,.int .i64 1,.int .i64 (-1),.int .i64 1,.int .i64 1,.int .i64 2,.int .i64 2,.int .i64 1,.int .i64 800,.int .i64 1001,.int .i64 (-3),.int .i64 2] 38))
 rw[← hw1]
 have hb1:Below w.heap.size w w1:=by rw[hw1];go_grown
 obtain⟨g1,hg1⟩:=Xq (w.heap.size)
 obtain⟨g2,hg2⟩:=Xq (w.heap.size+1)
 have hr1:w1.heap[g2]?=some (.cells #[.int .i64 1,.int .i64 1,.int .i64 1,.int .i64 1,.int .i64 1,.int .i64 1,.int .i64 0,.int .i64 1,.int .i64 (-1),.int .i64 1,.int .i64 1,.int .i64 2,.int .i64 2,.int .i64 1,.int .i64 800,.int .i64 1001,.int .i64 (-3),.int .i64 2] 38 (0,0)):=by
  have h:=(MapKept.heap_alloc (w.alloc (.cells #[.int .i64 0,.int .i64 0] 38)) (.cells #[.int .i64 1,.int .i64 1,.int .i64 1,.int .i64 1,.int .i64 1,.int .i64 1,.int .i64 0,.int .i64 1,.int .i64 (-1),.int .i64 1,.int .i64 1,.int .i64 2,.int .i64 2,.int .i64 1,.int .i64 800,.int .i64 1001,.int .i64 (-3),.int .i64 2] 38)).1
  rw[show(w.alloc (.cells #[.int .i64 0,.int .i64 0] 38)).heap.size=w.heap.size+1 by simp]at h
  rw[hw1,hg2]
  exact h
 have hq1:w1.heap[g1]?=some (.cells #[.int .i64 0,.int .i64 0] 38 (0,0)):=by
  rw[hw1,hg1,Below.heap_alloc _ _ _ (by simp)]
  exact(MapKept.heap_alloc w _).1
 have hp:=HT.out.2.1
 have hT1:=HT.out.below (Nat.le_trans HT.out.1 (Nat.le_of_lt hp)) hb1
 have hl1:g1<w1.heap.size:=(Array.getElem?_eq_some_iff.1 hq1).1
 have hl2:g2<w1.heap.size:=(Array.getElem?_eq_some_iff.1 hr1).1
 rw[← hg2,← hg1]
 have n1:g1≠p:=by omega
 have n2:g2≠p:=by omega
 have n3:¬g1=g2:=by omega
 have HG1:=Hd (show w.heap.size≤g1 by omega)
 have HTU:=Hd (Turn.of (g:=p) (Nat.le_of_lt hp) hb1)
 clear hw1 hg1 hg2 hb1
 refine(next_any B p k 9 w1 hT1 hk (by omega) (by omega)).mono ?_
 rintro e w2 ⟨r,rfl,r0,r1,hT2,hgr⟩
 have hr:=(hgr.block g2 hl2 (by simpa using n2)).trans hr1
 have hq:=(hgr.block g1 hl1 (by simpa using n1)).trans hq1
 have y0:w2.cell? ⟨g2,0,none⟩=some (.int .i64 1):=by simp[World.cell?,hr]
 have y1:w2.cell? ⟨g2,1,none⟩=some (.int .i64 1):=by simp[World.cell?,hr]
 have y2:w2.cell? ⟨g2,2,none⟩=some (.int .i64 1):=by simp[World.cell?,hr]
 have y3:w2.cell? ⟨g2,3,none⟩=some (.int .i64 1):=by simp[World.cell?,hr]
 have y4:w2.cell? ⟨g2,4,none⟩=some (.int .i64 1):=by simp[World.cell?,hr]
 have y5:w2.cell? ⟨g2,5,none⟩=some (.int .i64 1):=by simp[World.cell?,hr]
 have y6:w2.cell? ⟨g2,6,none⟩=some (.int .i64 0):=by simp[World.cell?,hr]
 have y7:w2.cell? ⟨g2,7,none⟩=some (.int .i64 1):=by simp[World.cell?,hr]
 have y8:w2.cell? ⟨g2,8,none⟩=some (.int .i64 (-1)):=by simp[World.cell?,hr]
 have y9:w2.cell? ⟨g2,9,none⟩=some (.int .i64 1):=by simp[World.cell?,hr]
 have y10:w2.cell? ⟨g2,10,none⟩=some (.int .i64 1):=by simp[World.cell?,hr]
 have y11:w2.cell? ⟨g2,11,none⟩=some (.int .i64 2):=by simp[World.cell?,hr]
 have y12:w2.cell? ⟨g2,12,none⟩=some (.int .i64 2):=by simp[World.cell?,hr]
 have y13:w2.cell? ⟨g2,13,none⟩=some (.int .i64 1):=by simp[World.cell?,hr]
 have y14:w2.cell? ⟨g2,14,none⟩=some (.int .i64 800):=by simp[World.cell?,hr]
 have y15:w2.cell? ⟨g2,15,none⟩=some (.int .i64 1001):=by simp[World.cell?,hr]
 have y16:w2.cell? ⟨g2,16,none⟩=some (.int .i64 (-3)):=by simp[World.cell?,hr]
 have y17:w2.cell? ⟨g2,17,none⟩=some (.int .i64 2):=by simp[World.cell?,hr]
 have z0:w2.cell? ⟨g1,0,none⟩=some (.int .i64 0):=by simp[World.cell?,hq]
 have z1:w2.cell? ⟨g1,1,none⟩=some (.int .i64 0):=by simp[World.cell?,hq]
 have zf:∀ o,w2.frozen? ⟨g1,o,none⟩=false:=fun o=>by simp[World.frozen?,hq]
 have HT2:=Hd hT2
 have HTU2:=Hd (HTU.out.trans (Turn.grown hgr hT1.2.1))
 have HN:=Hd n1
 clear hT2 hT1 hr hq hr1 hq1 hgr hl1 hl2 hp n1
 obtain rfl |rfl |rfl |rfl |rfl |rfl |rfl |rfl |rfl:r=0∨r=1∨r=2∨r=3∨r=4∨r=5∨r=6∨r=7∨r=8:=by omega
 all_goals
  go_wp2_with fail
  refine bodyPost_ret (by simp[results,Tryz.results88,go_sem,z0,z1,asAddr];rfl) rfl ?_
  have hB:=HT.out.1
  have hp2:=HT.out.2.1
  have hg1:=HG1.out
  refine⟨⟨_,_,rfl,by decide,by decide,by decide,by decide,by decide⟩,⟨k+1,Nat.le_refl _,?_⟩,?_⟩
  ·exact(HT2.out.turn (Turn.cell g1 0 _ _) HN.out.symm (by omega)).turn (Turn.cell g1 1 _ _) HN.out.symm (by omega)
  exact(HTU2.out.into hg1 (by omega) (Turn.cell g1 0 _ _)).into hg1 (by omega) (Turn.cell g1 1 _ _)
def dens:Array Int:=#[1,1,1,2,3,1001]
def denTab:Array Value:=#[.int .i64 1,.int .i64 1,.int .i64 1,.int .i64 2,.int .i64 3,.int .i64 1001]
def Tab (w:World) (g:Nat):Prop:=w.heap[g]?=some (.cells denTab 2 (0,0))
theorem Tab.get {w:World} {g q:Nat} (h:Tab w g) (hq:q<6):w.cell? ⟨g,q,none⟩=some (.int .i64 (dens[q]!)):=by
 unfold Tab at h
 rcases(show q=0∨q=1∨q=2∨q=3∨q=4∨q=5 by omega) with rfl |rfl |rfl |rfl |rfl |rfl<;>simp[World.cell?,h,dens,denTab]
theorem dens_ok {q:Nat} (hq:q<6):1≤dens[q]!∧dens[q]!≤1001∧dens[q]!∣6006:=by
 rcases(show q=0∨q=1∨q=2∨q=3∨q=4∨q=5 by omega) with rfl |rfl |rfl |rfl |rfl |rfl<;>decide
structure PosOK (m n d:Int):Prop where
 d0:1≤d
 dv:d∣6006
 g:n.natAbs.gcd d.toNat=1
 n0:0≤n
 n1:n≤m
theorem pos_div {m n d g:Int} (n0:1≤n) (n1:n≤m) (d0:1≤d) (hd:d∣6006) (hg:g=((n.toNat.gcd d.toNat:Nat):Int)):PosOK m (n / g) (d / g)∧1≤g:=by
 obtain⟨N,rfl⟩:=Int.eq_ofNat_of_zero_le (show 0≤n by omega)
 obtain⟨D,rfl⟩:=Int.eq_ofNat_of_zero_le (show 0≤d by omega)
 simp only[Int.toNat_natCast]at hg
 have hN:0<N:=by omega
 have hG:0<N.gcd D:=Nat.gcd_pos_of_pos_left _ hN
 subst hg
 have e1:(N:Int) / ((N.gcd D:Nat):Int)=((N / N.gcd D:Nat):Int):=rfl
 have e2:(D:Int) / ((N.gcd D:Nat):Int)=((D / N.gcd D:Nat):Int):=rfl
 rw[e1,e2]
 have hdd:D / N.gcd D∣D:=Nat.div_dvd_of_dvd (Nat.gcd_dvd_right _ _)
 have hd6:D∣6006:=Int.ofNat_dvd.1 hd
 have h0:=Int.natCast_nonneg (N / N.gcd D)
 refine⟨⟨?_,?_,?_,h0,?_⟩,by omega⟩
 ·have:=Nat.div_pos (Nat.le_of_dvd (by omega) (Nat.gcd_dvd_right N D)) hG
  omega
 ·exact Int.ofNat_dvd.2 (Nat.dvd_trans hdd hd6)
 ·rw[Int.natAbs_natCast,Int.toNat_natCast]
  exact Nat.gcd_div_gcd_div_gcd_of_pos_left hN
 have:=Nat.div_le_self N (N.gcd D)
 have h2:((N / N.gcd D:Nat):Int)≤(N:Int):=Int.ofNat_le.2 this
 exact Int.le_trans h2 n1
theorem rat_any (B p k:Nat) (m:Int) (w:World) (ht:TP w B p k) (hk:k<900000) (hm:1≤m∧m≤1000) :
  Calls Tryz.prog 117 #[.pointer (some ⟨p,0,none⟩),.int .i64 m] w (RatPost w B p k 2 (PosOK m)):=by
 have HT:=Hd ht
 obtain⟨hm0,hm1⟩:=hm
 have hB:=ht.1
 have hp:=ht.2.1
 clear ht
 go_enter Tryz.func117,Tryz.ntmps117
 go_upto_region 1 with fail
 obtain⟨w1,hw1⟩:=Xq (w.alloc (.cells #[.int .i64 0,.int .i64 0] 38))
 rw[← hw1]
 obtain⟨g1,hg1⟩:=Xq (w.heap.size)
 have hb:Below w.heap.size w w1:=by rw[hw1];exact below_box _ _
 have HQ:=Hd (show w1.heap[g1]?=some (.cells #[.int .i64 0,.int .i64 0] 38 (0,0)) by rw[hw1,hg1];exact(MapKept.heap_alloc w _).1)
 have HU:=Hd (Turn.of (g:=p) (Nat.le_of_lt hp) hb)
 replace HT:=Hd (HT.out.below (by omega) hb)
 rw[← hg1]
 have HG1:=Hd (show w.heap.size≤g1∧g1≠p∧B≤g1 by omega)
 clear hw1 hg1 hb
 go_cut [5,6] from 9 (fun v5 v6 wx=>∃ n1 n2:Nat,v5=.int .i64 (n1:Int)∧v6=.int .i64 (dens[n2]!)∧(n1:Int)<m∧n2<6∧TP wx B p (k+1+1)∧Turn p w wx∧wx.heap[g1]?=some (.cells #[.int .i64 0,.int .i64 0] 38 (0,0)))
 case first J K' h1 h2=>
  refine Plan.wp_region_tree (fun _=>True) (.run ([0,1,4].map (·,true)) (.fork 2 (.fork 3 (.dyn (.run (([5].map (·,false))++([6,7,8,9].map (·,true))) .leaf)) 5 (.run (([8].map (·,true))++([3].map (·,false))) (.dyn (.run ([6,7,9].map (·,true)) .leaf)))) 3 (.dyn (.run (([2,5].map (·,false))++([6,7,8,9].map (·,true))) .leaf)))) (by kernel_rfl) (by kernel_rfl) (by kernel_rfl) trivial ?_
  obtain⟨y0,hy⟩:=Xq (w1.drew)
  rw[← hy]
  have hb:Below w1.heap.size w1 y0:=by rw[hy];exact(Below.refl _ _).drew
  replace HT:=Hd (HT.out.below (Nat.le_trans HT.out.1 (Nat.le_of_lt HT.out.2.1)) hb)
  replace HU:=Hd (HU.out.trans (Turn.of (g:=p) (Nat.le_of_lt (Nat.lt_of_lt_of_le hp HU.out.s)) hb))
  replace HQ:=Hd ((hb.block g1 (Array.getElem?_eq_some_iff.1 HQ.out).1).trans HQ.out)
  clear hy hb
  refine Plan.tree_run ?_
  refine' Plan.plan_seg _ [0,1,4] ([]) (by kernel_rfl) (by kernel_rfl) rfl (by exact trivial) (fun wx hS=>?_) ?_
  rotate_left
  ·clear hS
   go_light
   iterate 3 (apply Plan.seg_pick;rfl;intro K hK;go_wp)
   exact Plan.seg_nil
  refine Plan.plan_nil ?_
  refine Plan.tree_fork ?_ ?_
  ·refine Plan.op_of_list rfl (fun K hK=>?_)
   go_wp2_with fail
   refine(next_any B p k m _ HT.out (by omega) (by omega) (by omega)).mono ?_
   rintro e y1 ⟨r1,rfl,r10,r11,hT_,hg_⟩
   obtain⟨n1,rfl⟩:∃ n:Nat,r1=n:=⟨r1.toNat,by omega⟩
   have HN1:=Hd r11
   replace HU:=Hd (HU.out.trans (Turn.grown hg_ HT.out.2.1))
   replace HQ:=Hd ((hg_.block g1 (Array.getElem?_eq_some_iff.1 HQ.out).1 (by simpa using HG1.out.2.1)).trans HQ.out)
   replace HT:=Hd hT_
   clear hT_ hg_
   go_wp2_with fail
   refine⟨trivial,?_⟩
   refine Plan.tree_fork ?_ ?_
   ·refine Plan.op_of_list rfl (fun K hK=>?_)
    refine Great.wpList_buildSliceTo rfl 196 2 6 #[(0,.const (.int .i64 1)),(1,.const (.int .i64 1)),(2,.const (.int .i64 1)),(3,.const (.int .i64 2)),(4,.const (.int .i64 3)),(5,.const (.int .i64 1001))] rfl _ rfl (some 12) rfl Tryz.underlying196 denTab ?_ ?_
    ·kernel_rfl
    obtain⟨y2,hy⟩:=Xq (World.alloc y1 (.cells denTab 2))
    obtain⟨g2,hg2⟩:=Xq ((World.heap y1).size)
    have hb:Below (World.heap y1).size y1 y2:=by rw[hy];exact below_box _ _
    have HTAB:=Hd (show Tab y2 g2 by rw[hy,hg2];exact(MapKept.heap_alloc y1 _).1)
    have HG2:=Hd (show g2≠p by have:=HT.out.2.1;omega)
    rw[← hy,← hg2]
    replace HU:=Hd (HU.out.trans (Turn.of (g:=p) (Nat.le_of_lt HT.out.2.1) hb))
    replace HT:=Hd (HT.out.below (Nat.le_trans HT.out.1 (Nat.le_of_lt HT.out.2.1)) hb)
    replace HQ:=Hd ((hb.block g1 (Array.getElem?_eq_some_iff.1 HQ.out).1).trans HQ.out)
    clear hy hb hg2
    simp only[Act.put,sA1,sB1,sC1]
    go_wp2_with fail
    refine⟨trivial,?_⟩
    refine Plan.tree_dyn (fun w=>Tab w g2) (fun _ _=>trivial) HTAB.out ?_
    refine Plan.tree_run ?_
    refine Plan.plan_of_effect rfl (fun K hK=>?_)
    go_wp2_with fail
    refine(next_any B p (k+1) 6 _ HT.out (by omega) (by omega) (by omega)).mono ?_
    rintro e y3 ⟨r2,rfl,r20,r21,hT_,hg_⟩
    obtain⟨n2,rfl⟩:∃ n:Nat,r2=n:=⟨r2.toNat,by omega⟩
    have HN2:=Hd r21
    replace HU:=Hd (HU.out.trans (Turn.grown hg_ HT.out.2.1))
    replace HQ:=Hd ((hg_.block g1 (Array.getElem?_eq_some_iff.1 HQ.out).1 (by simpa using HG1.out.2.1)).trans HQ.out)
    replace HTAB:=Hd (show Tab y3 g2 from(hg_.block g2 (Array.getElem?_eq_some_iff.1 HTAB.out).1 (by simpa using HG2.out)).trans HTAB.out)
    replace HT:=Hd hT_
    clear hT_ hg_
    go_wp2_with fail
    refine⟨HTAB.out,?_⟩
    refine' Plan.plan_seg (S:=(fun w=>Tab w g2)) _ [6,7,8,9] ([]) (by kernel_rfl) (by kernel_rfl) rfl (by exact HTAB.out) (fun wx hS=>?_) ?_
    rotate_left
    ·have y0':=Tab.get hS (show n2<6 by have:=HN2.out;omega)
     have hq':(n2:Int)<6:=HN2.out
     clear hS
     go_light
     iterate 4 (apply Plan.seg_pick;rfl;intro K hK;go_wp)
     exact Plan.seg_nil
    refine Plan.plan_nil ?_
    refine Plan.tree_leaf ?_
    refine h2 _ _ (Met.intro (h1 _ _ ?_))
    (repeat apply Exists.intro)
    exact⟨⟨n1,n2,rfl,rfl,HN1.out,by have:=HN2.out;omega,HT.out,HU.out,HQ.out⟩,rfl⟩
   refine Plan.op_of_list rfl (fun K hK=>?_)
   go_wp2_with fail
   refine(next_any B p (k+1) 6 _ HT.out (by omega) (by omega) (by omega)).mono ?_
   rintro e y3 ⟨r2,rfl,r20,r21,hT_,hg_⟩
   obtain⟨n2,rfl⟩:∃ n:Nat,r2=n:=⟨r2.toNat,by omega⟩
   have HN2:=Hd r21
   replace HU:=Hd (HU.out.trans (Turn.grown hg_ HT.out.2.1))
   replace HQ:=Hd ((hg_.block g1 (Array.getElem?_eq_some_iff.1 HQ.out).1 (by simpa using HG1.out.2.1)).trans HQ.out)
   replace HT:=Hd hT_
   clear hT_ hg_
   go_wp2_with fail
   refine⟨trivial,?_⟩
   refine Plan.tree_run ?_
   refine' Plan.plan_seg _ [8] ([3].map (·,false)) (by kernel_rfl) (by kernel_rfl) rfl (by exact trivial) (fun wx hS=>?_) ?_
   rotate_left
   ·clear hS
    go_light
    iterate 1 (apply Plan.seg_pick;rfl;intro K hK;go_wp)
    exact Plan.seg_nil
   refine Plan.plan_of_effect rfl (fun K hK=>?_)
   refine Great.wpList_buildSliceTo rfl 196 2 6 #[(0,.const (.int .i64 1)),(1,.const (.int .i64 1)),(2,.const (.int .i64 1)),(3,.const (.int .i64 2)),(4,.const (.int .i64 3)),(5,.const (.int .i64 1001))] rfl _ rfl (some 12) rfl Tryz.underlying196 denTab ?_ ?_
   ·kernel_rfl
   obtain⟨y4,hy⟩:=Xq (World.alloc y3 (.cells denTab 2))
   obtain⟨g2,hg2⟩:=Xq ((World.heap y3).size)
   have hb:Below (World.heap y3).size y3 y4:=by rw[hy];exact below_box _ _
   have HTAB:=Hd (show Tab y4 g2 by rw[hy,hg2];exact(MapKept.heap_alloc y3 _).1)
   have HG2:=Hd (show g2≠p by have:=HT.out.2.1;omega)
   rw[← hy,← hg2]
   replace HU:=Hd (HU.out.trans (Turn.of (g:=p) (Nat.le_of_lt HT.out.2.1) hb))
   replace HT:=Hd (HT.out.below (Nat.le_trans HT.out.1 (Nat.le_of_lt HT.out.2.1)) hb)
   replace HQ:=Hd ((hb.block g1 (Array.getElem?_eq_some_iff.1 HQ.out).1).trans HQ.out)
   clear hy hb hg2
   simp only[Act.put,sA1,sB1,sC1]
   go_wp2_with fail
   refine⟨trivial,?_⟩
   refine Plan.plan_nil ?_
   refine Plan.tree_dyn (fun w=>Tab w g2) (fun _ _=>trivial) HTAB.out ?_
   refine Plan.tree_run ?_
   refine' Plan.plan_seg (S:=(fun w=>Tab w g2)) _ [6,7,9] ([]) (by kernel_rfl) (by kernel_rfl) rfl (by exact HTAB.out) (fun wx hS=>?_) ?_
   rotate_left
   ·have y0':=Tab.get hS (show n2<6 by have:=HN2.out;omega)
    have hq':(n2:Int)<6:=HN2.out
    clear hS
    go_light
    iterate 3 (apply Plan.seg_pick;rfl;intro K hK;go_wp)
    exact Plan.seg_nil
   refine Plan.plan_nil ?_
   refine Plan.tree_leaf ?_
   refine h2 _ _ (Met.intro (h1 _ _ ?_))
   (repeat apply Exists.intro)
   exact⟨⟨n1,n2,rfl,rfl,HN1.out,by have:=HN2.out;omega,HT.out,HU.out,HQ.out⟩,rfl⟩
  refine Plan.op_of_list rfl (fun K hK=>?_)
  refine Great.wpList_buildSliceTo rfl 196 2 6 #[(0,.const (.int .i64 1)),(1,.const (.int .i64 1)),(2,.const (.int .i64 1)),(3,.const (.int .i64 2)),(4,.const (.int .i64 3)),(5,.const (.int .i64 1001))] rfl _ rfl (some 12) rfl Tryz.underlying196 denTab ?_ ?_
  ·kernel_rfl
  obtain⟨y1,hy⟩:=Xq (World.alloc y0 (.cells denTab 2))
  obtain⟨g2,hg2⟩:=Xq ((World.heap y0).size)
  have hb:Below (World.heap y0).size y0 y1:=by rw[hy];exact below_box _ _
  have HTAB:=Hd (show Tab y1 g2 by rw[hy,hg2];exact(MapKept.heap_alloc y0 _).1)
  have HG2:=Hd (show g2≠p by have:=HT.out.2.1;omega)
  rw[← hy,← hg2]
  replace HU:=Hd (HU.out.trans (Turn.of (g:=p) (Nat.le_of_lt HT.out.2.1) hb))
  replace HT:=Hd (HT.out.below (Nat.le_trans HT.out.1 (Nat.le_of_lt HT.out.2.1)) hb)
  replace HQ:=Hd ((hb.block g1 (Array.getElem?_eq_some_iff.1 HQ.out).1).trans HQ.out)
  clear hy hb hg2
  simp only[Act.put,sA1,sB1,sC1]
  go_wp2_with fail
  refine⟨trivial,?_⟩
  refine Plan.tree_dyn (fun w=>Tab w g2) (fun _ _=>trivial) HTAB.out ?_
  refine Plan.tree_run ?_
  refine Plan.plan_of_effect rfl (fun K hK=>?_)
  go_wp2_with fail
  refine(next_any B p k m _ HT.out (by omega) (by omega) (by omega)).mono ?_
  rintro e y2 ⟨r1,rfl,r10,r11,hT_,hg_⟩
  obtain⟨n1,rfl⟩:∃ n:Nat,r1=n:=⟨r1.toNat,by omega⟩
  have HN1:=Hd r11
  replace HU:=Hd (HU.out.trans (Turn.grown hg_ HT.out.2.1))
  replace HQ:=Hd ((hg_.block g1 (Array.getElem?_eq_some_iff.1 HQ.out).1 (by simpa using HG1.out.2.1)).trans HQ.out)
  replace HTAB:=Hd (show Tab y2 g2 from(hg_.block g2 (Array.getElem?_eq_some_iff.1 HTAB.out).1 (by simpa using HG2.out)).trans HTAB.out)
  replace HT:=Hd hT_
  clear hT_ hg_
  go_wp2_with fail
  refine⟨HTAB.out,?_⟩
  refine Plan.plan_of_effect rfl (fun K hK=>?_)
  go_wp2_with fail
  refine(next_any B p (k+1) 6 _ HT.out (by omega) (by omega) (by omega)).mono ?_
  rintro e y3 ⟨r2,rfl,r20,r21,hT_,hg_⟩
  obtain⟨n2,rfl⟩:∃ n:Nat,r2=n:=⟨r2.toNat,by omega⟩
  have HN2:=Hd r21
  replace HU:=Hd (HU.out.trans (Turn.grown hg_ HT.out.2.1))
  replace HQ:=Hd ((hg_.block g1 (Array.getElem?_eq_some_iff.1 HQ.out).1 (by simpa using HG1.out.2.1)).trans HQ.out)
  replace HTAB:=Hd (show Tab y3 g2 from(hg_.block g2 (Array.getElem?_eq_some_iff.1 HTAB.out).1 (by simpa using HG2.out)).trans HTAB.out)
  replace HT:=Hd hT_
  clear hT_ hg_
  go_wp2_with fail
  refine⟨HTAB.out,?_⟩
  refine' Plan.plan_seg (S:=(fun w=>Tab w g2)) _ [6,7,8,9] ([]) (by kernel_rfl) (by kernel_rfl) rfl (by exact HTAB.out) (fun wx hS=>?_) ?_
  rotate_left
  ·have y0':=Tab.get hS (show n2<6 by have:=HN2.out;omega)
   have hq':(n2:Int)<6:=HN2.out
   clear hS
   go_light
   iterate 4 (apply Plan.seg_pick;rfl;intro K hK;go_wp)
   exact Plan.seg_nil
  refine Plan.plan_nil ?_
  refine Plan.tree_leaf ?_
  refine h2 _ _ (Met.intro (h1 _ _ ?_))
  (repeat apply Exists.intro)
  exact⟨⟨n1,n2,rfl,rfl,HN1.out,by have:=HN2.out;omega,HT.out,HU.out,HQ.out⟩,rfl⟩
 obtain⟨n1,n2,rfl,rfl,hn1,hn2,ht,hu,hq⟩:=hcut
 replace HT:=Hd ht
 replace HU:=Hd hu
 replace HQ:=Hd hq
 obtain⟨hd0,hd1,hd2⟩:=dens_ok hn2
 obtain⟨D,hD⟩:=Xq (dens[n2]!)
 rw[← hD]at hd0 hd1 hd2 ⊢
 have HD2:=Hd hd2
 clear ht hu hq hD hd2 hn2
 have HD0:=Hd hd0
 obtain⟨D,rfl⟩:∃ N:Nat,D=N:=⟨D.toNat,by omega⟩
 have hD1:D≤1001:=by omega
 have hn1':n1<1000:=by omega
 go_upto_region 4 with fail
 go_loopw [7,8] (fun v7 v8 wr=>∃ a x:Nat,v7=.int .i64 (a:Int)∧v8=.int .i64 (x:Int)∧a≤1001∧x≤1001∧Hid (a.gcd x=n1.gcd D)∧TP wr B p (k+1+1)∧Turn p w wr∧wr.heap[g1]?=some (.cells #[.int .i64 0,.int .i64 0] 38 (0,0))) (fun _ i _=>(intOf i).toNat)
 case atStart=>exact⟨n1,D,rfl,rfl,by omega,hD1,Hd rfl,HT.out,HU.out,HQ.out⟩
 case round=>
  clear HT HU HQ
  obtain⟨a,x,rfl,rfl,ha,hx,HGC,ht,hu,hq⟩:=hrel
  have HT:=Hd ht
  have HU:=Hd hu
  have HQ:=Hd hq
  clear ht hu hq
  by_cases hx0:x=0
  ·subst hx0
   have HGE:=Hd (show a=n1.gcd D by rw[← HGC.out,Nat.gcd_zero_right])
   have z0:wr.cell? ⟨g1,0,none⟩=some (.int .i64 0):=by simp[World.cell?,HQ.out]
   have z1:wr.cell? ⟨g1,1,none⟩=some (.int .i64 0):=by simp[World.cell?,HQ.out]
   have zf:∀ o,wr.frozen? ⟨g1,o,none⟩=false:=fun o=>by simp[World.frozen?,HQ.out]
   by_cases hn0:n1=0
   ·subst hn0
    clear HGE HGC
    go_wp2_with fail
    refine bodyPost_ret (by simp[results,Tryz.results117,go_sem,z0,z1,asAddr];rfl) rfl ?_
    refine⟨⟨0,1,rfl,by decide,by decide,by decide,by decide,by omega⟩,⟨k+2,Nat.le_refl _,?_⟩,?_⟩
    ·exact(HT.out.turn (Turn.cell g1 0 _ _) HG1.out.2.1.symm HG1.out.2.2).turn (Turn.cell g1 1 _ _) HG1.out.2.1.symm HG1.out.2.2
    exact(HU.out.into HG1.out.1 (by have:=HG1.out.1;omega) (Turn.cell g1 0 _ _)).into HG1.out.1 (by have:=HG1.out.1;omega) (Turn.cell g1 1 _ _)
   obtain⟨hpo,hg0⟩:=pos_div (m:=m) (n:=(n1:Int)) (d:=(D:Int)) (g:=(a:Int)) (by omega) (by omega) HD0.out HD2.out (by rw[HGE.out];rfl)
   have HPO:=Hd hpo
   have hnb:((n1:Int)==0)=false:=by simp;omega
   have hab:¬(a:Int)=0:=by omega
   clear hpo HGE HGC z0 z1 zf
   have hb0:(1:Int)≤(a:Int):=hg0
   have q0:0≤(n1:Int) / (a:Int):=HPO.out.n0
   have q1:(n1:Int) / (a:Int)≤1000:=by have:=HPO.out.n1;omega
   have q2:1≤(D:Int) / (a:Int):=HPO.out.d0
   have q3:(D:Int) / (a:Int)≤6006:=Int.le_of_dvd (by decide) HPO.out.dv
   go_upto_region 8 with fail
   refine Plan.wp_region_plan (fun w'=>True) (([0,1,2,3,4,5,6].map (·,true))++([7].map (·,false))) (by kernel_rfl) (by kernel_rfl) (by kernel_rfl) trivial ?_
   refine' Plan.plan_seg _ [0,1,2,3,4,5,6] ([7].map (·,false)) (by kernel_rfl) (by kernel_rfl) rfl (by exact trivial) (fun wx hS=>?_) ?_
   rotate_left
   ·clear hS
    go_light
    iterate 7 (apply Plan.seg_pick;rfl;intro K hK;go_wp)
    exact Plan.seg_nil
   obtain⟨w9,hw9⟩:=Xq (wr.drew)
   rw[← hw9]
   have hb:Below wr.heap.size wr w9:=by rw[hw9];exact(Below.refl _ _).drew
   replace HT:=Hd (HT.out.below (Nat.le_trans HT.out.1 (Nat.le_of_lt HT.out.2.1)) hb)
   have HU9:=Hd (HU.out.trans (Turn.of (g:=p) (Nat.le_of_lt (Nat.lt_of_lt_of_le hp HU.out.s)) hb))
   have hq9:=(hb.block g1 (Array.getElem?_eq_some_iff.1 HQ.out).1).trans HQ.out
   have z0:w9.cell? ⟨g1,0,none⟩=some (.int .i64 0):=by simp[World.cell?,hq9]
   have z1:w9.cell? ⟨g1,1,none⟩=some (.int .i64 0):=by simp[World.cell?,hq9]
   have zf:∀ o,w9.frozen? ⟨g1,o,none⟩=false:=fun o=>by simp[World.frozen?,hq9]
   clear hb hw9 hq9
   refine Plan.plan_of_effect rfl (fun K hK=>?_)
   go_wp2_with fail
   refine⟨trivial,?_⟩
   refine Plan.plan_done ?_
   iterate 3 go_step
   refine bodyPost_ret (by simp[results,Tryz.results117,go_sem,z0,z1,asAddr];rfl) rfl ?_
   refine⟨⟨_,_,rfl,HPO.out⟩,⟨k+2,Nat.le_refl _,?_⟩,?_⟩
   ·exact(HT.out.turn (Turn.cell g1 0 _ _) HG1.out.2.1.symm HG1.out.2.2).turn (Turn.cell g1 1 _ _) HG1.out.2.1.symm HG1.out.2.2
   exact(HU9.out.into HG1.out.1 (by have:=HG1.out.1;omega) (Turn.cell g1 0 _ _)).into HG1.out.1 (by have:=HG1.out.1;omega) (Turn.cell g1 1 _ _)
  have hxb:¬(x:Int)=0:=by omega
  have hxb2:((x:Int)==0)=false:=by simpa using hxb
  have hmod:((a:Int)).tmod (x:Int)=((a % x:Nat):Int):=(Int.ofNat_tmod a x).symm
  have hlt:a % x<x:=Nat.mod_lt _ (by omega)
  have HMO:=Hd hmod
  clear hmod
  go_upto_region 5 with fail
  refine Plan.wp_region_plan (fun w'=>True) ([0,1,2,3,4,5].map (·,true)) (by kernel_rfl) (by kernel_rfl) (by kernel_rfl) trivial ?_
  refine' Plan.plan_seg _ [0,1,2,3,4,5] [] (by kernel_rfl) (by kernel_rfl) rfl (by exact trivial) (fun wx hS=>?_) ?_
  rotate_left
  ·clear hS
   go_light
   iterate 6 (apply Plan.seg_pick;rfl;intro K hK;go_wp)
   exact Plan.seg_nil
  refine Plan.plan_done ?_
  obtain⟨w9,hw9⟩:=Xq (wr.drew)
  rw[← hw9]
  have hb:Below wr.heap.size wr w9:=by rw[hw9];exact(Below.refl _ _).drew
  replace HT:=Hd (HT.out.below (Nat.le_trans HT.out.1 (Nat.le_of_lt HT.out.2.1)) hb)
  have HU9:=Hd (HU.out.trans (Turn.of (g:=p) (Nat.le_of_lt (Nat.lt_of_lt_of_le hp HU.out.s)) hb))
  replace HQ:=Hd ((hb.block g1 (Array.getElem?_eq_some_iff.1 HQ.out).1).trans HQ.out)
  clear hb hw9
  go_wp2_with fail
  go_roundw
  case rel=>exact⟨x,a % x,rfl,by rw[← Int.natCast_emod],hx,by omega,Hd (by rw[← HGC.out,Nat.gcd_comm x,← Nat.gcd_rec,Nat.gcd_comm]),HT.out,HU9.out,HQ.out⟩
  case measure=>
   rw[← Int.natCast_emod]
   show((a % x:Nat):Int).toNat<((x:Nat):Int).toNat
   omega
def TapeS (s:Src):Prop:=s=black∨(Lat s∧(s.kind=1∨s.kind=2)∧okName s.name∧-18018≤svel s∧svel s≤18018∧0≤spos s∧spos s≤240240∧s.name.size≠1)
structure SVar (w:World) (g:Nat) (s:Src):Prop where
 c:w.rangeAt g 0 (srcC s)
 f:∀ o,w.frozen? ⟨g,o,none⟩=false
theorem SVar.box (w:World) (s:Src) (t:TypeId):SVar (w.alloc (.cells (srcC s).toArray t)) w.heap.size s:=by
 refine⟨fun j v hj=>?_,fun o=>by simp[go_sem]⟩
 simp[go_sem,hj]
theorem SVar.lt {w:World} {g:Nat} {s:Src} (h:SVar w g s):g<w.heap.size:=block_lt_of_cell (h.c 0 _ rfl)
theorem SVar.there {w:World} {g:Nat} {s:Src} (h:SVar w g s):w.there g 0 7:=fun j hj=>⟨by
 have hj':j<(srcC s).length:=hj
 rw[h.c j _ (List.getElem?_eq_getElem hj')];rfl,h.f _⟩
theorem SVar.put {w:World} {g:Nat} {s:Src} (h:SVar w g s) (t:Src):SVar (w.setCells g 0 (srcC t)) g t:=
 ⟨fun j v hj=>World.rangeAt_setCells_same w g 0 (srcC t) h.there j v hj,fun o=>(World.frozen?_setCells g _ _ w _).trans (h.f o)⟩
theorem SVar.turn {w w':World} {g g2:Nat} {s:Src} (h:SVar w g s) (ht:Turn g2 w w') (hn:g≠g2):SVar w' g s:=
 ⟨fun j v hj=>ht.get hn (h.c j v hj),fun o=>(World.frozen?_of_block (a:=⟨g,o,none⟩) (ht.o g h.lt hn)).trans (h.f o)⟩
theorem SVar.at0 {w:World} {g:Nat} {s:Src} (h:SVar w g s):w.cell? ⟨g,0,none⟩=some (.int .i64 s.kind)∧w.cell? ⟨g,1,none⟩=some (.string s.name)∧w.cell? ⟨g,2,none⟩=some (.int .i64 s.an)∧w.cell? ⟨g,3,none⟩=some (.int .i64 s.ad)∧w.cell? ⟨g,4,none⟩=some (.int .i64 s.sn)∧w.cell? ⟨g,5,none⟩=some (.int .i64 s.sd)∧w.cell? ⟨g,6,none⟩=some (.bool s.smooth):=
 ⟨h.c 0 _ rfl,h.c 1 _ rfl,h.c 2 _ rfl,h.c 3 _ rfl,h.c 4 _ rfl,h.c 5 _ rfl,h.c 6 _ rfl⟩
theorem SVar.of {w:World} {g:Nat} {s:Src} (h0:w.cell? ⟨g,0,none⟩=some (.int .i64 s.kind)) (h1:w.cell? ⟨g,1,none⟩=some (.string s.name)) (h2:w.cell? ⟨g,2,none⟩=some (.int .i64 s.an)) (h3:w.cell? ⟨g,3,none⟩=some (.int .i64 s.ad)) (h4:w.cell? ⟨g,4,none⟩=some (.int .i64 s.sn)) (h5:w.cell? ⟨g,5,none⟩=some (.int .i64 s.sd)) (h6:w.cell? ⟨g,6,none⟩=some (.bool s.smooth)) (hf:∀ o,w.frozen? ⟨g,o,none⟩=false):SVar w g s:=by
 refine⟨fun j v hj=>?_,hf⟩
 have hl:j<7:=(List.getElem?_eq_some_iff.1 hj).1
 rcases(show j=0∨j=1∨j=2∨j=3∨j=4∨j=5∨j=6 by omega) with rfl |rfl |rfl |rfl |rfl |rfl |rfl
 all_goals simp only[srcC,List.getElem?_cons_zero,List.getElem?_cons_succ,Option.some.injEq]at hj;subst hj
 ·exact h0
 ·exact h1
 ·exact h2
 ·exact h3
 ·exact h4
 ·exact h5
 exact h6
theorem SVar.setName {w:World} {g:Nat} {s:Src} (h:SVar w g s) (nm:ByteArray):SVar (w.setCell ⟨g,1,none⟩ (.string nm)) g { s with name:=nm }:=by
 obtain⟨x0,x1,x2,x3,x4,x5,x6⟩:=h.at0
 refine SVar.of ?_ ?_ ?_ ?_ ?_ ?_ ?_ (fun o=>by rw[World.frozen?_setCell];exact h.f o)<;>simp[go_sem,x0,x1,x2,x3,x4,x5,x6]
theorem SVar.setKind {w:World} {g:Nat} {s:Src} (h:SVar w g s) (k:Int):SVar (w.setCell ⟨g,0,none⟩ (.int .i64 k)) g { s with kind:=k }:=by
 obtain⟨x0,x1,x2,x3,x4,x5,x6⟩:=h.at0
 refine SVar.of ?_ ?_ ?_ ?_ ?_ ?_ ?_ (fun o=>by rw[World.frozen?_setCell];exact h.f o)<;>simp[go_sem,x0,x1,x2,x3,x4,x5,x6]
theorem results_src {fn:Func} {tmps:Array Value} {w:World} {t:Tmp} {g:Nat} {s:Src} (hr:fn.results=#[.cell t 46]) (ht:tmps.getD t undef=.pointer (some ⟨g,0,none⟩)) (hc:SVar w g s):(results fn tmps).run Tryz.prog w=.ok (srcV s) w:=by
 have h:=run_loadVar_mid (P:=Tryz.prog) w g 0 46 (srcC s) _ hc.c Tryz.underlying46 rfl (by kernel_rfl)
 obtain⟨C,hC⟩:=Xq ((srcC s).toArray)
 unfold srcV
 rw[← hC]at h ⊢
 unfold results
 rw[hr]
 have ht2:tmps[t]?.getD undef=.pointer (some ⟨g,0,none⟩):=by rw[← Array.getD_eq_getD_getElem?];exact ht
 simp[ht2,asAddr,h]
theorem tape_src0 {nm:ByteArray} {k:Int} {n d sn sd:Int} {sm:Bool} (hk:k=1∨k=2) (hn:okName nm) (hp:PosOK 40 n d) (hs:SpeedOK sn sd):Lat (⟨k,nm,n,d,sn,sd,sm⟩:Src)∧(k=1∨k=2)∧okName nm∧-18018≤svel (⟨k,nm,n,d,sn,sd,sm⟩:Src)∧svel (⟨k,nm,n,d,sn,sd,sm⟩:Src)≤18018∧0≤spos (⟨k,nm,n,d,sn,sd,sm⟩:Src)∧spos (⟨k,nm,n,d,sn,sd,sm⟩:Src)≤240240:=by
 have hq:1≤6006 / d∧6006 / d≤6006:=by
  have h3:=Int.ediv_mul_cancel hp.dv
  have hd:=hp.d0
  refine⟨?_,Int.ediv_le_self _ (by decide)⟩
  rcases Int.lt_or_le 0 (6006 / d) with h |h
  ·omega
  have:=Int.mul_nonneg (show 0≤-(6006 / d) by omega) (show 0≤d by omega)
  rw[Int.neg_mul]at this
  omega
 refine⟨⟨⟨by rcases hk with h |h<;>(show k≠0;omega),hp.d0,hp.g,hs.d0,hs.g⟩,hp.dv,hs.d⟩,hk,hn,hs.v0,hs.v1,?_,?_⟩
 ·exact Int.mul_nonneg hp.n0 (show 0≤6006 / d by omega)
 show n*(6006 / d)≤240240
 have h1:=Int.mul_le_mul_of_nonneg_right hp.n1 (show 0≤6006 / d by omega)
 have h2:=Int.mul_le_mul_of_nonneg_left hq.2 (show(0:Int)≤40 by decide)
 omega
theorem tape_src {nm:ByteArray} {k:Int} {n d sn sd:Int} {sm:Bool} (hk:k=1∨k=2) (hn:okName nm) (hp:PosOK 40 n d) (hs:SpeedOK sn sd) (hz:nm.size≠1):TapeS ⟨k,nm,n,d,sn,sd,sm⟩:=by
 obtain⟨h1,h2,h3,h4,h5,h6,h7⟩:=tape_src0 (sm:=sm) hk hn hp hs
 exact .inr ⟨h1,h2,h3,h4,h5,h6,h7,hz⟩
def SrcPost (w:World) (B p k j:Nat) (e:Ending) (w':World):Prop:=(∃ s,e=.returned (srcV s)∧TapeS s)∧TQ w B p k j w'
theorem TQ.of {w w':World} {B p k j k':Nat} (hk:k'≤k+j) (ht:TP w' B p k') (hu:Turn p w w'):TQ w B p k j w':=⟨⟨k',hk,ht⟩,hu⟩
end Go.Proofs.YtfoohocgdcgbcaaGreat
