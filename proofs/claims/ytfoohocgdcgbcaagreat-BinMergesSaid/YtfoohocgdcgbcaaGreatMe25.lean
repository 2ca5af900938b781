/- Texts of this claim joined: ZA ZB QA QD IC JW RA AP. -/
import Derived.ProofKit
import Derived.OpenShut
import Derived.Carry
import Derived.ChangeSlices
import Derived.ChangeSame
import Derived.Deep.Slices
import Derived.Test.YtfoohocgdcgbcaaGreatMe24
import Derived.Test.YtfoohocgdcgbcaaGreatSq
set_option linter.unusedVariables false
set_option linter.unusedSimpArgs false
set_option maxRecDepth 100000
set_option maxHeartbeats 40000000
namespace Go.Proofs.YtfoohocgdcgbcaaGreat
open Go.RowKit
structure EV (w wc:World) (B p kc g4 g5:Nat) (k a m c d sn sd:Int) (V:Value):Prop where
 t:TP wc B p kc
 u:Turn p w wc
 e:ED wc g5 k a m c d sn sd V
 z:ED wc g4 0 0 0 0 0 0 0 (.slice none 0 0)
 p:p<w.heap.size
 q4:w.heap.size≤g4
 q5:w.heap.size≤g5
 n:g4≠g5
theorem EV.turn {w wc wd:World} {B p kc kd g4 g5:Nat} {k a m c d sn sd:Int} {V:Value} (h:EV w wc B p kc g4 g5 k a m c d sn sd V) (ht:Turn p wc wd) (hT:TP wd B p kd):EV w wd B p kd g4 g5 k a m c d sn sd V:=
 ⟨hT,h.u.trans ht,ht.ed (by have:=h.p;have:=h.q5;omega) h.e,ht.ed (by have:=h.p;have:=h.q4;omega) h.z,h.p,h.q4,h.q5,h.n⟩
theorem EV.low {w wc wd:World} {B p kc g4 g5 n:Nat} {k a m c d sn sd:Int} {V:Value} (h:EV w wc B p kc g4 g5 k a m c d sn sd V) (hb:Below n wc wd) (h4:g4<n) (h5:g5<n):EV w wd B p kc g4 g5 k a m c d sn sd V:=by
 have hB:=h.t.1
 have hp:=h.p
 have h4':=h.q4
 refine⟨h.t.low (n:=n) (by omega) (by omega) hb,⟨Nat.le_trans h.u.s hb.size,fun b hb' hne=>(hb.block b (by omega)).trans (h.u.o b hb' hne),fun q w0 hq hb0=>?_⟩,h.e.lim hb h5,h.z.lim hb h4,h.p,h.q4,h.q5,h.n⟩
 exact(h.u.b q w0 hq hb0).trans (hb.mono (by omega))
theorem EV.set {w wc wd:World} {B p kc g4 g5:Nat} {k a m c d sn sd k' a' m' c' d' sn' sd':Int} {V V':Value} (h:EV w wc B p kc g4 g5 k a m c d sn sd V) (ht:Turn g5 wc wd) (he:ED wd g5 k' a' m' c' d' sn' sd' V'):EV w wd B p kc g4 g5 k' a' m' c' d' sn' sd' V':=by
 have hp:=h.p
 have h5:=h.q5
 have hB:=h.t.1
 exact⟨h.t.turn ht (by omega) (by omega),h.u.into h5 (by omega) ht,he,ht.ed h.n h.z,h.p,h.q4,h.q5,h.n⟩
theorem ED.set3 {w:World} {b:Nat} {k p n c d sn sd:Int} {v:Value} (h:ED w b k p n c d sn sd v) (x:Int):ED (w.setCell ⟨b,3,none⟩ (.int .i64 x)) b k p n x d sn sd v:=by
 obtain⟨x0,x1,x2,x3,x4,x5,x6,x7,f⟩:=h
 exact⟨by simp[go_sem,x0],by simp[go_sem,x1],by simp[go_sem,x2],by simp[go_sem,x3],by simp[go_sem,x4],by simp[go_sem,x5],by simp[go_sem,x6],by simp[go_sem,x7],fun o=>(World.frozen?_setCell ..).trans (f o)⟩
theorem ED.set4 {w:World} {b:Nat} {k p n c d sn sd:Int} {v:Value} (h:ED w b k p n c d sn sd v) (x:Int):ED (w.setCell ⟨b,4,none⟩ (.int .i64 x)) b k p n c x sn sd v:=by
 obtain⟨x0,x1,x2,x3,x4,x5,x6,x7,f⟩:=h
 exact⟨by simp[go_sem,x0],by simp[go_sem,x1],by simp[go_sem,x2],by simp[go_sem,x3],by simp[go_sem,x4],by simp[go_sem,x5],by simp[go_sem,x6],by simp[go_sem,x7],fun o=>(World.frozen?_setCell ..).trans (f o)⟩
theorem ED.set56 {w:World} {b:Nat} {k p n c d sn sd:Int} {v:Value} (h:ED w b k p n c d sn sd v) (x y:Int):ED ((w.setCell ⟨b,5,none⟩ (.int .i64 x)).setCell ⟨b,6,none⟩ (.int .i64 y)) b k p n c d x y v:=by
 obtain⟨x0,x1,x2,x3,x4,x5,x6,x7,f⟩:=h
 exact⟨by simp[go_sem,x0],by simp[go_sem,x1],by simp[go_sem,x2],by simp[go_sem,x3],by simp[go_sem,x4],by simp[go_sem,x5],by simp[go_sem,x6],by simp[go_sem,x7],fun o=>((World.frozen?_setCell ..).trans (World.frozen?_setCell ..)).trans (f o)⟩
theorem results_ed1 {fn:Func} {tmps:Array Value} {w:World} {t:Tmp} {b:Nat} {k p n c d sn sd:Int} {v:Value} (hr:fn.results=#[.cell t 40]) (ht:tmps.getD t undef=.pointer (some ⟨b,0,none⟩))
  (hc:ED w b k p n c d sn sd v) (hv:(∃ ao m cp,v=.slice ao m cp)):(results fn tmps).run Tryz.prog w=.ok (edV k p n c d sn sd v) w:=by
 obtain⟨ao,m,cp,rfl⟩:=hv
 have h:=run_loadVar_mid (P:=Tryz.prog) w b 0 40 (edC k p n c d sn sd (.slice ao m cp)).toList _ hc.range Tryz.underlying40 rfl (by kernel_rfl)
 obtain⟨C,hC⟩:=Xq ((edC k p n c d sn sd (.slice ao m cp)).toList.toArray)
 rw[← hC]at h
 unfold results
 rw[hr]
 have ht2:tmps[t]?.getD undef=.pointer (some ⟨b,0,none⟩):=by rw[← Array.getD_eq_getD_getElem?];exact ht
 simp[ht2,asAddr,h]
 rw[hC]
 rfl
inductive TE (n:Nat):Trk.Ed→Prop where
 |ins (k a:Int) (cl:List Trk.Clip) (hk:k=1∨k=3) (a0:0≤a) (a1:a<60) (h:ClipsOK cl 7):TE n ⟨k,a,0,0,0,0,0,cl⟩
 |rem (k a m:Int) (hk:k=2∨k=4) (a0:0≤a) (a1:a<60) (m0:1≤m) (m1:m≤20):TE n ⟨k,a,m,0,0,0,0,[]⟩
 |clip (k d:Int) (c:Nat) (hk:5≤k∧k≤9) (hc:c≤n) (d0:d≠0) (d1:-5≤d∧d≤6):TE n ⟨k,0,0,(c:Int),d,0,0,[]⟩
 |speed (sn sd:Int) (c:Nat) (hc:c≤n) (h:Trk.SpeedOK sn sd):TE n ⟨10,0,0,(c:Int),0,sn,sd,[]⟩
theorem Turn.ofStore {g:Nat} {w w':World} (h2:∀ b,b≠g→w'.heap[b]?=w.heap[b]?) (h3:w'.heap.size=w.heap.size) (h4:∀ n w0,n≤g→Below n w0 w→Below n w0 w'):Turn g w w':=
 ⟨Nat.le_of_eq h3.symm,fun b _ hn=>h2 b hn,h4⟩
theorem EV.fin {w wc wd:World} {B p kc g4 g5:Nat} {k a m c d sn sd:Int} {V:Value} (h:EV w wc B p kc g4 g5 k a m c d sn sd V) (ht:Turn g4 wc wd):TP wd B p kc∧Turn p w wd:=by
 have hp:=h.p
 have h4:=h.q4
 have hB:=h.t.1
 exact⟨h.t.turn ht (by omega) (by omega),h.u.into h4 (by omega) ht⟩
def TEPost (w:World) (B p k j n:Nat) (e:Ending) (w':World):Prop:=(∃ ed ao l cp,e=.returned (EdV ed (.slice ao l cp))∧TE n ed∧OT w' w.heap.size (.slice ao l cp) ed.ins)∧TQ w B p k j w'
theorem tedit_any (B p k n:Nat) (w:World) (ht:TP w B p k) (hk:k<400000) (hn:n≤1000) :
  Calls Tryz.prog 46 #[.pointer (some ⟨p,0,none⟩),.int .i64 (n:Int)] w (TEPost w B p k 200 n):=by
 have hp:=ht.2.1
 have hB:=ht.1
 have HTP:=Hd ht
 clear ht
 go_enter Tryz.func46,Tryz.ntmps46
 go_upto_region 1 with fail
 obtain⟨w1,hw1⟩:=Xq (w.alloc (.cells #[.int .i64 0,.int .i64 0,.int .i64 0,.int .i64 0,.int .i64 0,.int .i64 0,.int .i64 0,.slice none 0 0] 40))
 rw[← hw1]
 have HZ:=Hd (show ED w1 w.heap.size 0 0 0 0 0 0 0 (.slice none 0 0) by rw[hw1];exact ED.box w 0 0 0 0 0 0 0 (.slice none 0 0) rfl 40)
 have hb:Below w.heap.size w w1:=by rw[hw1];exact below_box _ _
 have HT:=Hd (HTP.out.below (by omega) hb)
 have HU:=Hd (Turn.of (g:=p) (Nat.le_of_lt hp) hb)
 obtain⟨g4,hg4⟩:=Xq (w.heap.size)
 rw[← hg4]at HZ ⊢
 have HG4:=Hd hg4
 clear hw1 hg4 hb
 go_wp2_with fail
 refine(next_any B p k 10 _ HT.out (by omega) (by omega) (by omega)).mono ?_
 rintro e w2 ⟨r,rfl,r0,r1,hT_,hg_⟩
 have ht:=Turn.grown hg_ HT.out.2.1
 replace HU:=Hd (HU.out.trans ht)
 replace HZ:=Hd (ht.ed (show g4≠p by have:=HG4.out;omega) HZ.out)
 replace HT:=Hd hT_
 clear hT_ hg_ ht
 try dsimp only
 iterate 10 go_step
 have hv:ED (w2.alloc (.cells (edC 0 0 0 0 0 0 0 (.slice none 0 0)) 40)) w2.heap.size 0 0 0 0 0 0 0 (.slice none 0 0):=ED.box w2 0 0 0 0 0 0 0 (.slice none 0 0) rfl 40
 have hb0:Below w2.heap.size w2 (w2.alloc (.cells (edC 0 0 0 0 0 0 0 (.slice none 0 0)) 40)):=below_box _ _
 refine wpl_storeE (1+r) 0 0 0 0 0 0 none 0 0 hv rfl rfl rfl rfl ?_
 intro w3 q1 q2 q3 q4 q5
 have hb:Below w2.heap.size w2 w3:=q4 _ _ (Nat.le_refl _) hb0
 have hp2:p<w2.heap.size:=HT.out.2.1
 have hEV:EV w w3 B p (k+1) g4 w2.heap.size (1+r) 0 0 0 0 0 0 (.slice none 0 0):=by
  have h4:=HZ.out.lt
  have h5:=HU.out.s
  have h6:=HG4.out
  exact⟨HT.out.low (n:=w2.heap.size) (by omega) hp2 hb,HU.out.trans (Turn.of (g:=p) (by omega) hb),q1,HZ.out.below hb,hp,by omega,by omega,by omega⟩
 have H:=Hd hEV
 have HS0:=Hd (show w.heap.size≤w3.heap.size from hEV.u.s)
 obtain⟨g5,hg5⟩:=Xq (w2.heap.size)
 rw[← hg5]at H ⊢
 clear hg5 q1 q2 q3 q4 q5 hb0 hb hv hp2 hEV HT HU HZ HTP HG4
 simp only[Act.put,sA1,sB1,sC1]
 obtain⟨K,hK⟩:=Xq (1+r)
 rw[← hK]at H ⊢
 have K0:1≤K:=by omega
 have K1:K≤10:=by omega
 clear hK r0 r1
 have e0:=H.out.e.k0
 rcases(show K=1∨K=2∨K=3∨K=4∨K=5∨K=6∨K=7∨K=8∨K=9∨K=10 by omega) with rfl |rfl |rfl |rfl |rfl |rfl |rfl |rfl |rfl |rfl
 ·clear K0 K1
  go_wp2_with fail
  refine(next_any B p (k+1) 60 _ H.out.t (by omega) (by omega) (by omega)).mono ?_
  rintro e wn ⟨a,rfl,a0,a1,hT_,hg_⟩
  have ht:=Turn.grown hg_ H.out.t.2.1
  replace H:=Hd (H.out.turn ht hT_)
  clear hT_ hg_ ht
  have y1:=H.out.e.k1
  have f1:=H.out.e.fz 1
  go_upto_region 9 with fail
  obtain⟨wq,hw⟩:=Xq (wn.setCell ⟨g5,1,none⟩ (.int .i64 a))
  rw[← hw]
  have ht:Turn g5 wn wq:=by rw[hw];exact(Turn.refl _ _).trans (Turn.cell g5 1 (.int .i64 a) _)
  replace H:=Hd (H.out.set ht (by rw[hw];exact H.out.e.set1 a))
  clear hw ht
  clear y1 f1
  have HL4:=Hd H.out.z.lt
  have HL5:=Hd H.out.e.lt
  have HPW:=Hd H.out.t.2.1
  have HSQ:=Hd H.out.u.s
  clear e0
  go_wp2_with fail
  refine(track_any B p (k+1+1) 3 wq H.out.t (by omega) (by omega)).mono ?_
  rintro e v2 ⟨⟨vl,l,rfl,ho,hs,hl⟩,⟨k2,hk2,hT_⟩,ht⟩
  have HL:=Hd ho
  have HS:=Hd hs
  have HLL:=Hd hl
  have HS1:=Hd (show wq.heap.size≤v2.heap.size from ht.s)
  replace H:=Hd (H.out.turn ht hT_)
  have HK2:=Hd hk2
  clear ho hs hl hT_ ht hk2
  go_wp2_with fail
  refine(clip_any B p k2 _ H.out.t (by have:=HK2.out;omega)).mono ?_
  rintro e v3 ⟨⟨z,rfl,hz⟩,⟨k3,hk3,hT_⟩,ht⟩
  replace H:=Hd (H.out.turn ht hT_)
  replace HL:=Hd (HL.out.turn ht HPW.out)
  have HSZ:=Hd (Nat.le_trans HS1.out ht.s)
  have HK3:=Hd hk3
  have HZ:=Hd hz
  clear hz hT_ ht hk3
  unfold clipV
  obtain⟨C,hC⟩:=Xq ((clipC z).toArray)
  rw[← hC]
  have HCC:=Hd hC
  clear hC
  dsimp only
  iterate 1 go_step
  refine Great.wpList_buildSliceTo rfl 23 48 1 #[(0,.tmp 34)] rfl v3.heap.size rfl _ rfl Tryz.underlying23 C ?_ ?_
  ·simp only[List.map_toArray,List.map_cons,List.map_nil,List.toList_toArray]
   rw[HCC.out]
   exact built_clip z
  have hbx:CA (v3.alloc (.cells C 48)) v3.heap.size 0 z:=by rw[HCC.out];exact CA.box v3 z 48
  have hb:Below v3.heap.size v3 (v3.alloc (.cells C 48)):=below_box _ _
  have hsz:wq.heap.size≤(v3.alloc (.cells C 48)).heap.size:=Nat.le_trans HSZ.out hb.size
  replace HL:=Hd (HL.out.below hb)
  have HBX:=Hd hb
  clear hb
  simp only[Act.put,sA1,sB1,sC1]
  refine wpList_appT 23 Tryz.underlying23 _ rfl (.tmp 32) (.tmp 35) rfl rfl wq.heap.size vl l rfl HL.out hsz v3.heap.size 1 z rfl hbx (by have:=HLL.out;omega) ?_
  intro vn v5 q1 q2 q3 q4
  simp only[Act.put,sA1,sB1,sC1]
  have hbl:Below wq.heap.size v3 v5:=(HBX.out.mono HSZ.out).trans q2
  have HC:=Hd q1
  replace H:=Hd (H.out.low hbl HL4.out HL5.out)
  have HCO:=Hd (clipsOK_snoc HS.out HLL.out HZ.out (by omega))
  obtain⟨cl,hcl⟩:=Xq (l++[z])
  rw[← hcl]at HC HCO
  clear q1 q2 q3 q4 hbl hbx hsz hcl HBX HCC HZ HS HLL HL HSZ
  obtain⟨ca,cc,rfl,hcc⟩:=HC.out.tk
  clear hcc
  obtain⟨J,hJ⟩:=Xq (cl.length)
  rw[← hJ]at HC ⊢
  clear hJ
  have y7:=H.out.e.k7
  have f7:=H.out.e.fz 7
  go_upto_region 15 with fail
  obtain⟨w6,hw⟩:=Xq (v5.setCell ⟨g5,7,none⟩ (.slice ca J cc))
  rw[← hw]
  have ht:Turn g5 v5 w6:=by rw[hw];exact(Turn.refl _ _).trans (Turn.cell g5 7 (.slice ca J cc) _)
  replace H:=Hd (H.out.set ht (by rw[hw];exact H.out.e.set7 (.slice ca J cc)))
  replace HC:=Hd (show OT w6 wq.heap.size (.slice ca J cc) cl by rw[hw];exact HC.out.far (p:=⟨g5,7,none⟩) HL5.out _)
  clear hw ht
  clear y7 f7
  apply wp_region_lit
  refine wpl_loadE H.out.e rfl rfl rfl ?_
  refine wpl_storeE (1) (a) (0) (0) (0) (0) (0) ca J cc H.out.z rfl rfl rfl rfl ?_
  intro wz q1 q2 q3 q4 q5
  have hfin:=H.out.fin (Turn.ofStore q2 q3 q4)
  have HOT:=Hd ((HC.out.blocks (fun g kk cap e=>q2 g (by have h1:=(HC.out.blk e).1;have h2:=HL4.out;omega))).lower HSQ.out)
  have HQ1:=Hd q1
  have HFI:=Hd hfin
  clear q1 q2 q3 q4 q5 hfin
  simp only[Act.put,sA1,sB1,sC1]
  iterate 4 go_step
  exact bodyPost_ret (results_ed1 Tryz.results46 rfl HQ1.out ⟨_,_,_,rfl⟩) rfl ⟨⟨⟨1,a,0,0,0,0,0,cl⟩,ca,J,cc,rfl,TE.ins 1 a cl (by decide) a0 (by omega) HCO.out,HOT.out⟩,TQ.of (k':=k3) (by have:=HK2.out;have:=HK3.out;omega) HFI.out.1 HFI.out.2⟩
 ·clear K0 K1
  go_wp2_with fail
  refine(next_any B p (k+1) 60 _ H.out.t (by omega) (by omega) (by omega)).mono ?_
  rintro e wn ⟨a,rfl,a0,a1,hT_,hg_⟩
  have ht:=Turn.grown hg_ H.out.t.2.1
  replace H:=Hd (H.out.turn ht hT_)
  clear hT_ hg_ ht
  go_wp2_with fail
  refine(next_any B p (k+1+1) 20 _ H.out.t (by omega) (by omega) (by omega)).mono ?_
  rintro e wm ⟨m,rfl,m0,m1,hT_,hg_⟩
  have ht:=Turn.grown hg_ H.out.t.2.1
  replace H:=Hd (H.out.turn ht hT_)
  clear hT_ hg_ ht
  have y1:=H.out.e.k1
  have f1:=H.out.e.fz 1
  have y2:=H.out.e.k2
  have f2:=H.out.e.fz 2
  go_upto_region 15 with fail
  obtain⟨w6,hw⟩:=Xq ((wm.setCell ⟨g5,1,none⟩ (.int .i64 a)).setCell ⟨g5,2,none⟩ (.int .i64 (1+m)))
  rw[← hw]
  have ht:Turn g5 wm w6:=by rw[hw];exact((Turn.refl _ _).trans (Turn.cell g5 1 (.int .i64 a) _)).trans (Turn.cell g5 2 (.int .i64 (1+m)) _)
  replace H:=Hd (H.out.set ht (by rw[hw];exact(H.out.e.set1 a).set2 (1+m)))
  clear hw ht
  clear y1 f1 y2 f2
  apply wp_region_lit
  refine wpl_loadE H.out.e rfl rfl rfl ?_
  refine wpl_storeE (2) (a) (1+m) (0) (0) (0) (0) none 0 0 H.out.z rfl rfl rfl rfl ?_
  intro wz q1 q2 q3 q4 q5
  have hfin:=H.out.fin (Turn.ofStore q2 q3 q4)
  have HOT:=Hd (OT.nil wz w.heap.size)
  have HQ1:=Hd q1
  have HFI:=Hd hfin
  clear q1 q2 q3 q4 q5 hfin
  simp only[Act.put,sA1,sB1,sC1]
  iterate 4 go_step
  exact bodyPost_ret (results_ed1 Tryz.results46 rfl HQ1.out ⟨_,_,_,rfl⟩) rfl ⟨⟨⟨2,a,1+m,0,0,0,0,[]⟩,none,0,0,rfl,TE.rem 2 a (1+m) (by decide) a0 (by omega) (by omega) (by omega),HOT.out⟩,TQ.of (k':=k+1+1+1) (by omega) HFI.out.1 HFI.out.2⟩
 ·clear K0 K1
  go_wp2_with fail
  refine(next_any B p (k+1) 60 _ H.out.t (by omega) (by omega) (by omega)).mono ?_
  rintro e wn ⟨a,rfl,a0,a1,hT_,hg_⟩
  have ht:=Turn.grown hg_ H.out.t.2.1
  replace H:=Hd (H.out.turn ht hT_)
  clear hT_ hg_ ht
  have y1:=H.out.e.k1
  have f1:=H.out.e.fz 1
  go_upto_region 9 with fail
  obtain⟨wq,hw⟩:=Xq (wn.setCell ⟨g5,1,none⟩ (.int .i64 a))
  rw[← hw]
  have ht:Turn g5 wn wq:=by rw[hw];exact(Turn.refl _ _).trans (Turn.cell g5 1 (.int .i64 a) _)
  replace H:=Hd (H.out.set ht (by rw[hw];exact H.out.e.set1 a))
  clear hw ht
  clear y1 f1
  have HL4:=Hd H.out.z.lt
  have HL5:=Hd H.out.e.lt
  have HPW:=Hd H.out.t.2.1
  have HSQ:=Hd H.out.u.s
  clear e0
  go_wp2_with fail
  refine(track_any B p (k+1+1) 3 wq H.out.t (by omega) (by omega)).mono ?_
  rintro e v2 ⟨⟨vl,l,rfl,ho,hs,hl⟩,⟨k2,hk2,hT_⟩,ht⟩
  have HL:=Hd ho
  have HS:=Hd hs
  have HLL:=Hd hl
  have HS1:=Hd (show wq.heap.size≤v2.heap.size from ht.s)
  replace H:=Hd (H.out.turn ht hT_)
  have HK2:=Hd hk2
  clear ho hs hl hT_ ht hk2
  go_wp2_with fail
  refine(clip_any B p k2 _ H.out.t (by have:=HK2.out;omega)).mono ?_
  rintro e v3 ⟨⟨z,rfl,hz⟩,⟨k3,hk3,hT_⟩,ht⟩
  replace H:=Hd (H.out.turn ht hT_)
  replace HL:=Hd (HL.out.turn ht HPW.out)
  have HSZ:=Hd (Nat.le_trans HS1.out ht.s)
  have HK3:=Hd hk3
  have HZ:=Hd hz
  clear hz hT_ ht hk3
  unfold clipV
  obtain⟨C,hC⟩:=Xq ((clipC z).toArray)
  rw[← hC]
  have HCC:=Hd hC
  clear hC
  dsimp only
  iterate 1 go_step
  refine Great.wpList_buildSliceTo rfl 23 48 1 #[(0,.tmp 34)] rfl v3.heap.size rfl _ rfl Tryz.underlying23 C ?_ ?_
  ·simp only[List.map_toArray,List.map_cons,List.map_nil,List.toList_toArray]
   rw[HCC.out]
   exact built_clip z
  have hbx:CA (v3.alloc (.cells C 48)) v3.heap.size 0 z:=by rw[HCC.out];exact CA.box v3 z 48
  have hb:Below v3.heap.size v3 (v3.alloc (.cells C 48)):=below_box _ _
  have hsz:wq.heap.size≤(v3.alloc (.cells C 48)).heap.size:=Nat.le_trans HSZ.out hb.size
  replace HL:=Hd (HL.out.below hb)
  have HBX:=Hd hb
  clear hb
  simp only[Act.put,sA1,sB1,sC1]
  refine wpList_appT 23 Tryz.underlying23 _ rfl (.tmp 32) (.tmp 35) rfl rfl wq.heap.size vl l rfl HL.out hsz v3.heap.size 1 z rfl hbx (by have:=HLL.out;omega) ?_
  intro vn v5 q1 q2 q3 q4
  simp only[Act.put,sA1,sB1,sC1]
  have hbl:Below wq.heap.size v3 v5:=(HBX.out.mono HSZ.out).trans q2
  have HC:=Hd q1
  replace H:=Hd (H.out.low hbl HL4.out HL5.out)
  have HCO:=Hd (clipsOK_snoc HS.out HLL.out HZ.out (by omega))
  obtain⟨cl,hcl⟩:=Xq (l++[z])
  rw[← hcl]at HC HCO
  clear q1 q2 q3 q4 hbl hbx hsz hcl HBX HCC HZ HS HLL HL HSZ
  obtain⟨ca,cc,rfl,hcc⟩:=HC.out.tk
  clear hcc
  obtain⟨J,hJ⟩:=Xq (cl.length)
  rw[← hJ]at HC ⊢
  clear hJ
  have y7:=H.out.e.k7
  have f7:=H.out.e.fz 7
  go_upto_region 15 with fail
  obtain⟨w6,hw⟩:=Xq (v5.setCell ⟨g5,7,none⟩ (.slice ca J cc))
  rw[← hw]
  have ht:Turn g5 v5 w6:=by rw[hw];exact(Turn.refl _ _).trans (Turn.cell g5 7 (.slice ca J cc) _)
  replace H:=Hd (H.out.set ht (by rw[hw];exact H.out.e.set7 (.slice ca J cc)))
  replace HC:=Hd (show OT w6 wq.heap.size (.slice ca J cc) cl by rw[hw];exact HC.out.far (p:=⟨g5,7,none⟩) HL5.out _)
  clear hw ht
  clear y7 f7
  apply wp_region_lit
  refine wpl_loadE H.out.e rfl rfl rfl ?_
  refine wpl_storeE (3) (a) (0) (0) (0) (0) (0) ca J cc H.out.z rfl rfl rfl rfl ?_
  intro wz q1 q2 q3 q4 q5
  have hfin:=H.out.fin (Turn.ofStore q2 q3 q4)
  have HOT:=Hd ((HC.out.blocks (fun g kk cap e=>q2 g (by have h1:=(HC.out.blk e).1;have h2:=HL4.out;omega))).lower HSQ.out)
  have HQ1:=Hd q1
  have HFI:=Hd hfin
  clear q1 q2 q3 q4 q5 hfin
  simp only[Act.put,sA1,sB1,sC1]
  iterate 4 go_step
  exact bodyPost_ret (results_ed1 Tryz.results46 rfl HQ1.out ⟨_,_,_,rfl⟩) rfl ⟨⟨⟨3,a,0,0,0,0,0,cl⟩,ca,J,cc,rfl,TE.ins 3 a cl (by decide) a0 (by omega) HCO.out,HOT.out⟩,TQ.of (k':=k3) (by have:=HK2.out;have:=HK3.out;omega) HFI.out.1 HFI.out.2⟩
 ·clear K0 K1
  go_wp2_with fail
  refine(next_any B p (k+1) 60 _ H.out.t (by omega) (by omega) (by omega)).mono ?_
  rintro e wn ⟨a,rfl,a0,a1,hT_,hg_⟩
  have ht:=Turn.grown hg_ H.out.t.2.1
  replace H:=Hd (H.out.turn ht hT_)
  clear hT_ hg_ ht
  go_wp2_with fail
  refine(next_any B p (k+1+1) 20 _ H.out.t (by omega) (by omega) (by omega)).mono ?_
  rintro e wm ⟨m,rfl,m0,m1,hT_,hg_⟩
  have ht:=Turn.grown hg_ H.out.t.2.1
  replace H:=Hd (H.out.turn ht hT_)
  clear hT_ hg_ ht
  have y1:=H.out.e.k1
  have f1:=H.out.e.fz 1
  have y2:=H.out.e.k2
  have f2:=H.out.e.fz 2
  go_upto_region 15 with fail
  obtain⟨w6,hw⟩:=Xq ((wm.setCell ⟨g5,1,none⟩ (.int .i64 a)).setCell ⟨g5,2,none⟩ (.int .i64 (1+m)))
  rw[← hw]
  have ht:Turn g5 wm w6:=by rw[hw];exact((Turn.refl _ _).trans (Turn.cell g5 1 (.int .i64 a) _)).trans (Turn.cell g5 2 (.int .i64 (1+m)) _)
  replace H:=Hd (H.out.set ht (by rw[hw];exact(H.out.e.set1 a).set2 (1+m)))
  clear hw ht
  clear y1 f1 y2 f2
  apply wp_region_lit
  refine wpl_loadE H.out.e rfl rfl rfl ?_
  refine wpl_storeE (4) (a) (1+m) (0) (0) (0) (0) none 0 0 H.out.z rfl rfl rfl rfl ?_
  intro wz q1 q2 q3 q4 q5
  have hfin:=H.out.fin (Turn.ofStore q2 q3 q4)
  have HOT:=Hd (OT.nil wz w.heap.size)
  have HQ1:=Hd q1
  have HFI:=Hd hfin
  clear q1 q2 q3 q4 q5 hfin
  simp only[Act.put,sA1,sB1,sC1]
  iterate 4 go_step
  exact bodyPost_ret (results_ed1 Tryz.results46 rfl HQ1.out ⟨_,_,_,rfl⟩) rfl ⟨⟨⟨4,a,1+m,0,0,0,0,[]⟩,none,0,0,rfl,TE.rem 4 a (1+m) (by decide) a0 (by omega) (by omega) (by omega),HOT.out⟩,TQ.of (k':=k+1+1+1) (by omega) HFI.out.1 HFI.out.2⟩
 ·clear K0 K1
  have hn1:(1:Int)≤(n:Int)+1:=by omega
  go_wp2_with fail
  refine(next_any B p (k+1) ((n:Int)+1) _ H.out.t (by omega) (by omega) (by omega)).mono ?_
  rintro e wn ⟨c,rfl,c0,c1,hT_,hg_⟩
  have ht:=Turn.grown hg_ H.out.t.2.1
  replace H:=Hd (H.out.turn ht hT_)
  clear hT_ hg_ ht
  go_wp2_with fail
  refine(next_any B p (k+1+1) 11 _ H.out.t (by omega) (by omega) (by omega)).mono ?_
  rintro e wm ⟨d,rfl,d0,d1,hT_,hg_⟩
  have ht:=Turn.grown hg_ H.out.t.2.1
  replace H:=Hd (H.out.turn ht hT_)
  clear hT_ hg_ ht
  obtain⟨cn,hcn⟩:∃ cn:Nat,c=(cn:Int):=⟨c.toNat,by omega⟩
  subst hcn
  have y3:=H.out.e.k3
  have f3:=H.out.e.fz 3
  have y4:=H.out.e.k4
  have f4:=H.out.e.fz 4
  by_cases hd5:d=5
  ·subst hd5
   go_upto_region 15 with fail
   obtain⟨w6,hw⟩:=Xq (((wm.setCell ⟨g5,3,none⟩ (.int .i64 (cn:Int))).setCell ⟨g5,4,none⟩ (.int .i64 0)).setCell ⟨g5,4,none⟩ (.int .i64 6))
   rw[← hw]
   have ht:Turn g5 wm w6:=by rw[hw];exact(((Turn.refl _ _).trans (Turn.cell g5 3 (.int .i64 (cn:Int)) _)).trans (Turn.cell g5 4 (.int .i64 0) _)).trans (Turn.cell g5 4 (.int .i64 6) _)
   replace H:=Hd (H.out.set ht (by rw[hw];exact((H.out.e.set3 (cn:Int)).set4 0).set4 6))
   clear hw ht
   clear y3 f3 y4 f4
   apply wp_region_lit
   refine wpl_loadE H.out.e rfl rfl rfl ?_
   refine wpl_storeE (5) (0) (0) ((cn:Int)) (6) (0) (0) none 0 0 H.out.z rfl rfl rfl rfl ?_
   intro wz q1 q2 q3 q4 q5
   have hfin:=H.out.fin (Turn.ofStore q2 q3 q4)
   have HOT:=Hd (OT.nil wz w.heap.size)
   have HQ1:=Hd q1
   have HFI:=Hd hfin
   clear q1 q2 q3 q4 q5 hfin
   simp only[Act.put,sA1,sB1,sC1]
   iterate 4 go_step
   exact bodyPost_ret (results_ed1 Tryz.results46 rfl HQ1.out ⟨_,_,_,rfl⟩) rfl ⟨⟨⟨5,0,0,(cn:Int),6,0,0,[]⟩,none,0,0,rfl,TE.clip 5 6 cn (by decide) (by omega) (by decide) (by decide),HOT.out⟩,TQ.of (k':=k+1+1+1) (by omega) HFI.out.1 HFI.out.2⟩
  have hd6:(d-5==0)=false:=by simp;omega
  go_upto_region 15 with fail
  obtain⟨w6,hw⟩:=Xq ((wm.setCell ⟨g5,3,none⟩ (.int .i64 (cn:Int))).setCell ⟨g5,4,none⟩ (.int .i64 (d-5)))
  rw[← hw]
  have ht:Turn g5 wm w6:=by rw[hw];exact((Turn.refl _ _).trans (Turn.cell g5 3 (.int .i64 (cn:Int)) _)).trans (Turn.cell g5 4 (.int .i64 (d-5)) _)
  replace H:=Hd (H.out.set ht (by rw[hw];exact(H.out.e.set3 (cn:Int)).set4 (d-5)))
  clear hw ht
  clear y3 f3 y4 f4
  apply wp_region_lit
  refine wpl_loadE H.out.e rfl rfl rfl ?_
  refine wpl_storeE (5) (0) (0) ((cn:Int)) (d-5) (0) (0) none 0 0 H.out.z rfl rfl rfl rfl ?_
  intro wz q1 q2 q3 q4 q5
  have hfin:=H.out.fin (Turn.ofStore q2 q3 q4)
  have HOT:=Hd (OT.nil wz w.heap.size)
  have HQ1:=Hd q1
  have HFI:=Hd hfin
  clear q1 q2 q3 q4 q5 hfin
  simp only[Act.put,sA1,sB1,sC1]
  iterate 4 go_step
  exact bodyPost_ret (results_ed1 Tryz.results46 rfl HQ1.out ⟨_,_,_,rfl⟩) rfl ⟨⟨⟨5,0,0,(cn:Int),d-5,0,0,[]⟩,none,0,0,rfl,TE.clip 5 (d-5) cn (by decide) (by omega) (by omega) (by omega),HOT.out⟩,TQ.of (k':=k+1+1+1) (by omega) HFI.out.1 HFI.out.2⟩
 ·clear K0 K1
  have hn1:(1:Int)≤(n:Int)+1:=by omega
  go_wp2_with fail
  refine(next_any B p (k+1) ((n:Int)+1) _ H.out.t (by omega) (by omega) (by omega)).mono ?_
  rintro e wn ⟨c,rfl,c0,c1,hT_,hg_⟩
  have ht:=Turn.grown hg_ H.out.t.2.1
  replace H:=Hd (H.out.turn ht hT_)
  clear hT_ hg_ ht
  go_wp2_with fail
  refine(next_any B p (k+1+1) 11 _ H.out.t (by omega) (by omega) (by omega)).mono ?_
  rintro e wm ⟨d,rfl,d0,d1,hT_,hg_⟩
  have ht:=Turn.grown hg_ H.out.t.2.1
  replace H:=Hd (H.out.turn ht hT_)
  clear hT_ hg_ ht
  obtain⟨cn,hcn⟩:∃ cn:Nat,c=(cn:Int):=⟨c.toNat,by omega⟩
  subst hcn
  have y3:=H.out.e.k3
  have f3:=H.out.e.fz 3
  have y4:=H.out.e.k4
  have f4:=H.out.e.fz 4
  by_cases hd5:d=5
  ·subst hd5
   go_upto_region 15 with fail
   obtain⟨w6,hw⟩:=Xq (((wm.setCell ⟨g5,3,none⟩ (.int .i64 (cn:Int))).setCell ⟨g5,4,none⟩ (.int .i64 0)).setCell ⟨g5,4,none⟩ (.int .i64 6))
   rw[← hw]
   have ht:Turn g5 wm w6:=by rw[hw];exact(((Turn.refl _ _).trans (Turn.cell g5 3 (.int .i64 (cn:Int)) _)).trans (Turn.cell g5 4 (.int .i64 0) _)).trans (Turn.cell g5 4 (.int .i64 6) _)
   replace H:=Hd (H.out.set ht (by rw[hw];exact((H.out.e.set3 (cn:Int)).set4 0).set4 6))
   clear hw ht
   clear y3 f3 y4 f4
   apply wp_region_lit
   refine wpl_loadE H.out.e rfl rfl rfl ?_
   refine wpl_storeE (6) (0) (0) ((cn:Int)) (6) (0) (0) none 0 0 H.out.z rfl rfl rfl rfl ?_
   intro wz q1 q2 q3 q4 q5
   have hfin:=H.out.fin (Turn.ofStore q2 q3 q4)
   have HOT:=Hd (OT.nil wz w.heap.size)
   have HQ1:=Hd q1
   have HFI:=Hd hfin
   clear q1 q2 q3 q4 q5 hfin
   simp only[Act.put,sA1,sB1,sC1]
   iterate 4 go_step
   exact bodyPost_ret (results_ed1 Tryz.results46 rfl HQ1.out ⟨_,_,_,rfl⟩) rfl ⟨⟨⟨6,0,0,(cn:Int),6,0,0,[]⟩,none,0,0,rfl,TE.clip 6 6 cn (by decide) (by omega) (by decide) (by decide),HOT.out⟩,TQ.of (k':=k+1+1+1) (by omega) HFI.out.1 HFI.out.2⟩
  have hd6:(d-5==0)=false:=by simp;omega
  go_upto_region 15 with fail
  obtain⟨w6,hw⟩:=Xq ((wm.setCell ⟨g5,3,none⟩ (.int .i64 (cn:Int))).setCell ⟨g5,4,none⟩ (.int .i64 (d-5)))
  rw[← hw]
  have ht:Turn g5 wm w6:=by rw[hw];exact((Turn.refl _ _).trans (Turn.cell g5 3 (.int .i64 (cn:Int)) _)).trans (Turn.cell g5 4 (.int .i64 (d-5)) _)
  replace H:=Hd (H.out.set ht (by rw[hw];exact(H.out.e.set3 (cn:Int)).set4 (d-5)))
  clear hw ht
  clear y3 f3 y4 f4
  apply wp_region_lit
  refine wpl_loadE H.out.e rfl rfl rfl ?_
  refine wpl_storeE (6) (0) (0) ((cn:Int)) (d-5) (0) (0) none 0 0 H.out.z rfl rfl rfl rfl ?_
  intro wz q1 q2 q3 q4 q5
  have hfin:=H.out.fin (Turn.ofStore q2 q3 q4)
  have HOT:=Hd (OT.nil wz w.heap.size)
  have HQ1:=Hd q1
  have HFI:=Hd hfin
  clear q1 q2 q3 q4 q5 hfin
  simp only[Act.put,sA1,sB1,sC1]
  iterate 4 go_step
  exact bodyPost_ret (results_ed1 Tryz.results46 rfl HQ1.out ⟨_,_,_,rfl⟩) rfl ⟨⟨⟨6,0,0,(cn:Int),d-5,0,0,[]⟩,none,0,0,rfl,TE.clip 6 (d-5) cn (by decide) (by omega) (by omega) (by omega),HOT.out⟩,TQ.of (k':=k+1+1+1) (by omega) HFI.out.1 HFI.out.2⟩
 ·clear K0 K1
  have hn1:(1:Int)≤(n:Int)+1:=by omega
  go_wp2_with fail
  refine(next_any B p (k+1) ((n:Int)+1) _ H.out.t (by omega) (by omega) (by omega)).mono ?_
  rintro e wn ⟨c,rfl,c0,c1,hT_,hg_⟩
  have ht:=Turn.grown hg_ H.out.t.2.1
  replace H:=Hd (H.out.turn ht hT_)
  clear hT_ hg_ ht
  go_wp2_with fail
  refine(next_any B p (k+1+1) 11 _ H.out.t (by omega) (by omega) (by omega)).mono ?_
  rintro e wm ⟨d,rfl,d0,d1,hT_,hg_⟩
  have ht:=Turn.grown hg_ H.out.t.2.1
  replace H:=Hd (H.out.turn ht hT_)
  clear hT_ hg_ ht
  obtain⟨cn,hcn⟩:∃ cn:Nat,c=(cn:Int):=⟨c.toNat,by omega⟩
  subst hcn
  have y3:=H.out.e.k3
  have f3:=H.out.e.fz 3
  have y4:=H.out.e.k4
  have f4:=H.out.e.fz 4
  by_cases hd5:d=5
  ·subst hd5
   go_upto_region 15 with fail
   obtain⟨w6,hw⟩:=Xq (((wm.setCell ⟨g5,3,none⟩ (.int .i64 (cn:Int))).setCell ⟨g5,4,none⟩ (.int .i64 0)).setCell ⟨g5,4,none⟩ (.int .i64 6))
   rw[← hw]
   have ht:Turn g5 wm w6:=by rw[hw];exact(((Turn.refl _ _).trans (Turn.cell g5 3 (.int .i64 (cn:Int)) _)).trans (Turn.cell g5 4 (.int .i64 0) _)).trans (Turn.cell g5 4 (.int .i64 6) _)
   replace H:=Hd (H.out.set ht (by rw[hw];exact((H.out.e.set3 (cn:Int)).set4 0).set4 6))
   clear hw ht
   clear y3 f3 y4 f4
   apply wp_region_lit
   refine wpl_loadE H.out.e rfl rfl rfl ?_
   refine wpl_storeE (7) (0) (0) ((cn:Int)) (6) (0) (0) none 0 0 H.out.z rfl rfl rfl rfl ?_
   intro wz q1 q2 q3 q4 q5
   have hfin:=H.out.fin (Turn.ofStore q2 q3 q4)
   have HOT:=Hd (OT.nil wz w.heap.size)
   have HQ1:=Hd q1
   have HFI:=Hd hfin
   clear q1 q2 q3 q4 q5 hfin
   simp only[Act.put,sA1,sB1,sC1]
   iterate 4 go_step
   exact bodyPost_ret (results_ed1 Tryz.results46 rfl HQ1.out ⟨_,_,_,rfl⟩) rfl ⟨⟨⟨7,0,0,(cn:Int),6,0,0,[]⟩,none,0,0,rfl,TE.clip 7 6 cn (by decide) (by omega) (by decide) (by decide),HOT.out⟩,TQ.of (k':=k+1+1+1) (by omega) HFI.out.1 HFI.out.2⟩
  have hd6:(d-5==0)=false:=by simp;omega
  go_upto_region 15 with fail
  obtain⟨w6,hw⟩:=Xq ((wm.setCell ⟨g5,3,none⟩ (.int .i64 (cn:Int))).setCell ⟨g5,4,none⟩ (.int .i64 (d-5)))
  rw[← hw]
  have ht:Turn g5 wm w6:=by rw[hw];exact((Turn.refl _ _).trans (Turn.cell g5 3 (.int .i64 (cn:Int)) _)).trans (Turn.cell g5 4 (.int .i64 (d-5)) _)
  replace H:=Hd (H.out.set ht (by rw[hw];exact(H.out.e.set3 (cn:Int)).set4 (d-5)))
  clear hw ht
  clear y3 f3 y4 f4
  apply wp_region_lit
  refine wpl_loadE H.out.e rfl rfl rfl ?_
  refine wpl_storeE (7) (0) (0) ((cn:Int)) (d-5) (0) (0) none 0 0 H.out.z rfl rfl rfl rfl ?_
  intro wz q1 q2 q3 q4 q5
  have hfin:=H.out.fin (Turn.ofStore q2 q3 q4)
  have HOT:=Hd (OT.nil wz w.heap.size)
  have HQ1:=Hd q1
  have HFI:=Hd hfin
  clear q1 q2 q3 q4 q5 hfin
  simp only[Act.put,sA1,sB1,sC1]
  iterate 4 go_step
  exact bodyPost_ret (results_ed1 Tryz.results46 rfl HQ1.out ⟨_,_,_,rfl⟩) rfl ⟨⟨⟨7,0,0,(cn:Int),d-5,0,0,[]⟩,none,0,0,rfl,TE.clip 7 (d-5) cn (by decide) (by omega) (by omega) (by omega),HOT.out⟩,TQ.of (k':=k+1+1+1) (by omega) HFI.out.1 HFI.out.2⟩
 ·clear K0 K1
  have hn1:(1:Int)≤(n:Int)+1:=by omega
  go_wp2_with fail
  refine(next_any B p (k+1) ((n:Int)+1) _ H.out.t (by omega) (by omega) (by omega)).mono ?_
  rintro e wn ⟨c,rfl,c0,c1,hT_,hg_⟩
  have ht:=Turn.grown hg_ H.out.t.2.1
  replace H:=Hd (H.out.turn ht hT_)
  clear hT_ hg_ ht
  go_wp2_with fail
  refine(next_any B p (k+1+1) 11 _ H.out.t (by omega) (by omega) (by omega)).mono ?_
  rintro e wm ⟨d,rfl,d0,d1,hT_,hg_⟩
  have ht:=Turn.grown hg_ H.out.t.2.1
  replace H:=Hd (H.out.turn ht hT_)
  clear hT_ hg_ ht
  obtain⟨cn,hcn⟩:∃ cn:Nat,c=(cn:Int):=⟨c.toNat,by omega⟩
  subst hcn
  have y3:=H.out.e.k3
  have f3:=H.out.e.fz 3
  have y4:=H.out.e.k4
  have f4:=H.out.e.fz 4
  by_cases hd5:d=5
  ·subst hd5
   go_upto_region 15 with fail
   obtain⟨w6,hw⟩:=Xq (((wm.setCell ⟨g5,3,none⟩ (.int .i64 (cn:Int))).setCell ⟨g5,4,none⟩ (.int .i64 0)).setCell ⟨g5,4,none⟩ (.int .i64 6))
   rw[← hw]
   have ht:Turn g5 wm w6:=by rw[hw];exact(((Turn.refl _ _).trans (Turn.cell g5 3 (.int .i64 (cn:Int)) _)).trans (Turn.cell g5 4 (.int .i64 0) _)).trans (Turn.cell g5 4 (.int .i64 6) _)
   replace H:=Hd (H.out.set ht (by rw[hw];exact((H.out.e.set3 (cn:Int)).set4 0).set4 6))
   clear hw ht
   clear y3 f3 y4 f4
   apply wp_region_lit
   refine wpl_loadE H.out.e rfl rfl rfl ?_
   refine wpl_storeE (8) (0) (0) ((cn:Int)) (6) (0) (0) none 0 0 H.out.z rfl rfl rfl rfl ?_
   intro wz q1 q2 q3 q4 q5
   have hfin:=H.out.fin (Turn.ofStore q2 q3 q4)
   have HOT:=Hd (OT.nil wz w.heap.size)
   have HQ1:=Hd q1
   have HFI:=Hd hfin
   clear q1 q2 q3 q4 q5 hfin
   simp only[Act.put,sA1,sB1,sC1]
   iterate 4 go_step
   exact bodyPost_ret (results_ed1 Tryz.results46 rfl HQ1.out ⟨_,_,_,rfl⟩) rfl ⟨⟨⟨8,0,0,(cn:Int),6,0,0,[]⟩,none,0,0,rfl,TE.clip 8 6 cn (by decide) (by omega) (by decide) (by decide),HOT.out⟩,TQ.of (k':=k+1+1+1) (by omega) HFI.out.1 HFI.out.2⟩
  have hd6:(d-5==0)=false:=by simp;omega
  go_upto_region 15 with fail
  obtain⟨w6,hw⟩:=Xq ((wm.setCell ⟨g5,3,none⟩ (.int .i64 (cn:Int))).setCell ⟨g5,4,none⟩ (.int .i64 (d-5)))
  rw[← hw]
  have ht:Turn g5 wm w6:=by rw[hw];exact((Turn.refl _ _).trans (Turn.cell g5 3 (.int .i64 (cn:Int)) _)).trans (Turn.cell g5 4 (.int .i64 (d-5)) _)
  replace H:=Hd (H.out.set ht (by rw[hw];exact(H.out.e.set3 (cn:Int)).set4 (d-5)))
  clear hw ht
  clear y3 f3 y4 f4
  apply wp_region_lit
  refine wpl_loadE H.out.e rfl rfl rfl ?_
  refine wpl_storeE (8) (0) (0) ((cn:Int)) (d-5) (0) (0) none 0 0 H.out.z rfl rfl rfl rfl ?_
  intro wz q1 q2 q3 q4 q5
  have hfin:=H.out.fin (Turn.ofStore q2 q3 q4)
  have HOT:=Hd (OT.nil wz w.heap.size)
  have HQ1:=Hd q1
  have HFI:=Hd hfin
  clear q1 q2 q3 q4 q5 hfin
  simp only[Act.put,sA1,sB1,sC1]
  iterate 4 go_step
  exact bodyPost_ret (results_ed1 Tryz.results46 rfl HQ1.out ⟨_,_,_,rfl⟩) rfl ⟨⟨⟨8,0,0,(cn:Int),d-5,0,0,[]⟩,none,0,0,rfl,TE.clip 8 (d-5) cn (by decide) (by omega) (by omega) (by omega),HOT.out⟩,TQ.of (k':=k+1+1+1) (by omega) HFI.out.1 HFI.out.2⟩
 ·clear K0 K1
  have hn1:(1:Int)≤(n:Int)+1:=by omega
  go_wp2_with fail
  refine(next_any B p (k+1) ((n:Int)+1) _ H.out.t (by omega) (by omega) (by omega)).mono ?_
  rintro e wn ⟨c,rfl,c0,c1,hT_,hg_⟩
  have ht:=Turn.grown hg_ H.out.t.2.1
  replace H:=Hd (H.out.turn ht hT_)
  clear hT_ hg_ ht
  go_wp2_with fail
  refine(next_any B p (k+1+1) 11 _ H.out.t (by omega) (by omega) (by omega)).mono ?_
  rintro e wm ⟨d,rfl,d0,d1,hT_,hg_⟩
  have ht:=Turn.grown hg_ H.out.t.2.1
  replace H:=Hd (H.out.turn ht hT_)
  clear hT_ hg_ ht
  obtain⟨cn,hcn⟩:∃ cn:Nat,c=(cn:Int):=⟨c.toNat,by omega⟩
  subst hcn
  have y3:=H.out.e.k3
  have f3:=H.out.e.fz 3
  have y4:=H.out.e.k4
  have f4:=H.out.e.fz 4
  by_cases hd5:d=5
  ·subst hd5
   go_upto_region 15 with fail
   obtain⟨w6,hw⟩:=Xq (((wm.setCell ⟨g5,3,none⟩ (.int .i64 (cn:Int))).setCell ⟨g5,4,none⟩ (.int .i64 0)).setCell ⟨g5,4,none⟩ (.int .i64 6))
   rw[← hw]
   have ht:Turn g5 wm w6:=by rw[hw];exact(((Turn.refl _ _).trans (Turn.cell g5 3 (.int .i64 (cn:Int)) _)).trans (Turn.cell g5 4 (.int .i64 0) _)).trans (Turn.cell g5 4 (.int .i64 6) _)
   replace H:=Hd (H.out.set ht (by rw[hw];exact((H.out.e.set3 (cn:Int)).set4 0).set4 6))
   clear hw ht
   clear y3 f3 y4 f4
   apply wp_region_lit
   refine wpl_loadE H.out.e rfl rfl rfl ?_
   refine wpl_storeE (9) (0) (0) ((cn:Int)) (6) (0) (0) none 0 0 H.out.z rfl rfl rfl rfl ?_
   intro wz q1 q2 q3 q4 q5
   have hfin:=H.out.fin (Turn.ofStore q2 q3 q4)
   have HOT:=Hd (OT.nil wz w.heap.size)
   have HQ1:=Hd q1
   have HFI:=Hd hfin
   clear q1 q2 q3 q4 q5 hfin
   simp only[Act.put,sA1,sB1,sC1]
   iterate 4 go_step
   exact bodyPost_ret (results_ed1 Tryz.results46 rfl HQ1.out ⟨_,_,_,rfl⟩) rfl ⟨⟨⟨9,0,0,(cn:Int),6,0,0,[]⟩,none,0,0,rfl,TE.clip 9 6 cn (by decide) (by omega) (by decide) (by decide),HOT.out⟩,TQ.of (k':=k+1+1+1) (by omega) HFI.out.1 HFI.out.2⟩
  have hd6:(d-5==0)=false:=by simp;omega
  go_upto_region 15 with fail
  obtain⟨w6,hw⟩:=Xq ((wm.setCell ⟨g5,3,none⟩ (.int .i64 (cn:Int))).setCell ⟨g5,4,none⟩ (.int .i64 (d-5)))
  rw[← hw]
  have ht:Turn g5 wm w6:=by rw[hw];exact((Turn.refl _ _).trans (Turn.cell g5 3 (.int .i64 (cn:Int)) _)).trans (Turn.cell g5 4 (.int .i64 (d-5)) _)
  replace H:=Hd (H.out.set ht (by rw[hw];exact(H.out.e.set3 (cn:Int)).set4 (d-5)))
  clear hw ht
  clear y3 f3 y4 f4
  apply wp_region_lit
  refine wpl_loadE H.out.e rfl rfl rfl ?_
  refine wpl_storeE (9) (0) (0) ((cn:Int)) (d-5) (0) (0) none 0 0 H.out.z rfl rfl rfl rfl ?_
  intro wz q1 q2 q3 q4 q5
  have hfin:=H.out.fin (Turn.ofStore q2 q3 q4)
  have HOT:=Hd (OT.nil wz w.heap.size)
  have HQ1:=Hd q1
  have HFI:=Hd hfin
  clear q1 q2 q3 q4 q5 hfin
  simp only[Act.put,sA1,sB1,sC1]
  iterate 4 go_step
  exact bodyPost_ret (results_ed1 Tryz.results46 rfl HQ1.out ⟨_,_,_,rfl⟩) rfl ⟨⟨⟨9,0,0,(cn:Int),d-5,0,0,[]⟩,none,0,0,rfl,TE.clip 9 (d-5) cn (by decide) (by omega) (by omega) (by omega),HOT.out⟩,TQ.of (k':=k+1+1+1) (by omega) HFI.out.1 HFI.out.2⟩
 clear K0 K1
 have hn1:(1:Int)≤(n:Int)+1:=by omega
 go_wp2_with fail
 refine(next_any B p (k+1) ((n:Int)+1) _ H.out.t (by omega) (by omega) (by omega)).mono ?_
 rintro e wn ⟨c,rfl,c0,c1,hT_,hg_⟩
 have ht:=Turn.grown hg_ H.out.t.2.1
 replace H:=Hd (H.out.turn ht hT_)
 clear hT_ hg_ ht
 go_wp2_with fail
 refine(speed_any B p (k+1+1) _ H.out.t (by omega)).mono ?_
 rintro e wm ⟨⟨sn,sd,rfl,hsp⟩,⟨k3,hk3,hT_⟩,ht⟩
 replace H:=Hd (H.out.turn ht hT_)
 have HSP:=Hd hsp
 have HK3:=Hd hk3
 clear hsp hT_ ht hk3
 obtain⟨cn,hcn⟩:∃ cn:Nat,c=(cn:Int):=⟨c.toNat,by omega⟩
 subst hcn
 have y3:=H.out.e.k3
 have f3:=H.out.e.fz 3
 have y5:=H.out.e.k5
 have f5:=H.out.e.fz 5
 have y6:=H.out.e.k6
 have f6:=H.out.e.fz 6
 go_upto_region 15 with fail
 obtain⟨w6,hw⟩:=Xq (((wm.setCell ⟨g5,3,none⟩ (.int .i64 (cn:Int))).setCell ⟨g5,5,none⟩ (.int .i64 sn)).setCell ⟨g5,6,none⟩ (.int .i64 sd))
 rw[← hw]
 have ht:Turn g5 wm w6:=by rw[hw];exact(((Turn.refl _ _).trans (Turn.cell g5 3 (.int .i64 (cn:Int)) _)).trans (Turn.cell g5 5 (.int .i64 sn) _)).trans (Turn.cell g5 6 (.int .i64 sd) _)
 replace H:=Hd (H.out.set ht (by rw[hw];exact(H.out.e.set3 (cn:Int)).set56 sn sd))
 clear hw ht
 clear y3 f3 y5 f5 y6 f6
 apply wp_region_lit
 refine wpl_loadE H.out.e rfl rfl rfl ?_
 refine wpl_storeE (10) (0) (0) ((cn:Int)) (0) (sn) (sd) none 0 0 H.out.z rfl rfl rfl rfl ?_
 intro wz q1 q2 q3 q4 q5
 have hfin:=H.out.fin (Turn.ofStore q2 q3 q4)
 have HOT:=Hd (OT.nil wz w.heap.size)
 have HQ1:=Hd q1
 have HFI:=Hd hfin
 clear q1 q2 q3 q4 q5 hfin
 simp only[Act.put,sA1,sB1,sC1]
 iterate 4 go_step
 exact bodyPost_ret (results_ed1 Tryz.results46 rfl HQ1.out ⟨_,_,_,rfl⟩) rfl ⟨⟨⟨10,0,0,(cn:Int),0,sn,sd,[]⟩,none,0,0,rfl,TE.speed sn sd cn (by omega) HSP.out,HOT.out⟩,TQ.of (k':=k3) (by have:=HK3.out;omega) HFI.out.1 HFI.out.2⟩
structure Out where
 code:Int
 u:List Trk.Clip
 b:Trk.Ed
def zeroEd:Trk.Ed:=⟨0,0,0,0,0,0,0,[]⟩
def outOf (n:List Trk.Clip) (e:Trk.Ed):Out:=
 if e.k≤4 then⟨0,Trk.nf (e.exl n),Trk.backOf n e.p (e.p+e.T) (Trk.undoK e.k)⟩ else
 if Trk.adjCode n e.k e.c.toNat e.d e.sn e.sd=0 then
  ⟨0,Trk.nf (Trk.adjL n e.k e.c.toNat e.d e.sn e.sd),Trk.backOf n (Trk.fromL n e.k e.c.toNat e.d) (Trk.toL n e.k e.c.toNat e.d) (Trk.undK e.k e.d)⟩
 else⟨Trk.adjCode n e.k e.c.toNat e.d e.sn e.sd,[],zeroEd⟩
def OutPost (w:World) (o:Out) (e:Ending) (w':World):Prop:=
 ∃ v' ra rl rc,e=.returned (.tuple #[v',EdV o.b (.slice ra rl rc),.int .i64 o.code])∧OT w' w.heap.size v' o.u∧OT w' w.heap.size (.slice ra rl rc) o.b.ins∧Below w.heap.size w w'
theorem out_of_ed {w:World} {n l:List Trk.Clip} {a b uk:Int} {e:Ending} {w':World} (h:EdPost w n l a b uk e w'):OutPost w ⟨0,l,Trk.backOf n a b uk⟩ e w':=by
 obtain⟨v',vr,rfl,hou,hor,hb⟩:=h
 obtain⟨ra,rc,rfl,-⟩:=hor.tk
 exact⟨_,_,_,_,rfl,hou,hor,hb⟩
theorem out_of_no {w w':World} {n:List Trk.Clip} {k:Int} {c:Nat} {d sn sd:Int} (hb:Below w.heap.size w w') :
  OutPost w ⟨Trk.adjCode n k c d sn sd,[],zeroEd⟩ (.returned (.tuple #[.slice none 0 0,edV 0 0 0 0 0 0 0 (.slice none 0 0),.int .i64 (if True then Trk.adjCode n k c d sn sd else 1)])) w':=by
 rw[if_pos trivial]
 exact⟨_,_,_,_,rfl,OT.nil _ _,OT.nil _ _,hb⟩
end Go.Proofs.YtfoohocgdcgbcaaGreat
namespace Go.Trk
theorem total_set {l:List Clip} {i:Nat} {x y:Clip} (h:l[i]?=some x):total (l.set i y)=total l-x.len+y.len:=by
 induction l generalizing i with
 |nil=>simp at h
 | cons c l ih =>
  cases i with
  |zero=>
   simp only[List.getElem?_cons_zero,Option.some.injEq]at h
   subst h
   rw[List.set_cons_zero,total_cons,total_cons]
   omega
  |succ i=>
   rw[List.getElem?_cons_succ]at h
   rw[List.set_cons_succ,total_cons,total_cons,ih h]
   omega
theorem total_upd_le (l:List Clip) (i:Nat) {f:Clip→Clip} {D:Int} (hf:∀ x,(f x).len≤x.len+D) (hD:0≤D):total (upd l i f)≤total l+D:=by
 unfold upd
 cases h:l[i]? with
 |none=>dsimp only;omega
 |some x=>
  dsimp only
  rw[total_set h]
  have:=hf x
  omega
theorem adj_total (n:List Clip) (k:Int) (c:Nat) (d sn sd:Int) {D:Int} (h0:-D≤d) (h1:d≤D):total (adjL n k c d sn sd)≤total n+D+D:=by
 have hD:0≤D:=by omega
 have a:∀ l i,total (upd l i (lenBy d))≤total l+D:=fun l i=>total_upd_le l i (fun x=>by show x.len+d≤_;omega) hD
 have b:∀ l i,total (upd l i (later d))≤total l+D:=fun l i=>total_upd_le l i (fun x=>by show x.len-d≤_;omega) hD
 unfold adjL
 split
 ·have:=a n c;omega
 split
 ·have:=b n c;omega
 split
 ·have h1:=a n c;have h2:=b (upd n c (lenBy d)) (c+1);omega
 split
 ·have:=total_upd_le n c (f:=slipBy d) (D:=0) (fun x=>by show x.len≤_;omega) (Int.le_refl _);omega
 split
 ·have h1:=a n (c-1);have h2:=b (upd n (c-1) (lenBy d)) (c+1);omega
 have:=total_upd_le n c (f:=speedy sn sd) (D:=0) (fun x=>by show x.len≤_;omega) (Int.le_refl _);omega
end Go.Trk
namespace Go.Proofs.YtfoohocgdcgbcaaGreat
open Go.RowKit
def Lk (i:Nat):Int:=1000000+12000000*(i:Int)
structure Mk (i:Nat) (t:List Trk.Clip):Prop where
 v:Trk.VL (Lk i) t
 n:Trk.Norm t
 l:t.length≤13+10*i
 tt:Trk.total t≤117+130*(i:Int)
theorem Lk_mono {i j:Nat} (h:i≤j):Lk i≤Lk j:=by unfold Lk;omega
theorem Lk_ge (i:Nat):1000000≤Lk i:=by unfold Lk;omega
theorem Mk.mono {i j:Nat} {t:List Trk.Clip} (h:Mk i t) (hij:i≤j):Mk j t:=⟨h.v.mono (Lk_mono hij),h.n,by have:=h.l;omega,by have:=h.tt;omega⟩
theorem Mk.vt {i:Nat} {t:List Trk.Clip} (h:Mk i t) (hi:i≤4):VT (Lk i) t:=⟨h.v,by have:=h.l;omega,by have:=h.tt;omega⟩
theorem VT.mono {L M:Int} {l:List Trk.Clip} (h:VT L l) (hl:L≤M):VT M l:=⟨h.v.mono hl,h.n,h.t⟩
theorem ExV.mono {L M:Int} {e:Trk.Ed} (h:ExV L e) (hl:L≤M):ExV M e:=⟨h.x,h.v.mono hl,h.m,h.p,h.t,h.c,h.d,h.sn,h.sd⟩
theorem te_exM {n:Nat} {e:Trk.Ed} (he:TE n e) (hk:e.k≤4):ExV 1000000 e∧e.put.length≤7∧e.T≤63∧e.p≤60:=by
 cases he with
 |ins k a cl hk' a0 a1 hc=>
  obtain⟨hE,eT,eP⟩:=insert_v hc (by decide) k a hk' a0 (by omega)
  refine⟨hE,by rw[eP];exact hc.n,by rw[eT];have:=hc.t2;omega,by show a≤60;omega⟩
 |rem k a m hk' a0 a1 m0 m1=>
  rcases hk' with rfl |rfl
  ·exact⟨extract_v a m a0 (by omega) m0 (by omega),by show 0≤7;decide,by show m≤63;omega,by show a≤60;omega⟩
  exact⟨lift_v a m a0 (by omega) m0 (by omega),by show 1≤7;decide,by show m≤63;omega,by show a≤60;omega⟩
 |clip k d c hk' hc d0 d1=>exact absurd hk (by show ¬k≤4;omega)
 |speed sn sd c hc hs=>exact absurd hk (by show ¬(10:Int)≤4;decide)
theorem heeM {i:Nat} {t:List Trk.Clip} (h:Mk i t) (hi:i≤4) {e:Trk.Ed} (hT:e.T≤63) (hp:e.p≤60):(if e.k=1 then max e.p (Trk.total t) else e.p)+e.T≤2147483647:=by
 have:=h.tt
 split<;>omega
theorem ex_mk {i n:Nat} {t:List Trk.Clip} (h:Mk i t) (hi:i≤3) {e:Trk.Ed} (he:TE n e) (hk:e.k≤4):Mk (i+1) (Trk.nf (e.exl t)):=by
 obtain⟨hE,hpl,hT,hp⟩:=te_exM he hk
 have hE':=hE.mono (Lk_ge i)
 have hx:=hE.x
 have o:=hx.of h.v.good
 have q:=exl_vl (h.vt (by omega)) hE' (heeM h (by omega) hT hp)
 have ln:(e.exl t).length≤t.length+2+e.put.length:=Trk.exL_length h.v.good hx.p hx.rem_nonneg
 have hln:=Nat.le_trans (Trk.nf_length q.1.good) ln
 have hr:=hx.rem_nonneg
 have hput:=hx.put_total
 have h1:=h.l
 have h2:=h.tt
 refine⟨(Trk.nf_vl q.1 q.2.1).mono (Lk_mono (by omega)),Trk.nf_norm q.1.good,by omega,?_⟩
 refine Int.le_trans (Trk.nf_total q.1.good) ?_
 rw[o.t]
 omega
theorem adj_mk {i:Nat} {t:List Trk.Clip} (h:Mk i t) (hi:i≤3) {k:Int} {c:Nat} {d sn sd:Int} (hd:-6≤d∧d≤6) (hs:k=10→Trk.SpeedOK sn sd) (hk2:5≤k∧k≤10) (h0:Trk.adjCode t k c d sn sd=0):Mk (i+1) (Trk.nf (Trk.adjL t k c d sn sd)):=by
 unfold Trk.adjCode at h0
 split at h0
 ·cases h0
 split at h0
 ·cases h0
 rename_i hb
 split at h0
 ·cases h0
 rename_i hx
 have h1:=h.l
 have h2:=h.tt
 have ht:=Trk.adj_total t k c d sn sd (D:=6) hd.1 hd.2
 have hx2:∀ x∈Trk.adjL t k c d sn sd,Trk.okLen x:=Classical.not_not.1 fun h=>hx (.inr h)
 have hlen:∀ x∈t,-507≤x.len∧x.len≤507:=fun x hx=>by
  have h3:=Trk.len_le_total h.v.good hx
  have h4:=(h.v x hx).l.1
  omega
 have hcl:=Trk.adj_cls (L:=Lk i) (D:=6) (M:=507) (n:=t) (k:=k) (d:=d) (sn:=sn) (sd:=sd) (c:=c) (fun y hy=>(h.v y hy).c) hd.1 hd.2 hlen (by decide) (by
   by_cases h10:k=10
   ·exact .inr (.inr (.inr (.inr (.inr ⟨hs h10,fun h=>hb ⟨h10,h⟩⟩))))
   omega)
 have hvl:Trk.VL (Lk (i+1)) (Trk.adjL t k c d sn sd):=fun x hx=>⟨(hcl x hx).mono (by unfold Lk;omega),hx2 x hx⟩
 have hl:(Trk.adjL t k c d sn sd).length=t.length:=Trk.adjL_length _ _ _ _ _ _
 have hln:=Nat.le_trans (Trk.nf_length hvl.good) (Nat.le_of_eq hl)
 exact⟨Trk.nf_vl hvl (by omega),Trk.nf_norm hvl.good,by omega,by have:=Trk.nf_total hvl.good;omega⟩
theorem out_mk {i n:Nat} {t:List Trk.Clip} (h:Mk i t) (hi:i≤3) {e:Trk.Ed} (he:TE n e) (h0:(outOf t e).code=0):Mk (i+1) (outOf t e).u:=by
 unfold outOf at h0 ⊢
 by_cases hk:e.k≤4
 ·rw[if_pos hk]
  exact ex_mk h hi he hk
 rw[if_neg hk]at h0 ⊢
 by_cases hc:Trk.adjCode t e.k e.c.toNat e.d e.sn e.sd=0
 ·rw[if_pos hc]
  cases he with
  |ins k a cl hk' a0 a1 hc=>exact absurd (show k≤4 by omega) hk
  |rem k a m hk' a0 a1 m0 m1=>exact absurd (show k≤4 by omega) hk
  |clip k d c hk' hc' d0 d1=>exact adj_mk h hi (show -6≤d∧d≤6 by omega) (fun h=>absurd (show k=10 from h) (by omega)) (show 5≤k∧k≤10 by omega) hc
  |speed sn sd c hc' hs=>exact adj_mk h hi (show -6≤(0:Int)∧(0:Int)≤6 by decide) (fun _=>hs) (show(5:Int)≤10∧(10:Int)≤10 by decide) hc
 rw[if_neg hc]at h0
 exact absurd h0 hc
theorem apply_outM (v V:Value) (t:List Trk.Clip) (e:Trk.Ed) (i n:Nat) (w:World) (h:Tk w v t) (hu:Tk w V e.ins) (hM:Mk i t) (hi:i≤3) (he:TE n e) (hn:n≤1000) :
  Calls Tryz.prog 45 #[v,EdV e V] w (OutPost w (outOf t e)):=by
 have hl:=hM.l
 have hnf:=hM.n.nf
 have hL:Lk i≤1000000000:=by unfold Lk;omega
 by_cases hk:e.k≤4
 ·obtain⟨hE,hpl,hT,hp⟩:=te_exM he hk
  have hx:=ex_mk hM hi he hk
  have h1:=apply_x (L:=Lk i) v V t e w h hu (hM.vt (by omega)) (hE.mono (Lk_ge i)) (by omega) (by rw[hnf];omega) (by rw[hnf];exact heeM hM (by omega) hT hp) (by rw[hnf];have:=hx.l;omega)
  rw[hnf]at h1
  refine h1.mono fun ev w' hp=>?_
  unfold outOf
  rw[if_pos hk]
  exact out_of_ed hp
 cases he with
 |ins k a cl hk' a0 a1 hc=>exact absurd (show k≤4 by omega) hk
 |rem k a m hk' a0 a1 m0 m1=>exact absurd (show k≤4 by omega) hk
 | clip k d c hk' hc d0 d1 =>
  obtain⟨ao,cap,rfl,_,hcap,-⟩:=hu
  have h1:=apply_c (L:=Lk i) v t k c d cap ao w h (hM.vt (by omega)) hL (by rw[hnf];omega) hk' (by omega) hcap (by omega)
  rw[hnf,decide_eq_true (show d≠0∧-2147483647≤d∧d≤2147483647 by omega)]at h1
  refine h1.mono fun ev w' hp=>?_
  unfold outOf
  rw[if_neg hk]
  simp only[Int.toNat_natCast]
  rcases hp with⟨-,h0,hp⟩ |⟨ho,rfl,hb⟩
  ·rw[if_pos h0]
   exact out_of_ed hp
  have hne:Trk.adjCode t k c d 0 0≠0:=ho.resolve_left (by decide)
  rw[if_neg hne]
  exact out_of_no hb
 | speed sn sd c hc hs =>
  obtain⟨ao,cap,rfl,_,hcap,-⟩:=hu
  have h1:=apply_r (L:=Lk i) v t c sn sd cap ao w h (hM.vt (by omega)) hL (by rw[hnf];omega) (by omega) hcap hs
  rw[hnf]at h1
  refine h1.mono fun ev w' hp=>?_
  unfold outOf
  rw[if_neg hk]
  simp only[Int.toNat_natCast]
  rcases hp with⟨-,h0,hp⟩ |⟨ho,rfl,hb⟩
  ·rw[if_pos h0]
   exact out_of_ed hp
  have hne:Trk.adjCode t 10 c 0 sn sd≠0:=ho.resolve_left (by decide)
  rw[if_neg hne]
  exact out_of_no hb
theorem mk_of {l:List Trk.Clip} {c:Trk.Clip} (h:ShortL l) (hl:l.length≤12) (hc:Short c):Mk 0 (Trk.nf (l++[c])):=by
 have hs:=h.snoc hc
 have hv:Trk.VL 1000000 (l++[c]):=fun x hx=>(hs x hx).1
 have ht:=short_total hs
 have hlen:(l++[c]).length≤13:=by simp;omega
 have htt:Trk.total (l++[c])≤117:=by omega
 exact⟨Trk.nf_vl hv (by omega),Trk.nf_norm hv.good,Nat.le_trans (Trk.nf_length hv.good) hlen,Int.le_trans (Trk.nf_total hv.good) htt⟩
def ThreePost (w:World) (e:Ending) (w':World):Prop:=∃ v a b l m n,e=.returned (.tuple #[v,a,b])∧OT w' w.heap.size v l∧OT w' w.heap.size a m∧OT w' w.heap.size b n∧Mk 3 l∧Mk 3 m∧Mk 3 n∧Below w.heap.size w w'
theorem three_any (v:Value) (w:World) (h:Ints w v):Calls Tryz.prog 15 #[v] w (ThreePost w):=by
 obtain⟨ao,n,cp,rfl,hnc,hn,hI⟩:=h
 have HI:=Hd hI
 clear hI
 go_enter Tryz.func15,Tryz.ntmps15
 go_upto_region 2 with fail
 obtain⟨w1,hw1⟩:=Xq (w.alloc (.cells #[.slice ao n cp,.int .i64 0] 52))
 rw[← hw1]
 obtain⟨p,hp⟩:=Xq (w.heap.size)
 have HB:=Hd (show Below w.heap.size w w1 by rw[hw1];exact below_box _ _)
 have HT:=Hd (show TP w1 w.heap.size p 0 by
  refine⟨by omega,by rw[hw1,hp];simp[go_sem],ao,n,cp,by rw[hw1,hp];simp[go_sem],by rw[hw1,hp];simp[go_sem],by rw[hw1,hp];simp[go_sem],hnc,hn,fun i hi=>?_⟩
  obtain⟨b,o,x,e,hc⟩:=HI.out i hi
  exact⟨b,o,x,e,block_lt_of_cell hc,(HB.out.cell (block_lt_of_cell hc)).trans hc⟩)
 have HP:=Hd hp
 have HP1:=Hd HT.out.2.1
 have HLW:=Hd (show w.heap.size≤w1.heap.size from HB.out.size)
 rw[← hp]
 clear hw1 hp
 go_wp2_with fail
 refine(track_any w.heap.size p 0 5 w1 HT.out (by omega) (by omega)).mono ?_
 rintro e w2 ⟨⟨vt,l,rfl,ho,hs,hl⟩,⟨k2,hk2,hT_⟩,ht⟩
 have HO:=Hd ho
 have HS:=Hd hs
 replace HB:=Hd (ht.b _ _ (by have:=HP.out;omega) HB.out)
 have HS1:=Hd (show w1.heap.size≤w2.heap.size from ht.s)
 replace HT:=Hd hT_
 clear ho hs hT_ ht
 go_wp2_with fail
 refine(clip_any w.heap.size p k2 _ HT.out (by omega)).mono ?_
 rintro e w4 ⟨⟨z,rfl,hz⟩,⟨k4,hk4,hT_⟩,ht⟩
 replace HO:=Hd (HO.out.turn ht HP1.out)
 replace HS1:=Hd (Nat.le_trans HS1.out ht.s)
 replace HB:=Hd (ht.b _ _ (by have:=HP.out;omega) HB.out)
 replace HT:=Hd hT_
 have HZ:=Hd hz
 clear hT_ ht hz
 unfold clipV
 obtain⟨C,hC⟩:=Xq ((clipC z).toArray)
 rw[← hC]
 have HCC:=Hd hC
 clear hC
 dsimp only
 iterate 1 go_step
 refine Great.wpList_buildSliceTo rfl 23 48 1 #[(0,.tmp 22)] rfl w4.heap.size rfl _ rfl Tryz.underlying23 C ?_ ?_
 ·simp only[List.map_toArray,List.map_cons,List.map_nil,List.toList_toArray]
  rw[HCC.out]
  exact built_clip z
 have hbx:CA (w4.alloc (.cells C 48)) w4.heap.size 0 z:=by rw[HCC.out];exact CA.box w4 z 48
 have hb:Below w4.heap.size w4 (w4.alloc (.cells C 48)):=below_box _ _
 have hsz:w1.heap.size≤(w4.alloc (.cells C 48)).heap.size:=Nat.le_trans HS1.out hb.size
 replace HO:=Hd (HO.out.below hb)
 have HBX:=Hd hb
 clear hb
 simp only[Act.put,sA1,sB1,sC1]
 refine wpList_appT 23 Tryz.underlying23 _ rfl (.tmp 20) (.tmp 23) rfl rfl w1.heap.size vt l rfl HO.out hsz w4.heap.size 1 z rfl hbx (by omega) ?_
 intro vn w5 q1 q2 q3 q4
 simp only[Act.put,sA1,sB1,sC1]
 have hbl:Below w1.heap.size w4 w5:=(HBX.out.mono HS1.out).trans q2
 have HTK:=Hd q1.tk
 replace HT:=Hd (HT.out.low (n:=w1.heap.size) (by have:=HP1.out;have:=HP.out;omega) HP1.out hbl)
 replace HB:=Hd (HB.out.trans (hbl.mono (by have:=HP1.out;have:=HP.out;omega)))
 have hsl:=HS.out.snoc HZ.out.short
 have hv:Trk.VL 1000000 (l++[z]):=fun x hx=>(hsl x hx).1
 have htl:=short_total hsl
 have hll:(l++[z]).length≤13:=by simp;omega
 have HNO:=Hd (fun w (h:Tk w vn (l++[z]))=>normal_any (L:=1000000) vn (l++[z]) w h ⟨hv,by omega,by omega⟩ (by decide))
 have HMA:=Hd (mk_of HS.out (by omega) HZ.out.short)
 have HS5:=Hd (show w1.heap.size≤w5.heap.size from Nat.le_trans HS1.out (Nat.le_trans HBX.out.size q4))
 clear q1 q2 q3 q4 hbl hbx hsz hsl hv htl hll
 go_wp2_with fail
 refine(HNO.out _ HTK.out).mono ?_
 rintro e w6 ⟨vm,rfl,ho,hb⟩
 obtain⟨t,ht⟩:=Xq (Trk.nf (l++[z]))
 rw[← ht]at ho HMA
 clear ht
 have HO2:=Hd (ho.lower HS5.out)
 replace HT:=Hd (HT.out.low (n:=w5.heap.size) (Nat.le_of_lt (Nat.lt_of_le_of_lt HT.out.1 HT.out.2.1)) HT.out.2.1 hb)
 replace HB:=Tb HB hb
 replace HS1:=Hd (show w1.heap.size≤w6.heap.size from Nat.le_trans HS5.out hb.size)
 clear ho hb HNO HTK HO HS HZ HCC HBX HS5 HI
 go_wp2_with fail
 refine(next_any w.heap.size p k4 3 _ HT.out (by omega) (by omega) (by omega)).mono ?_
 rintro e w7 ⟨r,rfl,r0,r1,hT_,hg_⟩
 have ht:=Turn.grown hg_ HT.out.2.1
 replace HO2:=Hd (HO2.out.turn ht HP1.out)
 replace HS1:=Hd (Nat.le_trans HS1.out ht.s)
 replace HB:=Hd (ht.b _ _ (by have:=HP.out;omega) HB.out)
 replace HT:=Hd hT_
 clear hT_ hg_ ht
 obtain⟨K,hK⟩:=Xq (k4+1)
 rw[← hK]at HT
 have hK2:K≤200:=by omega
 clear hK hk4 hk2 hl
 go_upto_region 4 with fail
 go_loopw [7,8,9] (fun v7 v8 v9 wr=>∃ (i:Int) (k:Nat) (a b:List Trk.Clip),v9=.int .i64 i∧-1≤i∧i≤2∧(k:Int)≤200+500*(2-i)∧OT wr w1.heap.size vm t∧OT wr w1.heap.size v7 a∧OT wr w1.heap.size v8 b∧Mk (2-i).toNat a∧Mk (2-i).toNat b∧TP wr w.heap.size p k∧Below w.heap.size w wr∧w1.heap.size≤wr.heap.size) (fun _ _ i _=>(intOf i+1).toNat)
 case atStart=>exact⟨r,K,t,t,rfl,by omega,by omega,by omega,HO2.out,HO2.out,HO2.out,HMA.out.mono (Nat.zero_le _),HMA.out.mono (Nat.zero_le _),HT.out,HB.out,HS1.out⟩
 case round =>
  clear HO2 HT HB HS1 hK2 r0 r1 K
  obtain⟨i,k,a,b,rfl,i0,i1,hk,hot,hoa,hob,hma,hmb,htp,hb,hs⟩:=hrel
  have HO:=Hd hot
  have HOA:=Hd hoa
  have HOB:=Hd hob
  have HA:=Hd hma
  have HBB:=Hd hmb
  have HT:=Hd htp
  have HB:=Hd hb
  have HS1:=Hd hs
  clear hot hoa hob hma hmb htp hb hs
  by_cases hi:0≤i
  ·obtain⟨j,hj⟩:=Xq ((2-i).toNat)
   rw[← hj]at HA HBB
   have hj2:(j:Int)=2-i:=by omega
   clear hj
   obtain⟨x,c,rfl,hxc⟩:=HOA.out.tk
   clear hxc
   obtain⟨N,hN⟩:=Xq (a.length)
   have hN2:N≤33:=by rw[hN];have:=HA.out.l;omega
   rw[← hN]at HOA ⊢
   clear hN
   have HTE0:=Hd (tedit_any w.heap.size p k N wr HT.out (by omega) (by omega))
   go_upto_region 7 with fail
   apply wp_region_lit
   iterate 14 go_step
   refine HTE0.out.mono ?_
   rintro e w2 ⟨⟨ed,ao2,l2,cp2,rfl,hte,hcl⟩,⟨k2,hk2,hT_⟩,ht⟩
   replace HO:=Hd (HO.out.turn ht HP1.out)
   replace HOA:=Hd (HOA.out.turn ht HP1.out)
   replace HOB:=Hd (HOB.out.turn ht HP1.out)
   replace HS1:=Hd (Nat.le_trans HS1.out ht.s)
   replace HB:=Hd (ht.b _ _ (by have:=HP.out;omega) HB.out)
   replace HT:=Hd hT_
   have HTE:=Hd hte
   have HCL:=Hd hcl
   clear hte hcl hT_ ht HTE0
   have HAP:=Hd (fun w (h:Tk w (.slice x N c) a) (hu:Tk w (.slice ao2 l2 cp2) ed.ins)=>apply_outM (.slice x N c) (.slice ao2 l2 cp2) a ed j N w h hu HA.out (by omega) HTE.out (by omega))
   have HOK:=Hd (out_mk HA.out (by omega) HTE.out)
   obtain⟨O,hO⟩:=Xq (outOf a ed)
   rw[← hO]at HAP HOK
   clear hO HTE
   unfold EdV edV
   try dsimp only
   iterate 3 go_step
   refine(HAP.out _ HOA.out.tk HCL.out.tk).mono ?_
   rintro e w3 ⟨vu,ra,rl,rc,rfl,hou,hor,hb⟩
   have HU:=Hd (hou.lower HS1.out)
   replace HO:=Hd (HO.out.below hb)
   replace HOA:=Hd (HOA.out.below hb)
   replace HOB:=Hd (HOB.out.below hb)
   replace HT:=Hd (HT.out.low (n:=w2.heap.size) (Nat.le_of_lt (Nat.lt_of_le_of_lt HT.out.1 HT.out.2.1)) HT.out.2.1 hb)
   replace HB:=Tb HB hb
   replace HS1:=Hd (Nat.le_trans HS1.out hb.size)
   clear hb hou hor HAP HCL
   unfold EdV edV
   try dsimp only
   iterate 19 go_step
   have hv:ED (w3.alloc (.cells (edC 0 0 0 0 0 0 0 (.slice none 0 0)) 40)) w3.heap.size 0 0 0 0 0 0 0 (.slice none 0 0):=ED.box w3 0 0 0 0 0 0 0 (.slice none 0 0) rfl 40
   have hb0:Below w3.heap.size w3 (w3.alloc (.cells (edC 0 0 0 0 0 0 0 (.slice none 0 0)) 40)):=below_box _ _
   refine wpl_storeE O.b.k O.b.p O.b.m O.b.c O.b.d O.b.sn O.b.sd ra rl rc hv rfl rfl rfl rfl ?_
   intro w4 q1 q2 q3 q4 q5
   have hb:Below w3.heap.size w3 w4:=q4 _ _ (Nat.le_refl _) hb0
   obtain⟨g7,hgE⟩:=Xq (w3.heap.size)
   rw[← hgE]
   clear q1 q2 q3 q4 q5 hb0 hv hgE
   replace HU:=Hd (HU.out.below hb)
   replace HO:=Hd (HO.out.below hb)
   replace HOA:=Hd (HOA.out.below hb)
   replace HOB:=Hd (HOB.out.below hb)
   replace HT:=Hd (HT.out.low (n:=w3.heap.size) (Nat.le_of_lt (Nat.lt_of_le_of_lt HT.out.1 HT.out.2.1)) HT.out.2.1 hb)
   replace HB:=Tb HB hb
   replace HS1:=Hd (Nat.le_trans HS1.out hb.size)
   clear hb
   simp only[Act.put,sA1,sB1,sC1]
   obtain⟨k',hk'⟩:=Xq (k2)
   rw[← hk']at HT
   have hk3:(k':Int)≤200+500*(2-i)+200:=by omega
   clear hk hk2 hk'
   obtain⟨k,hk⟩:=Xq (k')
   rw[← hk]at HT hk3
   clear hk
   have hk:=hk3
   clear hk3
   go_upto_if 45 with fail
   go_cut [7] from 46 to 46 (fun v7' wx=>wx=w4∧∃ a',OT w4 w1.heap.size v7' a'∧Mk (j+1) a')
   case first=>
    by_cases hc:O.code=0
    ·have HM3:=Hd (HOK.out hc)
     go_wp2_with fail
     go_meet
     case rel=>exact⟨rfl,_,HU.out,HM3.out⟩
    have HM3:=Hd (HA.out.mono (Nat.le_succ j))
    go_wp2_with fail
    go_meet
    case rel=>exact⟨rfl,_,HOA.out,HM3.out⟩
   case rest=>
   obtain⟨rfl,a',hoa',hma'⟩:=hcut
   replace HOA:=Hd hoa'
   replace HA:=Hd hma'
   clear hoa' hma' HU HOK
   obtain⟨x,c,rfl,hxc⟩:=HOB.out.tk
   clear hxc
   obtain⟨N,hN⟩:=Xq (b.length)
   have hN2:N≤33:=by rw[hN];have:=HBB.out.l;omega
   rw[← hN]at HOB ⊢
   clear hN
   have HTE0:=Hd (tedit_any w.heap.size p k N wc HT.out (by omega) (by omega))
   go_upto_region 10 with fail
   apply wp_region_lit
   iterate 14 go_step
   refine HTE0.out.mono ?_
   rintro e w2 ⟨⟨ed,ao2,l2,cp2,rfl,hte,hcl⟩,⟨k2,hk2,hT_⟩,ht⟩
   replace HO:=Hd (HO.out.turn ht HP1.out)
   replace HOA:=Hd (HOA.out.turn ht HP1.out)
   replace HOB:=Hd (HOB.out.turn ht HP1.out)
   replace HS1:=Hd (Nat.le_trans HS1.out ht.s)
   replace HB:=Hd (ht.b _ _ (by have:=HP.out;omega) HB.out)
   replace HT:=Hd hT_
   have HTE:=Hd hte
   have HCL:=Hd hcl
   clear hte hcl hT_ ht HTE0
   have HAP:=Hd (fun w (h:Tk w (.slice x N c) b) (hu:Tk w (.slice ao2 l2 cp2) ed.ins)=>apply_outM (.slice x N c) (.slice ao2 l2 cp2) b ed j N w h hu HBB.out (by omega) HTE.out (by omega))
   have HOK:=Hd (out_mk HBB.out (by omega) HTE.out)
   obtain⟨O,hO⟩:=Xq (outOf b ed)
   rw[← hO]at HAP HOK
   clear hO HTE
   unfold EdV edV
   try dsimp only
   iterate 3 go_step
   refine(HAP.out _ HOB.out.tk HCL.out.tk).mono ?_
   rintro e w3 ⟨vu,ra,rl,rc,rfl,hou,hor,hb⟩
   have HU:=Hd (hou.lower HS1.out)
   replace HO:=Hd (HO.out.below hb)
   replace HOA:=Hd (HOA.out.below hb)
   replace HOB:=Hd (HOB.out.below hb)
   replace HT:=Hd (HT.out.low (n:=w2.heap.size) (Nat.le_of_lt (Nat.lt_of_le_of_lt HT.out.1 HT.out.2.1)) HT.out.2.1 hb)
   replace HB:=Tb HB hb
   replace HS1:=Hd (Nat.le_trans HS1.out hb.size)
   clear hb hou hor HAP HCL
   unfold EdV edV
   try dsimp only
   iterate 19 go_step
   have hv:ED (w3.alloc (.cells (edC 0 0 0 0 0 0 0 (.slice none 0 0)) 40)) w3.heap.size 0 0 0 0 0 0 0 (.slice none 0 0):=ED.box w3 0 0 0 0 0 0 0 (.slice none 0 0) rfl 40
   have hb0:Below w3.heap.size w3 (w3.alloc (.cells (edC 0 0 0 0 0 0 0 (.slice none 0 0)) 40)):=below_box _ _
   refine wpl_storeE O.b.k O.b.p O.b.m O.b.c O.b.d O.b.sn O.b.sd ra rl rc hv rfl rfl rfl rfl ?_
   intro w4 q1 q2 q3 q4 q5
   have hb:Below w3.heap.size w3 w4:=q4 _ _ (Nat.le_refl _) hb0
   obtain⟨g7,hgE⟩:=Xq (w3.heap.size)
   rw[← hgE]
   clear q1 q2 q3 q4 q5 hb0 hv hgE
   replace HU:=Hd (HU.out.below hb)
   replace HO:=Hd (HO.out.below hb)
   replace HOA:=Hd (HOA.out.below hb)
   replace HOB:=Hd (HOB.out.below hb)
   replace HT:=Hd (HT.out.low (n:=w3.heap.size) (Nat.le_of_lt (Nat.lt_of_le_of_lt HT.out.1 HT.out.2.1)) HT.out.2.1 hb)
   replace HB:=Tb HB hb
   replace HS1:=Hd (Nat.le_trans HS1.out hb.size)
   clear hb
   simp only[Act.put,sA1,sB1,sC1]
   obtain⟨k',hk'⟩:=Xq (k2)
   rw[← hk']at HT
   have hk3:(k':Int)≤200+500*(2-i)+400:=by omega
   clear hk hk2 hk'
   obtain⟨k,hk⟩:=Xq (k')
   rw[← hk]at HT hk3
   clear hk
   have hk:=hk3
   clear hk3
   go_upto_region 11 with fail
   by_cases hc:O.code=0
   ·have HM3:=Hd (HOK.out hc)
    go_wp2_with fail
    refine(next_any w.heap.size p k 3 _ HT.out (by omega) (by omega) (by omega)).mono ?_
    rintro e w5 ⟨r,rfl,r0,r1,hT_,hg_⟩
    have ht:=Turn.grown hg_ HT.out.2.1
    replace HO:=Hd (HO.out.turn ht HP1.out)
    replace HOA:=Hd (HOA.out.turn ht HP1.out)
    replace HOB:=Hd (HOB.out.turn ht HP1.out)
    replace HU:=Hd (HU.out.turn ht HP1.out)
    replace HS1:=Hd (Nat.le_trans HS1.out ht.s)
    replace HB:=Hd (ht.b _ _ (by have:=HP.out;omega) HB.out)
    replace HT:=Hd hT_
    clear hT_ hg_ ht
    by_cases hr:0<r
    ·go_wp2_with fail
     go_roundw
     case rel=>exact⟨i-1,k+1,_,_,rfl,by omega,by omega,by omega,HO.out,HOA.out,HU.out,by rw[show(2-(i-1)).toNat=j+1 by omega];exact HA.out,by rw[show(2-(i-1)).toNat=j+1 by omega];exact HM3.out,HT.out,HB.out,HS1.out⟩
     case measure=>
      simp[intOf]
      omega
    go_wp2_with fail
    go_roundw
    case rel=>exact⟨i-1,k+1,_,_,rfl,by omega,by omega,by omega,HO.out,HOA.out,HOB.out,by rw[show(2-(i-1)).toNat=j+1 by omega];exact HA.out,by rw[show(2-(i-1)).toNat=j+1 by omega];exact HBB.out.mono (Nat.le_succ j),HT.out,HB.out,HS1.out⟩
    case measure=>
     simp[intOf]
     omega
   go_wp2_with fail
   go_roundw
   case rel=>exact⟨i-1,k,_,_,rfl,by omega,by omega,by omega,HO.out,HOA.out,HOB.out,by rw[show(2-(i-1)).toNat=j+1 by omega];exact HA.out,by rw[show(2-(i-1)).toNat=j+1 by omega];exact HBB.out.mono (Nat.le_succ j),HT.out,HB.out,HS1.out⟩
   case measure=>
    simp[intOf]
    omega
  have hi2:i=-1:=by omega
  subst hi2
  have HA3:=Hd (show Mk 3 a from HA.out)
  have HB3:=Hd (show Mk 3 b from HBB.out)
  go_wp2_with fail
  go_ret3
  exact⟨_,_,_,_,_,_,rfl,HO.out.lower HLW.out,HOA.out.lower HLW.out,HOB.out.lower HLW.out,HMA.out.mono (by decide),HA3.out,HB3.out,HB.out⟩
theorem three_ti (v:Value) (w:World) (h:Ints w v):Calls Tryz.prog 15 #[v] w (ThreeTI w):=by
 refine(three_any v w h).mono ?_
 rintro e w' ⟨v',a,b,l,m,n,rfl,h1,h2,h3,k1,k2,k3,hb⟩
 exact⟨_,_,_,l,m,n,rfl,h1.ti (k1.vt (by decide)) (by decide),h2.ti (k2.vt (by decide)) (by decide),h3.ti (k3.vt (by decide)) (by decide),hb⟩
theorem law_merges (v0 v1 v2 v3:Value) (l0 l1 l2:List Trk.Clip) (w:World) (h0:GT w v0 l0) (h1:GT w v1 l1) (h2:GT w v2 l2) (h3:Ints w v3) :
  Calls Tryz.prog 3 #[v0,v1,v2,v3] w fun e w'=>e=.returned (.bool true)∧Below w.heap.size w w':=
 merges_of v0 v1 v2 v3 l0 l1 l2 w h0.ti h1.ti h2.ti (three_ti v3 w h3)
open Go.ChangeShapes Go.WideShapes Go.ChangeAt Go.RowKit
theorem laid_out:laidOutB Tryz.prog=true:=by kernel_rfl
theorem cells3:Tryz.prog.cellsOf 3=1:=by kernel_rfl
section
variable {P:Program} {H:Type} {enc:TypeId×Value→H}
theorem post_of_below {f:Func} {s:ChangeSpec} {apart fresh handsOn again:Bool} {W W':World} {args:Array Value} {v:Value} {ds gs:List (DataW H)} {before pa pv:List MemPlace}
  (hW:DataW.Whole enc P f.params.toList s.vars apart W args.toList ds gs before)
  (hres:∀ (b:Nat) (sp:Nat→Bool) (hd:Bool),DataW.TrodAll enc P W' b sp hd f.resultTypes.toList (v.resultList f.resultTypes.size) (s.fn H (ds++gs)).results [])
  (hargs:∀ sp:Nat→Bool,(∀ p∈before,sp p.block=true)→DataW.TrodAll enc P W' 0 sp true f.params.toList args.toList (s.fn H (ds++gs)).args pa)
  (hvars:∀ sp:Nat→Bool,(∀ p∈before,sp p.block=true)→DataW.TrodVars enc P W' sp s.vars (s.fn H (ds++gs)).vars pv)
  (hps:before=pa++pv) (hb:Below W.heap.size W W')
  (hok:∀ (j:Nat) (t:TypeId) (r:Value),f.resultTypes[j]?=some t→(v.resultList f.resultTypes.size)[j]?=some r→Value.okWide P W' .any 0 t r) :
  s.post enc P f apart fresh handsOn again W args v W':=by
 have old:∀ p∈before,(fun b=>decide (b<W.heap.size)) p.block=true:=fun p hp=>by simpa using hW.lt p hp
 have kept:W.keptBut W' (·∈before):=hb.frame _
 refine⟨ds,gs,before,[],pa,pv,hW,hres _ _ _,hargs _ old,hvars _ old,World.keptBut_mono (fun p hp=>⟨hp,by rw[hps,List.mem_append]at hp;exact Or.inr hp⟩) kept,fun _=>?_⟩
 have lt:=hW.lt
 obtain⟨_,_,_,_,_,hz,hn⟩:=hW
 refine⟨hok,_,_,([]++pa)++pv,⟨[]++pa,pv,trodAll_append (hargs _ (fun _ _=>rfl)) (hres _ _ _),hvars _ (fun _ _=>rfl),rfl,?_,?_⟩,?_⟩
 ·intro b off hp
  have hp':MemPlace.cell b off∈before:=by rw[hps];simpa using hp
  rw[hb.frozen (p:=⟨b,off,none⟩) (lt _ hp')]
  exact hz b off hp'
 ·intro ha
  have h:=hn ha
  rw[hps]at h
  simpa using h
 intro p hp _
 rw[hps]
 simpa using hp
end
section
variable {H:Type} {enc:TypeId×Value→H}
theorem trodAll_stays {P:Program} (hl:laidOutB P=true) {W W':World} {sp:Nat→Bool} (hb:Below W.heap.size W W'):∀ {ts:List TypeId} {vs:List Value} {ds:List (DataW H)} {ps:List MemPlace},(ts.all fun t=>P.readableRec t&&decide (t<P.types.size))=true →
  DataW.TrodAll enc P W 0 (fun _=>true) true ts vs ds ps→(∀ x∈ps,x.block<W.heap.size)→(∀ x∈ps,sp x.block=true)→DataW.TrodAll enc P W' 0 sp true ts vs ds ps:=by
 intro ts
 induction ts with
 | nil =>
  intro vs ds ps _ h _ _
  cases vs with
  |nil=>cases ds with
   |nil=>exact h
   |cons=>exact h.elim
  |cons=>exact h.elim
 | cons t ts ih =>
  intro vs ds ps hr h hlt hs
  cases vs with
  |nil=>exact h.elim
  | cons v vs => cases ds with
   |nil=>exact h.elim
   | cons d ds =>
    obtain⟨p,q,h1,h2,rfl⟩:=h
    simp only[List.all_cons,Bool.and_eq_true,decide_eq_true_eq]at hr
    exact⟨p,q,WideElems.Trod_stays hl hr.1.1 hr.1.2 h1 (fun x hx=>hb.same (hlt x (List.mem_append_left _ hx))) (fun x hx=>hs x (List.mem_append_left _ hx)),
     ih hr.2 h2 (fun x hx=>hlt x (List.mem_append_right _ hx)) (fun x hx=>hs x (List.mem_append_right _ hx)),rfl⟩
theorem open_tape {W:World} {base:Nat} {v:Value} {d:DataW H} {p:List MemPlace} (hval:Value.okWide Tryz.prog W .any base 24 v) (h:DataW.Trod enc Tryz.prog W 0 (fun _=>true) true 24 v d p):Ints W v:=by
 obtain⟨a1,len,cap,rfl⟩:=okWide_slice Tryz.underlying24 hval
 obtain⟨fuel,hf⟩:=h
 rcases open_ints Tryz.underlying24 Tryz.underlying3 cells3 hf with⟨hcs,hx⟩ |⟨a,len',cap',zs,hcs,_,hl,hm,hz,hx,hcell,hwz⟩
 ·simp[Value.cells]at hcs
  obtain⟨rfl,rfl,rfl⟩:=hcs
  exact⟨none,0,0,rfl,Nat.le_refl _,by omega,fun i hi=>absurd hi (Nat.not_lt_zero i)⟩
 simp[Value.cells]at hcs
 obtain⟨rfl,rfl,rfl⟩:=hcs
 simp only[if_true]at hz
 refine⟨_,_,_,rfl,hl,by unfold maxLen at hm;omega,fun i hi=>?_⟩
 obtain⟨ab,ao,spot⟩:=a
 have hspot:spot=none:=by simpa [Addr.add] using World.cell?_spot (hcell 0 (by omega))
 subst hspot
 have hc:=hcell i (by omega)
 rw[Addr.add_lit]at hc
 exact⟨ab,ao,_,rfl,hc⟩
end
open Go.ChangeShapes Go.WideShapes Go.ChangeAt Go.RowKit
theorem cellsT2:Tryz.prog.cellsOf 2=1:=by kernel_rfl
theorem cellsT3:Tryz.prog.cellsOf 3=1:=by kernel_rfl
theorem cellsT4:Tryz.prog.cellsOf 4=1:=by kernel_rfl
theorem cellsT9:Tryz.prog.cellsOf 9=1:=by kernel_rfl
theorem cellsT38:Tryz.prog.cellsOf 38=2:=by kernel_rfl
theorem cellsT24:Tryz.prog.cellsOf 24=1:=by kernel_rfl
theorem cellsT46:Tryz.prog.cellsOf 46=7:=by kernel_rfl
theorem cellsT48:Tryz.prog.cellsOf 48=22:=by kernel_rfl
section
variable {H:Type} {enc:TypeId×Value→H}
theorem slice_at {W:World} {n:Nat} {c:Value} {t e:TypeId} {k:Nat} {y:DataW H×List MemPlace} (ht:Tryz.prog.underlying t=some (.slice e)) (hC:Tryz.prog.cellsOf e=k) (hk:0<k) (h:DataW.trod enc Tryz.prog W 0 (fun _=>true) true n t [c]=some y) :
  ∃ ao len cap,c=.slice ao len cap∧len≤cap∧cap≤maxLen∧∀ i,i<len→∃ b o cs' n' y',ao=some ⟨b,o,none⟩∧cs'.length=k∧(∀ j,j<k→W.cell? ⟨b,o+i*k+j,none⟩=cs'[j]?)∧DataW.trod enc Tryz.prog W 0 (fun _=>true) true n' e cs'=some y':=by
 rcases Go.Deep.open_slice ht h with⟨hcs,_⟩ |⟨a,len,cap,m,n',D,Pl,hcs,_,hl,hm,hmm,_,hi⟩
 ·obtain rfl:c=.slice none 0 0:=by simpa using hcs
  exact⟨none,0,0,rfl,Nat.le_refl _,Nat.zero_le _,fun i hi=>absurd hi (Nat.not_lt_zero i)⟩
 obtain rfl:c=.slice (some a) len cap:=by simpa using hcs
 simp only[if_true]at hmm
 subst hmm
 refine⟨_,len,m,rfl,hl,hm,fun i hil=>?_⟩
 obtain⟨ab,ao,spot⟩:=a
 have hspot:spot=none:=by
  obtain⟨cs0,hc0,_⟩:=hi 0 (by omega)
  rw[hC]at hc0
  obtain⟨_,hl0,hat0⟩:=World.cells?_some hc0
  have h0:=hat0 0 hk
  rw[List.getElem?_eq_getElem (by omega)]at h0
  have:=World.cell?_spot h0
  simpa [Addr.add] using this
 subst hspot
 obtain⟨cs',hc',ht'⟩:=hi i (by omega)
 rw[hC]at hc'
 obtain⟨_,hl',hat⟩:=World.cells?_some hc'
 refine⟨ab,ao,cs',n',_,rfl,hl',fun j hj=>?_,ht'⟩
 have:=hat j hj
 rw[Addr.add_lit,Addr.add_lit]at this
 exact this
theorem list_of {α:Type} {P:Nat→α→Prop} (len:Nat) (h:∀ i,i<len→∃ a,P i a):∃ l:List α,l.length=len∧∀ i a,l[i]?=some a→P i a:=by
 induction len with
 |zero=>exact⟨[],rfl,fun i a h=>by simp at h⟩
 | succ len ih =>
  obtain⟨l,hl,hp⟩:=ih (fun i hi=>h i (by omega))
  obtain⟨a,ha⟩:=h len (by omega)
  refine⟨l++[a],by simp[hl],fun i b hb=>?_⟩
  by_cases hi:i<l.length
  ·rw[List.getElem?_append_left hi]at hb
   exact hp i b hb
  rw[List.getElem?_append_right (by omega)]at hb
  have hi2:i=len:=by
   have:=(List.getElem?_eq_some_iff.1 hb).1
   simp at this
   omega
  subst hi2
  rw[hl,Nat.sub_self]at hb
  simp at hb
  rw[← hb]
  exact ha
theorem int_of {W:World} {n:Nat} {c:Value} {t:TypeId} {y:DataW H×List MemPlace} (ht:Tryz.prog.underlying t=some (.int .i64)) (h:DataW.trod enc Tryz.prog W 0 (fun _=>true) true n t [c]=some y) :
  ∃ a,c=.int .i64 a∧-9223372036854775808≤a∧a≤9223372036854775807:=by
 obtain⟨a,e,_,hw⟩:=DataW.trod_int ht h
 exact⟨a,by simpa using e,by simpa [Lit.wf,IntKind.min,IntKind.max,IntKind.signed,IntKind.bits] using hw⟩
theorem text_of {W:World} {n:Nat} {c:Value} {y:DataW H×List MemPlace} (h:DataW.trod enc Tryz.prog W 0 (fun _=>true) true n 9 [c]=some y) :
  ∃ s,c=.string s∧s.size<9223372036854775808:=by
 obtain⟨s,e,_,hm⟩:=DataW.trod_string Tryz.underlying9 h
 exact⟨s,by simpa using e,Nat.lt_of_le_of_lt hm (by unfold maxLen;decide)⟩
theorem ints_of {W:World} {n:Nat} {c:Value} {y:DataW H×List MemPlace} (h:DataW.trod enc Tryz.prog W 0 (fun _=>true) true n 24 [c]=some y):∃ l,IT W c l:=by
 obtain⟨ao,len,cap,rfl,hl,hm,hi⟩:=slice_at Tryz.underlying24 cellsT3 (by decide) h
 obtain⟨l,hll,hp⟩:=list_of (P:=fun i a=>∃ b o,ao=some ⟨b,o,none⟩∧b<W.heap.size∧W.cell? ⟨b,o+i,none⟩=some (.int .i64 a)) len (fun i hil=>by
  obtain⟨b,o,cs',n',y',rfl,hlen,hat,ht⟩:=hi i hil
  match cs',hlen with
  |[c0],_=>
   obtain⟨a,rfl,_⟩:=int_of Tryz.underlying3 ht
   have hc:=hat 0 (by decide)
   simp only[Nat.mul_one,Nat.add_zero,List.getElem?_cons_zero]at hc
   exact⟨a,b,o,rfl,block_lt_of_cell hc,hc⟩)
 subst hll
 exact⟨l,ao,cap,rfl,hl,hm,hp⟩
theorem rat_of {W:World} {n:Nat} {cs:List Value} {y:DataW H×List MemPlace} (h:DataW.trod enc Tryz.prog W 0 (fun _=>true) true n 38 cs=some y) :
  ∃ a b,cs=[.int .i64 a,.int .i64 b]∧(-9223372036854775808≤a∧a≤9223372036854775807)∧-9223372036854775808≤b∧b≤9223372036854775807:=by
 obtain⟨xs,n2,_,hx,hl,hxl,hg⟩:=DataW.trod_struct Tryz.underlying38 h
 rw[cellsT38]at hl
 match cs,hl with
 | [c0, c1], _ =>
  match xs,hxl with
  |[y0,y1],_=>
   have h0:=hg 0 _ rfl
   have h1:=hg 1 _ rfl
   simp[cellsT2]at h0 h1
   obtain⟨a,rfl,ha⟩:=int_of Tryz.underlying2 h0
   obtain⟨b,rfl,hb⟩:=int_of Tryz.underlying2 h1
   exact⟨a,b,rfl,ha,hb⟩
theorem src_of {W:World} {n:Nat} {cs:List Value} {y:DataW H×List MemPlace} (h:DataW.trod enc Tryz.prog W 0 (fun _=>true) true n 46 cs=some y) :
  ∃ s:Trk.Src,cs=[.int .i64 s.kind,.string s.name,.int .i64 s.an,.int .i64 s.ad,.int .i64 s.sn,.int .i64 s.sd,.bool s.smooth]∧InS s:=by
 obtain⟨xs,n2,_,hx,hl,hxl,hg⟩:=DataW.trod_struct Tryz.underlying46 h
 rw[cellsT46]at hl
 match cs,hl with
 | [c0, c1, c2, c3, c4, c5, c6], _ =>
  match xs,hxl with
  |[y0,y1,y2,y3,y4],_=>
   have h0:=hg 0 _ rfl
   have h1:=hg 1 _ rfl
   have h2:=hg 2 _ rfl
   have h3:=hg 3 _ rfl
   have h4:=hg 4 _ rfl
   simp[cellsT3,cellsT9,cellsT38,cellsT4]at h0 h1 h2 h3 h4
   obtain⟨k,rfl,hk⟩:=int_of Tryz.underlying3 h0
   obtain⟨s,rfl,hs⟩:=text_of h1
   obtain⟨a,b,e2,ha,hb⟩:=rat_of h2
   obtain⟨c,d,e3,hc,hd⟩:=rat_of h3
   obtain⟨f,e4,_⟩:=DataW.trod_bool Tryz.underlying4 h4
   obtain⟨rfl,rfl⟩:c2=.int .i64 a∧c3=.int .i64 b:=by simpa using e2
   obtain⟨rfl,rfl⟩:c4=.int .i64 c∧c5=.int .i64 d:=by simpa using e3
   obtain rfl:c6=.bool f:=by simpa using e4
   exact⟨⟨k,s,a,b,c,d,f⟩,rfl,hk.1,hk.2,hs,ha.1,ha.2,hb.1,hb.2,hc.1,hc.2,hd.1,hd.2⟩
theorem clip_of {W:World} {n:Nat} {cs:List Value} {y:DataW H×List MemPlace} (h:DataW.trod enc Tryz.prog W 0 (fun _=>true) true n 48 cs=some y) :
  ∃ (c:Trk.Clip) (x:Value),cs=clipG c x∧IT W x c.chan∧InC c:=by
 obtain⟨xs,n2,_,hx,hl,hxl,hg⟩:=DataW.trod_struct Tryz.underlying48 h
 rw[cellsT48]at hl
 match cs,hl with
 | [c0, c1, a0, a1, a2, a3, a4, a5, a6, b0, b1, b2, b3, b4, b5, b6, c16, c17, c18, c19, c20, c21], _ =>
  match xs,hxl with
  |[y0,y1,y2,y3,y4,y5,y6,y7,y8,y9],_=>
   have h0:=hg 0 _ rfl
   have h1:=hg 1 _ rfl
   have h2:=hg 2 _ rfl
   have h3:=hg 3 _ rfl
   have h4:=hg 4 _ rfl
   have h5:=hg 5 _ rfl
   have h6:=hg 6 _ rfl
   have h7:=hg 7 _ rfl
   have h8:=hg 8 _ rfl
   have h9:=hg 9 _ rfl
   simp[cellsT2,cellsT3,cellsT9,cellsT24,cellsT46]at h0 h1 h2 h3 h4 h5 h6 h7 h8 h9
   obtain⟨len,rfl,_⟩:=int_of Tryz.underlying2 h0
   obtain⟨kind,rfl,_⟩:=int_of Tryz.underlying3 h1
   obtain⟨a,ea,ha⟩:=src_of h2
   obtain⟨b,eb,hb⟩:=src_of h3
   obtain⟨off,rfl,_⟩:=int_of Tryz.underlying2 h4
   obtain⟨total,rfl,_⟩:=int_of Tryz.underlying2 h5
   obtain⟨param,rfl,_⟩:=int_of Tryz.underlying3 h6
   obtain⟨text,rfl,ht⟩:=text_of h7
   obtain⟨gain,rfl,_⟩:=int_of Tryz.underlying3 h8
   obtain⟨l,hI⟩:=ints_of h9
   simp only[List.cons.injEq,and_true]at ea eb
   obtain⟨rfl,rfl,rfl,rfl,rfl,rfl,rfl⟩:=ea
   obtain⟨rfl,rfl,rfl,rfl,rfl,rfl,rfl⟩:=eb
   exact⟨⟨len,kind,a,b,off,total,param,text,gain,l⟩,c21,rfl,hI,ha,hb,ht⟩
theorem clips_of {W:World} {n:Nat} {c:Value} {y:DataW H×List MemPlace} (h:DataW.trod enc Tryz.prog W 0 (fun _=>true) true n 23 [c]=some y):∃ l,GT W c l:=by
 obtain⟨ao,len,cap,rfl,hl,hm,hi⟩:=slice_at Tryz.underlying23 cellsT48 (by decide) h
 obtain⟨l,hll,hp⟩:=list_of (P:=fun i c=>∃ b o x,ao=some ⟨b,o,none⟩∧GA W b (o+i*22) c x∧IT W x c.chan∧InC c) len (fun i hil=>by
  obtain⟨b,o,cs',n',y',rfl,hlen,hat,ht⟩:=hi i hil
  obtain⟨c,x,rfl,hI,hC⟩:=clip_of ht
  exact⟨c,b,o,x,rfl,GA.of fun j u hj=>by rw[hat j (List.getElem?_eq_some_iff.1 hj).1];exact hj,hI,hC⟩)
 subst hll
 exact⟨l,ao,cap,rfl,hl,hm,hp⟩
theorem open_track {W:World} {base:Nat} {v:Value} {d:DataW H} {p:List MemPlace} (hval:Value.okWide Tryz.prog W .any base 23 v) (h:DataW.Trod enc Tryz.prog W 0 (fun _=>true) true 23 v d p):∃ l,GT W v l:=by
 obtain⟨a1,len,cap,rfl⟩:=okWide_slice Tryz.underlying23 hval
 obtain⟨fuel,hf⟩:=h
 have e:(Value.cells (.slice a1 len cap)).toList=[.slice a1 len cap]:=by simp[Value.cells]
 rw[e]at hf
 exact clips_of (n:=fuel) hf
end
end Go.Proofs.YtfoohocgdcgbcaaGreat
