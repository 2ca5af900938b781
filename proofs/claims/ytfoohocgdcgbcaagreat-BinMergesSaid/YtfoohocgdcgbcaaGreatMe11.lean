/- Texts of this claim joined: VS. -/
import Derived.Test.YtfoohocgdcgbcaaGreatMe10
import Derived.Test.YtfoohocgdcgbcaaGreatSq
set_option linter.unusedVariables false
set_option linter.unusedSimpArgs false
set_option maxRecDepth 100000
set_option maxHeartbeats 40000000
namespace Go.Proofs.YtfoohocgdcgbcaaGreat
open Go.Trk
open Go.RowKit
theorem ex_any {L:Int} (v u:Value) (n:List Clip) (e:Ed) (w:World) (h:Tk w v n) (hu:Tk w u e.ins) (hV:VT L n) (hI:VT L e.ins) (hL:L≤140737488355328) (hn:n.length≤63) (hx:e.Ex)
  (hee:(if e.k=1 then max e.p (Trk.total n) else e.p)+e.T≤2147483647) :
  Calls Tryz.prog 85 #[v,EdV e u] w (EdPost w n (e.exl n) e.p (e.p+e.T) (undoK e.k)):=by
 unfold EdV edV edC
 have HT:=Hd h
 have HU:=Hd hu
 have tn0:=total_nonneg hV.v.good
 have tn1:=hV.t
 have hk:=hx.k
 have hTp:=hx.t
 have hp0:=hx.p
 have hTi:(e.k=1∨e.k=3)→e.T=Trk.total e.ins:=fun h=>by unfold Ed.T;rw[if_pos h]
 have hTm:(e.k=2∨e.k=4)→e.T=e.m∧e.ins=[]:=fun h=>⟨by unfold Ed.T;rw[if_neg (by omega)],hx.i h⟩
 have hrr:e.rem=if e.k=1 then 0 else e.T:=rfl
 have hr0:0≤e.rem:=hx.rem_nonneg
 have hpT:e.p+e.T≤2147483647:=by split at hee<;>omega
 have hrT:e.rem≤e.T:=by rw[hrr];split<;>omega
 have hcl:∀ a b,0≤a→a≤b→(cut n a b).length≤64:=fun a b h0 h1=>by
  have:=cut_length (l:=n) hV.v.good h0 h1
  omega
 have hcl2:∀ a b,0≤a→(cut n a b).length≤64:=fun a b h0=>by
  by_cases h1:a≤b
  ·exact hcl a b h0 h1
  unfold cut
  rw[cutRaw_np _ _ (by omega)]
  simp[pk]
 have HTO:=Hd (fun w (h:Tk w v n)=>etotal_any v n w h hV.v.good (by omega) (by omega))
 have HTI:=Hd (fun w (h:Tk w u e.ins)=>etotal_any u e.ins w h hI.v.good (by have:=hI.t;omega) (by have:=hI.n;omega))
 have HC1:=Hd (fun w (h:Tk w v n)=>cut_any v n 0 (min e.p (Trk.total n)) w h hV hL (Int.le_refl 0) (by omega) (by omega) (hcl _ _ (Int.le_refl 0) (by omega)))
 have HC2:=Hd (fun w (h:Tk w v n)=>cut_any v n e.p (e.p+e.rem) w h hV hL hp0 (by omega) (by omega) (hcl _ _ hp0 (by omega)))
 have HRS:=Hd (fun w (h:Tk w v n)=>rest_any v n (e.p+e.rem) w h hV hL (by omega) (by omega) (hcl2 _ _ (by omega)))
 have hil:=hI.n
 have HCL:=Hd hcl
 have HEX:=Hd (show e.exl n=cut n 0 (min e.p (Trk.total n))++gapL (e.p-Trk.total n)++e.put++aft n (e.p+e.rem) from rfl)
 have HPUT:=Hd (show e.put=if e.k=4 then[gap e.m] else e.ins from rfl)
 unfold EdPost CutPost EdV backOf at *
 obtain⟨k,p,m,c,d,sn,sd,ins⟩:=e
 dsimp only at *
 generalize hT:Ed.T _=T at *
 generalize hR:Ed.rem _=rem at *
 generalize hP:Ed.put _=put at *
 generalize hEX:Ed.exl _ _=exl at *
 have HPU:=Hd hP
 obtain⟨uk,huk⟩:=Xq (undoK k)
 rw[← huk]
 obtain⟨mm,hmm⟩:=Xq ((if uk=2 then p+T-p else 0))
 rw[← hmm]
 obtain⟨rl,hrl⟩:=Xq ((if uk=2 then[] else cut n p (p+T)))
 rw[← hrl]
 have HUK:=Hd (show UK n ins put rl k uk p T rem mm from UK.of huk hmm hrl hrr HPUT.out hTm hTp)
 clear huk hmm hrl HPU
 obtain⟨N,hN⟩:=Xq (Trk.total n)
 rw[← hN]at tn0 tn1 hee HTO HC1 HRS HEX
 obtain⟨AF,hAF⟩:=Xq ((if p+rem<N then cut n (p+rem) N else[]))
 have HAL:=Hd (show AF.length≤64 by rw[hAF];split;exact hcl2 _ _ (by omega);simp)
 have HPL:=Hd (show put.length≤64 by rw[HPUT.out];split;simp;exact hil)
 have haft:aft n (p+rem)=AF:=by rw[hAF];unfold aft;rw[← hN]
 rw[haft]at HEX
 rw[← hAF]at HRS
 clear haft hAF
 clear hT hR hP hEX hx hcl hcl2
 have HTOT:=Hd hN
 clear hN h
 obtain⟨ao,cap,rfl,hc1,hc2,_⟩:=hu
 have hI0:(k=1∨k=3)→0<ins.length:=fun h=>by
  have:=hTi h
  cases ins with
  |nil=>have e:Trk.total ([]:List Clip)=0:=rfl;omega
  |cons a l=>simp
 have hI1:(k=2∨k=4)→ins.length=0:=fun h=>by rw[(hTm h).2];rfl
 obtain⟨I,hI9⟩:=Xq (ins.length)
 rw[← hI9]at hil hc1 hI0 hI1 HTI HU ⊢
 have HIL:=Hd hI9
 have HTI2:=Hd hTi
 have HTM2:=Hd hTm
 have HK:=Hd hk
 have HRR:=Hd hrr
 have HEE:=Hd hee
 clear hI9 hI hTi hTm hV hk hrr hee
 go_enter Tryz.func85,Tryz.ntmps85
 go_upto_region 1 with fail
 obtain⟨w1,hw1⟩:=Xq ((w.alloc (.cells (edC k p m c d sn sd (.slice ao I cap)) 40)).alloc (.cells (edC 0 0 0 0 0 0 0 (.slice none 0 0)) 40))
 have hw1':=hw1
 unfold edC at hw1'
 rw[← hw1']
 clear hw1'
 have hE1:Below w.heap.size w w1:=by rw[hw1];go_grown
 obtain⟨g1,hg1⟩:=Xq (w.heap.size)
 obtain⟨g2,hg2⟩:=Xq (w.heap.size+1)
 have h2:E2 w1 g1 g2 k p m c d sn sd (.slice ao I cap):=by
  rw[hw1,hg1,hg2]
  refine⟨(ED.box w k p m c d sn sd _ rfl 40).below (below_box _ _),?_⟩
  have h2:=ED.box (w.alloc (.cells (edC k p m c d sn sd (.slice ao I cap)) 40)) 0 0 0 0 0 0 0 (.slice none 0 0) rfl 40
  rw[show(w.alloc (.cells (edC k p m c d sn sd (.slice ao I cap)) 40)).heap.size=w.heap.size+1 by simp]at h2
  exact h2
 rw[← hg2,← hg1]
 have hn1:w.heap.size≤g1:=by omega
 have hn2:w.heap.size≤g2:=by omega
 have h12:g1<g2:=by omega
 have HE:=Hd h2
 have HB:=Hd hE1
 have HSZ:=Hd (show g2+1≤w1.heap.size by rw[hw1,hg2];simp[go_sem])
 clear hw1 hE1 hg1 hg2 h2
 obtain⟨_,_,e2,_,_,_,_,e7,_⟩:=HE.out.a
 go_upto_if 22 with fail
 go_cut [7,22] from 23 (fun v7 v22 wx=>v7=.int .i64 T∧E2 wx g1 g2 k p m c d sn sd (.slice ao I cap)∧Below w.heap.size w wx∧g2+1≤wx.heap.size)
 case first=>
  by_cases hi0:0<I
  ·have hk13:k=1∨k=3:=by
    rcases HK.out with h |h |h |h
    ·exact .inl h
    ·have:=hI1 (.inl h);omega
    ·exact .inr h
    have:=hI1 (.inr h);omega
   have hTe:=Hd (HTI2.out hk13)
   go_wp2_with fail
   refine(HTI.out _ (HU.out.below HB.out)).mono ?_
   rintro e w2 ⟨rfl,hb⟩
   replace HE:=Hd (HE.out.below hb)
   replace HSZ:=Hd (Nat.le_trans HSZ.out hb.size)
   replace HB:=Tb HB hb
   clear hb
   go_wp2_with fail
   go_meet
   case rel=>exact⟨by rw[hTe.out],HE.out,HB.out,HSZ.out⟩
  have hk24:k=2∨k=4:=by
   rcases HK.out with h |h |h |h
   ·have:=hI0 (.inl h);omega
   ·exact .inl h
   ·have:=hI0 (.inr h);omega
   exact .inr h
  have hTe:=Hd (HTM2.out hk24)
  go_wp2_with fail
  go_meet
  case rel=>exact⟨by rw[hTe.out.1],HE.out,HB.out,HSZ.out⟩
 clear HE HB HSZ e2 e7
 obtain⟨rfl,he,hb,hsz⟩:=hcut
 have HE:=Hd he
 have HB:=Hd hb
 have HSZ:=Hd hsz
 clear he hb hsz
 obtain⟨e0,e1,_,_,_,_,_,_,_⟩:=HE.out.a
 go_upto_if 33 with fail
 go_cut [8,9,33] from 34 (fun v8 v9 v33 wx=>v8=.int .i64 rem∧v9=.int .i64 ((if k=1 then max p N else p)+T)∧E2 wx g1 g2 k p m c d sn sd (.slice ao I cap)∧Below w.heap.size w wx∧g2+1≤wx.heap.size)
 case first J K' h1 h2=>
  by_cases hk1:k=1
  ·have hk1':(k==1)=true:=by simpa using hk1
   have hrem:Hid (rem=0):=Hd (by rw[HRR.out,if_pos hk1])
   have hmx:max p N+T≤2147483647:=by have hee:=HEE.out;rw[if_pos hk1]at hee;exact hee
   have HME:=Hd (show(if k=1 then max p N else p)+T=max p N+T by rw[if_pos hk1])
   clear hk1
   go_upto_region 8 with fail
   refine Plan.wp_region_plan (fun w'=>w'.cell? ⟨g1,1,none⟩=some (.int .i64 p)) (([0,1,2,5].map (·,true))++(([3].map (·,false))++([4,6,7].map (·,true)))) (by kernel_rfl) (by kernel_rfl) (by kernel_rfl) (HE.out.below (Below.refl _ _).drew).a.k1 ?_
   refine' Plan.plan_seg _ [0,1,2,5] (([3].map (·,false))++([4,6,7].map (·,true))) (by kernel_rfl) (by kernel_rfl) rfl (by exact(HE.out.below (Below.refl _ _).drew).a.k1) (fun wx hS=>?_) ?_
   rotate_left
   ·go_light
    iterate 4 (apply Plan.seg_pick;rfl;intro K hK;go_wp)
    exact Plan.seg_nil
   obtain⟨w2,hw2⟩:=Xq (wc.drew)
   rw[← hw2]
   have hb:Below wc.heap.size wc w2:=by rw[hw2];exact(Below.refl _ _).drew
   replace HE:=Hd (HE.out.below hb)
   replace HSZ:=Hd (Nat.le_trans HSZ.out hb.size)
   replace HB:=Tb HB hb
   clear hb hw2
   refine Plan.plan_of_effect rfl (fun K hK=>?_)
   go_wp2_with fail
   refine(HTO.out _ (HT.out.below HB.out)).mono ?_
   rintro e w3 ⟨rfl,hb⟩
   replace HE:=Hd (HE.out.below hb)
   replace HSZ:=Hd (Nat.le_trans HSZ.out hb.size)
   replace HB:=Tb HB hb
   clear hb
   go_wp2_with fail
   refine⟨HE.out.a.k1,?_⟩
   refine' Plan.plan_seg _ [4,6,7] [] (by kernel_rfl) (by kernel_rfl) rfl (by exact HE.out.a.k1) (fun wx hS=>?_) ?_
   rotate_left
   ·clear hS
    go_light
    iterate 3 (apply Plan.seg_pick;rfl;intro K hK;go_wp)
    exact Plan.seg_nil
   refine Plan.plan_done ?_
   refine h2 _ _ (Met.intro (h1 _ _ ?_))
   (repeat apply Exists.intro)
   exact⟨⟨by rw[hrem.out],by rw[HME.out],HE.out,HB.out,HSZ.out⟩,rfl⟩
  have hk1':(k==1)=false:=by simpa using hk1
  have hrem:Hid (rem=T):=Hd (by rw[HRR.out,if_neg hk1])
  have HME:=Hd (show(if k=1 then max p N else p)+T=p+T by rw[if_neg hk1])
  go_wp2_with fail
  refine Met.intro (h1 _ _ ?_)
  (repeat apply Exists.intro)
  exact⟨⟨by rw[hrem.out],by rw[HME.out],HE.out,HB.out,HSZ.out⟩,rfl⟩
 clear HE HB HSZ e0 e1
 obtain⟨rfl,rfl,he,hb,hsz⟩:=hcut
 have HE:=Hd he
 have HB:=Hd hb
 have HSZ:=Hd hsz
 clear he hb hsz
 have hmx:(if k=1 then max p N else p)+T≤2147483647:=HEE.out
 obtain⟨Z,hZ⟩:=Xq ((if k=1 then max p N else p)+T)
 rw[← hZ]at hmx ⊢
 clear hZ HEE
 have e1:=HE.out.a.k1
 go_upto_region 11 with fail
 refine Plan.wp_region_plan (fun w'=>w'.cell? ⟨g1,1,none⟩=some (.int .i64 p)) (([0,1,2,3].map (·,true))++(([4].map (·,false))++(([5].map (·,true))++(([6].map (·,false))++([7,8,9,10,11].map (·,true)))))) (by kernel_rfl) (by kernel_rfl) (by kernel_rfl) (HE.out.below (Below.refl _ _).drew).a.k1 ?_
 refine' Plan.plan_seg _ [0,1,2,3] (([4].map (·,false))++(([5].map (·,true))++(([6].map (·,false))++([7,8,9,10,11].map (·,true))))) (by kernel_rfl) (by kernel_rfl) rfl (by exact(HE.out.below (Below.refl _ _).drew).a.k1) (fun wx hS=>?_) ?_
 rotate_left
 ·go_light
  iterate 4 (apply Plan.seg_pick;rfl;intro K hK;go_wp)
  exact Plan.seg_nil
 obtain⟨w2,hw2⟩:=Xq (wc.drew)
 rw[← hw2]
 have hb:Below wc.heap.size wc w2:=by rw[hw2];exact(Below.refl _ _).drew
 replace HE:=Hd (HE.out.below hb)
 replace HSZ:=Hd (Nat.le_trans HSZ.out hb.size)
 replace HB:=Tb HB hb
 clear hb hw2 e1
 refine Plan.plan_of_effect rfl (fun K hK=>?_)
 go_wp2_with fail
 refine(HTO.out _ (HT.out.below HB.out)).mono ?_
 rintro e w3 ⟨rfl,hb⟩
 replace HE:=Hd (HE.out.below hb)
 replace HSZ:=Hd (Nat.le_trans HSZ.out hb.size)
 replace HB:=Tb HB hb
 clear hb
 go_wp2_with fail
 refine⟨HE.out.a.k1,?_⟩
 refine' Plan.plan_seg (S:=(fun w'=>w'.cell? ⟨g1,1,none⟩=some (.int .i64 p))) _ [5] (([6].map (·,false))++([7,8,9,10,11].map (·,true))) (by kernel_rfl) (by kernel_rfl) rfl (by exact HE.out.a.k1) (fun wx hS=>?_) ?_
 rotate_left
 ·clear hS
  go_light
  iterate 1 (apply Plan.seg_pick;rfl;intro K hK;go_wp)
  exact Plan.seg_nil
 refine Plan.plan_of_effect rfl (fun K hK=>?_)
 go_wp2_with fail
 refine(HC1.out _ (HT.out.below HB.out)).mono ?_
 rintro e w4 ⟨v10,rfl,ho,hb⟩
 replace HE:=Hd (HE.out.below hb)
 have HO10:=Hd (ho.lower HB.out.size)
 have HSZ3:=Hd (Nat.le_trans HSZ.out hb.size)
 replace HB:=Tb HB hb
 clear hb ho HSZ
 go_wp2_with fail
 refine⟨HE.out.a.k1,?_⟩
 refine' Plan.plan_seg (S:=(fun w'=>w'.cell? ⟨g1,1,none⟩=some (.int .i64 p))) _ [7,8,9,10,11] [] (by kernel_rfl) (by kernel_rfl) rfl (by exact HE.out.a.k1) (fun wx hS=>?_) ?_
 rotate_left
 ·clear hS
  go_light
  iterate 5 (apply Plan.seg_pick;rfl;intro K hK;go_wp)
  exact Plan.seg_nil
 refine Plan.plan_done ?_
 have HSZ:=HSZ3
 clear HSZ3
 have e1:=HE.out.a.k1
 have hpr:p+rem≤2147483647:=by omega
 go_wp2_with fail
 refine(HC2.out _ (HT.out.below HB.out)).mono ?_
 rintro e w5 ⟨v12,rfl,ho,hb⟩
 replace HE:=Hd (HE.out.below hb)
 have HG12:=Hd (show ∀ g kk cp,v12=.slice (some ⟨g,0,none⟩) kk cp→g≠g2 from fun g kk cp e=>by have:=(ho.blk e).1;have:=HSZ.out;omega)
 have HO12:=Hd (ho.lower HB.out.size)
 replace HO10:=Hd (HO10.out.below hb)
 replace HSZ:=Hd (Nat.le_trans HSZ.out hb.size)
 replace HB:=Tb HB hb
 clear hb ho e1
 have e1:=HE.out.a.k1
 go_wp2_with fail
 refine(HRS.out _ (HT.out.below HB.out)).mono ?_
 rintro e w6 ⟨v14,rfl,ho,hb⟩
 replace HE:=Hd (HE.out.below hb)
 have HO14:=Hd (ho.lower HB.out.size)
 replace HO10:=Hd (HO10.out.below hb)
 replace HO12:=Hd (HO12.out.below hb)
 replace HSZ:=Hd (Nat.le_trans HSZ.out hb.size)
 replace HB:=Tb HB hb
 clear hb ho e1
 go_upto_region 20 with fail
 obtain⟨a10,c10,rfl,-⟩:=HO10.out.tk
 have HL10:=Hd (HCL.out 0 (min p N) (Int.le_refl 0) (by omega))
 refine Plan.wp_region_plan (fun w'=>w'.cell? ⟨g1,1,none⟩=some (.int .i64 p)) (([0,1,2,3].map (·,true))++(([4].map (·,false))++(([5].map (·,true))++(([6,7,8].map (·,false))++([9].map (·,true)))))) (by kernel_rfl) (by kernel_rfl) (by kernel_rfl) (HE.out.below (Below.refl _ _).drew).a.k1 ?_
 refine' Plan.plan_seg _ [0,1,2,3] (([4].map (·,false))++(([5].map (·,true))++(([6,7,8].map (·,false))++([9].map (·,true))))) (by kernel_rfl) (by kernel_rfl) rfl (by exact(HE.out.below (Below.refl _ _).drew).a.k1) (fun wx hS=>?_) ?_
 rotate_left
 ·go_light
  iterate 4 (apply Plan.seg_pick;rfl;intro K hK;go_wp)
  exact Plan.seg_nil
 obtain⟨w7,hw7⟩:=Xq (w6.drew)
 rw[← hw7]
 have hb:Below w6.heap.size w6 w7:=by rw[hw7];exact(Below.refl _ _).drew
 replace HE:=Hd (HE.out.below hb)
 replace HO10:=Hd (HO10.out.below hb)
 replace HO12:=Hd (HO12.out.below hb)
 replace HO14:=Hd (HO14.out.below hb)
 replace HSZ:=Hd (Nat.le_trans HSZ.out hb.size)
 replace HB:=Tb HB hb
 clear hb hw7
 refine Plan.plan_of_effect rfl (fun K hK=>?_)
 go_wp2_with fail
 refine(HTO.out _ (HT.out.below HB.out)).mono ?_
 rintro e w8 ⟨rfl,hb⟩
 replace HE:=Hd (HE.out.below hb)
 replace HO10:=Hd (HO10.out.below hb)
 replace HO12:=Hd (HO12.out.below hb)
 replace HO14:=Hd (HO14.out.below hb)
 replace HSZ:=Hd (Nat.le_trans HSZ.out hb.size)
 replace HB:=Tb HB hb
 clear hb
 go_wp2_with fail
 refine⟨HE.out.a.k1,?_⟩
 refine' Plan.plan_seg (S:=(fun w'=>w'.cell? ⟨g1,1,none⟩=some (.int .i64 p))) _ [5] (([6,7,8].map (·,false))++([9].map (·,true))) (by kernel_rfl) (by kernel_rfl) rfl (by exact HE.out.a.k1) (fun wx hS=>?_) ?_
 rotate_left
 ·clear hS
  go_light
  iterate 1 (apply Plan.seg_pick;rfl;intro K hK;go_wp)
  exact Plan.seg_nil
 refine Plan.plan_of_effect rfl (fun K hK=>?_)
 go_wp2_with fail
 refine(gap_any (p-N) _).mono ?_
 rintro e w9 ⟨vg,rfl,ho,hb⟩
 have ho2:OT w9 w8.heap.size vg (gapL (p-N)):=ho
 clear ho
 obtain⟨ag,cg,rfl,-⟩:=ho2.tk
 replace HE:=Hd (HE.out.below hb)
 replace HO10:=Hd (HO10.out.below hb)
 replace HO12:=Hd (HO12.out.below hb)
 replace HO14:=Hd (HO14.out.below hb)
 have HOG:=Hd ho2
 replace HSZ:=Hd (Nat.le_trans HSZ.out hb.size)
 replace HB:=Tb HB hb
 clear hb ho2
 go_wp2_with fail
 refine⟨HE.out.a.k1,?_⟩
 refine Plan.plan_of_effect rfl (fun K hK=>?_)
 refine Great.wpList_buildSliceTo rfl 68 23 2 #[(0,.tmp 92),(1,.tmp 98)] rfl w9.heap.size rfl (some 99) rfl Tryz.underlying68 #[.slice a10 (cut n 0 (min p N)).length c10,.slice ag (gapL (p-N)).length cg] ?_ ?_
 ·simp only[List.map_toArray,List.map_cons,List.map_nil,List.toList_toArray]
  kernel_rfl
 have hb:=below_box w9 (.cells #[.slice a10 (cut n 0 (min p N)).length c10,.slice ag (gapL (p-N)).length cg] 23)
 have hx1:(w9.alloc (.cells #[.slice a10 (cut n 0 (min p N)).length c10,.slice ag (gapL (p-N)).length cg] 23)).cell? ⟨w9.heap.size,0,none⟩=some (.slice a10 (cut n 0 (min p N)).length c10):=by simp[go_sem]
 have hx2:(w9.alloc (.cells #[.slice a10 (cut n 0 (min p N)).length c10,.slice ag (gapL (p-N)).length cg] 23)).cell? ⟨w9.heap.size,0+1,none⟩=some (.slice ag (gapL (p-N)).length cg):=by simp[go_sem]
 obtain⟨w10,hw10⟩:=Xq (w9.alloc (.cells #[.slice a10 (cut n 0 (min p N)).length c10,.slice ag (gapL (p-N)).length cg] 23))
 rw[← hw10]at hb hx1 hx2 ⊢
 obtain⟨g5,hg5⟩:=Xq (w9.heap.size)
 rw[← hg5]at hx1 hx2 ⊢
 have HTA:=Hd (HO10.out.tk.below hb)
 have HTB:=Hd (HOG.out.tk.below hb)
 have HX12:=Hd (And.intro hx1 hx2)
 replace HE:=Hd (HE.out.below hb)
 replace HO12:=Hd (HO12.out.below hb)
 replace HO14:=Hd (HO14.out.below hb)
 replace HSZ:=Hd (Nat.le_trans HSZ.out hb.size)
 replace HB:=Tb HB hb
 clear hb hx1 hx2 hw10 hg5 HO10 HOG
 go_wp2_with fail
 refine⟨HE.out.a.k1,?_⟩
 refine Plan.plan_of_effect rfl (fun K hK=>?_)
 go_wp2_with fail
 refine(concat_two g5 0 2 _ _ _ _ _ HX12.out.1 HX12.out.2 HTA.out HTB.out (Nat.le_refl _) (by have:=HL10.out;have:=gapL_len (p-N);omega)).mono ?_
 rintro e w11 ⟨v15,rfl,ho,hb⟩
 obtain⟨B,hB⟩:=Xq (w10.heap.size)
 rw[← hB]at ho
 have HO15:=Hd ho
 have HBL:=Hd (show w.heap.size≤B∧g2+1≤B∧B≤w11.heap.size from⟨by rw[hB];exact HB.out.size,by rw[hB];exact HSZ.out,by rw[hB];exact hb.size⟩)
 have HF12:=Hd (show ∀ g k cap,v12=.slice (some ⟨g,0,none⟩) k cap→g<B from fun g k cap e=>by rw[hB];exact(HO12.out.blk e).2)
 have HF14:=Hd (show ∀ g k cap,v14=.slice (some ⟨g,0,none⟩) k cap→g<B from fun g k cap e=>by rw[hB];exact(HO14.out.blk e).2)
 replace HE:=Hd (HE.out.below hb)
 replace HO12:=Hd (HO12.out.below hb)
 replace HO14:=Hd (HO14.out.below hb)
 replace HB:=Tb HB hb
 clear hb ho hB HX12 HTA HTB HSZ
 go_wp2_with fail
 refine⟨HE.out.a.k1,?_⟩
 refine' Plan.plan_seg (S:=(fun w'=>w'.cell? ⟨g1,1,none⟩=some (.int .i64 p))) _ [9] [] (by kernel_rfl) (by kernel_rfl) rfl (by exact HE.out.a.k1) (fun wx hS=>?_) ?_
 rotate_left
 ·clear hS
  go_light
  iterate 1 (apply Plan.seg_pick;rfl;intro K hK;go_wp)
  exact Plan.seg_nil
 refine Plan.plan_done ?_
 go_upto_region 22 with fail
 obtain⟨w12,hw12⟩:=Xq (w11.alloc (.cells (edC 0 0 0 0 0 0 0 (.slice none 0 0)) 40))
 have hw12':=hw12
 unfold edC at hw12'
 rw[← hw12']
 clear hw12'
 obtain⟨g3,hg3⟩:=Xq (w11.heap.size)
 have hb:Below w11.heap.size w11 w12:=by rw[hw12];exact below_box _ _
 have hv:ED w12 g3 0 0 0 0 0 0 0 (.slice none 0 0):=by rw[hw12,hg3];exact ED.box w11 0 0 0 0 0 0 0 (.slice none 0 0) rfl 40
 rw[← hg3]
 have HV:=Hd hv
 have HV26:=Hd (show T26 w12 g3 by rw[hw12,hg3];exact⟨_,_,(MapKept.heap_alloc w11 _).1⟩)
 have HG3:=Hd (show B≤g3∧g3<w12.heap.size∧B≤w12.heap.size from⟨by rw[hg3];exact HBL.out.2.2,hv.lt,Nat.le_trans HBL.out.2.2 hb.size⟩)
 have HN15:=Hd (show ∀ g kk cp,v15=.slice (some ⟨g,0,none⟩) kk cp→g3≠g from fun g kk cp e=>by have:=(HO15.out.blk e).2;omega)
 replace HE:=Hd (HE.out.below hb)
 replace HO12:=Hd (HO12.out.below hb)
 replace HO14:=Hd (HO14.out.below hb)
 replace HO15:=Hd (HO15.out.below hb)
 replace HB:=Tb HB hb
 clear hb hv hg3 hw12
 have e0:=HE.out.a.k0
 go_upto_block 0 with fail
 clear e0
 have HS12:=Hd (show ∃ ao m cp,v12=.slice ao m cp by obtain⟨ao,cp,e,_⟩:=HO12.out.tk;exact⟨_,_,_,e⟩)
 obtain⟨a12,m12,c12,rfl⟩:=HS12.out
 clear HS12
 go_cut [15] from 103 (fun v15' wx=>OT wx B v15' (cut n 0 (min p N)++gapL (p-N)++put)∧(∃ vr,ED wx g3 uk p mm 0 0 0 0 vr∧OT wx w.heap.size vr rl∧(∀ g kk cp,vr=.slice (some ⟨g,0,none⟩) kk cp→g<B)∧(∃ ao m cp,vr=.slice ao m cp)∧(∀ g kk cp,vr=.slice (some ⟨g,0,none⟩) kk cp→g≠g2))∧ED wx g2 0 0 0 0 0 0 0 (.slice none 0 0)∧OT wx w.heap.size v14 AF∧Below w.heap.size w wx∧B≤wx.heap.size∧T26 wx g3)
 case first J K' h1 h2=>
  have HLN:=Hd (show(cut n 0 (min p N)++gapL (p-N)).length≤65 by have:=HL10.out;have:=gapL_len (p-N);rw[List.length_append];omega)
  rcases HK.out with hk1 |hk2 |hk3 |hk4
  ·have HKK:=Hd hk1
   have t1:(k==1)=true:=by have:=HKK.out;simp;omega
   have HQ:=Hd (HUK.out.a hk1)
   clear hk1
   obtain⟨_,_,_,_,_,_,_,e7,_⟩:=HE.out.a
   go_upto_region 24 with fail
   apply wp_region_lit
   iterate 9 go_step
   refine wpList_appM _ 23 22 Tryz.underlying23 Tryz.underlying22 rfl (.tmp 105) (.tmp 107) rfl B v15 (.slice ao I cap) _ ins rfl rfl HO15.out HG3.out.2.2 (HU.out.below HB.out) (by have:=HLN.out;have:=hil;have:=HIL.out;omega) ?_
   intro v16 w13 q1 q2 q3 q4
   simp only[Act.put,sA1,sB1,sC1]
   have q5:=q3 g3 HG3.out.2.1 (fun g cp e=>HN15.out g _ cp e)
   replace HV:=Hd (HV.out.same q5)
   replace HV26:=Hd (HV26.out.same q5)
   replace HO15:=Hd q1
   replace HO12:=Hd (HO12.out.lim HF12.out q2)
   replace HO14:=Hd (HO14.out.lim HF14.out q2)
   replace HE:=Hd (show E2 w13 g1 g2 k p m c d sn sd (.slice ao I cap) from⟨HE.out.a.lim q2 (by have:=HBL.out.2.1;omega),HE.out.r.lim q2 (by have:=HBL.out.2.1;omega)⟩)
   replace HB:=Hd (HB.out.trans (q2.mono HBL.out.1))
   have HS:=Hd (Nat.le_trans HG3.out.2.2 q4)
   clear q1 q2 q3 q4 q5
   clear e7
   have e1:=HE.out.a.k1
   go_upto_region 25 with fail
   apply wp_region_lit
   iterate 12 go_step
   refine wpl_storeE 2 p T 0 0 0 0 none 0 0 HV.out rfl rfl rfl rfl ?_
   intro w14 q1 q2 q3 q4 q5
   simp only[Act.put,sA1,sB1,sC1]
   have HV4:=Hd q1
   have HQ4:=Hd (And.intro q2 (And.intro q3 (And.intro (q4 _ _ (show w.heap.size≤g3 by have:=HBL.out.1;have:=HG3.out.1;omega) HB.out) (q5 HV26.out))))
   clear q1 q2 q3 q4 q5 e1
   go_wp2_with fail
   refine Met.intro (h1 _ _ ?_)
   (repeat apply Exists.intro)
   refine⟨⟨?_,⟨(.slice none 0 0),?_,?_,?_,?_,?_⟩,?_,?_,?_,?_,?_⟩,rfl⟩
   ·rw[HQ.out.2.2.2]
    exact HO15.out.blocks (fun g kk cp e=>HQ4.out.1 g (fun h=>HV26.out.ne HO15.out g kk cp e h.symm))
   ·rw[HQ.out.1,HQ.out.2.1]
    exact HV4.out
   ·rw[HQ.out.2.2.1]
    exact OT.nil _ _
   ·exact fun g kk cp e=>by simp at e
   ·exact⟨_,_,_,rfl⟩
   ·exact fun g kk cp e=>by simp at e
   ·exact HE.out.r.same (HQ4.out.1 _ (by have:=HG3.out.1;have:=HBL.out.2.1;omega))
   ·exact HO14.out.blocks (fun g kk cp e=>HQ4.out.1 g (by have:=HF14.out g kk cp e;have:=HG3.out.1;omega))
   ·exact HQ4.out.2.2.1
   ·rw[HQ4.out.2.1];exact HS.out
   exact HQ4.out.2.2.2
  ·have HKK:=Hd hk2
   have t1:(k==1)=false:=by have:=HKK.out;simp;omega
   have t2:(k==2)=true:=by have:=HKK.out;simp;omega
   have HQ:=Hd (HUK.out.b hk2)
   clear hk2
   have HS:=Hd HG3.out.2.2
   have e1:=HE.out.a.k1
   go_upto_region 27 with fail
   apply wp_region_lit
   iterate 12 go_step
   refine wpl_storeE 1 p 0 0 0 0 0 a12 m12 c12 HV.out rfl rfl rfl rfl ?_
   intro w14 q1 q2 q3 q4 q5
   simp only[Act.put,sA1,sB1,sC1]
   have HV4:=Hd q1
   have HQ4:=Hd (And.intro q2 (And.intro q3 (And.intro (q4 _ _ (show w.heap.size≤g3 by have:=HBL.out.1;have:=HG3.out.1;omega) HB.out) (q5 HV26.out))))
   clear q1 q2 q3 q4 q5 e1
   go_wp2_with fail
   refine Met.intro (h1 _ _ ?_)
   (repeat apply Exists.intro)
   refine⟨⟨?_,⟨(.slice a12 m12 c12),?_,?_,?_,?_,?_⟩,?_,?_,?_,?_,?_⟩,rfl⟩
   ·rw[HQ.out.2.2.2]
    rw[List.append_nil]
    exact HO15.out.blocks (fun g kk cp e=>HQ4.out.1 g (fun h=>HV26.out.ne HO15.out g kk cp e h.symm))
   ·rw[HQ.out.1,HQ.out.2.1]
    exact HV4.out
   ·rw[HQ.out.2.2.1]
    exact HO12.out.blocks (fun g kk cp e=>HQ4.out.1 g (by have:=HF12.out g kk cp e;have:=HG3.out.1;omega))
   ·exact HF12.out
   ·exact⟨_,_,_,rfl⟩
   ·exact HG12.out
   ·exact HE.out.r.same (HQ4.out.1 _ (by have:=HG3.out.1;have:=HBL.out.2.1;omega))
   ·exact HO14.out.blocks (fun g kk cp e=>HQ4.out.1 g (by have:=HF14.out g kk cp e;have:=HG3.out.1;omega))
   ·exact HQ4.out.2.2.1
   ·rw[HQ4.out.2.1];exact HS.out
   exact HQ4.out.2.2.2
  ·have HKK:=Hd hk3
   have t1:(k==1)=false:=by have:=HKK.out;simp;omega
   have t2:(k==2)=false:=by have:=HKK.out;simp;omega
   have t3:(k==3)=true:=by have:=HKK.out;simp;omega
   have HQ:=Hd (HUK.out.c hk3)
   clear hk3
   obtain⟨_,_,_,_,_,_,_,e7,_⟩:=HE.out.a
   go_upto_region 29 with fail
   apply wp_region_lit
   iterate 9 go_step
   refine wpList_appM _ 23 22 Tryz.underlying23 Tryz.underlying22 rfl (.tmp 121) (.tmp 123) rfl B v15 (.slice ao I cap) _ ins rfl rfl HO15.out HG3.out.2.2 (HU.out.below HB.out) (by have:=HLN.out;have:=hil;have:=HIL.out;omega) ?_
   intro v16 w13 q1 q2 q3 q4
   simp only[Act.put,sA1,sB1,sC1]
   have q5:=q3 g3 HG3.out.2.1 (fun g cp e=>HN15.out g _ cp e)
   replace HV:=Hd (HV.out.same q5)
   replace HV26:=Hd (HV26.out.same q5)
   replace HO15:=Hd q1
   replace HO12:=Hd (HO12.out.lim HF12.out q2)
   replace HO14:=Hd (HO14.out.lim HF14.out q2)
   replace HE:=Hd (show E2 w13 g1 g2 k p m c d sn sd (.slice ao I cap) from⟨HE.out.a.lim q2 (by have:=HBL.out.2.1;omega),HE.out.r.lim q2 (by have:=HBL.out.2.1;omega)⟩)
   replace HB:=Hd (HB.out.trans (q2.mono HBL.out.1))
   have HS:=Hd (Nat.le_trans HG3.out.2.2 q4)
   clear q1 q2 q3 q4 q5
   clear e7
   have e1:=HE.out.a.k1
   go_upto_region 30 with fail
   apply wp_region_lit
   iterate 12 go_step
   refine wpl_storeE 3 p 0 0 0 0 0 a12 m12 c12 HV.out rfl rfl rfl rfl ?_
   intro w14 q1 q2 q3 q4 q5
   simp only[Act.put,sA1,sB1,sC1]
   have HV4:=Hd q1
   have HQ4:=Hd (And.intro q2 (And.intro q3 (And.intro (q4 _ _ (show w.heap.size≤g3 by have:=HBL.out.1;have:=HG3.out.1;omega) HB.out) (q5 HV26.out))))
   clear q1 q2 q3 q4 q5 e1
   go_wp2_with fail
   refine Met.intro (h1 _ _ ?_)
   (repeat apply Exists.intro)
   refine⟨⟨?_,⟨(.slice a12 m12 c12),?_,?_,?_,?_,?_⟩,?_,?_,?_,?_,?_⟩,rfl⟩
   ·rw[HQ.out.2.2.2]
    exact HO15.out.blocks (fun g kk cp e=>HQ4.out.1 g (fun h=>HV26.out.ne HO15.out g kk cp e h.symm))
   ·rw[HQ.out.1,HQ.out.2.1]
    exact HV4.out
   ·rw[HQ.out.2.2.1]
    exact HO12.out.blocks (fun g kk cp e=>HQ4.out.1 g (by have:=HF12.out g kk cp e;have:=HG3.out.1;omega))
   ·exact HF12.out
   ·exact⟨_,_,_,rfl⟩
   ·exact HG12.out
   ·exact HE.out.r.same (HQ4.out.1 _ (by have:=HG3.out.1;have:=HBL.out.2.1;omega))
   ·exact HO14.out.blocks (fun g kk cp e=>HQ4.out.1 g (by have:=HF14.out g kk cp e;have:=HG3.out.1;omega))
   ·exact HQ4.out.2.2.1
   ·rw[HQ4.out.2.1];exact HS.out
   exact HQ4.out.2.2.2
  have HKK:=Hd hk4
  have t1:(k==1)=false:=by have:=HKK.out;simp;omega
  have t2:(k==2)=false:=by have:=HKK.out;simp;omega
  have t3:(k==3)=false:=by have:=HKK.out;simp;omega
  have t4:(k==4)=true:=by have:=HKK.out;simp;omega
  have HQ:=Hd (HUK.out.d hk4)
  clear hk4
  go_upto_region 32 with fail
  apply wp_region_lit
  iterate 8 go_step
  refine(gap_any T _).mono ?_
  rintro e w12' ⟨vg,rfl,ho,hb⟩
  have ho2:OT w12' w12.heap.size vg (gapL T):=ho
  replace HE:=Hd (HE.out.below hb)
  replace HV:=Hd (HV.out.below hb)
  replace HV26:=Hd (HV26.out.same (hb.block g3 HG3.out.2.1))
  replace HO12:=Hd (HO12.out.below hb)
  replace HO14:=Hd (HO14.out.below hb)
  replace HO15:=Hd (HO15.out.below hb)
  replace HG3:=Hd (show B≤g3∧g3<w12'.heap.size∧B≤w12'.heap.size from⟨HG3.out.1,Nat.lt_of_lt_of_le HG3.out.2.1 hb.size,Nat.le_trans HG3.out.2.2 hb.size⟩)
  replace HB:=Tb HB hb
  have HOG:=Hd ho2.tk
  clear ho ho2 hb
  dsimp only
  go_step
  refine wpList_appM _ 23 22 Tryz.underlying23 Tryz.underlying22 rfl (.tmp 131) (.tmp 133) rfl B v15 vg _ (gapL T) rfl rfl HO15.out HG3.out.2.2 HOG.out (by have:=HLN.out;have:=gapL_len T;omega) ?_
  intro v16 w13 q1 q2 q3 q4
  simp only[Act.put,sA1,sB1,sC1]
  have q5:=q3 g3 HG3.out.2.1 (fun g cp e=>HN15.out g _ cp e)
  replace HV:=Hd (HV.out.same q5)
  replace HV26:=Hd (HV26.out.same q5)
  replace HO15:=Hd q1
  replace HO12:=Hd (HO12.out.lim HF12.out q2)
  replace HO14:=Hd (HO14.out.lim HF14.out q2)
  replace HE:=Hd (show E2 w13 g1 g2 k p m c d sn sd (.slice ao I cap) from⟨HE.out.a.lim q2 (by have:=HBL.out.2.1;omega),HE.out.r.lim q2 (by have:=HBL.out.2.1;omega)⟩)
  replace HB:=Hd (HB.out.trans (q2.mono HBL.out.1))
  have HS:=Hd (Nat.le_trans HG3.out.2.2 q4)
  clear q1 q2 q3 q4 q5
  have e1:=HE.out.a.k1
  go_upto_region 33 with fail
  apply wp_region_lit
  iterate 12 go_step
  refine wpl_storeE 3 p 0 0 0 0 0 a12 m12 c12 HV.out rfl rfl rfl rfl ?_
  intro w14 q1 q2 q3 q4 q5
  simp only[Act.put,sA1,sB1,sC1]
  have HV4:=Hd q1
  have HQ4:=Hd (And.intro q2 (And.intro q3 (And.intro (q4 _ _ (show w.heap.size≤g3 by have:=HBL.out.1;have:=HG3.out.1;omega) HB.out) (q5 HV26.out))))
  clear q1 q2 q3 q4 q5 e1
  go_wp2_with fail
  refine Met.intro (h1 _ _ ?_)
  (repeat apply Exists.intro)
  refine⟨⟨?_,⟨(.slice a12 m12 c12),?_,?_,?_,?_,?_⟩,?_,?_,?_,?_,?_⟩,rfl⟩
  ·rw[HQ.out.2.2.2]
   exact HO15.out.blocks (fun g kk cp e=>HQ4.out.1 g (fun h=>HV26.out.ne HO15.out g kk cp e h.symm))
  ·rw[HQ.out.1,HQ.out.2.1]
   exact HV4.out
  ·rw[HQ.out.2.2.1]
   exact HO12.out.blocks (fun g kk cp e=>HQ4.out.1 g (by have:=HF12.out g kk cp e;have:=HG3.out.1;omega))
  ·exact HF12.out
  ·exact⟨_,_,_,rfl⟩
  ·exact HG12.out
  ·exact HE.out.r.same (HQ4.out.1 _ (by have:=HG3.out.1;have:=HBL.out.2.1;omega))
  ·exact HO14.out.blocks (fun g kk cp e=>HQ4.out.1 g (by have:=HF14.out g kk cp e;have:=HG3.out.1;omega))
  ·exact HQ4.out.2.2.1
  ·rw[HQ4.out.2.1];exact HS.out
  exact HQ4.out.2.2.2
 clear HE HB HO15 HO12 HO14 HV HV26 HN15 HF12 HG12
 obtain⟨ho15,⟨vr,hv,hor,hfr,hsr,hgr⟩,hr,ho14,hb,hs,h26⟩:=hcut
 have HO15:=Hd ho15
 have HV:=Hd hv
 have HOR:=Hd hor
 have HFR:=Hd hfr
 have HSR:=Hd hsr
 have HGR:=Hd hgr
 have HR:=Hd hr
 have HO14:=Hd ho14
 have HB:=Hd hb
 have HS:=Hd hs
 have HV26:=Hd h26
 clear ho15 hv hor hfr hsr hgr hr ho14 hb hs h26
 obtain⟨ar,mr,cr,rfl⟩:=HSR.out
 go_upto_region 34 with fail
 refine Plan.wp_region_plan (fun w'=>ED w' g3 uk p mm 0 0 0 0 (.slice ar mr cr)) (([0,1,3].map (·,true))++(([2].map (·,false))++(([4].map (·,true))++(([5].map (·,false))++([6].map (·,true)))))) (by kernel_rfl) (by kernel_rfl) (by kernel_rfl) (HV.out.below (Below.refl _ _).drew) ?_
 refine' Plan.plan_seg _ [0,1,3] (([2].map (·,false))++(([4].map (·,true))++(([5].map (·,false))++([6].map (·,true))))) (by kernel_rfl) (by kernel_rfl) rfl (by exact HV.out.below (Below.refl _ _).drew) (fun wx hS=>?_) ?_
 rotate_left
 ·go_light
  iterate 2 (apply Plan.seg_pick;rfl;intro K hK;go_wp)
  (apply Plan.seg_pick;rfl;intro K hK)
  refine wpl_loadE hS rfl rfl rfl ?_
  go_wp
  exact Plan.seg_nil
 obtain⟨w15,hw15⟩:=Xq (wc.drew)
 rw[← hw15]
 have hb:Below wc.heap.size wc w15:=by rw[hw15];exact(Below.refl _ _).drew
 replace HV26:=Hd (HV26.out.same (hb.block g3 HV.out.lt))
 replace HV:=Hd (HV.out.below hb)
 replace HO15:=Hd (HO15.out.below hb)
 replace HOR:=Hd (HOR.out.below hb)
 replace HR:=Hd (HR.out.below hb)
 replace HO14:=Hd (HO14.out.below hb)
 replace HS:=Hd (Nat.le_trans HS.out hb.size)
 replace HB:=Tb HB hb
 clear hb hw15
 refine Plan.plan_of_effect rfl (fun K hK=>?_)
 refine wpList_appTo _ 23 23 (some 141) rfl Tryz.underlying23 Tryz.underlying23 rfl (.tmp 139) (.tmp 140) rfl B u15 v14 _ AF rfl rfl HO15.out HS.out HO14.out.tk (by have h1:=HL10.out;have h2:=gapL_len (p-N);have h3:=HPL.out;have h4:=HAL.out;rw[List.length_append,List.length_append];omega) ?_
 intro v4 w16 q1 q2 q3 q4
 simp only[Act.put,sA1,sB1,sC1]
 have q5:=q3 g3 HV.out.lt (fun g cp e=>HV26.out.ne HO15.out g _ cp e)
 replace HV:=Hd (HV.out.same q5)
 have HO4:=Hd (q1.lower HBL.out.1)
 replace HOR:=Hd (HOR.out.lim HFR.out q2)
 replace HR:=Hd (HR.out.lim q2 (by have:=HBL.out.2.1;omega))
 replace HB:=Hd (HB.out.trans (q2.mono HBL.out.1))
 have HN4:=Hd (show ∀ g kk cp,v4=.slice (some ⟨g,0,none⟩) kk cp→B≤g from fun g kk cp e=>(q1.blk e).1)
 clear q1 q2 q3 q4 q5 HO15 HO14 HV26
 go_wp2_with fail
 refine⟨HV.out,?_⟩
 refine' Plan.plan_seg (S:=(fun w'=>ED w' g3 uk p mm 0 0 0 0 (.slice ar mr cr))) _ [4] (([5].map (·,false))++([6].map (·,true))) (by kernel_rfl) (by kernel_rfl) rfl (by exact HV.out) (fun wx hS=>?_) ?_
 rotate_left
 ·clear hS
  go_light
  iterate 1 (apply Plan.seg_pick;rfl;intro K hK;go_wp)
  exact Plan.seg_nil
 refine Plan.plan_of_effect rfl (fun K hK=>?_)
 refine wpl_storeE uk p mm 0 0 0 0 ar mr cr HR.out rfl rfl rfl rfl ?_
 intro w17 q1 q2 q3 q4 q5
 simp only[Act.put,sA1,sB1,sC1]
 replace HR:=Hd q1
 have hne23:g3≠g2:=by have:=HG3.out.1;have:=HBL.out.2.1;omega
 replace HV:=Hd (HV.out.same (q2 g3 hne23))
 replace HO4:=Hd (HO4.out.blocks (fun g kk cp e=>q2 g (by have:=HN4.out g kk cp e;have:=HBL.out.2.1;omega)))
 have HORN:=Hd (show OT w17 w.heap.size (.slice ar mr cr) rl from HOR.out.blocks (fun g kk cp e=>q2 g (HGR.out g kk cp e)))
 replace HB:=Hd (q4 _ _ hn2 HB.out)
 clear q1 q2 q3 q4 q5
 go_wp2_with fail
 refine⟨HV.out,?_⟩
 refine' Plan.plan_seg (S:=(fun w'=>ED w' g3 uk p mm 0 0 0 0 (.slice ar mr cr))) _ [6] [] (by kernel_rfl) (by kernel_rfl) rfl (by exact HV.out) (fun wx hS=>?_) ?_
 rotate_left
 ·clear hS
  go_light
  iterate 1 (apply Plan.seg_pick;rfl;intro K hK;go_wp)
  exact Plan.seg_nil
 refine Plan.plan_done ?_
 iterate 3 go_step
 refine bodyPost_ret (v:=.tuple #[v4,edV uk p mm 0 0 0 0 (.slice ar mr cr),.int .i64 0]) (results_ed Tryz.results85 rfl rfl rfl HR.out ⟨_,_,_,rfl⟩) rfl ?_
 exact⟨_,_,rfl,by rw[HEX.out];exact HO4.out,HORN.out,HB.out⟩
end Go.Proofs.YtfoohocgdcgbcaaGreat
