/- Texts of this claim joined: F G. -/
import Derived.Test.YtfoohocgdcgbcaaGreatMe02
import Derived.Test.YtfoohocgdcgbcaaGreatSq
set_option linter.unusedVariables false
set_option linter.unusedSimpArgs false
set_option maxRecDepth 100000
set_option maxHeartbeats 40000000
namespace Go.Proofs.YtfoohocgdcgbcaaGreat
open Go.Trk
open Go.RowKit
structure C2 (w:World) (b:Nat) (c0 c1:Value):Prop where
 k0:w.cell? ⟨b,0,none⟩=some c0
 k1:w.cell? ⟨b,1,none⟩=some c1
theorem C2.lt {w:World} {b:Nat} {c0 c1:Value} (h:C2 w b c0 c1):b<w.heap.size:=block_lt_of_cell h.k0
theorem C2.below {w w':World} {b:Nat} {c0 c1:Value} (h:C2 w b c0 c1) (hb:Below w.heap.size w w'):C2 w' b c0 c1:=⟨(hb.cell h.lt).trans h.k0,(hb.cell h.lt).trans h.k1⟩
structure F2 (w:World) (b:Nat) (c0 c1:Value):Prop extends C2 w b c0 c1 where
 fz:∀ o,w.frozen? ⟨b,o,none⟩=false
theorem F2.below {w w':World} {b:Nat} {c0 c1:Value} (h:F2 w b c0 c1) (hb:Below w.heap.size w w'):F2 w' b c0 c1:=⟨h.toC2.below hb,fun o=>(hb.frozen (p:=⟨b,o,none⟩) h.lt).trans (h.fz o)⟩
structure Three (w w1:World) (a b g:Nat) (an ad bn bd:Int):Prop where
 x:C2 w1 a (.int .i64 an) (.int .i64 ad)
 y:C2 w1 b (.int .i64 bn) (.int .i64 bd)
 r:F2 w1 g (.int .i64 0) (.int .i64 0)
 u:Below w.heap.size w w1
 g0:w.heap.size≤g
 ag:a≠g
 bg:b≠g
theorem C2.set {w:World} {b g o:Nat} {c0 c1 v:Value} (h:C2 w b c0 c1) (hne:b≠g):C2 (w.setCell ⟨g,o,none⟩ v) b c0 c1:=by
 have hne':¬g=b:=fun e=>hne e.symm
 exact⟨by simp[go_sem,hne',hne,h.k0],by simp[go_sem,hne',hne,h.k1]⟩
theorem Three.below {w w1 w2:World} {a b g:Nat} {an ad bn bd:Int} (h:Three w w1 a b g an ad bn bd) (hb:Below w1.heap.size w1 w2):Three w w2 a b g an ad bn bd:=
 ⟨h.x.below hb,h.y.below hb,h.r.below hb,h.u.trans (hb.mono h.u.size),h.g0,h.ag,h.bg⟩
theorem valid_yes (n d:Int) (w:World) (h0:1≤d) (h1:n.natAbs.gcd d.toNat=1) (n0:-9223372036854775808<n) (n1:n≤9223372036854775807) (d1:d≤9223372036854775807) :
  Calls Tryz.prog 121 #[.agg #[.int .i64 n,.int .i64 d]] w fun e w'=>e=.returned (.bool true)∧Below w.heap.size w w':=by
 have h:=valid_any n d w (by omega) n1 (by omega) d1
 rw[validR_yes h0 n0,h1]at h
 exact h
theorem mul_any (n sn sd:Int) (w:World) (n0:n.natAbs≤4294967296) (s0:sn.natAbs≤134217728) (h0:1≤sd) (h2:sd≤4294967296) (h1:sn.natAbs.gcd sd.toNat=1) :
  Calls Tryz.prog 151 #[.agg #[.int .i64 n,.int .i64 1],.agg #[.int .i64 sn,.int .i64 sd]] w fun e w'=>
   e=.returned (.tuple #[.agg #[.int .i64 ((n:Rat)*mkRat sn sd.toNat).num,.int .i64 (((n:Rat)*mkRat sn sd.toNat).den:Int)],.int .i64 0])∧Below w.heap.size w w':=by
 obtain⟨e1,e2⟩:=mul_num (n:=n) h0 h1
 rw[e1,e2]
 clear e1 e2
 obtain⟨D,rfl⟩:=Int.eq_ofNat_of_zero_le (show 0≤sd by omega)
 rw[Int.toNat_natCast]at h1 ⊢
 obtain⟨sd,hsd⟩:∃ x:Int,x=(D:Int):=⟨_,rfl⟩
 rw[← hsd]at h0 h2 ⊢
 obtain⟨g,hg⟩:=Xq (n.natAbs.gcd D)
 rw[← hg]
 have hg0:0<g:=by rw[hg];exact Nat.gcd_pos_of_pos_right _ (by omega)
 have hgd:(g:Int)∣sd:=by rw[hg,hsd];exact Int.natCast_dvd_natCast.2 (Nat.gcd_dvd_right _ _)
 have hgn:(g:Int)∣n:=by rw[hg];exact Int.ofNat_dvd_left.2 (Nat.gcd_dvd_left _ _)
 obtain⟨d',hd'⟩:=hgd
 obtain⟨n',hn'⟩:=hgn
 have q1:n / (g:Int)=n':=by rw[hn'];exact Int.mul_ediv_cancel_left _ (by omega)
 have q2:sd / (g:Int)=d':=by rw[hd'];exact Int.mul_ediv_cancel_left _ (by omega)
 have q3:n.tdiv (g:Int)=n':=by rw[hn'];exact Int.mul_tdiv_cancel_left _ (by omega)
 have q4:sd.tdiv (g:Int)=d':=by rw[hd'];exact Int.mul_tdiv_cancel_left _ (by omega)
 rw[q1,q2]
 have hd0:0<d':=by
  rcases Int.lt_or_le 0 d' with h |h
  ·exact h
  have:=Int.mul_nonpos_of_nonneg_of_nonpos (show(0:Int)≤(g:Int) by omega) h
  omega
 have hd1:d'≤sd:=by
  have h3:=Int.mul_le_mul_of_nonneg_right (show(1:Int)≤(g:Int) by omega) (Int.le_of_lt hd0)
  rw[Int.one_mul,← hd']at h3
  exact h3
 have hn1:n'.natAbs≤n.natAbs:=by
  rw[hn',Int.natAbs_mul]
  exact Nat.le_mul_of_pos_left _ (by simpa using hg0)
 have hgs:g≤4294967296:=by rw[hg];exact Nat.le_trans (Nat.gcd_le_right _ (by omega)) (by omega)
 have hp:(n'*sn).natAbs<9223372036854775808:=by
  rw[Int.natAbs_mul]
  exact Nat.lt_of_le_of_lt (Nat.mul_le_mul (Nat.le_trans hn1 n0) s0) (by decide)
 have hgc:∀ w:World,Calls Tryz.prog 155 #[.int .u64 ((n.natAbs:Nat):Int),.int .u64 (D:Int)] w fun e w'=>e=.returned (.int .u64 (g:Int))∧∃ m,w'=w.drewN m:=fun w=>by
  rw[hg];exact gcd_any _ _ w (by omega) (by omega)
 have hgh:∀ w:World,Calls Tryz.prog 155 #[.int .u64 ((sn.natAbs:Nat):Int),.int .u64 1] w fun e w'=>e=.returned (.int .u64 1)∧∃ m,w'=w.drewN m:=fun w=>by
  have h:=gcd_any sn.natAbs 1 w (by omega) (by decide)
  rw[Nat.gcd_one_right]at h
  exact h
 have HGC:=Hd hgc
 have HGH:=Hd hgh
 have HQ:=Hd (And.intro q1 (And.intro q2 (And.intro q3 q4)))
 have H1:=Hd (show sn.natAbs.gcd sd.toNat=1 by rw[hsd,Int.toNat_natCast];exact h1)
 have hD:(D:Int)≤4294967296:=by omega
 have HSD:=Hd hsd
 clear hg hd' hn' q1 q2 q3 q4 h1 hgc hgh
 subst hsd
 clear HSD
 go_enter Tryz.func151,Tryz.ntmps151
 go_upto_region 1 with fail
 obtain⟨w1,hw1⟩:=Xq (((w.alloc (.cells #[.int .i64 n,.int .i64 1] 38)).alloc (.cells #[.int .i64 sn,.int .i64 (D:Int)] 38)).alloc (.cells #[.int .i64 0,.int .i64 0] 38))
 rw[← hw1]
 have hT:Three w w1 w.heap.size (w.heap.size+1) (w.heap.size+1+1) n 1 sn (D:Int):=by
  rw[hw1]
  refine⟨⟨by simp[go_sem],by simp[go_sem]⟩,⟨by simp[go_sem],by simp[go_sem]⟩,⟨⟨by simp[go_sem],by simp[go_sem]⟩,fun o=>by simp[go_sem]⟩,by go_grown,by omega,by omega,by omega⟩
 obtain⟨ga,hga⟩:=Xq (w.heap.size)
 obtain⟨gb,hgb⟩:=Xq (w.heap.size+1)
 obtain⟨gr,hgr⟩:=Xq (w.heap.size+1+1)
 rw[← hgr,← hgb,← hga]at hT ⊢
 have T:=Hd hT
 clear hw1 hT hga hgb hgr
 obtain⟨x0,x1⟩:=T.out.x
 obtain⟨y0,y1⟩:=T.out.y
 go_wp2_with fail
 refine(valid_yes n 1 w1 (by decide) (by simp) (by omega) (by omega) (by decide)).mono ?_
 rintro e w2 ⟨rfl,hb⟩
 replace T:=Hd (T.out.below hb)
 clear x0 x1 y0 y1 hb
 obtain⟨x0,x1⟩:=T.out.x
 obtain⟨y0,y1⟩:=T.out.y
 go_wp2_with fail
 refine(valid_yes sn (D:Int) w2 h0 H1.out (by omega) (by omega) (by omega)).mono ?_
 rintro e w3 ⟨rfl,hb⟩
 replace T:=Hd (T.out.below hb)
 clear x0 x1 y0 y1 hb
 obtain⟨x0,x1⟩:=T.out.x
 obtain⟨y0,y1⟩:=T.out.y
 go_upto_region 3 with fail
 go_quiet (first
  |(go_at_call 156;exact Calls.quiet_of_same ((magnitude_any n _ (by omega) (by omega)).mono fun e w' h=>⟨h.1,h.2.symm⟩))
  |(go_at_call 155;exact Calls.quiet_of (HGC.out _)))
 obtain⟨w4,hw4⟩:=Xq (w3.drewN nq)
 rw[← hw4]
 have hb:Below w3.heap.size w3 w4:=by rw[hw4];exact below_drewN (Below.refl _ _) _
 replace T:=Hd (T.out.below hb)
 clear x0 x1 y0 y1 hb hw4
 obtain⟨x0,x1⟩:=T.out.x
 obtain⟨y0,y1⟩:=T.out.y
 go_upto_region 4 with fail
 go_quiet (first
  |(go_at_call 156;exact Calls.quiet_of_same ((magnitude_any sn _ (by omega) (by omega)).mono fun e w' h=>⟨h.1,h.2.symm⟩))
  |(go_at_call 155;exact Calls.quiet_of (HGH.out _)))
 obtain⟨w5,hw5⟩:=Xq (w4.drewN nq)
 rw[← hw5]
 have hb:Below w4.heap.size w4 w5:=by rw[hw5];exact below_drewN (Below.refl _ _) _
 replace T:=Hd (T.out.below hb)
 clear x0 x1 y0 y1 hb hw5
 obtain⟨x0,x1⟩:=T.out.x
 obtain⟨y0,y1⟩:=T.out.y
 go_upto_region 5 with fail
 clear x0 x1 y0 y1
 refine Plan.wp_region_plan (fun w'=>C2 w' ga (.int .i64 n) (.int .i64 1)∧C2 w' gb (.int .i64 sn) (.int .i64 (D:Int))) (([0,1,2,3,4,5,6,7].map (·,true))++(([8,9].map (·,false))++([10,11,12,13,14,15,16].map (·,true)))) (by kernel_rfl) (by kernel_rfl) (by kernel_rfl) ⟨T.out.x.below (Below.refl _ _).drew,T.out.y.below (Below.refl _ _).drew⟩ ?_
 refine' Plan.plan_seg _ [0,1,2,3,4,5,6,7] (([8,9].map (·,false))++([10,11,12,13,14,15,16].map (·,true))) (by kernel_rfl) (by kernel_rfl) rfl (by exact⟨T.out.x.below (Below.refl _ _).drew,T.out.y.below (Below.refl _ _).drew⟩) (fun wx hS=>?_) ?_
 rotate_left
 ·have z0:=hS.1.k0
  have z1:=hS.2.k0
  obtain⟨q1,q2,q3,q4⟩:=HQ.out
  clear hS
  go_light
  iterate 8 (apply Plan.seg_pick;rfl;intro K hK;go_wp)
  exact Plan.seg_nil
 obtain⟨w6,hw6⟩:=Xq (w5.drew)
 rw[← hw6]
 have hb:Below w5.heap.size w5 w6:=by rw[hw6];exact(Below.refl _ _).drew
 replace T:=Hd (T.out.below hb)
 clear hb hw6
 refine Plan.plan_of_effect rfl (fun K hK=>?_)
 go_wp2_with fail
 refine(product_any n' sn w6 (by omega) (by omega) (by omega) (by omega) hp).mono ?_
 rintro e w7 ⟨rfl,hb⟩
 replace T:=Hd (T.out.below hb)
 clear hb
 go_wp2_with fail
 refine⟨⟨T.out.x,T.out.y⟩,?_⟩
 refine Plan.plan_of_effect rfl (fun K hK=>?_)
 go_wp2_with fail
 refine(divide_any (n'*sn) 1 w7 (by omega) (by decide) (by decide) ⟨n'*sn,by simp⟩).mono ?_
 rintro e w8 ⟨rfl,hb⟩
 rw[show n'*sn / ((1:Nat):Int)=n'*sn by simp]
 replace T:=Hd (T.out.below hb)
 obtain⟨p,hp'⟩:=Xq (n'*sn)
 rw[← hp']at hp ⊢
 have HP:=Hd hp'
 clear hb hp'
 go_wp2_with fail
 refine⟨⟨T.out.x,T.out.y⟩,?_⟩
 refine' Plan.plan_seg _ [10,11,12,13,14,15,16] [] (by kernel_rfl) (by kernel_rfl) rfl (by exact⟨T.out.x,T.out.y⟩) (fun wx hS=>?_) ?_
 rotate_left
 ·clear hS
  go_light
  iterate 7 (apply Plan.seg_pick;rfl;intro K hK;go_wp)
  exact Plan.seg_nil
 refine Plan.plan_done ?_
 go_upto_region 8 with fail
 refine Plan.wp_region_plan (fun w'=>C2 w' ga (.int .i64 n) (.int .i64 1)∧C2 w' gb (.int .i64 sn) (.int .i64 (D:Int))) (([0,1,2,3,4,5,6,7,8].map (·,true))++(([9,10].map (·,false))++(([11,12].map (·,true))++(([13].map (·,false))++([14].map (·,true)))))) (by kernel_rfl) (by kernel_rfl) (by kernel_rfl) ⟨T.out.x.below (Below.refl _ _).drew,T.out.y.below (Below.refl _ _).drew⟩ ?_
 refine' Plan.plan_seg _ [0,1,2,3,4,5,6,7,8] (([9,10].map (·,false))++(([11,12].map (·,true))++(([13].map (·,false))++([14].map (·,true))))) (by kernel_rfl) (by kernel_rfl) rfl (by exact⟨T.out.x.below (Below.refl _ _).drew,T.out.y.below (Below.refl _ _).drew⟩) (fun wx hS=>?_) ?_
 rotate_left
 ·have z0:=hS.1.k1
  have z1:=hS.2.k1
  obtain⟨q1,q2,q3,q4⟩:=HQ.out
  clear hS
  go_light
  iterate 9 (apply Plan.seg_pick;rfl;intro K hK;go_wp)
  exact Plan.seg_nil
 obtain⟨w9,hw9⟩:=Xq (w8.drew)
 rw[← hw9]
 have hb:Below w8.heap.size w8 w9:=by rw[hw9];exact(Below.refl _ _).drew
 replace T:=Hd (T.out.below hb)
 clear hb hw9
 refine Plan.plan_of_effect rfl (fun K hK=>?_)
 go_wp2_with fail
 refine(product_any 1 d' w9 (by decide) (by decide) (by omega) (by omega) (by omega)).mono ?_
 rintro e wa ⟨rfl,hb⟩
 rw[show(1:Int)*d'=d' by omega]
 replace T:=Hd (T.out.below hb)
 clear hb
 go_wp2_with fail
 refine⟨⟨T.out.x,T.out.y⟩,?_⟩
 refine Plan.plan_of_effect rfl (fun K hK=>?_)
 go_wp2_with fail
 refine(fraction_any p d' wa (by omega) (by omega) (by omega)).mono ?_
 rintro e wb ⟨rfl,hb⟩
 replace T:=Hd (T.out.below hb)
 clear hb
 go_wp2_with fail
 refine⟨⟨T.out.x,T.out.y⟩,?_⟩
 refine' Plan.plan_seg _ [11,12] (([13].map (·,false))++([14].map (·,true))) (by kernel_rfl) (by kernel_rfl) rfl (by exact⟨T.out.x,T.out.y⟩) (fun wx hS=>?_) ?_
 rotate_left
 ·clear hS
  go_light
  iterate 2 (apply Plan.seg_pick;rfl;intro K hK;go_wp)
  exact Plan.seg_nil
 refine Plan.plan_of_effect rfl (fun K hK=>?_)
 obtain⟨r0,r1⟩:=T.out.r.toC2
 have rf:=T.out.r.fz
 go_wp2_with fail
 refine⟨⟨(T.out.x.set T.out.ag).set T.out.ag,(T.out.y.set T.out.bg).set T.out.bg⟩,?_⟩
 refine' Plan.plan_seg _ [14] [] (by kernel_rfl) (by kernel_rfl) rfl (by exact⟨(T.out.x.set T.out.ag).set T.out.ag,(T.out.y.set T.out.bg).set T.out.bg⟩) (fun wx hS=>?_) ?_
 rotate_left
 ·clear hS
  go_light
  iterate 1 (apply Plan.seg_pick;rfl;intro K hK;go_wp)
  exact Plan.seg_nil
 refine Plan.plan_done ?_
 go_wp2_with fail
 refine bodyPost_ret (v:=.tuple #[.agg #[.int .i64 p,.int .i64 d'],.int .i64 0]) (by simp[results,Tryz.results151,go_sem,r0,r1]) rfl ⟨by rw[HP.out],(T.out.u.setCell T.out.g0 _).setCell T.out.g0 _⟩
def addG (B:Nat) (x y:Int) (i lo hi:Nat) (v:Value) (w:World):Prop:=
 match i with
 |6=>v=wideV x |13=>v=wideV y |14=>v=wideV (x+y)
 |15=>∃ g c0 c1 c2,v=.pointer (some ⟨g,0,none⟩)∧B≤g∧w.cell? ⟨g,0,none⟩=some c0∧w.cell? ⟨g,1,none⟩=some c1∧w.cell? ⟨g,2,none⟩=some c2∧∀ o,w.frozen? ⟨g,o,none⟩=false
 |_=>True
theorem addG.ext {B:Nat} {x y:Int} (i lo hi:Nat) (v:Value) (w w':World) (h:addG B x y i lo hi v w) (hb:Plan.Ext w w'):addG B x y i lo hi v w':=by
 unfold addG at h ⊢
 split
 ·exact h
 ·exact h
 ·exact h
 ·obtain⟨g,c0,c1,c2,rfl,hB,k0,k1,k2,kf⟩:=h
  have hl:=block_lt_of_cell k0
  exact⟨g,c0,c1,c2,rfl,hB,(hb.cell hl).trans k0,(hb.cell (p:=⟨g,1,none⟩) hl).trans k1,(hb.cell (p:=⟨g,2,none⟩) hl).trans k2,fun o=>(hb.frozen (p:=⟨g,o,none⟩) hl).trans (kf o)⟩
 trivial
theorem Three.set {w w1:World} {a b g p o:Nat} {an ad bn bd:Int} (h:Three w w1 a b g an ad bn bd) (v:Value) (hp:w.heap.size≤p) (ha:a≠p) (hb:b≠p) (hg:g≠p):Three w (w1.setCell ⟨p,o,none⟩ v) a b g an ad bn bd:=by
 have hg':¬p=g:=fun e=>hg e.symm
 exact⟨h.x.set ha,h.y.set hb,⟨h.r.toC2.set hg,fun o'=>by simp[go_sem,h.r.fz o']⟩,h.u.setCell hp _,h.g0,h.ag,h.bg⟩
structure C3 (w:World) (b:Nat) (c0 c1 c2:Value):Prop where
 k0:w.cell? ⟨b,0,none⟩=some c0
 k1:w.cell? ⟨b,1,none⟩=some c1
 k2:w.cell? ⟨b,2,none⟩=some c2
theorem C3.lt {w:World} {b:Nat} {c0 c1 c2:Value} (h:C3 w b c0 c1 c2):b<w.heap.size:=block_lt_of_cell h.k0
theorem C3.below {w w':World} {b:Nat} {c0 c1 c2:Value} (h:C3 w b c0 c1 c2) (hb:Below w.heap.size w w'):C3 w' b c0 c1 c2:=⟨(hb.cell h.lt).trans h.k0,(hb.cell h.lt).trans h.k1,(hb.cell h.lt).trans h.k2⟩
def addS:List (Nat×Tmp):=[(6,35),(13,42),(14,43),(15,7)]
theorem add_core (an bn:Int) (A B g A' B' h B'':Nat) (s q:Int) (w:World) (hA0:0<A) (hB0:0<B) (hA1:A≤4611686018427387904) (hB1:B≤4611686018427387904)
  (ga:an.natAbs.gcd A=1) (gb:bn.natAbs.gcd B=1) (hg:g=A.gcd B) (hA:A=g*A') (hB:B=g*B') (hs:s=an*(B':Int)+bn*(A':Int)) (hh:h=s.natAbs.gcd g) (hB2:B=h*B'') (hq:s=(h:Int)*q)
  (b1:(an*(B':Int)).natAbs<2305843009213693952) (b2:(bn*(A':Int)).natAbs<2305843009213693952) (b3:A'*B''<4611686018427387904) (an1:an.natAbs<4611686018427387904) (bn1:bn.natAbs<4611686018427387904) :
  Calls Tryz.prog 152 #[.agg #[.int .i64 an,.int .i64 (A:Int)],.agg #[.int .i64 bn,.int .i64 (B:Int)]] w fun e w'=>
   e=.returned (.tuple #[.agg #[.int .i64 q,.int .i64 ((A'*B'':Nat):Int)],.int .i64 0])∧Below w.heap.size w w':=by
 have g0:0<g:=by rw[hg];exact Nat.gcd_pos_of_pos_left _ hA0
 have h0:0<h:=by rw[hh];exact Nat.gcd_pos_of_pos_right _ g0
 have gA:g≤A:=by rw[hA];exact Nat.le_mul_of_pos_right _ (Nat.pos_of_ne_zero fun e=>by rw[e]at hA;simp at hA;omega)
 have hgl:h≤g:=by rw[hh];exact Nat.gcd_le_right _ g0
 have A'l:A'≤A:=by rw[hA];exact Nat.le_mul_of_pos_left _ g0
 have B'l:B'≤B:=by rw[hB];exact Nat.le_mul_of_pos_left _ g0
 have B''l:B''≤B:=by rw[hB2];exact Nat.le_mul_of_pos_left _ h0
 have gz:(g:Int)≠0:=by omega
 have hz:(h:Int)≠0:=by omega
 have c1:(A:Int)=(g:Int)*(A':Int):=by rw[hA];simp
 have c2:(B:Int)=(g:Int)*(B':Int):=by rw[hB];simp
 have c3:(B:Int)=(h:Int)*(B'':Int):=by rw[hB2];simp
 have q1:(A:Int) / (g:Int)=(A':Int):=by rw[c1];exact Int.mul_ediv_cancel_left _ gz
 have q2:(B:Int) / (g:Int)=(B':Int):=by rw[c2];exact Int.mul_ediv_cancel_left _ gz
 have q3:(B:Int) / (h:Int)=(B'':Int):=by rw[c3];exact Int.mul_ediv_cancel_left _ hz
 have q4:(A:Int).tdiv (g:Int)=(A':Int):=by rw[c1];exact Int.mul_tdiv_cancel_left _ gz
 have q5:(B:Int).tdiv (g:Int)=(B':Int):=by rw[c2];exact Int.mul_tdiv_cancel_left _ gz
 have q6:(B:Int).tdiv (h:Int)=(B'':Int):=by rw[c3];exact Int.mul_tdiv_cancel_left _ hz
 have HQ:=Hd (And.intro (And.intro q1 (And.intro q2 q3)) (And.intro q4 (And.intro q5 q6)))
 have hgc:∀ w:World,Calls Tryz.prog 155 #[.int .u64 (A:Int),.int .u64 (B:Int)] w fun e w'=>e=.returned (.int .u64 (g:Int))∧∃ m,w'=w.drewN m:=fun w=>by
  rw[hg];exact gcd_any A B w (by omega) (by omega)
 have hhc:∀ w:World,Calls Tryz.prog 155 #[.int .u64 ((s.natAbs % g:Nat):Int),.int .u64 (g:Int)] w fun e w'=>e=.returned (.int .u64 (h:Int))∧∃ m,w'=w.drewN m:=fun w=>by
  have e:h=(s.natAbs % g).gcd g:=by rw[hh,← Nat.gcd_rec,Nat.gcd_comm]
  have:=Nat.mod_lt s.natAbs g0
  rw[e];exact gcd_any _ _ w (by omega) (by omega)
 have s1:s.natAbs<4611686018427387904:=by rw[hs];omega
 have HGC:=Hd hgc
 have HHC:=Hd hhc
 have HS:=Hd hs
 have HSQ:=Hd (show s / (h:Int)=q by rw[hq];exact Int.mul_ediv_cancel_left _ hz)
 have HDV:=Hd (show(h:Int)∣s from⟨q,hq⟩)
 have q9:q.natAbs≤s.natAbs:=by rw[hq,Int.natAbs_mul];exact Nat.le_mul_of_pos_left _ (by simpa using h0)
 have GA:=Hd ga
 have GB:=Hd gb
 obtain⟨x,hx⟩:=Xq (an*(B':Int))
 obtain⟨y,hy⟩:=Xq (bn*(A':Int))
 rw[← hx]at b1
 rw[← hy]at b2
 have HX:=Hd hx
 have HY:=Hd hy
 have HSX:=Hd (show x+y=s by rw[hx,hy,hs])
 have HN0:=Hd (show((A':Int)*(B'':Int))=((A'*B'':Nat):Int) by simp)
 clear hg hA hB hs hh hB2 hq c1 c2 c3 q1 q2 q3 q4 q5 q6 hgc hhc ga gb gz hz hx hy
 go_enter Tryz.func152,Tryz.ntmps152
 go_upto_region 1 with fail
 obtain⟨w1,hw1⟩:=Xq (((w.alloc (.cells #[.int .i64 an,.int .i64 (A:Int)] 38)).alloc (.cells #[.int .i64 bn,.int .i64 (B:Int)] 38)).alloc (.cells #[.int .i64 0,.int .i64 0] 38))
 rw[← hw1]
 have hT:Three w w1 w.heap.size (w.heap.size+1) (w.heap.size+1+1) an A bn B:=by
  rw[hw1]
  refine⟨⟨by simp[go_sem],by simp[go_sem]⟩,⟨by simp[go_sem],by simp[go_sem]⟩,⟨⟨by simp[go_sem],by simp[go_sem]⟩,fun o=>by simp[go_sem]⟩,by go_grown,by omega,by omega,by omega⟩
 obtain⟨pa,hga⟩:=Xq (w.heap.size)
 obtain⟨pb,hgb⟩:=Xq (w.heap.size+1)
 obtain⟨pr,hgr⟩:=Xq (w.heap.size+1+1)
 rw[← hgr,← hgb,← hga]at hT ⊢
 have T:=Hd hT
 clear hw1 hT hga hgb hgr
 obtain⟨x0,x1⟩:=T.out.x
 obtain⟨y0,y1⟩:=T.out.y
 go_wp2_with fail
 refine(valid_yes an A w1 (by omega) (by rw[Int.toNat_natCast];exact GA.out) (by omega) (by omega) (by omega)).mono ?_
 rintro e w2 ⟨rfl,hb⟩
 replace T:=Hd (T.out.below hb)
 clear x0 x1 y0 y1 hb
 obtain⟨x0,x1⟩:=T.out.x
 obtain⟨y0,y1⟩:=T.out.y
 go_wp2_with fail
 refine(valid_yes bn B w2 (by omega) (by rw[Int.toNat_natCast];exact GB.out) (by omega) (by omega) (by omega)).mono ?_
 rintro e w3 ⟨rfl,hb⟩
 replace T:=Hd (T.out.below hb)
 clear x0 x1 y0 y1 hb
 obtain⟨x0,x1⟩:=T.out.x
 obtain⟨y0,y1⟩:=T.out.y
 go_wp2_with fail
 refine(HGC.out w3).mono ?_
 rintro e w4 ⟨rfl,m,hm⟩
 have hb:Below w3.heap.size w3 w4:=by rw[hm];exact below_drewN (Below.refl _ _) _
 replace T:=Hd (T.out.below hb)
 clear x0 x1 y0 y1 hb hm
 go_upto_region 4 with fail
 refine Plan.wp_region_fresh (fun w'=>Below w4.heap.size w4 w') 16 (addG w4.heap.size x y) ([0,1,2,3,4,5,7,8,9,10,11,12].map (·,true)) addS ([16].map (·,false)) 76 (by kernel_rfl) (by kernel_rfl) (by kernel_rfl) (Below.refl _ _).drew (fun wa wb ha hb=>ha.trans (hb.mono ha.size)) addG.ext ?_
 refine' Plan.plan_seg _ [0,1,2,3,4,5,7,8,9,10,11,12] [] (by kernel_rfl) (by kernel_rfl) rfl (by exact(Below.refl _ _).drew) (fun wx hS=>?_) ?_
 rotate_left
 ·have z0:=(T.out.x.below hS).k0
  have z1:=(T.out.x.below hS).k1
  have z2:=(T.out.y.below hS).k0
  have z3:=(T.out.y.below hS).k1
  obtain⟨⟨q1,q2,q3⟩,q4,q5,q6⟩:=HQ.out
  clear hS
  go_light
  iterate 12 (apply Plan.seg_pick;rfl;intro K hK;go_wp)
  exact Plan.seg_nil
 refine Plan.plan_nil ?_
 refine Plan.fresh_at_gen (fun A=>A.tmps.size=76∧A.tmps[30]?=some (.int .i64 an)∧A.tmps[34]?=some (.int .i64 (B':Int))∧A.tmps[37]?=some (.int .i64 bn)∧A.tmps[41]?=some (.int .i64 (A':Int))) ⟨rfl,rfl,rfl,rfl,rfl⟩ rfl (fun Aq hA=>?_) ?_
 ·obtain⟨hsz,e30,e34,e37,e41⟩:=hA
  intro p hp o ho vs wx lo hi hS hE hG K hK
  have hSz:w4.heap.size≤wx.heap.size:=hS.size
  simp only[addS,List.mem_cons,List.not_mem_nil,or_false]at hp
  rcases hp with rfl |rfl |rfl |rfl
  all_goals obtain rfl:=Option.some.inj ho
  ·have t30:(Plan.puts vs addS Aq).eval (.tmp 30)=.int .i64 an:=by rw[Plan.eval_out (by decide)];simp[Act.eval,Array.getD_eq_getD_getElem?,e30]
   have t34:(Plan.puts vs addS Aq).eval (.tmp 34)=.int .i64 (B':Int):=by rw[Plan.eval_out (by decide)];simp[Act.eval,Array.getD_eq_getD_getElem?,e34]
   refine Plan.one_call rfl 168 Tryz.func168 (by kernel_rfl) (by kernel_rfl) #[.tmp 30,.tmp 34] #[2,2] rfl #[.int .i64 an,.int .i64 (B':Int)] (by simp only[List.map_toArray,List.map_cons,List.map_nil,t30,t34]) (fun r w'=>r=wideV x∧Below wx.heap.size wx w') ?_ (fun r w' hR=>hK _ _ hR.1 hR.2)
   rw[HX.out]
   refine(product_any an B' wx (by omega) (by omega) (by omega) (by omega) (by rw[← HX.out];omega)).mono ?_
   rintro e w' ⟨rfl,hb⟩
   exact⟨_,rfl,rfl,hb⟩
  ·have t37:(Plan.puts vs addS Aq).eval (.tmp 37)=.int .i64 bn:=by rw[Plan.eval_out (by decide)];simp[Act.eval,Array.getD_eq_getD_getElem?,e37]
   have t41:(Plan.puts vs addS Aq).eval (.tmp 41)=.int .i64 (A':Int):=by rw[Plan.eval_out (by decide)];simp[Act.eval,Array.getD_eq_getD_getElem?,e41]
   refine Plan.one_call rfl 168 Tryz.func168 (by kernel_rfl) (by kernel_rfl) #[.tmp 37,.tmp 41] #[2,2] rfl #[.int .i64 bn,.int .i64 (A':Int)] (by simp only[List.map_toArray,List.map_cons,List.map_nil,t37,t41]) (fun r w'=>r=wideV y∧Below wx.heap.size wx w') ?_ (fun r w' hR=>hK _ _ hR.1 hR.2)
   rw[HY.out]
   refine(product_any bn A' wx (by omega) (by omega) (by omega) (by omega) (by rw[← HY.out];omega)).mono ?_
   rintro e w' ⟨rfl,hb⟩
   exact⟨_,rfl,rfl,hb⟩
  ·have h6:vs 6=wideV x:=hG (6,35) (by decide) (by decide)
   have h13:vs 13=wideV y:=hG (13,42) (by decide) (by decide)
   have t6:(Plan.puts vs addS Aq).eval (.tmp 35)=vs 6:=Plan.eval_in (i:=6) (by decide) (by decide) (by rw[hsz];decide)
   have t13:(Plan.puts vs addS Aq).eval (.tmp 42)=vs 13:=Plan.eval_in (i:=13) (by decide) (by decide) (by rw[hsz];decide)
   refine Plan.one_call rfl 171 Tryz.func171 (by kernel_rfl) (by kernel_rfl) #[.tmp 35,.tmp 42] #[208,208] rfl #[wideV x,wideV y] (by simp only[List.map_toArray,List.map_cons,List.map_nil,t6,t13,h6,h13]) (fun r w'=>r=wideV (x+y)∧Below wx.heap.size wx w') ?_ (fun r w' hR=>hK _ _ hR.1 hR.2)
   refine(plus_any x y wx (by omega) (by omega)).mono ?_
   rintro e w' ⟨rfl,hb⟩
   exact⟨_,rfl,rfl,hb⟩
  clear hG
  obtain⟨Bq,hBq⟩:=Xq (Plan.puts vs addS Aq)
  rw[← hBq]at hK ⊢
  clear hBq hsz e30 e34 e37 e41
  go_wp2
  exact hK _ _ ⟨wx.heap.size,_,_,_,rfl,hSz,by simp[go_sem];rfl,by simp[go_sem];rfl,by simp[go_sem];rfl,fun o=>by simp[go_sem]⟩ (below_box _ _)
 intro vs lo hi wx hS hE hall hap
 have h14:vs 14=wideV (x+y):=(hall (14,43) (by decide)).1
 obtain⟨pv,c0,c1,c2,h15,hpv,k0,k1,k2,kf⟩:=(hall (15,7) (by decide)).1
 rw[HSX.out]at h14
 have hS14:vs 14=.agg #[.bool (decide (s<0)),.int .u64 0,.int .u64 (s.natAbs:Int)]:=h14
 have hw4:=T.out.u.size
 have la:=T.out.x.lt
 have lb:=T.out.y.lt
 have lr:=T.out.r.lt
 have na:pa≠pv:=by omega
 have nb:pb≠pv:=by omega
 have nr:pr≠pv:=by omega
 have hwp:w.heap.size≤pv:=by omega
 replace T:=Hd (T.out.below hS)
 have HS_:=Hd hS
 simp only[addS,Plan.puts,hS14,h15]
 generalize vs 6=u6 at *
 generalize vs 13=u13 at *
 clear hall hap hE hS h14 hS14 h15 hw4 la lb lr
 refine Plan.plan_of_effect rfl (fun K hK=>?_)
 go_wp2_with fail
 obtain⟨w5,hw5⟩:=Xq (((wx.setCell ⟨pv,0,none⟩ (.bool (decide (s<0)))).setCell ⟨pv,1,none⟩ (.int .u64 0)).setCell ⟨pv,2,none⟩ (.int .u64 (s.natAbs:Int)))
 rw[← hw5]
 have hT5:Three w w5 pa pb pr an A bn B:=by rw[hw5];exact((T.out.set _ hwp na nb nr).set _ hwp na nb nr).set _ hwp na nb nr
 have hC5:C3 w5 pv (.bool (decide (s<0))) (.int .u64 0) (.int .u64 (s.natAbs:Int)):=by rw[hw5];exact⟨by simp[go_sem,k0],by simp[go_sem,k1],by simp[go_sem,k2]⟩
 have hb5:Below w4.heap.size w4 w5:=by rw[hw5];exact((HS_.out.setCell hpv _).setCell hpv _).setCell hpv _
 replace T:=Hd hT5
 have CC:=Hd hC5
 clear hw5 hT5 hC5 k0 k1 k2 kf
 refine⟨hb5,?_⟩
 refine Plan.plan_done ?_
 obtain⟨v0,v1,v2⟩:=CC.out
 have HMO:=Hd (show ∀ w,Calls Tryz.prog 172 #[.agg #[.bool (decide (s<0)),.int .u64 0,.int .u64 (s.natAbs:Int)],.int .u64 (g:Int)] w fun e w'=>e=.returned (.int .u64 ((s.natAbs % g:Nat):Int))∧Below w.heap.size w w' from fun w=>modulo_any s g w (by omega) (by omega) g0)
 have HDI:=Hd (show ∀ w,Calls Tryz.prog 169 #[.agg #[.bool (decide (s<0)),.int .u64 0,.int .u64 (s.natAbs:Int)],.int .u64 (h:Int)] w fun e w'=>e=.returned (.tuple #[.int .i64 q,.int .u64 0,.bool true])∧Below w.heap.size w w' from fun w=>by
  have k:=divide_any s h w (by omega) (by omega) h0 HDV.out
  rw[HSQ.out]at k
  exact k)
 clear hb5 HS_
 go_wp2_with fail
 refine(HMO.out w5).mono ?_
 rintro e w6 ⟨rfl,hb⟩
 replace T:=Hd (T.out.below hb)
 replace CC:=Hd (CC.out.below hb)
 clear hb v0 v1 v2
 go_wp2_with fail
 refine(HHC.out w6).mono ?_
 rintro e w7 ⟨rfl,m,hm⟩
 have hb:Below w6.heap.size w6 w7:=by rw[hm];exact below_drewN (Below.refl _ _) _
 replace T:=Hd (T.out.below hb)
 replace CC:=Hd (CC.out.below hb)
 clear hb hm
 obtain⟨v0,v1,v2⟩:=CC.out
 go_wp2_with fail
 refine(HDI.out w7).mono ?_
 rintro e w8 ⟨rfl,hb⟩
 replace T:=Hd (T.out.below hb)
 clear hb v0 v1 v2 CC
 go_upto_region 9 with fail
 refine Plan.wp_region_plan (fun w'=>C2 w' pa (.int .i64 an) (.int .i64 (A:Int))∧C2 w' pb (.int .i64 bn) (.int .i64 (B:Int))) (([0,1,2,3,4,5,6,7,8].map (·,true))++(([9,10].map (·,false))++(([11,12].map (·,true))++(([13].map (·,false))++([14].map (·,true)))))) (by kernel_rfl) (by kernel_rfl) (by kernel_rfl) ⟨T.out.x.below (Below.refl _ _).drew,T.out.y.below (Below.refl _ _).drew⟩ ?_
 refine' Plan.plan_seg _ [0,1,2,3,4,5,6,7,8] (([9,10].map (·,false))++(([11,12].map (·,true))++(([13].map (·,false))++([14].map (·,true))))) (by kernel_rfl) (by kernel_rfl) rfl (by exact⟨T.out.x.below (Below.refl _ _).drew,T.out.y.below (Below.refl _ _).drew⟩) (fun wx hS=>?_) ?_
 rotate_left
 ·have z0:=hS.1.k1
  have z1:=hS.2.k1
  obtain⟨⟨q1,q2,q3⟩,q4,q5,q6⟩:=HQ.out
  clear hS
  go_light
  iterate 9 (apply Plan.seg_pick;rfl;intro K hK;go_wp)
  exact Plan.seg_nil
 obtain⟨w9,hw9⟩:=Xq (w8.drew)
 rw[← hw9]
 have hb:Below w8.heap.size w8 w9:=by rw[hw9];exact(Below.refl _ _).drew
 replace T:=Hd (T.out.below hb)
 clear hb hw9
 refine Plan.plan_of_effect rfl (fun K hK=>?_)
 go_wp2_with fail
 refine(product_any A' B'' w9 (by omega) (by omega) (by omega) (by omega) (by rw[HN0.out];omega)).mono ?_
 rintro e wa ⟨rfl,hb⟩
 rw[HN0.out]
 replace T:=Hd (T.out.below hb)
 obtain⟨N,hN⟩:=Xq (A'*B'')
 rw[← hN]at b3 ⊢
 have HN2:=Hd hN
 clear hb hN HN0
 go_wp2_with fail
 refine⟨⟨T.out.x,T.out.y⟩,?_⟩
 refine Plan.plan_of_effect rfl (fun K hK=>?_)
 go_wp2_with fail
 refine(fraction_any q N wa (by omega) (by omega) (by omega)).mono ?_
 rintro e wb ⟨rfl,hb⟩
 replace T:=Hd (T.out.below hb)
 clear hb
 go_wp2_with fail
 refine⟨⟨T.out.x,T.out.y⟩,?_⟩
 refine' Plan.plan_seg _ [11,12] (([13].map (·,false))++([14].map (·,true))) (by kernel_rfl) (by kernel_rfl) rfl (by exact⟨T.out.x,T.out.y⟩) (fun wx hS=>?_) ?_
 rotate_left
 ·clear hS
  go_light
  iterate 2 (apply Plan.seg_pick;rfl;intro K hK;go_wp)
  exact Plan.seg_nil
 refine Plan.plan_of_effect rfl (fun K hK=>?_)
 obtain⟨r0,r1⟩:=T.out.r.toC2
 have rf:=T.out.r.fz
 go_wp2_with fail
 refine⟨⟨(T.out.x.set T.out.ag).set T.out.ag,(T.out.y.set T.out.bg).set T.out.bg⟩,?_⟩
 refine' Plan.plan_seg _ [14] [] (by kernel_rfl) (by kernel_rfl) rfl (by exact⟨(T.out.x.set T.out.ag).set T.out.ag,(T.out.y.set T.out.bg).set T.out.bg⟩) (fun wx hS=>?_) ?_
 rotate_left
 ·clear hS
  go_light
  iterate 1 (apply Plan.seg_pick;rfl;intro K hK;go_wp)
  exact Plan.seg_nil
 refine Plan.plan_done ?_
 go_wp2_with fail
 refine bodyPost_ret (v:=.tuple #[.agg #[.int .i64 q,.int .i64 (N:Int)],.int .i64 0]) (by simp[results,Tryz.results152,go_sem,r0,r1]) rfl ⟨by rw[HN2.out],(T.out.u.setCell T.out.g0 _).setCell T.out.g0 _⟩
theorem add_any (a b:Rat) (w:World) (hA:a.den≤8192) (hB:b.den≤8192) (an:a.num.natAbs≤140737488355328) (bn:b.num.natAbs≤140737488355328) :
  Calls Tryz.prog 152 #[.agg #[.int .i64 a.num,.int .i64 (a.den:Int)],.agg #[.int .i64 b.num,.int .i64 (b.den:Int)]] w fun e w'=>
   e=.returned (.tuple #[.agg #[.int .i64 (a+b).num,.int .i64 ((a+b).den:Int)],.int .i64 0])∧Below w.heap.size w w':=by
 obtain⟨e1,e2⟩:=add_num a b
 rw[e1,e2]
 obtain⟨g,hg⟩:=Xq (a.den.gcd b.den)
 rw[← hg]
 obtain⟨s,hs⟩:∃ s:Int,s=a.num*((b.den / g:Nat):Int)+b.num*((a.den / g:Nat):Int):=⟨_,rfl⟩
 rw[← hs]
 obtain⟨h,hh⟩:=Xq (s.natAbs.gcd g)
 rw[← hh]
 have hga:g∣a.den:=by rw[hg];exact Nat.gcd_dvd_left _ _
 have hgb:g∣b.den:=by rw[hg];exact Nat.gcd_dvd_right _ _
 have hhg:h∣g:=by rw[hh];exact Nat.gcd_dvd_right _ _
 have hhb:h∣b.den:=Nat.dvd_trans hhg hgb
 have hhs:(h:Int)∣s:=by rw[hh];exact Int.ofNat_dvd_left.2 (Nat.gcd_dvd_left _ _)
 have l1:a.den / g≤8192:=Nat.le_trans (Nat.div_le_self _ _) hA
 have l2:b.den / g≤8192:=Nat.le_trans (Nat.div_le_self _ _) hB
 have l3:b.den / h≤8192:=Nat.le_trans (Nat.div_le_self _ _) hB
 have m1:=Nat.mul_le_mul an l2
 have m2:=Nat.mul_le_mul bn l1
 have m3:=Nat.mul_le_mul l1 l3
 refine add_core a.num b.num a.den b.den g (a.den / g) (b.den / g) h (b.den / h) s (s / (h:Int)) w a.den_pos b.den_pos (by omega) (by omega) a.reduced b.reduced hg (Nat.mul_div_cancel' hga).symm (Nat.mul_div_cancel' hgb).symm hs hh (Nat.mul_div_cancel' hhb).symm (Int.mul_ediv_cancel' hhs).symm ?_ ?_ (by omega) (by omega) (by omega)
 ·rw[Int.natAbs_mul,Int.natAbs_natCast];omega
 rw[Int.natAbs_mul,Int.natAbs_natCast];omega
end Go.Proofs.YtfoohocgdcgbcaaGreat
