/- Texts of this claim joined: X Y VA. -/
import Derived.Test.YtfoohocgdcgbcaaGreatMe06
import Derived.Test.YtfoohocgdcgbcaaGreatSq
set_option linter.unusedVariables false
set_option linter.unusedSimpArgs false
set_option maxRecDepth 100000
set_option maxHeartbeats 40000000
namespace Go.Proofs.YtfoohocgdcgbcaaGreat
open Go.Trk
open Go.RowKit
theorem only_store {w w':World} {g:Nat} (h:w.grownBy w' (some g)) (o:Nat) (u:Value):w.grownBy (w'.setCell ⟨g,o,none⟩ u) (some g):=
 ⟨h.os, h.tape, h.output, by rw [World.size_setCell]; exact h.size, fun k hk hne => by
  rw[Below.heap_setCell _ _ _ _ (fun e=>hne (by rw[e]))];exact h.block k hk hne⟩
theorem only_refl (w:World) (g:Nat):w.grownBy w (some g):=World.grownBy.refl w _
theorem only_cell {w w':World} {g b o:Nat} {v:Value} (h:w.grownBy w' (some g)) (hc:w.cell? ⟨b,o,none⟩=some v) (hne:b≠g):w'.cell? ⟨b,o,none⟩=some v:=
 h.cell hc (by simpa using hne)
theorem only_below {w w':World} {g B:Nat} (h:w.grownBy w' (some g)) (hB:B≤g) (hs:B≤w.heap.size):Below B w w':=(Below.refl _ _).grown h hs (fun k hk=>by cases hk;exact hB)
def TP (w:World) (B p k:Nat):Prop:=B≤p∧p<w.heap.size∧∃ ao n c,w.cell? ⟨p,0,none⟩=some (.slice ao n c)∧w.cell? ⟨p,1,none⟩=some (.int .i64 (k:Int))∧w.frozen? ⟨p,1,none⟩=false∧n≤c∧n≤9223372036854775807 ∧
 ∀ i,i<n→∃ b o x,ao=some ⟨b,o,none⟩∧b<B∧w.cell? ⟨b,o+i,none⟩=some (.int .i64 x)
theorem only_drew {w w':World} {r:Option Nat} (h:w.grownBy w' r):w.grownBy w'.drew r:=⟨h.os,h.tape,h.output,h.size,h.block⟩
theorem tmod_bd (v n:Int) (h:1≤n):-n<v.tmod n∧v.tmod n<n:=by
 rcases Int.le_total 0 v with h0 |h0
 ·rw[Int.tmod_eq_emod_of_nonneg h0]
  have:=Int.emod_nonneg v (show n≠0 by omega)
  have:=Int.emod_lt_of_pos v (show 0<n by omega)
  omega
 have e:v.tmod n=-((-v).tmod n):=by rw[Int.neg_tmod];omega
 rw[e,Int.tmod_eq_emod_of_nonneg (show 0≤-v by omega)]
 have:=Int.emod_nonneg (-v) (show n≠0 by omega)
 have:=Int.emod_lt_of_pos (-v) (show 0<n by omega)
 omega
def NextPost (w:World) (B p k:Nat) (n:Int) (e:Ending) (w':World):Prop:=∃ r:Int,e=.returned (.int .i64 r)∧0≤r∧r<n∧TP w' B p (k+1)∧w.grownBy w' (some p)
theorem next_post {w w':World} {B p k:Nat} {n v r:Int} (hr:r=(v.tmod n+n) % n) (hn:1≤n) (ht:TP w B p k) (hg:w.grownBy w' (some p)) (h1:w'.cell? ⟨p,1,none⟩=some (.int .i64 ((k:Int)+1))) (h0:w'.cell? ⟨p,0,none⟩=w.cell? ⟨p,0,none⟩) (hf:w'.frozen? ⟨p,1,none⟩=false) :
  NextPost w B p k n (.returned (.int .i64 r)) w':=by
 subst hr
 refine⟨_,rfl,Int.emod_nonneg _ (by omega),Int.emod_lt_of_pos _ (by omega),?_,hg⟩
 obtain⟨hB,hs,ao,m,c,c0,_,_,hm,hm2,hx⟩:=ht
 refine⟨hB,Nat.lt_of_lt_of_le hs hg.size,ao,m,c,h0.trans c0,h1,hf,hm,hm2,fun i hi=>?_⟩
 obtain⟨b,o,x,e,hb,hc⟩:=hx i hi
 exact⟨b,o,x,e,hb,only_cell hg hc (by omega)⟩
theorem next_in (B p k m c:Nat) (b o:Nat) (x:Int) (n:Int) (w:World) (ht:TP w B p k) (hk:k<1000000) (h1:1≤n) (h2:n≤1000000) (hm:m≤9223372036854775807) (hmc:m≤c)
  (c0:w.cell? ⟨p,0,none⟩=some (.slice (some ⟨b,o,none⟩) m c)) (c1:w.cell? ⟨p,1,none⟩=some (.int .i64 (k:Int))) (hf:w.frozen? ⟨p,1,none⟩=false) (hlt:k<m) (hx:w.cell? ⟨b,o+k,none⟩=some (.int .i64 x)) :
  Calls Tryz.prog 39 #[.pointer (some ⟨p,0,none⟩),.int .i64 n] w (NextPost w B p k n):=by
 have HT:=Hd ht
 clear ht
 have t1:=tmod_bd x n h1
 have e1:=IntWalk.i64_in (x.tmod n+n) (by omega)
 have e2:0≤x.tmod n+n:=by omega
 go_enter Tryz.func39,Tryz.ntmps39
 go_wp2_with fail
 refine Plan.wp_region_plan (fun w'=>w'.cell? ⟨p,0,none⟩=some (.slice (some ⟨b,o,none⟩) m c)∧w'.cell? ⟨p,1,none⟩=some (.int .i64 (k:Int))) (([0,1,2,3,4,5,6,7,8,9].map (·,true))) (by kernel_rfl) (by kernel_rfl) (by kernel_rfl) ⟨c0,c1⟩ ?_
 refine' Plan.plan_seg _ [0,1,2,3,4,5,6,7,8,9] ([]) (by kernel_rfl) (by kernel_rfl) rfl (by exact⟨c0,c1⟩) (fun wx hS=>?_) ?_
 rotate_left
 ·obtain⟨s0,s1⟩:=hS
  go_light
  iterate 10 (apply Plan.seg_pick;rfl;intro K hK;go_wp)
  exact Plan.seg_nil
 refine Plan.plan_done ?_
 go_wp2_with fail
 refine Plan.wp_region_plan (fun w'=>w'.cell? ⟨p,0,none⟩=some (.slice (some ⟨b,o,none⟩) m c)∧w'.cell? ⟨p,1,none⟩=some (.int .i64 (k:Int))∧w'.cell? ⟨b,o+k,none⟩=some (.int .i64 x)) (([0,1,2,3,4,5,6,7,8,9,10].map (·,true))) (by kernel_rfl) (by kernel_rfl) (by kernel_rfl) ⟨c0,c1,hx⟩ ?_
 refine' Plan.plan_seg _ [0,1,2,3,4,5,6,7,8,9,10] ([]) (by kernel_rfl) (by kernel_rfl) rfl (by exact⟨c0,c1,hx⟩) (fun wx hS=>?_) ?_
 rotate_left
 ·obtain⟨s0,s1,s2⟩:=hS
  go_light
  iterate 11 (apply Plan.seg_pick;rfl;intro K hK;go_wp)
  exact Plan.seg_nil
 refine Plan.plan_done ?_
 go_wp2_with fail
 go_ret
 refine next_post (v:=x) ?_ h1 HT.out ?_ ?_ ?_ ?_
 ·rfl
 ·exact only_drew (only_drew (only_store (only_refl _ _) _ _))
 ·simp[go_sem,c1,World.cell?_drew]
 ·simp[go_sem,c0,World.cell?_drew]
 simp[go_sem,hf]
theorem next_out (B p k m c:Nat) (ao:Option Addr) (n:Int) (w:World) (ht:TP w B p k) (hk:k<1000000) (h1:1≤n) (h2:n≤1000000) (hm:m≤9223372036854775807) (hmc:m≤c)
  (c0:w.cell? ⟨p,0,none⟩=some (.slice ao m c)) (c1:w.cell? ⟨p,1,none⟩=some (.int .i64 (k:Int))) (hf:w.frozen? ⟨p,1,none⟩=false) (hlt:m≤k) :
  Calls Tryz.prog 39 #[.pointer (some ⟨p,0,none⟩),.int .i64 n] w (NextPost w B p k n):=by
 have HT:=Hd ht
 clear ht
 have q0:=Int.emod_nonneg ((k:Int)*7+3) (show n≠0 by omega)
 have q1:=Int.emod_lt_of_pos ((k:Int)*7+3) (show 0<n by omega)
 go_enter Tryz.func39,Tryz.ntmps39
 go_wp2_with fail
 refine Plan.wp_region_plan (fun w'=>w'.cell? ⟨p,0,none⟩=some (.slice ao m c)∧w'.cell? ⟨p,1,none⟩=some (.int .i64 (k:Int))) (([0,1,2,3,4,5,6,7,8,9].map (·,true))) (by kernel_rfl) (by kernel_rfl) (by kernel_rfl) ⟨c0,c1⟩ ?_
 refine' Plan.plan_seg _ [0,1,2,3,4,5,6,7,8,9] ([]) (by kernel_rfl) (by kernel_rfl) rfl (by exact⟨c0,c1⟩) (fun wx hS=>?_) ?_
 rotate_left
 ·obtain⟨s0,s1⟩:=hS
  go_light
  iterate 10 (apply Plan.seg_pick;rfl;intro K hK;go_wp)
  exact Plan.seg_nil
 refine Plan.plan_done ?_
 go_wp2_with fail
 go_ret
 refine next_post (v:=((k:Int)*7+3)) ?_ h1 HT.out ?_ ?_ ?_ ?_
 ·rw[Int.tmod_eq_emod_of_nonneg (show(0:Int)≤(k:Int)*7+3 by omega)]
 ·exact only_drew (only_store (only_refl _ _) _ _)
 ·simp[go_sem,c1,World.cell?_drew]
 ·simp[go_sem,c0,World.cell?_drew]
 simp[go_sem,hf]
theorem next_any (B p k:Nat) (n:Int) (w:World) (ht:TP w B p k) (hk:k<1000000) (h1:1≤n) (h2:n≤1000000) :
  Calls Tryz.prog 39 #[.pointer (some ⟨p,0,none⟩),.int .i64 n] w (NextPost w B p k n):=by
 have ht':=ht
 obtain⟨hB,hs,ao,m,c,c0,c1,hf,hmc,hm,hx⟩:=ht
 by_cases hlt:k<m
 ·obtain⟨b,o,x,rfl,hb,hc⟩:=hx k hlt
  exact next_in B p k m c b o x n w ht' hk h1 h2 hm hmc c0 c1 hf hlt hc
 exact next_out B p k m c ao n w ht' hk h1 h2 hm hmc c0 c1 hf (by omega)
theorem tname_any (a:UInt8) (k:Nat) (w:World) (hk:k<10) :
  Calls Tryz.prog 118 #[.string ⟨#[a]⟩,.int .i64 (k:Int)] w fun e w'=>e=.returned (.string ⟨#[a,UInt8.ofNat (48+k)]⟩)∧w=w':=by
 obtain rfl |rfl |rfl |rfl |rfl |rfl |rfl |rfl |rfl |rfl:k=0∨k=1∨k=2∨k=3∨k=4∨k=5∨k=6∨k=7∨k=8∨k=9:=by omega
 all_goals
  go_enter Tryz.func118,Tryz.ntmps118
  go_wp2_with fail
  go_ret
  refine⟨?_,rfl⟩
  rfl
theorem name_one (c:UInt8) (w:World) (c0:97≤(c.toNat:Int)) (c1:(c.toNat:Int)≤122) :
  Calls Tryz.prog 114 #[.string ⟨#[c]⟩] w fun e w'=>e=.returned (.bool true)∧w=w':=by
 have key0:∀ h,((⟨#[c]⟩:ByteArray)[0]'h)=c:=fun h=>rfl
 have K0:=Hd key0
 clear key0
 go_enter Tryz.func114,Tryz.ntmps114
 go_wp2_with fail
 go_loop [15] (fun i=>i=.int .i64 0∨i=.int .i64 1) (fun i=>1-(intOf i).toNat)
 case atStart=>exact .inl rfl
 case round=>
  rcases hrel with rfl |rfl
  ·go_wp2_with fail
   all_goals
    have key0:=K0.out
    simp only[key0]at *
    first
    |(exfalso;omega)
    |exact⟨by simp,by simp[intOf]⟩
  go_wp2_with fail
  go_ret
  exact⟨rfl,rfl⟩
theorem name_any (nm:ByteArray) (w:World) (h:okName nm):Calls Tryz.prog 114 #[.string nm] w fun e w'=>e=.returned (.bool true)∧w=w':=by
 rcases h with⟨c,d,rfl,h1,h2,h3,h4⟩ |⟨c,rfl,h1,h2⟩
 ·exact name_ok c d w h1 h2 h3 h4
 exact name_one c w h1 h2
theorem vsource_gen (k:Int) (nm:ByteArray) (an ad sn sd:Int) (sm:Bool) (w:World) (hk:k=1∨k=2) (hn:∀ w,Calls Tryz.prog 114 #[.string nm] w fun e w'=>e=.returned (.bool true)∧w=w')
  (a0:1≤ad) (a1:ad≤65536) (a2:an.natAbs.gcd ad.toNat=1) (a3:-1099511627776*ad≤an) (a4:an≤1099511627776*ad)
  (s0:1≤sd) (s1:sd≤65536) (s2:sn.natAbs.gcd sd.toNat=1) (s3:-1024*sd≤sn) (s4:sn≤1024*sd) (hl:ad / (ad.toNat.gcd sd.toNat:Int)*sd≤65536) :
  Calls Tryz.prog 134 #[.agg #[.int .i64 k,.string nm,.int .i64 an,.int .i64 ad,.int .i64 sn,.int .i64 sd,.bool sm]] w fun e w'=>e=.returned (.bool true)∧Below w.heap.size w w':=by
 have HN:=Hd hn
 clear hn
 have HA:=Hd (fun w=>bounded_at an ad w a0 a1 a2 a3 a4)
 have HS:=Hd (fun w=>bounded_sp sn sd w s0 s1 s2 s3 s4)
 obtain⟨g,hg⟩:∃ g:Nat,g=ad.toNat.gcd sd.toNat:=⟨_,rfl⟩
 have hg0:1≤g:=by rw[hg];exact Nat.gcd_pos_of_pos_left _ (by omega)
 have HD:=Hd (show ∀ w,Calls Tryz.prog 158 #[.int .i64 ad,.int .i64 sd] w fun e w'=>e=.returned (.int .i64 (g:Int))∧∃ m,w'=w.drewN m from fun w=>by
  have h:=divisor_any ad.toNat sd.toNat w (by omega) (by omega)
  rw[← hg,Int.toNat_of_nonneg (by omega),Int.toNat_of_nonneg (by omega)]at h
  exact h)
 rw[← hg]at hl
 obtain⟨q,hq⟩:=Xq (ad / (g:Int))
 have hq0:0≤q:=by rw[hq];exact Int.ediv_nonneg (by omega) (by omega)
 have hq1:q≤65536:=by rw[hq];exact Int.le_trans (Int.ediv_le_self _ (by omega)) a1
 rw[← hq]at hl
 have hq2:=Hd hq
 clear hq
 have hb0:0≤q*sd:=Int.mul_nonneg hq0 (by omega)
 have hne:=run_eq_src ⟨k,nm,an,ad,sn,sd,sm⟩ black
 rw[decide_eq_false (by intro e;have:=congrArg Src.kind e;simp only[black]at this;omega)]at hne
 have HNE:=Hd hne
 clear hne hg a2 a3 a4 s2 s3 s4
 go_enter Tryz.func134,Tryz.ntmps134
 go_upto_region 1 with fail
 obtain⟨w1,hw1⟩:=Xq (w.alloc (.cells #[.int .i64 k,.string nm,.int .i64 an,.int .i64 ad,.int .i64 sn,.int .i64 sd,.bool sm] 46))
 rw[← hw1]
 have hb1:Below w.heap.size w w1:=by rw[hw1];exact below_box _ _
 obtain⟨b,hb⟩:=Xq (w.heap.size)
 have c0:C7 w1 b 0 (.int .i64 k) (.string nm) (.int .i64 an) (.int .i64 ad) (.int .i64 sn) (.int .i64 sd) (.bool sm):=by rw[hw1,hb];constructor<;>simp[go_sem]
 rw[← hb]
 have HB:=Hd hb1
 have HC:=Hd c0
 clear hw1 hb1
 obtain⟨x0,x1,x2,x3,x4,x5,x6⟩:=c0.at0
 have hq:=HNE.out w1
 simp only[black]at hq
 clear c0 hb
 have hdv:Int.tdiv ad (g:Int)=q:=by rw[hq2.out];exact Int.tdiv_eq_ediv_of_nonneg (by omega)
 have hgz:¬(g:Int)=0:=by omega
 clear hq2
 rcases hk with rfl |rfl
 ·go_upto_region 5 with(go_at_call 114;refine(HN.out _).mono ?_;rintro e w' ⟨rfl,rfl⟩)
  clear x0 x1 x2 x3 x4 x5 x6 hq HNE HN
  refine Plan.wp_region_plan (fun w'=>C7 w' b 0 (.int .i64 1) (.string nm) (.int .i64 an) (.int .i64 ad) (.int .i64 sn) (.int .i64 sd) (.bool sm)) (([0,1].map (·,true))++(([2].map (·,false))++(([3,4,5].map (·,true))++(([6].map (·,false))++(([7,8,9,10,11,12,13,14,15,16,17,20,21,22].map (·,true))++(([18].map (·,false))++([19,23,24,25,26].map (·,true)))))))) (by kernel_rfl) (by kernel_rfl) (by kernel_rfl) (HC.out.below (Below.refl _ _).drew) ?_
  refine' Plan.plan_seg _ [0,1] (([2].map (·,false))++(([3,4,5].map (·,true))++(([6].map (·,false))++(([7,8,9,10,11,12,13,14,15,16,17,20,21,22].map (·,true))++(([18].map (·,false))++([19,23,24,25,26].map (·,true))))))) (by kernel_rfl) (by kernel_rfl) rfl (by exact HC.out.below (Below.refl _ _).drew) (fun wx hS=>?_) ?_
  rotate_left
  ·obtain⟨x0,x1,x2,x3,x4,x5,x6⟩:=hS.at0
   clear hS
   go_light
   iterate 2 (apply Plan.seg_pick;rfl;intro K hK;go_wp)
   exact Plan.seg_nil
  obtain⟨w2,hw2⟩:=Xq (w1.drew)
  rw[← hw2]
  have hb:Below w1.heap.size w1 w2:=by rw[hw2];exact(Below.refl _ _).drew
  replace HC:=Hd (HC.out.below hb)
  replace HB:=Tb HB hb
  clear hb hw2
  refine Plan.plan_of_effect rfl (fun K hK=>?_)
  go_wp2_with fail
  refine(HA.out w2).mono ?_
  rintro e w3 ⟨rfl,hb⟩
  replace HC:=Hd (HC.out.below hb)
  replace HB:=Tb HB hb
  clear hb
  go_wp2_with fail
  refine⟨HC.out,?_⟩
  refine' Plan.plan_seg _ [3,4,5] (([6].map (·,false))++(([7,8,9,10,11,12,13,14,15,16,17,20,21,22].map (·,true))++(([18].map (·,false))++([19,23,24,25,26].map (·,true))))) (by kernel_rfl) (by kernel_rfl) rfl (by exact HC.out) (fun wx hS=>?_) ?_
  rotate_left
  ·obtain⟨x0,x1,x2,x3,x4,x5,x6⟩:=hS.at0
   clear hS
   go_light
   iterate 3 (apply Plan.seg_pick;rfl;intro K hK;go_wp)
   exact Plan.seg_nil
  refine Plan.plan_of_effect rfl (fun K hK=>?_)
  go_wp2_with fail
  refine(HS.out w3).mono ?_
  rintro e w4 ⟨rfl,hb⟩
  replace HC:=Hd (HC.out.below hb)
  replace HB:=Tb HB hb
  clear hb
  go_wp2_with fail
  refine⟨HC.out,?_⟩
  refine' Plan.plan_seg _ [7,8,9,10,11,12,13,14,15,16,17,20,21,22] (([18].map (·,false))++([19,23,24,25,26].map (·,true))) (by kernel_rfl) (by kernel_rfl) rfl (by exact HC.out) (fun wx hS=>?_) ?_
  rotate_left
  ·obtain⟨x0,x1,x2,x3,x4,x5,x6⟩:=hS.at0
   clear hS
   go_light
   iterate 14 (apply Plan.seg_pick;rfl;intro K hK;go_wp)
   exact Plan.seg_nil
  refine Plan.plan_of_effect rfl (fun K hK=>?_)
  go_wp2_with fail
  refine(HD.out w4).mono ?_
  rintro e w5 ⟨rfl,m,hm⟩
  have hb:Below w4.heap.size w4 w5:=by rw[hm];exact below_drewN (Below.refl _ _) _
  clear hm
  replace HC:=Hd (HC.out.below hb)
  replace HB:=Tb HB hb
  clear hb
  go_wp2_with fail
  refine⟨HC.out,?_⟩
  refine' Plan.plan_seg _ [19,23,24,25,26] [] (by kernel_rfl) (by kernel_rfl) rfl (by exact HC.out) (fun wx hS=>?_) ?_
  rotate_left
  ·obtain⟨x0,x1,x2,x3,x4,x5,x6⟩:=hS.at0
   clear hS
   go_light
   iterate 5 (apply Plan.seg_pick;rfl;intro K hK;go_wp)
   exact Plan.seg_nil
  refine Plan.plan_done ?_
  go_wp2_with fail
  go_ret
  exact⟨ret_bool (by first |rfl |(simp;done) |(simp;omega)),HB.out⟩
 go_upto_region 5 with(go_at_call 114;refine(HN.out _).mono ?_;rintro e w' ⟨rfl,rfl⟩)
 clear x0 x1 x2 x3 x4 x5 x6 hq HNE HN
 refine Plan.wp_region_plan (fun w'=>C7 w' b 0 (.int .i64 2) (.string nm) (.int .i64 an) (.int .i64 ad) (.int .i64 sn) (.int .i64 sd) (.bool sm)) (([0,1].map (·,true))++(([2].map (·,false))++(([3,4,5].map (·,true))++(([6].map (·,false))++(([7,8,9,10,11,12,13,14,15,16,17,20,21,22].map (·,true))++(([18].map (·,false))++([19,23,24,25,26].map (·,true)))))))) (by kernel_rfl) (by kernel_rfl) (by kernel_rfl) (HC.out.below (Below.refl _ _).drew) ?_
 refine' Plan.plan_seg _ [0,1] (([2].map (·,false))++(([3,4,5].map (·,true))++(([6].map (·,false))++(([7,8,9,10,11,12,13,14,15,16,17,20,21,22].map (·,true))++(([18].map (·,false))++([19,23,24,25,26].map (·,true))))))) (by kernel_rfl) (by kernel_rfl) rfl (by exact HC.out.below (Below.refl _ _).drew) (fun wx hS=>?_) ?_
 rotate_left
 ·obtain⟨x0,x1,x2,x3,x4,x5,x6⟩:=hS.at0
  clear hS
  go_light
  iterate 2 (apply Plan.seg_pick;rfl;intro K hK;go_wp)
  exact Plan.seg_nil
 obtain⟨w2,hw2⟩:=Xq (w1.drew)
 rw[← hw2]
 have hb:Below w1.heap.size w1 w2:=by rw[hw2];exact(Below.refl _ _).drew
 replace HC:=Hd (HC.out.below hb)
 replace HB:=Tb HB hb
 clear hb hw2
 refine Plan.plan_of_effect rfl (fun K hK=>?_)
 go_wp2_with fail
 refine(HA.out w2).mono ?_
 rintro e w3 ⟨rfl,hb⟩
 replace HC:=Hd (HC.out.below hb)
 replace HB:=Tb HB hb
 clear hb
 go_wp2_with fail
 refine⟨HC.out,?_⟩
 refine' Plan.plan_seg _ [3,4,5] (([6].map (·,false))++(([7,8,9,10,11,12,13,14,15,16,17,20,21,22].map (·,true))++(([18].map (·,false))++([19,23,24,25,26].map (·,true))))) (by kernel_rfl) (by kernel_rfl) rfl (by exact HC.out) (fun wx hS=>?_) ?_
 rotate_left
 ·obtain⟨x0,x1,x2,x3,x4,x5,x6⟩:=hS.at0
  clear hS
  go_light
  iterate 3 (apply Plan.seg_pick;rfl;intro K hK;go_wp)
  exact Plan.seg_nil
 refine Plan.plan_of_effect rfl (fun K hK=>?_)
 go_wp2_with fail
 refine(HS.out w3).mono ?_
 rintro e w4 ⟨rfl,hb⟩
 replace HC:=Hd (HC.out.below hb)
 replace HB:=Tb HB hb
 clear hb
 go_wp2_with fail
 refine⟨HC.out,?_⟩
 refine' Plan.plan_seg _ [7,8,9,10,11,12,13,14,15,16,17,20,21,22] (([18].map (·,false))++([19,23,24,25,26].map (·,true))) (by kernel_rfl) (by kernel_rfl) rfl (by exact HC.out) (fun wx hS=>?_) ?_
 rotate_left
 ·obtain⟨x0,x1,x2,x3,x4,x5,x6⟩:=hS.at0
  clear hS
  go_light
  iterate 14 (apply Plan.seg_pick;rfl;intro K hK;go_wp)
  exact Plan.seg_nil
 refine Plan.plan_of_effect rfl (fun K hK=>?_)
 go_wp2_with fail
 refine(HD.out w4).mono ?_
 rintro e w5 ⟨rfl,m,hm⟩
 have hb:Below w4.heap.size w4 w5:=by rw[hm];exact below_drewN (Below.refl _ _) _
 clear hm
 replace HC:=Hd (HC.out.below hb)
 replace HB:=Tb HB hb
 clear hb
 go_wp2_with fail
 refine⟨HC.out,?_⟩
 refine' Plan.plan_seg _ [19,23,24,25,26] [] (by kernel_rfl) (by kernel_rfl) rfl (by exact HC.out) (fun wx hS=>?_) ?_
 rotate_left
 ·obtain⟨x0,x1,x2,x3,x4,x5,x6⟩:=hS.at0
  clear hS
  go_light
  iterate 5 (apply Plan.seg_pick;rfl;intro K hK;go_wp)
  exact Plan.seg_nil
 refine Plan.plan_done ?_
 go_wp2_with fail
 go_ret
 exact⟨ret_bool (by first |rfl |(simp;done) |(simp;omega)),HB.out⟩
theorem lcm_le {a b:Nat} (ha:a∣6006) (hb:b∣6006) (h:0<a):a / a.gcd b*b≤6006:=by
 have h1:a.lcm b∣6006:=Nat.lcm_dvd ha hb
 have h2:a / a.gcd b*b=a.lcm b:=by
  rw[Nat.lcm,Nat.mul_comm a b,Nat.mul_div_assoc _ (Nat.gcd_dvd_left a b),Nat.mul_comm]
 rw[h2]
 exact Nat.le_of_dvd (by decide) h1
theorem vsrc_any {L n:Int} (s:Src) (w:World) (h:Trk.SrcIn L n s) (hL:L≤140737488355328):Calls Tryz.prog 134 #[srcV s] w fun e w'=>e=.returned (.bool true)∧Below w.heap.size w w':=by
 rcases h with rfl |h
 ·exact vsource_black w
 obtain⟨a0,a1,s0,s1,n0,n1,v0,v1⟩:=h.nums
 obtain⟨f0,f1⟩:=h.far hL
 have hl:s.ad / (s.ad.toNat.gcd s.sd.toNat:Int)*s.sd≤65536:=by
  have hda:s.ad.toNat∣6006:=by
   have:=h.lat.a
   rw[show s.ad=((s.ad.toNat:Nat):Int) by omega]at this
   exact Int.natCast_dvd_natCast.1 this
  have hds:s.sd.toNat∣6006:=by
   have:=h.lat.s
   rw[show s.sd=((s.sd.toNat:Nat):Int) by omega]at this
   exact Int.natCast_dvd_natCast.1 this
  have:=lcm_le hda hds (by omega)
  have e:s.ad / (s.ad.toNat.gcd s.sd.toNat:Int)*s.sd=((s.ad.toNat / s.ad.toNat.gcd s.sd.toNat*s.sd.toNat:Nat):Int):=by
   rw[Int.natCast_mul,Int.natCast_ediv,Int.toNat_of_nonneg (show 0≤s.ad by omega),Int.toNat_of_nonneg (show 0≤s.sd by omega)]
  rw[e]
  omega
 exact vsource_gen s.kind s.name s.an s.ad s.sn s.sd s.smooth w h.k (fun w=>name_any _ w h.nm) a0 (by omega) h.lat.g.a1 (by omega) (by omega) s0 (by omega) h.lat.g.s1 (by omega) (by omega) hl
theorem SrcIn.oks {L n:Int} {s:Src} (h:Trk.SrcIn L n s) (hL:L≤140737488355328):OkS s:=by
 rcases h with rfl |h
 ·exact .inl rfl
 obtain⟨a0,a1,s0,s1,n0,n1,v0,v1⟩:=h.nums
 exact .inr ⟨h.lat.g,by omega,by omega,by omega,by omega⟩
theorem okC_of {L:Int} {c:Clip} (h:Trk.VC L c) (hL:L≤140737488355328) (ho:c.off.natAbs≤4611686018427387904):OkC c:=
 ⟨h.good,SrcIn.oks h.c.a hL,SrcIn.oks h.c.b hL,h.c.ch,by have:=h.l.2.1;omega,ho⟩
theorem off_le {L:Int} {c:Clip} (h:Trk.VC L c):0≤c.off∧c.off≤2147483647∧0≤c.total∧c.total≤2147483647:=by
 have hs:∀ k,(k=2∨k=3)→shares k=true:=by rintro k (rfl |rfl)<;>rfl
 have l0:=h.l.1
 rcases h.c.kd with⟨h0,h1,h2,h3,h4,h5,h6⟩ |⟨h0,h2,h3,h4,h5,h6⟩ |⟨h0,h5,h6⟩ |⟨h0,h5,h6⟩ |⟨h0,h3,h4,h5,h6⟩ |⟨h0,h2,h3,h4,h5,h6⟩
 ·omega
 ·omega
 ·have:=h.l.2.2 (hs _ (.inl h0));omega
 ·have:=h.l.2.2 (hs _ (.inr h0));omega
 ·omega
 omega
theorem VC.okC {L:Int} {c:Clip} (h:Trk.VC L c) (hL:L≤140737488355328):OkC c:=okC_of h hL (by have:=off_le h;omega)
end Go.Proofs.YtfoohocgdcgbcaaGreat
