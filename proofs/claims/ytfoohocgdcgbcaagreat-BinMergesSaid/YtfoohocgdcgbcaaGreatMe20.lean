/- Texts of this claim joined: HN HO HP MA MB MC MF MG. -/
import Derived.Test.YtfoohocgdcgbcaaGreatMe19
import Derived.Test.YtfoohocgdcgbcaaGreatSq
set_option linter.unusedVariables false
set_option linter.unusedSimpArgs false
set_option maxRecDepth 100000
set_option maxHeartbeats 40000000
namespace Go.Proofs.YtfoohocgdcgbcaaGreat
open Go.RowKit
theorem results_clipG2 {fn:Func} {tmps:Array Value} {w:World} {s t:Tmp} {b:Nat} {c:Trk.Clip} {x v:Value} (hr:fn.results=#[.cell s 48,.tmp t]) (ht:tmps.getD s undef=.pointer (some ⟨b,0,none⟩)) (hv:tmps.getD t undef=v) (hc:GA w b 0 c x):(results fn tmps).run Tryz.prog w=.ok (.tuple #[.agg (clipG c x).toArray,v]) w:=by
 have h:=run_loadVar_mid (P:=Tryz.prog) w b 0 48 (clipG c x) _ hc.range Tryz.underlying48 rfl (by kernel_rfl)
 obtain⟨C,hC⟩:=Xq ((clipG c x).toArray)
 rw[← hC]at h ⊢
 unfold results
 rw[hr]
 have ht2:tmps[s]?.getD undef=.pointer (some ⟨b,0,none⟩):=by rw[← Array.getD_eq_getD_getElem?];exact ht
 have hv2:tmps[t]?.getD undef=v:=by rw[← Array.getD_eq_getD_getElem?];exact hv
 simp[ht2,hv2,asAddr,h]
theorem GB.srcb {w:World} {b:Nat} {c:Trk.Clip} {x:Value} (h:GB w b c x):C7 w b 9 (.int .i64 c.b.kind) (.string c.b.name) (.int .i64 c.b.an) (.int .i64 c.b.ad) (.int .i64 c.b.sn) (.int .i64 c.b.sd) (.bool c.b.smooth):=by
 obtain⟨x0,x1,x2,x3,x4,x5,x6,x7,x8,x9,x10,x11,x12,x13,x14,x15,x16,x17,x18,x19,x20,x21⟩:=h.ga.at0
 exact⟨x9,x10,x11,x12,x13,x14,x15⟩
theorem Ch.far_a {w:World} {b:Nat} {c:Trk.Clip} {x y:Value} {l:List Int} (h:Ch w 0 y l) (hb:GB w b c x) (s:Trk.Src):Ch (((((((w.setCell ⟨b,2,none⟩ (.int .i64 s.kind)).setCell ⟨b,3,none⟩ (.string s.name)).setCell ⟨b,4,none⟩ (.int .i64 s.an)).setCell ⟨b,5,none⟩ (.int .i64 s.ad)).setCell ⟨b,6,none⟩ (.int .i64 s.sn)).setCell ⟨b,7,none⟩ (.int .i64 s.sd)).setCell ⟨b,8,none⟩ (.bool s.smooth)) 0 y l:=by
 refine h.far (by simp) hb.e (by decide) (Nat.zero_le _) fun b2 _ hn=>?_
 exact setCells_other b b2 hn [.int .i64 s.kind,.string s.name,.int .i64 s.an,.int .i64 s.ad,.int .i64 s.sn,.int .i64 s.sd,.bool s.smooth] 2 w
theorem Ch.far_b {w:World} {b:Nat} {c:Trk.Clip} {x y:Value} {l:List Int} (h:Ch w 0 y l) (hb:GB w b c x) (s:Trk.Src):Ch (((((((w.setCell ⟨b,9,none⟩ (.int .i64 s.kind)).setCell ⟨b,10,none⟩ (.string s.name)).setCell ⟨b,11,none⟩ (.int .i64 s.an)).setCell ⟨b,12,none⟩ (.int .i64 s.ad)).setCell ⟨b,13,none⟩ (.int .i64 s.sn)).setCell ⟨b,14,none⟩ (.int .i64 s.sd)).setCell ⟨b,15,none⟩ (.bool s.smooth)) 0 y l:=by
 refine h.far (by simp) hb.e (by decide) (Nat.zero_le _) fun b2 _ hn=>?_
 exact setCells_other b b2 hn [.int .i64 s.kind,.string s.name,.int .i64 s.an,.int .i64 s.ad,.int .i64 s.sn,.int .i64 s.sd,.bool s.smooth] 9 w
def AdvPost (c:Trk.Clip) (n:Int) (w:World) (e:Ending) (w':World):Prop:=
 (((plB (Trk.moved c.a n) && plB (Trk.moved c.b n)) = true ∧ ∃ x, e = .returned (.tuple #[clipGV (Trk.withLen (Trk.shift c n) (c.len - n)) x, .int .i64 0]) ∧ Ch w' 0 x c.chan) ∨
  ((plB (Trk.moved c.a n)&&plB (Trk.moved c.b n))=false∧e=.returned (.tuple #[.agg (clipG (Trk.gap 0) (.slice none 0 0)).toArray,.int .i64 2])))∧Below w.heap.size w w'
theorem advanceg_any (c:Trk.Clip) (x:Value) (n:Int) (w:World) (hI:IT w x c.chan) (hV:VG c) (n0:0≤n) (n1:n<c.len) :
  Calls Tryz.prog 69 #[clipGV c x,.int .i64 n] w (AdvPost c n w):=by
 unfold AdvPost
 have hl:=hV.l1
 have ho:=hV.off
 have HVC:=Hd (show ∀ w1,Below w.heap.size w w1→Calls Tryz.prog 89 #[clipGV c x] w1 fun e w'=>e=.returned (.bool true)∧Below w1.heap.size w1 w' from fun w1 hb=>by
  have h:=clip_says c x w1 (hI.below hb) hV.inc
  rw[clipB_iff.2 hV]at h
  exact h)
 have HCP:=Hd (fun(w1:World) (hb:Below w.heap.size w w1)=>copiedg_any c x w1 (hI.below hb) (by have:=hV.ch.1;omega))
 have HMA:=Hd (fun w=>moved_wide c.a n w (hV.a.okw.mono (by decide)) (by omega))
 have HMB:=Hd (fun w=>moved_wide c.b n w (hV.b.okw.mono (by decide)) (by omega))
 have HPA:=Hd (fun w=>placedg_any (Trk.moved c.a n) w (hV.a.far n (by omega)))
 have HPB:=Hd (fun w=>placedg_any (Trk.moved c.b n) w (hV.b.far n (by omega)))
 have HSH:=Hd (fun w=>share_any c.kind w)
 obtain⟨ma,hma⟩:=Xq (Trk.moved c.a n)
 obtain⟨mb,hmb⟩:=Xq (Trk.moved c.b n)
 obtain⟨of,hof2⟩:=Xq ((if Trk.shares c.kind=true then c.off+n else c.off))
 have hres:Trk.withLen (Trk.shift c n) (c.len-n)={ c with len:=c.len-n,a:=ma,b:=mb,off:=of }:=by rw[hma,hmb,hof2];rfl
 rw[hres]
 rw[← hma]at HMA HPA ⊢
 rw[← hmb]at HMB HPB ⊢
 obtain⟨pa,hpa⟩:=Xq (plB ma)
 obtain⟨pb,hpb⟩:=Xq (plB mb)
 rw[← hpa]at HPA ⊢
 rw[← hpb]at HPB ⊢
 clear hma hmb hres hpa hpb hV
 obtain⟨ax,cx,ex,-⟩:=id hI
 obtain⟨nx,hnx⟩:=Xq (c.chan.length)
 rw[← hnx]at ex
 rw[ex]at HVC HCP ⊢
 clear hI ex
 unfold clipGV at HVC HCP ⊢
 simp only[srcV,srcC]at HMA HMB HPA HPB
 have HOF:=Hd hof2
 clear hof2
 obtain⟨C,hC⟩:=Xq ((clipG c (.slice ax nx cx)).toArray)
 rw[← hC]at HVC HCP ⊢
 have HC:=Hd hC
 clear hC
 go_enter Tryz.func69,Tryz.ntmps69
 go_upto_region 1 with fail
 obtain⟨w1,hw1⟩:=Xq ((w.alloc (.cells C 48)).alloc (.cells (clipC (Trk.gap 0)).toArray 48))
 have hw1':=hw1
 simp only[clipC,Trk.gap,Trk.black,show(ByteArray.empty:ByteArray)=⟨#[]⟩ from rfl]at hw1'
 rw[← hw1']
 clear hw1'
 rw[HC.out]at hw1
 obtain⟨hx,hy,hb1⟩:GB w1 w.heap.size c (.slice ax nx cx)∧GB w1 (w.heap.size+1) (Trk.gap 0) (.slice none 0 0)∧Below w.heap.size w w1:=by
  subst hw1
  refine⟨(GB.box w c _).below (below_box _ _),?_,by go_grown⟩
  have h2:=GB.box (w.alloc (.cells (clipG c (.slice ax nx cx)).toArray 48)) (Trk.gap 0) (.slice none 0 0)
  rw[show(w.alloc (.cells (clipG c (.slice ax nx cx)).toArray 48)).heap.size=w.heap.size+1 by simp]at h2
  exact h2
 obtain⟨g1,hg1⟩:=Xq (w.heap.size)
 obtain⟨g2,hg2⟩:=Xq (w.heap.size+1)
 rw[← hg2]at hy ⊢
 rw[← hg1]at hx ⊢
 have hne:g1≠g2:=by omega
 have hn1:w.heap.size≤g1:=by omega
 have hn2:w.heap.size≤g2:=by omega
 clear hw1 hg1 hg2
 apply wp_region_lit
 refine wpl_loadG hx.ga rfl rfl rfl ?_
 rw[← HC.out]
 simp only[Act.put,sA1,sB1,sC1]
 have HX:=Hd hx
 have HY:=Hd hy
 have HB:=Hd hb1
 clear hx hy hb1
 go_wp2_with fail
 refine(HVC.out _ HB.out).mono ?_
 rintro e w2 ⟨rfl,hb⟩
 replace HX:=Hd (HX.out.below hb)
 replace HY:=Hd (HY.out.below hb)
 replace HB:=Tb HB hb
 clear hb
 have x0:=HX.out.ga.at0.1
 go_upto_region 3 with fail
 apply wp_region_lit
 refine wpl_loadG HX.out.ga rfl rfl rfl ?_
 rw[← HC.out]
 simp only[Act.put,sA1,sB1,sC1]
 iterate 2 go_step
 refine(HCP.out _ HB.out).mono ?_
 rintro e w3 ⟨x2,rfl,hch,hb⟩
 obtain⟨ay,cy,ey⟩:=hch.form
 rw[← hnx]at ey
 subst ey
 have HCH:=Hd hch
 clear hch hnx
 replace HX:=Hd (HX.out.below hb)
 replace HY:=Hd (HY.out.below hb)
 replace HB:=Tb HB hb
 clear hb x0
 dsimp only
 go_step
 refine wpl_storeB2 c ay nx cy HX.out rfl rfl rfl rfl ?_
 intro w4 hv ho4 hs4 hb4
 replace HY:=Hd (show GB w4 g2 (Trk.gap 0) (.slice none 0 0) from⟨(ho4 _ hne.symm).trans HY.out.e⟩)
 replace HCH:=Hd (HCH.out.far (Nat.le_of_eq hs4.symm) HX.out.e (by decide) (Nat.zero_le _) (fun b _ hn=>ho4 b hn))
 replace HB:=Hd (hb4 _ _ hn1 HB.out)
 replace HX:=Hd hv
 clear hv ho4 hs4 hb4
 simp only[Act.put,sA1,sB1,sC1]
 have x0:=HX.out.ga.at0.1
 have xf:=HX.out.fz
 go_upto_region 5 with fail
 replace HCH:=Hd (HCH.out.far (w':=w4.setCell ⟨g1,0,none⟩ (.int .i64 (c.len-n))) (by simp) HX.out.e (by decide) (Nat.zero_le _) (fun b _ hn=>setCells_other g1 b hn [_] 0 w4))
 replace HY:=Hd (HY.out.other hne.symm 0 (.int .i64 (c.len-n)))
 replace HB:=Hd (HB.out.setCell (p:=⟨g1,0,none⟩) hn1 (.int .i64 (c.len-n)))
 replace HX:=Hd (HX.out.set_len (c.len-n))
 clear x0 xf
 obtain⟨w5,hw5⟩:=Xq (w4.setCell ⟨g1,0,none⟩ (.int .i64 (c.len-n)))
 rw[← hw5]at HX HY HB HCH ⊢
 clear hw5
 go_cut [] from 28 (fun wx=>GB wx g1 { c with len:=c.len-n,a:=ma,b:=mb } (.slice ay nx cy)∧GB wx g2 (Trk.gap 0) (.slice none 0 0)∧Ch wx 0 (.slice ay nx cy) c.chan∧Below w.heap.size w wx)
 case first J K' h1 h2=>
  refine Plan.wp_region_planz (fun w'=>C7 w' g1 9 (.int .i64 c.b.kind) (.string c.b.name) (.int .i64 c.b.an) (.int .i64 c.b.ad) (.int .i64 c.b.sn) (.int .i64 c.b.sd) (.bool c.b.smooth)) 11 (([0,2,4,5,6].map (·,true))++(([1,3].map (·,false))++(([8].map (·,true))++(([7,9].map (·,false))++(([10].map (·,true))++([11].map (·,false))))))) (by kernel_rfl) (by kernel_rfl) (by kernel_rfl) (HX.out.srcb.below (Below.refl _ _).drew) ?_
  refine' Plan.plan_seg _ [0,2,4,5,6] (([1,3].map (·,false))++(([8].map (·,true))++(([7,9].map (·,false))++(([10].map (·,true))++([11].map (·,false)))))) (by kernel_rfl) (by kernel_rfl) rfl (by exact HX.out.srcb.below (Below.refl _ _).drew) (fun wx hS=>?_) ?_
  rotate_left
  ·obtain⟨x9,x10,x11,x12,x13,x14,x15⟩:=hS
   simp only[show 9+1=10 from rfl,show 9+2=11 from rfl,show 9+3=12 from rfl,show 9+4=13 from rfl,show 9+5=14 from rfl,show 9+6=15 from rfl]at x10 x11 x12 x13 x14 x15
   go_light
   iterate 5 (apply Plan.seg_pick;rfl;intro K hK;go_wp)
   exact Plan.seg_nil
  obtain⟨w6,hw6⟩:=Xq (w5.drew)
  rw[← hw6]
  have hb:Below w5.heap.size w5 w6:=by rw[hw6];exact(Below.refl _ _).drew
  replace HX:=Hd (HX.out.below hb)
  replace HY:=Hd (HY.out.below hb)
  replace HB:=Tb HB hb
  replace HCH:=Hd (HCH.out.below hb)
  clear hb hw6
  refine Plan.plan_of_effect rfl (fun K hK=>?_)
  obtain⟨_,_,x2,x3,x4,x5,x6,x7,x8,_⟩:=HX.out.ga.at0
  go_wp2_with fail
  clear x2 x3 x4 x5 x6 x7 x8
  refine⟨HX.out.srcb,?_⟩
  refine Plan.plan_of_effect rfl (fun K hK=>?_)
  go_wp2_with fail
  refine(HMA.out _).mono ?_
  rintro e w7 ⟨rfl,hb⟩
  replace HX:=Hd (HX.out.below hb)
  replace HY:=Hd (HY.out.below hb)
  replace HB:=Tb HB hb
  replace HCH:=Hd (HCH.out.below hb)
  clear hb
  go_wp2_with fail
  refine⟨HX.out.srcb,?_⟩
  refine' Plan.plan_seg (S:=(fun w'=>C7 w' g1 9 (.int .i64 c.b.kind) (.string c.b.name) (.int .i64 c.b.an) (.int .i64 c.b.ad) (.int .i64 c.b.sn) (.int .i64 c.b.sd) (.bool c.b.smooth))) _ [8] (([7,9].map (·,false))++(([10].map (·,true))++([11].map (·,false)))) (by kernel_rfl) (by kernel_rfl) rfl (by exact HX.out.srcb) (fun wx hS=>?_) ?_
  rotate_left
  ·clear hS
   go_light
   iterate 1 (apply Plan.seg_pick;rfl;intro K hK;go_wp)
   exact Plan.seg_nil
  refine Plan.plan_of_effect rfl (fun K hK=>?_)
  go_wp2_with fail
  refine(HMB.out _).mono ?_
  rintro e w8 ⟨rfl,hb⟩
  replace HX:=Hd (HX.out.below hb)
  replace HY:=Hd (HY.out.below hb)
  replace HB:=Tb HB hb
  replace HCH:=Hd (HCH.out.below hb)
  clear hb
  go_wp2_with fail
  refine⟨HX.out.srcb,?_⟩
  refine Plan.plan_of_effect rfl (fun K hK=>?_)
  obtain⟨_,_,x2,x3,x4,x5,x6,x7,x8,_⟩:=HX.out.ga.at0
  have xf:=HX.out.fz
  go_wp2_with fail
  clear x2 x3 x4 x5 x6 x7 x8 xf
  replace HCH:=Hd (HCH.out.far_a HX.out ma)
  replace HY:=Hd (HY.out.other_a hne.symm ma)
  replace HB:=Hd (below_set_a HB.out hn1 ma)
  replace HX:=Hd (HX.out.set_a ma)
  obtain⟨w9,hw9⟩:=Xq ((((((((w8.setCell ⟨g1,2,none⟩ (.int .i64 ma.kind)).setCell ⟨g1,3,none⟩ (.string ma.name)).setCell ⟨g1,4,none⟩ (.int .i64 ma.an)).setCell ⟨g1,5,none⟩ (.int .i64 ma.ad)).setCell ⟨g1,6,none⟩ (.int .i64 ma.sn)).setCell ⟨g1,7,none⟩ (.int .i64 ma.sd)).setCell ⟨g1,8,none⟩ (.bool ma.smooth)))
  rw[← hw9]at HX HY HB HCH ⊢
  clear hw9
  refine⟨HX.out.srcb,?_⟩
  refine' Plan.plan_seg (S:=(fun w'=>C7 w' g1 9 (.int .i64 c.b.kind) (.string c.b.name) (.int .i64 c.b.an) (.int .i64 c.b.ad) (.int .i64 c.b.sn) (.int .i64 c.b.sd) (.bool c.b.smooth))) _ [10] ([11].map (·,false)) (by kernel_rfl) (by kernel_rfl) rfl (by exact HX.out.srcb) (fun wx hS=>?_) ?_
  rotate_left
  ·clear hS
   go_light
   iterate 1 (apply Plan.seg_pick;rfl;intro K hK;go_wp)
   exact Plan.seg_nil
  refine Plan.plan_of_last rfl (fun K hK=>?_)
  obtain⟨_,_,_,_,_,_,_,_,_,x9,x10,x11,x12,x13,x14,x15,_⟩:=HX.out.ga.at0
  have xf:=HX.out.fz
  go_wp2_with fail
  replace HCH:=Hd (HCH.out.far_b HX.out mb)
  replace HY:=Hd (HY.out.other_b hne.symm mb)
  replace HB:=Hd (below_set_b HB.out hn1 mb)
  replace HX:=Hd (HX.out.set_b mb)
  clear x9 x10 x11 x12 x13 x14 x15 xf
  refine Plan.plan_done ?_
  refine h2 _ _ (Met.intro (h1 _ _ ?_))
  (repeat apply Exists.intro)
  exact⟨⟨HX.out,HY.out,HCH.out,HB.out⟩,rfl⟩
 clear HX HY HB HCH
 have HX:=Hd hcut.1
 have HY:=Hd hcut.2.1
 have HCH:=Hd hcut.2.2.1
 have HB:=Hd hcut.2.2.2
 clear hcut
 have y1:=HX.out.ga.k1
 simp only[Nat.zero_add]at y1
 go_upto_if 40 with(go_at_call 110;refine(HSH.out _).mono ?_;rintro e w' ⟨rfl,rfl⟩)
 clear y1
 go_cut [] from 41 (fun wx=>GB wx g1 { c with len:=c.len-n,a:=ma,b:=mb,off:=of } (.slice ay nx cy)∧GB wx g2 (Trk.gap 0) (.slice none 0 0)∧Ch wx 0 (.slice ay nx cy) c.chan∧Below w.heap.size w wx)
 case first=>
  have x16:=HX.out.ga.k16
  simp only[Nat.zero_add]at x16
  have xf:=HX.out.fz
  go_wp2_with fail
  all_goals go_meet
  case rel=>
   rename_i hsh
   have e:=HOF.out
   simp only[hsh,if_true]at e
   rw[e]
   exact⟨HX.out.set_off _,HY.out.other hne.symm _ _,HCH.out.far (by simp) HX.out.e (by decide) (Nat.zero_le _) (fun b _ hn=>setCells_other g1 b hn [_] 16 _),HB.out.setCell (p:=⟨g1,16,none⟩) hn1 _⟩
  case rel=>
   rename_i hsh
   have e:=HOF.out
   simp only[hsh,Bool.false_eq_true,if_false]at e
   rw[e]
   exact⟨HX.out,HY.out,HCH.out,HB.out⟩
 clear HX HY HB HCH
 have HX:=Hd hcut.1
 have HY:=Hd hcut.2.1
 have HCH:=Hd hcut.2.2.1
 have HB:=Hd hcut.2.2.2
 clear hcut
 have bad:∀ (wz:World),GB wz g2 (Trk.gap 0) (.slice none 0 0)→Below w.heap.size w wz→True:=fun _ _ _=>trivial
 obtain⟨_,_,x2,x3,x4,x5,x6,x7,x8,_⟩:=HX.out.ga.at0
 go_wp2_with fail
 refine(HPA.out _).mono ?_
 rintro e w10 ⟨rfl,hb⟩
 replace HX:=Hd (HX.out.below hb)
 replace HY:=Hd (HY.out.below hb)
 replace HB:=Tb HB hb
 replace HCH:=Hd (HCH.out.below hb)
 clear hb x2 x3 x4 x5 x6 x7 x8
 cases pa with
 |false=>
  go_upto_region 9 with fail
  apply wp_region_lit
  iterate 3 go_step
  refine wpl_storeB2 (Trk.gap 0) none 0 0 HY.out rfl rfl rfl rfl ?_
  intro w12 hv ho4 hs4 hb4
  replace HB:=Hd (hb4 _ _ hn2 HB.out)
  replace HY:=Hd hv
  clear hv ho4 hs4 hb4
  simp only[Act.put,sA1,sB1,sC1]
  go_wp2_with fail
  refine bodyPost_ret (v:=.tuple #[.agg (clipG (Trk.gap 0) (.slice none 0 0)).toArray,.int .i64 2]) (results_clipG2 Tryz.results69 rfl rfl HY.out.ga) rfl ⟨.inr ⟨rfl,rfl⟩,HB.out⟩
 | true =>
  obtain⟨_,_,_,_,_,_,_,_,_,x9,x10,x11,x12,x13,x14,x15,_⟩:=HX.out.ga.at0
  go_wp2_with fail
  refine(HPB.out _).mono ?_
  rintro e w11 ⟨rfl,hb⟩
  replace HX:=Hd (HX.out.below hb)
  replace HY:=Hd (HY.out.below hb)
  replace HB:=Tb HB hb
  replace HCH:=Hd (HCH.out.below hb)
  clear hb x9 x10 x11 x12 x13 x14 x15
  cases pb with
  |false=>
   go_upto_region 9 with fail
   apply wp_region_lit
   iterate 3 go_step
   refine wpl_storeB2 (Trk.gap 0) none 0 0 HY.out rfl rfl rfl rfl ?_
   intro w12 hv ho4 hs4 hb4
   replace HB:=Hd (hb4 _ _ hn2 HB.out)
   replace HY:=Hd hv
   clear hv ho4 hs4 hb4
   simp only[Act.put,sA1,sB1,sC1]
   go_wp2_with fail
   refine bodyPost_ret (v:=.tuple #[.agg (clipG (Trk.gap 0) (.slice none 0 0)).toArray,.int .i64 2]) (results_clipG2 Tryz.results69 rfl rfl HY.out.ga) rfl ⟨.inr ⟨rfl,rfl⟩,HB.out⟩
  |true=>
   go_upto_region 10 with fail
   apply wp_region_lit
   refine wpl_loadG HX.out.ga rfl rfl rfl ?_
   simp only[Act.put,sA1,sB1,sC1]
   refine wpl_storeB2 { c with len:=c.len-n,a:=ma,b:=mb,off:=of } ay nx cy HY.out rfl rfl rfl rfl ?_
   intro w12 hv ho4 hs4 hb4
   replace HB:=Hd (hb4 _ _ hn2 HB.out)
   replace HCH:=Hd (HCH.out.far (Nat.le_of_eq hs4.symm) HY.out.e (by decide) (Nat.zero_le _) (fun b _ hn=>ho4 b hn))
   replace HY:=Hd hv
   clear hv ho4 hs4 hb4
   simp only[Act.put,sA1,sB1,sC1]
   go_wp2_with fail
   refine bodyPost_ret (v:=.tuple #[.agg (clipG { c with len:=c.len-n,a:=ma,b:=mb,off:=of } (.slice ay nx cy)).toArray,.int .i64 0]) (results_clipG2 Tryz.results69 rfl rfl HY.out.ga) rfl ⟨.inl ⟨rfl,_,rfl,HCH.out⟩,HB.out⟩
theorem TG.base {w:World} {C:Nat} {v:Value} {l:List Trk.Clip} (h:TG w C v l):TG w w.heap.size v l:=by
 obtain⟨ao,cap,e,h1,h2,h3⟩:=h
 refine⟨ao,cap,e,h1,h2,fun i c hi=>?_⟩
 obtain⟨b,o,x,e2,hc,hx⟩:=h3 i c hi
 exact⟨b,o,x,e2,hc,hx.it.ch (Nat.le_refl _)⟩
theorem okCut_at:∀ {l:List Trk.Clip} {j:Nat} {c:Trk.Clip} {m:Int},Trk.GoodL l→l[j]?=some c→0≤m→m<c.len→(okCut l (Trk.total (l.take j)+m)↔PlOK (Trk.moved c.a m)∧PlOK (Trk.moved c.b m))
 |[],j,c,m,_,hc,_,_=>by simp at hc
 |d::l,0,c,m,g,hc,h0,h1=>by
  simp only[List.getElem?_cons_zero,Option.some.injEq]at hc
  subst hc
  unfold okCut
  rw[List.take_zero,show Trk.total ([]:List Trk.Clip)+m=m by show 0+m=m;omega,if_neg (by omega)]
 |d::l,j+1,c,m,g,hc,h0,h1=>by
  simp only[List.getElem?_cons_succ]at hc
  have ht:=Trk.total_nonneg (l:=l.take j) (fun x hx=>g.tail x (List.mem_of_mem_take hx))
  unfold okCut
  rw[List.take_succ_cons,Trk.total_cons,if_pos (by omega),show d.len+Trk.total (l.take j)+m-d.len=Trk.total (l.take j)+m by omega]
  exact okCut_at g.tail hc h0 h1
structure RG (w:World) (g1 g2:Nat) (v e:Value):Prop where
 e1:w.heap[g1]?=some (.cells #[v] 23 (0,0))
 e2:w.heap[g2]?=some (.cells #[e] 30 (0,0))
theorem RG.lt1 {w:World} {g1 g2:Nat} {v e:Value} (h:RG w g1 g2 v e):g1<w.heap.size:=(Array.getElem?_eq_some_iff.1 h.e1).1
theorem RG.lt2 {w:World} {g1 g2:Nat} {v e:Value} (h:RG w g1 g2 v e):g2<w.heap.size:=(Array.getElem?_eq_some_iff.1 h.e2).1
theorem RG.c1 {w:World} {g1 g2:Nat} {v e:Value} (h:RG w g1 g2 v e):w.cell? ⟨g1,0,none⟩=some v:=by unfold World.cell?;simp only[h.e1];rfl
theorem RG.c2 {w:World} {g1 g2:Nat} {v e:Value} (h:RG w g1 g2 v e):w.cell? ⟨g2,0,none⟩=some e:=by unfold World.cell?;simp only[h.e2];rfl
theorem RG.f1 {w:World} {g1 g2:Nat} {v e:Value} (h:RG w g1 g2 v e):w.frozen? ⟨g1,0,none⟩=false:=by simp[World.frozen?,h.e1]
theorem RG.f2 {w:World} {g1 g2:Nat} {v e:Value} (h:RG w g1 g2 v e):w.frozen? ⟨g2,0,none⟩=false:=by simp[World.frozen?,h.e2]
theorem RG.below {w w':World} {n g1 g2:Nat} {v e:Value} (h:RG w g1 g2 v e) (hb:Below n w w') (h1:g1<n) (h2:g2<n):RG w' g1 g2 v e:=⟨(hb.block g1 h1).trans h.e1,(hb.block g2 h2).trans h.e2⟩
theorem RG.up {w w':World} {g1 g2:Nat} {v e:Value} (h:RG w g1 g2 v e) (hb:Below w.heap.size w w'):RG w' g1 g2 v e:=h.below hb h.lt1 h.lt2
theorem RG.set1 {w:World} {g1 g2:Nat} {v e:Value} (h:RG w g1 g2 v e) (hne:g1≠g2) (u:Value):RG (w.setCell ⟨g1,0,none⟩ u) g1 g2 u e:=
 ⟨by simp[World.setCell,Array.getElem?_modify,h.e1],by simp[World.setCell,Array.getElem?_modify,h.e2,hne]⟩
theorem RG.set2 {w:World} {g1 g2:Nat} {v e:Value} (h:RG w g1 g2 v e) (hne:g1≠g2) (u:Value):RG (w.setCell ⟨g2,0,none⟩ u) g1 g2 v u:=
 ⟨by simp[World.setCell,Array.getElem?_modify,h.e1,hne.symm],by simp[World.setCell,Array.getElem?_modify,h.e2]⟩
theorem RG.other {w:World} {g1 g2:Nat} {v e:Value} (h:RG w g1 g2 v e) {g:Nat} (n1:g1≠g) (n2:g2≠g) (o:Nat) (u:Value):RG (w.setCell ⟨g,o,none⟩ u) g1 g2 v e:=
 ⟨by simp[World.setCell,Array.getElem?_modify,h.e1,n1.symm],by simp[World.setCell,Array.getElem?_modify,h.e2,n2.symm]⟩
theorem OG.row_ne {w:World} {B C:Nat} {v:Value} {l:List Trk.Clip} (h:OG w B C v l) {g:Nat} (hg:g<B):∀ g2 k cap,v=.slice (some ⟨g2,0,none⟩) k cap→g2≠g:=fun g2 k cap e=>by
 subst e
 have:=h.blk.1
 omega
theorem OG.var1 {w:World} {B C g1 g2:Nat} {v a e:Value} {l:List Trk.Clip} (h:OG w B C v l) (hr:RG w g1 g2 a e) (hC:C≤g1) (hB:g1<B) (u:Value):OG (w.setCell ⟨g1,0,none⟩ u) B C v l:=
 h.far (by simp) hr.e1 (by decide) hC (h.row_ne hB) (fun b _ hn=>setCells_other g1 b hn [u] 0 w)
theorem OG.var2 {w:World} {B C g1 g2:Nat} {v a e:Value} {l:List Trk.Clip} (h:OG w B C v l) (hr:RG w g1 g2 a e) (hC:C≤g2) (hB:g2<B) (u:Value):OG (w.setCell ⟨g2,0,none⟩ u) B C v l:=
 h.far (by simp) hr.e2 (by decide) hC (h.row_ne hB) (fun b _ hn=>setCells_other g2 b hn [u] 0 w)
theorem GB.same {w w':World} {b:Nat} {c:Trk.Clip} {x:Value} (h:GB w b c x) (hs:w'.heap[b]?=w.heap[b]?):GB w' b c x:=⟨hs.trans h.e⟩
def CutOk (w:World) (l:List Trk.Clip) (a b:Int) (e:Ending) (w':World):Prop:=∃ v',e=.returned (.tuple #[v',.int .i64 0])∧OG w' w.heap.size 0 v' (Trk.cut l a b)∧Below w.heap.size w w'
theorem cutg_ok (D0 : Nat) (v : Value) (l : List Trk.Clip) (a b : Int) (w : World) (h : TG w D0 v l) (hV : TV l) (a0 : 0 ≤ a) (ab : a ≤ b) (b1 : b ≤ 2147483647) (hlen : (Trk.cut l a b).length ≤ 64) (hok : okCut l a ∨ a = b) :
  Calls Tryz.prog 30 #[v,.int .i64 a,.int .i64 b] w (CutOk w l a b):=by
 replace h:=h.base
 obtain⟨Cc,hCc⟩:=Xq (w.heap.size)
 rw[← hCc]at h
 obtain⟨ao,cap,rfl,hc1,hc2,hT⟩:=h
 have HT:=Hd (show TG w Cc (.slice ao l.length cap) l from⟨ao,cap,rfl,hc1,hc2,hT⟩)
 clear hT
 have HVT:=Hd (fun w (h:TG w Cc (.slice ao l.length cap) l)=>vtrackg_yes Cc _ l w h hV)
 have HFI:=Hd (fun w (h:TG w Cc (.slice ao l.length cap) l)=>findg_any Cc _ l a w h hV a0 (by omega))
 have HV:=Hd hV.l
 have HG:=Hd hV.good
 have hl:=hV.n
 have HRV:=Hd (show VGL (Trk.cutRaw l a (b-a)) from by
  rcases hok with h |h
  ·exact cutRaw_vg hV.l a0 (by omega) h
  rw[cutRaw_done _ _ (by omega) (by omega) hV.good a0];exact VGL.nil)
 have HRT:=Hd (Trk.cutRaw_spec (f:=a) (n:=b-a) hV.good a0 (by omega)).2.1
 have HRL:=Hd (Trk.cutRaw_length l a (b-a))
 unfold CutOk
 unfold Trk.cut at hlen ⊢
 obtain⟨RAW,hRAW⟩:=Xq (Trk.cutRaw l a (b-a))
 rw[← hRAW]at hlen HRV HRT HRL ⊢
 have HRAW:=Hd hRAW
 obtain⟨N,hN⟩:=Xq (l.length)
 rw[← hN]at hl hc1 HRL HFI HVT HT ⊢
 have HLe:=Hd hN
 have HOK:=Hd hok
 clear hV hN hc2 hRAW hok
 go_enter_defers Tryz.func30,Tryz.ntmps30
 go_upto_region 2 with fail
 obtain⟨w1,hw1⟩:=Xq ((w.alloc (.cells #[.slice none 0 0] 23)).alloc (.cells #[.int .i64 0] 30))
 rw[← hw1]
 have hE1:Below w.heap.size w w1:=by rw[hw1];go_grown
 obtain⟨g1,hg1⟩:=Xq (w.heap.size)
 obtain⟨g2,hg2⟩:=Xq (w.heap.size+1)
 have hr:RG w1 g1 g2 (.slice none 0 0) (.int .i64 0):=by
  rw[hw1,hg1,hg2]
  refine⟨?_,?_⟩
  ·rw[(below_box (w.alloc (.cells #[.slice none 0 0] 23)) _).block _ (by simp)]
   exact(MapKept.heap_alloc w _).1
  have:=(MapKept.heap_alloc (w.alloc (.cells #[.slice none 0 0] 23)) (.cells #[.int .i64 0] 30)).1
  rw[show(w.alloc (.cells #[.slice none 0 0] 23)).heap.size=w.heap.size+1 by simp]at this
  exact this
 have hz:w1.heap.size=g2+1:=by rw[hw1,hg2];simp[go_sem]
 rw[← hg2,← hg1]
 have hn1:w.heap.size≤g1:=by omega
 have HCC0:=Hd (show Cc≤g1∧Cc≤g2 by omega)
 have hn2:w.heap.size≤g2:=by omega
 have h12:g1<g2:=by omega
 have HR:=Hd hr
 have HB:=Hd hE1
 have HS:=Hd (Nat.le_of_eq hz.symm)
 clear hw1 hE1 hg1 hg2 hr hz
 go_wp2_with fail
 refine(HVT.out _ (HT.out.below HB.out)).mono ?_
 rintro e w2 ⟨rfl,hb⟩
 replace HR:=Hd (HR.out.up hb)
 replace HB:=Tb HB hb
 replace HS:=Hd (Nat.le_trans HS.out hb.size)
 clear hb HVT
 go_wp2_with fail
 refine(HFI.out _ (HT.out.below HB.out)).mono ?_
 rintro e w3 ⟨rfl,hb⟩
 replace HR:=Hd (HR.out.up hb)
 replace HB:=Tb HB hb
 replace HS:=Hd (Nat.le_trans HS.out hb.size)
 clear hb HFI
 obtain⟨n,hn⟩:=Xq (b-a)
 rw[← hn]at HRT HRAW
 have n0:0≤n:=by omega
 have n1:n≤2147483647:=by omega
 have HN:=Hd hn
 clear hn
 by_cases hat:a<Trk.total l
 ·obtain⟨j,m,ef,hj,hm0,hm,c,hc,hmc⟩:=findL_some (l:=l) (n:=a) (i:=0) a0 hat
  rw[ef]
  simp only[findV,Nat.zero_add]
  rw[← HLe.out]at hj
  by_cases hnz:0<n
  ·have hnz':0<b-a:=by have:=HN.out;omega
   obtain⟨ao',cap',e,_,_,hT⟩:=HT.out
   simp only[Value.slice.injEq]at e
   obtain⟨rfl,eN,rfl⟩:=e
   clear eN
   obtain⟨bb,oo,_,rfl,_⟩:=hT j c hc
   clear hT
   have HJ:=Hd (And.intro ef (And.intro hm hc))
   clear ef hm hc hat
   have hab:decide (a<b)=true:=decide_eq_true (by omega)
   go_upto_if 46 with fail
   go_cut [8,9] from 47 (fun v8 v9 wx=>∃ acc left,v8=.int .i64 left∧Col RAW acc left∧OG wx (g2+1) Cc v9 acc∧RG wx g1 g2 (.slice none 0 0) (.int .i64 0)∧Below w.heap.size w wx∧g2+1≤wx.heap.size)
   case first J K' h1 h2 =>
    have hjc:(j:Int)<(cap:Int):=by omega
    go_wp2_with fail
    obtain⟨M,hM⟩:=Xq (N-j)
    rw[← hM]
    have hMb:M≤64:=by omega
    have hMj:M+j=N:=by omega
    have HM:=Hd hM
    clear hM
    go_loopw [8,9,51] (fun v8 v9 v51 wr=>∃ (k:Nat) (acc:List Trk.Clip) (left:Int),k≤M∧v51=.int .i64 (k:Int)∧v8=.int .i64 left∧0≤left∧left≤2147483647∧Hid (k=0→acc=[]∧left=b-a)∧Hid (0<k→RAW=acc++Trk.cutRaw (l.drop (j+k)) 0 left)∧acc.length≤k∧OG wr (g2+1) Cc v9 acc∧RG wr g1 g2 (.slice none 0 0) (.int .i64 0)∧Below w.heap.size w wr∧g2+1≤wr.heap.size) (fun _ _ i _=>M-(intOf i).toNat)
    case atStart=>exact⟨0,[],b-a,Nat.zero_le _,rfl,rfl,by omega,by omega,Hd (fun _=>⟨rfl,rfl⟩),Hd (fun h=>absurd h (by omega)),by simp,OG.nil _ _ _,HR.out,HB.out,HS.out⟩
    case round =>
     clear HR HB HS
     obtain⟨k,acc,left,hk,rfl,rfl,left0,left1,HK0,HK1,hak,ho,hr,hb,hs⟩:=hrel
     by_cases hlt:k<M
     ·have hlt':(k:Int)<(M:Int):=by omega
      have hjk:j+k<l.length:=by have:=HLe.out;omega
      obtain⟨d,hd⟩:∃ d,l[j+k]?=some d:=⟨_,List.getElem?_eq_getElem hjk⟩
      obtain⟨ao',cap',e,_,_,hT⟩:=HT.out.below hb
      simp only[Value.slice.injEq]at e
      obtain⟨e1,eN,rfl⟩:=e
      clear eN
      subst e1
      obtain⟨bb',oo',xd,e,hA,hX⟩:=hT (j+k) d hd
      obtain⟨ax,cx,ex⟩:=hX.form
      obtain⟨nx,hnx⟩:=Xq (d.chan.length)
      rw[← hnx]at ex
      subst ex
      have HCX:=Hd hX
      simp only[Option.some.injEq,Addr.mk.injEq,and_true]at e
      obtain⟨rfl,rfl⟩:=e
      rw[Nat.add_mul,← Nat.add_assoc]at hA
      have hvd:=HV.out d (List.mem_of_getElem? hd)
      have hd0:=hvd.l0
      have hd1:=hvd.l1
      have HA:=Hd hA
      have HO:=Hd ho
      have HR:=Hd hr
      have HB:=Hd hb
      have HS:=Hd hs
      have HD:=Hd hd
      have HVD:=Hd hvd
      clear hT hA ho hr hb hs hd hvd hjk hX
      go_upto_region 10 with fail
      apply wp_region_lit
      iterate 6 go_step
      refine wpl_loadG HA.out rfl rfl rfl ?_
      refine wpl_allocB rfl rfl (fun w4 hg hb2 hs2=>?_)
      obtain⟨g,hgg⟩:=Xq (wr.heap.size)
      rw[← hgg]at hg ⊢
      have hgn:w.heap.size≤g:=by rw[hgg];exact HB.out.size
      have hgo:∀ g' k' cap',u9=.slice (some ⟨g',0,none⟩) k' cap'→g'<g:=fun g' k' cap' e=>by
       subst e
       have:=HO.out.lt
       omega
      have hg1:g1<g:=by have:=HR.out.lt1;omega
      have hg2:g2<g:=by have:=HR.out.lt2;omega
      have HGO:=Hd hgo
      have HBX:=Hd (And.intro hb2 hgg)
      clear hb2 hs2 hgg HA hgo
      obtain⟨D,hD⟩:=Xq ((clipG d (.slice ax nx cx)).toArray)
      rw[← hD]
      have HDD:=Hd hD
      clear hD
      simp only[Act.put,sA1,sB1,sC1]
      iterate 3 go_step
      refine wpl_storeB2 d ax nx cx hg rfl rfl rfl (by rw[← HDD.out];rfl) ?_
      intro w5 hv ho3 hs3 hb3
      have hbw:Below wr.heap.size wr w5:=hb3 _ _ (Nat.le_of_eq HBX.out.2.symm) HBX.out.1
      replace HR:=Hd (HR.out.up hbw)
      replace HO:=Hd (HO.out.below hbw)
      replace HB:=Hd (HB.out.trans (hbw.mono HB.out.size))
      replace HS:=Hd (Nat.le_trans HS.out hbw.size)
      replace HCX:=Hd (HCX.out.below hbw)
      have HX:=Hd hv
      clear hv ho3 hs3 hb3 hbw HBX hg
      simp only[Act.put,sA1,sB1,sC1]
      by_cases hl0:left=0
      ·have hk0:0<k:=by
        rcases Nat.eq_zero_or_pos k with e |e
        ·have:=(HK0.out e).2
         omega
        exact e
       have hcol:Col RAW acc 0:=by
        refine⟨?_,by omega,Int.le_refl _,by omega⟩
        rw[if_neg (by omega),List.append_nil,HK1.out hk0,hl0,cutRaw_done _ _ (Int.le_refl _) (Int.le_refl _) (fun x hx=>HG.out x (List.mem_of_mem_drop hx)) (Int.le_refl _),List.append_nil]
       have HC:=Hd hcol
       clear hcol
       subst hl0
       go_wp2_with fail
       refine Met.intro (h1 _ _ ?_)
       (repeat apply Exists.intro)
       exact⟨⟨acc,0,rfl,HC.out,HO.out,HR.out,HB.out,HS.out⟩,rfl⟩
      have hl1:0<left:=by omega
      have hlb:(left==0)=false:=by simpa using hl0
      clear hl0
      obtain⟨x,hx⟩:=Xq ((if k=0 then Trk.withLen (Trk.shift c m) (c.len-m) else d))
      have HXX:=Hd hx
      clear hx
      have hchx:x.chan=d.chan:=by
       rw[HXX.out]
       split
       ·rename_i hk0
        have h:=HD.out
        rw[hk0,Nat.add_zero,HJ.out.2.2]at h
        rw[← Option.some.inj h]
        rfl
       rfl
      have HCN:=Hd (And.intro hchx hnx)
      clear hchx hnx
      go_upto_if 59 with fail
      go_cut [59] from 60 to 82 (fun _ wx=>(∃ ay cy,GB wx g x (.slice ay nx cy)∧Ch wx Cc (.slice ay nx cy) d.chan)∧OG wx (g2+1) Cc u9 acc∧RG wx g1 g2 (.slice none 0 0) (.int .i64 0)∧Below w.heap.size w wx∧g2+1≤wx.heap.size)
      case first J2 K2 h3 h4=>
       by_cases hk0:k=0
       ·subst hk0
        have hdc:d=c:=by
         have h:=HD.out
         rw[Nat.add_zero,HJ.out.2.2]at h
         exact(Option.some.inj h).symm
        have hxe:=HXX.out
        rw[if_pos rfl]at hxe
        subst hdc
        subst hxe
        have hpl:(plB (Trk.moved d.a m)&&plB (Trk.moved d.b m))=true:=by
         have h1:okCut l a:=by
          rcases HOK.out with h |h
          ·exact h
          omega
         have h:=HJ.out
         rw[show a=Trk.total (l.take j)+m by omega]at h1
         obtain⟨p,q⟩:=(okCut_at HG.out h.2.2 hm0 hmc).1 h1
         rw[plB_yes p,plB_yes q];rfl
        have HAD:=Hd (fun(w1:World) (hi:IT w1 (.slice ax nx cx) d.chan)=>advanceg_any d (.slice ax nx cx) m w1 hi HVD.out hm0 hmc)
        unfold AdvPost at HAD
        rw[hpl]at HAD
        clear hpl
        unfold clipGV at HAD
        rw[← HDD.out]at HAD
        go_upto_region 13 with fail
        apply wp_region_lit
        refine wpl_loadG HX.out.ga rfl rfl rfl ?_
        rw[← HDD.out]
        simp only[Act.put,sA1,sB1,sC1]
        go_wp2_with fail
        refine(HAD.out _ HCX.out.it).mono ?_
        rintro e w6 ⟨hzz,hb⟩
        rcases hzz with hzz |⟨hbad,-⟩
        rotate_left
        ·cases hbad
        obtain⟨-,xn,rfl,hcn⟩:=hzz
        obtain⟨ay,cy,ey⟩:=hcn.form
        rw[← HCN.out.2]at ey
        subst ey
        have HCY:=Hd hcn
        clear hcn
        obtain⟨E,hE⟩:=Xq ((clipG (Trk.withLen (Trk.shift d m) (d.len-m)) (.slice ay nx cy)).toArray)
        rw[← hE]
        have HE:=Hd hE
        clear hE
        replace HX:=Hd (HX.out.below hb)
        replace HR:=Hd (HR.out.up hb)
        replace HO:=Hd (HO.out.below hb)
        replace HB:=Tb HB hb
        replace HS:=Hd (Nat.le_trans HS.out hb.size)
        clear hb
        dsimp only
        iterate 10 go_step
        refine wpl_storeB2 _ ay nx cy HX.out rfl rfl rfl (by rw[← HE.out];rfl) ?_
        intro w7 hv ho3 hs3 hb3
        have hbw:Below g w6 w7:=hb3 _ _ (Nat.le_refl _) (Below.refl _ _)
        replace HR:=Hd (HR.out.below hbw hg1 hg2)
        replace HO:=Hd (HO.out.far hbw.size HX.out.e (by decide) (by have:=HCC0.out;omega) (fun g' k' cap' e=>Nat.ne_of_lt (HGO.out g' k' cap' e)) (fun b _ hn=>ho3 b hn))
        replace HCY:=Hd (HCY.out.far hbw.size HX.out.e (by decide) (Nat.zero_le _) (fun b _ hn=>ho3 b hn))
        replace HB:=Hd (hb3 _ _ hgn HB.out)
        replace HS:=Hd (Nat.le_trans HS.out hbw.size)
        replace HX:=Hd hv
        clear hv ho3 hs3 hb3 hbw
        simp only[Act.put,sA1,sB1,sC1]
        have y2:=HR.out.c2
        have f2:=HR.out.f2
        go_wp2_with fail
        have hne12:g1≠g2:=by omega
        have hng2:g≠g2:=by omega
        refine Met.intro (h3 _ _ ?_)
        (repeat apply Exists.intro)
        exact⟨⟨⟨ay,cy,HX.out.other hng2 _ _,(HCY.out.far (w':=w7.setCell ⟨g2,0,none⟩ _) (by simp) HR.out.e2 (by decide) (Nat.zero_le _) (fun b _ hn=>setCells_other g2 b hn [_] 0 w7)).up (Nat.zero_le _)⟩,HO.out.var2 HR.out HCC0.out.2 (Nat.lt_succ_self _) _,HR.out.set2 hne12 _,HB.out.setCell (p:=⟨g2,0,none⟩) hn2 _,by rw[World.size_setCell];exact HS.out⟩,rfl⟩
       have hxe:=HXX.out
       rw[if_neg hk0]at hxe
       subst hxe
       have hk0':(k==0)=false:=by simpa using hk0
       go_wp2_with fail
       refine Met.intro (h3 _ _ ?_)
       (repeat apply Exists.intro)
       exact⟨⟨⟨ax,cx,HX.out,HCX.out⟩,HO.out,HR.out,HB.out,HS.out⟩,rfl⟩
      clear HX HO HR HB HS HCX
      obtain⟨⟨ay,cy,hx,hcx⟩,ho,hr,hb,hs⟩:=hcut
      have HX:=Hd hx
      have HCX:=Hd hcx
      have HO:=Hd ho
      have HR:=Hd hr
      have HB:=Hd hb
      have HS:=Hd hs
      clear hx ho hr hb hs hcx
      have x0:=HX.out.ga.at0.1
      have xf:=HX.out.fz
      go_upto_region 17 with fail
      have hgb:g≠g1∧g≠g2:=by omega
      replace HR:=Hd (HR.out.other (fun e=>hgb.1 e.symm) (fun e=>hgb.2 e.symm) 0 (.int .i64 (min x.len left)))
      replace HO:=Hd (HO.out.far (w':=wc.setCell ⟨g,0,none⟩ (.int .i64 (min x.len left))) (by simp) HX.out.e (by decide) (by have:=HCC0.out;omega) (fun g' k' cap' e=>Nat.ne_of_lt (HGO.out g' k' cap' e)) (fun b _ hn=>setCells_other g b hn [_] 0 wc))
      replace HCX:=Hd (HCX.out.far (w':=wc.setCell ⟨g,0,none⟩ (.int .i64 (min x.len left))) (by simp) HX.out.e (by decide) (by have:=HCC0.out;omega) (fun b _ hn=>setCells_other g b hn [_] 0 wc))
      replace HB:=Hd (HB.out.setCell (p:=⟨g,0,none⟩) hgn (.int .i64 (min x.len left)))
      replace HS:=Hd (show g2+1≤(wc.setCell ⟨g,0,none⟩ (.int .i64 (min x.len left))).heap.size by rw[World.size_setCell];exact HS.out)
      replace HX:=Hd (HX.out.set_len (min x.len left))
      clear x0 xf
      obtain⟨w8,hw8⟩:=Xq (wc.setCell ⟨g,0,none⟩ (.int .i64 (min x.len left)))
      rw[← hw8]at HX HO HR HB HS HCX ⊢
      clear hw8
      obtain⟨y,hy⟩:∃ y:Trk.Clip,y={ x with len:=min x.len left }:=⟨_,rfl⟩
      rw[← hy]at HX
      have hyl:y.len=min x.len left:=by rw[hy]
      have HY:=Hd hy
      rw[← hyl]
      have hx1:1≤x.len∧x.len≤2147483647:=by
       rw[HXX.out]
       split
       ·show 1≤c.len-m∧c.len-m≤2147483647
        have h:=HJ.out.2.2
        have:=(HV.out c (List.mem_of_getElem? h)).l1
        omega
       exact⟨hd0,hd1⟩
      have hy1:1≤y.len:=by omega
      have hy2:y.len≤left:=by omega
      clear hy hyl hx1
      apply wp_region_lit
      iterate 3 go_step
      refine wpl_loadG HX.out.ga rfl rfl rfl ?_
      simp only[Act.put,sA1,sB1,sC1]
      obtain⟨Y,hYY⟩:=Xq ((clipG y (.slice ay nx cy)).toArray)
      rw[← hYY]
      have HYY:=Hd hYY
      clear hYY
      refine Great.wpList_buildSliceTo rfl 22 48 1 #[(0,.tmp 75)] rfl w8.heap.size rfl _ rfl Tryz.underlying22 Y ?_ ?_
      ·simp only[List.map_toArray,List.map_cons,List.map_nil,List.toList_toArray]
       rw[HYY.out]
       exact built_clipG y _
      have hb:Below w8.heap.size w8 (w8.alloc (.cells Y 48)):=below_box _ _
      have hbx:TG (w8.alloc (.cells Y 48)) Cc (.slice (some ⟨w8.heap.size,0,none⟩) 1 1) [y]:=by rw[HYY.out];exact(GB.box w8 y _).tg (show Ch _ Cc _ y.chan by rw[HY.out];show Ch _ Cc _ x.chan;rw[HCN.out.1];exact HCX.out.below (below_box _ _))
      replace HX:=Hd (HX.out.below hb)
      replace HR:=Hd (HR.out.up hb)
      replace HO:=Hd (HO.out.below hb)
      replace HB:=Tb HB hb
      replace HS:=Hd (Nat.le_trans HS.out hb.size)
      clear hb
      simp only[Act.put,sA1,sB1,sC1]
      refine wpList_appG _ 22 22 Tryz.underlying22 Tryz.underlying22 rfl (.tmp 74) (.tmp 76) rfl (g2+1) Cc u9 _ acc [y] rfl rfl HO.out HS.out (by have:=HCC0.out;omega) hbx (by show acc.length+1≤1048576;omega) ?_
      intro v' w9 r1 r2 r3 r4
      simp only[Act.put,sA1,sB1,sC1]
      have HGL:=Hd HX.out.lt
      replace HX:=Hd (HX.out.same (r3 g HX.out.lt (fun g' cap' e=>Nat.ne_of_gt (HGO.out g' _ cap' e))))
      replace HO:=Hd r1
      replace HR:=Hd (HR.out.below r2 (by omega) (by omega))
      replace HB:=Hd (HB.out.trans (r2.mono (by omega)))
      replace HS:=Hd (Nat.le_trans HS.out r4)
      clear r1 r2 r3 r4 hbx
      have x0:=HX.out.ga.at0.1
      have hraw:RAW=(acc++[y])++Trk.cutRaw (l.drop (j+(k+1))) 0 (left-y.len):=by
       rcases Nat.eq_zero_or_pos k with e |e
       ·subst e
        obtain⟨ha,hb⟩:=HK0.out rfl
        have h:=HJ.out
        have hy:y=Trk.withLen (Trk.shift c m) (min (c.len-m) left):=by rw[HY.out,HXX.out,if_pos rfl];rfl
        have hn:=HN.out
        have hyl:y.len=min (c.len-m) (b-a):=by rw[hy,hb];rfl
        rw[HRAW.out,ha,hyl,hy,hb,hn,show a=Trk.total (l.take j)+m by omega]
        exact cutRaw_at HG.out h.2.2 hm0 hmc (by omega)
       have hx:x=d:=by rw[HXX.out,if_neg (by omega)]
       have hjk:=(List.getElem?_eq_some_iff.1 HD.out)
       have hdr:l.drop (j+k)=d::l.drop (j+(k+1)):=by
        obtain⟨h1,h2⟩:=hjk
        rw[List.drop_eq_getElem_cons h1,h2,Nat.add_assoc]
       have hy:y=Trk.withLen d (min d.len left):=by rw[HY.out,hx];rfl
       have hyl:y.len=min d.len left:=by rw[hy];rfl
       rw[HK1.out e,hdr,cutRaw_zero HVD.out.good hl1,hyl,hy,List.append_assoc]
       rfl
      have HRW:=Hd hraw
      clear hraw
      go_wp2_with fail
      refine⟨⟨k+1,acc++[y],left-y.len,by omega,by simp,rfl,by omega,by omega,Hd (fun h=>absurd h (by omega)),Hd (fun _=>HRW.out),by simp;omega,HO.out,HR.out,HB.out,HS.out⟩,?_⟩
      show M-(intOf (.int .i64 ((k:Int)+1))).toNat<M-(intOf (.int .i64 (k:Int))).toNat
      simp[intOf]
      omega
     have hkM:k=M:=by omega
     have hk0:0<k:=by omega
     have hcol:Col RAW acc left:=by
      refine⟨?_,by omega,left0,left1⟩
      rw[HK1.out hk0,List.drop_eq_nil_of_le (by have:=HLe.out;omega)]
      rfl
     have HC:=Hd hcol
     have HO:=Hd ho
     have HR:=Hd hr
     have HB:=Hd hb
     have HS:=Hd hs
     clear HT hcol ho hr hb hs
     subst hkM
     go_wp2_with fail
     refine Met.intro (h1 _ _ ?_)
     (repeat apply Exists.intro)
     exact⟨⟨acc,left,rfl,HC.out,HO.out,HR.out,HB.out,HS.out⟩,rfl⟩
   obtain⟨acc,left,e8,hcol,ho,hr,hb,hs⟩:=hcut
   subst e8
   have HC:=Hd hcol
   have HO:=Hd ho
   clear HR HB HS
   have HR:=Hd hr
   have HB:=Hd hb
   have HS:=Hd hs
   clear hcol ho hr hb hs
   have HPK:=Hd (fun(l':List Trk.Clip) v' w' (h:TG w' Cc v' l') (hV:VGL l') (hn:l'.length≤1048576) (ht:Trk.total l'≤4611686018427387904)=>packg_any Cc v' l' w' h (fun c hc=>(hV c hc).okg) hn ht)
   have hlf:=HC.out.l
   have hlm:=HC.out.m
   have han:=HC.out.n
   have hrt:Trk.total RAW≤2147483647:=by have:=HRT.out;omega
   have hrn:RAW.length≤65:=by have:=HRL.out;omega
   have HRB:=Hd (And.intro hrt hrn)
   clear hrt hrn
   have hne12:g1≠g2:=by omega
   by_cases hlp:0<left
   ·go_upto_region 21 with fail
    apply wp_region_lit
    iterate 6 go_step
    iterate 3 go_step
    refine Great.wpList_buildSliceTo rfl 22 48 1 #[(0,.tmp 87)] rfl _ rfl _ rfl Tryz.underlying22 (clipG (Trk.gap left) (.slice none 0 0)).toArray ?_ ?_
    ·simp only[List.map_toArray,List.map_cons,List.map_nil,List.toList_toArray]
     exact built_clipG (Trk.gap left) _
    obtain⟨WW,hWW⟩:∃ W:World,W=wc:=⟨_,rfl⟩
    rw[← hWW]at HR HO HB HS ⊢
    clear hWW
    have hb:Below WW.heap.size WW (WW.alloc (.cells (clipG (Trk.gap left) (.slice none 0 0)).toArray 48)):=below_box _ _
    have hbx:TG (WW.alloc (.cells (clipG (Trk.gap left) (.slice none 0 0)).toArray 48)) Cc (.slice (some ⟨WW.heap.size,0,none⟩) 1 1) [Trk.gap left]:=(GB.box WW (Trk.gap left) _).tg (Ch.nil _ _)
    replace HR:=Hd (HR.out.up hb)
    replace HO:=Hd (HO.out.below hb)
    replace HB:=Tb HB hb
    replace HS:=Hd (Nat.le_trans HS.out hb.size)
    clear hb
    simp only[Act.put,sA1,sB1,sC1]
    refine wpList_appG _ 22 22 Tryz.underlying22 Tryz.underlying22 rfl (.tmp 85) (.tmp 88) rfl (g2+1) Cc u9 _ acc [Trk.gap left] rfl rfl HO.out HS.out (by have:=HCC0.out;omega) hbx (by have h:=congrArg List.length HC.out.e;have:=HRB.out.2;rw[List.length_append]at h;show acc.length+1≤1048576;omega) ?_
    intro v9 w9 q1 q2 q3 q4
    simp only[Act.put,sA1,sB1,sC1]
    replace HO:=Hd q1
    replace HR:=Hd (HR.out.below q2 (by omega) (by omega))
    replace HB:=Hd (HB.out.trans (q2.mono (by omega)))
    replace HS:=Hd (Nat.le_trans HS.out q4)
    clear q1 q2 q3 q4 hbx
    have HE:=Hd (show RAW=acc++[Trk.gap left] by have h:=HC.out.e;rw[if_pos hlp]at h;exact h)
    go_wp2_with fail
    refine(HPK.out RAW _ _ (by rw[HE.out];exact HO.out.tg) HRV.out (by have:=HRB.out;omega) (by have:=HRB.out;omega)).mono ?_
    rintro e w10 ⟨v',rfl,ho,hb⟩
    obtain⟨ar,cr,rfl,hcr,hcr2,_⟩:=ho.tg
    obtain⟨nr,hnr⟩:=Xq ((Trk.pk RAW).length)
    rw[← hnr]at ho hlen hcr ⊢
    replace HR:=Hd (HR.out.up hb)
    replace HB:=Tb HB hb
    have HP:=Hd (ho.lower HS.out)
    clear ho hb hnr
    have r1:=HR.out.c1
    have r2:=HR.out.f1
    have r3:=HR.out.c2
    have r4:=HR.out.f2
    go_wp2_with fail
    refine leaves_cons (f:=67) (args:=#[.pointer (some ⟨g1,0,none⟩),.pointer (some ⟨g2,0,none⟩)]) (by simp) (by simp[go_sem]) ?_
    refine(idle50 _ _ _).mono ?_
    rintro e u' w'' ⟨rfl,rfl,rfl⟩
    have hne21:g2≠g1:=hne12.symm
    simp[Leaves,settle,results,Tryz.results30,go_sem,r1,r3,hne12,hne21]
    exact⟨(((HP.out.var1 HR.out (Nat.zero_le _) (by omega) _).var1 (HR.out.set1 hne12 _) (Nat.zero_le _) (by omega) _).var2 ((HR.out.set1 hne12 _).set1 hne12 _) (Nat.zero_le _) (by omega) _).lower (by omega),
     ((HB.out.setCell (p:=⟨g1,0,none⟩) hn1 _).setCell (p:=⟨g1,0,none⟩) hn1 _).setCell (p:=⟨g2,0,none⟩) hn2 _⟩
   have HE:=Hd (show RAW=acc by have h:=HC.out.e;rw[if_neg hlp,List.append_nil]at h;exact h)
   go_wp2_with fail
   refine(HPK.out RAW _ _ (by rw[HE.out];exact HO.out.tg) HRV.out (by have:=HRB.out;omega) (by have:=HRB.out;omega)).mono ?_
   rintro e w10 ⟨v',rfl,ho,hb⟩
   obtain⟨ar,cr,rfl,hcr,hcr2,_⟩:=ho.tg
   obtain⟨nr,hnr⟩:=Xq ((Trk.pk RAW).length)
   rw[← hnr]at ho hlen hcr ⊢
   replace HR:=Hd (HR.out.up hb)
   replace HB:=Tb HB hb
   have HP:=Hd (ho.lower HS.out)
   clear ho hb hnr
   have r1:=HR.out.c1
   have r2:=HR.out.f1
   have r3:=HR.out.c2
   have r4:=HR.out.f2
   go_wp2_with fail
   refine leaves_cons (f:=67) (args:=#[.pointer (some ⟨g1,0,none⟩),.pointer (some ⟨g2,0,none⟩)]) (by simp) (by simp[go_sem]) ?_
   refine(idle50 _ _ _).mono ?_
   rintro e u' w'' ⟨rfl,rfl,rfl⟩
   have hne21:g2≠g1:=hne12.symm
   simp[Leaves,settle,results,Tryz.results30,go_sem,r1,r3,hne12,hne21]
   exact⟨(((HP.out.var1 HR.out (Nat.zero_le _) (by omega) _).var1 (HR.out.set1 hne12 _) (Nat.zero_le _) (by omega) _).var2 ((HR.out.set1 hne12 _).set1 hne12 _) (Nat.zero_le _) (by omega) _).lower (by omega),
    ((HB.out.setCell (p:=⟨g1,0,none⟩) hn1 _).setCell (p:=⟨g1,0,none⟩) hn1 _).setCell (p:=⟨g2,0,none⟩) hn2 _⟩
  have hn0:n=0:=by omega
  have hab:decide (a<b)=false:=decide_eq_false (by have:=HN.out;omega)
  have hcol:Col RAW [] (b-a):=by
   have h:=HN.out
   refine⟨?_,by simp,by omega,by omega⟩
   rw[if_neg (by omega),HRAW.out,cutRaw_done _ _ (by omega) n0 HG.out a0]
   rfl
  have HC:=Hd hcol
  clear ef hcol hm hc hat
  go_upto_if 46 with fail
  go_upto_region 20 with fail
  obtain⟨acc,hacc⟩:∃ acc:List Trk.Clip,acc=[]:=⟨_,rfl⟩
  rw[← hacc]at HC
  have HO:=Hd (show OG w3 (g2+1) Cc (.slice none 0 0) acc by rw[hacc];exact OG.nil _ _ _)
  clear hacc
  obtain⟨left,hleft⟩:=Xq (b-a)
  rw[← hleft]at HC ⊢
  clear hleft hab
  have HPK:=Hd (fun(l':List Trk.Clip) v' w' (h:TG w' Cc v' l') (hV:VGL l') (hn:l'.length≤1048576) (ht:Trk.total l'≤4611686018427387904)=>packg_any Cc v' l' w' h (fun c hc=>(hV c hc).okg) hn ht)
  have hlf:=HC.out.l
  have hlm:=HC.out.m
  have han:=HC.out.n
  have hrt:Trk.total RAW≤2147483647:=by have:=HRT.out;omega
  have hrn:RAW.length≤65:=by have:=HRL.out;omega
  have HRB:=Hd (And.intro hrt hrn)
  clear hrt hrn
  have hne12:g1≠g2:=by omega
  by_cases hlp:0<left
  ·go_upto_region 21 with fail
   apply wp_region_lit
   iterate 6 go_step
   iterate 3 go_step
   refine Great.wpList_buildSliceTo rfl 22 48 1 #[(0,.tmp 87)] rfl _ rfl _ rfl Tryz.underlying22 (clipG (Trk.gap left) (.slice none 0 0)).toArray ?_ ?_
   ·simp only[List.map_toArray,List.map_cons,List.map_nil,List.toList_toArray]
    exact built_clipG (Trk.gap left) _
   obtain⟨WW,hWW⟩:∃ W:World,W=w3:=⟨_,rfl⟩
   rw[← hWW]at HR HO HB HS ⊢
   clear hWW
   have hb:Below WW.heap.size WW (WW.alloc (.cells (clipG (Trk.gap left) (.slice none 0 0)).toArray 48)):=below_box _ _
   have hbx:TG (WW.alloc (.cells (clipG (Trk.gap left) (.slice none 0 0)).toArray 48)) Cc (.slice (some ⟨WW.heap.size,0,none⟩) 1 1) [Trk.gap left]:=(GB.box WW (Trk.gap left) _).tg (Ch.nil _ _)
   replace HR:=Hd (HR.out.up hb)
   replace HO:=Hd (HO.out.below hb)
   replace HB:=Tb HB hb
   replace HS:=Hd (Nat.le_trans HS.out hb.size)
   clear hb
   simp only[Act.put,sA1,sB1,sC1]
   refine wpList_appG _ 22 22 Tryz.underlying22 Tryz.underlying22 rfl (.tmp 85) (.tmp 88) rfl (g2+1) Cc (.slice none 0 0) _ acc [Trk.gap left] rfl rfl HO.out HS.out (by have:=HCC0.out;omega) hbx (by have h:=congrArg List.length HC.out.e;have:=HRB.out.2;rw[List.length_append]at h;show acc.length+1≤1048576;omega) ?_
   intro v9 w9 q1 q2 q3 q4
   simp only[Act.put,sA1,sB1,sC1]
   replace HO:=Hd q1
   replace HR:=Hd (HR.out.below q2 (by omega) (by omega))
   replace HB:=Hd (HB.out.trans (q2.mono (by omega)))
   replace HS:=Hd (Nat.le_trans HS.out q4)
   clear q1 q2 q3 q4 hbx
   have HE:=Hd (show RAW=acc++[Trk.gap left] by have h:=HC.out.e;rw[if_pos hlp]at h;exact h)
   go_wp2_with fail
   refine(HPK.out RAW _ _ (by rw[HE.out];exact HO.out.tg) HRV.out (by have:=HRB.out;omega) (by have:=HRB.out;omega)).mono ?_
   rintro e w10 ⟨v',rfl,ho,hb⟩
   obtain⟨ar,cr,rfl,hcr,hcr2,_⟩:=ho.tg
   obtain⟨nr,hnr⟩:=Xq ((Trk.pk RAW).length)
   rw[← hnr]at ho hlen hcr ⊢
   replace HR:=Hd (HR.out.up hb)
   replace HB:=Tb HB hb
   have HP:=Hd (ho.lower HS.out)
   clear ho hb hnr
   have r1:=HR.out.c1
   have r2:=HR.out.f1
   have r3:=HR.out.c2
   have r4:=HR.out.f2
   go_wp2_with fail
   refine leaves_cons (f:=67) (args:=#[.pointer (some ⟨g1,0,none⟩),.pointer (some ⟨g2,0,none⟩)]) (by simp) (by simp[go_sem]) ?_
   refine(idle50 _ _ _).mono ?_
   rintro e u' w'' ⟨rfl,rfl,rfl⟩
   have hne21:g2≠g1:=hne12.symm
   simp[Leaves,settle,results,Tryz.results30,go_sem,r1,r3,hne12,hne21]
   exact⟨(((HP.out.var1 HR.out (Nat.zero_le _) (by omega) _).var1 (HR.out.set1 hne12 _) (Nat.zero_le _) (by omega) _).var2 ((HR.out.set1 hne12 _).set1 hne12 _) (Nat.zero_le _) (by omega) _).lower (by omega),
    ((HB.out.setCell (p:=⟨g1,0,none⟩) hn1 _).setCell (p:=⟨g1,0,none⟩) hn1 _).setCell (p:=⟨g2,0,none⟩) hn2 _⟩
  have HE:=Hd (show RAW=acc by have h:=HC.out.e;rw[if_neg hlp,List.append_nil]at h;exact h)
  go_wp2_with fail
  refine(HPK.out RAW _ _ (by rw[HE.out];exact HO.out.tg) HRV.out (by have:=HRB.out;omega) (by have:=HRB.out;omega)).mono ?_
  rintro e w10 ⟨v',rfl,ho,hb⟩
  obtain⟨ar,cr,rfl,hcr,hcr2,_⟩:=ho.tg
  obtain⟨nr,hnr⟩:=Xq ((Trk.pk RAW).length)
  rw[← hnr]at ho hlen hcr ⊢
  replace HR:=Hd (HR.out.up hb)
  replace HB:=Tb HB hb
  have HP:=Hd (ho.lower HS.out)
  clear ho hb hnr
  have r1:=HR.out.c1
  have r2:=HR.out.f1
  have r3:=HR.out.c2
  have r4:=HR.out.f2
  go_wp2_with fail
  refine leaves_cons (f:=67) (args:=#[.pointer (some ⟨g1,0,none⟩),.pointer (some ⟨g2,0,none⟩)]) (by simp) (by simp[go_sem]) ?_
  refine(idle50 _ _ _).mono ?_
  rintro e u' w'' ⟨rfl,rfl,rfl⟩
  have hne21:g2≠g1:=hne12.symm
  simp[Leaves,settle,results,Tryz.results30,go_sem,r1,r3,hne12,hne21]
  exact⟨(((HP.out.var1 HR.out (Nat.zero_le _) (by omega) _).var1 (HR.out.set1 hne12 _) (Nat.zero_le _) (by omega) _).var2 ((HR.out.set1 hne12 _).set1 hne12 _) (Nat.zero_le _) (by omega) _).lower (by omega),
   ((HB.out.setCell (p:=⟨g1,0,none⟩) hn1 _).setCell (p:=⟨g1,0,none⟩) hn1 _).setCell (p:=⟨g2,0,none⟩) hn2 _⟩
 have ef:=findL_none (l:=l) (n:=a) (i:=0) HG.out (by omega)
 rw[ef]
 simp only[findV]
 have hcol:Col RAW [] (b-a):=by
  have h:=HN.out
  refine⟨?_,by simp,by omega,by omega⟩
  rw[HRAW.out,cutRaw_out HG.out (by omega) n0,← h]
  rfl
 have HC:=Hd hcol
 clear ef hcol hat
 go_upto_if 46 with fail
 go_upto_region 20 with fail
 obtain⟨acc,hacc⟩:∃ acc:List Trk.Clip,acc=[]:=⟨_,rfl⟩
 rw[← hacc]at HC
 have HO:=Hd (show OG w3 (g2+1) Cc (.slice none 0 0) acc by rw[hacc];exact OG.nil _ _ _)
 clear hacc
 obtain⟨left,hleft⟩:=Xq (b-a)
 rw[← hleft]at HC ⊢
 clear hleft
 have HPK:=Hd (fun(l':List Trk.Clip) v' w' (h:TG w' Cc v' l') (hV:VGL l') (hn:l'.length≤1048576) (ht:Trk.total l'≤4611686018427387904)=>packg_any Cc v' l' w' h (fun c hc=>(hV c hc).okg) hn ht)
 have hlf:=HC.out.l
 have hlm:=HC.out.m
 have han:=HC.out.n
 have hrt:Trk.total RAW≤2147483647:=by have:=HRT.out;omega
 have hrn:RAW.length≤65:=by have:=HRL.out;omega
 have HRB:=Hd (And.intro hrt hrn)
 clear hrt hrn
 have hne12:g1≠g2:=by omega
 by_cases hlp:0<left
 ·go_upto_region 21 with fail
  apply wp_region_lit
  iterate 6 go_step
  iterate 3 go_step
  refine Great.wpList_buildSliceTo rfl 22 48 1 #[(0,.tmp 87)] rfl _ rfl _ rfl Tryz.underlying22 (clipG (Trk.gap left) (.slice none 0 0)).toArray ?_ ?_
  ·simp only[List.map_toArray,List.map_cons,List.map_nil,List.toList_toArray]
   exact built_clipG (Trk.gap left) _
  obtain⟨WW,hWW⟩:∃ W:World,W=w3:=⟨_,rfl⟩
  rw[← hWW]at HR HO HB HS ⊢
  clear hWW
  have hb:Below WW.heap.size WW (WW.alloc (.cells (clipG (Trk.gap left) (.slice none 0 0)).toArray 48)):=below_box _ _
  have hbx:TG (WW.alloc (.cells (clipG (Trk.gap left) (.slice none 0 0)).toArray 48)) Cc (.slice (some ⟨WW.heap.size,0,none⟩) 1 1) [Trk.gap left]:=(GB.box WW (Trk.gap left) _).tg (Ch.nil _ _)
  replace HR:=Hd (HR.out.up hb)
  replace HO:=Hd (HO.out.below hb)
  replace HB:=Tb HB hb
  replace HS:=Hd (Nat.le_trans HS.out hb.size)
  clear hb
  simp only[Act.put,sA1,sB1,sC1]
  refine wpList_appG _ 22 22 Tryz.underlying22 Tryz.underlying22 rfl (.tmp 85) (.tmp 88) rfl (g2+1) Cc (.slice none 0 0) _ acc [Trk.gap left] rfl rfl HO.out HS.out (by have:=HCC0.out;omega) hbx (by have h:=congrArg List.length HC.out.e;have:=HRB.out.2;rw[List.length_append]at h;show acc.length+1≤1048576;omega) ?_
  intro v9 w9 q1 q2 q3 q4
  simp only[Act.put,sA1,sB1,sC1]
  replace HO:=Hd q1
  replace HR:=Hd (HR.out.below q2 (by omega) (by omega))
  replace HB:=Hd (HB.out.trans (q2.mono (by omega)))
  replace HS:=Hd (Nat.le_trans HS.out q4)
  clear q1 q2 q3 q4 hbx
  have HE:=Hd (show RAW=acc++[Trk.gap left] by have h:=HC.out.e;rw[if_pos hlp]at h;exact h)
  go_wp2_with fail
  refine(HPK.out RAW _ _ (by rw[HE.out];exact HO.out.tg) HRV.out (by have:=HRB.out;omega) (by have:=HRB.out;omega)).mono ?_
  rintro e w10 ⟨v',rfl,ho,hb⟩
  obtain⟨ar,cr,rfl,hcr,hcr2,_⟩:=ho.tg
  obtain⟨nr,hnr⟩:=Xq ((Trk.pk RAW).length)
  rw[← hnr]at ho hlen hcr ⊢
  replace HR:=Hd (HR.out.up hb)
  replace HB:=Tb HB hb
  have HP:=Hd (ho.lower HS.out)
  clear ho hb hnr
  have r1:=HR.out.c1
  have r2:=HR.out.f1
  have r3:=HR.out.c2
  have r4:=HR.out.f2
  go_wp2_with fail
  refine leaves_cons (f:=67) (args:=#[.pointer (some ⟨g1,0,none⟩),.pointer (some ⟨g2,0,none⟩)]) (by simp) (by simp[go_sem]) ?_
  refine(idle50 _ _ _).mono ?_
  rintro e u' w'' ⟨rfl,rfl,rfl⟩
  have hne21:g2≠g1:=hne12.symm
  simp[Leaves,settle,results,Tryz.results30,go_sem,r1,r3,hne12,hne21]
  exact⟨(((HP.out.var1 HR.out (Nat.zero_le _) (by omega) _).var1 (HR.out.set1 hne12 _) (Nat.zero_le _) (by omega) _).var2 ((HR.out.set1 hne12 _).set1 hne12 _) (Nat.zero_le _) (by omega) _).lower (by omega),
   ((HB.out.setCell (p:=⟨g1,0,none⟩) hn1 _).setCell (p:=⟨g1,0,none⟩) hn1 _).setCell (p:=⟨g2,0,none⟩) hn2 _⟩
 have HE:=Hd (show RAW=acc by have h:=HC.out.e;rw[if_neg hlp,List.append_nil]at h;exact h)
 go_wp2_with fail
 refine(HPK.out RAW _ _ (by rw[HE.out];exact HO.out.tg) HRV.out (by have:=HRB.out;omega) (by have:=HRB.out;omega)).mono ?_
 rintro e w10 ⟨v',rfl,ho,hb⟩
 obtain⟨ar,cr,rfl,hcr,hcr2,_⟩:=ho.tg
 obtain⟨nr,hnr⟩:=Xq ((Trk.pk RAW).length)
 rw[← hnr]at ho hlen hcr ⊢
 replace HR:=Hd (HR.out.up hb)
 replace HB:=Tb HB hb
 have HP:=Hd (ho.lower HS.out)
 clear ho hb hnr
 have r1:=HR.out.c1
 have r2:=HR.out.f1
 have r3:=HR.out.c2
 have r4:=HR.out.f2
 go_wp2_with fail
 refine leaves_cons (f:=67) (args:=#[.pointer (some ⟨g1,0,none⟩),.pointer (some ⟨g2,0,none⟩)]) (by simp) (by simp[go_sem]) ?_
 refine(idle50 _ _ _).mono ?_
 rintro e u' w'' ⟨rfl,rfl,rfl⟩
 have hne21:g2≠g1:=hne12.symm
 simp[Leaves,settle,results,Tryz.results30,go_sem,r1,r3,hne12,hne21]
 exact⟨(((HP.out.var1 HR.out (Nat.zero_le _) (by omega) _).var1 (HR.out.set1 hne12 _) (Nat.zero_le _) (by omega) _).var2 ((HR.out.set1 hne12 _).set1 hne12 _) (Nat.zero_le _) (by omega) _).lower (by omega),
  ((HB.out.setCell (p:=⟨g1,0,none⟩) hn1 _).setCell (p:=⟨g1,0,none⟩) hn1 _).setCell (p:=⟨g2,0,none⟩) hn2 _⟩
theorem okCut_out:∀ {l:List Trk.Clip} {a:Int},Trk.GoodL l→Trk.total l≤a→okCut l a
 |[],_,_,_=>trivial
 |c::l,a,g,h=>by
  rw[Trk.total_cons]at h
  have:=Trk.total_nonneg g.tail
  unfold okCut
  rw[if_pos (by omega)]
  exact okCut_out g.tail (by omega)
theorem cutg_bad (D0:Nat) (v:Value) (l:List Trk.Clip) (a b:Int) (w:World) (h:TG w D0 v l) (hV:TV l) (a0:0≤a) (ab:a<b) (b1:b≤2147483647) (hbad:¬okCut l a) :
  Calls Tryz.prog 30 #[v,.int .i64 a,.int .i64 b] w fun e w'=>e=.returned (.tuple #[.slice none 0 0,.int .i64 2])∧Below w.heap.size w w':=by
 replace h:=h.base
 obtain⟨Cc,hCc⟩:=Xq (w.heap.size)
 rw[← hCc]at h
 obtain⟨ao,cap,rfl,hc1,hc2,hT⟩:=h
 have HT:=Hd (show TG w Cc (.slice ao l.length cap) l from⟨ao,cap,rfl,hc1,hc2,hT⟩)
 clear hT
 have HVT:=Hd (fun w (h:TG w Cc (.slice ao l.length cap) l)=>vtrackg_yes Cc _ l w h hV)
 have HFI:=Hd (fun w (h:TG w Cc (.slice ao l.length cap) l)=>findg_any Cc _ l a w h hV a0 (by omega))
 have HV:=Hd hV.l
 have HG:=Hd hV.good
 have hl:=hV.n
 obtain⟨N,hN⟩:=Xq (l.length)
 rw[← hN]at hl hc1 HFI HVT HT ⊢
 have HLe:=Hd hN
 have HBAD:=Hd hbad
 clear hV hN hc2 hbad
 go_enter_defers Tryz.func30,Tryz.ntmps30
 go_upto_region 2 with fail
 obtain⟨w1,hw1⟩:=Xq ((w.alloc (.cells #[.slice none 0 0] 23)).alloc (.cells #[.int .i64 0] 30))
 rw[← hw1]
 have hE1:Below w.heap.size w w1:=by rw[hw1];go_grown
 obtain⟨g1,hg1⟩:=Xq (w.heap.size)
 obtain⟨g2,hg2⟩:=Xq (w.heap.size+1)
 have hr:RG w1 g1 g2 (.slice none 0 0) (.int .i64 0):=by
  rw[hw1,hg1,hg2]
  refine⟨?_,?_⟩
  ·rw[(below_box (w.alloc (.cells #[.slice none 0 0] 23)) _).block _ (by simp)]
   exact(MapKept.heap_alloc w _).1
  have:=(MapKept.heap_alloc (w.alloc (.cells #[.slice none 0 0] 23)) (.cells #[.int .i64 0] 30)).1
  rw[show(w.alloc (.cells #[.slice none 0 0] 23)).heap.size=w.heap.size+1 by simp]at this
  exact this
 have hz:w1.heap.size=g2+1:=by rw[hw1,hg2];simp[go_sem]
 rw[← hg2,← hg1]
 have hn1:w.heap.size≤g1:=by omega
 have HCC0:=Hd (show Cc≤g1∧Cc≤g2 by omega)
 have hn2:w.heap.size≤g2:=by omega
 have h12:g1<g2:=by omega
 have HR:=Hd hr
 have HB:=Hd hE1
 have HS:=Hd (Nat.le_of_eq hz.symm)
 clear hw1 hE1 hg1 hg2 hr hz
 go_wp2_with fail
 refine(HVT.out _ (HT.out.below HB.out)).mono ?_
 rintro e w2 ⟨rfl,hb⟩
 replace HR:=Hd (HR.out.up hb)
 replace HB:=Tb HB hb
 replace HS:=Hd (Nat.le_trans HS.out hb.size)
 clear hb HVT
 go_wp2_with fail
 refine(HFI.out _ (HT.out.below HB.out)).mono ?_
 rintro e w3 ⟨rfl,hb⟩
 replace HR:=Hd (HR.out.up hb)
 replace HB:=Tb HB hb
 replace HS:=Hd (Nat.le_trans HS.out hb.size)
 clear hb HFI
 obtain⟨n,hn⟩:=Xq (b-a)
 have n0:0≤n:=by omega
 have n1:n≤2147483647:=by omega
 have HN:=Hd hn
 clear hn
 have hat:a<Trk.total l:=by
  rcases Int.lt_or_le a (Trk.total l) with h |h
  ·exact h
  exact absurd (okCut_out HG.out h) HBAD.out
 obtain⟨xzx,hxzx⟩:∃ y:Nat,y=0:=⟨_,rfl⟩
 clear hxzx xzx
 obtain⟨j,m,ef,hj,hm0,hm,c,hc,hmc⟩:=findL_some (l:=l) (n:=a) (i:=0) a0 hat
 rw[ef]
 simp only[findV,Nat.zero_add]
 rw[← HLe.out]at hj
 have hnz:0<n:=by have:=HN.out;omega
 have hnz':0<b-a:=by have:=HN.out;omega
 obtain⟨ao',cap',e,_,_,hT⟩:=HT.out
 simp only[Value.slice.injEq]at e
 obtain⟨rfl,eN,rfl⟩:=e
 clear eN
 obtain⟨bb,oo,_,rfl,_⟩:=hT j c hc
 clear hT
 have HJ:=Hd (And.intro ef (And.intro hm hc))
 clear ef hm hc hat
 have hab:decide (a<b)=true:=decide_eq_true (by omega)
 go_upto_if 46 with fail
 have hjc:(j:Int)<(cap:Int):=by omega
 go_wp2_with fail
 obtain⟨M,hM⟩:=Xq (N-j)
 rw[← hM]
 have hMb:M≤64:=by omega
 have hM0:(0:Int)<(M:Int):=by omega
 have HM:=Hd hM
 clear hM
 go_loopw [8,9,51] (fun v8 v9 v51 wr=>v51=.int .i64 0∧v8=.int .i64 (b-a)∧v9=.slice none 0 0∧RG wr g1 g2 (.slice none 0 0) (.int .i64 0)∧Below w.heap.size w wr∧g2+1≤wr.heap.size) (fun _ _ _ _=>0)
 case atStart=>exact⟨rfl,rfl,rfl,HR.out,HB.out,HS.out⟩
 case round=>
  clear HR HB HS
  obtain⟨rfl,rfl,rfl,hr,hb,hs⟩:=hrel
  obtain⟨d,hd⟩:∃ d,l[j]?=some d:=⟨c,HJ.out.2.2⟩
  obtain⟨ao',cap',e,_,_,hT⟩:=HT.out.below hb
  simp only[Value.slice.injEq]at e
  obtain⟨e1,eN,rfl⟩:=e
  clear eN
  subst e1
  obtain⟨bb',oo',xd,e,hA,hX⟩:=hT j d hd
  obtain⟨ax,cx,ex⟩:=hX.form
  obtain⟨nx,hnx⟩:=Xq (d.chan.length)
  rw[← hnx]at ex
  subst ex
  have HCX:=Hd hX
  simp only[Option.some.injEq,Addr.mk.injEq,and_true]at e
  obtain⟨rfl,rfl⟩:=e
  have hvd:=HV.out d (List.mem_of_getElem? hd)
  have HA:=Hd hA
  have HR:=Hd hr
  have HB:=Hd hb
  have HS:=Hd hs
  have HD:=Hd hd
  have HVD:=Hd hvd
  have hdc:d=c:=by
   have h:=HD.out
   rw[HJ.out.2.2]at h
   exact(Option.some.inj h).symm
  clear hT hA hr hb hs hd hvd hX
  go_upto_region 10 with fail
  apply wp_region_lit
  iterate 6 go_step
  refine wpl_loadG HA.out rfl rfl rfl ?_
  refine wpl_allocB rfl rfl (fun w4 hg hb2 hs2=>?_)
  obtain⟨g,hgg⟩:=Xq (wr.heap.size)
  rw[← hgg]at hg ⊢
  have hgn:w.heap.size≤g:=by rw[hgg];exact HB.out.size
  have hg1:g1<g:=by have:=HR.out.lt1;omega
  have hg2:g2<g:=by have:=HR.out.lt2;omega
  have HBX:=Hd (And.intro hb2 hgg)
  clear hb2 hs2 hgg HA
  obtain⟨D,hD⟩:=Xq ((clipG d (.slice ax nx cx)).toArray)
  rw[← hD]
  have HDD:=Hd hD
  clear hD
  simp only[Act.put,sA1,sB1,sC1]
  iterate 3 go_step
  refine wpl_storeB2 d ax nx cx hg rfl rfl rfl (by rw[← HDD.out];rfl) ?_
  intro w5 hv ho3 hs3 hb3
  have hbw:Below wr.heap.size wr w5:=hb3 _ _ (Nat.le_of_eq HBX.out.2.symm) HBX.out.1
  replace HR:=Hd (HR.out.up hbw)
  replace HB:=Hd (HB.out.trans (hbw.mono HB.out.size))
  replace HS:=Hd (Nat.le_trans HS.out hbw.size)
  replace HCX:=Hd (HCX.out.below hbw)
  have HX:=Hd hv
  clear hv ho3 hs3 hb3 hbw HBX hg
  simp only[Act.put,sA1,sB1,sC1]
  have hlb:((b-a)==0)=false:=by
   have:b-a≠0:=by omega
   simpa using this
  subst hdc
  have hpl:(plB (Trk.moved d.a m)&&plB (Trk.moved d.b m))=false:=by
   have h1:=HBAD.out
   have h:=HJ.out
   rw[show a=Trk.total (l.take j)+m by omega,okCut_at HG.out h.2.2 hm0 hmc]at h1
   by_cases hp:PlOK (Trk.moved d.a m)
   ·by_cases hq:PlOK (Trk.moved d.b m)
    ·exact absurd ⟨hp,hq⟩ h1
    rw[plB_no hq,Bool.and_false]
   rw[plB_no hp,Bool.false_and]
  have HAD:=Hd (fun(w1:World) (hi:IT w1 (.slice ax nx cx) d.chan)=>advanceg_any d (.slice ax nx cx) m w1 hi HVD.out hm0 hmc)
  unfold AdvPost at HAD
  rw[hpl]at HAD
  clear hpl
  unfold clipGV at HAD
  rw[← HDD.out]at HAD
  go_upto_region 13 with fail
  apply wp_region_lit
  refine wpl_loadG HX.out.ga rfl rfl rfl ?_
  rw[← HDD.out]
  simp only[Act.put,sA1,sB1,sC1]
  go_wp2_with fail
  refine(HAD.out _ HCX.out.it).mono ?_
  rintro e w6 ⟨hzz,hb⟩
  rcases hzz with⟨hbad,-⟩ |hzz
  ·cases hbad
  obtain⟨-,rfl⟩:=hzz
  replace HX:=Hd (HX.out.below hb)
  replace HR:=Hd (HR.out.up hb)
  replace HB:=Tb HB hb
  replace HS:=Hd (Nat.le_trans HS.out hb.size)
  clear hb
  dsimp only
  iterate 10 go_step
  refine wpl_storeB2 (Trk.gap 0) none 0 0 HX.out rfl rfl rfl rfl ?_
  intro w7 hv ho3 hs3 hb3
  have hbw:Below g w6 w7:=hb3 _ _ (Nat.le_refl _) (Below.refl _ _)
  replace HR:=Hd (HR.out.below hbw hg1 hg2)
  replace HB:=Hd (hb3 _ _ hgn HB.out)
  replace HS:=Hd (Nat.le_trans HS.out hbw.size)
  clear hv ho3 hs3 hb3 hbw HX HCX
  simp only[Act.put,sA1,sB1,sC1]
  have y2:=HR.out.c2
  have f2:=HR.out.f2
  go_upto_region 15 with fail
  have hne12:g1≠g2:=by omega
  have hne21:g2≠g1:=hne12.symm
  replace HR:=Hd (HR.out.set2 hne12 (.int .i64 2))
  replace HB:=Hd (HB.out.setCell (p:=⟨g2,0,none⟩) hn2 (.int .i64 2))
  clear y2 f2
  obtain⟨w8,hw8⟩:=Xq (w7.setCell ⟨g2,0,none⟩ (.int .i64 2))
  rw[← hw8]at HR HB ⊢
  clear hw8
  refine Plan.wp_region_planz (fun w'=>RG w' g1 g2 (.slice none 0 0) (.int .i64 2)) 2 (([0].map (·,true))++(([1].map (·,false))++([2].map (·,false)))) (by kernel_rfl) (by kernel_rfl) (by kernel_rfl) (HR.out.up (Below.refl _ _).drew) ?_
  refine' Plan.plan_seg _ [0] (([1].map (·,false))++([2].map (·,false))) (by kernel_rfl) (by kernel_rfl) rfl (by exact HR.out.up (Below.refl _ _).drew) (fun wx hS=>?_) ?_
  rotate_left
  ·have y2:=hS.c2
   clear hS
   go_light
   iterate 1 (apply Plan.seg_pick;rfl;intro K hK;go_wp)
   exact Plan.seg_nil
  obtain⟨w9,hw9⟩:=Xq (w8.drew)
  rw[← hw9]
  have hb:Below w8.heap.size w8 w9:=by rw[hw9];exact(Below.refl _ _).drew
  replace HR:=Hd (HR.out.up hb)
  replace HB:=Tb HB hb
  clear hb hw9
  refine Plan.plan_of_effect rfl (fun K hK=>?_)
  have y1:=HR.out.c1
  have f1:=HR.out.f1
  go_wp2_with fail
  replace HR:=Hd (HR.out.set1 hne12 (.slice none 0 0))
  replace HB:=Hd (HB.out.setCell (p:=⟨g1,0,none⟩) hn1 (.slice none 0 0))
  clear y1 f1
  obtain⟨w10,hw10⟩:=Xq (w9.setCell ⟨g1,0,none⟩ (.slice none 0 0))
  rw[← hw10]at HR HB ⊢
  clear hw10
  refine⟨HR.out,?_⟩
  refine Plan.plan_of_last rfl (fun K hK=>?_)
  have y2:=HR.out.c2
  have f2:=HR.out.f2
  go_wp2_with fail
  replace HR:=Hd (HR.out.set2 hne12 (.int .i64 2))
  replace HB:=Hd (HB.out.setCell (p:=⟨g2,0,none⟩) hn2 (.int .i64 2))
  clear y2 f2
  obtain⟨w11,hw11⟩:=Xq (w10.setCell ⟨g2,0,none⟩ (.int .i64 2))
  rw[← hw11]at HR HB ⊢
  clear hw11
  refine Plan.plan_done ?_
  have r1:=HR.out.c1
  have r3:=HR.out.c2
  go_wp2_with fail
  refine leaves_cons (f:=67) (args:=#[.pointer (some ⟨g1,0,none⟩),.pointer (some ⟨g2,0,none⟩)]) (by simp) (by simp[go_sem]) ?_
  refine(idle50 _ _ _).mono ?_
  rintro e u' w'' ⟨rfl,rfl,rfl⟩
  simp[Leaves,settle,results,Tryz.results30,go_sem,r1,r3,hne12,hne21]
  exact HB.out
def CutGPost (w:World) (l:List Trk.Clip) (a b:Int) (e:Ending) (w':World):Prop:=
 ((okCut l a∧∃ v',e=.returned (.tuple #[v',.int .i64 0])∧OG w' w.heap.size 0 v' (Trk.cut l a b))∨(¬okCut l a∧e=.returned (.tuple #[.slice none 0 0,.int .i64 2])))∧Below w.heap.size w w'
theorem cutg_any (D0:Nat) (v:Value) (l:List Trk.Clip) (a b:Int) (w:World) (h:TG w D0 v l) (hV:TV l) (a0:0≤a) (ab:a<b) (b1:b≤2147483647) (hlen:(Trk.cut l a b).length≤64) :
  Calls Tryz.prog 30 #[v,.int .i64 a,.int .i64 b] w (CutGPost w l a b):=by
 by_cases ho:okCut l a
 ·exact(cutg_ok D0 v l a b w h hV a0 (Int.le_of_lt ab) b1 hlen (.inl ho)).mono fun e w' ⟨v',he,hog,hb⟩=>⟨.inl ⟨ho,v',he,hog⟩,hb⟩
 exact(cutg_bad D0 v l a b w h hV a0 ab b1 ho).mono fun e w' ⟨he,hb⟩=>⟨.inr ⟨ho,he⟩,hb⟩
theorem gcd_tmod {a b:Int} (h:a≠0):(b.tmod a).natAbs.gcd a.natAbs=a.natAbs.gcd b.natAbs:=by
 rw[Int.natAbs_tmod,Nat.gcd_rec a.natAbs b.natAbs]
theorem tmod_small {a b:Int} (h:a≠0):(b.tmod a).natAbs<a.natAbs:=by
 rw[Int.natAbs_tmod]
 exact Nat.mod_lt _ (by omega)
theorem bdivisor_any (x y:Int) (w:World) (x0:-4611686018427387904≤x) (x1:x≤4611686018427387904) (y0:-4611686018427387904≤y) (y1:y≤4611686018427387904) :
  Calls Tryz.prog 179 #[.int .i64 x,.int .i64 y] w fun e w'=>e=.returned (.int .i64 ((x.natAbs.gcd y.natAbs:Nat):Int))∧∃ m,w'=w.drewN m:=by
 obtain⟨g,hg⟩:=Xq (x.natAbs.gcd y.natAbs)
 rw[← hg]
 replace hg:=Hd hg
 go_enter Tryz.func179,Tryz.ntmps179
 go_wp2
 go_loopw [0,1] (fun i j wr=>∃ a b:Int,i=.int .i64 a∧j=.int .i64 b∧(-4611686018427387904≤a∧a≤4611686018427387904)∧(-4611686018427387904≤b∧b≤4611686018427387904)∧Hid (g=a.natAbs.gcd b.natAbs)∧∃ m,wr=w.drewN m) (fun i j _=>(intOf i).natAbs)
 case atStart=>exact⟨x,y,rfl,rfl,⟨x0,x1⟩,⟨y0,y1⟩,hg,0,rfl⟩
 case round=>
  obtain⟨a,b,rfl,rfl,⟨a0,a1⟩,⟨b0,b1⟩,hG,m,rfl⟩:=hrel
  by_cases h0:a=0
  ·subst h0
   go_wp2
   all_goals
    go_ret
    refine⟨ret_int ?_,m,rfl⟩
    rw[hG.out]
    simp only[Int.natAbs_zero,Nat.gcd_zero_left]
    omega
  have hm:=tmod_small (b:=b) h0
  have hG2:=Hd (show g=(b.tmod a).natAbs.gcd a.natAbs by rw[hG.out,gcd_tmod h0])
  go_wp2
  go_roundw
  case rel=>exact⟨b.tmod a,a,rfl,rfl,⟨by omega,by omega⟩,⟨a0,a1⟩,hG2,m,rfl⟩
  case measure=>exact hm
theorem results_rat {fn:Func} {tmps:Array Value} {w:World} {t:Tmp} {g:Nat} {n d:Int} (hr:fn.results=#[.cell t 38]) (ht:tmps.getD t undef=.pointer (some ⟨g,0,none⟩)) (h0:w.cell? ⟨g,0,none⟩=some (.int .i64 n)) (h1:w.cell? ⟨g,1,none⟩=some (.int .i64 d)) :
  (results fn tmps).run Tryz.prog w=.ok (.agg #[.int .i64 n,.int .i64 d]) w:=by
 have hc:w.rangeAt g 0 [.int .i64 n,.int .i64 d]:=by
  intro j u hj
  have hl:j<2:=(List.getElem?_eq_some_iff.1 hj).1
  rcases(show j=0∨j=1 by omega) with rfl |rfl
  ·simp only[List.getElem?_cons_zero,Option.some.injEq]at hj
   rw[← hj];exact h0
  simp only[List.getElem?_cons_succ,List.getElem?_cons_zero,Option.some.injEq]at hj
  rw[← hj];exact h1
 have h:=run_loadVar_mid (P:=Tryz.prog) w g 0 38 [.int .i64 n,.int .i64 d] _ hc Tryz.underlying38 rfl (by kernel_rfl)
 unfold results
 rw[hr]
 have ht2:tmps[t]?.getD undef=.pointer (some ⟨g,0,none⟩):=by rw[← Array.getD_eq_getD_getElem?];exact ht
 simp[ht2,asAddr,h]
theorem pos_core (kd:Int) (nm:ByteArray) (an ad sn sd:Int) (sm:Bool) (k g a d base num t1 t2 t3 c:Int) (w:World) (hk:(kd==0)=false)
  (hg:g=((ad.natAbs.gcd sd.natAbs:Nat):Int)) (hc:c=((num.natAbs.gcd base.natAbs:Nat):Int)) (g1:1≤g) (c1:1≤c)
  (a1:1≤ad) (a2:ad≤65536) (s1:1≤sd) (s2:sd≤65536) (b1:1≤base) (b2:base≤65536)
  (q1:ad.tdiv g=a) (p1:a*sd=base) (q2:base.tdiv ad=d) (p2:an*d=t1) (p3:k*sn=t2) (q3:base.tdiv sd=a) (p4:t2*a=t3) (p5:t1+t3=num)
  (a3:0≤a) (a4:a≤65536) (d3:0≤d) (d4:d≤65536) (x1:-1152921504606846976≤num.tdiv c) (x2:num.tdiv c≤1152921504606846976) (y1:0≤base.tdiv c) (y2:base.tdiv c≤65536) (m1:-1152921504606846976≤t1∧t1≤1152921504606846976) (m2:-1152921504606846976≤t2∧t2≤1152921504606846976) (m3:-1152921504606846976≤t3∧t3≤1152921504606846976) :
  Calls Tryz.prog 173 #[.agg #[.int .i64 kd,.string nm,.int .i64 an,.int .i64 ad,.int .i64 sn,.int .i64 sd,.bool sm],.int .i64 k] w fun e w'=>e=.returned (.agg #[.int .i64 (num.tdiv c),.int .i64 (base.tdiv c)])∧Below w.heap.size w w':=by
 have D1:=Hd (fun w=>hg ▸ bdivisor_any ad sd w (by omega) (by omega) (by omega) (by omega))
 have D2:=Hd (fun w=>hc ▸ bdivisor_any num base w (by omega) (by omega) (by omega) (by omega))
 clear hg hc
 go_enter Tryz.func173,Tryz.ntmps173
 go_upto_region 1 with fail
 obtain⟨w1,hw1⟩:=Xq ((w.alloc (.cells #[.int .i64 kd,.string nm,.int .i64 an,.int .i64 ad,.int .i64 sn,.int .i64 sd,.bool sm] 46)).alloc (.cells #[.int .i64 0,.int .i64 0] 38))
 have hb1:Below w.heap.size w w1:=by rw[hw1];go_grown
 have u0:w1.cell? ⟨w.heap.size,0,none⟩=some (.int .i64 kd):=by rw[hw1];simp[go_sem]
 have u2:w1.cell? ⟨w.heap.size,2,none⟩=some (.int .i64 an):=by rw[hw1];simp[go_sem]
 have u3:w1.cell? ⟨w.heap.size,3,none⟩=some (.int .i64 ad):=by rw[hw1];simp[go_sem]
 have u4:w1.cell? ⟨w.heap.size,4,none⟩=some (.int .i64 sn):=by rw[hw1];simp[go_sem]
 have u5:w1.cell? ⟨w.heap.size,5,none⟩=some (.int .i64 sd):=by rw[hw1];simp[go_sem]
 have v0:w1.cell? ⟨w.heap.size+1,0,none⟩=some (.int .i64 0):=by rw[hw1];simp[go_sem]
 have v1:w1.cell? ⟨w.heap.size+1,1,none⟩=some (.int .i64 0):=by rw[hw1];simp[go_sem]
 have z0:w1.frozen? ⟨w.heap.size+1,0,none⟩=false:=by rw[hw1];simp[go_sem]
 have z1:w1.frozen? ⟨w.heap.size+1,1,none⟩=false:=by rw[hw1];simp[go_sem]
 rw[← hw1]
 have HB:=Hd hb1
 obtain⟨p,hp⟩:=Xq (w.heap.size)
 obtain⟨r,hr⟩:=Xq (w.heap.size+1)
 rw[← hr]at v0 v1 z0 z1 ⊢
 rw[← hp]at u0 u2 u3 u4 u5 ⊢
 have HR:=Hd (show w.heap.size≤r by omega)
 clear hw1 hb1 hp hr
 go_wp2_with fail
 go_quiet (first |(go_at_call 179;refine Calls.quiet_of (D1.out _)))
 have e1:wrap64 a=a:=by simp only[wrap64];omega
 go_upto_region 4 with fail
 go_quiet (fail)
 go_wp2_with fail
 refine(D2.out _).mono ?_
 rintro e w2 ⟨rfl,m,rfl⟩
 go_upto_region 6 with fail
 go_region
 go_wp2_with fail
 refine bodyPost_ret (results_rat (g:=r) Tryz.results173 rfl (by simp[go_sem,v0,z0]) (by simp[go_sem,v1,z1])) rfl ⟨rfl,?_⟩
 exact((below_drewN HB.out _).setCell (p:=⟨r,0,none⟩) HR.out _).setCell (p:=⟨r,1,none⟩) HR.out _
structure PosB (s:Trk.Src) (k:Int):Prop where
 a:s.ad≤65536
 d:s.sd≤65536
 b:Trk.baseN s≤65536
 n0:-(1099511627776*s.ad)≤s.an
 n1:s.an≤1099511627776*s.ad
 v0:-(1024*s.sd)≤s.sn
 v1:s.sn≤1024*s.sd
 k0:-4294967296≤k
 k1:k≤4294967296
theorem abs_mul {x y X Y:Int} (h0:-X≤x) (h1:x≤X) (k0:-Y≤y) (k1:y≤Y):-(X*Y)≤x*y∧x*y≤X*Y:=by
 have hx:x.natAbs≤X.natAbs:=by omega
 have hy:y.natAbs≤Y.natAbs:=by omega
 have h:=Nat.mul_le_mul hx hy
 rw[← Int.natAbs_mul,← Int.natAbs_mul]at h
 have hX:0≤X:=by omega
 have hY:0≤Y:=by omega
 have hp:=Int.mul_nonneg hX hY
 omega
theorem position_good (s:Trk.Src) (k:Int) (w:World) (h:Trk.Good s) (hb:PosB s k) :
  Calls Tryz.prog 173 #[.agg (srcC s).toArray,.int .i64 k] w fun e w'=>e=.returned (.agg #[.int .i64 (Trk.moved s k).an,.int .i64 (Trk.moved s k).ad])∧Below w.heap.size w w':=by
 obtain⟨m1,m2⟩:=Trk.moved_num h k
 have hB:=Trk.base_pos h
 obtain⟨A,hA⟩:=Int.eq_ofNat_of_zero_le (show 0≤s.ad by have:=h.a0;omega)
 obtain⟨D,hD⟩:=Int.eq_ofNat_of_zero_le (show 0≤s.sd by have:=h.s0;omega)
 have a0:0<A:=by have:=h.a0;omega
 have d0:0<D:=by have:=h.s0;omega
 obtain⟨b1,b2,b3,b4⟩:=Trk.base_nat a0 d0
 have hbase:Trk.baseN s=A / A.gcd D*D:=by unfold Trk.baseN;rw[hA,hD,Int.toNat_natCast,Int.toNat_natCast]
 have hpos:Trk.posN s k=s.an*((D / A.gcd D:Nat):Int)+k*s.sn*((A / A.gcd D:Nat):Int):=by unfold Trk.posN;rw[hA,hD,Int.toNat_natCast,Int.toNat_natCast]
 have g0:0<A.gcd D:=Nat.gcd_pos_of_pos_left _ a0
 have la:A / A.gcd D≤A:=Nat.div_le_self _ _
 have ld:D / A.gcd D≤D:=Nat.div_le_self _ _
 have ha:=hb.a
 have hd:=hb.d
 have hbb:=hb.b
 rw[hA]at ha
 rw[hD]at hd
 have n0:=hb.n0
 have n1:=hb.n1
 have v0:=hb.v0
 have v1:=hb.v1
 have k0:=hb.k0
 have k1:=hb.k1
 rw[hA]at n0 n1
 rw[hD]at v0 v1
 obtain⟨B,eB⟩:=Xq (Trk.baseN s)
 obtain⟨N,eN⟩:=Xq (Trk.posN s k)
 rw[← eB]at m1 m2 hB hbase hbb
 rw[← eN]at m1 m2 hpos
 obtain⟨G,eG⟩:=Xq (A.gcd D)
 rw[← eG]at b1 b2 b3 b4 hbase hpos g0 la ld
 obtain⟨a,ea⟩:=Xq (A / G)
 obtain⟨d,ed⟩:=Xq (D / G)
 rw[← ea]at b1 b2 b3 b4 hbase hpos la
 rw[← ed]at b1 b2 hpos ld
 rw[← hbase]at b1 b2 b3 b4
 have c0:0<N.natAbs.gcd B:=Nat.gcd_pos_of_pos_right _ hB
 have cN:((N.natAbs.gcd B:Nat):Int)∣N:=Int.ofNat_dvd_left.2 (Nat.gcd_dvd_left _ _)
 have cB:((N.natAbs.gcd B:Nat):Int)∣(B:Int):=by exact_mod_cast Nat.gcd_dvd_right _ _
 obtain⟨c,ec⟩:=Xq (N.natAbs.gcd B)
 rw[← ec]at c0 cN cB m1 m2
 have t1:=abs_mul n0 n1 (show -(d:Int)≤(d:Int) by omega) (Int.le_refl _)
 have e1:1099511627776*(A:Int)*(d:Int)=1099511627776*(B:Int):=by
  rw[Int.mul_assoc];congr 1;rw[b1];simp
 rw[e1]at t1
 have t2:=abs_mul (show -(4294967296:Int)≤k by omega) k1 v0 v1
 have t3:=abs_mul t2.1 t2.2 (show -(a:Int)≤(a:Int) by omega) (Int.le_refl _)
 have e3:4294967296*(1024*(D:Int))*(a:Int)=4398046511104*(B:Int):=by
  rw[← Int.mul_assoc,show(4294967296*1024:Int)=4398046511104 from rfl,Int.mul_assoc];congr 1;rw[hbase,Int.mul_comm];simp
 rw[e3]at t3
 have xN:(N.tdiv (c:Int)).natAbs≤N.natAbs:=by rw[Int.natAbs_tdiv];exact Nat.div_le_self _ _
 obtain⟨q,eq⟩:=Xq (B / c)
 have xB:((B:Int).tdiv (c:Int))=(q:Int):=by rw[eq];simp
 have lB:q≤B:=by rw[eq];exact Nat.div_le_self _ _
 have key:=pos_core s.kind s.name s.an (A:Int) s.sn (D:Int) s.smooth k (G:Int) (a:Int) (d:Int) (B:Int) N (s.an*(d:Int)) (k*s.sn) (k*s.sn*(a:Int)) (c:Int) w (by simpa using h.k)
  (by rw[eG];simp) (by rw[ec];simp) (by omega) (by omega) (by omega) (by omega) (by omega) (by omega) (by omega) (by omega)
  (by rw[ea];simp) (by rw[hbase];simp) (by rw[← b2];simp) rfl rfl (by rw[← b3];simp) rfl hpos.symm
  (by omega) (by omega) (by omega) (by omega) (by omega) (by omega) (by rw[xB];omega) (by rw[xB];omega) (by omega) (by omega) (by omega)
 rw[m1,m2,← Int.tdiv_eq_ediv_of_dvd cN,← Int.tdiv_eq_ediv_of_dvd cB]
 unfold srcC
 rw[hA,hD]
 exact key
theorem position_black (k:Int) (w:World) :
  Calls Tryz.prog 173 #[.agg (srcC Trk.black).toArray,.int .i64 k] w fun e w'=>e=.returned (.agg #[.int .i64 0,.int .i64 0])∧Below w.heap.size w w':=by
 unfold srcC Trk.black
 go_enter Tryz.func173,Tryz.ntmps173
 go_wp2_with fail
 exact bodyPost_ret (results_rat (g:=w.heap.size+1) Tryz.results173 rfl (by simp[go_sem]) (by simp[go_sem])) rfl ⟨rfl,by go_grown⟩
theorem position_any (s:Trk.Src) (k:Int) (w:World) (h:Trk.Okay s) (hb:s=Trk.black∨PosB s k) :
  Calls Tryz.prog 173 #[.agg (srcC s).toArray,.int .i64 k] w fun e w'=>e=.returned (.agg #[.int .i64 (Trk.moved s k).an,.int .i64 (Trk.moved s k).ad])∧Below w.heap.size w w':=by
 by_cases e:s=Trk.black
 ·subst e
  rw[Trk.moved_black]
  exact position_black k w
 exact position_good s k w (h.resolve_left e) (hb.resolve_left e)
def srcN (s:Trk.Src):Trk.Src:={ s with an:=0,ad:=0 }
def ratV (n d:Int):Value:=.agg #[.int .i64 n,.int .i64 d]
def ssG (x y:Value) (i lo hi:Nat) (v:Value) (w:World):Prop:=v=if i=2 then x else y
theorem ssG.ext {x y:Value} (i lo hi:Nat) (v:Value) (w w':World) (h:ssG x y i lo hi v w) (hb:Plan.Ext w w'):ssG x y i lo hi v w':=h
def ssS:List (Nat×Tmp):=[(2,11),(5,14)]
theorem ratV_eq (n d n' d':Int) (w:World):(Op.equalIn 10000 38 (.agg #[.int .i64 n,.int .i64 d]) (.agg #[.int .i64 n',.int .i64 d'])).run Tryz.prog w=.ok (decide (n=n'∧d=d')) w:=by
 simp[go_sem]
 by_cases h1:n=n'<;>by_cases h2:d=d'<;>simp[h1,h2]
theorem srcN_eq (a b:Trk.Src):srcN a=srcN b↔a.kind=b.kind∧a.name=b.name∧a.sn=b.sn∧a.sd=b.sd∧a.smooth=b.smooth:=by
 constructor
 ·intro h
  have h1:(srcN a).kind=(srcN b).kind:=by rw[h]
  have h2:(srcN a).name=(srcN b).name:=by rw[h]
  have h3:(srcN a).sn=(srcN b).sn:=by rw[h]
  have h4:(srcN a).sd=(srcN b).sd:=by rw[h]
  have h5:(srcN a).smooth=(srcN b).smooth:=by rw[h]
  exact⟨h1,h2,h3,h4,h5⟩
 rintro⟨h1,h2,h3,h4,h5⟩
 exact Trk.Src.ext2 h1 h2 rfl rfl h3 h4 h5
theorem samesource_any (a b:Trk.Src) (j k:Int) (w:World) (ha:Trk.Okay a) (hb:Trk.Okay b) (Ba:a=Trk.black∨PosB a j) (Bb:b=Trk.black∨PosB b k) :
  Calls Tryz.prog 159 #[.agg (srcC a).toArray,.int .i64 j,.agg (srcC b).toArray,.int .i64 k] w fun e w'=>e=.returned (.bool (decide (Trk.moved a j=Trk.moved b k)))∧Below w.heap.size w w':=by
 have P1:=Hd (fun w=>position_any a j w ha Ba)
 have P2:=Hd (fun w=>position_any b k w hb Bb)
 have HE:=Hd (Trk.moved_eq (a:=a) (b:=b) j k)
 clear ha hb Ba Bb
 obtain⟨D,hD⟩:=Xq (decide (Trk.moved a j=Trk.moved b k))
 rw[← hD]
 have HD:=Hd hD
 clear hD
 obtain⟨xn,hxn⟩:=Xq ((Trk.moved a j).an)
 obtain⟨xd,hxd⟩:=Xq ((Trk.moved a j).ad)
 obtain⟨yn,hyn⟩:=Xq ((Trk.moved b k).an)
 obtain⟨yd,hyd⟩:=Xq ((Trk.moved b k).ad)
 rw[← hxn,← hxd]at P1
 rw[← hyn,← hyd]at P2
 rw[← hxn,← hxd,← hyn,← hyd]at HE
 clear hxn hxd hyn hyd
 have HQ:=Hd (fun w=>run_eq_src (srcN a) (srcN b) w)
 obtain⟨c1,hc1⟩:=Xq (decide (srcN a=srcN b))
 have HC1:=Hd hc1
 rw[← hc1]at HQ
 clear hc1
 unfold srcC at P1 P2 ⊢
 go_enter Tryz.func159,Tryz.ntmps159
 go_upto_region 1 with fail
 obtain⟨w1,hw1⟩:=Xq ((w.alloc (.cells #[.int .i64 a.kind,.string a.name,.int .i64 a.an,.int .i64 a.ad,.int .i64 a.sn,.int .i64 a.sd,.bool a.smooth] 46)).alloc (.cells #[.int .i64 b.kind,.string b.name,.int .i64 b.an,.int .i64 b.ad,.int .i64 b.sn,.int .i64 b.sd,.bool b.smooth] 46))
 have hb1:Below w.heap.size w w1:=by rw[hw1];go_grown
 obtain⟨p,hp⟩:=Xq (w.heap.size)
 obtain⟨r,hr⟩:=Xq (w.heap.size+1)
 have x:C7 w1 p 0 (.int .i64 a.kind) (.string a.name) (.int .i64 a.an) (.int .i64 a.ad) (.int .i64 a.sn) (.int .i64 a.sd) (.bool a.smooth):=by rw[hw1,hp];constructor<;>simp[go_sem]
 have y:C7 w1 r 0 (.int .i64 b.kind) (.string b.name) (.int .i64 b.an) (.int .i64 b.ad) (.int .i64 b.sn) (.int .i64 b.sd) (.bool b.smooth):=by rw[hw1,hr];constructor<;>simp[go_sem]
 have f:(∀ o,w1.frozen? ⟨p,o,none⟩=false)∧∀ o,w1.frozen? ⟨r,o,none⟩=false:=by rw[hw1,hp,hr];exact⟨fun o=>by simp[go_sem],fun o=>by simp[go_sem]⟩
 rw[← hw1,← hr,← hp]
 have HX:=Hd x
 have HY:=Hd y
 have HF:=Hd f
 have HB:=Hd hb1
 have HP:=Hd (show w.heap.size≤p∧w.heap.size≤r∧p≠r by omega)
 clear hw1 hp hr hb1 x y f
 refine Plan.wp_region_fresh (fun w'=>Below w1.heap.size w1 w') 7 (ssG (ratV xn xd) (ratV yn yd)) ([0,1,3,4].map (·,true)) ssS ([6].map (·,true)) 23 (by kernel_rfl) (by kernel_rfl) (by kernel_rfl) (Below.refl _ _).drew (fun wa wb ha hb=>ha.trans (hb.mono ha.size)) ssG.ext ?_
 refine' Plan.plan_seg _ [0,1,3,4] [] (by kernel_rfl) (by kernel_rfl) rfl (by exact(Below.refl _ _).drew) (fun wx hS=>?_) ?_
 rotate_left
 ·obtain⟨x0,x1,x2,x3,x4,x5,x6⟩:=HX.out.below hS
  obtain⟨y0,y1,y2,y3,y4,y5,y6⟩:=HY.out.below hS
  simp only[Nat.zero_add]at x1 x2 x3 x4 x5 x6 y1 y2 y3 y4 y5 y6
  clear hS
  go_light
  iterate 4 (apply Plan.seg_pick;rfl;intro K hK;go_wp)
  exact Plan.seg_nil
 refine Plan.plan_nil ?_
 refine Plan.fresh_at_gen (fun A=>A.tmps.size=23∧A.tmps[9]?=some (.agg (srcC a).toArray)∧A.tmps[10]?=some (.int .i64 j)∧A.tmps[12]?=some (.agg (srcC b).toArray)∧A.tmps[13]?=some (.int .i64 k)) ⟨rfl,rfl,rfl,rfl,rfl⟩ rfl (fun Aq hA=>?_) ?_
 ·obtain⟨hsz,e9,e10,e12,e13⟩:=hA
  intro p' hp o ho vs wx lo hi hS hE hG K hK
  simp only[ssS,List.mem_cons,List.not_mem_nil,or_false]at hp
  rcases hp with rfl |rfl
  all_goals obtain rfl:=Option.some.inj ho
  ·have t9:(Plan.puts vs ssS Aq).eval (.tmp 9)=.agg (srcC a).toArray:=by rw[Plan.eval_out (by decide)];simp[Act.eval,Array.getD_eq_getD_getElem?,e9]
   have t10:(Plan.puts vs ssS Aq).eval (.tmp 10)=.int .i64 j:=by rw[Plan.eval_out (by decide)];simp[Act.eval,Array.getD_eq_getD_getElem?,e10]
   refine Plan.one_call rfl 173 Tryz.func173 (by kernel_rfl) (by kernel_rfl) #[.tmp 9,.tmp 10] #[46,2] rfl #[.agg (srcC a).toArray,.int .i64 j] (by simp only[List.map_toArray,List.map_cons,List.map_nil,t9,t10]) (fun r w'=>r=ratV xn xd∧Below wx.heap.size wx w') ?_ (fun r w' hR=>hK _ _ hR.1 hR.2)
   refine(P1.out wx).mono ?_
   rintro e w' ⟨rfl,hb⟩
   exact⟨_,rfl,rfl,hb⟩
  have t9:(Plan.puts vs ssS Aq).eval (.tmp 12)=.agg (srcC b).toArray:=by rw[Plan.eval_out (by decide)];simp[Act.eval,Array.getD_eq_getD_getElem?,e12]
  have t10:(Plan.puts vs ssS Aq).eval (.tmp 13)=.int .i64 k:=by rw[Plan.eval_out (by decide)];simp[Act.eval,Array.getD_eq_getD_getElem?,e13]
  refine Plan.one_call rfl 173 Tryz.func173 (by kernel_rfl) (by kernel_rfl) #[.tmp 12,.tmp 13] #[46,2] rfl #[.agg (srcC b).toArray,.int .i64 k] (by simp only[List.map_toArray,List.map_cons,List.map_nil,t9,t10]) (fun r w'=>r=ratV yn yd∧Below wx.heap.size wx w') ?_ (fun r w' hR=>hK _ _ hR.1 hR.2)
  refine(P2.out wx).mono ?_
  rintro e w' ⟨rfl,hb⟩
  exact⟨_,rfl,rfl,hb⟩
 intro vs lo hi wx hS hE hall hap
 have h2:vs 2=ratV xn xd:=(hall (2,11) (by decide)).1
 have h5:vs 5=ratV yn yd:=(hall (5,14) (by decide)).1
 have HF2:=Hd (show(∀ o,wx.frozen? ⟨p,o,none⟩=false)∧∀ o,wx.frozen? ⟨r,o,none⟩=false from⟨fun o=>(hS.frozen (p:=⟨p,o,none⟩) HX.out.lt).trans (HF.out.1 o),fun o=>(hS.frozen (p:=⟨r,o,none⟩) HY.out.lt).trans (HF.out.2 o)⟩)
 replace HX:=Hd (HX.out.below hS)
 replace HY:=Hd (HY.out.below hS)
 replace HB:=Hd (HB.out.trans (hS.mono HB.out.size))
 have hSk:=Hd hS
 simp only[ssS,Plan.puts,h2,h5,ratV]
 clear hall hap hE hS h2 h5 HF
 have heq:=fun w=>ratV_eq xn xd yn yd w
 refine' Plan.plan_seg _ [6] [] (by kernel_rfl) (by kernel_rfl) rfl (by exact hSk.out) (fun wy hS=>?_) ?_
 rotate_left
 ·clear hS
  go_light
  iterate 1 (apply Plan.seg_pick;rfl;intro K hK;go_wp)
  exact Plan.seg_nil
 refine Plan.plan_done ?_
 clear heq
 by_cases hpe:xn=yn∧xd=yd
 ·have hpd:(!decide (xn=yn)||!decide (xd=yd))=false:=by simp[hpe.1,hpe.2]
  rw[hpd]
  have HN:=Hd hpe
  clear hpe hpd
  obtain⟨x0,x1,x2,x3,x4,x5,x6⟩:=HX.out
  obtain⟨y0,y1,y2,y3,y4,y5,y6⟩:=HY.out
  simp only[Nat.zero_add]at x1 x2 x3 x4 x5 x6 y1 y2 y3 y4 y5 y6
  obtain⟨f,g⟩:=HF2.out
  have hne:=HP.out.2.2
  have hne2:=Ne.symm hne
  have hq:=HQ.out
  simp only[srcN]at hq
  go_wp2_with fail
  go_ret
  refine⟨ret_bool ?_,?_⟩
  ·rw[HC1.out,HD.out]
   have h1:=HE.out
   have h2:=srcN_eq a b
   simp only[HN.out.1,HN.out.2,and_self,true_and]at h1
   exact decide_eq_decide.2 (h2.trans h1.symm)
  have hp:=HP.out.1
  have hr:=HP.out.2.1
  have hbx:=HB.out
  exact(((hbx.setCell (p:=⟨p,2,none⟩) hp _).setCell (p:=⟨p,3,none⟩) hp _).setCell (p:=⟨r,2,none⟩) hr _).setCell (p:=⟨r,3,none⟩) hr _
 have hpd:(!decide (xn=yn)||!decide (xd=yd))=true:=by
  by_cases h1:xn=yn
  ·have h2:xd≠yd:=fun h=>hpe ⟨h1,h⟩
   simp[h2]
  simp[h1]
 rw[hpd]
 have HN:=Hd hpe
 clear hpe hpd
 go_wp2_with fail
 go_ret
 refine⟨ret_bool ?_,HB.out⟩
 rw[HD.out]
 exact(decide_eq_false fun h=>HN.out (HE.out.1 h).1).symm
structure FrB (c:Trk.Clip) (k:Int):Prop where
 a:Trk.Okay c.a
 b:Trk.Okay c.b
 pa:c.a=Trk.black∨PosB c.a k
 pb:c.b=Trk.black∨PosB c.b k
 z:Trk.shares c.kind=false→c.off=0
 o0:0≤c.off
 o1:c.off≤2147483647
 k0:-4294967296≤k
 k1:k≤4294967296
structure D4 (w:World) (g:Nat) (p q:Int) (x:Value) (e:Int):Prop where
 k0:w.cell? ⟨g,0,none⟩=some (.int .i64 p)
 k1:w.cell? ⟨g,1,none⟩=some (.int .i64 q)
 k2:w.cell? ⟨g,2,none⟩=some x
 k3:w.cell? ⟨g,3,none⟩=some (.int .i64 e)
 f:∀ o,w.frozen? ⟨g,o,none⟩=false
theorem D4.lt {w:World} {g:Nat} {p q:Int} {x:Value} {e:Int} (h:D4 w g p q x e):g<w.heap.size:=block_lt_of_cell h.k0
theorem D4.below {w w':World} {g:Nat} {p q:Int} {x:Value} {e:Int} (h:D4 w g p q x e) (hb:Below w.heap.size w w'):D4 w' g p q x e:=
 ⟨(hb.cell h.lt).trans h.k0,(hb.cell h.lt).trans h.k1,(hb.cell h.lt).trans h.k2,(hb.cell h.lt).trans h.k3,fun o=>(hb.frozen (p:=⟨g,o,none⟩) h.lt).trans (h.f o)⟩
theorem results_diff {fn:Func} {tmps:Array Value} {w:World} {t:Tmp} {g:Nat} {p q:Int} {x:Value} {e:Int} (hr:fn.results=#[.cell t 98]) (ht:tmps.getD t undef=.pointer (some ⟨g,0,none⟩)) (h:D4 w g p q x e) :
  (results fn tmps).run Tryz.prog w=.ok (.agg #[.int .i64 p,.int .i64 q,x,.int .i64 e]) w:=by
 have hc:w.rangeAt g 0 [.int .i64 p,.int .i64 q,x,.int .i64 e]:=by
  intro j u hj
  have hl:j<4:=(List.getElem?_eq_some_iff.1 hj).1
  rcases(show j=0∨j=1∨j=2∨j=3 by omega) with rfl |rfl |rfl |rfl
  all_goals
   simp only[List.getElem?_cons_zero,List.getElem?_cons_succ,Option.some.injEq]at hj
   subst hj
  ·exact h.k0
  ·exact h.k1
  ·exact h.k2
  exact h.k3
 have h:=run_loadVar_mid (P:=Tryz.prog) w g 0 98 [.int .i64 p,.int .i64 q,x,.int .i64 e] _ hc Tryz.underlying98 rfl (by kernel_rfl)
 unfold results
 rw[hr]
 have ht2:tmps[t]?.getD undef=.pointer (some ⟨g,0,none⟩):=by rw[← Array.getD_eq_getD_getElem?];exact ht
 simp[ht2,asAddr,h]
def partL (l:List Trk.Clip) (a b:Int):List Trk.Clip:=if a=b then[] else Trk.cut l a b
theorem idle72 (p q:Addr) (w:World):CallsD Tryz.prog 72 #[.pointer (some p),.pointer (some q)] .returning w fun e u' w'=>e=.returned (.tuple #[])∧u'=.returning∧w'=w:=by
 refine callsD_of_wpS Tryz.func72 rfl fun c₀ cs hu=>?_
 apply wpS_seq
 apply wpS_region
 simp[wpOpsS,go_sem,recoverD,hu,Tryz.ntmps72,Exit.thenS]
 refine wpS_cond (t:=false) (by simp[Act.eval,Array.replicate]) ?_
 simp only[Bool.false_eq_true,if_false]
 refine wpS_of_wp (wp_skip ?_)
 cases c₀
 simp_all[bodyPostS,results,Tryz.results72]
end Go.Proofs.YtfoohocgdcgbcaaGreat
