/- Texts of this claim joined: JF JL JG JH JI JM JJ JK. -/
import Derived.Test.YtfoohocgdcgbcaaGreatMe22
import Derived.Test.YtfoohocgdcgbcaaGreatSq
set_option linter.unusedVariables false
set_option linter.unusedSimpArgs false
set_option maxRecDepth 100000
set_option maxHeartbeats 40000000
namespace Go.Proofs.YtfoohocgdcgbcaaGreat
open Go.RowKit
def OGL (l:List Trk.Clip):Prop:=∀ c∈l,OkG c
theorem OGL.good {l:List Trk.Clip} (h:OGL l):Trk.GoodL l:=fun c hc=>(h c hc).g
theorem snoc_okg {out:List Trk.Clip} {c:Trk.Clip} (h:OGL out) (k:OkG c) (ht:Trk.total out+c.len≤4294967295):OGL (Trk.snoc out c):=by
 unfold Trk.snoc
 cases ho:out.getLast? with
 |none=>exact fun x hx=>by rw[List.mem_singleton.1 hx];exact k
 | some p =>
  simp only
  have hs:=Trk.getLast_split ho
  have hp:p∈out:=by rw[hs];simp
  have hP:=h p hp
  split
  ·intro x hx
   rcases List.mem_append.1 hx with hx |hx
   ·exact h x (Trk.mem_drop_last hx)
   rw[List.mem_singleton.1 hx]
   have:=Trk.len_le_total h.good hp
   have h1:=hP.g.l
   have h2:=k.g.l
   have hg:Trk.GoodC (Trk.withLen p (p.len+c.len)):=⟨show 1≤p.len+c.len by omega,hP.g.a,hP.g.b,fun hk=>by have e:=hP.g.g hk;rw[e];rfl⟩
   exact⟨hg,hP.a,hP.b,hP.ch,show p.len+c.len≤_ by omega,hP.o⟩
  intro x hx
  rcases List.mem_append.1 hx with hx |hx
  ·exact h x hx
  rw[List.mem_singleton.1 hx];exact k
theorem pk_okg {l:List Trk.Clip} (h:OGL l) (ht:Trk.total l≤4294967295):OGL (Trk.pk l):=by
 revert h ht
 refine Trk.list_snoc (P:=fun l=>OGL l→Trk.total l≤4294967295→OGL (Trk.pk l)) (fun _ _=>fun x hx=>by cases hx) (fun l c ih h ht=>?_) l
 have hl:OGL l:=fun x hx=>h x (List.mem_append_left _ hx)
 have hc:OkG c:=h c (by simp)
 have c1:=hc.g.l
 have et:Trk.total (l++[c])=Trk.total l+c.len:=by rw[Trk.total_append];show _+(c.len+0)=_;omega
 rw[et]at ht
 rw[Trk.pk_snoc]
 refine snoc_okg (ih hl (by omega)) hc ?_
 rw[(Trk.pk_of hl.good).s.t]
 exact ht
theorem rpack100_any (C:Nat) (v:Value) (l:List Trk.Clip) (w:World) (h:TG w C v l) (hO:∀ c∈l,OkG c) (hl:l.length≤1048576) (ht:Trk.total l≤4294967295) :
  Calls Tryz.prog 100 #[v] w (OGPost w (Trk.pk l)):=by
 unfold OGPost
 obtain⟨ao,cap,rfl,hc1,hc2,hT⟩:=h
 have HT:=Hd (show TG w C (.slice ao l.length cap) l from⟨ao,cap,rfl,hc1,hc2,hT⟩)
 clear hT
 have hG:Trk.GoodL l:=fun c hc=>(hO c hc).g
 have HO:=Hd hO
 have HG:=Hd hG
 have HTT:=Hd ht
 have HLL:=Hd (And.intro hl (And.intro hc1 hc2))
 obtain⟨L,hL⟩:=Xq (l.length)
 rw[← hL]at hl hc1
 have HLe:=Hd hL
 rw[← hL]
 clear hO hG ht hL hc2
 go_enter Tryz.func100,Tryz.ntmps100
 go_wp2_with fail
 go_loopw [3,4] (fun v3 v4 wr=>∃ k:Nat,k≤L∧v4=.int .i64 (k:Int)∧OG wr w.heap.size 0 v3 (Trk.pk (l.take k))∧Below w.heap.size w wr) (fun _ i _=>L-(intOf i).toNat)
 case atStart=>exact⟨0,Nat.zero_le _,rfl,by rw[List.take_zero];exact OG.nil _ _ _,Below.refl _ _⟩
 case round =>
  obtain⟨k,hk,rfl,ho,hb⟩:=hrel
  by_cases hlt:k<L
  ·have hlt':(k:Int)<(L:Int):=by omega
   have hkl:k<l.length:=by rw[← HLe.out];exact hlt
   obtain⟨c,hc⟩:∃ c,l[k]?=some c:=⟨_,List.getElem?_eq_getElem hkl⟩
   obtain⟨ao',cap',e,_,_,hT⟩:=HT.out.below hb
   simp only[Value.slice.injEq,true_and]at e
   obtain⟨rfl,rfl⟩:=e
   obtain⟨b,o,x,rfl,hA,hX⟩:=hT k c hc
   obtain⟨ax,cx,ex⟩:=hX.form
   obtain⟨nx,hnx⟩:=Xq (c.chan.length)
   rw[← hnx]at ex
   subst ex
   clear hT hnx
   have HA:=Hd hA
   have HX:=Hd hX.it
   have HOT:=Hd ho
   have HB:=Hd hb
   have HC:=Hd hc
   clear hA ho hb hc hkl hX
   have hln:(Trk.pk (l.take k)).length≤1048576:=by
    have hG':Trk.GoodL (l.take k):=fun x hx=>HG.out x (List.mem_of_mem_take hx)
    have:=(Trk.pk_of hG').n
    simp only[List.length_take]at this
    omega
   obtain⟨av,vn,acap,rfl,hvn⟩:∃ ao n cap,u3=.slice ao n cap∧n=(Trk.pk (l.take k)).length:=by
    obtain⟨ao,cap,e⟩:=HOT.out.tg.form
    exact⟨ao,_,cap,e,rfl⟩
   have HVN:=Hd hvn
   have hvl:vn≤1048576:=by omega
   clear hvn hln
   obtain⟨tv,htv⟩:∃ t:Bool,t=(match (Trk.pk (l.take k)).getLast? with |none=>false |some p=>decide (Trk.cont c p)):=⟨_,rfl⟩
   have HTV:=Hd htv
   clear htv
   go_upto_region 6 with fail
   go_cut [27] from 14 to 52 (fun v wx=>v=.bool tv∧GA wx b (o+k*22) c (.slice ax nx cx)∧IT wx (.slice ax nx cx) c.chan∧OG wx w.heap.size 0 (.slice av vn acap) (Trk.pk (l.take k))∧Below w.heap.size w wx)
   case first J K' h1 h2=>
    cases hp:(Trk.pk (l.take k)).getLast? with
    | none =>
     have e0:Trk.pk (l.take k)=[]:=List.getLast?_eq_none_iff.1 hp
     have hte:tv=false:=by rw[HTV.out,e0];rfl
     have hv0:vn=0:=by rw[HVN.out,e0];rfl
     subst hte hv0
     clear e0 hp
     refine Plan.wp_region_plan (fun w'=>GA w' b (o+k*22) c (.slice ax nx cx)) (([0,1,2,3,4,5,6,7,8,9,10,11].map (·,true))++(([12].map (·,false))++([13].map (·,true)))) (by kernel_rfl) (by kernel_rfl) (by kernel_rfl) (HA.out.below (Below.refl _ _).drew) ?_
     refine' Plan.plan_seg _ [0,1,2,3,4,5,6,7,8,9,10,11] (([12].map (·,false))++([13].map (·,true))) (by kernel_rfl) (by kernel_rfl) rfl (by exact HA.out.below (Below.refl _ _).drew) (fun wx hS=>?_) ?_
     rotate_left
     ·clear hS
      go_light
      iterate 12 (apply Plan.seg_pick;rfl;intro K hK;go_wp)
      exact Plan.seg_nil
     obtain⟨w4,hw4⟩:=Xq (wr.drew)
     rw[← hw4]
     have hb:Below wr.heap.size wr w4:=by rw[hw4];exact(Below.refl _ _).drew
     replace HA:=Hd (HA.out.below hb)
     replace HX:=Hd (HX.out.below hb)
     replace HOT:=Hd (HOT.out.below hb)
     replace HB:=Tb HB hb
     clear hb hw4
     refine Plan.plan_of_effect rfl (fun K hK=>?_)
     go_wp2_with fail
     refine⟨HA.out,?_⟩
     refine' Plan.plan_seg _ [13] [] (by kernel_rfl) (by kernel_rfl) rfl (by exact HA.out) (fun wx hS=>?_) ?_
     rotate_left
     ·clear hS
      go_light
      iterate 1 (apply Plan.seg_pick;rfl;intro K hK;go_wp)
      exact Plan.seg_nil
     refine Plan.plan_done ?_
     refine h2 _ _ (Met.intro (h1 _ _ ?_))
     (repeat apply Exists.intro)
     exact⟨⟨rfl,HA.out,HX.out,HOT.out,HB.out⟩,rfl⟩
    | some p =>
     obtain⟨e,e0⟩ |⟨g2,cp,e⟩:=HOT.out.shape
     ·rw[e0]at hp;cases hp
     simp only[Value.slice.injEq]at e
     obtain⟨rfl,-,rfl⟩:=e
     have hte:tv=decide (Trk.cont c p):=by rw[HTV.out,hp]
     have hpo:OkG p:=pk_okg (fun x hx=>HO.out x (List.mem_of_mem_take hx)) (Int.le_trans (total_take l HG.out k) HTT.out) p (by rw[Trk.getLast_split hp];simp)
     obtain⟨n,hn⟩:∃ n,n+1=vn:=by
      cases hp':(Trk.pk (l.take k)).length with
      |zero=>rw[List.length_eq_zero_iff.1 hp']at hp;cases hp
      |succ n=>exact⟨n,by rw[HVN.out,hp']⟩
     have hpn:(Trk.pk (l.take k))[n]?=some p:=by
      rw[List.getLast?_eq_getElem?,← HVN.out,← hn]at hp
      exact hp
     obtain⟨xp,hCP,hXP⟩:=HOT.out.cell hpn
     obtain⟨ay,cy,ey⟩:=hXP.form
     obtain⟨ny,hny⟩:=Xq (p.chan.length)
     rw[← hny]at ey
     subst ey
     have HY:=Hd hXP.it
     have HD:=Hd hCP
     have HPO:=Hd hpo
     subst hn
     have hn1:((n+1:Nat):Int)-1=(n:Int):=by omega
     have hn0:(0:Int)<((n+1:Nat):Int):=by omega
     have hcapn:n+1≤acap:=HOT.out.blk.2.2.1
     clear hny hXP hCP hpo hp hpn
     refine Plan.wp_region_plan (fun w'=>GA w' g2 (n*22) p (.slice ay ny cy)∧GA w' b (o+k*22) c (.slice ax nx cx)) (([0,1,2,3,4,5,6,7,8,9,10,11].map (·,true))++(([12].map (·,false))++([13].map (·,true)))) (by kernel_rfl) (by kernel_rfl) (by kernel_rfl) ⟨HD.out.below (Below.refl _ _).drew,HA.out.below (Below.refl _ _).drew⟩ ?_
     refine' Plan.plan_seg _ [0,1,2,3,4,5,6,7,8,9,10,11] (([12].map (·,false))++([13].map (·,true))) (by kernel_rfl) (by kernel_rfl) rfl (by exact⟨HD.out.below (Below.refl _ _).drew,HA.out.below (Below.refl _ _).drew⟩) (fun wx hS=>?_) ?_
     rotate_left
     ·obtain⟨S1,S2⟩:=hS
      have HS1:=Hd S1
      have HS2:=Hd S2
      clear S1 S2
      go_light
      iterate 7 (apply Plan.seg_pick;rfl;intro K hK;go_wp)
      (apply Plan.seg_pick;rfl;intro K hK)
      go_guarded
      refine wp_load_mid 48 _ rfl g2 (n*22) (by simp[go_sem]) (clipG p (.slice ay ny cy)) _ HS1.out.range Tryz.underlying48 rfl (by kernel_rfl) ?_
      go_wp
      iterate 3 (apply Plan.seg_pick;rfl;intro K hK;go_wp)
      (apply Plan.seg_pick;rfl;intro K hK)
      go_guarded
      refine wp_load_mid 48 _ rfl b (o+k*22) rfl (clipG c (.slice ax nx cx)) _ HS2.out.range Tryz.underlying48 rfl (by kernel_rfl) ?_
      go_wp
      exact Plan.seg_nil
     obtain⟨w4,hw4⟩:=Xq (wr.drew)
     rw[← hw4]
     have hb:Below wr.heap.size wr w4:=by rw[hw4];exact(Below.refl _ _).drew
     replace HA:=Hd (HA.out.below hb)
     replace HD:=Hd (HD.out.below hb)
     replace HX:=Hd (HX.out.below hb)
     replace HY:=Hd (HY.out.below hb)
     replace HOT:=Hd (HOT.out.below hb)
     replace HB:=Tb HB hb
     clear hb hw4
     have HCO:=Hd (show Calls Tryz.prog 144 #[.agg (clipG p (.slice ay ny cy)).toArray,.agg (clipG c (.slice ax nx cx)).toArray] w4 fun e w'=>e=.returned (.bool tv)∧Below w4.heap.size w4 w' from by
      rw[hte]
      exact rcont_any c p _ _ w4 (HO.out c (List.mem_of_getElem? HC.out)) HPO.out HX.out HY.out)
     clear hte
     refine Plan.plan_of_effect rfl (fun K hK=>?_)
     go_wp2_with fail
     refine HCO.out.mono ?_
     rintro e w5 ⟨rfl,hb⟩
     replace HA:=Hd (HA.out.below hb)
     replace HD:=Hd (HD.out.below hb)
     replace HX:=Hd (HX.out.below hb)
     replace HOT:=Hd (HOT.out.below hb)
     replace HB:=Tb HB hb
     clear hb
     go_wp2_with fail
     refine⟨⟨HD.out,HA.out⟩,?_⟩
     refine' Plan.plan_seg _ [13] [] (by kernel_rfl) (by kernel_rfl) rfl (by exact⟨HD.out,HA.out⟩) (fun wx hS=>?_) ?_
     rotate_left
     ·clear hS
      go_light
      iterate 1 (apply Plan.seg_pick;rfl;intro K hK;go_wp)
      exact Plan.seg_nil
     refine Plan.plan_done ?_
     refine h2 _ _ (Met.intro (h1 _ _ ?_))
     (repeat apply Exists.intro)
     exact⟨⟨rfl,HA.out,HX.out,HOT.out,HB.out⟩,rfl⟩
   case rest=>
    obtain⟨e27,hv,hxx,ho,hb⟩:=hcut
    subst e27
    clear HA HOT HB HX
    have HA:=Hd hv
    have HX:=Hd hxx
    have HOT:=Hd ho
    have HB:=Hd hb
    clear hv ho hb hxx
    cases tv with
    | true =>
     obtain⟨p,hp,hcp⟩:∃ p,(Trk.pk (l.take k)).getLast?=some p∧Trk.cont c p:=by
      have h:=HTV.out
      cases hp:(Trk.pk (l.take k)).getLast? with
      |none=>rw[hp]at h;simp at h
      |some p=>rw[hp]at h;exact⟨p,rfl,of_decide_eq_true h.symm⟩
     have hq:=Trk.getLast_split hp
     obtain⟨q,hq2⟩:=Xq ((Trk.pk (l.take k)).dropLast)
     rw[← hq2]at hq
     have hsn:Trk.pk (l.take (k+1))=q++[Trk.withLen p (p.len+c.len)]:=by
      rw[List.take_add_one,HC.out]
      show Trk.pk (l.take k++[c])=_
      rw[Trk.pk_snoc]
      unfold Trk.snoc
      rw[hp]
      simp only
      rw[if_pos hcp,← hq2]
     have HSN:=Hd hsn
     have hG':Trk.GoodL (l.take k):=fun x hx=>HG.out x (List.mem_of_mem_take hx)
     have hpk:=Trk.pk_of hG'
     have hpl:p.len≤4611686018427387904:=by
      have h1:=hpk.s.1
      have h2:=total_take l HG.out k
      have h3:=hpk.g
      rw[hq]at h1 h3
      rw[Trk.total_append]at h1
      have h4:=Trk.total_nonneg (l:=q) (fun x hx=>h3 x (List.mem_append_left _ hx))
      have h5:Trk.total [p]=p.len:=by show p.len+0=_;omega
      have h6:=HTT.out
      omega
     have hpl0:1≤p.len:=(hpk.g p (by rw[hq];simp)).l
     have hcl:=(HO.out c (List.mem_of_getElem? HC.out)).l
     have hcl0:=(HO.out c (List.mem_of_getElem? HC.out)).g.l
     rw[hq]at HOT
     obtain⟨e,e0⟩ |⟨g2,cp,e⟩:=HOT.out.shape
     ·simp at e0
     simp only[Value.slice.injEq]at e
     obtain⟨rfl,-,rfl⟩:=e
     have hB2:=HOT.out.blk.1
     obtain⟨xp,hCP,-⟩:=HOT.out.cell (i:=q.length) (c:=p) (by simp)
     have hfz:=HOT.out.frozen
     have hqn:q.length≤1048576:=by
      have:=hpk.n
      rw[hq]at this
      simp only[List.length_append,List.length_cons,List.length_nil,List.length_take]at this
      omega
     obtain⟨n,hn⟩:=Xq (q.length)
     have hln:vn=n+1:=by rw[HVN.out,hq];simp[hn]
     subst hln
     rw[← hn]at hCP hqn
     have HN:=Hd hn
     have HCP:=Hd hCP
     have HFZ:=Hd hfz
     clear hn hCP hfz hp hcp hq hq2 hsn hG' hpk
     have hn1:((n+1:Nat):Int)-1=(n:Int):=by omega
     have hcapn:n+1≤acap:=HOT.out.blk.2.2.1
     go_upto_region 7 with fail
     have hbl:b<w.heap.size:=by
      obtain⟨ao',cap',e,_,_,hT0⟩:=HT.out
      obtain⟨b',o',x',e2,hA0,_⟩:=hT0 k c HC.out
      simp only[Value.slice.injEq]at e
      have e3:=e.1.trans e2
      simp only[Option.some.injEq,Addr.mk.injEq,and_true]at e3
      rw[e3.1]
      exact block_lt_of_cell hA0.k0
     have hbg:b≠g2:=by omega
     clear hbl
     refine Plan.wp_region_plan (fun w'=>w'.cell? ⟨b,o+k*22,none⟩=some (.int .i64 c.len)) (([0,1,2,3,4,5,6,7,9,10,11,12,13].map (·,true))++(([8].map (·,false))++(([14,15,16].map (·,true))++([17].map (·,false))))) (by kernel_rfl) (by kernel_rfl) (by kernel_rfl) (HA.out.below (Below.refl _ _).drew).k0 ?_
     refine' Plan.plan_seg _ [0,1,2,3,4,5,6,7,9,10,11,12,13] (([8].map (·,false))++(([14,15,16].map (·,true))++([17].map (·,false)))) (by kernel_rfl) (by kernel_rfl) rfl (by exact(HA.out.below (Below.refl _ _).drew).k0) (fun wx hS=>?_) ?_
     rotate_left
     ·go_light
      iterate 13 (apply Plan.seg_pick;rfl;intro K hK;go_wp)
      exact Plan.seg_nil
     obtain⟨w4,hw4⟩:=Xq (wc.drew)
     rw[← hw4]
     have hb:Below wc.heap.size wc w4:=by rw[hw4];exact(Below.refl _ _).drew
     replace HOT:=Hd (HOT.out.below hb)
     replace HCP:=Hd (HCP.out.below hb)
     replace HB:=Tb HB hb
     replace HA:=Hd (HA.out.below hb)
     clear hb hw4 HFZ
     have z0:=HCP.out.k0
     refine Plan.plan_of_effect rfl (fun K hK=>?_)
     go_wp2_with fail
     refine⟨HA.out.k0,?_⟩
     refine' Plan.plan_seg _ [14,15,16] ([17].map (·,false)) (by kernel_rfl) (by kernel_rfl) rfl (by exact HA.out.k0) (fun wx hS=>?_) ?_
     rotate_left
     ·clear hS
      go_light
      iterate 3 (apply Plan.seg_pick;rfl;intro K hK;go_wp)
      exact Plan.seg_nil
     have zf:=HOT.out.frozen
     refine Plan.plan_of_effect rfl (fun K hK=>?_)
     go_wp2_with fail
     refine⟨(World.cell?_of_block (a:=⟨b,o+k*22,none⟩) (setCells_other g2 b hbg [_] (n*22) w4)).trans HA.out.k0,?_⟩
     refine Plan.plan_done ?_
     have hnew:=HOT.out.setLen (Nat.zero_le _) (p.len+c.len)
     rw[← HN.out,← HSN.out]at hnew
     have HNE:=Hd hnew
     have HBN:=Hd (HB.out.setCell (p:=⟨g2,n*22,none⟩) hB2 (.int .i64 (p.len+c.len)))
     clear z0 zf hnew
     obtain⟨w5,hw5⟩:=Xq (w4.setCell ⟨g2,n*22,none⟩ (.int .i64 (p.len+c.len)))
     rw[← hw5]at HNE HBN ⊢
     clear hw5
     go_wp2_with fail
     go_roundw
     case rel=>
      exact⟨k+1,by omega,by simp,HNE.out,HBN.out⟩
     case measure=>
      show L-(intOf (.int .i64 ((k:Int)+1))).toNat<L-(intOf (.int .i64 (k:Int))).toNat
      simp[intOf]
      omega
    | false =>
     have HCP:=Hd (fun w1 (hi:IT w1 (.slice ax nx cx) c.chan)=>rcopy_any c (.slice ax nx cx) w1 hi (by have:=(HO.out c (List.mem_of_getElem? HC.out)).ch;omega))
     unfold clipGV at HCP
     obtain⟨CC,hCC⟩:=Xq ((clipG c (.slice ax nx cx)).toArray)
     rw[← hCC]at HCP
     have HCC:=Hd hCC
     clear hCC
     go_upto_region 8 with fail
     apply wp_region_lit
     iterate 12 go_step
     refine wpl_loadG HA.out rfl rfl rfl ?_
     rw[← HCC.out]
     simp only[Act.put,sA1,sB1,sC1]
     iterate 2 go_step
     refine(HCP.out _ HX.out).mono ?_
     rintro e w5 ⟨x2,rfl,hch,hb⟩
     replace HOT:=Hd (HOT.out.below hb)
     replace HB:=Tb HB hb
     obtain⟨C2,hC2⟩:=Xq ((clipG c x2).toArray)
     rw[← hC2]
     have HC2:=Hd hC2
     have HCH:=Hd hch
     clear hb hC2 hch
     dsimp only
     go_step
     have hsn:Trk.pk (l.take (k+1))=Trk.pk (l.take k)++[c]:=by
      rw[List.take_add_one,HC.out]
      show Trk.pk (l.take k++[c])=_
      rw[Trk.pk_snoc]
      unfold Trk.snoc
      have h:=HTV.out
      cases hp:(Trk.pk (l.take k)).getLast? with
      |none=>
       have e0:Trk.pk (l.take k)=[]:=List.getLast?_eq_none_iff.1 hp
       rw[e0]
       rfl
      |some p=>
       rw[hp]at h
       simp only
       rw[if_neg (of_decide_eq_false h.symm)]
     have HSN:=Hd hsn
     have hG':Trk.GoodL (l.take k):=fun x hx=>HG.out x (List.mem_of_mem_take hx)
     have hqn:(Trk.pk (l.take k)).length+1≤1048576:=by
      have:=(Trk.pk_of hG').n
      simp only[List.length_take]at this
      omega
     clear hsn hG'
     refine Great.wpList_buildSliceTo rfl 23 48 1 #[(0,.tmp 50)] rfl w5.heap.size rfl _ rfl Tryz.underlying23 C2 ?_ ?_
     ·simp only[List.map_toArray,List.map_cons,List.map_nil,List.toList_toArray]
      rw[HC2.out]
      exact built_clipG c x2
     have hb:Below w5.heap.size w5 (w5.alloc (.cells C2 48)):=below_box _ _
     have hbx:TG (w5.alloc (.cells C2 48)) 0 (.slice (some ⟨w5.heap.size,0,none⟩) 1 1) [c]:=by rw[HC2.out];exact(GB.box w5 c x2).tg (HCH.out.below (below_box _ _))
     replace HOT:=Hd (HOT.out.below hb)
     replace HB:=Tb HB hb
     clear hb
     simp only[Act.put,sA1,sB1,sC1]
     refine wpList_appG _ 23 23 Tryz.underlying23 Tryz.underlying23 rfl (.tmp 45) (.tmp 51) rfl w.heap.size 0 (.slice av vn acap) _ (Trk.pk (l.take k)) [c] rfl rfl HOT.out HB.out.size (Nat.zero_le _) hbx (by simpa using hqn) ?_
     intro v' w6 r1 r2 r3 r4
     simp only[Act.put,sA1,sB1,sC1]
     rw[← HSN.out]at r1
     have HR:=Hd r1
     replace HB:=Hd (HB.out.trans r2)
     clear r1 r2 r3 r4 hbx
     go_wp2_with fail
     go_roundw
     case rel=>
      exact⟨k+1,by omega,by simp,HR.out,HB.out⟩
     case measure=>
      show L-(intOf (.int .i64 ((k:Int)+1))).toNat<L-(intOf (.int .i64 (k:Int))).toNat
      simp[intOf]
      omega
  have hkl:k=L:=by omega
  have e:l.take k=l:=List.take_of_length_le (by rw[← HLe.out];omega)
  rw[e]at ho
  have HOT:=Hd ho
  have HB:=Hd hb
  clear ho hb e
  subst hkl
  go_wp2_with fail
  go_ret
  exact⟨_,rfl,HOT.out,HB.out⟩
theorem rpack99_any (C:Nat) (v:Value) (l:List Trk.Clip) (w:World) (h:TG w C v l) (hO:∀ c∈l,OkG c) (hl:l.length≤1048576) (ht:Trk.total l≤4294967295) :
  Calls Tryz.prog 99 #[v] w (OGPost w (Trk.pk l)):=by
 unfold OGPost
 obtain⟨ao,cap,rfl,hc1,hc2,hT⟩:=h
 have HT:=Hd (show TG w C (.slice ao l.length cap) l from⟨ao,cap,rfl,hc1,hc2,hT⟩)
 clear hT
 have hG:Trk.GoodL l:=fun c hc=>(hO c hc).g
 have HO:=Hd hO
 have HG:=Hd hG
 have HTT:=Hd ht
 have HLL:=Hd (And.intro hl (And.intro hc1 hc2))
 obtain⟨L,hL⟩:=Xq (l.length)
 rw[← hL]at hl hc1
 have HLe:=Hd hL
 rw[← hL]
 clear hO hG ht hL hc2
 go_enter Tryz.func99,Tryz.ntmps99
 go_wp2_with fail
 go_loopw [3,4] (fun v3 v4 wr=>∃ k:Nat,k≤L∧v4=.int .i64 (k:Int)∧OG wr w.heap.size 0 v3 (Trk.pk (l.take k))∧Below w.heap.size w wr) (fun _ i _=>L-(intOf i).toNat)
 case atStart=>exact⟨0,Nat.zero_le _,rfl,by rw[List.take_zero];exact OG.nil _ _ _,Below.refl _ _⟩
 case round =>
  obtain⟨k,hk,rfl,ho,hb⟩:=hrel
  by_cases hlt:k<L
  ·have hlt':(k:Int)<(L:Int):=by omega
   have hkl:k<l.length:=by rw[← HLe.out];exact hlt
   obtain⟨c,hc⟩:∃ c,l[k]?=some c:=⟨_,List.getElem?_eq_getElem hkl⟩
   obtain⟨ao',cap',e,_,_,hT⟩:=HT.out.below hb
   simp only[Value.slice.injEq,true_and]at e
   obtain⟨rfl,rfl⟩:=e
   obtain⟨b,o,x,rfl,hA,hX⟩:=hT k c hc
   obtain⟨ax,cx,ex⟩:=hX.form
   obtain⟨nx,hnx⟩:=Xq (c.chan.length)
   rw[← hnx]at ex
   subst ex
   clear hT hnx
   have HA:=Hd hA
   have HX:=Hd hX.it
   have HOT:=Hd ho
   have HB:=Hd hb
   have HC:=Hd hc
   clear hA ho hb hc hkl hX
   have hln:(Trk.pk (l.take k)).length≤1048576:=by
    have hG':Trk.GoodL (l.take k):=fun x hx=>HG.out x (List.mem_of_mem_take hx)
    have:=(Trk.pk_of hG').n
    simp only[List.length_take]at this
    omega
   obtain⟨av,vn,acap,rfl,hvn⟩:∃ ao n cap,u3=.slice ao n cap∧n=(Trk.pk (l.take k)).length:=by
    obtain⟨ao,cap,e⟩:=HOT.out.tg.form
    exact⟨ao,_,cap,e,rfl⟩
   have HVN:=Hd hvn
   have hvl:vn≤1048576:=by omega
   clear hvn hln
   obtain⟨tv,htv⟩:∃ t:Bool,t=(match (Trk.pk (l.take k)).getLast? with |none=>false |some p=>decide (Trk.cont c p)):=⟨_,rfl⟩
   have HTV:=Hd htv
   clear htv
   go_upto_region 6 with fail
   go_cut [27] from 14 to 52 (fun v wx=>v=.bool tv∧GA wx b (o+k*22) c (.slice ax nx cx)∧IT wx (.slice ax nx cx) c.chan∧OG wx w.heap.size 0 (.slice av vn acap) (Trk.pk (l.take k))∧Below w.heap.size w wx)
   case first J K' h1 h2=>
    cases hp:(Trk.pk (l.take k)).getLast? with
    | none =>
     have e0:Trk.pk (l.take k)=[]:=List.getLast?_eq_none_iff.1 hp
     have hte:tv=false:=by rw[HTV.out,e0];rfl
     have hv0:vn=0:=by rw[HVN.out,e0];rfl
     subst hte hv0
     clear e0 hp
     refine Plan.wp_region_plan (fun w'=>GA w' b (o+k*22) c (.slice ax nx cx)) (([0,1,2,3,4,5,6,7,8,9,10,11].map (·,true))++(([12].map (·,false))++([13].map (·,true)))) (by kernel_rfl) (by kernel_rfl) (by kernel_rfl) (HA.out.below (Below.refl _ _).drew) ?_
     refine' Plan.plan_seg _ [0,1,2,3,4,5,6,7,8,9,10,11] (([12].map (·,false))++([13].map (·,true))) (by kernel_rfl) (by kernel_rfl) rfl (by exact HA.out.below (Below.refl _ _).drew) (fun wx hS=>?_) ?_
     rotate_left
     ·clear hS
      go_light
      iterate 12 (apply Plan.seg_pick;rfl;intro K hK;go_wp)
      exact Plan.seg_nil
     obtain⟨w4,hw4⟩:=Xq (wr.drew)
     rw[← hw4]
     have hb:Below wr.heap.size wr w4:=by rw[hw4];exact(Below.refl _ _).drew
     replace HA:=Hd (HA.out.below hb)
     replace HX:=Hd (HX.out.below hb)
     replace HOT:=Hd (HOT.out.below hb)
     replace HB:=Tb HB hb
     clear hb hw4
     refine Plan.plan_of_effect rfl (fun K hK=>?_)
     go_wp2_with fail
     refine⟨HA.out,?_⟩
     refine' Plan.plan_seg _ [13] [] (by kernel_rfl) (by kernel_rfl) rfl (by exact HA.out) (fun wx hS=>?_) ?_
     rotate_left
     ·clear hS
      go_light
      iterate 1 (apply Plan.seg_pick;rfl;intro K hK;go_wp)
      exact Plan.seg_nil
     refine Plan.plan_done ?_
     refine h2 _ _ (Met.intro (h1 _ _ ?_))
     (repeat apply Exists.intro)
     exact⟨⟨rfl,HA.out,HX.out,HOT.out,HB.out⟩,rfl⟩
    | some p =>
     obtain⟨e,e0⟩ |⟨g2,cp,e⟩:=HOT.out.shape
     ·rw[e0]at hp;cases hp
     simp only[Value.slice.injEq]at e
     obtain⟨rfl,-,rfl⟩:=e
     have hte:tv=decide (Trk.cont c p):=by rw[HTV.out,hp]
     have hpo:OkG p:=pk_okg (fun x hx=>HO.out x (List.mem_of_mem_take hx)) (Int.le_trans (total_take l HG.out k) HTT.out) p (by rw[Trk.getLast_split hp];simp)
     obtain⟨n,hn⟩:∃ n,n+1=vn:=by
      cases hp':(Trk.pk (l.take k)).length with
      |zero=>rw[List.length_eq_zero_iff.1 hp']at hp;cases hp
      |succ n=>exact⟨n,by rw[HVN.out,hp']⟩
     have hpn:(Trk.pk (l.take k))[n]?=some p:=by
      rw[List.getLast?_eq_getElem?,← HVN.out,← hn]at hp
      exact hp
     obtain⟨xp,hCP,hXP⟩:=HOT.out.cell hpn
     obtain⟨ay,cy,ey⟩:=hXP.form
     obtain⟨ny,hny⟩:=Xq (p.chan.length)
     rw[← hny]at ey
     subst ey
     have HY:=Hd hXP.it
     have HD:=Hd hCP
     have HPO:=Hd hpo
     subst hn
     have hn1:((n+1:Nat):Int)-1=(n:Int):=by omega
     have hn0:(0:Int)<((n+1:Nat):Int):=by omega
     have hcapn:n+1≤acap:=HOT.out.blk.2.2.1
     clear hny hXP hCP hpo hp hpn
     refine Plan.wp_region_plan (fun w'=>GA w' g2 (n*22) p (.slice ay ny cy)∧GA w' b (o+k*22) c (.slice ax nx cx)) (([0,1,2,3,4,5,6,7,8,9,10,11].map (·,true))++(([12].map (·,false))++([13].map (·,true)))) (by kernel_rfl) (by kernel_rfl) (by kernel_rfl) ⟨HD.out.below (Below.refl _ _).drew,HA.out.below (Below.refl _ _).drew⟩ ?_
     refine' Plan.plan_seg _ [0,1,2,3,4,5,6,7,8,9,10,11] (([12].map (·,false))++([13].map (·,true))) (by kernel_rfl) (by kernel_rfl) rfl (by exact⟨HD.out.below (Below.refl _ _).drew,HA.out.below (Below.refl _ _).drew⟩) (fun wx hS=>?_) ?_
     rotate_left
     ·obtain⟨S1,S2⟩:=hS
      have HS1:=Hd S1
      have HS2:=Hd S2
      clear S1 S2
      go_light
      iterate 7 (apply Plan.seg_pick;rfl;intro K hK;go_wp)
      (apply Plan.seg_pick;rfl;intro K hK)
      go_guarded
      refine wp_load_mid 48 _ rfl g2 (n*22) (by simp[go_sem]) (clipG p (.slice ay ny cy)) _ HS1.out.range Tryz.underlying48 rfl (by kernel_rfl) ?_
      go_wp
      iterate 3 (apply Plan.seg_pick;rfl;intro K hK;go_wp)
      (apply Plan.seg_pick;rfl;intro K hK)
      go_guarded
      refine wp_load_mid 48 _ rfl b (o+k*22) rfl (clipG c (.slice ax nx cx)) _ HS2.out.range Tryz.underlying48 rfl (by kernel_rfl) ?_
      go_wp
      exact Plan.seg_nil
     obtain⟨w4,hw4⟩:=Xq (wr.drew)
     rw[← hw4]
     have hb:Below wr.heap.size wr w4:=by rw[hw4];exact(Below.refl _ _).drew
     replace HA:=Hd (HA.out.below hb)
     replace HD:=Hd (HD.out.below hb)
     replace HX:=Hd (HX.out.below hb)
     replace HY:=Hd (HY.out.below hb)
     replace HOT:=Hd (HOT.out.below hb)
     replace HB:=Tb HB hb
     clear hb hw4
     have HCO:=Hd (show Calls Tryz.prog 144 #[.agg (clipG p (.slice ay ny cy)).toArray,.agg (clipG c (.slice ax nx cx)).toArray] w4 fun e w'=>e=.returned (.bool tv)∧Below w4.heap.size w4 w' from by
      rw[hte]
      exact rcont_any c p _ _ w4 (HO.out c (List.mem_of_getElem? HC.out)) HPO.out HX.out HY.out)
     clear hte
     refine Plan.plan_of_effect rfl (fun K hK=>?_)
     go_wp2_with fail
     refine HCO.out.mono ?_
     rintro e w5 ⟨rfl,hb⟩
     replace HA:=Hd (HA.out.below hb)
     replace HD:=Hd (HD.out.below hb)
     replace HX:=Hd (HX.out.below hb)
     replace HOT:=Hd (HOT.out.below hb)
     replace HB:=Tb HB hb
     clear hb
     go_wp2_with fail
     refine⟨⟨HD.out,HA.out⟩,?_⟩
     refine' Plan.plan_seg _ [13] [] (by kernel_rfl) (by kernel_rfl) rfl (by exact⟨HD.out,HA.out⟩) (fun wx hS=>?_) ?_
     rotate_left
     ·clear hS
      go_light
      iterate 1 (apply Plan.seg_pick;rfl;intro K hK;go_wp)
      exact Plan.seg_nil
     refine Plan.plan_done ?_
     refine h2 _ _ (Met.intro (h1 _ _ ?_))
     (repeat apply Exists.intro)
     exact⟨⟨rfl,HA.out,HX.out,HOT.out,HB.out⟩,rfl⟩
   case rest=>
    obtain⟨e27,hv,hxx,ho,hb⟩:=hcut
    subst e27
    clear HA HOT HB HX
    have HA:=Hd hv
    have HX:=Hd hxx
    have HOT:=Hd ho
    have HB:=Hd hb
    clear hv ho hb hxx
    cases tv with
    | true =>
     obtain⟨p,hp,hcp⟩:∃ p,(Trk.pk (l.take k)).getLast?=some p∧Trk.cont c p:=by
      have h:=HTV.out
      cases hp:(Trk.pk (l.take k)).getLast? with
      |none=>rw[hp]at h;simp at h
      |some p=>rw[hp]at h;exact⟨p,rfl,of_decide_eq_true h.symm⟩
     have hq:=Trk.getLast_split hp
     obtain⟨q,hq2⟩:=Xq ((Trk.pk (l.take k)).dropLast)
     rw[← hq2]at hq
     have hsn:Trk.pk (l.take (k+1))=q++[Trk.withLen p (p.len+c.len)]:=by
      rw[List.take_add_one,HC.out]
      show Trk.pk (l.take k++[c])=_
      rw[Trk.pk_snoc]
      unfold Trk.snoc
      rw[hp]
      simp only
      rw[if_pos hcp,← hq2]
     have HSN:=Hd hsn
     have hG':Trk.GoodL (l.take k):=fun x hx=>HG.out x (List.mem_of_mem_take hx)
     have hpk:=Trk.pk_of hG'
     have hpl:p.len≤4611686018427387904:=by
      have h1:=hpk.s.1
      have h2:=total_take l HG.out k
      have h3:=hpk.g
      rw[hq]at h1 h3
      rw[Trk.total_append]at h1
      have h4:=Trk.total_nonneg (l:=q) (fun x hx=>h3 x (List.mem_append_left _ hx))
      have h5:Trk.total [p]=p.len:=by show p.len+0=_;omega
      have h6:=HTT.out
      omega
     have hpl0:1≤p.len:=(hpk.g p (by rw[hq];simp)).l
     have hcl:=(HO.out c (List.mem_of_getElem? HC.out)).l
     have hcl0:=(HO.out c (List.mem_of_getElem? HC.out)).g.l
     rw[hq]at HOT
     obtain⟨e,e0⟩ |⟨g2,cp,e⟩:=HOT.out.shape
     ·simp at e0
     simp only[Value.slice.injEq]at e
     obtain⟨rfl,-,rfl⟩:=e
     have hB2:=HOT.out.blk.1
     obtain⟨xp,hCP,-⟩:=HOT.out.cell (i:=q.length) (c:=p) (by simp)
     have hfz:=HOT.out.frozen
     have hqn:q.length≤1048576:=by
      have:=hpk.n
      rw[hq]at this
      simp only[List.length_append,List.length_cons,List.length_nil,List.length_take]at this
      omega
     obtain⟨n,hn⟩:=Xq (q.length)
     have hln:vn=n+1:=by rw[HVN.out,hq];simp[hn]
     subst hln
     rw[← hn]at hCP hqn
     have HN:=Hd hn
     have HCP:=Hd hCP
     have HFZ:=Hd hfz
     clear hn hCP hfz hp hcp hq hq2 hsn hG' hpk
     have hn1:((n+1:Nat):Int)-1=(n:Int):=by omega
     have hcapn:n+1≤acap:=HOT.out.blk.2.2.1
     go_upto_region 7 with fail
     have hbl:b<w.heap.size:=by
      obtain⟨ao',cap',e,_,_,hT0⟩:=HT.out
      obtain⟨b',o',x',e2,hA0,_⟩:=hT0 k c HC.out
      simp only[Value.slice.injEq]at e
      have e3:=e.1.trans e2
      simp only[Option.some.injEq,Addr.mk.injEq,and_true]at e3
      rw[e3.1]
      exact block_lt_of_cell hA0.k0
     have hbg:b≠g2:=by omega
     clear hbl
     refine Plan.wp_region_plan (fun w'=>w'.cell? ⟨b,o+k*22,none⟩=some (.int .i64 c.len)) (([0,1,2,3,4,5,6,7,9,10,11,12,13].map (·,true))++(([8].map (·,false))++(([14,15,16].map (·,true))++([17].map (·,false))))) (by kernel_rfl) (by kernel_rfl) (by kernel_rfl) (HA.out.below (Below.refl _ _).drew).k0 ?_
     refine' Plan.plan_seg _ [0,1,2,3,4,5,6,7,9,10,11,12,13] (([8].map (·,false))++(([14,15,16].map (·,true))++([17].map (·,false)))) (by kernel_rfl) (by kernel_rfl) rfl (by exact(HA.out.below (Below.refl _ _).drew).k0) (fun wx hS=>?_) ?_
     rotate_left
     ·go_light
      iterate 13 (apply Plan.seg_pick;rfl;intro K hK;go_wp)
      exact Plan.seg_nil
     obtain⟨w4,hw4⟩:=Xq (wc.drew)
     rw[← hw4]
     have hb:Below wc.heap.size wc w4:=by rw[hw4];exact(Below.refl _ _).drew
     replace HOT:=Hd (HOT.out.below hb)
     replace HCP:=Hd (HCP.out.below hb)
     replace HB:=Tb HB hb
     replace HA:=Hd (HA.out.below hb)
     clear hb hw4 HFZ
     have z0:=HCP.out.k0
     refine Plan.plan_of_effect rfl (fun K hK=>?_)
     go_wp2_with fail
     refine⟨HA.out.k0,?_⟩
     refine' Plan.plan_seg _ [14,15,16] ([17].map (·,false)) (by kernel_rfl) (by kernel_rfl) rfl (by exact HA.out.k0) (fun wx hS=>?_) ?_
     rotate_left
     ·clear hS
      go_light
      iterate 3 (apply Plan.seg_pick;rfl;intro K hK;go_wp)
      exact Plan.seg_nil
     have zf:=HOT.out.frozen
     refine Plan.plan_of_effect rfl (fun K hK=>?_)
     go_wp2_with fail
     refine⟨(World.cell?_of_block (a:=⟨b,o+k*22,none⟩) (setCells_other g2 b hbg [_] (n*22) w4)).trans HA.out.k0,?_⟩
     refine Plan.plan_done ?_
     have hnew:=HOT.out.setLen (Nat.zero_le _) (p.len+c.len)
     rw[← HN.out,← HSN.out]at hnew
     have HNE:=Hd hnew
     have HBN:=Hd (HB.out.setCell (p:=⟨g2,n*22,none⟩) hB2 (.int .i64 (p.len+c.len)))
     clear z0 zf hnew
     obtain⟨w5,hw5⟩:=Xq (w4.setCell ⟨g2,n*22,none⟩ (.int .i64 (p.len+c.len)))
     rw[← hw5]at HNE HBN ⊢
     clear hw5
     go_wp2_with fail
     go_roundw
     case rel=>
      exact⟨k+1,by omega,by simp,HNE.out,HBN.out⟩
     case measure=>
      show L-(intOf (.int .i64 ((k:Int)+1))).toNat<L-(intOf (.int .i64 (k:Int))).toNat
      simp[intOf]
      omega
    | false =>
     have HCP:=Hd (fun w1 (hi:IT w1 (.slice ax nx cx) c.chan)=>rcopy_any c (.slice ax nx cx) w1 hi (by have:=(HO.out c (List.mem_of_getElem? HC.out)).ch;omega))
     unfold clipGV at HCP
     obtain⟨CC,hCC⟩:=Xq ((clipG c (.slice ax nx cx)).toArray)
     rw[← hCC]at HCP
     have HCC:=Hd hCC
     clear hCC
     go_upto_region 8 with fail
     apply wp_region_lit
     iterate 12 go_step
     refine wpl_loadG HA.out rfl rfl rfl ?_
     rw[← HCC.out]
     simp only[Act.put,sA1,sB1,sC1]
     iterate 2 go_step
     refine(HCP.out _ HX.out).mono ?_
     rintro e w5 ⟨x2,rfl,hch,hb⟩
     replace HOT:=Hd (HOT.out.below hb)
     replace HB:=Tb HB hb
     obtain⟨C2,hC2⟩:=Xq ((clipG c x2).toArray)
     rw[← hC2]
     have HC2:=Hd hC2
     have HCH:=Hd hch
     clear hb hC2 hch
     dsimp only
     go_step
     have hsn:Trk.pk (l.take (k+1))=Trk.pk (l.take k)++[c]:=by
      rw[List.take_add_one,HC.out]
      show Trk.pk (l.take k++[c])=_
      rw[Trk.pk_snoc]
      unfold Trk.snoc
      have h:=HTV.out
      cases hp:(Trk.pk (l.take k)).getLast? with
      |none=>
       have e0:Trk.pk (l.take k)=[]:=List.getLast?_eq_none_iff.1 hp
       rw[e0]
       rfl
      |some p=>
       rw[hp]at h
       simp only
       rw[if_neg (of_decide_eq_false h.symm)]
     have HSN:=Hd hsn
     have hG':Trk.GoodL (l.take k):=fun x hx=>HG.out x (List.mem_of_mem_take hx)
     have hqn:(Trk.pk (l.take k)).length+1≤1048576:=by
      have:=(Trk.pk_of hG').n
      simp only[List.length_take]at this
      omega
     clear hsn hG'
     refine Great.wpList_buildSliceTo rfl 23 48 1 #[(0,.tmp 50)] rfl w5.heap.size rfl _ rfl Tryz.underlying23 C2 ?_ ?_
     ·simp only[List.map_toArray,List.map_cons,List.map_nil,List.toList_toArray]
      rw[HC2.out]
      exact built_clipG c x2
     have hb:Below w5.heap.size w5 (w5.alloc (.cells C2 48)):=below_box _ _
     have hbx:TG (w5.alloc (.cells C2 48)) 0 (.slice (some ⟨w5.heap.size,0,none⟩) 1 1) [c]:=by rw[HC2.out];exact(GB.box w5 c x2).tg (HCH.out.below (below_box _ _))
     replace HOT:=Hd (HOT.out.below hb)
     replace HB:=Tb HB hb
     clear hb
     simp only[Act.put,sA1,sB1,sC1]
     refine wpList_appG _ 23 23 Tryz.underlying23 Tryz.underlying23 rfl (.tmp 45) (.tmp 51) rfl w.heap.size 0 (.slice av vn acap) _ (Trk.pk (l.take k)) [c] rfl rfl HOT.out HB.out.size (Nat.zero_le _) hbx (by simpa using hqn) ?_
     intro v' w6 r1 r2 r3 r4
     simp only[Act.put,sA1,sB1,sC1]
     rw[← HSN.out]at r1
     have HR:=Hd r1
     replace HB:=Hd (HB.out.trans r2)
     clear r1 r2 r3 r4 hbx
     go_wp2_with fail
     go_roundw
     case rel=>
      exact⟨k+1,by omega,by simp,HR.out,HB.out⟩
     case measure=>
      show L-(intOf (.int .i64 ((k:Int)+1))).toNat<L-(intOf (.int .i64 (k:Int))).toNat
      simp[intOf]
      omega
  have hkl:k=L:=by omega
  have e:l.take k=l:=List.take_of_length_le (by rw[← HLe.out];omega)
  rw[e]at ho
  have HOT:=Hd ho
  have HB:=Hd hb
  clear ho hb e
  subst hkl
  go_wp2_with fail
  go_ret
  exact⟨_,rfl,HOT.out,HB.out⟩
end Go.Proofs.YtfoohocgdcgbcaaGreat
namespace Go.Trk
def pcs (c:Clip) (o f t:Int):List Clip:=if max f o<min t (o+c.len) then[withLen (shift c (max f o-o)) (min t (o+c.len)-max f o)] else[]
def rpA:List Clip→Int→Int→Int→List Clip
 |[],_,_,_=>[]
 |c::l,o,f,t=>pcs c o f t++rpA l (o+c.len) f t
theorem rpA_snoc:∀ (l:List Clip) (c:Clip) (o f t:Int),rpA (l++[c]) o f t=rpA l o f t++pcs c (o+total l) f t
 |[],c,o,f,t=>by
  show pcs c o f t++[]=[]++pcs c (o+0) f t
  rw[Int.add_zero,List.append_nil,List.nil_append]
 |d::l,c,o,f,t=>by
  show pcs d o f t++rpA (l++[c]) (o+d.len) f t=(pcs d o f t++rpA l (o+d.len) f t)++pcs c (o+(d.len+total l)) f t
  rw[rpA_snoc l c,List.append_assoc,Int.add_assoc]
theorem cutRaw_stop:∀ (l:List Clip) (f:Int) {n:Int},n≤0→cutRaw l f n=[]
 |[],f,n,h=>by unfold cutRaw;rw[if_neg (by omega)]
 |c::l,f,n,h=>by unfold cutRaw;rw[if_pos h]
theorem rpA_cut:∀ {l:List Clip} {o f t:Int},GoodL l→t≤o+total l→rpA l o f t=cutRaw l (max f o-o) (t-max f o)
 |[],o,f,t,_,ht=>by
  rw[cutRaw_stop _ _ (by have:total ([]:List Clip)=0:=rfl;omega)]
  rfl
 | c :: l, o, f, t, hg, ht => by
  have hc:=hg.head.l
  have et:total (c::l)=c.len+total l:=rfl
  rw[et]at ht
  have ih:=rpA_cut (o:=o+c.len) (f:=f) (t:=t) hg.tail (by omega)
  show pcs c o f t++rpA l (o+c.len) f t=_
  rw[ih]
  unfold pcs
  by_cases h0:t≤max f o
  ·rw[cutRaw_stop _ _ (by omega),cutRaw_stop _ _ (by omega),if_neg (by omega)]
   rfl
  by_cases h1:c.len≤max f o-o
  ·rw[if_neg (by omega)]
   conv=>rhs;unfold cutRaw
   rw[if_neg (by omega),if_pos h1,show max f (o+c.len)-(o+c.len)=max f o-o-c.len by omega,show t-max f (o+c.len)=t-max f o by omega]
   rfl
  rw[if_pos (by omega)]
  conv=>rhs;unfold cutRaw
  rw[if_neg (by omega),if_neg h1]
  rw[List.singleton_append,show min t (o+c.len)-max f o=min (c.len-(max f o-o)) (t-max f o) by omega,show max f (o+c.len)-(o+c.len)=0 by omega]
  congr 1
  by_cases h2:o+c.len≤t
  ·congr 1
   omega
  rw[cutRaw_stop _ _ (by omega),cutRaw_stop _ _ (by omega)]
theorem rpA_mem:∀ {l:List Clip} {o f t:Int} {c:Clip},c∈rpA l o f t→∃ d∈l,∃ g m,c=withLen (shift d g) m∧0≤g∧1≤m∧g+m≤d.len
 |[],o,f,t,c,h=>by cases h
 | d :: l, o, f, t, c, h => by
  rcases List.mem_append.1 (show c∈pcs d o f t++rpA l (o+d.len) f t from h) with h |h
  ·unfold pcs at h
   split at h
   ·exact⟨d,List.mem_cons_self,_,_,List.mem_singleton.1 h,by omega,by omega,by omega⟩
   cases h
  obtain⟨e,he,r⟩:=rpA_mem h
  exact⟨e,List.mem_cons_of_mem _ he,r⟩
theorem rpA_length:∀ (l:List Clip) (o f t:Int),(rpA l o f t).length≤l.length
 |[],o,f,t=>Nat.le_refl _
 | d :: l, o, f, t => by
  have h:=rpA_length l (o+d.len) f t
  show(pcs d o f t++rpA l (o+d.len) f t).length≤l.length+1
  rw[List.length_append]
  have:(pcs d o f t).length≤1:=by
   unfold pcs
   split
   ·exact Nat.le_refl _
   exact Nat.zero_le _
  omega
theorem pk_from (l:List Clip):∀ c∈pk l,∃ d∈l,∃ n,c=withLen d n:=by
 refine list_snoc (P:=fun l=>∀ c∈pk l,∃ d∈l,∃ n,c=withLen d n) (fun c h=>by cases h) (fun l x ih c hc=>?_) l
 rw[pk_snoc]at hc
 have hx:∃ d∈l++[x],∃ n,x=withLen d n:=⟨x,by simp,x.len,rfl⟩
 have hi:∀ c∈pk l,∃ d∈l++[x],∃ n,c=withLen d n:=fun c hc=>by
  obtain⟨d,hd,r⟩:=ih c hc
  exact⟨d,List.mem_append_left _ hd,r⟩
 unfold snoc at hc
 cases hl:(pk l).getLast? with
 |none=>rw[hl]at hc;rw[List.mem_singleton.1 hc];exact hx
 | some p =>
  rw[hl]at hc
  simp only at hc
  split at hc
  ·rcases List.mem_append.1 hc with hc |hc
   ·exact hi c (mem_drop_last hc)
   obtain⟨d,hd,n,e⟩:=hi p (by rw[getLast_split hl];simp)
   rw[List.mem_singleton.1 hc,e]
   exact⟨d,hd,_,rfl⟩
  rcases List.mem_append.1 hc with hc |hc
  ·exact hi c hc
  rw[List.mem_singleton.1 hc];exact hx
theorem pk_head (l:List Clip):∀ c,∃ n r,pk (c::l)=withLen c n::r:=by
 refine list_snoc (P:=fun l=>∀ c,∃ n r,pk (c::l)=withLen c n::r) (fun c=>⟨c.len,[],rfl⟩) (fun l x ih c=>?_) l
 obtain⟨n,r,e⟩:=ih c
 rw[show c::(l++[x])=(c::l)++[x] from rfl,pk_snoc,e]
 unfold snoc
 rcases List.eq_nil_or_concat r with rfl |⟨r',p,rfl⟩
 ·simp only[List.getLast?_singleton]
  split
  ·exact⟨_,[],rfl⟩
  exact⟨_,[x],rfl⟩
 rw[List.concat_eq_append,show withLen c n::(r'++[p])=(withLen c n::r')++[p] from rfl,List.getLast?_concat]
 simp only
 split
 ·rw[List.dropLast_concat]
  exact⟨n,_,rfl⟩
 exact⟨n,_,rfl⟩
end Go.Trk
namespace Go.Proofs.YtfoohocgdcgbcaaGreat
open Go.RowKit
theorem rpA_part {l:List Trk.Clip} (hg:Trk.GoodL l) {f t:Int} (f0:0≤f) (ft:f≤t) (t1:t≤Trk.total l):Trk.pk (Trk.rpA l 0 f t)=partL l f t:=by
 rw[Trk.rpA_cut hg (by omega),show max f 0-0=f by omega,show max f 0=f by omega]
 unfold partL
 split
 ·rename_i h
  rw[Trk.cutRaw_stop _ _ (by omega)]
  rfl
 rfl
structure RC (c:Trk.Clip):Prop where
 o:OkG c
 i:InC c
theorem InS.rough {s:Trk.Src} (hi:InS s) {n:Int} (hw:Trk.OkW 8796093022208 (Trk.moved s n)):InS (Trk.moved s n):=by
 rcases hw with e |hw
 ·rw[e];exact black_ins
 have:=hw.bounds
 exact⟨by rw[Trk.moved_kind];exact hi.k0,by rw[Trk.moved_kind];exact hi.k1,by rw[Trk.moved_name];exact hi.n,by omega,by omega,by omega,by omega,by omega,by omega,by omega,by omega⟩
theorem VG.rough {d:Trk.Clip} (h:VG d) {g m:Int} (g0:0≤g) (m0:1≤m) (hm:g+m≤d.len):RC (Trk.withLen (Trk.shift d g) m):=by
 have l1:=h.l1
 have ho:=h.off
 have ha:Trk.OkW 8796093022208 (Trk.moved d.a g):=(h.a.okw.moved g (N:=2147483648) (by omega)).mono (by decide)
 have hb:Trk.OkW 8796093022208 (Trk.moved d.b g):=(h.b.okw.moved g (N:=2147483648) (by omega)).mono (by decide)
 refine⟨⟨(h.good.shift g).withLen m0,ha,hb,h.ch.1,show m≤_ by omega,?_⟩,⟨h.a.ins.rough ha,h.b.ins.rough hb,h.inc.t⟩⟩
 show(if Trk.shares d.kind=true then d.off+g else d.off).natAbs≤_
 split<;>omega
def RCL (l:List Trk.Clip):Prop:=∀ c∈l,RC c
theorem RCL.ogl {l:List Trk.Clip} (h:RCL l):OGL l:=fun c hc=>(h c hc).o
theorem RCL.good {l:List Trk.Clip} (h:RCL l):Trk.GoodL l:=h.ogl.good
theorem rpA_rcl {l:List Trk.Clip} (h:VGL l) (o f t:Int):RCL (Trk.rpA l o f t):=fun c hc=>by
 obtain⟨d,hd,g,m,rfl,g0,m0,hm⟩:=Trk.rpA_mem hc
 exact(h d hd).rough g0 m0 hm
theorem pk_rcl {l:List Trk.Clip} (h:RCL l) (ht:Trk.total l≤4294967295):RCL (Trk.pk l):=fun c hc=>by
 obtain⟨d,hd,n,e⟩:=Trk.pk_from l c hc
 have hi:=(h d hd).i
 exact⟨pk_okg h.ogl ht c hc,by rw[e];exact⟨hi.a,hi.b,hi.t⟩⟩
theorem rpA_total {l:List Trk.Clip} (hg:Trk.GoodL l) {f t:Int} (f0:0≤f) (ft:f≤t) (t1:t≤Trk.total l):Trk.total (Trk.rpA l 0 f t)=t-f:=by
 rw[Trk.rpA_cut hg (by omega),show max f 0-0=f by omega,show max f 0=f by omega]
 exact(Trk.cutRaw_spec hg f0 (by omega)).2.1
theorem partL_rcl {l:List Trk.Clip} (h:TV l) {f t:Int} (f0:0≤f) (ft:f≤t) (t1:t≤Trk.total l):RCL (partL l f t):=by
 rw[← rpA_part h.good f0 ft t1]
 exact pk_rcl (rpA_rcl h.l 0 f t) (by rw[rpA_total h.good f0 ft t1];have:=h.t;omega)
theorem cutRaw_first:∀ {l:List Trk.Clip} {f n:Int},VGL l→0≤f→0<n→f<Trk.total l→∃ c∈l,∃ g m r,Trk.cutRaw l f n=Trk.withLen (Trk.shift c g) m::r∧(okCut l f↔PlOK (Trk.moved c.a g)∧PlOK (Trk.moved c.b g))∧g.natAbs≤4294967296
 |[],f,n,_,f0,_,f1=>by
  have:Trk.total ([]:List Trk.Clip)=0:=rfl
  omega
 | c :: l, f, n, h, f0, n0, f1 => by
  have et:Trk.total (c::l)=c.len+Trk.total l:=rfl
  rw[et]at f1
  have hc:=h c List.mem_cons_self
  have c1:=hc.l1
  unfold Trk.cutRaw okCut
  rw[if_neg (by omega)]
  by_cases hf:c.len≤f
  ·rw[if_pos hf,if_pos hf]
   obtain⟨d,hd,r⟩:=cutRaw_first (l:=l) (f:=f-c.len) (h.sub fun x hx=>List.mem_cons_of_mem _ hx) (by omega) n0 (by omega)
   exact⟨d,List.mem_cons_of_mem _ hd,r⟩
  rw[if_neg hf,if_neg hf]
  exact⟨c,List.mem_cons_self,f,_,_,rfl,Iff.rfl,by omega⟩
theorem part_in {l:List Trk.Clip} (h:TV l) {a b:Int} (a0:0≤a) (ab:a≤b) (b1:b≤Trk.total l):VGL (partL l a b)↔partE l a b=0:=by
 have ht:=h.t
 by_cases e:a=b
 ·subst e
  unfold partL partE
  rw[if_pos rfl,if_pos (.inl rfl)]
  exact⟨fun _=>rfl,fun _=>VGL.nil⟩
 have hp:partE l a b=0↔okCut l a:=by
  unfold partE
  by_cases ho:okCut l a
  ·rw[if_pos (.inr ho)]
   exact⟨fun _=>ho,fun _=>rfl⟩
  rw[if_neg (fun h=>h.elim e ho)]
  exact⟨fun h=>absurd h (by decide),fun h=>absurd h ho⟩
 rw[hp]
 unfold partL
 rw[if_neg e]
 refine⟨fun hv=>?_,fun ho=>cut_vg h.l a0 ab (by omega) ho⟩
 obtain⟨c,hc,g,m,r,e1,e2,hg⟩:=cutRaw_first (n:=b-a) h.l a0 (by omega) (by omega)
 obtain⟨n,r',e3⟩:=Trk.pk_head r (Trk.withLen (Trk.shift c g) m)
 have hx:=hv (Trk.withLen (Trk.withLen (Trk.shift c g) m) n) (by unfold Trk.cut;rw[e1,e3];exact List.mem_cons_self)
 have hv:=h.l c hc
 exact e2.2 ⟨(hv.a.moved g hg).1 hx.a,(hv.b.moved g hg).1 hx.b⟩
theorem requal_any (C1 C2:Nat) (v u:Value) (l m:List Trk.Clip) (w:World) (h:TG w C1 v l) (h':TG w C2 u m) :
  Calls Tryz.prog 19 #[v,u] w fun e w'=>e=.returned (.bool (decide (l=m)))∧Below w.heap.size w w':=by
 obtain⟨ao,cap,rfl,hc1,hc2,hT⟩:=h
 obtain⟨bo,dap,rfl,hd1,hd2,hU⟩:=h'
 have HT:=Hd (show TG w C1 (.slice ao l.length cap) l from⟨ao,cap,rfl,hc1,hc2,hT⟩)
 have HU:=Hd (show TG w C2 (.slice bo m.length dap) m from⟨bo,dap,rfl,hd1,hd2,hU⟩)
 clear hT hU
 obtain⟨N,hN⟩:=Xq (l.length)
 obtain⟨M,hM⟩:=Xq (m.length)
 rw[← hN]at hc1
 rw[← hM]at hd1
 have hNm:N≤9223372036854775807:=Nat.le_trans hc1 (by unfold maxLen at hc2;omega)
 have HLe:=Hd hN
 have HMe:=Hd hM
 rw[← hN,← hM]
 clear hN hM hc2 hd2
 obtain⟨r,hr⟩:=Xq (decide (l=m))
 rw[← hr]
 have HR:=Hd hr
 clear hr
 by_cases hNM:N=M
 rotate_left
 ·have hNM':((N:Int) != (M:Int))=true:=by
   have:(N:Int)≠(M:Int):=by omega
   simpa using this
  have hrf:r=false:=by rw[HR.out];exact decide_eq_false fun e=>hNM (by rw[HLe.out,HMe.out,e])
  subst hrf
  clear hNM
  go_enter Tryz.func19,Tryz.ntmps19
  go_wp2_with fail
  go_ret
  exact⟨rfl,Below.refl _ _⟩
 subst hNM
 go_enter Tryz.func19,Tryz.ntmps19
 go_wp2_with fail
 go_loopw [5] (fun v5 wr=>∃ k:Nat,k≤N∧v5=.int .i64 (k:Int)∧l.take k=m.take k∧Below w.heap.size w wr) (fun i _=>N-(intOf i).toNat)
 case atStart=>exact⟨0,Nat.zero_le _,rfl,by simp,Below.refl _ _⟩
 case round=>
  obtain⟨k,hk,rfl,hpre,hb⟩:=hrel
  have HP:=Hd hpre
  clear hpre
  by_cases hlt:k<N
  ·have hlt':(k:Int)<(N:Int):=by omega
   have hkl:k<l.length:=by rw[← HLe.out];exact hlt
   obtain⟨c,hc⟩:∃ c,l[k]?=some c:=⟨_,List.getElem?_eq_getElem hkl⟩
   obtain⟨d,hd⟩:∃ d,m[k]?=some d:=⟨_,List.getElem?_eq_getElem (by rw[← HMe.out];exact hlt)⟩
   have HCD:=Hd (And.intro hc hd)
   obtain⟨ao',cap',e,_,_,hT⟩:=HT.out.below hb
   simp only[Value.slice.injEq,true_and]at e
   obtain⟨rfl,rfl⟩:=e
   obtain⟨b,o,x,rfl,hA,hX⟩:=hT k c hc
   obtain⟨ax,cx,ex⟩:=hX.form
   obtain⟨nx,hnx⟩:=Xq (c.chan.length)
   rw[← hnx]at ex
   subst ex
   obtain⟨bo',dap',e,_,_,hU⟩:=HU.out.below hb
   simp only[Value.slice.injEq,true_and]at e
   obtain⟨rfl,rfl⟩:=e
   obtain⟨b2,o2,y,rfl,hA2,hY⟩:=hU k d hd
   obtain⟨ay,cy,ey⟩:=hY.form
   obtain⟨ny,hny⟩:=Xq (d.chan.length)
   rw[← hny]at ey
   subst ey
   have HIX:=Hd (And.intro hX.it hY.it)
   have HA:=Hd hA
   have HA2:=Hd hA2
   have HB:=Hd hb
   have HSC:=Hd (fun(w1:World) (h1:IT w1 (.slice ax nx cx) c.chan) (h2:IT w1 (.slice ay ny cy) d.chan)=>rsameclip_any c d _ _ w1 h1 h2)
   unfold clipGV at HSC
   obtain⟨C,hC⟩:=Xq ((clipG c (.slice ax nx cx)).toArray)
   obtain⟨D,hD⟩:=Xq ((clipG d (.slice ay ny cy)).toArray)
   rw[← hC,← hD]at HSC
   have HC:=Hd hC
   have HD:=Hd hD
   clear hT hU hA hA2 hb hc hd hkl hC hD hX hY hnx hny
   go_upto_region 6 with fail
   refine Plan.wp_region_plan (fun w'=>GA w' b (o+k*22) c (.slice ax nx cx)∧GA w' b2 (o2+k*22) d (.slice ay ny cy)) (([0,1,2,3,4,5,6,7].map (·,true))++(([8].map (·,false))++([9].map (·,true)))) (by kernel_rfl) (by kernel_rfl) (by kernel_rfl) ⟨HA.out.below (Below.refl _ _).drew,HA2.out.below (Below.refl _ _).drew⟩ ?_
   refine' Plan.plan_seg _ [0,1,2,3,4,5,6,7] (([8].map (·,false))++([9].map (·,true))) (by kernel_rfl) (by kernel_rfl) rfl (by exact⟨HA.out.below (Below.refl _ _).drew,HA2.out.below (Below.refl _ _).drew⟩) (fun wx hS=>?_) ?_
   rotate_left
   ·obtain⟨S1,S2⟩:=hS
    have HS1:=Hd S1
    have HS2:=Hd S2
    clear S1 S2
    go_light
    iterate 3 (apply Plan.seg_pick;rfl;intro K hK;go_wp)
    (apply Plan.seg_pick;rfl;intro K hK)
    refine wpl_loadG HS1.out rfl rfl rfl ?_
    rw[← HC.out]
    go_wp
    iterate 3 (apply Plan.seg_pick;rfl;intro K hK;go_wp)
    (apply Plan.seg_pick;rfl;intro K hK)
    refine wpl_loadG HS2.out rfl rfl rfl ?_
    rw[← HD.out]
    go_wp
    exact Plan.seg_nil
   obtain⟨w4,hw4⟩:=Xq (wr.drew)
   rw[← hw4]
   have hb:Below wr.heap.size wr w4:=by rw[hw4];exact(Below.refl _ _).drew
   replace HA:=Hd (HA.out.below hb)
   replace HA2:=Hd (HA2.out.below hb)
   replace HIX:=Hd (And.intro (HIX.out.1.below hb) (HIX.out.2.below hb))
   replace HB:=Tb HB hb
   clear hb hw4
   refine Plan.plan_of_effect rfl (fun K hK=>?_)
   go_wp2_with fail
   refine(HSC.out _ HIX.out.1 HIX.out.2).mono ?_
   rintro e w5 ⟨rfl,hb⟩
   replace HA:=Hd (HA.out.below hb)
   replace HA2:=Hd (HA2.out.below hb)
   replace HIX:=Hd (And.intro (HIX.out.1.below hb) (HIX.out.2.below hb))
   replace HB:=Tb HB hb
   clear hb
   go_wp2_with fail
   refine⟨⟨HA.out,HA2.out⟩,?_⟩
   refine' Plan.plan_seg _ [9] [] (by kernel_rfl) (by kernel_rfl) rfl (by exact⟨HA.out,HA2.out⟩) (fun wx hS=>?_) ?_
   rotate_left
   ·clear hS
    go_light
    iterate 1 (apply Plan.seg_pick;rfl;intro K hK;go_wp)
    exact Plan.seg_nil
   refine Plan.plan_done ?_
   by_cases hcd:c=d
   ·have hdec:decide (c=d)=true:=decide_eq_true hcd
    have HE:=Hd hcd
    clear hcd
    rw[hdec]
    go_wp2_with fail
    go_roundw
    case rel=>exact⟨k+1,by omega,by simp,take_eq HCD.out.1 (by rw[HCD.out.2,HE.out]) HP.out,HB.out⟩
    case measure=>
     show N-(intOf (.int .i64 ((k:Int)+1))).toNat<N-(intOf (.int .i64 (k:Int))).toNat
     simp[intOf]
     omega
   have hdec:decide (c=d)=false:=decide_eq_false hcd
   rw[hdec]
   have hrf:r=false:=by rw[HR.out];exact decide_eq_false (take_ne HCD.out.1 HCD.out.2 hcd)
   subst hrf
   clear hcd
   go_wp2_with fail
   go_ret
   exact⟨rfl,HB.out⟩
  have hkl:k=N:=by omega
  have hrt:r=true:=by
   rw[HR.out]
   refine decide_eq_true ?_
   have h1:=HP.out
   rw[List.take_of_length_le (by have:=HLe.out;omega),List.take_of_length_le (by have:=HMe.out;omega)]at h1
   exact h1
  subst hrt
  have HB:=Hd hb
  clear hb
  subst hkl
  go_wp2_with fail
  go_ret
  exact⟨rfl,HB.out⟩
theorem rtrackg_any (C:Nat) (v:Value) (l:List Trk.Clip) (w:World) (h:TG w C v l) (hi:∀ c∈l,InC c):Calls Tryz.prog 51 #[v] w fun e w'=>e=.returned (.bool (trackB l))∧Below w.heap.size w w':=
 rtrack_all v l w (h.gt hi) rclip_says
theorem rtrack_yes (C:Nat) (v:Value) (l:List Trk.Clip) (w:World) (h:TG w C v l) (hV:TV l):Calls Tryz.prog 51 #[v] w fun e w'=>e=.returned (.bool true)∧Below w.heap.size w w':=by
 have:=rtrackg_any C v l w h hV.inc
 rw[trackB_iff.2 hV]at this
 exact this
theorem rclean_any (C:Nat) (v:Value) (l:List Trk.Clip) (w:World) (h:TG w C v l) (hO:∀ c∈l,OkG c) (hl:l.length≤1048575) (ht:Trk.total l≤4294967295) :
  Calls Tryz.prog 58 #[v] w (OGPost w (Trk.nf l)):=by
 have HT:=Hd h
 have H1:=Hd (fun w (h:TG w C v l)=>rpack100_any C v l w h hO (by omega) ht)
 have hn:(Trk.pk l).length≤1048575:=Nat.le_trans (Trk.pk_of (OGL.good hO)).n hl
 unfold Trk.nf
 obtain⟨P,hP⟩:=Xq (Trk.pk l)
 rw[← hP]at H1 hn ⊢
 clear h hO hl ht hP
 go_enter Tryz.func58,Tryz.ntmps58
 go_wp2_with fail
 refine(H1.out _ HT.out).mono ?_
 rintro e w1 ⟨v',rfl,ho,hb⟩
 have HB:=Hd hb
 have HO:=Hd ho
 clear hb ho
 obtain⟨rfl,rfl⟩ |⟨g,cap,rfl⟩:=HO.out.shape
 ·go_wp2_with fail
  go_ret
  exact⟨_,rfl,HO.out,HB.out⟩
 cases hp:P.getLast? with
 |none=>
  have e0:P=[]:=List.getLast?_eq_none_iff.1 hp
  subst e0
  clear hp
  simp only[List.length_nil]
  go_wp2_with fail
  go_ret
  exact⟨_,rfl,HO.out,HB.out⟩
 | some p =>
  have hs:=Trk.getLast_split hp
  have HD:=Hd (show Trk.dropGap P=if p.kind=0 then P.dropLast else P by unfold Trk.dropGap;rw[hp])
  obtain⟨q,hq⟩:=Xq (P.dropLast)
  rw[← hq]at hs HD
  clear hp hq
  subst hs
  have hlen:(q++[p]).length=q.length+1:=by simp
  rw[hlen]at hn HO ⊢
  obtain⟨xp,hcp,-⟩:=HO.out.cell (i:=q.length) (c:=p) (by simp)
  have HCP:=Hd hcp
  have HDR:=Hd HO.out.drop
  obtain⟨n,hn2⟩:=Xq (q.length)
  rw[← hn2]at hn HO HCP HDR ⊢
  have hcap:n+1≤cap:=HO.out.blk.2.2.1
  have z1:=HCP.out.k1
  clear hlen hcp hn2 HT H1 HCP
  by_cases hk:p.kind=0
  ·have HR:=Hd (HD.out.trans (if_pos hk))
   rw[hk]at z1
   clear hk HD
   go_wp2_with fail
   go_ret
   rw[HR.out]
   exact⟨_,rfl,HDR.out,HB.out⟩
  have HR:=Hd (HD.out.trans (if_neg hk))
  clear HD
  go_wp2_with fail
  go_ret
  rw[HR.out]
  exact⟨_,rfl,HO.out,HB.out⟩
theorem rnormal_any (C:Nat) (v:Value) (l:List Trk.Clip) (w:World) (h:TG w C v l) (hV:TV l) :
  Calls Tryz.prog 53 #[v] w (OGPost w (Trk.nf l)):=by
 have HT:=Hd h
 have H1:=Hd (fun w (h:TG w C v l)=>rtrack_yes C v l w h hV)
 have H2:=Hd (fun w (h:TG w C v l)=>rclean_any C v l w h hV.okg (by have:=hV.n;omega) (by have:=hV.t;omega))
 unfold OGPost at H2 ⊢
 clear h hV
 go_enter Tryz.func53,Tryz.ntmps53
 go_wp2_with fail
 refine(H1.out _ HT.out).mono ?_
 rintro e w1 ⟨rfl,hb⟩
 have HB:=Hd hb
 clear hb
 go_wp2_with fail
 refine(H2.out _ (HT.out.below HB.out)).mono ?_
 rintro e w2 ⟨v',rfl,ho,hb⟩
 have HO:=Hd (ho.lower HB.out.size)
 have HB2:=Tb HB hb
 clear hb ho
 go_wp2_with fail
 go_ret
 exact⟨_,rfl,HO.out,HB2.out⟩
theorem rsame_any (C1 C2:Nat) (v u:Value) (l m:List Trk.Clip) (w:World) (h:TG w C1 v l) (h':TG w C2 u m) (hl:TV l) (hm:TV m) :
  Calls Tryz.prog 52 #[v,u] w fun e w'=>e=.returned (.bool (decide (Trk.nf l=Trk.nf m)))∧Below w.heap.size w w':=by
 have HT:=Hd h
 have HU:=Hd h'
 have HV1:=Hd (fun(w:World) (h:TG w C1 v l)=>rtrack_yes C1 v l w h hl)
 have HV2:=Hd (fun(w:World) (h:TG w C2 u m)=>rtrack_yes C2 u m w h hm)
 have HN1:=Hd (fun(w:World) (h:TG w C1 v l)=>rnormal_any C1 v l w h hl)
 have HN2:=Hd (fun(w:World) (h:TG w C2 u m)=>rnormal_any C2 u m w h hm)
 have HEQ:=Hd (fun(a b:Value) (w:World) (h:TG w 0 a (Trk.nf l)) (h':TG w 0 b (Trk.nf m))=>requal_any 0 0 a b _ _ w h h')
 obtain⟨ao,cap,rfl,-⟩:=h
 obtain⟨bo,dap,rfl,-⟩:=h'
 clear hl hm
 go_enter Tryz.func52,Tryz.ntmps52
 go_wp2_with fail
 refine(HV1.out w HT.out).mono ?_
 rintro e w1 ⟨rfl,hb⟩
 have HB:=Hd hb
 clear hb
 go_wp2_with fail
 refine(HV2.out w1 (HU.out.below HB.out)).mono ?_
 rintro e w2 ⟨rfl,hb⟩
 replace HB:=Tb HB hb
 clear hb
 go_wp2_with fail
 refine(HN1.out w2 (HT.out.below HB.out)).mono ?_
 rintro e w3 ⟨r1,rfl,ho,hb⟩
 replace HB:=Tb HB hb
 have HO:=Hd ho.tg
 clear hb ho
 go_wp2_with fail
 refine(HN2.out w3 (HU.out.below HB.out)).mono ?_
 rintro e w4 ⟨r2,rfl,ho,hb⟩
 replace HB:=Tb HB hb
 replace HO:=Hd (HO.out.below hb)
 have HO2:=Hd ho.tg
 clear hb ho
 go_wp2_with fail
 refine(HEQ.out r1 r2 w4 HO.out HO2.out).mono ?_
 rintro e w5 ⟨rfl,hb⟩
 replace HB:=Tb HB hb
 clear hb
 go_wp2_with fail
 go_ret
 exact⟨rfl,HB.out⟩
theorem rlength_any (C:Nat) (v:Value) (l:List Trk.Clip) (w:World) (h:TG w C v l) (hV:TV l) :
  Calls Tryz.prog 56 #[v] w fun e w'=>e=.returned (.int .i64 (Trk.total l))∧Below w.heap.size w w':=by
 have hG:=hV.good
 have ht:Trk.total l≤4611686018427387904:=by have:=hV.t;omega
 have hl:l.length≤1048576:=by have:=hV.n;omega
 have H1:=Hd (fun w (h:TG w C v l)=>rtrack_yes C v l w h hV)
 clear hV
 obtain⟨ao,cap,rfl,hc1,hc2,hT⟩:=h
 have HT:=Hd (show TG w C (.slice ao l.length cap) l from⟨ao,cap,rfl,hc1,hc2,hT⟩)
 clear hT
 have HG:=Hd hG
 have HTT:=Hd ht
 obtain⟨L,hL⟩:=Xq (l.length)
 rw[← hL]at hl hc1 H1 HT
 have HLe:=Hd hL
 rw[← hL]
 clear hG ht hL hc2
 go_enter Tryz.func56,Tryz.ntmps56
 go_wp2_with fail
 refine(H1.out _ HT.out).mono ?_
 rintro e w1 ⟨rfl,hb⟩
 have HB1:=Hd hb
 clear hb
 go_wp2_with fail
 go_loopw [3,4] (fun v3 v4 wr=>∃ k:Nat,k≤L∧v4=.int .i64 (k:Int)∧v3=.int .i64 (Trk.total (l.take k))∧Below w.heap.size w wr) (fun _ i _=>L-(intOf i).toNat)
 case atStart=>exact⟨0,Nat.zero_le _,rfl,rfl,HB1.out⟩
 case round=>
  obtain⟨k,hk,rfl,rfl,hb⟩:=hrel
  by_cases hlt:k<L
  ·have hlt':(k:Int)<(L:Int):=by omega
   have hkl:k<l.length:=by rw[← HLe.out];exact hlt
   obtain⟨c,hc⟩:∃ c,l[k]?=some c:=⟨_,List.getElem?_eq_getElem hkl⟩
   obtain⟨ao',cap',e,_,_,hT⟩:=HT.out.below hb
   simp only[Value.slice.injEq]at e
   obtain⟨rfl,-,rfl⟩:=e
   obtain⟨b,o,x,rfl,hA,hx⟩:=hT k c hc
   obtain⟨ax,cx,ex⟩:=hx.form
   obtain⟨nx,hnx⟩:=Xq (c.chan.length)
   rw[← hnx]at ex
   subst ex
   clear hT hnx hx
   have hn:Trk.total (l.take (k+1))=Trk.total (l.take k)+c.len:=by
    rw[List.take_add_one,hc]
    show Trk.total (l.take k++[c])=_
    rw[Trk.total_append]
    show _+(c.len+0)=_
    omega
   have h1:=total_take l HG.out (k+1)
   have h2:=Trk.total_nonneg (l:=l.take k) (fun x hx=>HG.out x (List.mem_of_mem_take hx))
   have h3:=(HG.out c (List.mem_of_getElem? hc)).l
   have h4:=HTT.out
   obtain⟨s,hs⟩:=Xq (Trk.total (l.take k))
   rw[← hs]at hn h2 ⊢
   have h5:s+c.len≤4611686018427387904:=by omega
   have HN:=Hd hn
   have HA:=Hd hA
   have HB:=Hd hb
   have HC:=Hd hc
   clear hA hb hc hkl hn h1 h4 hs
   have x0:=HA.out.k0
   go_wp2_with fail
   go_roundw
   case rel=>exact⟨k+1,by omega,by simp,by rw[HN.out],HB.out⟩
   case measure=>
    show L-(intOf (.int .i64 ((k:Int)+1))).toNat<L-(intOf (.int .i64 (k:Int))).toNat
    simp[intOf]
    omega
  have hkl:k=L:=by omega
  have e:l.take k=l:=List.take_of_length_le (by rw[← HLe.out];omega)
  rw[e]
  have HB:=Hd hb
  clear hb e
  subst hkl
  go_wp2_with fail
  go_ret
  exact⟨rfl,HB.out⟩
theorem rfind_any (D:Nat) (v:Value) (l:List Trk.Clip) (n:Int) (w:World) (h:TG w D v l) (hV:TV l) (n0:0≤n) (n1:n<Trk.total l) :
  Calls Tryz.prog 141 #[v,.int .i64 n] w fun e w'=>e=.returned (findV (findL l n 0))∧Below w.heap.size w w':=by
 have H1:=Hd (fun w (h:TG w D v l)=>rlength_any D v l w h hV)
 have htt:=hV.t
 obtain⟨ao,cap,rfl,hc1,hc2,hT⟩:=h
 have HT:=Hd (show TG w D (.slice ao l.length cap) l from⟨ao,cap,rfl,hc1,hc2,hT⟩)
 clear hT
 have HG:=Hd hV.c
 have hl:=hV.n
 obtain⟨R,hR⟩:=Xq (findV (findL l n 0))
 rw[← hR]
 have HR:=Hd hR
 clear hR
 obtain⟨N,hN⟩:=Xq (l.length)
 rw[← hN]at hl hc1 H1 HT
 have HLe:=Hd hN
 rw[← hN]
 clear hV hN hc2
 go_enter Tryz.func141,Tryz.ntmps141
 obtain⟨TT,hTT⟩:=Xq (Trk.total l)
 rw[← hTT]at n1 htt H1
 have HTT:=Hd hTT
 clear hTT
 have n2:¬TT≤n:=by omega
 go_wp2_with fail
 refine(H1.out _ HT.out).mono ?_
 rintro e w1 ⟨rfl,hb⟩
 have HB1:=Hd hb
 clear hb
 go_wp2_with fail
 go_loopw [1,7] (fun v1 v7 wr=>∃ (k:Nat) (r:Int),k≤N∧v7=.int .i64 (k:Int)∧v1=.int .i64 r∧0≤r∧r≤2147483647∧Hid (r<Trk.total (l.drop k))∧Hid (R=findV (findL (l.drop k) r k))∧Below w.heap.size w wr) (fun _ i _=>N-(intOf i).toNat)
 case atStart=>exact⟨0,n,Nat.zero_le _,rfl,rfl,n0,by omega,Hd (by rw[List.drop_zero,← HTT.out];exact n1),HR,HB1.out⟩
 case round=>
  obtain⟨k,r,hk,rfl,rfl,r0,r1,HRT,HQ,hb⟩:=hrel
  by_cases hlt:k<N
  ·have hlt':(k:Int)<(N:Int):=by omega
   have hkl:k<l.length:=by rw[← HLe.out];exact hlt
   obtain⟨c,hc⟩:∃ c,l[k]?=some c:=⟨_,List.getElem?_eq_getElem hkl⟩
   obtain⟨ao',cap',e,_,_,hT⟩:=HT.out.below hb
   simp only[Value.slice.injEq]at e
   obtain⟨rfl,-,rfl⟩:=e
   obtain⟨b,o,x,rfl,hA,hx⟩:=hT k c hc
   obtain⟨ax,cx,ex⟩:=hx.form
   obtain⟨nx,hnx⟩:=Xq (c.chan.length)
   rw[← hnx]at ex
   subst ex
   clear hT hx hnx
   have h3:=(HG.out c (List.mem_of_getElem? hc)).good.l
   have h4:=(HG.out c (List.mem_of_getElem? hc)).l1
   have HF:=Hd (HQ.out.trans (congrArg findV (findL_drop l n k hc r k)))
   have HA:=Hd hA
   have HB:=Hd hb
   have HC:=Hd hc
   clear hA hb hc hkl
   have HD:=Hd (show Trk.total (l.drop k)=c.len+Trk.total (l.drop (k+1)) by
    have hk1:k<l.length:=by rw[← HLe.out];exact hlt
    rw[List.drop_eq_getElem_cons hk1,Trk.total_cons]
    have e:=HC.out
    rw[List.getElem?_eq_getElem hk1]at e
    rw[Option.some.inj e])
   have x0:=HA.out.k0
   by_cases hr:r<c.len
   ·have HF2:=Hd (HF.out.trans (congrArg findV (if_pos hr)))
    go_wp2_with fail
    refine bodyPost_ret (v:=findV (some (k,r))) (by simp[results,Tryz.results141,go_sem,findV]) rfl ⟨?_,HB.out⟩
    rw[HF2.out]
   have HF2:=Hd (HF.out.trans (congrArg findV (if_neg hr)))
   go_wp2_with fail
   go_roundw
   case rel=>exact⟨k+1,r-c.len,by omega,by simp,rfl,by omega,by omega,Hd (by have h1:=HRT.out;rw[HD.out]at h1;omega),HF2,HB.out⟩
   case measure=>
    show N-(intOf (.int .i64 ((k:Int)+1))).toNat<N-(intOf (.int .i64 (k:Int))).toNat
    simp[intOf]
    omega
  have hkl:k=N:=by omega
  have e:l.drop k=[]:=List.drop_eq_nil_of_le (by rw[← HLe.out];omega)
  have h1:=HRT.out
  rw[e]at h1
  have h2:Trk.total ([]:List Trk.Clip)=0:=rfl
  omega
theorem rpart_any (D:Nat) (v:Value) (l:List Trk.Clip) (f t:Int) (w:World) (h:TG w D v l) (hV:TV l) (f0:0≤f) (ft:f≤t) (t1:t≤Trk.total l) :
  Calls Tryz.prog 55 #[v,.int .i64 f,.int .i64 t] w (OGPost w (partL l f t)):=by
 have HPK:=Hd (fun(u:Value) (w:World) (h:TG w 0 u (Trk.rpA l 0 f t))=>rpack99_any 0 u _ w h (rpA_rcl hV.l 0 f t).ogl (by have:=Trk.rpA_length l 0 f t;have:=hV.n;omega) (by rw[rpA_total hV.good f0 ft t1];have:=hV.t;omega))
 have HPL:=Hd (rpA_part hV.good f0 ft t1)
 unfold OGPost at HPK ⊢
 rw[← HPL.out]
 have tt:=hV.t
 have hn:=hV.n
 have HVV:=Hd hV
 have f1:f≤2147483647:=by omega
 have t2:t≤2147483647:=by omega
 have t0:0≤t:=by omega
 obtain⟨ao,cap,rfl,hc1,hc2,hT⟩:=h
 have HT:=Hd (show TG w D (.slice ao l.length cap) l from⟨ao,cap,rfl,hc1,hc2,hT⟩)
 clear hT
 obtain⟨L,hL⟩:=Xq (l.length)
 rw[← hL]at hn hc1 HT
 have HLe:=Hd hL
 rw[← hL]
 clear hV hL hc2 ft t1 HPL
 go_enter Tryz.func55,Tryz.ntmps55
 go_wp2_with fail
 go_loopw [7,8,9] (fun v7 v8 v9 wr=>∃ k:Nat,k≤L∧v9=.int .i64 (k:Int)∧v8=.int .i64 (Trk.total (l.take k))∧OG wr w.heap.size 0 v7 (Trk.rpA (l.take k) 0 f t)∧Below w.heap.size w wr) (fun _ _ i _=>L-(intOf i).toNat)
 case atStart=>exact⟨0,Nat.zero_le _,rfl,rfl,by rw[List.take_zero];exact OG.nil _ _ _,Below.refl _ _⟩
 case round=>
  obtain⟨k,hk,rfl,rfl,ho,hb⟩:=hrel
  by_cases hlt:k<L
  ·have hlt':(k:Int)<(L:Int):=by omega
   have hkl:k<l.length:=by rw[← HLe.out];exact hlt
   obtain⟨c,hc⟩:∃ c,l[k]?=some c:=⟨_,List.getElem?_eq_getElem hkl⟩
   obtain⟨ao',cap',e,_,_,hT⟩:=HT.out.below hb
   simp only[Value.slice.injEq]at e
   obtain⟨rfl,-,rfl⟩:=e
   obtain⟨b,o,x,rfl,hA,hX⟩:=hT k c hc
   obtain⟨ax,cx,ex⟩:=hX.form
   obtain⟨nx,hnx⟩:=Xq (c.chan.length)
   rw[← hnx]at ex
   subst ex
   have hvc:=HVV.out.c c (List.mem_of_getElem? hc)
   have kc:=hvc.okg
   have c0:=hvc.l0
   have c1:=hvc.l1
   have SC:=Hd (fun(m:Int) (m0:0≤m) (m1:m≤2147483648) (w1:World) (h1:IT w1 (.slice ax nx cx) c.chan)=>rshift_any c (.slice ax nx cx) m w1 h1 (by have:=kc.ch;omega) kc.a kc.b (by omega) kc.o)
   unfold clipGV at SC
   have hs1:Trk.total (l.take (k+1))=Trk.total (l.take k)+c.len:=by
    rw[List.take_add_one,hc]
    show Trk.total (l.take k++[c])=_
    rw[Trk.total_append]
    show _+(c.len+0)=_
    omega
   have hs2:Trk.rpA (l.take (k+1)) 0 f t=Trk.rpA (l.take k) 0 f t++Trk.pcs c (Trk.total (l.take k)) f t:=by
    rw[List.take_add_one,hc]
    show Trk.rpA (l.take k++[c]) 0 f t=_
    rw[Trk.rpA_snoc,Int.zero_add]
   have s0:=Trk.total_nonneg (l:=l.take k) (fun x hx=>HVV.out.good x (List.mem_of_mem_take hx))
   have s1:=total_take l HVV.out.good (k+1)
   have hln:=Trk.rpA_length (l.take k) 0 f t
   rw[List.length_take]at hln
   obtain⟨acc,hacc⟩:=Xq (Trk.rpA (l.take k) 0 f t)
   obtain⟨s,hs⟩:=Xq (Trk.total (l.take k))
   rw[← hacc]at ho hs2 hln
   rw[← hs]at s0 hs1 hs2 ⊢
   rw[hs1]at s1
   have HS1:=Hd hs1
   have HS2:=Hd hs2
   have s2:s+c.len≤2147483647:=by omega
   have hal:acc.length≤64:=by omega
   have HA:=Hd hA
   have HX:=Hd hX.it
   have HNX:=Hd hnx
   have HO:=Hd ho
   have HB:=Hd hb
   have HC:=Hd hc
   clear hT hnx hX hA hvc kc hs1 hs2 hln hacc hs s1 ho hb hc hkl
   have x0:=HA.out.k0
   go_wp2_with fail
   go_quiet (fail)
   obtain⟨w4,hw4⟩:=Xq (wr.drewN nq)
   have hb:Below wr.heap.size wr w4:=by rw[hw4];exact below_drewN (Below.refl _ _) _
   rw[← hw4]
   replace HA:=Hd (HA.out.below hb)
   replace HX:=Hd (HX.out.below hb)
   replace HO:=Hd (HO.out.below hb)
   replace HB:=Tb HB hb
   clear hb hw4 x0
   obtain⟨a,ha⟩:=Xq (max f s)
   obtain⟨e,he⟩:=Xq (min t (s+c.len))
   rw[← ha,← he]
   have HPC:=Hd (show Trk.pcs c s f t=if a<e then[Trk.withLen (Trk.shift c (a-s)) (e-a)] else[] by rw[ha,he];rfl)
   have a0:s≤a:=by omega
   have a1:a≤2147483647:=by omega
   have e0:0≤e:=by omega
   have e1:e≤2147483647:=by omega
   clear ha he
   by_cases hae:a<e
   ·have HRA:=Hd (show Trk.rpA (l.take (k+1)) 0 f t=acc++[Trk.withLen (Trk.shift c (a-s)) (e-a)] by rw[HS2.out,HPC.out,if_pos hae])
    clear HS2 HPC
    go_upto_region 8 with fail
    apply wp_region_lit
    iterate 9 go_step
    refine wpl_loadG HA.out rfl rfl rfl ?_
    simp only[Act.put,sA1,sB1,sC1]
    obtain⟨CC,hCC⟩:=Xq ((clipG c (.slice ax nx cx)).toArray)
    rw[← hCC]at SC ⊢
    clear hCC
    go_wp2_with fail
    refine(SC.out (a-s) (by omega) (by omega) _ HX.out).mono ?_
    rintro e' w5 ⟨x1,rfl,hch,hb⟩
    obtain⟨ra,hra⟩:=Xq ((inB (Trk.moved c.a (a-s))&&inB (Trk.moved c.b (a-s))))
    rw[← hra]
    clear hra
    obtain⟨az,cz,ez⟩:=hch.form
    rw[← HNX.out]at ez
    subst ez
    replace HA:=Hd (HA.out.below hb)
    replace HO:=Hd (HO.out.below hb)
    replace HB:=Tb HB hb
    have K1:=Hd hch
    clear hb hch SC HX
    obtain⟨S,hS⟩:=Xq (Trk.shift c (a-s))
    have HSC:=Hd (show S.chan=c.chan by rw[hS];rfl)
    rw[← hS]at HRA ⊢
    clear hS
    have HGO:=Hd (show ∀ g' k' cap',u7=.slice (some ⟨g',0,none⟩) k' cap'→g'<w5.heap.size from fun g' k' cap' e=>by
     have h:=HO.out
     rw[e]at h
     exact h.lt)
    dsimp only
    apply_assumption
    iterate 9 go_step
    refine wpl_allocB rfl rfl (fun w6 hg hb hs6=>?_)
    simp only[Act.put,sA1,sB1,sC1]
    obtain⟨g1,hg1⟩:=Xq (w5.heap.size)
    rw[← hg1]at hg HGO ⊢
    have hn1:w.heap.size≤g1:=by have:=HB.out.size;omega
    replace K1:=Hd (K1.out.below hb)
    have HL1:=Hd hb
    have HG1:=Hd hg1
    clear hg1 hb hs6
    refine wpl_storeB2 S az nx cz hg rfl rfl rfl rfl ?_
    intro w7 hv ho7 hsz7 hb7
    have HV:Hid (GB w7 g1 S (.slice az nx cz)):=Hd hv
    have hbb:Below w5.heap.size w5 w7:=hb7 _ _ (Nat.le_of_eq HG1.out.symm) HL1.out
    replace K1:=Hd (K1.out.far (Nat.le_of_eq hsz7.symm) hg.e (by decide) (Nat.zero_le _) (fun b _ hn=>ho7 b hn))
    replace HA:=Hd (HA.out.below hbb)
    replace HO:=Hd (HO.out.below hbb)
    replace HB:=Hd (HB.out.trans (hbb.mono HB.out.size))
    clear hv ho7 hsz7 hb7 hg hbb HL1 HG1
    obtain⟨v0,_⟩:=HV.out.ga.at0
    have vf:=HV.out.fz
    go_upto_region 10 with fail
    have hk1:∀ b,b≠g1→(w7.setCell ⟨g1,0,none⟩ (.int .i64 (e-a))).heap[b]?=w7.heap[b]?:=fun b hn=>by simp[World.setCell,Array.getElem?_modify,Ne.symm hn]
    replace K1:=Hd (K1.out.far (w':=w7.setCell ⟨g1,0,none⟩ (.int .i64 (e-a))) (by simp[World.setCell]) HV.out.e (by decide) (Nat.zero_le _) (fun b _ hn=>hk1 b hn))
    replace HO:=Hd (HO.out.far (w':=w7.setCell ⟨g1,0,none⟩ (.int .i64 (e-a))) (by simp[World.setCell]) HV.out.e (by decide) (Nat.zero_le _) (fun g' k' cap' e=>Nat.ne_of_lt (HGO.out g' k' cap' e)) (fun b _ hn=>hk1 b hn))
    replace HB:=Hd (HB.out.setCell (p:=⟨g1,0,none⟩) hn1 (.int .i64 (e-a)))
    replace HV:=Hd (HV.out.set_len (e-a))
    obtain⟨w8,hw8⟩:=Xq (w7.setCell ⟨g1,0,none⟩ (.int .i64 (e-a)))
    rw[← hw8]at HV HB HO K1 ⊢
    clear hw8 hk1 v0 vf HA HGO
    obtain⟨y,hy⟩:∃ y:Trk.Clip,y={ S with len:=e-a }:=⟨_,rfl⟩
    rw[← hy]at HV
    have HYC:=Hd (show y.chan=c.chan by rw[hy];exact HSC.out)
    rw[show Trk.withLen S (e-a)=y from hy.symm]at HRA
    clear hy
    apply wp_region_lit
    iterate 3 go_step
    refine wpl_loadG HV.out.ga rfl rfl rfl ?_
    simp only[Act.put,sA1,sB1,sC1]
    obtain⟨Y,hYY⟩:=Xq ((clipG y (.slice az nx cz)).toArray)
    rw[← hYY]
    have HYY:=Hd hYY
    clear hYY
    refine Great.wpList_buildSliceTo rfl 23 48 1 #[(0,.tmp 51)] rfl w8.heap.size rfl _ rfl Tryz.underlying23 Y ?_ ?_
    ·simp only[List.map_toArray,List.map_cons,List.map_nil,List.toList_toArray]
     rw[HYY.out]
     exact built_clipG y _
    have hb:Below w8.heap.size w8 (w8.alloc (.cells Y 48)):=below_box _ _
    have hbx:TG (w8.alloc (.cells Y 48)) 0 (.slice (some ⟨w8.heap.size,0,none⟩) 1 1) [y]:=by rw[HYY.out];exact(GB.box w8 y _).tg (show Ch _ 0 _ y.chan by rw[HYC.out];exact K1.out.below (below_box _ _))
    replace HO:=Hd (HO.out.below hb)
    replace HB:=Tb HB hb
    clear hb
    simp only[Act.put,sA1,sB1,sC1]
    refine wpList_appG _ 23 23 Tryz.underlying23 Tryz.underlying23 rfl (.tmp 50) (.tmp 52) rfl w.heap.size 0 u7 _ acc [y] rfl rfl HO.out HB.out.size (Nat.zero_le _) hbx (by show acc.length+1≤1048576;omega) ?_
    intro v' w9 r1 r2 r3 r4
    simp only[Act.put,sA1,sB1,sC1]
    rw[← HRA.out]at r1
    have HR:=Hd r1
    replace HB:=Hd (HB.out.trans r2)
    obtain⟨ao',cap',e',_,_,hT⟩:=HT.out.below HB.out
    simp only[Value.slice.injEq]at e'
    obtain⟨e1',-,rfl⟩:=e'
    obtain⟨b3,o3,xc,e2,hA,-⟩:=hT k c HC.out
    rw[← e1']at e2
    simp only[Option.some.injEq,Addr.mk.injEq,and_true]at e2
    obtain⟨rfl,rfl⟩:=e2
    have x0:=hA.k0
    clear r1 r2 r3 r4 hbx hT e1' hA HV K1 HYY
    go_wp2_with fail
    go_roundw
    case rel=>exact⟨k+1,by omega,by simp,by rw[HS1.out],HR.out,HB.out⟩
    case measure=>
     show L-(intOf (.int .i64 ((k:Int)+1))).toNat<L-(intOf (.int .i64 (k:Int))).toNat
     simp[intOf]
     omega
   have HRA:=Hd (show Trk.rpA (l.take (k+1)) 0 f t=acc by rw[HS2.out,HPC.out,if_neg hae,List.append_nil])
   have x0:=HA.out.k0
   clear HS2 HPC SC
   go_wp2_with fail
   go_roundw
   case rel=>exact⟨k+1,by omega,by simp,by rw[HS1.out],by rw[HRA.out];exact HO.out,HB.out⟩
   case measure=>
    show L-(intOf (.int .i64 ((k:Int)+1))).toNat<L-(intOf (.int .i64 (k:Int))).toNat
    simp[intOf]
    omega
  have hkl:k=L:=by omega
  have e:l.take k=l:=List.take_of_length_le (by rw[← HLe.out];omega)
  rw[e]at ho
  have HO:=Hd ho.tg
  have HB:=Hd hb
  clear ho hb e
  subst hkl
  go_wp2_with fail
  refine(HPK.out _ _ HO.out).mono ?_
  rintro e w2 ⟨v',rfl,ho,hb⟩
  have HO2:=Hd (ho.lower HB.out.size)
  replace HB:=Tb HB hb
  clear ho hb HO
  go_wp2_with fail
  go_ret
  exact⟨_,rfl,HO2.out,HB.out⟩
theorem PreAtOf {n m:List Trk.Clip} (gn:Trk.GoodL n) (gm:Trk.GoodL m) {p x y:Int} {i j:Nat} {c d:Trk.Clip} (p0:0≤p) (hx:x=p-Trk.total (n.take i)) (hy:y=p-Trk.total (m.take j)) (x0:0≤x) (y0:0≤y) (hxc:x<c.len) (hyd:y<d.len) (hc:n[i]?=some c) (hd:m[j]?=some d) (hf:∀ k,0≤k→k<p→Trk.fr n k=Trk.fr m k):Trk.PreAt n m i j x y p:=by
 have hi:=(List.getElem?_eq_some_iff.1 hc).1
 have hj:=(List.getElem?_eq_some_iff.1 hd).1
 refine⟨⟨by omega,x0,Nat.le_of_lt hi,fun c' h=>?_,fun e=>by omega⟩,⟨by omega,y0,Nat.le_of_lt hj,fun c' h=>?_,fun e=>by omega⟩,hf⟩
 ·rw[hc]at h;cases h;exact hxc
 rw[hd]at h;cases h;exact hyd
theorem req96_any (D1 D2:Nat) (v u:Value) (n m:List Trk.Clip) (M:Int) (w:World) (h:TG w D1 v n) (h':TG w D2 u m) (Vn:TV n) (Vm:TV m) (hM:M=min (Trk.total n) (Trk.total m)) :
  Calls Tryz.prog 96 #[v,.int .i64 0,u,.int .i64 0,.int .i64 M] w fun e w'=>∃ p,e=.returned (.int .i64 p)∧Trk.Pre n m p∧Below w.heap.size w w':=by
 have HT:=Hd h
 have HU:=Hd h'
 have hn0:=Trk.total_nonneg Vn.good
 have hm0:=Trk.total_nonneg Vm.good
 have M0:0≤M:=by omega
 have M1:M≤2147483647:=by have:=Vn.t;omega
 have HM:=Hd hM
 have F1:=Hd (fun(p:Int) (w:World) (h:TG w D1 v n) (p0:0≤p) (p1:p<M)=>rfind_any D1 v n p w h Vn p0 (by omega))
 have F2:=Hd (fun(p:Int) (w:World) (h:TG w D2 u m) (p0:0≤p) (p1:p<M)=>rfind_any D2 u m p w h Vm p0 (by omega))
 have HVN:=Hd Vn
 have HVM:=Hd Vm
 obtain⟨ao,ca,rfl⟩:=h.form
 obtain⟨bo,cb,rfl⟩:=h'.form
 obtain⟨ln,hln⟩:=Xq (n.length)
 obtain⟨lm,hlm⟩:=Xq (m.length)
 rw[← hln]at HT F1 ⊢
 rw[← hlm]at HU F2 ⊢
 have HLN:=Hd (And.intro hln hlm)
 clear h h' Vn Vm hM hn0 hm0 hln hlm
 go_enter Tryz.func96,Tryz.ntmps96
 go_wp2_with fail
 go_loopw [11] (fun v11 wr=>∃ p:Int,v11=.int .i64 p∧0≤p∧p≤M∧Hid (∀ k,0≤k→k<p→Trk.fr n k=Trk.fr m k)∧Below w.heap.size w wr) (fun i _=>(M-intOf i).toNat)
 case atStart=>exact⟨0,rfl,Int.le_refl _,M0,Hd (fun k h0 h1=>by omega),Below.refl _ _⟩
 case round=>
  obtain⟨p,rfl,p0,p1,HF,hb⟩:=hrel
  have HB:=Hd hb
  clear hb
  by_cases hlt:p<M
  ·obtain⟨i,x,ef,hi,x0,hx,c,hc,hxc⟩:=findL_some (l:=n) (n:=p) (i:=0) p0 (by have:=HM.out;omega)
   obtain⟨j,y,eg,hj,y0,hy,d,hd,hyd⟩:=findL_some (l:=m) (n:=p) (i:=0) p0 (by have:=HM.out;omega)
   have HXY:=Hd (And.intro hx hy)
   have HCD:=Hd (And.intro hc hd)
   have hci:=(HVN.out.c c (List.mem_of_getElem? hc)).l1
   have hdi:=(HVM.out.c d (List.mem_of_getElem? hd)).l1
   have hiL:i<ln:=by rw[HLN.out.1];exact hi
   have hjL:j<lm:=by rw[HLN.out.2];exact hj
   clear hx hy hc hd hi hj
   go_wp2_with fail
   refine(F1.out p _ (HT.out.below HB.out) p0 hlt).mono ?_
   rintro e w1 ⟨rfl,hb⟩
   replace HB:=Tb HB hb
   rw[ef]
   simp only[findV,Nat.zero_add]
   clear hb
   go_wp2_with fail
   refine(F2.out p _ (HU.out.below HB.out) p0 hlt).mono ?_
   rintro e w2 ⟨rfl,hb⟩
   replace HB:=Tb HB hb
   rw[eg]
   simp only[findV,Nat.zero_add]
   clear hb
   go_upto_region 5 with fail
   obtain⟨ao',cap',e,hcc,_,hT⟩:=HT.out.below HB.out
   simp only[Value.slice.injEq]at e
   obtain⟨rfl,-,rfl⟩:=e
   obtain⟨b1,o1,xc,rfl,hA,hX⟩:=hT i c HCD.out.1
   obtain⟨ax,cx,ex⟩:=hX.form
   obtain⟨nx,hnx⟩:=Xq (c.chan.length)
   rw[← hnx]at ex
   subst ex
   obtain⟨bo',dap',e,hdd,_,hU⟩:=HU.out.below HB.out
   simp only[Value.slice.injEq]at e
   obtain⟨rfl,-,rfl⟩:=e
   obtain⟨b2,o2,yc,rfl,hA2,hY⟩:=hU j d HCD.out.2
   obtain⟨ay,cy,ey⟩:=hY.form
   obtain⟨ny,hny⟩:=Xq (d.chan.length)
   rw[← hny]at ey
   subst ey
   have HA:=Hd hA
   have HA2:=Hd hA2
   have HIX:=Hd hX.it
   have HIY:=Hd hY.it
   have HNX:=Hd (And.intro hnx hny)
   rw[← HLN.out.1]at hcc
   rw[← HLN.out.2]at hdd
   have vc:=HVN.out.c c (List.mem_of_getElem? HCD.out.1)
   have vd:=HVM.out.c d (List.mem_of_getElem? HCD.out.2)
   have kc:=vc.okg
   have kd:=vd.okg
   have SC:=Hd (fun(w1:World) (h1:IT w1 (.slice ax nx cx) c.chan)=>rshift_any c (.slice ax nx cx) x w1 h1 (by have:=kc.ch;omega) kc.a kc.b (by omega) kc.o)
   have SD:=Hd (fun(w1:World) (h1:IT w1 (.slice ay ny cy) d.chan)=>rshift_any d (.slice ay ny cy) y w1 h1 (by have:=kd.ch;omega) kd.a kd.b (by omega) kd.o)
   unfold clipGV at SC SD
   clear hT hU hA hA2 hX hY hnx hny vc vd kc kd
   apply wp_region_lit
   iterate 9 go_step
   refine wpl_loadG HA.out rfl rfl rfl ?_
   simp only[Act.put,sA1,sB1,sC1]
   obtain⟨CC,hCC⟩:=Xq ((clipG c (.slice ax nx cx)).toArray)
   rw[← hCC]at SC ⊢
   clear hCC
   go_wp2_with fail
   refine(SC.out _ HIX.out).mono ?_
   rintro e w3 ⟨x1,rfl,hch,hb⟩
   obtain⟨ra,hra⟩:=Xq ((inB (Trk.moved c.a x)&&inB (Trk.moved c.b x)))
   rw[← hra]
   clear hra
   obtain⟨az,cz,ez⟩:=hch.form
   rw[← HNX.out.1]at ez
   subst ez
   replace HA:=Hd (HA.out.below hb)
   replace HA2:=Hd (HA2.out.below hb)
   replace HIY:=Hd (HIY.out.below hb)
   replace HB:=Tb HB hb
   have K1:=Hd hch
   clear hb hch
   obtain⟨S,hS⟩:=Xq (Trk.shift c x)
   have HS:=Hd hS
   rw[← hS]
   clear hS
   dsimp only
   apply_assumption
   iterate 9 go_step
   refine wpl_allocB rfl rfl (fun w4 hg hb hs4=>?_)
   simp only[Act.put,sA1,sB1,sC1]
   obtain⟨g1,hg1⟩:=Xq (w3.heap.size)
   rw[← hg1]at hg ⊢
   have hn1:w.heap.size≤g1:=by have:=HB.out.size;omega
   replace K1:=Hd (K1.out.below hb)
   have HL1:=Hd hb
   have HG1:=Hd hg1
   clear hg1 hb hs4
   refine wpl_storeB2 S az nx cz hg rfl rfl rfl rfl ?_
   intro w5 hv ho5 hsz5 hb5
   have HV:Hid (GB w5 g1 S (.slice az nx cz)):=Hd hv
   have hbb:Below w3.heap.size w3 w5:=hb5 _ _ (Nat.le_of_eq HG1.out.symm) HL1.out
   replace K1:=Hd (K1.out.far (Nat.le_of_eq hsz5.symm) hg.e (by decide) (Nat.zero_le _) (fun b _ hn=>ho5 b hn))
   replace HA:=Hd (HA.out.below hbb)
   replace HA2:=Hd (HA2.out.below hbb)
   replace HIY:=Hd (HIY.out.below hbb)
   replace HB:=Hd (HB.out.trans (hbb.mono HB.out.size))
   clear hv ho5 hsz5 hb5 hg hbb HL1 HG1
   go_upto_region 6 with fail
   apply wp_region_lit
   iterate 9 go_step
   refine wpl_loadG HA2.out rfl rfl rfl ?_
   simp only[Act.put,sA1,sB1,sC1]
   obtain⟨CD,hCD⟩:=Xq ((clipG d (.slice ay ny cy)).toArray)
   rw[← hCD]at SD ⊢
   clear hCD
   go_wp2_with fail
   refine(SD.out _ HIY.out).mono ?_
   rintro e w6 ⟨y1,rfl,hch,hb⟩
   obtain⟨rb,hrb⟩:=Xq ((inB (Trk.moved d.a y)&&inB (Trk.moved d.b y)))
   rw[← hrb]
   clear hrb
   obtain⟨au,cu,eu⟩:=hch.form
   rw[← HNX.out.2]at eu
   subst eu
   replace HA:=Hd (HA.out.below hb)
   replace HA2:=Hd (HA2.out.below hb)
   replace HV:=Hd (HV.out.below hb)
   replace K1:=Hd (K1.out.below hb)
   replace HB:=Tb HB hb
   have K2:=Hd hch
   clear hb hch
   obtain⟨U,hU⟩:=Xq (Trk.shift d y)
   have HUS:=Hd hU
   rw[← hU]
   clear hU
   dsimp only
   apply_assumption
   iterate 9 go_step
   refine wpl_allocB rfl rfl (fun w7 hg hb hs7=>?_)
   simp only[Act.put,sA1,sB1,sC1]
   obtain⟨g2,hg2⟩:=Xq (w6.heap.size)
   rw[← hg2]at hg ⊢
   have hn2:w.heap.size≤g2:=by have:=HB.out.size;omega
   have h12:g1≠g2:=by have:=HV.out.lt;omega
   replace K1:=Hd (K1.out.below hb)
   replace K2:=Hd (K2.out.below hb)
   have HL1:=Hd hb
   have HG1:=Hd hg2
   clear hg2 hb hs7
   refine wpl_storeB2 U au ny cu hg rfl rfl rfl rfl ?_
   intro w8 hv ho8 hsz8 hb8
   have HW:Hid (GB w8 g2 U (.slice au ny cu)):=Hd hv
   have hbb:Below w6.heap.size w6 w8:=hb8 _ _ (Nat.le_of_eq HG1.out.symm) HL1.out
   replace K1:=Hd (K1.out.far (Nat.le_of_eq hsz8.symm) hg.e (by decide) (Nat.zero_le _) (fun b _ hn=>ho8 b hn))
   replace K2:=Hd (K2.out.far (Nat.le_of_eq hsz8.symm) hg.e (by decide) (Nat.zero_le _) (fun b _ hn=>ho8 b hn))
   replace HA:=Hd (HA.out.below hbb)
   replace HA2:=Hd (HA2.out.below hbb)
   replace HV:=Hd (HV.out.below hbb)
   replace HB:=Hd (HB.out.trans (hbb.mono HB.out.size))
   clear hv ho8 hsz8 hb8 hg hbb HL1 HG1
   obtain⟨v0,_⟩:=HV.out.ga.at0
   obtain⟨z0,_⟩:=HW.out.ga.at0
   have vf:=HV.out.fz
   have zf:=HW.out.fz
   have h21:=Ne.symm h12
   go_upto_region 8 with fail
   have hk1:∀ b,b≠g1→(w8.setCell ⟨g1,0,none⟩ (.int .i64 1)).heap[b]?=w8.heap[b]?:=fun b hn=>by simp[World.setCell,Array.getElem?_modify,Ne.symm hn]
   replace K1:=Hd (K1.out.far (w':=w8.setCell ⟨g1,0,none⟩ (.int .i64 1)) (by simp[World.setCell]) HV.out.e (by decide) (Nat.zero_le _) (fun b _ hn=>hk1 b hn))
   replace K2:=Hd (K2.out.far (w':=w8.setCell ⟨g1,0,none⟩ (.int .i64 1)) (by simp[World.setCell]) HV.out.e (by decide) (Nat.zero_le _) (fun b _ hn=>hk1 b hn))
   replace HV:=Hd (HV.out.set_len 1)
   replace HW:=Hd (HW.out.other h21 0 (.int .i64 1))
   replace HB:=Hd (HB.out.setCell (p:=⟨g1,0,none⟩) hn1 (.int .i64 1))
   obtain⟨w9,hw9⟩:=Xq (w8.setCell ⟨g1,0,none⟩ (.int .i64 1))
   rw[← hw9]at HV HW HB K1 K2 ⊢
   clear hw9 hk1 v0 z0 vf zf HA HA2
   have hk2:∀ b,b≠g2→(w9.setCell ⟨g2,0,none⟩ (.int .i64 1)).heap[b]?=w9.heap[b]?:=fun b hn=>by simp[World.setCell,Array.getElem?_modify,Ne.symm hn]
   replace K1:=Hd (K1.out.far (w':=w9.setCell ⟨g2,0,none⟩ (.int .i64 1)) (by simp[World.setCell]) HW.out.e (by decide) (Nat.zero_le _) (fun b _ hn=>hk2 b hn))
   replace K2:=Hd (K2.out.far (w':=w9.setCell ⟨g2,0,none⟩ (.int .i64 1)) (by simp[World.setCell]) HW.out.e (by decide) (Nat.zero_le _) (fun b _ hn=>hk2 b hn))
   replace HW:=Hd (HW.out.set_len 1)
   replace HV:=Hd (HV.out.other h12 0 (.int .i64 1))
   replace HB:=Hd (HB.out.setCell (p:=⟨g2,0,none⟩) hn2 (.int .i64 1))
   obtain⟨w10,hw10⟩:=Xq (w9.setCell ⟨g2,0,none⟩ (.int .i64 1))
   rw[← hw10]at HV HW HB K1 K2 ⊢
   clear hw10 hk2
   have HSC:=Hd (show Calls Tryz.prog 59 #[.agg (clipG { S with len:=1 } (.slice az nx cz)).toArray,.agg (clipG { U with len:=1 } (.slice au ny cu)).toArray] w10 fun e w'=>e=.returned (.bool (decide (Trk.one c x=Trk.one d y)))∧Below w10.heap.size w10 w' from by
    have hr:=rsameclip_any (Trk.one c x) (Trk.one d y) (.slice az nx cz) (.slice au ny cu) w10 K1.out.it K2.out.it
    rw[HS.out,HUS.out]
    exact hr)
   apply wp_region_lit
   refine wpl_loadG HV.out.ga rfl rfl rfl ?_
   refine wpl_loadG HW.out.ga rfl rfl rfl ?_
   simp only[Act.put,sA1,sB1,sC1]
   obtain⟨C1,hC1⟩:=Xq ((clipG { S with len:=1 } (.slice az nx cz)).toArray)
   obtain⟨C2,hC2⟩:=Xq ((clipG { U with len:=1 } (.slice au ny cu)).toArray)
   rw[← hC1,← hC2]at HSC ⊢
   clear hC1 hC2
   go_wp2_with fail
   refine HSC.out.mono ?_
   rintro e w11 ⟨rfl,hb⟩
   replace HB:=Tb HB hb
   clear hb HV HW K1 K2 HSC SC SD
   have hat:=PreAtOf HVN.out.good HVM.out.good p0 HXY.out.1 HXY.out.2 x0 y0 hxc hyd HCD.out.1 HCD.out.2 HF.out
   have HAT:=Hd hat
   clear hat
   by_cases hone:Trk.one c x=Trk.one d y
   ·have HO:=Hd hone
    rw[decide_eq_true hone]
    clear hone
    obtain⟨ao',cap',e,_,_,hT⟩:=HT.out.below HB.out
    simp only[Value.slice.injEq]at e
    obtain⟨e1,-,rfl⟩:=e
    obtain⟨b3,o3,xc,e2,hA,hX⟩:=hT i c HCD.out.1
    rw[← e1]at e2
    simp only[Option.some.injEq,Addr.mk.injEq,and_true]at e2
    obtain⟨rfl,rfl⟩:=e2
    obtain⟨bo',dap',e,_,_,hU⟩:=HU.out.below HB.out
    simp only[Value.slice.injEq]at e
    obtain⟨e3,-,rfl⟩:=e
    obtain⟨b4,o4,yc,e4,hA2,hY⟩:=hU j d HCD.out.2
    rw[← e3]at e4
    simp only[Option.some.injEq,Addr.mk.injEq,and_true]at e4
    obtain⟨rfl,rfl⟩:=e4
    have q1:=hA.k0
    have q2:=hA2.k0
    clear hT hU e1 e3 hA hA2 hX hY
    go_wp2_with fail
    go_quiet (fail)
    go_wp2_with fail
    obtain⟨t,ht⟩:=Xq ((if M-p<(if d.len-y<c.len-x then d.len-y else c.len-x) then M-p else if d.len-y<c.len-x then d.len-y else c.len-x))
    rw[← ht]
    have ht2:t≤c.len-x∧t≤d.len-y∧t≤M-p∧1≤t:=by
     rw[ht]
     split<;>split<;>omega
    clear ht
    obtain⟨t1,t2,t3,t4⟩:=ht2
    refine⟨⟨p+t,rfl,by omega,by omega,Hd (HAT.out.more HVN.out.good HVM.out.good HCD.out.1 HCD.out.2 HO.out t1 t2),below_drewN HB.out _⟩,?_⟩
    simp only[intOf]
    omega
   have HO:=Hd hone
   rw[decide_eq_false hone]
   clear hone
   go_wp2_with fail
   go_ret
   exact⟨p,rfl,HAT.out.done HVN.out.good HVM.out.good (.inr (.inr ⟨c,d,HCD.out.1,HCD.out.2,HO.out⟩)),HB.out⟩
  have hp:p=M:=by omega
  subst hp
  go_wp2_with fail
  go_ret
  refine⟨p,rfl,⟨p0,by have:=HM.out;omega,by have:=HM.out;omega,HF.out,fun h1 h2=>by have:=HM.out;omega⟩,HB.out⟩
theorem tail_at {n:List Trk.Clip} (gn:Trk.GoodL n) {p x A:Int} {i:Nat} {c:Trk.Clip} (hx:x=A-p-1-Trk.total (n.take i)) (x0:0≤x) (x1:x<c.len) (hc:n[i]?=some c):Trk.fr n (A-1-p)=Trk.one c x:=by
 have e:=Trk.fr_at (x:=x) gn hc x0 x1
 rw[show Trk.total (n.take i)+x=A-1-p by omega]at e
 exact e
theorem tail_more {n m:List Trk.Clip} (gn:Trk.GoodL n) (gm:Trk.GoodL m) {p x y t A B:Int} {i j:Nat} {c d:Trk.Clip} (hx:x=A-p-1-Trk.total (n.take i)) (hy:y=B-p-1-Trk.total (m.take j)) (x1:x<c.len) (y1:y<d.len) (hc:n[i]?=some c) (hd:m[j]?=some d) (ho:Trk.one c x=Trk.one d y)
  (hf:∀ k,0≤k→k<p→Trk.fr n (A-1-k)=Trk.fr m (B-1-k)) (t1:t≤x+1) (t2:t≤y+1):∀ k,0≤k→k<p+t→Trk.fr n (A-1-k)=Trk.fr m (B-1-k):=by
 intro k k0 k1
 by_cases hk:k<p
 ·exact hf k k0 hk
 have e1:=Trk.fr_at (x:=x-(k-p)) gn hc (by omega) (by omega)
 have e2:=Trk.fr_at (x:=y-(k-p)) gm hd (by omega) (by omega)
 rw[show Trk.total (n.take i)+(x-(k-p))=A-1-k by omega]at e1
 rw[show Trk.total (m.take j)+(y-(k-p))=B-1-k by omega]at e2
 have e3:=Trk.one_step (gn c (List.mem_of_getElem? hc)) (gm d (List.mem_of_getElem? hd)) ho (p-k)
 rw[show x+(p-k)=x-(k-p) by omega,show y+(p-k)=y-(k-p) by omega]at e3
 rw[e1,e2,e3]
theorem rtail_any (D1 D2:Nat) (v u:Value) (n m:List Trk.Clip) (M:Int) (w:World) (h:TG w D1 v n) (h':TG w D2 u m) (Vn:TV n) (Vm:TV m) (M0:0≤M) (hM:M≤Trk.total n) (hM2:M≤Trk.total m) :
  Calls Tryz.prog 97 #[v,u,.int .i64 M] w fun e w'=>∃ p,e=.returned (.int .i64 p)∧Trk.Suf n m M p∧Below w.heap.size w w':=by
 have HT:=Hd h
 have HU:=Hd h'
 have hn0:=Trk.total_nonneg Vn.good
 have hm0:=Trk.total_nonneg Vm.good
 have M1:M≤2147483647:=by have:=Vn.t;omega
 have A1:=Vn.t
 have B1:=Vm.t
 have L1:=Hd (fun(w:World) (h:TG w D1 v n)=>rlength_any D1 v n w h Vn)
 have L2:=Hd (fun(w:World) (h:TG w D2 u m)=>rlength_any D2 u m w h Vm)
 have F1:=Hd (fun(p:Int) (w:World) (h:TG w D1 v n) (p0:0≤p) (p1:p<Trk.total n)=>rfind_any D1 v n p w h Vn p0 p1)
 have F2:=Hd (fun(p:Int) (w:World) (h:TG w D2 u m) (p0:0≤p) (p1:p<Trk.total m)=>rfind_any D2 u m p w h Vm p0 p1)
 have HVN:=Hd Vn
 have HVM:=Hd Vm
 obtain⟨ao,ca,rfl⟩:=h.form
 obtain⟨bo,cb,rfl⟩:=h'.form
 obtain⟨ln,hln⟩:=Xq (n.length)
 obtain⟨lm,hlm⟩:=Xq (m.length)
 obtain⟨A,hA'⟩:=Xq (Trk.total n)
 obtain⟨B,hB'⟩:=Xq (Trk.total m)
 rw[← hA']at L1 F1 hM A1 hn0
 rw[← hB']at L2 F2 hM2 B1 hm0
 have HAB:=Hd (And.intro hA' hB')
 clear hA' hB'
 rw[← hln]at HT F1 L1 ⊢
 rw[← hlm]at HU F2 L2 ⊢
 have HLN:=Hd (And.intro hln hlm)
 clear h h' Vn Vm hn0 hm0 hln hlm
 go_enter Tryz.func97,Tryz.ntmps97
 go_wp2_with fail
 refine(L1.out _ HT.out).mono ?_
 rintro e wa ⟨rfl,hb⟩
 have HBa:=Hd hb
 clear hb
 go_wp2_with fail
 refine(L2.out _ (HU.out.below HBa.out)).mono ?_
 rintro e wb ⟨rfl,hb⟩
 have HBb:=Tb HBa hb
 clear hb HBa L1 L2
 go_wp2_with fail
 go_loopw [9] (fun v9 wr=>∃ p:Int,v9=.int .i64 p∧0≤p∧p≤M∧Hid (∀ k,0≤k→k<p→Trk.fr n (A-1-k)=Trk.fr m (B-1-k))∧Below w.heap.size w wr) (fun i _=>(M-intOf i).toNat)
 case atStart=>exact⟨0,rfl,Int.le_refl _,M0,Hd (fun k h0 h1=>by omega),HBb.out⟩
 case round=>
  obtain⟨p,rfl,p0,p1,HF,hb⟩:=hrel
  have HB:=Hd hb
  clear hb
  by_cases hlt:p<M
  ·obtain⟨i,x,ef,hi,x0,hx,c,hc,hxc⟩:=findL_some (l:=n) (n:=A-p-1) (i:=0) (by omega) (by rw[← HAB.out.1];omega)
   obtain⟨j,y,eg,hj,y0,hy,d,hd,hyd⟩:=findL_some (l:=m) (n:=B-p-1) (i:=0) (by omega) (by rw[← HAB.out.2];omega)
   have HXY:=Hd (And.intro hx hy)
   have HCD:=Hd (And.intro hc hd)
   have hci:=(HVN.out.c c (List.mem_of_getElem? hc)).l1
   have hdi:=(HVM.out.c d (List.mem_of_getElem? hd)).l1
   have hiL:i<ln:=by rw[HLN.out.1];exact hi
   have hjL:j<lm:=by rw[HLN.out.2];exact hj
   clear hx hy hc hd hi hj
   go_wp2_with fail
   refine(F1.out (A-p-1) _ (HT.out.below HB.out) (by omega) (by omega)).mono ?_
   rintro e w1 ⟨rfl,hb⟩
   replace HB:=Tb HB hb
   rw[ef]
   simp only[findV,Nat.zero_add]
   clear hb
   go_wp2_with fail
   refine(F2.out (B-p-1) _ (HU.out.below HB.out) (by omega) (by omega)).mono ?_
   rintro e w2 ⟨rfl,hb⟩
   replace HB:=Tb HB hb
   rw[eg]
   simp only[findV,Nat.zero_add]
   clear hb
   go_upto_region 6 with fail
   obtain⟨ao',cap',e,hcc,_,hT⟩:=HT.out.below HB.out
   simp only[Value.slice.injEq]at e
   obtain⟨rfl,-,rfl⟩:=e
   obtain⟨b1,o1,xc,rfl,hA,hX⟩:=hT i c HCD.out.1
   obtain⟨ax,cx,ex⟩:=hX.form
   obtain⟨nx,hnx⟩:=Xq (c.chan.length)
   rw[← hnx]at ex
   subst ex
   obtain⟨bo',dap',e,hdd,_,hU⟩:=HU.out.below HB.out
   simp only[Value.slice.injEq]at e
   obtain⟨rfl,-,rfl⟩:=e
   obtain⟨b2,o2,yc,rfl,hA2,hY⟩:=hU j d HCD.out.2
   obtain⟨ay,cy,ey⟩:=hY.form
   obtain⟨ny,hny⟩:=Xq (d.chan.length)
   rw[← hny]at ey
   subst ey
   have HA:=Hd hA
   have HA2:=Hd hA2
   have HIX:=Hd hX.it
   have HIY:=Hd hY.it
   have HNX:=Hd (And.intro hnx hny)
   rw[← HLN.out.1]at hcc
   rw[← HLN.out.2]at hdd
   have vc:=HVN.out.c c (List.mem_of_getElem? HCD.out.1)
   have vd:=HVM.out.c d (List.mem_of_getElem? HCD.out.2)
   have kc:=vc.okg
   have kd:=vd.okg
   have SC:=Hd (fun(w1:World) (h1:IT w1 (.slice ax nx cx) c.chan)=>rshift_any c (.slice ax nx cx) x w1 h1 (by have:=kc.ch;omega) kc.a kc.b (by omega) kc.o)
   have SD:=Hd (fun(w1:World) (h1:IT w1 (.slice ay ny cy) d.chan)=>rshift_any d (.slice ay ny cy) y w1 h1 (by have:=kd.ch;omega) kd.a kd.b (by omega) kd.o)
   unfold clipGV at SC SD
   clear hT hU hA hA2 hX hY hnx hny vc vd kc kd
   apply wp_region_lit
   iterate 9 go_step
   refine wpl_loadG HA.out rfl rfl rfl ?_
   simp only[Act.put,sA1,sB1,sC1]
   obtain⟨CC,hCC⟩:=Xq ((clipG c (.slice ax nx cx)).toArray)
   rw[← hCC]at SC ⊢
   clear hCC
   go_wp2_with fail
   refine(SC.out _ HIX.out).mono ?_
   rintro e w3 ⟨x1,rfl,hch,hb⟩
   obtain⟨ra,hra⟩:=Xq ((inB (Trk.moved c.a x)&&inB (Trk.moved c.b x)))
   rw[← hra]
   clear hra
   obtain⟨az,cz,ez⟩:=hch.form
   rw[← HNX.out.1]at ez
   subst ez
   replace HA:=Hd (HA.out.below hb)
   replace HA2:=Hd (HA2.out.below hb)
   replace HIY:=Hd (HIY.out.below hb)
   replace HB:=Tb HB hb
   have K1:=Hd hch
   clear hb hch
   obtain⟨S,hS⟩:=Xq (Trk.shift c x)
   have HS:=Hd hS
   rw[← hS]
   clear hS
   dsimp only
   apply_assumption
   iterate 9 go_step
   refine wpl_allocB rfl rfl (fun w4 hg hb hs4=>?_)
   simp only[Act.put,sA1,sB1,sC1]
   obtain⟨g1,hg1⟩:=Xq (w3.heap.size)
   rw[← hg1]at hg ⊢
   have hn1:w.heap.size≤g1:=by have:=HB.out.size;omega
   replace K1:=Hd (K1.out.below hb)
   have HL1:=Hd hb
   have HG1:=Hd hg1
   clear hg1 hb hs4
   refine wpl_storeB2 S az nx cz hg rfl rfl rfl rfl ?_
   intro w5 hv ho5 hsz5 hb5
   have HV:Hid (GB w5 g1 S (.slice az nx cz)):=Hd hv
   have hbb:Below w3.heap.size w3 w5:=hb5 _ _ (Nat.le_of_eq HG1.out.symm) HL1.out
   replace K1:=Hd (K1.out.far (Nat.le_of_eq hsz5.symm) hg.e (by decide) (Nat.zero_le _) (fun b _ hn=>ho5 b hn))
   replace HA:=Hd (HA.out.below hbb)
   replace HA2:=Hd (HA2.out.below hbb)
   replace HIY:=Hd (HIY.out.below hbb)
   replace HB:=Hd (HB.out.trans (hbb.mono HB.out.size))
   clear hv ho5 hsz5 hb5 hg hbb HL1 HG1
   go_upto_region 7 with fail
   apply wp_region_lit
   iterate 9 go_step
   refine wpl_loadG HA2.out rfl rfl rfl ?_
   simp only[Act.put,sA1,sB1,sC1]
   obtain⟨CD,hCD⟩:=Xq ((clipG d (.slice ay ny cy)).toArray)
   rw[← hCD]at SD ⊢
   clear hCD
   go_wp2_with fail
   refine(SD.out _ HIY.out).mono ?_
   rintro e w6 ⟨y1,rfl,hch,hb⟩
   obtain⟨rb,hrb⟩:=Xq ((inB (Trk.moved d.a y)&&inB (Trk.moved d.b y)))
   rw[← hrb]
   clear hrb
   obtain⟨au,cu,eu⟩:=hch.form
   rw[← HNX.out.2]at eu
   subst eu
   replace HA:=Hd (HA.out.below hb)
   replace HA2:=Hd (HA2.out.below hb)
   replace HV:=Hd (HV.out.below hb)
   replace K1:=Hd (K1.out.below hb)
   replace HB:=Tb HB hb
   have K2:=Hd hch
   clear hb hch
   obtain⟨U,hU⟩:=Xq (Trk.shift d y)
   have HUS:=Hd hU
   rw[← hU]
   clear hU
   dsimp only
   apply_assumption
   iterate 9 go_step
   refine wpl_allocB rfl rfl (fun w7 hg hb hs7=>?_)
   simp only[Act.put,sA1,sB1,sC1]
   obtain⟨g2,hg2⟩:=Xq (w6.heap.size)
   rw[← hg2]at hg ⊢
   have hn2:w.heap.size≤g2:=by have:=HB.out.size;omega
   have h12:g1≠g2:=by have:=HV.out.lt;omega
   replace K1:=Hd (K1.out.below hb)
   replace K2:=Hd (K2.out.below hb)
   have HL1:=Hd hb
   have HG1:=Hd hg2
   clear hg2 hb hs7
   refine wpl_storeB2 U au ny cu hg rfl rfl rfl rfl ?_
   intro w8 hv ho8 hsz8 hb8
   have HW:Hid (GB w8 g2 U (.slice au ny cu)):=Hd hv
   have hbb:Below w6.heap.size w6 w8:=hb8 _ _ (Nat.le_of_eq HG1.out.symm) HL1.out
   replace K1:=Hd (K1.out.far (Nat.le_of_eq hsz8.symm) hg.e (by decide) (Nat.zero_le _) (fun b _ hn=>ho8 b hn))
   replace K2:=Hd (K2.out.far (Nat.le_of_eq hsz8.symm) hg.e (by decide) (Nat.zero_le _) (fun b _ hn=>ho8 b hn))
   replace HA:=Hd (HA.out.below hbb)
   replace HA2:=Hd (HA2.out.below hbb)
   replace HV:=Hd (HV.out.below hbb)
   replace HB:=Hd (HB.out.trans (hbb.mono HB.out.size))
   clear hv ho8 hsz8 hb8 hg hbb HL1 HG1
   obtain⟨v0,_⟩:=HV.out.ga.at0
   obtain⟨z0,_⟩:=HW.out.ga.at0
   have vf:=HV.out.fz
   have zf:=HW.out.fz
   have h21:=Ne.symm h12
   go_upto_region 9 with fail
   have hk1:∀ b,b≠g1→(w8.setCell ⟨g1,0,none⟩ (.int .i64 1)).heap[b]?=w8.heap[b]?:=fun b hn=>by simp[World.setCell,Array.getElem?_modify,Ne.symm hn]
   replace K1:=Hd (K1.out.far (w':=w8.setCell ⟨g1,0,none⟩ (.int .i64 1)) (by simp[World.setCell]) HV.out.e (by decide) (Nat.zero_le _) (fun b _ hn=>hk1 b hn))
   replace K2:=Hd (K2.out.far (w':=w8.setCell ⟨g1,0,none⟩ (.int .i64 1)) (by simp[World.setCell]) HV.out.e (by decide) (Nat.zero_le _) (fun b _ hn=>hk1 b hn))
   replace HV:=Hd (HV.out.set_len 1)
   replace HW:=Hd (HW.out.other h21 0 (.int .i64 1))
   replace HB:=Hd (HB.out.setCell (p:=⟨g1,0,none⟩) hn1 (.int .i64 1))
   obtain⟨w9,hw9⟩:=Xq (w8.setCell ⟨g1,0,none⟩ (.int .i64 1))
   rw[← hw9]at HV HW HB K1 K2 ⊢
   clear hw9 hk1 v0 z0 vf zf HA HA2
   have hk2:∀ b,b≠g2→(w9.setCell ⟨g2,0,none⟩ (.int .i64 1)).heap[b]?=w9.heap[b]?:=fun b hn=>by simp[World.setCell,Array.getElem?_modify,Ne.symm hn]
   replace K1:=Hd (K1.out.far (w':=w9.setCell ⟨g2,0,none⟩ (.int .i64 1)) (by simp[World.setCell]) HW.out.e (by decide) (Nat.zero_le _) (fun b _ hn=>hk2 b hn))
   replace K2:=Hd (K2.out.far (w':=w9.setCell ⟨g2,0,none⟩ (.int .i64 1)) (by simp[World.setCell]) HW.out.e (by decide) (Nat.zero_le _) (fun b _ hn=>hk2 b hn))
   replace HW:=Hd (HW.out.set_len 1)
   replace HV:=Hd (HV.out.other h12 0 (.int .i64 1))
   replace HB:=Hd (HB.out.setCell (p:=⟨g2,0,none⟩) hn2 (.int .i64 1))
   obtain⟨w10,hw10⟩:=Xq (w9.setCell ⟨g2,0,none⟩ (.int .i64 1))
   rw[← hw10]at HV HW HB K1 K2 ⊢
   clear hw10 hk2
   have HSC:=Hd (show Calls Tryz.prog 59 #[.agg (clipG { S with len:=1 } (.slice az nx cz)).toArray,.agg (clipG { U with len:=1 } (.slice au ny cu)).toArray] w10 fun e w'=>e=.returned (.bool (decide (Trk.one c x=Trk.one d y)))∧Below w10.heap.size w10 w' from by
    have hr:=rsameclip_any (Trk.one c x) (Trk.one d y) (.slice az nx cz) (.slice au ny cu) w10 K1.out.it K2.out.it
    rw[HS.out,HUS.out]
    exact hr)
   apply wp_region_lit
   refine wpl_loadG HV.out.ga rfl rfl rfl ?_
   refine wpl_loadG HW.out.ga rfl rfl rfl ?_
   simp only[Act.put,sA1,sB1,sC1]
   obtain⟨C1,hC1⟩:=Xq ((clipG { S with len:=1 } (.slice az nx cz)).toArray)
   obtain⟨C2,hC2⟩:=Xq ((clipG { U with len:=1 } (.slice au ny cu)).toArray)
   rw[← hC1,← hC2]at HSC ⊢
   clear hC1 hC2
   go_wp2_with fail
   refine HSC.out.mono ?_
   rintro e w11 ⟨rfl,hb⟩
   replace HB:=Tb HB hb
   clear hb HV HW K1 K2 HSC SC SD
   by_cases hone:Trk.one c x=Trk.one d y
   ·have HO:=Hd hone
    rw[decide_eq_true hone]
    clear hone
    go_wp2_with fail
    obtain⟨t,ht⟩:=Xq ((if M-p<(if y<x then y+1 else x+1) then M-p else if y<x then y+1 else x+1))
    rw[← ht]
    have ht2:t≤x+1∧t≤y+1∧t≤M-p∧1≤t:=by
     rw[ht]
     split<;>split<;>omega
    clear ht
    obtain⟨t1,t2,t3,t4⟩:=ht2
    refine⟨⟨p+t,rfl,by omega,by omega,Hd (tail_more HVN.out.good HVM.out.good HXY.out.1 HXY.out.2 hxc hyd HCD.out.1 HCD.out.2 HO.out HF.out t1 t2),HB.out⟩,?_⟩
    simp only[intOf]
    omega
   have HO:=Hd hone
   rw[decide_eq_false hone]
   clear hone
   go_wp2_with fail
   go_ret
   exact⟨p,rfl,⟨p0,p1,fun k k0 k1=>by rw[← HAB.out.1,← HAB.out.2];exact HF.out k k0 k1,fun _=>by
    rw[← HAB.out.1,← HAB.out.2,tail_at HVN.out.good HXY.out.1 x0 hxc HCD.out.1,tail_at HVM.out.good HXY.out.2 y0 hyd HCD.out.2]
    exact HO.out⟩,HB.out⟩
  have hp:p=M:=by omega
  subst hp
  go_wp2_with fail
  go_ret
  refine⟨p,rfl,⟨p0,Int.le_refl _,fun k k0 k1=>by rw[← HAB.out.1,← HAB.out.2];exact HF.out k k0 k1,fun h=>by omega⟩,HB.out⟩
end Go.Proofs.YtfoohocgdcgbcaaGreat
