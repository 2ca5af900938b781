/- Texts of this claim joined: VD VE VF VG VH VI. -/
import Derived.Test.YtfoohocgdcgbcaaGreatMe08
import Derived.Test.YtfoohocgdcgbcaaGreatSq
set_option linter.unusedVariables false
set_option linter.unusedSimpArgs false
set_option maxRecDepth 100000
set_option maxHeartbeats 40000000
namespace Go.Proofs.YtfoohocgdcgbcaaGreat
open Go.Trk
open Go.RowKit
structure VT (L:Int) (l:List Clip):Prop where
 v:VL L l
 n:l.length≤64
 t:Trk.total l≤2147483647
theorem VC.yes {L:Int} {c:Clip} (h:Trk.VC L c) (hL:L≤140737488355328) (w:World):Calls Tryz.prog 89 #[clipV c] w fun e w'=>e=.returned (.bool true)∧Below w.heap.size w w':=by
 have ho:=off_le h
 have hl:=h.l.1
 have hl2:=h.l.2.1
 refine(vclip_any c w h.c hL (by omega) (by omega) (by omega) (by omega) (by omega) (by omega)).mono ?_
 rintro e w' ⟨rfl,hb⟩
 rw[decide_eq_true h.l]
 exact⟨rfl,hb⟩
theorem vtrack_any {L:Int} (v:Value) (l:List Clip) (w:World) (h:Tk w v l) (hV:VT L l) (hL:L≤140737488355328) :
  Calls Tryz.prog 47 #[v] w fun e w'=>e=.returned (.bool true)∧Below w.heap.size w w':=by
 obtain⟨ao,cap,rfl,hc1,hc2,hT⟩:=h
 have HT:=Hd (show Tk w (.slice ao l.length cap) l from⟨ao,cap,rfl,hc1,hc2,hT⟩)
 clear hT
 have HG:=Hd hV.v
 have HTT:=Hd hV.t
 have hl:=hV.n
 obtain⟨N,hN⟩:=Xq (l.length)
 rw[← hN]at hl hc1
 have HLe:=Hd hN
 rw[← hN]
 clear hV hN hc2
 go_enter Tryz.func47,Tryz.ntmps47
 go_wp2_with fail
 go_loopw [3,11] (fun v3 v8 wr=>∃ k:Nat,k≤N∧v8=.int .i64 (k:Int)∧v3=.int .i64 (Trk.total (l.take k))∧Below w.heap.size w wr) (fun _ i _=>N-(intOf i).toNat)
 case atStart=>exact⟨0,Nat.zero_le _,rfl,rfl,Below.refl _ _⟩
 case round=>
  obtain⟨k,hk,rfl,rfl,hb⟩:=hrel
  by_cases hlt:k<N
  ·have hlt':(k:Int)<(N:Int):=by omega
   have hkl:k<l.length:=by rw[← HLe.out];exact hlt
   obtain⟨c,hc⟩:∃ c,l[k]?=some c:=⟨_,List.getElem?_eq_getElem hkl⟩
   obtain⟨ao',cap',e,_,_,hT⟩:=HT.out.below hb
   simp only[Value.slice.injEq,true_and]at e
   obtain⟨rfl,rfl⟩:=e
   obtain⟨b,o,rfl,hA⟩:=hT k c hc
   clear hT
   have hn:Trk.total (l.take (k+1))=Trk.total (l.take k)+c.len:=by
    rw[List.take_add_one,hc]
    show Trk.total (l.take k++[c])=_
    rw[total_append]
    show _+(c.len+0)=_
    omega
   have h1:=total_take l HG.out.good (k+1)
   have h2:=total_nonneg (l:=l.take k) (fun x hx=>HG.out.good x (List.mem_of_mem_take hx))
   have hvc:=HG.out c (List.mem_of_getElem? hc)
   have h3:=hvc.good.l
   have h4:=HTT.out
   obtain⟨s,hs⟩:=Xq (Trk.total (l.take k))
   rw[← hs]at hn h2 ⊢
   have h5:s+c.len≤2147483647:=by omega
   have HN:=Hd hn
   have HA:=Hd hA
   have HB:=Hd hb
   have HC:=Hd hc
   have HVC:=Hd (fun w=>VC.yes hvc hL w)
   unfold clipV at HVC
   clear hA hb hc hkl hn h1 h4 hs hvc
   go_upto_region 6 with fail
   apply wp_region_lit
   iterate 3 go_step
   refine wpl_load HA.out rfl rfl rfl ?_
   refine wpl_alloc rfl rfl (fun w2 hg hb2 hs2=>?_)
   obtain⟨g,hgg⟩:=Xq (wr.heap.size)
   rw[← hgg]at hg ⊢
   have hgn:w.heap.size≤g:=by rw[hgg];exact HB.out.size
   have HB2:=Hd (HB.out.trans (hb2.mono HB.out.size))
   clear hb2 hs2 hgg HA
   refine wpl_store c hg rfl rfl rfl rfl ?_
   intro w3 hv ho3 hb3
   have HB3:=Hd (hb3 _ _ hgn HB2.out)
   clear ho3 hb3 hg HB2
   have HV:=Hd hv
   clear hv
   simp only[Act.put,sA1,sB1,sC1]
   obtain⟨C,hC⟩:=Xq ((clipC c).toArray)
   rw[← hC]at HVC ⊢
   have HCC:=Hd hC
   clear hC
   go_upto_region 7 with fail
   apply wp_region_lit
   refine wpl_load HV.out.c rfl rfl rfl ?_
   rw[← HCC.out]
   simp only[Act.put,sA1,sB1,sC1]
   go_wp2_with fail
   refine(HVC.out _).mono ?_
   rintro e w4 ⟨rfl,hb⟩
   have HV4:=Hd (HV.out.below hb)
   have HB4:=Tb HB3 hb
   clear hb HV HB3
   have x0:=HV4.out.c.at0.1
   go_wp2_with fail
   go_roundw
   case rel=>exact⟨k+1,by omega,by simp,by rw[HN.out],HB4.out⟩
   case measure=>
    show N-(intOf (.int .i64 ((k:Int)+1))).toNat<N-(intOf (.int .i64 (k:Int))).toNat
    simp[intOf]
    omega
  have hkl:k=N:=by omega
  have e:l.take k=l:=List.take_of_length_le (by rw[← HLe.out];omega)
  rw[e]
  have HB:=Hd hb
  have ht:=HTT.out
  obtain⟨s,hs⟩:=Xq (Trk.total l)
  rw[← hs]at ht ⊢
  clear hb e hs
  subst hkl
  go_wp2_with fail
  go_ret
  first |exact⟨rfl,HB.out⟩ |exact⟨ret_bool (by simpa using ht),HB.out⟩
theorem VT.okc {L:Int} {l:List Clip} (h:VT L l) (hL:L≤140737488355328):∀ c∈l,OkC c:=fun c hc=>VC.okC (h.v c hc) hL
def OTPost (w:World) (l:List Clip) (e:Ending) (w':World):Prop:=∃ v',e=.returned v'∧OT w' w.heap.size v' l∧Below w.heap.size w w'
theorem packs_any {L:Int} (v:Value) (l:List Clip) (w:World) (h:Tk w v l) (hV:VT L l) (hL:L≤140737488355328) :
  Calls Tryz.prog 60 #[v] w (OTPost w (pk l)):=by
 have HT:=Hd h
 have H1:=Hd (fun w (h:Tk w v l)=>vtrack_any v l w h hV hL)
 have H2:=Hd (fun w (h:Tk w v l)=>pack_any v l w h (hV.okc hL) (by have:=hV.n;omega) (by have:=hV.t;omega))
 clear h hV
 go_enter Tryz.func60,Tryz.ntmps60
 go_wp2_with fail
 refine(H1.out _ HT.out).mono ?_
 rintro e w1 ⟨rfl,hb⟩
 have HB:=Hd hb
 clear hb
 go_wp2_with fail
 refine(H2.out _ (HT.out.below HB.out)).mono ?_
 rintro e w2 ⟨v',rfl,ho,hb⟩
 have HO:=Hd (And.intro ho hb)
 clear ho hb
 go_wp2_with fail
 go_ret
 have ho:=HO.out.1
 refine⟨_,rfl,?_,HB.out.trans (HO.out.2.mono HB.out.size)⟩
 rcases ho with⟨a,b,c⟩ |⟨g,cap,cur,a,b,c⟩
 ·exact .inl ⟨a,b,c⟩
 exact .inr ⟨g,cap,cur,a,Nat.le_trans HB.out.size b,c⟩
theorem OT.drop {w:World} {B g cap k:Nat} {q:List Clip} {p:Clip} (h:OT w B (.slice (some ⟨g,0,none⟩) k cap) (q++[p])):OT w B (.slice (some ⟨g,0,none⟩) q.length cap) q:=by
 rcases h with⟨e,_⟩ |⟨g',cap',cur,e,hB,hg,hk,hc,hs,ht,hl⟩
 ·simp at e
 simp only[Value.slice.injEq,Option.some.injEq,Addr.mk.injEq,and_true,true_and]at e
 obtain⟨rfl,rfl,rfl⟩:=e
 have hlen:(q++[p]).length=q.length+1:=by simp
 refine Or.inr ⟨g,cap,cur,rfl,hB,hg,by omega,hc,hs,?_,cells_length q⟩
 rw[hlen,cells_append]at ht
 have h2:=congrArg (List.take (q.length*22)) ht
 rw[List.take_take,Nat.min_eq_left (by omega),List.take_append_of_le_length (by rw[cells_length];exact Nat.le_refl _),List.take_of_length_le (l:=cells q) (by rw[cells_length];exact Nat.le_refl _)]at h2
 exact h2
theorem normal_any {L:Int} (v:Value) (l:List Clip) (w:World) (h:Tk w v l) (hV:VT L l) (hL:L≤140737488355328) :
  Calls Tryz.prog 21 #[v] w (OTPost w (nf l)):=by
 have HT:=Hd h
 have H1:=Hd (fun w (h:Tk w v l)=>packs_any v l w h hV hL)
 have hn:(pk l).length≤64:=Nat.le_trans (pk_of hV.v.good).n hV.n
 unfold nf
 obtain⟨P,hP⟩:=Xq (pk l)
 rw[← hP]at H1 hn ⊢
 clear h hV hP
 go_enter Tryz.func21,Tryz.ntmps21
 go_wp2_with fail
 refine(H1.out _ HT.out).mono ?_
 rintro e w1 ⟨v',rfl,ho,hb⟩
 have HB:=Hd hb
 have HO:=Hd ho
 clear hb ho
 obtain⟨rfl,rfl⟩ |⟨g,cap,rfl⟩:=HO.out.shape
 ·go_wp2_with fail
  go_ret
  exact⟨_,rfl,HO.out,HB.out⟩
 cases hp:P.getLast? with
 |none=>
  have e0:P=[]:=List.getLast?_eq_none_iff.1 hp
  subst e0
  clear hp
  simp only[List.length_nil]
  go_wp2_with fail
  go_ret
  exact⟨_,rfl,HO.out,HB.out⟩
 | some p =>
  have hs:=getLast_split hp
  have HD:=Hd (show dropGap P=if p.kind=0 then P.dropLast else P by unfold dropGap;rw[hp])
  obtain⟨q,hq⟩:=Xq (P.dropLast)
  rw[← hq]at hs HD
  clear hp hq
  subst hs
  have hlen:(q++[p]).length=q.length+1:=by simp
  rw[hlen]at hn HO ⊢
  obtain⟨hB2,_,_,hcs⟩:=HO.out.own
  have HCP:=Hd (hcs q.length p (by simp))
  have HDR:=Hd HO.out.drop
  obtain⟨n,hn2⟩:=Xq (q.length)
  rw[← hn2]at hn HO HCP HDR ⊢
  have hcap:n+1≤cap:=by
   obtain⟨ao,c',e,h1,h2,_⟩:=HO.out.tk
   simp only[Value.slice.injEq]at e
   rw[hlen,← hn2]at h1
   omega
  have z1:=HCP.out.k1
  clear hlen hcs hn2 HT H1 HCP
  by_cases hk:p.kind=0
  ·have HR:=Hd (HD.out.trans (if_pos hk))
   rw[hk]at z1
   clear hk HD
   go_wp2_with fail
   go_ret
   rw[HR.out]
   exact⟨_,rfl,HDR.out,HB.out⟩
  have HR:=Hd (HD.out.trans (if_neg hk))
  clear HD
  go_wp2_with fail
  go_ret
  rw[HR.out]
  exact⟨_,rfl,HO.out,HB.out⟩
def findL:List Clip→Int→Nat→Option (Nat×Int)
 |[],_,_=>none
 |c::l,n,i=>if n<c.len then some (i,n) else findL l (n-c.len) (i+1)
theorem findL_some:∀ {l:List Clip} {n:Int} {i:Nat},0≤n→n<Trk.total l→∃ j m,findL l n i=some (i+j,m)∧j<l.length∧0≤m∧m=n-Trk.total (l.take j)∧∃ c,l[j]?=some c∧m<c.len
 |[],n,i,h0,h1=>by simp[Trk.total]at h1;omega
 | c :: l, n, i, h0, h1 => by
  unfold findL
  by_cases h:n<c.len
  ·rw[if_pos h]
   exact⟨0,n,rfl,by simp,h0,by simp[Trk.total],c,rfl,h⟩
  rw[if_neg h]
  rw[total_cons]at h1
  obtain⟨j,m,e,hj,hm,hm2,d,hd,hd2⟩:=findL_some (l:=l) (n:=n-c.len) (i:=i+1) (by omega) (by omega)
  refine⟨j+1,m,by rw[e];congr 2;omega,by simp;omega,hm,?_,d,by simpa using hd,hd2⟩
  rw[List.take_succ_cons,total_cons]
  omega
theorem findL_none:∀ {l:List Clip} {n:Int} {i:Nat},GoodL l→Trk.total l≤n→findL l n i=none
 |[],n,i,_,h1=>rfl
 |c::l,n,i,g,h1=>by
  unfold findL
  rw[total_cons]at h1
  have:=total_nonneg g.tail
  rw[if_neg (by omega)]
  exact findL_none g.tail (by omega)
def findV (r:Option (Nat×Int)):Value:=match r with
 |some (i,m)=>.tuple #[.int .i64 (i:Int),.int .i64 m,.bool true]
 |none=>.tuple #[.int .i64 0,.int .i64 0,.bool false]
theorem findL_drop (l:List Clip) (n:Int) (k:Nat) {c:Clip} (h:l[k]?=some c) (r:Int) (i:Nat):findL (l.drop k) r i=if r<c.len then some (i,r) else findL (l.drop (k+1)) (r-c.len) (i+1):=by
 have hk:=(List.getElem?_eq_some_iff.1 h).1
 have e:l.drop k=c::l.drop (k+1):=by
  rw[List.drop_eq_getElem_cons hk]
  congr 1
  exact Option.some.inj ((List.getElem?_eq_getElem hk).symm.trans h)
 rw[e]
 rfl
theorem find_any {L:Int} (v:Value) (l:List Clip) (n:Int) (w:World) (h:Tk w v l) (hV:VT L l) (n0:0≤n) (n1:n≤2147483647) :
  Calls Tryz.prog 68 #[v,.int .i64 n] w fun e w'=>e=.returned (findV (findL l n 0))∧Below w.heap.size w w':=by
 obtain⟨ao,cap,rfl,hc1,hc2,hT⟩:=h
 have HT:=Hd (show Tk w (.slice ao l.length cap) l from⟨ao,cap,rfl,hc1,hc2,hT⟩)
 clear hT
 have HG:=Hd hV.v
 have hl:=hV.n
 obtain⟨R,hR⟩:=Xq (findV (findL l n 0))
 rw[← hR]
 have HR:=Hd hR
 clear hR
 obtain⟨N,hN⟩:=Xq (l.length)
 rw[← hN]at hl hc1
 have HLe:=Hd hN
 rw[← hN]
 clear hV hN hc2
 go_enter Tryz.func68,Tryz.ntmps68
 go_wp2_with fail
 go_loopw [1,13] (fun v1 v13 wr=>∃ (k:Nat) (r:Int),k≤N∧v13=.int .i64 (k:Int)∧v1=.int .i64 r∧0≤r∧r≤2147483647∧Hid (R=findV (findL (l.drop k) r k))∧Below w.heap.size w wr) (fun _ i _=>N-(intOf i).toNat)
 case atStart=>exact⟨0,n,Nat.zero_le _,rfl,rfl,n0,n1,HR,Below.refl _ _⟩
 case round=>
  obtain⟨k,r,hk,rfl,rfl,r0,r1,HQ,hb⟩:=hrel
  by_cases hlt:k<N
  ·have hlt':(k:Int)<(N:Int):=by omega
   have hkl:k<l.length:=by rw[← HLe.out];exact hlt
   obtain⟨c,hc⟩:∃ c,l[k]?=some c:=⟨_,List.getElem?_eq_getElem hkl⟩
   obtain⟨ao',cap',e,_,_,hT⟩:=HT.out.below hb
   simp only[Value.slice.injEq,true_and]at e
   obtain⟨rfl,rfl⟩:=e
   obtain⟨b,o,rfl,hA⟩:=hT k c hc
   clear hT
   have h3:=(HG.out c (List.mem_of_getElem? hc)).good.l
   have h4:=(HG.out c (List.mem_of_getElem? hc)).l.2.1
   have HF:=Hd (HQ.out.trans (congrArg findV (findL_drop l n k hc r k)))
   have HA:=Hd hA
   have HB:=Hd hb
   have HC:=Hd hc
   clear hA hb hc hkl
   go_upto_region 5 with fail
   apply wp_region_lit
   iterate 6 go_step
   refine wpl_load HA.out rfl rfl rfl ?_
   refine wpl_alloc rfl rfl (fun w2 hg hb2 hs2=>?_)
   obtain⟨g,hgg⟩:=Xq (wr.heap.size)
   rw[← hgg]at hg ⊢
   have hgn:w.heap.size≤g:=by rw[hgg];exact HB.out.size
   have HB2:=Hd (HB.out.trans (hb2.mono HB.out.size))
   clear hb2 hs2 hgg HA
   obtain⟨C,hC⟩:=Xq ((clipC c).toArray)
   rw[← hC]
   have HCC:=Hd hC
   clear hC
   simp only[Act.put,sA1,sB1,sC1]
   iterate 3 go_step
   refine wpl_store c hg rfl rfl rfl (by rw[← HCC.out];rfl) ?_
   intro w3 hv ho3 hb3
   have HB3:=Hd (hb3 _ _ hgn HB2.out)
   have x0:=hv.c.at0.1
   clear hv ho3 hb3 hg HB2 HCC
   simp only[Act.put,sA1,sB1,sC1]
   by_cases hr:r<c.len
   ·have HF2:=Hd (HF.out.trans (congrArg findV (if_pos hr)))
    go_wp2_with fail
    refine bodyPost_ret (v:=findV (some (k,r))) (by simp[results,Tryz.results68,go_sem,findV]) rfl ⟨?_,HB3.out⟩
    rw[HF2.out]
   have HF2:=Hd (HF.out.trans (congrArg findV (if_neg hr)))
   go_wp2_with fail
   go_roundw
   case rel=>exact⟨k+1,r-c.len,by omega,by simp,rfl,by omega,by omega,HF2,HB3.out⟩
   case measure=>
    show N-(intOf (.int .i64 ((k:Int)+1))).toNat<N-(intOf (.int .i64 (k:Int))).toNat
    simp[intOf]
    omega
  have hkl:k=N:=by omega
  have e:l.drop k=[]:=List.drop_eq_nil_of_le (by rw[← HLe.out];omega)
  have HF2:=Hd (show R=findV none by rw[HQ.out,e];rfl)
  have HB:=Hd hb
  clear hb e
  subst hkl
  go_wp2_with fail
  refine bodyPost_ret (v:=findV none) (by simp[results,Tryz.results68,go_sem,findV]) rfl ⟨?_,HB.out⟩
  rw[HF2.out]
theorem placed_any {L n:Int} (s:Src) (w:World) (h:Trk.SrcIn L n s) (hL:L≤140737488355328) :
  Calls Tryz.prog 111 #[srcV s] w fun e w'=>e=.returned (.bool true)∧Below w.heap.size w w':=by
 rcases h with rfl |h
 ·simp only[srcV,srcC,black]
  go_enter Tryz.func111,Tryz.ntmps111
  go_upto_region 1 with fail
  obtain⟨w1,hw1⟩:=Xq (w.alloc (.cells #[.int .i64 0,.string ByteArray.empty,.int .i64 0,.int .i64 0,.int .i64 0,.int .i64 0,.bool false] 46))
  rw[← hw1]
  have hb1:Below w.heap.size w w1:=by rw[hw1];exact below_box _ _
  obtain⟨b,hb⟩:=Xq (w.heap.size)
  have c0:C7 w1 b 0 (.int .i64 0) (.string ByteArray.empty) (.int .i64 0) (.int .i64 0) (.int .i64 0) (.int .i64 0) (.bool false):=by rw[hw1,hb];constructor<;>simp[go_sem]
  rw[← hb]
  have HB:=Hd hb1
  clear hw1 hb1
  obtain⟨x0,x1,x2,x3,x4,x5,x6⟩:=c0.at0
  have hq:=run_eq_src black black w1
  simp only[black]at hq
  clear c0 hb
  go_wp2_with fail
  all_goals go_ret
  all_goals exact⟨rfl,HB.out⟩
 obtain⟨a0,a1,s0,s1,n0,n1,v0,v1⟩:=h.nums
 obtain⟨f0,f1⟩:=h.far hL
 have HA:=Hd (fun w=>bounded_at s.an s.ad w a0 (by omega) h.lat.g.a1 (by omega) (by omega))
 have hk:=h.k
 clear a0 a1 s0 s1 n0 n1 v0 v1 f0 f1 h
 obtain⟨k,nm,an,ad,sn,sd,sm⟩:=s
 simp only at HA hk
 simp only[srcV,srcC]
 go_enter Tryz.func111,Tryz.ntmps111
 go_upto_region 1 with fail
 obtain⟨w1,hw1⟩:=Xq (w.alloc (.cells #[.int .i64 k,.string nm,.int .i64 an,.int .i64 ad,.int .i64 sn,.int .i64 sd,.bool sm] 46))
 rw[← hw1]
 have hb1:Below w.heap.size w w1:=by rw[hw1];exact below_box _ _
 obtain⟨b,hb⟩:=Xq (w.heap.size)
 have c0:C7 w1 b 0 (.int .i64 k) (.string nm) (.int .i64 an) (.int .i64 ad) (.int .i64 sn) (.int .i64 sd) (.bool sm):=by rw[hw1,hb];constructor<;>simp[go_sem]
 rw[← hb]
 have HB:=Hd hb1
 clear hw1 hb1
 obtain⟨x0,x1,x2,x3,x4,x5,x6⟩:=c0.at0
 clear c0 hb
 rcases hk with rfl |rfl
 all_goals
  go_wp2_with fail
  refine(HA.out _).mono ?_
  rintro e w2 ⟨rfl,hb⟩
  go_wp2_with fail
  go_ret
  exact⟨rfl,HB.out.trans (hb.mono HB.out.size)⟩
theorem results_clip2 {fn:Func} {tmps:Array Value} {w:World} {s t:Tmp} {b:Nat} {c:Clip} {v:Value} (hr:fn.results=#[.cell s 48,.tmp t]) (ht:tmps.getD s undef=.pointer (some ⟨b,0,none⟩)) (hv:tmps.getD t undef=v) (hc:CA w b 0 c):(results fn tmps).run Tryz.prog w=.ok (.tuple #[.agg (clipC c).toArray,v]) w:=by
 have h:=run_loadVar_mid (P:=Tryz.prog) w b 0 48 (clipC c) _ hc.range Tryz.underlying48 rfl (by kernel_rfl)
 obtain⟨C,hC⟩:=Xq ((clipC c).toArray)
 rw[← hC]at h ⊢
 unfold results
 rw[hr]
 have ht2:tmps[s]?.getD undef=.pointer (some ⟨b,0,none⟩):=by rw[← Array.getD_eq_getD_getElem?];exact ht
 have hv2:tmps[t]?.getD undef=v:=by rw[← Array.getD_eq_getD_getElem?];exact hv
 simp[ht2,hv2,asAddr,h]
theorem CV.src_b {w:World} {b:Nat} {c:Clip} (h:CV w b c):C7 w b 9 (.int .i64 c.b.kind) (.string c.b.name) (.int .i64 c.b.an) (.int .i64 c.b.ad) (.int .i64 c.b.sn) (.int .i64 c.b.sd) (.bool c.b.smooth):=by
 obtain⟨x0,x1,x2,x3,x4,x5,x6,x7,x8,x9,x10,x11,x12,x13,x14,x15,x16,x17,x18,x19,x20,x21⟩:=h.c.at0
 exact⟨x9,x10,x11,x12,x13,x14,x15⟩
theorem advance_any {L:Int} (c:Clip) (n:Int) (w:World) (hV:Trk.VC L c) (hL:L≤140737488355328) (n0:0≤n) (n1:n<c.len) :
  Calls Tryz.prog 69 #[clipV c,.int .i64 n] w fun e w'=>e=.returned (.tuple #[clipV (withLen (shift c n) (c.len-n)),.int .i64 0])∧Below w.heap.size w w':=by
 have hl:=hV.l.2.1
 have ho:=off_le hV
 have HVC:=Hd (fun w=>VC.yes hV hL w)
 have HCP:=Hd (fun w=>copied_any c w)
 have HMA:=Hd (fun w=>moved_any c.a n w (SrcIn.oks hV.c.a hL) (by omega))
 have HMB:=Hd (fun w=>moved_any c.b n w (SrcIn.oks hV.c.b hL) (by omega))
 have hp:Trk.VC L (withLen (shift c n) (c.len-n)):=hV.piece n0 (by omega) (by omega)
 have HPA:=Hd (fun w=>placed_any _ w hp.c.a hL)
 have HPB:=Hd (fun w=>placed_any _ w hp.c.b hL)
 have HSH:=Hd (fun w=>share_any c.kind w)
 have hea:(withLen (shift c n) (c.len-n)).a=moved c.a n:=rfl
 have heb:(withLen (shift c n) (c.len-n)).b=moved c.b n:=rfl
 rw[hea]at HPA
 rw[heb]at HPB
 obtain⟨ma,hma⟩:=Xq (moved c.a n)
 obtain⟨mb,hmb⟩:=Xq (moved c.b n)
 obtain⟨of,hof2⟩:=Xq ((if shares c.kind=true then c.off+n else c.off))
 have hres:withLen (shift c n) (c.len-n)={ c with len:=c.len-n,a:=ma,b:=mb,off:=of }:=by rw[hma,hmb,hof2];rfl
 rw[hres]
 rw[← hma]at HMA HPA
 rw[← hmb]at HMB HPB
 clear hma hmb hres hea heb hp hV
 unfold clipV at HVC HCP ⊢
 simp only[srcV,srcC]at HMA HMB HPA HPB
 have HOF:=Hd hof2
 clear hof2
 obtain⟨C,hC⟩:=Xq ((clipC c).toArray)
 rw[← hC]at HVC HCP ⊢
 have HC:=Hd hC
 clear hC
 obtain⟨E,hE⟩:=Xq ((clipC { c with len:=c.len-n,a:=ma,b:=mb,off:=of }).toArray)
 rw[← hE]
 have HE:=Hd hE
 clear hE
 go_enter Tryz.func69,Tryz.ntmps69
 go_upto_region 1 with fail
 obtain⟨w1,hw1⟩:=Xq ((w.alloc (.cells C 48)).alloc (.cells (clipC (gap 0)).toArray 48))
 have hw1':=hw1
 simp only[clipC,gap,black,show(ByteArray.empty:ByteArray)=⟨#[]⟩ from rfl]at hw1'
 rw[← hw1']
 clear hw1'
 rw[HC.out]at hw1
 obtain⟨hx,hy,hb1⟩:CV w1 w.heap.size c∧CV w1 (w.heap.size+1) (gap 0)∧Below w.heap.size w w1:=by
  subst hw1
  refine⟨(CV.box w c 48).below (below_box _ _),?_,by go_grown⟩
  have h2:=CV.box (w.alloc (.cells (clipC c).toArray 48)) (gap 0) 48
  rw[show(w.alloc (.cells (clipC c).toArray 48)).heap.size=w.heap.size+1 by simp]at h2
  exact h2
 obtain⟨g1,hg1⟩:=Xq (w.heap.size)
 obtain⟨g2,hg2⟩:=Xq (w.heap.size+1)
 rw[← hg2]at hy ⊢
 rw[← hg1]at hx ⊢
 have hne:g1≠g2:=by omega
 have hn1:w.heap.size≤g1:=by omega
 have hn2:w.heap.size≤g2:=by omega
 clear hw1 hg1 hg2
 apply wp_region_lit
 refine wpl_load hx.c rfl rfl rfl ?_
 rw[← HC.out]
 simp only[Act.put,sA1,sB1,sC1]
 have HX:=Hd hx
 have HY:=Hd hy
 have HB:=Hd hb1
 clear hx hy hb1
 go_wp2_with fail
 refine(HVC.out _).mono ?_
 rintro e w2 ⟨rfl,hb⟩
 replace HX:=Hd (HX.out.below hb)
 replace HY:=Hd (HY.out.below hb)
 replace HB:=Tb HB hb
 clear hb
 have x0:=HX.out.c.at0.1
 go_upto_region 3 with fail
 apply wp_region_lit
 refine wpl_load HX.out.c rfl rfl rfl ?_
 rw[← HC.out]
 simp only[Act.put,sA1,sB1,sC1]
 iterate 2 go_step
 refine(HCP.out _).mono ?_
 rintro e w3 ⟨rfl,hb⟩
 replace HX:=Hd (HX.out.below hb)
 replace HY:=Hd (HY.out.below hb)
 replace HB:=Tb HB hb
 clear hb x0
 dsimp only
 go_step
 refine wpl_store c HX.out rfl rfl rfl (by rw[← HC.out];rfl) ?_
 intro w4 hv ho4 hb4
 replace HY:=Hd (ho4 _ _ hne.symm HY.out)
 replace HB:=Hd (hb4 _ _ hn1 HB.out)
 replace HX:=Hd hv
 clear hv ho4 hb4
 simp only[Act.put,sA1,sB1,sC1]
 have x0:=HX.out.c.at0.1
 have xf:=HX.out.f
 go_upto_region 5 with fail
 replace HY:=Hd (HY.out.other hne.symm 0 (.int .i64 (c.len-n)))
 replace HB:=Hd (HB.out.setCell (p:=⟨g1,0,none⟩) hn1 (.int .i64 (c.len-n)))
 replace HX:=Hd (HX.out.set_len (c.len-n))
 clear x0 xf
 obtain⟨w5,hw5⟩:=Xq (w4.setCell ⟨g1,0,none⟩ (.int .i64 (c.len-n)))
 rw[← hw5]at HX HY HB ⊢
 clear hw5
 go_cut [] from 28 (fun wx=>CV wx g1 { c with len:=c.len-n,a:=ma,b:=mb }∧CV wx g2 (gap 0)∧Below w.heap.size w wx)
 case first J K' h1 h2=>
  refine Plan.wp_region_planz (fun w'=>C7 w' g1 9 (.int .i64 c.b.kind) (.string c.b.name) (.int .i64 c.b.an) (.int .i64 c.b.ad) (.int .i64 c.b.sn) (.int .i64 c.b.sd) (.bool c.b.smooth)) 11 (([0,2,4,5,6].map (·,true))++(([1,3].map (·,false))++(([8].map (·,true))++(([7,9].map (·,false))++(([10].map (·,true))++([11].map (·,false))))))) (by kernel_rfl) (by kernel_rfl) (by kernel_rfl) (HX.out.src_b.below (Below.refl _ _).drew) ?_
  refine' Plan.plan_seg _ [0,2,4,5,6] (([1,3].map (·,false))++(([8].map (·,true))++(([7,9].map (·,false))++(([10].map (·,true))++([11].map (·,false)))))) (by kernel_rfl) (by kernel_rfl) rfl (by exact HX.out.src_b.below (Below.refl _ _).drew) (fun wx hS=>?_) ?_
  rotate_left
  ·obtain⟨x9,x10,x11,x12,x13,x14,x15⟩:=hS
   simp only[show 9+1=10 from rfl,show 9+2=11 from rfl,show 9+3=12 from rfl,show 9+4=13 from rfl,show 9+5=14 from rfl,show 9+6=15 from rfl]at x10 x11 x12 x13 x14 x15
   go_light
   iterate 5 (apply Plan.seg_pick;rfl;intro K hK;go_wp)
   exact Plan.seg_nil
  obtain⟨w6,hw6⟩:=Xq (w5.drew)
  rw[← hw6]
  have hb:Below w5.heap.size w5 w6:=by rw[hw6];exact(Below.refl _ _).drew
  replace HX:=Hd (HX.out.below hb)
  replace HY:=Hd (HY.out.below hb)
  replace HB:=Tb HB hb
  clear hb hw6
  refine Plan.plan_of_effect rfl (fun K hK=>?_)
  obtain⟨_,_,x2,x3,x4,x5,x6,x7,x8,_⟩:=HX.out.c.at0
  go_wp2_with fail
  clear x2 x3 x4 x5 x6 x7 x8
  refine⟨HX.out.src_b,?_⟩
  refine Plan.plan_of_effect rfl (fun K hK=>?_)
  go_wp2_with fail
  refine(HMA.out _).mono ?_
  rintro e w7 ⟨rfl,hb⟩
  replace HX:=Hd (HX.out.below hb)
  replace HY:=Hd (HY.out.below hb)
  replace HB:=Tb HB hb
  clear hb
  go_wp2_with fail
  refine⟨HX.out.src_b,?_⟩
  refine' Plan.plan_seg (S:=(fun w'=>C7 w' g1 9 (.int .i64 c.b.kind) (.string c.b.name) (.int .i64 c.b.an) (.int .i64 c.b.ad) (.int .i64 c.b.sn) (.int .i64 c.b.sd) (.bool c.b.smooth))) _ [8] (([7,9].map (·,false))++(([10].map (·,true))++([11].map (·,false)))) (by kernel_rfl) (by kernel_rfl) rfl (by exact HX.out.src_b) (fun wx hS=>?_) ?_
  rotate_left
  ·clear hS
   go_light
   iterate 1 (apply Plan.seg_pick;rfl;intro K hK;go_wp)
   exact Plan.seg_nil
  refine Plan.plan_of_effect rfl (fun K hK=>?_)
  go_wp2_with fail
  refine(HMB.out _).mono ?_
  rintro e w8 ⟨rfl,hb⟩
  replace HX:=Hd (HX.out.below hb)
  replace HY:=Hd (HY.out.below hb)
  replace HB:=Tb HB hb
  clear hb
  go_wp2_with fail
  refine⟨HX.out.src_b,?_⟩
  refine Plan.plan_of_effect rfl (fun K hK=>?_)
  obtain⟨_,_,x2,x3,x4,x5,x6,x7,x8,_⟩:=HX.out.c.at0
  have xf:=HX.out.f
  go_wp2_with fail
  clear x2 x3 x4 x5 x6 x7 x8 xf
  replace HY:=Hd (HY.out.other_a hne.symm ma)
  replace HB:=Hd (below_set_a HB.out hn1 ma)
  replace HX:=Hd (HX.out.set_a ma)
  obtain⟨w9,hw9⟩:=Xq ((((((((w8.setCell ⟨g1,2,none⟩ (.int .i64 ma.kind)).setCell ⟨g1,3,none⟩ (.string ma.name)).setCell ⟨g1,4,none⟩ (.int .i64 ma.an)).setCell ⟨g1,5,none⟩ (.int .i64 ma.ad)).setCell ⟨g1,6,none⟩ (.int .i64 ma.sn)).setCell ⟨g1,7,none⟩ (.int .i64 ma.sd)).setCell ⟨g1,8,none⟩ (.bool ma.smooth)))
  rw[← hw9]at HX HY HB ⊢
  clear hw9
  refine⟨HX.out.src_b,?_⟩
  refine' Plan.plan_seg (S:=(fun w'=>C7 w' g1 9 (.int .i64 c.b.kind) (.string c.b.name) (.int .i64 c.b.an) (.int .i64 c.b.ad) (.int .i64 c.b.sn) (.int .i64 c.b.sd) (.bool c.b.smooth))) _ [10] ([11].map (·,false)) (by kernel_rfl) (by kernel_rfl) rfl (by exact HX.out.src_b) (fun wx hS=>?_) ?_
  rotate_left
  ·clear hS
   go_light
   iterate 1 (apply Plan.seg_pick;rfl;intro K hK;go_wp)
   exact Plan.seg_nil
  refine Plan.plan_of_last rfl (fun K hK=>?_)
  obtain⟨_,_,_,_,_,_,_,_,_,x9,x10,x11,x12,x13,x14,x15,_⟩:=HX.out.c.at0
  have xf:=HX.out.f
  go_wp2_with fail
  replace HY:=Hd (HY.out.other_b hne.symm mb)
  replace HB:=Hd (below_set_b HB.out hn1 mb)
  replace HX:=Hd (HX.out.set_b mb)
  clear x9 x10 x11 x12 x13 x14 x15 xf
  refine Plan.plan_done ?_
  refine h2 _ _ (Met.intro (h1 _ _ ?_))
  (repeat apply Exists.intro)
  exact⟨⟨HX.out,HY.out,HB.out⟩,rfl⟩
 clear HX HY HB
 have HX:=Hd hcut.1
 have HY:=Hd hcut.2.1
 have HB:=Hd hcut.2.2
 clear hcut
 have y1:=HX.out.c.k1
 simp only[Nat.zero_add]at y1
 go_upto_if 40 with(go_at_call 110;refine(HSH.out _).mono ?_;rintro e w' ⟨rfl,rfl⟩)
 clear y1
 go_cut [] from 41 (fun wx=>CV wx g1 { c with len:=c.len-n,a:=ma,b:=mb,off:=of }∧CV wx g2 (gap 0)∧Below w.heap.size w wx)
 case first=>
  have x16:=HX.out.c.k16
  simp only[Nat.zero_add]at x16
  have xf:=HX.out.f
  go_wp2_with fail
  all_goals go_meet
  case rel=>
   rename_i hsh
   have e:=HOF.out
   simp only[hsh,if_true]at e
   rw[e]
   exact⟨HX.out.set_off _,HY.out.other hne.symm _ _,HB.out.setCell (p:=⟨g1,16,none⟩) hn1 _⟩
  case rel=>
   rename_i hsh
   have e:=HOF.out
   simp only[hsh,Bool.false_eq_true,if_false]at e
   rw[e]
   exact⟨HX.out,HY.out,HB.out⟩
 clear HX HY HB
 have HX:=Hd hcut.1
 have HY:=Hd hcut.2.1
 have HB:=Hd hcut.2.2
 clear hcut
 obtain⟨_,_,x2,x3,x4,x5,x6,x7,x8,_⟩:=HX.out.c.at0
 go_wp2_with fail
 refine(HPA.out _).mono ?_
 rintro e w10 ⟨rfl,hb⟩
 replace HX:=Hd (HX.out.below hb)
 replace HY:=Hd (HY.out.below hb)
 replace HB:=Tb HB hb
 clear hb x2 x3 x4 x5 x6 x7 x8
 obtain⟨_,_,_,_,_,_,_,_,_,x9,x10,x11,x12,x13,x14,x15,_⟩:=HX.out.c.at0
 go_wp2_with fail
 refine(HPB.out _).mono ?_
 rintro e w11 ⟨rfl,hb⟩
 replace HX:=Hd (HX.out.below hb)
 replace HY:=Hd (HY.out.below hb)
 replace HB:=Tb HB hb
 clear hb x9 x10 x11 x12 x13 x14 x15
 go_upto_region 10 with fail
 apply wp_region_lit
 refine wpl_load HX.out.c rfl rfl rfl ?_
 rw[← HE.out]
 simp only[Act.put,sA1,sB1,sC1]
 refine wpl_store _ HY.out rfl rfl rfl (by rw[← HE.out];rfl) ?_
 intro w12 hv ho4 hb4
 replace HB:=Hd (hb4 _ _ hn2 HB.out)
 replace HY:=Hd hv
 clear hv ho4 hb4
 simp only[Act.put,sA1,sB1,sC1]
 go_wp2_with fail
 refine bodyPost_ret (v:=.tuple #[.agg E,.int .i64 0]) (by rw[HE.out];exact results_clip2 Tryz.results69 rfl rfl HY.out.c) rfl ⟨rfl,HB.out⟩
theorem cutRaw_zero {c:Clip} {l:List Clip} {n:Int} (h:GoodC c) (hn:0<n):cutRaw (c::l) 0 n=withLen c (min c.len n)::cutRaw l 0 (n-min c.len n):=by
 have:=h.l
 conv=>lhs;unfold cutRaw
 rw[if_neg (by omega),if_neg (by omega),shift_zero h.a h.b,Int.sub_zero]
theorem cutRaw_done (l:List Clip) (f:Int) {n:Int} (hn:n≤0) (h0:0≤n) (g:GoodL l) (hf:0≤f):cutRaw l f n=[]:=by
 induction l generalizing f with
 |nil=>unfold cutRaw;rw[if_neg (by omega)]
 |cons c l ih=>unfold cutRaw;rw[if_pos hn]
theorem cutRaw_out:∀ {l:List Clip} {f n:Int},GoodL l→Trk.total l≤f→0≤n→cutRaw l f n=if 0<n then[gap n] else[]
 |[],f,n,_,_,_=>rfl
 | c :: l, f, n, g, h, hn => by
  rw[total_cons]at h
  have:=total_nonneg g.tail
  unfold cutRaw
  by_cases h0:n≤0
  ·rw[if_pos h0,if_neg (by omega)]
  rw[if_neg h0,if_pos (by omega)]
  exact cutRaw_out g.tail (by omega) hn
theorem cutRaw_at:∀ {l:List Clip} {j:Nat} {c:Clip} {m n:Int},GoodL l→l[j]?=some c→0≤m→m<c.len→0<n →
  cutRaw l (Trk.total (l.take j)+m) n=withLen (shift c m) (min (c.len-m) n)::cutRaw (l.drop (j+1)) 0 (n-min (c.len-m) n)
 |[],j,c,m,n,_,h,_,_,_=>by simp at h
 |d::l,0,c,m,n,g,h,h0,h1,hn=>by
  simp only[List.getElem?_cons_zero,Option.some.injEq]at h
  subst h
  have e:Trk.total (List.take 0 (d::l))+m=m:=by show(0:Int)+m=m;omega
  rw[e]
  conv=>lhs;unfold cutRaw
  rw[if_neg (by omega),if_neg (by omega)]
  rfl
 |d::l,j+1,c,m,n,g,h,h0,h1,hn=>by
  simp only[List.getElem?_cons_succ]at h
  have hd:=g.head.l
  have ht:=total_nonneg (l:=l.take j) (fun x hx=>g.tail x (List.mem_of_mem_take hx))
  have ih:=cutRaw_at (l:=l) g.tail h h0 h1 hn
  rw[List.take_succ_cons,total_cons,List.drop_succ_cons,← ih]
  conv=>lhs;unfold cutRaw
  rw[if_neg (by omega),if_pos (by omega)]
  congr 1
  omega
theorem wpList_appT (T:TypeId) (hT:Tryz.prog.underlying T=some (.slice 48)) (w:World) {ops:Array Oper} {rest:List Oper} {op:Oper} {a:Act} {Q:Exit→Act→World→Prop} (hg:op.guard=none) (s x:Operand)
  (hop:op.op=.call { callee:=.builtin .append,args:=#[s,x],argTypes:=#[T,T] }) (hty:op.type=T) (B:Nat) (v:Value) (l:List Clip) (hs:a.eval s=v) (h:OT w B v l) (hB:B≤w.heap.size)
  (b m:Nat) (c:Clip) (hx:a.eval x=.slice (some ⟨b,0,none⟩) 1 m) (hc:CA w b 0 c) (hl:l.length≤1048576)
  (hK:∀ v' w',OT w' B v' (l++[c])→Below B w w'→(∀ b,b<w.heap.size→(∀ g cap,v=.slice (some ⟨g,0,none⟩) l.length cap→b≠g)→w'.heap[b]?=w.heap[b]?)→w.heap.size≤w'.heap.size→wpList Tryz.prog ops Q rest (a.put op.dst v') w'):wpList Tryz.prog ops Q (op::rest) a w:=by
 refine wpList_plain hg fun K hK'=>?_
 have hadd:∀ j,(⟨b,0,none⟩:Addr).add j=⟨b,0+j,none⟩:=fun j=>Addr.add_mid b 0 j
 obtain⟨v',w',hrun,r1,r2,r3,r4,r5⟩:=append_x w B T 48 22 216 zClip hT info53 zeros53 v l.length (cells l) h hB ⟨b,0,none⟩ 1 m (clipC c) (by rw[clipC_length]) (fun j u hu=>by rw[hadd];exact hc.get j u hu) (clip_one c) (by omega) (by unfold maxLen;omega) (fun cap h1 h2=>growslice_fits h2 (by omega))
 unfold Oper.wp
 simp[execOp,hop,resolve,invoke,builtin,hs,hx,hty,hrun,Result.andThen]
 refine hK' _ _ (hK v' w' ?_ r2 r4 r5)
 show RowX w' B 48 22 v' (l++[c]).length (cells (l++[c]))
 rw[cells_append,List.length_append]
 simpa [cells] using r1
structure RV (w:World) (g1 g2:Nat) (v e:Value):Prop where
 c1:w.cell? ⟨g1,0,none⟩=some v
 c2:w.cell? ⟨g2,0,none⟩=some e
 f1:w.frozen? ⟨g1,0,none⟩=false
 f2:w.frozen? ⟨g2,0,none⟩=false
theorem RV.below {w w':World} {n g1 g2:Nat} {v e:Value} (h:RV w g1 g2 v e) (hb:Below n w w') (h1:g1<n) (h2:g2<n):RV w' g1 g2 v e:=
 ⟨(hb.cell (p:=⟨g1,0,none⟩) h1).trans h.c1,(hb.cell (p:=⟨g2,0,none⟩) h2).trans h.c2,(hb.frozen (p:=⟨g1,0,none⟩) h1).trans h.f1,(hb.frozen (p:=⟨g2,0,none⟩) h2).trans h.f2⟩
theorem RV.lt1 {w:World} {g1 g2:Nat} {v e:Value} (h:RV w g1 g2 v e):g1<w.heap.size:=block_lt_of_cell h.c1
theorem RV.lt2 {w:World} {g1 g2:Nat} {v e:Value} (h:RV w g1 g2 v e):g2<w.heap.size:=block_lt_of_cell h.c2
theorem RV.up {w w':World} {g1 g2:Nat} {v e:Value} (h:RV w g1 g2 v e) (hb:Below w.heap.size w w'):RV w' g1 g2 v e:=h.below hb h.lt1 h.lt2
theorem OT.far {w:World} {B:Nat} {v:Value} {l:List Clip} (h:OT w B v l) {p:Addr} (hp:p.block<B) (u:Value):OT (w.setCell p u) B v l:=by
 obtain⟨rfl,rfl⟩ |⟨g,cap,rfl⟩:=h.shape
 ·exact OT.nil _ _
 refine h.same ?_
 have:=h.own.1
 simp[World.setCell,Array.getElem?_modify,show ¬p.block=g by omega]
theorem OT.apart {w:World} {B:Nat} {v:Value} {l:List Clip} (h:OT w B v l) {p:Addr} (hp:∀ g k cap,v=.slice (some ⟨g,0,none⟩) k cap→p.block≠g) (u:Value):OT (w.setCell p u) B v l:=by
 obtain⟨rfl,rfl⟩ |⟨g,cap,rfl⟩:=h.shape
 ·exact OT.nil _ _
 refine h.same ?_
 simp[World.setCell,Array.getElem?_modify,hp g _ _ rfl]
theorem OT.lower {w:World} {B C:Nat} {v:Value} {l:List Clip} (h:OT w B v l) (hC:C≤B):OT w C v l:=by
 rcases h with⟨a,b,c⟩ |⟨g,cap,cur,a,b,c⟩
 ·exact .inl ⟨a,b,c⟩
 exact .inr ⟨g,cap,cur,a,Nat.le_trans hC b,c⟩
theorem OT.lim {w w':World} {B n:Nat} {v:Value} {l:List Clip} (h:OT w B v l) (hv:∀ g k cap,v=.slice (some ⟨g,0,none⟩) k cap→g<n) (hb:Below n w w'):OT w' B v l:=by
 obtain⟨rfl,rfl⟩ |⟨g,cap,rfl⟩:=h.shape
 ·exact OT.nil _ _
 exact h.same (hb.block g (hv g _ _ rfl))
theorem RV.set2 {w:World} {g1 g2:Nat} {v e:Value} (h:RV w g1 g2 v e) (hne:g1≠g2) (u:Value):RV (w.setCell ⟨g2,0,none⟩ u) g1 g2 v u:=by
 obtain⟨h1,h2,h3,h4⟩:=h
 exact⟨by simp[go_sem,h1,hne,hne.symm],by simp[go_sem,h2],by simp[go_sem,h3],by simp[go_sem,h4]⟩
theorem RV.other {w:World} {g1 g2:Nat} {v e:Value} (h:RV w g1 g2 v e) {g:Nat} (n1:g1≠g) (n2:g2≠g) (o:Nat) (u:Value):RV (w.setCell ⟨g,o,none⟩ u) g1 g2 v e:=by
 obtain⟨h1,h2,h3,h4⟩:=h
 exact⟨by simp[go_sem,h1,n1,n1.symm],by simp[go_sem,h2,n2,n2.symm],by simp[go_sem,h3],by simp[go_sem,h4]⟩
theorem CV.same {w w':World} {b:Nat} {c:Clip} (h:CV w b c) (hs:w'.heap[b]?=w.heap[b]?):CV w' b c:=
 ⟨h.c.same hs,fun o=>(World.frozen?_of_block hs).trans (h.f o)⟩
theorem idle50 (p q:Addr) (w:World):CallsD Tryz.prog 67 #[.pointer (some p),.pointer (some q)] .returning w fun e u' w'=>e=.returned (.tuple #[])∧u'=.returning∧w'=w:=by
 refine callsD_of_wpS Tryz.func67 rfl fun c₀ cs hu=>?_
 apply wpS_seq
 apply wpS_region
 simp[wpOpsS,go_sem,recoverD,hu,Tryz.ntmps67,Exit.thenS]
 refine wpS_cond (t:=false) (by simp[Act.eval,Array.replicate]) ?_
 simp only[Bool.false_eq_true,if_false]
 refine wpS_of_wp (wp_skip ?_)
 cases c₀
 simp_all[bodyPostS,results,Tryz.results67]
end Go.Proofs.YtfoohocgdcgbcaaGreat
