/- Texts of this claim joined: VY. -/
import Derived.Laws.EntriesVeiled
import Derived.Test.YtfoohocgdcgbcaaGreatMe12
import Derived.Test.YtfoohocgdcgbcaaGreatSq
set_option linter.unusedVariables false
set_option linter.unusedSimpArgs false
set_option maxRecDepth 100000
set_option maxHeartbeats 40000000
namespace Go.Proofs.YtfoohocgdcgbcaaGreat
open Go.Trk
open Go.RowKit
theorem Tk.take {w:World} {ao:Option Addr} {m cap:Nat} {l:List Clip} (h:Tk w (.slice ao m cap) l) {c:Nat} (hc:c≤l.length):Tk w (.slice ao c cap) (l.take c):=by
 obtain⟨ao',cap',e,h1,h2,h3⟩:=h
 simp only[Value.slice.injEq]at e
 obtain⟨rfl,rfl,rfl⟩:=e
 have hl:(l.take c).length=c:=by simp;omega
 refine⟨ao,cap,by rw[hl],by rw[hl];omega,h2,fun i x hi=>?_⟩
 have hi':=(List.getElem?_eq_some_iff.1 hi).1
 rw[hl]at hi'
 rw[List.getElem?_take,if_pos hi']at hi
 exact h3 i x hi
theorem missing_false {n:List Clip} {k:Int} {c:Nat} (h:missingL n k c=false):c<n.length∧(k=9→0<c)∧(k=7∨k=9→c+1<n.length):=by
 unfold missingL at h
 simp only[Bool.or_eq_false_iff,Bool.and_eq_false_iff,decide_eq_false_iff_not]at h
 obtain⟨⟨h1,h2⟩,h3⟩:=h
 refine⟨by omega,fun e=>?_,fun e=>?_⟩
 ·rcases h2 with h2 |h2<;>omega
 rcases h3 with h3 |h3<;>omega
theorem cell_new (w:World) (u:Value) (t:TypeId):(w.alloc (.cells #[u] t)).cell? ⟨w.heap.size,0,none⟩=some u:=by simp[go_sem]
theorem size_new (w:World) (u:Value) (t:TypeId):(w.alloc (.cells #[u] t)).heap.size=w.heap.size+1:=by simp[go_sem]
theorem code_of {n:List Clip} {k:Int} {c:Nat} {d sn sd:Int} {x:Clip} (hm:missingL n k c=false) (hx:n[c]?=some x) :
  adjCode n k c d sn sd=if k=10∧x.a=black then 13 else if 2147483647<Trk.total (adjL n k c d sn sd)∨¬∀ y∈adjL n k c d sn sd,okLen y then 2 else 0:=by
 unfold adjCode
 rw[hm,hx]
 simp only[Bool.false_eq_true,if_false,Option.map_some,Option.some.injEq]
def AdjPost (w:World) (n:List Clip) (k:Int) (c:Nat) (d sn sd:Int) (e:Ending) (w':World):Prop:=
 (adjCode n k c d sn sd=0∧EdPost w n (adjL n k c d sn sd) (fromL n k c d) (toL n k c d) (undK k d) e w') ∨
 (adjCode n k c d sn sd≠0∧e=.returned (.tuple #[.slice none 0 0,edV 0 0 0 0 0 0 0 (.slice none 0 0),.int .i64 (adjCode n k c d sn sd)])∧Below w.heap.size w w')
structure AW (w0 w:World) (g1 g2 b8 b10 gl g15 N cap B:Nat) (k p m c d sn sd:Int) (u:Value) (l:List Clip) (uk:Int):Prop where
 a:ED w g1 k p m c d sn sd u
 r:ED w g2 0 0 0 0 0 0 0 (.slice none 0 0)
 s:Seen w b8 g1 gl N cap d l B
 c:w.cell? ⟨b10,0,none⟩=some (.func (.func 127) #[] #[.pointer (some ⟨b8,0,none⟩),.pointer (some ⟨g1,0,none⟩)])
 e:ED w g15 uk 0 0 0 0 0 0 (.slice none 0 0)
 b:Below w0.heap.size w0 w
structure AN (w0:World) (g1 g2 b8 b10 gl g15:Nat):Prop where
 h1:w0.heap.size≤g1
 h2:g1<g2
 h3:g2<gl
 h4:gl<b8
 h5:b8<b10
 h6:b10<g15
theorem AW.below {w0 w w':World} {g1 g2 b8 b10 gl g15 N cap B:Nat} {k p m c d sn sd:Int} {u:Value} {l:List Clip} {uk:Int} (h:AW w0 w g1 g2 b8 b10 gl g15 N cap B k p m c d sn sd u l uk) (hb:Below w.heap.size w w') :
  AW w0 w' g1 g2 b8 b10 gl g15 N cap B k p m c d sn sd u l uk:=
 ⟨h.a.below hb,h.r.below hb,h.s.below hb,(hb.cell (block_lt_of_cell h.c)).trans h.c,h.e.below hb,h.b.trans (hb.mono h.b.size)⟩
theorem AW.turn {w0 w w':World} {g1 g2 b8 b10 gl g15 N cap B:Nat} {k p m c d sn sd:Int} {u:Value} {l l':List Clip} {uk:Int} (h:AW w0 w g1 g2 b8 b10 gl g15 N cap B k p m c d sn sd u l uk) (hn:AN w0 g1 g2 b8 b10 gl g15)
  (ht:Turn gl w w') (hs:Seen w' b8 g1 gl N cap d l' B):AW w0 w' g1 g2 b8 b10 gl g15 N cap B k p m c d sn sd u l' uk:=by
 obtain⟨h1,h2,h3,h4,h5,h6⟩:=hn
 exact⟨ht.ed (by omega) h.a,ht.ed (by omega) h.r,hs,ht.get (by omega) h.c,ht.ed (by omega) h.e,ht.b _ _ (by omega) h.b⟩
theorem AW.setk {w0 w:World} {g1 g2 b8 b10 gl g15 N cap B:Nat} {k p m c d sn sd:Int} {u:Value} {l:List Clip} {uk:Int} (h:AW w0 w g1 g2 b8 b10 gl g15 N cap B k p m c d sn sd u l uk) (hn:AN w0 g1 g2 b8 b10 gl g15) (uk':Int) :
  AW w0 (w.setCell ⟨g15,0,none⟩ (.int .i64 uk')) g1 g2 b8 b10 gl g15 N cap B k p m c d sn sd u l uk':=by
 obtain⟨h1,h2,h3,h4,h5,h6⟩:=hn
 have ht:=Turn.cell g15 0 (.int .i64 uk') w
 refine⟨ht.ed (by omega) h.a,ht.ed (by omega) h.r,⟨ht.get (by omega) h.s.v,ht.get (by omega) h.s.d,h.s.l.blocks (fun g kk cp e=>?_),h.s.n8,h.s.n3⟩,ht.get (by omega) h.c,?_,ht.b _ _ (by omega) h.b⟩
 ·simp only[Value.slice.injEq,Option.some.injEq,Addr.mk.injEq,and_true,true_and]at e
  obtain⟨rfl,_,_⟩:=e
  exact ht.o gl h.s.l.own.2.1 (by omega)
 obtain⟨x0,x1,x2,x3,x4,x5,x6,x7,f⟩:=h.e
 exact⟨by simp[go_sem,x0],by simp[go_sem,x1],by simp[go_sem,x2],by simp[go_sem,x3],by simp[go_sem,x4],by simp[go_sem,x5],by simp[go_sem,x6],by simp[go_sem,x7],fun o=>by rw[World.frozen?_setCell];exact f o⟩
structure AF (w0 w:World) (g1 g2 b8 gl g15 N cap B:Nat) (d:Int) (l:List Clip) (uk a mm:Int) (v:Value):Prop where
 r:ED w g2 0 0 0 0 0 0 0 (.slice none 0 0)
 s:Seen w b8 g1 gl N cap d l B
 e:ED w g15 uk a mm 0 0 0 0 v
 b:Below w0.heap.size w0 w
theorem AW.af {w0 w:World} {g1 g2 b8 b10 gl g15 N cap B:Nat} {k p m c d sn sd:Int} {u:Value} {l:List Clip} {uk:Int} (h:AW w0 w g1 g2 b8 b10 gl g15 N cap B k p m c d sn sd u l uk):AF w0 w g1 g2 b8 gl g15 N cap B d l uk 0 0 (.slice none 0 0):=⟨h.r,h.s,h.e,h.b⟩
theorem AF.below {w0 w w':World} {g1 g2 b8 gl g15 N cap B:Nat} {d:Int} {l:List Clip} {uk a mm:Int} {v:Value} (h:AF w0 w g1 g2 b8 gl g15 N cap B d l uk a mm v) (hb:Below w.heap.size w w'):AF w0 w' g1 g2 b8 gl g15 N cap B d l uk a mm v:=
 ⟨h.r.below hb,h.s.below hb,h.e.below hb,h.b.trans (hb.mono h.b.size)⟩
theorem AF.turn {w0 w w':World} {g1 g2 b8 b10 gl g15 N cap B:Nat} {d:Int} {l:List Clip} {uk a mm:Int} {v:Value} (h:AF w0 w g1 g2 b8 gl g15 N cap B d l uk a mm v) (hn:AN w0 g1 g2 b8 b10 gl g15) (ht:Turn g15 w w') {a' mm':Int} {v':Value} (he:ED w' g15 uk a' mm' 0 0 0 0 v') :
  AF w0 w' g1 g2 b8 gl g15 N cap B d l uk a' mm' v':=by
 obtain⟨h1,h2,h3,h4,h5,h6⟩:=hn
 refine⟨ht.ed (by omega) h.r,⟨ht.get (by omega) h.s.v,ht.get (by omega) h.s.d,h.s.l.blocks (fun g kk cp e=>?_),h.s.n8,h.s.n3⟩,he,ht.b _ _ (by omega) h.b⟩
 simp only[Value.slice.injEq,Option.some.injEq,Addr.mk.injEq,and_true,true_and]at e
 obtain⟨rfl,_,_⟩:=e
 exact ht.o gl h.s.l.own.2.1 (by omega)
theorem ED.set1 {w:World} {b:Nat} {k p n c d sn sd:Int} {v:Value} (h:ED w b k p n c d sn sd v) (x:Int):ED (w.setCell ⟨b,1,none⟩ (.int .i64 x)) b k x n c d sn sd v:=by
 obtain⟨x0,x1,x2,x3,x4,x5,x6,x7,f⟩:=h
 exact⟨by simp[go_sem,x0],by simp[go_sem,x1],by simp[go_sem,x2],by simp[go_sem,x3],by simp[go_sem,x4],by simp[go_sem,x5],by simp[go_sem,x6],by simp[go_sem,x7],fun o=>by rw[World.frozen?_setCell];exact f o⟩
theorem ED.set2 {w:World} {b:Nat} {k p n c d sn sd:Int} {v:Value} (h:ED w b k p n c d sn sd v) (x:Int):ED (w.setCell ⟨b,2,none⟩ (.int .i64 x)) b k p x c d sn sd v:=by
 obtain⟨x0,x1,x2,x3,x4,x5,x6,x7,f⟩:=h
 exact⟨by simp[go_sem,x0],by simp[go_sem,x1],by simp[go_sem,x2],by simp[go_sem,x3],by simp[go_sem,x4],by simp[go_sem,x5],by simp[go_sem,x6],by simp[go_sem,x7],fun o=>by rw[World.frozen?_setCell];exact f o⟩
theorem ED.set7 {w:World} {b:Nat} {k p n c d sn sd:Int} {v:Value} (h:ED w b k p n c d sn sd v) (x:Value):ED (w.setCell ⟨b,7,none⟩ x) b k p n c d sn sd x:=by
 obtain⟨x0,x1,x2,x3,x4,x5,x6,x7,f⟩:=h
 exact⟨by simp[go_sem,x0],by simp[go_sem,x1],by simp[go_sem,x2],by simp[go_sem,x3],by simp[go_sem,x4],by simp[go_sem,x5],by simp[go_sem,x6],by simp[go_sem,x7],fun o=>by rw[World.frozen?_setCell];exact f o⟩
theorem adjust_any {L D:Int} (v u:Value) (n:List Clip) (k p m:Int) (c:Nat) (d sn sd:Int) (w:World) (h:Tk w v n) (hu:∃ ao m cp,u=.slice ao m cp) (hV:VT L n) (hn:n.length≤63) (hk:5≤k∧k≤10)
  (hd:(k≤9→d.natAbs≤2147483648∧d≠0)) (hs:k=10→d=0∧SpeedOK sn sd) (hL:L≤1048576000) (hc:c≤1048576) :
  Calls Tryz.prog 86 #[v,edV k p m (c:Int) d sn sd u] w (AdjPost w n k c d sn sd):=by
 have hdb:d.natAbs≤2147483648:=by
  by_cases h9:k≤9
  ·exact(hd h9).1
  have:=(hs (by omega)).1;omega
 have hL2:L≤140737488355328:=by omega
 obtain⟨ua,um,uc,rfl⟩:=hu
 obtain⟨N,hN⟩:=Xq (n.length)
 obtain⟨ao,cap,rfl,hcap,-⟩:=id h
 rw[← hN]at h hcap hn ⊢
 have HNL:=Hd hN
 have HT:=Hd h
 have HVT:=Hd hV
 have HD:=Hd hd
 have HS:=Hd hs
 have HK:=Hd hk
 have HMI:=Hd (fun w (h:Tk w (.slice ao N cap) n)=>missing_any _ n k p m c d sn sd (.slice ua um uc) w h (by omega) hc rfl)
 have hcode:missingL n k c=true→adjCode n k c d sn sd=7:=fun h=>by unfold adjCode;rw[h];rfl
 have HM7:=Hd hcode
 obtain⟨ms,hms⟩:=Xq (missingL n k c)
 rw[← hms]at HMI HM7
 have HMS:=Hd hms
 unfold edV at HMI ⊢
 clear hms h hV hd hs hk hcode hN
 go_enter Tryz.func86,Tryz.ntmps86
 go_upto_region 1 with fail
 obtain⟨w1,hw1⟩:=Xq ((w.alloc (.cells (edC k p m (c:Int) d sn sd (.slice ua um uc)) 40)).alloc (.cells (edC 0 0 0 0 0 0 0 (.slice none 0 0)) 40))
 have hw1':=hw1
 unfold edC at hw1'
 unfold edC
 rw[← hw1']
 clear hw1'
 obtain⟨g1,hg1⟩:=Xq (w.heap.size)
 obtain⟨g2,hg2⟩:=Xq (w.heap.size+1)
 have h2:E2 w1 g1 g2 k p m c d sn sd (.slice ua um uc):=by
  rw[hw1,hg1,hg2]
  refine⟨(ED.box w k p m c d sn sd _ rfl 40).below (below_box _ _),?_⟩
  have h2:=ED.box (w.alloc (.cells (edC k p m c d sn sd (.slice ua um uc)) 40)) 0 0 0 0 0 0 0 (.slice none 0 0) rfl 40
  rw[show(w.alloc (.cells (edC k p m c d sn sd (.slice ua um uc)) 40)).heap.size=w.heap.size+1 by simp]at h2
  exact h2
 rw[← hg2,← hg1]
 have HE:=Hd h2
 have HB:=Hd (show Below w.heap.size w w1 by rw[hw1];go_grown)
 have HN1:=Hd (show w.heap.size≤g1∧g1<g2 by omega)
 have HN2:=Hd (show w.heap.size≤g2 by omega)
 have HSZ:=Hd (show g2+1≤w1.heap.size by rw[hw1,hg2];simp[go_sem])
 clear hw1 hg1 hg2 h2
 apply wp_region_lit
 iterate 3 go_step
 refine wpl_loadE HE.out.a rfl rfl rfl ?_
 simp only[Act.put,sA1,sB1,sC1]
 go_wp2_with fail
 refine(HMI.out _ (HT.out.below HB.out)).mono ?_
 rintro e w2 ⟨rfl,hb⟩
 replace HE:=Hd (HE.out.below hb)
 replace HSZ:=Hd (Nat.le_trans HSZ.out hb.size)
 replace HB:=Tb HB hb
 clear hb
 cases ms
 case true=>
  go_upto_region 2 with fail
  apply wp_region_lit
  iterate 6 go_step
  refine wpl_storeE 0 0 0 0 0 0 0 none 0 0 HE.out.r rfl rfl rfl rfl ?_
  intro w9 q1 q2 q3 q4 q5
  simp only[Act.put,sA1,sB1,sC1]
  have HR9:=Hd q1
  have HB9:=Hd (q4 _ _ HN2.out HB.out)
  clear q1 q2 q3 q4 q5
  have HCD:=Hd (HM7.out (by first |rfl |trivial))
  iterate 7 go_step
  refine bodyPost_ret (v:=.tuple #[.slice none 0 0,edV 0 0 0 0 0 0 0 (.slice none 0 0),.int .i64 7]) (results_ed Tryz.results86 rfl rfl rfl HR9.out ⟨_,_,_,rfl⟩) rfl (.inr ?_)
  rw[HCD.out]
  exact⟨by decide,rfl,HB9.out⟩
 have hmf:=missing_false HMS.out.symm
 have hcN:c<N:=by rw[HNL.out];exact hmf.1
 obtain⟨x,hx⟩:∃ x,n[c]?=some x:=⟨_,List.getElem?_eq_getElem hmf.1⟩
 have HX:=Hd hx
 have HMF:=Hd (show missingL n k c=false∧(k=9→0<c)∧(k=7∨k=9→c+1<N) from⟨HMS.out.symm,hmf.2.1,by rw[HNL.out];exact hmf.2.2⟩)
 obtain⟨b,o,hao,hca⟩:∃ b o,ao=some ⟨b,o,none⟩∧CA w b (o+c*22) x:=by
  obtain⟨ao',cap',e,_,_,h3⟩:=HT.out
  simp only[Value.slice.injEq]at e
  obtain⟨b,o,e2,hA⟩:=h3 c x hx
  exact⟨b,o,by rw[e.1];exact e2,hA⟩
 subst hao
 have HCA:=Hd hca
 have hcN':(c:Int)<(N:Int):=by omega
 have hcc:(c:Int)<(cap:Int):=by omega
 clear hmf hx hca HMS HM7
 dsimp only
 have e0:=HE.out.a.k0
 have e3:=HE.out.a.k3
 go_upto_region 4 with fail
 obtain⟨tb,htb⟩:=Xq (decide (k=10∧x.a=black))
 have HTB:=Hd htb
 clear htb
 go_cut [35] from 18 (fun v35 wx=>v35=.bool tb∧wx=w2)
 case first=>
  by_cases k10:k=10
  ·have b10:(k==10)=true:=by simpa using k10
   have hok:=(HVT.out.v x (List.mem_of_getElem? HX.out)).c.a
   have HCW:=Hd (HCA.out.below HB.out)
   by_cases hbl:x.a=black
   ·have HT1:=Hd (show tb=true by rw[HTB.out];exact decide_eq_true ⟨k10,hbl⟩)
    obtain⟨_,_,x2,x3,x4,x5,x6,x7,x8,_⟩:=HCW.out
    rw[hbl]at x2 x3 x4 x5 x6 x7 x8
    simp only[black,show(ByteArray.empty:ByteArray)=⟨#[]⟩ from rfl]at x2 x3 x4 x5 x6 x7 x8
    clear hbl hok k10
    go_wp2_with fail
    go_meet
    case rel=>exact⟨by rw[HT1.out],rfl⟩
   have HT1:=Hd (show tb=false by rw[HTB.out];exact decide_eq_false (fun h=>hbl h.2))
   have hkd:(x.a.kind==0)=false:=by
    rcases hok with h |h
    ·exact absurd h hbl
    rcases h.k with h |h<;>simp[h]
   obtain⟨_,_,x2,x3,x4,x5,x6,x7,x8,_⟩:=HCW.out
   obtain⟨ka,hka⟩:=Xq (x.a.kind)
   rw[← hka]at x2 hkd
   have hkd2:¬ka=0:=by simpa using hkd
   clear hbl hok hka k10
   go_wp2_with fail
   go_meet
   case rel=>exact⟨by rw[HT1.out],rfl⟩
  have b10:(k==10)=false:=by simpa using k10
  have HT0:=Hd (show tb=false by rw[HTB.out];exact decide_eq_false (fun h=>k10 h.1))
  clear k10
  go_wp2_with fail
  go_meet
  case rel=>exact⟨by rw[HT0.out],rfl⟩
 obtain⟨rfl,rfl⟩:=hcut
 cases tb
 case true=>
  go_upto_region 5 with fail
  apply wp_region_lit
  iterate 6 go_step
  refine wpl_storeE 0 0 0 0 0 0 0 none 0 0 HE.out.r rfl rfl rfl rfl ?_
  intro w9 q1 q2 q3 q4 q5
  simp only[Act.put,sA1,sB1,sC1]
  have HR9:=Hd q1
  have HB9:=Hd (q4 _ _ HN2.out HB.out)
  clear q1 q2 q3 q4 q5
  have HCD:=Hd (show adjCode n k c d sn sd=13 by rw[code_of HMF.out.1 HX.out,if_pos (of_decide_eq_true HTB.out.symm)])
  iterate 7 go_step
  refine bodyPost_ret (v:=.tuple #[.slice none 0 0,edV 0 0 0 0 0 0 0 (.slice none 0 0),.int .i64 13]) (results_ed Tryz.results86 rfl rfl rfl HR9.out ⟨_,_,_,rfl⟩) rfl (.inr ?_)
  rw[HCD.out]
  exact⟨by decide,rfl,HB9.out⟩
 have HCODE:=Hd (show adjCode n k c d sn sd=if 2147483647<Trk.total (adjL n k c d sn sd)∨¬∀ y∈adjL n k c d sn sd,okLen y then 2 else 0 by rw[code_of HMF.out.1 HX.out,if_neg (of_decide_eq_false HTB.out.symm)])
 have HNB:=Hd (show ¬(k=10∧x.a=black) from of_decide_eq_false HTB.out.symm)
 clear HTB
 go_wp2_with fail
 refine(clonel_any _ n _ (HT.out.below HB.out) (by have:=HNL.out;omega)).mono ?_
 rintro e w3 ⟨vl,rfl,ho,hb⟩
 obtain⟨gl,cl,rfl⟩:∃ gl cl,vl=.slice (some ⟨gl,0,none⟩) N cl:=by
  rcases ho.shape with⟨_,e⟩ |⟨g,cp,e⟩
  ·have h1:=HNL.out
   rw[e]at h1
   simp at h1
   omega
  exact⟨g,cp,by rw[e,← HNL.out]⟩
 have HGL:=Hd (show g2<gl∧gl<w3.heap.size by have h1:=ho.own.1;have h2:=ho.own.2.1;have h3:=HSZ.out;omega)
 have HOL:=Hd (ho.lower HB.out.size)
 replace HE:=Hd (HE.out.below hb)
 replace HB:=Tb HB hb
 clear ho hb HSZ
 go_upto_region 7 with fail
 obtain⟨w4,hw4⟩:=Xq (w3.alloc (.cells #[.slice (some ⟨gl,0,none⟩) N cl] 23))
 rw[← hw4]
 obtain⟨b8,hb8⟩:=Xq (w3.heap.size)
 have hb:Below w3.heap.size w3 w4:=by rw[hw4];exact below_box _ _
 have HC8:=Hd (show w4.cell? ⟨b8,0,none⟩=some (.slice (some ⟨gl,0,none⟩) N cl) by rw[hw4,hb8];exact cell_new _ _ _)
 have HS4:=Hd (show w4.heap.size=b8+1 by rw[hw4,hb8];exact size_new _ _ _)
 rw[← hb8]
 have HG8:=Hd (show gl<b8 by rw[hb8];exact HGL.out.2)
 replace HOL:=Hd (HOL.out.below hb)
 replace HE:=Hd (HE.out.below hb)
 replace HB:=Tb HB hb
 clear hb hb8 hw4
 go_upto_region 9 with fail
 obtain⟨CL,hCL⟩:∃ v:Value,v=.func (.func 127) #[] #[.pointer (some ⟨b8,0,none⟩),.pointer (some ⟨g1,0,none⟩)]:=⟨_,rfl⟩
 rw[← hCL]
 obtain⟨w5,hw5⟩:=Xq (w4.alloc (.cells #[CL] 181))
 rw[← hw5]
 obtain⟨b10,hb10⟩:=Xq (w4.heap.size)
 have hb:Below w4.heap.size w4 w5:=by rw[hw5];exact below_box _ _
 have HC10:=Hd (show w5.cell? ⟨b10,0,none⟩=some CL by rw[hw5,hb10];exact cell_new _ _ _)
 have HS5:=Hd (show w5.heap.size=b10+1 by rw[hw5,hb10];exact size_new _ _ _)
 rw[← hb10]
 have HG10:=Hd (show b8<b10 by rw[hb10,HS4.out];exact Nat.lt_succ_self _)
 replace HC8:=Hd ((hb.cell (block_lt_of_cell HC8.out)).trans HC8.out)
 replace HOL:=Hd (HOL.out.below hb)
 replace HE:=Hd (HE.out.below hb)
 replace HB:=Tb HB hb
 have HCL:=Hd hCL
 clear hb hb10 hw5 hCL HS4
 have HTT:=Hd (fun w (h:Tk w (.slice (some ⟨b,o,none⟩) c cap) (n.take c))=>etotal_any _ (n.take c) w h (fun y hy=>HVT.out.v.good y (List.mem_of_mem_take hy)) (by have h1:=total_take n HVT.out.v.good c;have h2:=HVT.out.t;omega) (by simp;omega))
 obtain⟨bg,hbg⟩:=Xq (Trk.total (n.take c))
 rw[← hbg]at HTT
 have HBG:=Hd hbg
 clear hbg
 go_wp2_with fail
 refine(HTT.out _ ((HT.out.below HB.out).take (by have:=HNL.out;omega))).mono ?_
 rintro e w6 ⟨rfl,hb⟩
 replace HC8:=Hd ((hb.cell (block_lt_of_cell HC8.out)).trans HC8.out)
 replace HC10:=Hd ((hb.cell (block_lt_of_cell HC10.out)).trans HC10.out)
 replace HS5:=Hd (show b10+1≤w6.heap.size by have:=HS5.out;have:=hb.size;omega)
 replace HOL:=Hd (HOL.out.below hb)
 replace HE:=Hd (HE.out.below hb)
 replace HB:=Tb HB hb
 clear hb HTT
 have hbg0:0≤bg∧bg+x.len≤2147483647∧1≤x.len:=by
  have h1:=total_take n HVT.out.v.good (c+1)
  rw[List.take_add_one,HX.out,total_append]at h1
  have h2:=HVT.out.t
  have h3:=total_nonneg (l:=n.take c) (fun y hy=>HVT.out.v.good y (List.mem_of_mem_take hy))
  have h4:Trk.total [x]=x.len:=total_one x
  have h5:=(HVT.out.v x (List.mem_of_getElem? HX.out)).l.1
  simp only[Option.toList_some]at h1
  have h6:=HBG.out
  omega
 obtain⟨hbg1,hbg2,hxl⟩:=hbg0
 go_upto_region 11 with fail
 refine Plan.wp_region_plan (fun w'=>w'.cell? ⟨b,o+c*22,none⟩=some (.int .i64 x.len)) ([0,1,2,3,4,5,6,7,8,9].map (·,true)) (by kernel_rfl) (by kernel_rfl) (by kernel_rfl) (((HCA.out.below HB.out).below (Below.refl _ _).drew)).k0 ?_
 refine' Plan.plan_seg _ [0,1,2,3,4,5,6,7,8,9] [] (by kernel_rfl) (by kernel_rfl) rfl (by exact(((HCA.out.below HB.out).below (Below.refl _ _).drew)).k0) (fun wx hS=>?_) ?_
 rotate_left
 ·go_light
  iterate 10 (apply Plan.seg_pick;rfl;intro K hK;go_wp)
  exact Plan.seg_nil
 refine Plan.plan_done ?_
 obtain⟨w7,hw7⟩:=Xq (w6.drew)
 rw[← hw7]
 have hb:Below w6.heap.size w6 w7:=by rw[hw7];exact(Below.refl _ _).drew
 replace HC8:=Hd ((hb.cell (block_lt_of_cell HC8.out)).trans HC8.out)
 replace HC10:=Hd ((hb.cell (block_lt_of_cell HC10.out)).trans HC10.out)
 replace HS5:=Hd (Nat.le_trans HS5.out hb.size)
 replace HOL:=Hd (HOL.out.below hb)
 replace HE:=Hd (HE.out.below hb)
 replace HB:=Tb HB hb
 clear hb hw7
 go_upto_region 12 with fail
 apply wp_region_lit
 iterate 6 go_step
 obtain⟨w8,hw8⟩:=Xq (w7.alloc (.cells (edC 0 0 0 0 0 0 0 (.slice none 0 0)) 40))
 have hw8':=hw8
 unfold edC at hw8'
 rw[← hw8']
 clear hw8'
 obtain⟨g15,hg15⟩:=Xq (w7.heap.size)
 have hb:Below w7.heap.size w7 w8:=by rw[hw8];exact below_box _ _
 have hv:ED w8 g15 0 0 0 0 0 0 0 (.slice none 0 0):=by rw[hw8,hg15];exact ED.box w7 0 0 0 0 0 0 0 (.slice none 0 0) rfl 40
 rw[← hg15]
 have HAN:=Hd (show AN w g1 g2 b8 b10 gl g15 from⟨HN1.out.1,HN1.out.2,HGL.out.1,HG8.out,HG10.out,by rw[hg15];exact HS5.out⟩)
 replace HC8:=Hd ((hb.cell (block_lt_of_cell HC8.out)).trans HC8.out)
 replace HC10:=Hd ((hb.cell (block_lt_of_cell HC10.out)).trans HC10.out)
 replace HOL:=Hd (HOL.out.below hb)
 replace HE:=Hd (HE.out.below hb)
 replace HB:=Tb HB hb
 clear hb hg15 hw8
 refine wpl_storeE 3 0 0 0 0 0 0 none 0 0 hv rfl rfl rfl rfl ?_
 intro w9 q1 q2 q3 q4 q5
 simp only[Act.put,sA1,sB1,sC1]
 have HW:=Hd (show AW w w9 g1 g2 b8 b10 gl g15 N cl w.heap.size k p m c d sn sd (.slice ua um uc) n 3 from by
  obtain⟨h1,h2,h3,h4,h5,h6⟩:=HAN.out
  have hc8:w9.cell? ⟨b8,0,none⟩=some (.slice (some ⟨gl,0,none⟩) N cl):=(World.cell?_of_block (q2 b8 (by omega))).trans HC8.out
  have hc10:w9.cell? ⟨b10,0,none⟩=some CL:=(World.cell?_of_block (q2 b10 (by omega))).trans HC10.out
  refine⟨HE.out.a.same (q2 g1 (by omega)),HE.out.r.same (q2 g2 (by omega)),⟨hc8,?_,HOL.out.blocks (fun g kk cp e=>?_),by omega,by omega⟩,by rw[hc10,HCL.out],q1,q4 _ _ (by omega) HB.out⟩
  ·exact(HE.out.a.same (q2 g1 (by omega))).k4
  simp only[Value.slice.injEq,Option.some.injEq,Addr.mk.injEq,and_true,true_and]at e
  obtain⟨rfl,_,_⟩:=e
  exact q2 gl (by omega))
 have HBE:=Hd (show begL n c=bg∧endL n c=bg+x.len from by
  refine⟨HBG.out.symm,?_⟩
  unfold endL
  rw[List.take_add_one,HX.out,total_append,← HBG.out]
  simp only[Option.toList_some]
  rw[total_one])
 clear q1 q2 q3 q4 q5 hv HC8 HC10 HOL HE HB
 have e0:=HW.out.a.k0
 go_upto_block 0 with fail
 clear e0
 have HVX:=Hd (HVT.out.v x (List.mem_of_getElem? HX.out))
 go_cut [13,14] from 57 (fun v13 v14 wx=>v13=.int .i64 (fromL n k c d)∧v14=.int .i64 (toL n k c d)∧AW w wx g1 g2 b8 b10 gl g15 N cl w.heap.size k p m c d sn sd (.slice ua um uc) (adjL n k c d sn sd) (undK k d))
 case first J K' h1 h2=>
  have hk6:k=5∨k=6∨k=7∨k=8∨k=9∨k=10:=by have:=HK.out;omega
  have hok:=off_le HVX.out
  have HOX:=Hd (And.intro (SrcIn.oks HVX.out.c.a hL2) (And.intro (SrcIn.oks HVX.out.c.b hL2) (show x.len.natAbs≤1099511627776∧x.off.natAbs≤1099511627776 by omega)))
  clear hok
  rcases hk6 with rfl |rfl |rfl |rfl |rfl |rfl
  ·go_wp2_with fail
   refine(lengthen_any c x b8 g1 gl N cl d n w.heap.size _ HW.out.s HX.out (by omega) HOX.out.2.2.1 (by omega)).mono ?_
   rintro e w10 ⟨rfl,hs,ht⟩
   replace HW:=Hd (HW.out.turn HAN.out ht hs)
   clear hs ht
   have e4:=HW.out.a.k4
   go_upto_region 16 with fail
   clear e4
   refine Plan.wp_region_plan (fun w'=>w'.cell? ⟨g1,4,none⟩=some (.int .i64 d)) ([0,1,2,3,4,5,6,7,8,9,10,11,12,13].map (·,true)) (by kernel_rfl) (by kernel_rfl) (by kernel_rfl) (HW.out.a.below (Below.refl _ _).drew).k4 ?_
   refine' Plan.plan_seg _ [0,1,2,3,4,5,6,7,8,9,10,11,12,13] [] (by kernel_rfl) (by kernel_rfl) rfl (by exact(HW.out.a.below (Below.refl _ _).drew).k4) (fun wx hS=>?_) ?_
   rotate_left
   ·go_light
    iterate 14 (apply Plan.seg_pick;rfl;intro K hK;go_wp)
    exact Plan.seg_nil
   refine Plan.plan_done ?_
   obtain⟨w11,hwn⟩:=Xq (World.drew w10)
   rw[← hwn]
   replace HW:=Hd (HW.out.below (show Below (World.heap w10).size w10 w11 by rw[hwn];exact(Below.refl _ _).drew))
   clear hwn
   have e4:=HW.out.a.k4
   have e0:=HW.out.e.k0
   have ef:=HW.out.e.fz
   go_wp2_with fail
   refine(restoring_any _ _).mono ?_
   rintro e w12 ⟨rfl,rfl⟩
   obtain⟨rv,hrv⟩:=Xq ((if decide (0<d)=true then(2:Int) else 1))
   rw[← hrv]
   have HRV:=Hd hrv
   clear hrv
   go_wp2_with fail
   clear e4 e0 ef
   refine Met.intro (h1 _ _ ?_)
   (repeat apply Exists.intro)
   refine⟨⟨?_,?_,?_⟩,rfl⟩
   ·rw[show fromL n 5 c d=min (bg+x.len) (bg+x.len+d) by simp only[fromL,HBE.out.1,HBE.out.2];simp]
   ·rw[show toL n 5 c d=max (bg+x.len) (bg+x.len+d) by simp only[toL,HBE.out.1,HBE.out.2];simp]
   rw[show adjL n 5 c d sn sd=upd n c (lenBy d) by simp[adjL]]
   rw[show undK 5 d=rv by rw[HRV.out];simp[undK]]
   exact HW.out.setk HAN.out rv
  ·go_wp2_with fail
   refine(later_any c x b10 b8 g1 gl N cl d n w.heap.size _ HW.out.s HX.out (by omega) HOX.out.1 HOX.out.2.1 (by omega) HOX.out.2.2.1 HOX.out.2.2.2 HW.out.c).mono ?_
   rintro e w10 ⟨rfl,hs,ht⟩
   replace HW:=Hd (HW.out.turn HAN.out ht hs)
   clear hs ht
   have e4:=HW.out.a.k4
   go_upto_region 20 with fail
   clear e4
   refine Plan.wp_region_plan (fun w'=>w'.cell? ⟨g1,4,none⟩=some (.int .i64 d)) ([0,1,2,3,4,5,6,7,8,9,10].map (·,true)) (by kernel_rfl) (by kernel_rfl) (by kernel_rfl) (HW.out.a.below (Below.refl _ _).drew).k4 ?_
   refine' Plan.plan_seg _ [0,1,2,3,4,5,6,7,8,9,10] [] (by kernel_rfl) (by kernel_rfl) rfl (by exact(HW.out.a.below (Below.refl _ _).drew).k4) (fun wx hS=>?_) ?_
   rotate_left
   ·go_light
    iterate 11 (apply Plan.seg_pick;rfl;intro K hK;go_wp)
    exact Plan.seg_nil
   refine Plan.plan_done ?_
   obtain⟨w11,hwn⟩:=Xq (World.drew w10)
   rw[← hwn]
   replace HW:=Hd (HW.out.below (show Below (World.heap w10).size w10 w11 by rw[hwn];exact(Below.refl _ _).drew))
   clear hwn
   have e4:=HW.out.a.k4
   have e0:=HW.out.e.k0
   have ef:=HW.out.e.fz
   go_wp2_with fail
   refine(restoring_any _ _).mono ?_
   rintro e w12 ⟨rfl,rfl⟩
   obtain⟨rv,hrv⟩:=Xq ((if decide (d<0)=true then(2:Int) else 1))
   rw[← hrv]
   have HRV:=Hd hrv
   clear hrv
   go_wp2_with fail
   clear e4 e0 ef
   refine Met.intro (h1 _ _ ?_)
   (repeat apply Exists.intro)
   refine⟨⟨?_,?_,?_⟩,rfl⟩
   ·rw[show fromL n 6 c d=bg by simp only[fromL,HBE.out.1,HBE.out.2];simp]
   ·rw[show toL n 6 c d=bg+max d (-d) by simp only[toL,HBE.out.1,HBE.out.2];simp]
   rw[show adjL n 6 c d sn sd=upd n c (later d) by simp[adjL]]
   rw[show undK 6 d=rv by rw[HRV.out];simp[undK]]
   exact HW.out.setk HAN.out rv
  ·have hc1:=HMF.out.2.2 (.inl rfl)
   obtain⟨y,hy⟩:∃ y,n[c+1]?=some y:=⟨_,List.getElem?_eq_getElem (by rw[← HNL.out];exact hc1)⟩
   have hvy:=HVT.out.v y (List.mem_of_getElem? hy)
   have hok:=off_le hvy
   have HOY:=Hd (And.intro (SrcIn.oks hvy.c.a hL2) (And.intro (SrcIn.oks hvy.c.b hL2) (show y.len.natAbs≤1099511627776∧y.off.natAbs≤1099511627776 by have:=hvy.l.1;have:=hvy.l.2.1;omega)))
   have HY2:=Hd (show(upd n c (lenBy d))[c+1]?=some y by rw[upd_other (by omega)];exact hy)
   clear hvy hok hy
   go_wp2_with fail
   refine(lengthen_any c x b8 g1 gl N cl d n w.heap.size _ HW.out.s HX.out (by omega) HOX.out.2.2.1 (by omega)).mono ?_
   rintro e w10 ⟨rfl,hs,ht⟩
   replace HW:=Hd (HW.out.turn HAN.out ht hs)
   clear hs ht
   go_wp2_with fail
   rw[show(c:Int)+1=((c+1:Nat):Int) by omega]
   refine(later_any (c+1) y b10 b8 g1 gl N cl d (upd n c (lenBy d)) w.heap.size _ HW.out.s HY2.out (by omega) HOY.out.1 HOY.out.2.1 (by omega) HOY.out.2.2.1 HOY.out.2.2.2 HW.out.c).mono ?_
   rintro e w11 ⟨rfl,hs,ht⟩
   replace HW:=Hd (HW.out.turn HAN.out ht hs)
   clear hs ht
   have e4:=HW.out.a.k4
   go_upto_region 25 with fail
   clear e4
   refine Plan.wp_region_plan (fun w'=>w'.cell? ⟨g1,4,none⟩=some (.int .i64 d)) ([0,1,2,3,4,5,6,7,8,9,10,11,12,13].map (·,true)) (by kernel_rfl) (by kernel_rfl) (by kernel_rfl) (HW.out.a.below (Below.refl _ _).drew).k4 ?_
   refine' Plan.plan_seg _ [0,1,2,3,4,5,6,7,8,9,10,11,12,13] [] (by kernel_rfl) (by kernel_rfl) rfl (by exact(HW.out.a.below (Below.refl _ _).drew).k4) (fun wx hS=>?_) ?_
   rotate_left
   ·go_light
    iterate 14 (apply Plan.seg_pick;rfl;intro K hK;go_wp)
    exact Plan.seg_nil
   refine Plan.plan_done ?_
   obtain⟨w12,hwn⟩:=Xq (World.drew w11)
   rw[← hwn]
   replace HW:=Hd (HW.out.below (show Below (World.heap w11).size w11 w12 by rw[hwn];exact(Below.refl _ _).drew))
   clear hwn
   go_wp2_with fail
   refine Met.intro (h1 _ _ ?_)
   (repeat apply Exists.intro)
   refine⟨⟨?_,?_,?_⟩,rfl⟩
   ·rw[show fromL n 7 c d=min (bg+x.len) (bg+x.len+d) by simp only[fromL,HBE.out.1,HBE.out.2];simp]
   ·rw[show toL n 7 c d=max (bg+x.len) (bg+x.len+d) by simp only[toL,HBE.out.1,HBE.out.2];simp]
   rw[show adjL n 7 c d sn sd=upd (upd n c (lenBy d)) (c+1) (later d) by simp[adjL]]
   exact HW.out
  ·have ec:=HW.out.c
   go_wp2_with fail
   clear ec
   refine(slip_any c x b8 g1 gl N cl d n w.heap.size _ HW.out.s HX.out (by omega) HOX.out.1 HOX.out.2.1 (by omega)).mono ?_
   rintro e w10 ⟨rfl,hs,ht⟩
   replace HW:=Hd (HW.out.turn HAN.out ht hs)
   clear hs ht
   go_wp2_with fail
   refine Met.intro (h1 _ _ ?_)
   (repeat apply Exists.intro)
   refine⟨⟨?_,?_,?_⟩,rfl⟩
   ·rw[show fromL n 8 c d=bg by simp only[fromL,HBE.out.1,HBE.out.2];simp]
   ·rw[show toL n 8 c d=bg+x.len by simp only[toL,HBE.out.1,HBE.out.2];simp]
   rw[show adjL n 8 c d sn sd=upd n c (slipBy d) by simp[adjL]]
   exact HW.out
  ·have hc1:=HMF.out.2.2 (.inr rfl)
   have hc0:=HMF.out.2.1 rfl
   obtain⟨y,hy⟩:∃ y,n[c+1]?=some y:=⟨_,List.getElem?_eq_getElem (by rw[← HNL.out];exact hc1)⟩
   obtain⟨q,hq⟩:∃ q,n[c-1]?=some q:=⟨_,List.getElem?_eq_getElem (by rw[← HNL.out];omega)⟩
   have hvy:=HVT.out.v y (List.mem_of_getElem? hy)
   have hvq:=HVT.out.v q (List.mem_of_getElem? hq)
   have hok:=off_le hvy
   have HOY:=Hd (And.intro (SrcIn.oks hvy.c.a hL2) (And.intro (SrcIn.oks hvy.c.b hL2) (show y.len.natAbs≤1099511627776∧y.off.natAbs≤1099511627776 by have:=hvy.l.1;have:=hvy.l.2.1;omega)))
   have HQL:=Hd (show q.len.natAbs≤1099511627776 by have:=hvq.l.1;have:=hvq.l.2.1;omega)
   have HQ2:=Hd hq
   have HY2:=Hd (show(upd n (c-1) (lenBy d))[c+1]?=some y by rw[upd_other (by omega)];exact hy)
   clear hvy hok hy hq hvq
   go_wp2_with fail
   rw[show(c:Int)-1=((c-1:Nat):Int) by omega]
   refine(lengthen_any (c-1) q b8 g1 gl N cl d n w.heap.size _ HW.out.s HQ2.out (by omega) HQL.out (by omega)).mono ?_
   rintro e w10 ⟨rfl,hs,ht⟩
   replace HW:=Hd (HW.out.turn HAN.out ht hs)
   clear hs ht
   go_wp2_with fail
   rw[show(c:Int)+1=((c+1:Nat):Int) by omega]
   refine(later_any (c+1) y b10 b8 g1 gl N cl d (upd n (c-1) (lenBy d)) w.heap.size _ HW.out.s HY2.out (by omega) HOY.out.1 HOY.out.2.1 (by omega) HOY.out.2.2.1 HOY.out.2.2.2 HW.out.c).mono ?_
   rintro e w11 ⟨rfl,hs,ht⟩
   replace HW:=Hd (HW.out.turn HAN.out ht hs)
   clear hs ht
   have e4:=HW.out.a.k4
   go_upto_region 31 with fail
   clear e4
   refine Plan.wp_region_plan (fun w'=>w'.cell? ⟨g1,4,none⟩=some (.int .i64 d)) ([0,1,2,3,4,5,6,7,8,9,10,11,12,13].map (·,true)) (by kernel_rfl) (by kernel_rfl) (by kernel_rfl) (HW.out.a.below (Below.refl _ _).drew).k4 ?_
   refine' Plan.plan_seg _ [0,1,2,3,4,5,6,7,8,9,10,11,12,13] [] (by kernel_rfl) (by kernel_rfl) rfl (by exact(HW.out.a.below (Below.refl _ _).drew).k4) (fun wx hS=>?_) ?_
   rotate_left
   ·go_light
    iterate 14 (apply Plan.seg_pick;rfl;intro K hK;go_wp)
    exact Plan.seg_nil
   refine Plan.plan_done ?_
   obtain⟨w12,hwn⟩:=Xq (World.drew w11)
   rw[← hwn]
   replace HW:=Hd (HW.out.below (show Below (World.heap w11).size w11 w12 by rw[hwn];exact(Below.refl _ _).drew))
   clear hwn
   go_wp2_with fail
   refine Met.intro (h1 _ _ ?_)
   (repeat apply Exists.intro)
   refine⟨⟨?_,?_,?_⟩,rfl⟩
   ·rw[show fromL n 9 c d=min bg (bg+d) by simp only[fromL,HBE.out.1,HBE.out.2];simp]
   ·rw[show toL n 9 c d=max (bg+x.len) (bg+x.len+d) by simp only[toL,HBE.out.1,HBE.out.2];simp]
   rw[show adjL n 9 c d sn sd=upd (upd n (c-1) (lenBy d)) (c+1) (later d) by simp[adjL]]
   exact HW.out
  have e5:=HW.out.a.k5
  have e6:=HW.out.a.k6
  have y8:=HW.out.s.v
  have z6:w9.cell? ⟨gl,c*22+6,none⟩=some (.int .i64 x.a.sn):=(HW.out.s.at' HX.out).k6
  have z7:w9.cell? ⟨gl,c*22+7,none⟩=some (.int .i64 x.a.sd):=(HW.out.s.at' HX.out).k7
  have zf6:=HW.out.s.l.frozen (c*22+6)
  have zf7:=HW.out.s.l.frozen (c*22+7)
  go_wp2_with fail
  clear e5 e6 y8 z6 z7 zf6 zf7
  have hs:=HW.out.s.cells (j:=6) (vs:=[.int .i64 sn,.int .i64 sd]) (x':=speedy sn sd x) HX.out (by simp) rfl
  replace HW:=Hd (HW.out.turn HAN.out (Turn.cells gl (c*22+6) [.int .i64 sn,.int .i64 sd] w9) hs)
  rw[← upd_set HX.out (speedy sn sd)]at HW
  clear hs
  refine Met.intro (h1 _ _ ?_)
  (repeat apply Exists.intro)
  refine⟨⟨?_,?_,?_⟩,rfl⟩
  ·rw[show fromL n 10 c d=bg by simp only[fromL,HBE.out.1,HBE.out.2];simp]
  ·rw[show toL n 10 c d=bg+x.len by simp only[toL,HBE.out.1,HBE.out.2];simp]
  rw[show adjL n 10 c d sn sd=upd n c (speedy sn sd) by simp[adjL]]
  exact HW.out
 clear HW
 obtain⟨rfl,rfl,haw⟩:=hcut
 have HW:=Hd haw
 clear haw
 have hnv:∀ y∈n,Bd 2147483647 y:=fun y hy=>by
  have hv:=HVT.out.v y hy
  have h1:=off_le hv
  have h2:=hv.l.1
  have h3:=hv.l.2.1
  exact⟨by omega,h3,by omega,by omega,by omega,by omega⟩
 have hcls:=adj_cls (L:=L) (D:=2147483648) (M:=2147483647) (n:=n) (k:=k) (d:=d) (sn:=sn) (sd:=sd) (c:=c) (fun y hy=>(HVT.out.v y hy).c) (by omega) (by omega) (fun y hy=>⟨(hnv y hy).1,(hnv y hy).2.1⟩) (by decide) (by
  have hk:=HK.out
  by_cases h10:k=10
  ·refine .inr (.inr (.inr (.inr (.inr ⟨(HS.out h10).2,?_⟩))))
   rw[HX.out]
   intro e
   simp only[Option.map_some,Option.some.injEq]at e
   exact HNB.out ⟨h10,e⟩
  omega)
 have hbd:=adj_bd (M:=2147483647) (D:=2147483648) (n:=n) (k:=k) (d:=d) (sn:=sn) (sd:=sd) (c:=c) hnv (by omega) (by omega)
 have HUN:=Hd (fun(hg:∀ y∈adjL n k c d sn sd,okLen y)=>adj_undo (n:=n) (k:=k) (c:=c) (d:=d) (sn:=sn) (sd:=sd) HVT.out.v.good HK.out (by rw[← HNL.out];exact hcN) HMF.out.2.1 (by rw[← HNL.out];exact HMF.out.2.2) (fun h=>(HD.out h).2) (fun y hy=>(show Trk.VC _ y from⟨hcls y hy,hg y hy⟩).good))
 have hal:(adjL n k c d sn sd).length=N:=by rw[adjL_length,HNL.out]
 obtain⟨A,hA⟩:=Xq (adjL n k c d sn sd)
 obtain⟨fr,hfr⟩:=Xq (fromL n k c d)
 obtain⟨to',hto⟩:=Xq (toL n k c d)
 obtain⟨uk,huk⟩:=Xq (undK k d)
 rw[← hA]at hcls hbd HUN HW HCODE hal
 rw[← hfr,← hto,← huk]at HUN
 rw[← huk]at HW
 rw[← hfr,← hto]
 have HP:=Hd (show AdjPost w n k c d sn sd=fun e w'=>(adjCode n k c d sn sd=0∧EdPost w n A fr to' uk e w')∨(adjCode n k c d sn sd≠0∧e=.returned (.tuple #[.slice none 0 0,edV 0 0 0 0 0 0 0 (.slice none 0 0),.int .i64 (adjCode n k c d sn sd)])∧Below w.heap.size w w') by rw[hA,hfr,hto,huk];rfl)
 have hpart:∀ j,j≤A.length→-4611686018427387904≤Trk.total (A.take j)∧Trk.total (A.take j)≤4611686018427387904:=fun j hj=>by
  have h:=total_bd (M:=2147483647+2147483648+2147483648) (by decide) (l:=A.take j) fun y hy=>hbd y (List.mem_of_mem_take hy)
  have hl:(A.take j).length≤64:=by simp;omega
  have h2:((2147483647:Int)+2147483648+2147483648)*(((A.take j).length:Nat):Int)≤(2147483647+2147483648+2147483648)*64:=Int.mul_le_mul_of_nonneg_left (by omega) (by decide)
  omega
 have HTW:=Hd (fun v w (h:Tk w v A)=>etotal_wild v A w h hpart (by omega))
 have HCW:=Hd (fun v w (h:Tk w v A)=>contains_any (L:=L+2147483648*18018+2147483648*18018+2147483647*18018) v A w h (fun y hy=>by
  obtain⟨a1,a2,a3,a4,a5,a6⟩:=hbd y hy
  exact⟨hcls y hy,by omega,by omega,by omega,by omega,by omega,by omega⟩) (by omega) (by omega))
 obtain⟨TA,hTA⟩:=Xq (Trk.total A)
 obtain⟨bad,hbad⟩:=Xq (decide (¬∀ c∈A,okLen c))
 rw[← hTA]at HTW HCODE
 rw[← hbad]at HCW
 have HBAD:=Hd hbad
 have htab:-4611686018427387904≤TA∧TA≤4611686018427387904:=by
  have h:=hpart A.length (Nat.le_refl _)
  rw[List.take_length]at h
  rw[hTA]
  exact h
 obtain⟨htab1,htab2⟩:=htab
 have HCLS:=Hd hcls
 have HTO:=Hd (show to'≤8589934592 by rw[hto];unfold toL;rw[HBE.out.1,HBE.out.2];(repeat' split)<;>omega)
 clear hnv hcls hbd hpart hA hfr hto huk hTA hbad
 have y8:=HW.out.s.v
 go_wp2_with fail
 refine(HTW.out _ _ HW.out.s.l.tk).mono ?_
 rintro e w20 ⟨rfl,hb⟩
 replace HW:=Hd (HW.out.below hb)
 clear hb y8
 have y8:=HW.out.s.v
 by_cases hbig:2147483647<TA
 ·have HC2:=Hd (show adjCode n k c d sn sd=2 by rw[HCODE.out,if_pos (.inl hbig)])
  have HB:=Hd HW.out.b
  clear HCODE
  go_upto_region 35 with fail
  apply wp_region_lit
  iterate 6 go_step
  refine wpl_storeE 0 0 0 0 0 0 0 none 0 0 HW.out.r rfl rfl rfl rfl ?_
  intro w9 q1 q2 q3 q4 q5
  simp only[Act.put,sA1,sB1,sC1]
  have HR9:=Hd q1
  have HB9:=Hd (q4 _ _ HN2.out HB.out)
  clear q1 q2 q3 q4 q5
  have HCD:=Hd HC2.out
  iterate 7 go_step
  refine bodyPost_ret (v:=.tuple #[.slice none 0 0,edV 0 0 0 0 0 0 0 (.slice none 0 0),.int .i64 2]) (results_ed Tryz.results86 rfl rfl rfl HR9.out ⟨_,_,_,rfl⟩) rfl (.inr ?_)
  rw[HCD.out]
  exact⟨by decide,rfl,HB9.out⟩
 have hbig':TA≤2147483647:=by omega
 go_wp2_with fail
 refine(HCW.out _ _ HW.out.s.l.tk).mono ?_
 rintro e w21 ⟨rfl,hb⟩
 replace HW:=Hd (HW.out.below hb)
 clear hb y8
 cases bad
 case true=>
  have HC2:=Hd (show adjCode n k c d sn sd=2 by rw[HCODE.out,if_pos (.inr (of_decide_eq_true HBAD.out.symm))])
  have HB:=Hd HW.out.b
  clear HCODE
  go_upto_region 35 with fail
  apply wp_region_lit
  iterate 6 go_step
  refine wpl_storeE 0 0 0 0 0 0 0 none 0 0 HW.out.r rfl rfl rfl rfl ?_
  intro w9 q1 q2 q3 q4 q5
  simp only[Act.put,sA1,sB1,sC1]
  have HR9:=Hd q1
  have HB9:=Hd (q4 _ _ HN2.out HB.out)
  clear q1 q2 q3 q4 q5
  have HCD:=Hd HC2.out
  iterate 7 go_step
  refine bodyPost_ret (v:=.tuple #[.slice none 0 0,edV 0 0 0 0 0 0 0 (.slice none 0 0),.int .i64 2]) (results_ed Tryz.results86 rfl rfl rfl HR9.out ⟨_,_,_,rfl⟩) rfl (.inr ?_)
  rw[HCD.out]
  exact⟨by decide,rfl,HB9.out⟩
 have hgood:∀ y∈A,okLen y:=Classical.not_not.1 (of_decide_eq_false HBAD.out.symm)
 have HC0:=Hd (show adjCode n k c d sn sd=0 by rw[HCODE.out,if_neg (by rintro(h |h);omega;exact h hgood)])
 obtain⟨hun,htn⟩:=HUN.out hgood
 have hfr0:=hun.a0
 have hfr1:=hun.ab
 have HUK3:=Hd hun.k
 have hnt:=HVT.out.t
 have hto2:to'≤8589934592:=HTO.out
 have HF:=Hd HW.out.af
 have HTN:=Hd htn
 clear HCODE hgood HUN HW hun htn
 have e1:=HF.out.e.k1
 have ef:=HF.out.e.fz
 go_upto_region 37 with fail
 obtain⟨w22,hw22⟩:=Xq (w21.setCell ⟨g15,1,none⟩ (.int .i64 fr))
 rw[← hw22]
 have hf:=HF.out.turn HAN.out (Turn.cell g15 1 (.int .i64 fr) w21) (HF.out.e.set1 fr)
 rw[← hw22]at hf
 replace HF:=Hd hf
 clear hw22 hf e1 ef
 have e0:=HF.out.e.k0
 by_cases hu2:uk=2
 ·have b2:(uk==2)=true:=by simpa using hu2
  have HU2:=Hd hu2
  have HMM:=Hd (show(if uk=2 then to'-fr else 0)=to'-fr by rw[if_pos hu2])
  clear hu2
  have e2:=HF.out.e.k2
  have ef:=HF.out.e.fz
  go_upto_region 39 with fail
  obtain⟨w23,hw23⟩:=Xq (w22.setCell ⟨g15,2,none⟩ (.int .i64 (to'-fr)))
  rw[← hw23]
  have hf:=HF.out.turn HAN.out (Turn.cell g15 2 (.int .i64 (to'-fr)) w22) (HF.out.e.set2 (to'-fr))
  rw[← hw23]at hf
  replace HF:=Hd hf
  clear hw23 hf e0 e2 ef
  refine Plan.wp_region_plan (fun w'=>w'.cell? ⟨b8,0,none⟩=some (.slice (some ⟨gl,0,none⟩) N cl)∧ED w' g15 uk fr (to'-fr) 0 0 0 0 (.slice none 0 0)) (([0,1,2].map (·,true))++(([3].map (·,false))++([4].map (·,true)))) (by kernel_rfl) (by kernel_rfl) (by kernel_rfl) ⟨(HF.out.below (Below.refl _ _).drew).s.v,(HF.out.below (Below.refl _ _).drew).e⟩ ?_
  refine' Plan.plan_seg _ [0,1,2] (([3].map (·,false))++([4].map (·,true))) (by kernel_rfl) (by kernel_rfl) rfl (by exact⟨(HF.out.below (Below.refl _ _).drew).s.v,(HF.out.below (Below.refl _ _).drew).e⟩) (fun wx hS=>?_) ?_
  rotate_left
  ·obtain⟨S1,S2⟩:=hS
   have HS2:=Hd S2
   clear S2
   go_light
   iterate 1 (apply Plan.seg_pick;rfl;intro K hK;go_wp)
   (apply Plan.seg_pick;rfl;intro K hK)
   refine wpl_loadE HS2.out rfl rfl rfl ?_
   go_wp
   iterate 1 (apply Plan.seg_pick;rfl;intro K hK;go_wp)
   exact Plan.seg_nil
  obtain⟨w30,hw30⟩:=Xq (World.drew w23)
  rw[← hw30]
  have hb30:Below (World.heap w23).size w23 w30:=by rw[hw30];exact(Below.refl _ _).drew
  replace HF:=Hd (HF.out.below hb30)
  clear hw30 hb30
  refine Plan.plan_of_effect rfl (fun K hK=>?_)
  refine wpl_storeE uk fr (to'-fr) 0 0 0 0 none 0 0 HF.out.r rfl rfl rfl rfl ?_
  intro w31 q1 q2 q3 q4 q5
  simp only[Act.put,sA1,sB1,sC1]
  have HR31:=Hd q1
  have HE31:=Hd (HF.out.e.same (q2 g15 (by have h:=HAN.out;have h1:=h.h2;have h2:=h.h3;have h3:=h.h4;have h4:=h.h5;have h5:=h.h6;omega)))
  have HV31:=Hd ((World.cell?_of_block (q2 b8 (by have h:=HAN.out;have h2:=h.h3;have h3:=h.h4;omega))).trans HF.out.s.v)
  have HO31:=Hd (HF.out.s.l.blocks (fun g kk cp e=>q2 g (by
   simp only[Value.slice.injEq,Option.some.injEq,Addr.mk.injEq,and_true,true_and]at e
   have h2:=HAN.out.h3
   omega)))
  have HB31:=Hd (q4 _ _ HN2.out HF.out.b)
  clear q1 q2 q3 q4 q5
  go_wp2_with fail
  refine⟨⟨HV31.out,HE31.out⟩,?_⟩
  refine' Plan.plan_seg (S:=(fun w'=>w'.cell? ⟨b8,0,none⟩=some (.slice (some ⟨gl,0,none⟩) N cl)∧ED w' g15 uk fr (to'-fr) 0 0 0 0 (.slice none 0 0))) _ [4] [] (by kernel_rfl) (by kernel_rfl) rfl (by exact⟨HV31.out,HE31.out⟩) (fun wx hS=>?_) ?_
  rotate_left
  ·clear hS
   go_light
   iterate 1 (apply Plan.seg_pick;rfl;intro K hK;go_wp)
   exact Plan.seg_nil
  refine Plan.plan_done ?_
  iterate 3 go_step
  refine bodyPost_ret (v:=.tuple #[.slice (some ⟨gl,0,none⟩) N cl,edV uk fr (to'-fr) 0 0 0 0 (.slice none 0 0),.int .i64 0]) (results_ed Tryz.results86 rfl rfl rfl HR31.out ⟨_,_,_,rfl⟩) rfl ?_
  rw[HP.out]
  refine .inl ⟨HC0.out,_,(.slice none 0 0),?_,HO31.out,?_,HB31.out⟩
  ·unfold EdV backOf
   dsimp only
   rw[HMM.out]
  show OT w31 w.heap.size (.slice none 0 0) (if uk=2 then[] else cut n fr to')
  rw[if_pos HU2.out]
  exact OT.nil _ _
 have b2:(uk==2)=false:=by simpa using hu2
 have HU2:=Hd hu2
 have HMM:=Hd (show(if uk=2 then to'-fr else 0)=0 by rw[if_neg hu2])
 have ht2:=HTN.out hu2
 have HCU:=Hd (fun w (h:Tk w (.slice (some ⟨b,o,none⟩) N cap) n)=>cut_any _ n fr to' w h HVT.out hL2 hfr0 (by omega) (by omega) (by have:=cut_length (l:=n) HVT.out.v.good hfr0 (show fr≤to' by omega);have:=HNL.out;omega))
 unfold CutPost at HCU
 clear hu2 ht2
 go_wp2_with fail
 refine(HCU.out _ (HT.out.below HF.out.b)).mono ?_
 rintro e w24 ⟨vx,rfl,ho,hb⟩
 obtain⟨ax,cx,rfl,-⟩:=ho.tk
 obtain⟨mx,hmx⟩:=Xq ((cut n fr to').length)
 rw[← hmx]at ho ⊢
 have HGX:=Hd (show ∀ g kk cp,Value.slice ax mx cx=.slice (some ⟨g,0,none⟩) kk cp→g≠g2∧g≠g15 from fun g kk cp e=>by
  have h1:=(ho.blk e).1
  have h2:=HF.out.r.lt
  have h3:=HF.out.e.lt
  omega)
 have HG2:=Hd (fun g kk cp e=>(HGX.out g kk cp e).1)
 have HOC:=Hd (ho.lower HF.out.b.size)
 replace HF:=Hd (HF.out.below hb)
 clear ho hb e0 hmx
 have e7:=HF.out.e.k7
 have ef:=HF.out.e.fz
 go_upto_region 44 with fail
 obtain⟨w25,hw25⟩:=Xq (w24.setCell ⟨g15,7,none⟩ (.slice ax mx cx))
 rw[← hw25]
 have hf:=HF.out.turn HAN.out (Turn.cell g15 7 (.slice ax mx cx) w24) (HF.out.e.set7 (.slice ax mx cx))
 rw[← hw25]at hf
 replace HOC:=Hd (show OT w25 w.heap.size (.slice ax mx cx) (cut n fr to') by rw[hw25];exact HOC.out.apart (fun g kk cp e=>(HGX.out g kk cp e).2.symm) _)
 replace HF:=Hd hf
 clear hw25 hf e7 ef
 refine Plan.wp_region_plan (fun w'=>w'.cell? ⟨b8,0,none⟩=some (.slice (some ⟨gl,0,none⟩) N cl)∧ED w' g15 uk fr 0 0 0 0 0 (.slice ax mx cx)) (([0,1,2].map (·,true))++(([3].map (·,false))++([4].map (·,true)))) (by kernel_rfl) (by kernel_rfl) (by kernel_rfl) ⟨(HF.out.below (Below.refl _ _).drew).s.v,(HF.out.below (Below.refl _ _).drew).e⟩ ?_
 refine' Plan.plan_seg _ [0,1,2] (([3].map (·,false))++([4].map (·,true))) (by kernel_rfl) (by kernel_rfl) rfl (by exact⟨(HF.out.below (Below.refl _ _).drew).s.v,(HF.out.below (Below.refl _ _).drew).e⟩) (fun wx hS=>?_) ?_
 rotate_left
 ·obtain⟨S1,S2⟩:=hS
  have HS2:=Hd S2
  clear S2
  go_light
  iterate 1 (apply Plan.seg_pick;rfl;intro K hK;go_wp)
  (apply Plan.seg_pick;rfl;intro K hK)
  refine wpl_loadE HS2.out rfl rfl rfl ?_
  go_wp
  iterate 1 (apply Plan.seg_pick;rfl;intro K hK;go_wp)
  exact Plan.seg_nil
 obtain⟨w30,hw30⟩:=Xq (World.drew w25)
 rw[← hw30]
 have hb30:Below (World.heap w25).size w25 w30:=by rw[hw30];exact(Below.refl _ _).drew
 replace HF:=Hd (HF.out.below hb30)
 replace HOC:=Hd (HOC.out.below hb30)
 clear hw30 hb30
 refine Plan.plan_of_effect rfl (fun K hK=>?_)
 refine wpl_storeE uk fr 0 0 0 0 0 ax mx cx HF.out.r rfl rfl rfl rfl ?_
 intro w31 q1 q2 q3 q4 q5
 simp only[Act.put,sA1,sB1,sC1]
 have HR31:=Hd q1
 have HE31:=Hd (HF.out.e.same (q2 g15 (by have h:=HAN.out;have h1:=h.h2;have h2:=h.h3;have h3:=h.h4;have h4:=h.h5;have h5:=h.h6;omega)))
 have HV31:=Hd ((World.cell?_of_block (q2 b8 (by have h:=HAN.out;have h2:=h.h3;have h3:=h.h4;omega))).trans HF.out.s.v)
 have HO31:=Hd (HF.out.s.l.blocks (fun g kk cp e=>q2 g (by
  simp only[Value.slice.injEq,Option.some.injEq,Addr.mk.injEq,and_true,true_and]at e
  have h2:=HAN.out.h3
  omega)))
 replace HOC:=Hd (HOC.out.blocks (fun g kk cp e=>q2 g (HG2.out g kk cp e)))
 have HB31:=Hd (q4 _ _ HN2.out HF.out.b)
 clear q1 q2 q3 q4 q5
 go_wp2_with fail
 refine⟨⟨HV31.out,HE31.out⟩,?_⟩
 refine' Plan.plan_seg (S:=(fun w'=>w'.cell? ⟨b8,0,none⟩=some (.slice (some ⟨gl,0,none⟩) N cl)∧ED w' g15 uk fr 0 0 0 0 0 (.slice ax mx cx))) _ [4] [] (by kernel_rfl) (by kernel_rfl) rfl (by exact⟨HV31.out,HE31.out⟩) (fun wx hS=>?_) ?_
 rotate_left
 ·clear hS
  go_light
  iterate 1 (apply Plan.seg_pick;rfl;intro K hK;go_wp)
  exact Plan.seg_nil
 refine Plan.plan_done ?_
 iterate 3 go_step
 refine bodyPost_ret (v:=.tuple #[.slice (some ⟨gl,0,none⟩) N cl,edV uk fr 0 0 0 0 0 (.slice ax mx cx),.int .i64 0]) (results_ed Tryz.results86 rfl rfl rfl HR31.out ⟨_,_,_,rfl⟩) rfl ?_
 rw[HP.out]
 refine .inl ⟨HC0.out,_,(.slice ax mx cx),?_,HO31.out,?_,HB31.out⟩
 ·unfold EdV backOf
  dsimp only
  rw[HMM.out]
 show OT w31 w.heap.size (.slice ax mx cx) (if uk=2 then[] else cut n fr to')
 rw[if_neg HU2.out]
 exact HOC.out
end Go.Proofs.YtfoohocgdcgbcaaGreat
