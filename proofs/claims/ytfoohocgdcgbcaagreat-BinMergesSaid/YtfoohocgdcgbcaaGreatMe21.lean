/- Texts of this claim joined: HQ HR HS HT HU HV MJ MK HW. -/
import Derived.Test.YtfoohocgdcgbcaaGreatMe20
import Derived.Test.YtfoohocgdcgbcaaGreatSq
set_option linter.unusedVariables false
set_option linter.unusedSimpArgs false
set_option maxRecDepth 100000
set_option maxHeartbeats 40000000
namespace Go.Proofs.YtfoohocgdcgbcaaGreat
open Go.RowKit
def JoinG (w:World) (a b:List Trk.Clip) (e:Ending) (w':World):Prop:=
 ∃ v' code,e=.returned (.tuple #[v',.int .i64 code])∧(((Trk.pk (a++b)).length≤64∧code=0∧OG w' w.heap.size 0 v' (Trk.pk (a++b)))∨(64<(Trk.pk (a++b)).length∧code=5∧v'=.slice none 0 0))∧Below w.heap.size w w'
theorem concatg_two (D1 D2 b o c:Nat) (v1 v2:Value) (l1 l2:List Trk.Clip) (w:World) (c1:w.cell? ⟨b,o,none⟩=some v1) (c2:w.cell? ⟨b,o+1,none⟩=some v2) (h1:TG w D1 v1 l1) (h2:TG w D2 v2 l2) (hc:2≤c) (hl:l1.length+l2.length≤1048576) :
  Calls Tryz.prog 73 #[.slice (some ⟨b,o,none⟩) 2 c] w fun e w'=>∃ v',e=.returned v'∧OG w' w.heap.size w.heap.size v' (l1++l2)∧Below w.heap.size w w':=by
 replace h1:=h1.base
 replace h2:=h2.base
 obtain⟨Cc,hCc⟩:=Xq (w.heap.size)
 have HCC:=Hd (Nat.le_of_eq hCc)
 rw[← hCc]at h1 h2
 have HT1:=Hd h1
 have HT2:=Hd h2
 obtain⟨a1,k1,rfl,_⟩:=h1
 obtain⟨a2,k2,rfl,_⟩:=h2
 have HG:=Hd (fun w=>grow_nil (l1.length+l2.length) w hl)
 rw[Int.natCast_add]at HG
 obtain⟨n1,e1⟩:=Xq (l1.length)
 obtain⟨n2,e2⟩:=Xq (l2.length)
 rw[← e1,← e2]at hl HG
 rw[← e1]at c1 HT1
 rw[← e2]at c2 HT2
 have HL:=Hd (And.intro e1 e2)
 have HC:=Hd (And.intro c1 c2)
 clear e1 e2
 go_enter Tryz.func73,Tryz.ntmps73
 go_wp2_with fail
 go_loop [3,11] (fun v3 v11=>(v11=.int .i64 0∧v3=.int .i64 0)∨(v11=.int .i64 1∧v3=.int .i64 (n1:Int))∨(v11=.int .i64 2∧v3=.int .i64 ((n1:Int)+(n2:Int)))) (fun _ i=>2-(intOf i).toNat)
 case atStart=>exact .inl ⟨rfl,rfl⟩
 case round=>
  have hs:(n1:Int)+(n2:Int)≤1048576:=by omega
  have hs1:(n1:Int)≤1048576:=by omega
  rcases hrel with⟨rfl,rfl⟩ |⟨rfl,rfl⟩ |⟨rfl,rfl⟩
  ·go_wp2_with fail
   exact⟨.inr (.inl ⟨rfl,by simp⟩),by simp[intOf]⟩
  ·go_wp2_with fail
   exact⟨.inr (.inr ⟨rfl,rfl⟩),by simp[intOf]⟩
  go_wp2_with fail
  refine(HG.out _).mono ?_
  rintro e w1 ⟨v',rfl,ho,hb⟩
  have HO:=Hd (show OG w1 w.heap.size Cc v' [] from⟨[],rfl,ho,fun i c x h=>by simp at h⟩)
  have HB:=Hd hb
  clear c1 c2 ho hb
  go_wp2_with fail
  go_loopw [6,27] (fun v6 v27 wr=>((v27=.int .i64 0∧OG wr w.heap.size Cc v6 [])∨(v27=.int .i64 1∧OG wr w.heap.size Cc v6 l1)∨(v27=.int .i64 2∧OG wr w.heap.size Cc v6 (l1++l2)))∧Below w.heap.size w wr∧w.heap.size≤wr.heap.size) (fun _ i _=>2-(intOf i).toNat)
  case atStart=>exact⟨.inl ⟨rfl,HO.out⟩,HB.out,HB.out.size⟩
  case round=>
   clear HO HB
   obtain⟨hrel,hb,hsz⟩:=hrel
   rcases hrel with⟨rfl,ho⟩ |⟨rfl,ho⟩ |⟨rfl,ho⟩
   ·replace HT1:=Hd (HT1.out.below hb)
    have d1:=(hb.cell (block_lt_of_cell HC.out.1)).trans HC.out.1
    have HO:=Hd ho
    have HB:=Hd hb
    have HS:=Hd hsz
    clear ho hb hsz
    go_upto_region 13 with fail
    apply wp_region_lit
    iterate 6 go_step
    refine wpList_appG _ 23 23 Tryz.underlying23 Tryz.underlying23 rfl (.tmp 31) (.tmp 32) rfl w.heap.size Cc u6 _ [] l1 rfl rfl HO.out HS.out HCC.out HT1.out (by have:=HL.out;simp only[List.length_nil];omega) ?_
    intro v9 w9 q1 q2 q3 q4
    simp only[Act.put,sA1,sB1,sC1]
    have HQ:=Hd q1
    have HB9:=Hd (HB.out.trans q2)
    have HS9:=Hd (Nat.le_trans HS.out q4)
    clear q1 q2 q3 q4
    go_wp2_with fail
    exact⟨⟨.inr (.inl ⟨rfl,HQ.out⟩),HB9.out,HS9.out⟩,by simp[intOf]⟩
   ·replace HT2:=Hd (HT2.out.below hb)
    have d2:=(hb.cell (block_lt_of_cell HC.out.2)).trans HC.out.2
    have HO:=Hd ho
    have HB:=Hd hb
    have HS:=Hd hsz
    clear ho hb hsz
    go_upto_region 13 with fail
    apply wp_region_lit
    iterate 6 go_step
    refine wpList_appG _ 23 23 Tryz.underlying23 Tryz.underlying23 rfl (.tmp 31) (.tmp 32) rfl w.heap.size Cc u6 _ l1 l2 rfl rfl HO.out HS.out HCC.out HT2.out (by have:=HL.out;omega) ?_
    intro v9 w9 q1 q2 q3 q4
    simp only[Act.put,sA1,sB1,sC1]
    have HQ:=Hd q1
    have HB9:=Hd (HB.out.trans q2)
    have HS9:=Hd (Nat.le_trans HS.out q4)
    clear q1 q2 q3 q4
    go_wp2_with fail
    exact⟨⟨.inr (.inr ⟨rfl,HQ.out⟩),HB9.out,HS9.out⟩,by simp[intOf]⟩
   have HO:=Hd ho
   have HB:=Hd hb
   clear ho hb
   go_wp2_with fail
   go_ret
   exact⟨_,rfl,HO.out.up HCC.out,HB.out⟩
theorem joing_any (D1 D2:Nat) (v u:Value) (a b:List Trk.Clip) (w:World) (h:TG w D1 v a) (h':TG w D2 u b) (Va:TV a) (Vb:TV b) (ht:Trk.total a+Trk.total b≤2147483647) :
  Calls Tryz.prog 32 #[v,u] w (JoinG w a b):=by
 have HT:=Hd h
 have HU:=Hd h'
 have V1:=Hd (fun(w:World) (h:TG w D1 v a)=>vtrackg_yes D1 v a w h Va)
 have V2:=Hd (fun(w:World) (h:TG w D2 u b)=>vtrackg_yes D2 u b w h Vb)
 have T1:=Hd (fun(w:World) (h:TG w D1 v a)=>totalg_any D1 v a w h Va.good (by have:=Va.t;omega) (by have:=Va.n;omega))
 have T2:=Hd (fun(w:World) (h:TG w D2 u b)=>totalg_any D2 u b w h Vb.good (by have:=Vb.t;omega) (by have:=Vb.n;omega))
 have CC:=Hd (fun(b' o c:Nat) (w:World) (c1:w.cell? ⟨b',o,none⟩=some v) (c2:w.cell? ⟨b',o+1,none⟩=some u) (h1:TG w D1 v a) (h2:TG w D2 u b) (hc:2≤c)=>concatg_two D1 D2 b' o c v u a b w c1 c2 h1 h2 hc (by have:=Va.n;have:=Vb.n;omega))
 have hO:∀ c∈a++b,OkG c:=fun c hc=>((List.mem_append.1 hc).elim (Va.c c) (Vb.c c)).okg
 have PK:=Hd (fun(x:Value) (D:Nat) (w:World) (h:TG w D x (a++b))=>packg_any D x (a++b) w h hO (by have:=Va.n;have:=Vb.n;simp;omega) (by rw[Trk.total_append];omega))
 have t0:=Trk.total_nonneg Va.good
 have t1:=Trk.total_nonneg Vb.good
 have la:=Va.n
 have lb:=Vb.n
 obtain⟨ao,ca,rfl,-⟩:=h
 obtain⟨bo,cb,rfl,-⟩:=h'
 clear Va Vb hO
 obtain⟨A,hA⟩:=Xq (Trk.total a)
 obtain⟨B,hB⟩:=Xq (Trk.total b)
 rw[← hA]at T1 t0 ht
 rw[← hB]at T2 t1 ht
 obtain⟨na,hna⟩:=Xq (a.length)
 obtain⟨nb,hnb⟩:=Xq (b.length)
 rw[← hna]at HT V1 T1 CC la ⊢
 rw[← hnb]at HU V2 T2 CC lb ⊢
 clear hA hB hna hnb
 obtain⟨R,hR⟩:=Xq (Trk.pk (a++b))
 rw[← hR]at PK
 unfold JoinG
 rw[← hR]
 clear hR
 go_enter_defers Tryz.func32,Tryz.ntmps32
 go_upto_region 2 with fail
 obtain⟨w1,hw1⟩:=Xq ((w.alloc (.cells #[.slice none 0 0] 23)).alloc (.cells #[.int .i64 0] 30))
 rw[← hw1]
 have hE1:Below w.heap.size w w1:=by rw[hw1];go_grown
 obtain⟨g1,hg1⟩:=Xq (w.heap.size)
 obtain⟨g2,hg2⟩:=Xq (w.heap.size+1)
 have hr:RG w1 g1 g2 (.slice none 0 0) (.int .i64 0):=by
  rw[hw1,hg1,hg2]
  refine⟨?_,?_⟩
  ·rw[(below_box (w.alloc (.cells #[.slice none 0 0] 23)) _).block _ (by simp)]
   exact(MapKept.heap_alloc w _).1
  have:=(MapKept.heap_alloc (w.alloc (.cells #[.slice none 0 0] 23)) (.cells #[.int .i64 0] 30)).1
  rw[show(w.alloc (.cells #[.slice none 0 0] 23)).heap.size=w.heap.size+1 by simp]at this
  exact this
 have hz:w1.heap.size=g2+1:=by rw[hw1,hg2];simp[go_sem]
 rw[← hg2,← hg1]
 have hn1:w.heap.size≤g1:=by omega
 have hn2:w.heap.size≤g2:=by omega
 have h12:g1<g2:=by omega
 have HR:=Hd hr
 have HB:=Hd hE1
 have HS:=Hd (Nat.le_of_eq hz.symm)
 clear hw1 hE1 hg1 hg2 hr hz
 go_wp2_with fail
 refine(V1.out _ (HT.out.below HB.out)).mono ?_
 rintro e w2 ⟨rfl,hb⟩
 replace HR:=Hd (HR.out.up hb)
 replace HB:=Tb HB hb
 replace HS:=Hd (Nat.le_trans HS.out hb.size)
 clear hb V1
 go_wp2_with fail
 refine(V2.out _ (HU.out.below HB.out)).mono ?_
 rintro e w3 ⟨rfl,hb⟩
 replace HR:=Hd (HR.out.up hb)
 replace HB:=Tb HB hb
 replace HS:=Hd (Nat.le_trans HS.out hb.size)
 clear hb V2
 go_wp2_with fail
 refine(T1.out _ (HT.out.below HB.out)).mono ?_
 rintro e w4 ⟨rfl,hb⟩
 replace HR:=Hd (HR.out.up hb)
 replace HB:=Tb HB hb
 replace HS:=Hd (Nat.le_trans HS.out hb.size)
 clear hb T1
 go_wp2_with fail
 refine(T2.out _ (HU.out.below HB.out)).mono ?_
 rintro e w5 ⟨rfl,hb⟩
 replace HR:=Hd (HR.out.up hb)
 replace HB:=Tb HB hb
 replace HS:=Hd (Nat.le_trans HS.out hb.size)
 clear hb T2
 have hte:¬2147483647<A+B:=by omega
 go_upto_region 6 with fail
 apply wp_region_lit
 iterate 6 go_step
 refine Great.wpList_buildSliceTo rfl 68 23 2 #[(0,.tmp 21),(1,.tmp 22)] rfl w5.heap.size rfl (some 23) rfl Tryz.underlying68 #[.slice ao na ca,.slice bo nb cb] ?_ ?_
 ·simp only[List.map_toArray,List.map_cons,List.map_nil,List.toList_toArray]
  kernel_rfl
 have hb:=below_box w5 (.cells #[.slice ao na ca,.slice bo nb cb] 23)
 have hx1:(w5.alloc (.cells #[.slice ao na ca,.slice bo nb cb] 23)).cell? ⟨w5.heap.size,0,none⟩=some (.slice ao na ca):=by simp[go_sem]
 have hx2:(w5.alloc (.cells #[.slice ao na ca,.slice bo nb cb] 23)).cell? ⟨w5.heap.size,0+1,none⟩=some (.slice bo nb cb):=by simp[go_sem]
 obtain⟨w6,hw6⟩:=Xq (w5.alloc (.cells #[.slice ao na ca,.slice bo nb cb] 23))
 rw[← hw6]at hb hx1 hx2 ⊢
 obtain⟨g5,hg5⟩:=Xq (w5.heap.size)
 rw[← hg5]at hx1 hx2 ⊢
 have HX:=Hd (And.intro hx1 hx2)
 replace HR:=Hd (HR.out.up hb)
 replace HB:=Tb HB hb
 replace HS:=Hd (Nat.le_trans HS.out hb.size)
 clear hb hx1 hx2 hw6 hg5
 go_wp2_with fail
 refine(CC.out g5 0 2 _ HX.out.1 HX.out.2 (HT.out.below HB.out) (HU.out.below HB.out) (Nat.le_refl _)).mono ?_
 rintro e w7 ⟨x7,rfl,ho,hb⟩
 obtain⟨xa,xc,hx7,-⟩:=ho.tg
 obtain⟨nx,hnx⟩:=Xq ((a++b).length)
 rw[← hnx]at hx7
 subst hx7
 clear hnx
 replace HR:=Hd (HR.out.up hb)
 replace HB:=Tb HB hb
 replace HS:=Hd (Nat.le_trans HS.out hb.size)
 have HO:=Hd ho.tg
 clear hb ho HX CC
 go_wp2_with fail
 refine(PK.out _ _ _ HO.out).mono ?_
 rintro e w8 ⟨x8,rfl,ho,hb⟩
 obtain⟨ya,yc,hx8,-⟩:=ho.tg
 have HQ:=Hd (ho.lower HS.out)
 replace HR:=Hd (HR.out.up hb)
 replace HB:=Tb HB hb
 clear hb ho PK
 obtain⟨nr,hnr⟩:=Xq (R.length)
 rw[← hnr]at hx8
 subst hx8
 have HNR:=Hd hnr
 clear hnr HO
 have r1:=HR.out.c1
 have r2:=HR.out.f1
 have r3:=HR.out.c2
 have r4:=HR.out.f2
 have n12:g1≠g2:=by omega
 have n21:g2≠g1:=by omega
 by_cases hle:nr≤64
 ·have hz:¬(64:Int)<(nr:Int):=by omega
  go_wp2_with fail
  refine leaves_cons (f:=72) (args:=#[.pointer (some ⟨g1,0,none⟩),.pointer (some ⟨g2,0,none⟩)]) (by simp) (by simp[go_sem]) ?_
  refine(idle72 _ _ _).mono ?_
  rintro e u' w'' ⟨rfl,rfl,rfl⟩
  simp[Leaves,settle,results,Tryz.results32,go_sem,r1,r3,n12,n21]
  exact⟨_,_,⟨rfl,rfl⟩,.inl ⟨by rw[← HNR.out];exact hle,rfl,(((HQ.out.var1 HR.out (Nat.zero_le _) (by omega) _).var1 (HR.out.set1 n12 _) (Nat.zero_le _) (by omega) _).var2 ((HR.out.set1 n12 _).set1 n12 _) (Nat.zero_le _) (by omega) _).lower (by omega)⟩,
   ((HB.out.setCell (p:=⟨g1,0,none⟩) hn1 _).setCell (p:=⟨g1,0,none⟩) hn1 _).setCell (p:=⟨g2,0,none⟩) hn2 _⟩
 have hz:(64:Int)<(nr:Int):=by omega
 go_wp2_with fail
 refine leaves_cons (f:=72) (args:=#[.pointer (some ⟨g1,0,none⟩),.pointer (some ⟨g2,0,none⟩)]) (by simp) (by simp[go_sem]) ?_
 refine(idle72 _ _ _).mono ?_
 rintro e u' w'' ⟨rfl,rfl,rfl⟩
 simp[Leaves,settle,results,Tryz.results32,go_sem,r1,r3,n12,n21]
 exact⟨_,_,⟨rfl,rfl⟩,.inr ⟨by rw[← HNR.out];omega,rfl,rfl⟩,
  ((HB.out.setCell (p:=⟨g1,0,none⟩) hn1 _).setCell (p:=⟨g1,0,none⟩) hn1 _).setCell (p:=⟨g2,0,none⟩) hn2 _⟩
theorem gcells_set:∀ {l:List Trk.Clip} {xs:List Value} {k:Nat} (y:Value),xs.length=l.length→k<l.length→(gcells l xs).set (k*22+21) y=gcells l (xs.set k y)
 |[],_,k,y,_,hk=>by simp at hk
 |c::l,[],k,y,h,_=>by simp at h
 |c::l,x::xs,0,y,h,_=>by
  show(clipG c x++gcells l xs).set (0*22+21) y=clipG c y++gcells l xs
  rw[List.set_append_left _ _ (by rw[clipG_length];decide)]
  rfl
 |c::l,x::xs,k+1,y,h,hk=>by
  show(clipG c x++gcells l xs).set ((k+1)*22+21) y=clipG c x++gcells l (xs.set k y)
  rw[List.set_append_right _ _ (by rw[clipG_length];omega),clipG_length,show(k+1)*22+21-22=k*22+21 by omega,gcells_set y (by simpa using h) (by simpa using hk)]
def OGm (w:World) (B C:Nat) (v:Value) (l:List Trk.Clip) (k:Nat):Prop:=
 ∃ xs:List Value,xs.length=l.length∧RowX w B 48 22 v l.length (gcells l xs)∧∀ (i:Nat) c x,l[i]?=some c→xs[i]?=some x→Ch w (if i<k then 0 else C) x c.chan
theorem OG.mid {w:World} {B C:Nat} {v:Value} {l:List Trk.Clip} (h:OG w B C v l):OGm w B C v l 0:=by
 obtain⟨xs,h1,h2,h3⟩:=h
 exact⟨xs,h1,h2,fun i c x hi hx=>by rw[if_neg (Nat.not_lt_zero i)];exact h3 i c x hi hx⟩
theorem OGm.all {w:World} {B C k:Nat} {v:Value} {l:List Trk.Clip} (h:OGm w B C v l k) (hk:l.length≤k):OG w B 0 v l:=by
 obtain⟨xs,h1,h2,h3⟩:=h
 refine⟨xs,h1,h2,fun i c x hi hx=>?_⟩
 have:=h3 i c x hi hx
 rw[if_pos (Nat.lt_of_lt_of_le (List.getElem?_eq_some_iff.1 hi).1 hk)]at this
 exact this
theorem OGm.og {w:World} {B C k:Nat} {v:Value} {l:List Trk.Clip} (h:OGm w B C v l k):OG w B C v l:=by
 obtain⟨xs,h1,h2,h3⟩:=h
 refine⟨xs,h1,h2,fun i c x hi hx=>(h3 i c x hi hx).up ?_⟩
 split<;>omega
theorem OGm.shape {w:World} {B C k:Nat} {v:Value} {l:List Trk.Clip} (h:OGm w B C v l k):(v=.slice none 0 0∧l=[])∨∃ g cap,v=.slice (some ⟨g,0,none⟩) l.length cap:=h.og.shape
theorem OGm.cell {w:World} {B C k cap g n:Nat} {l:List Trk.Clip} (h:OGm w B C (.slice (some ⟨g,0,none⟩) n cap) l k) {i:Nat} {c:Trk.Clip} (hi:l[i]?=some c):∃ x,GA w g (i*22) c x∧Ch w C x c.chan:=h.og.cell hi
theorem OGm.frozen {w:World} {B C k cap g n:Nat} {l:List Trk.Clip} (h:OGm w B C (.slice (some ⟨g,0,none⟩) n cap) l k) (o:Nat):w.frozen? ⟨g,o,none⟩=false:=h.og.frozen o
theorem OGm.lo {w:World} {B C k cap g n:Nat} {l:List Trk.Clip} (h:OGm w B C (.slice (some ⟨g,0,none⟩) n cap) l k):B≤g:=h.og.blk.1
theorem OGm.below {w w':World} {B C k:Nat} {v:Value} {l:List Trk.Clip} (h:OGm w B C v l k) (hb:Below w.heap.size w w'):OGm w' B C v l k:=by
 obtain⟨xs,h1,h2,h3⟩:=h
 exact⟨xs,h1,h2.below hb,fun i c x hi hx=>(h3 i c x hi hx).below hb⟩
theorem OGm.setCh {w:World} {B C k cap g n:Nat} {l:List Trk.Clip} {c:Trk.Clip} {y:Value} (h:OGm w B C (.slice (some ⟨g,0,none⟩) n cap) l k) (hC:C≤B) (hc:l[k]?=some c) (hy:Ch w 0 y c.chan) :
  OGm (w.setCell ⟨g,k*22+21,none⟩ y) B C (.slice (some ⟨g,0,none⟩) n cap) l (k+1):=by
 obtain⟨hB,hkl,_,_,cur0,hg0,_⟩:=h.og.blk
 obtain⟨xs,h1,h2,h3⟩:=h
 have hk:=(List.getElem?_eq_some_iff.1 hc).1
 have hoth:∀ b,b<w.heap.size→b≠g→(w.setCell ⟨g,k*22+21,none⟩ y).heap[b]?=w.heap[b]?:=fun b _ hn=>setCells_other g b hn [y] _ w
 have hkeep:∀ (D:Nat) (x:Value) (m:List Int),D≤g→Ch w D x m→Ch (w.setCell ⟨g,k*22+21,none⟩ y) D x m:=fun D x m hD hx=>hx.far (by simp) hg0 (by decide) hD hoth
 subst hkl
 refine⟨xs.set k y,by rw[List.length_set];exact h1,?_,fun i d x hi hx=>?_⟩
 ·rw[← gcells_set y h1 hk]
  exact h2.setCell (by rw[gcells_length h1];omega) y
 rw[List.getElem?_set]at hx
 by_cases hik:k=i
 ·subst hik
  rw[if_pos rfl,if_pos (by omega)]at hx
  obtain rfl:=Option.some.inj hx
  rw[hc]at hi
  obtain rfl:=Option.some.inj hi
  rw[if_pos (by omega)]
  exact hkeep 0 _ _ (Nat.zero_le _) hy
 rw[if_neg hik]at hx
 have h4:=h3 i d x hi hx
 by_cases hlt:i<k
 ·rw[if_pos hlt]at h4
  rw[if_pos (by omega)]
  exact hkeep 0 _ _ (Nat.zero_le _) h4
 rw[if_neg hlt]at h4
 rw[if_neg (by omega)]
 exact hkeep C _ _ (by omega) h4
theorem clonelg_any (D:Nat) (v:Value) (l:List Trk.Clip) (w:World) (h:TG w D v l) (hl:l.length≤1048576):Calls Tryz.prog 90 #[v] w fun e w'=>∃ v',e=.returned v'∧OG w' w.heap.size w.heap.size v' l∧Below w.heap.size w w':=by
 replace h:=h.base
 obtain⟨Cc,hCc⟩:=Xq (w.heap.size)
 have HCC:=Hd (Nat.le_of_eq hCc)
 rw[← hCc]at h
 have HT:=Hd h
 obtain⟨ao,cap,rfl,h1,h2,h3⟩:=h
 have hnil:=fun w=>Go.run_eql_slice_nil (P:=Tryz.prog) w 23 48 ao l.length cap Tryz.underlying23
 cases ao with
 | none =>
  have e:l=[]:=by
   cases l with
   |nil=>rfl
   |cons c l=>obtain⟨b,o,x,e,_⟩:=h3 0 c rfl;cases e
  clear h3
  subst e
  simp only[List.length_nil,Option.isNone_none]at hnil HT ⊢
  go_enter Tryz.func90,Tryz.ntmps90
  go_wp2_with fail
  go_ret
  exact⟨_,rfl,OG.nil _ _ _,Below.refl _ _⟩
 |some a=>
  clear h3
  simp only[Option.isNone_some]at hnil
  go_enter Tryz.func90,Tryz.ntmps90
  go_upto_region 3 with fail
  apply wp_region_lit
  iterate 3 go_step
  have hb:=below_box w (.cells #[] 48)
  have hbo:OG (w.alloc (.cells #[] 48)) w.heap.size Cc (.slice (some ⟨w.heap.size,0,none⟩) 0 0) []:=⟨[],rfl,OT.room _ _ _ _ _ (Nat.le_refl _) (MapKept.heap_alloc w _).1 (by simp) (by unfold maxLen;omega),fun i c x h=>by simp at h⟩
  obtain⟨w1,hw1⟩:=Xq (w.alloc (.cells #[] 48))
  rw[← hw1]at hb hbo ⊢
  replace HT:=Hd (HT.out.below hb)
  have HO:=Hd hbo
  have HB:=Hd hb
  clear hb hbo hw1 hnil
  iterate 3 go_step
  refine wpList_appG _ 23 23 Tryz.underlying23 Tryz.underlying23 rfl (.tmp 5) (.tmp 6) rfl w.heap.size Cc (.slice (some ⟨w.heap.size,0,none⟩) 0 0) _ [] l rfl rfl HO.out HB.out.size HCC.out HT.out (by simpa using hl) ?_
  intro v9 w9 q1 q2 q3 q4
  simp only[Act.put,sA1,sB1,sC1]
  have HQ:=Hd (And.intro q1 (HB.out.trans q2))
  clear q1 q2 q3 q4
  go_wp2_with fail
  go_ret
  exact⟨_,rfl,HQ.out.1.up HCC.out,HQ.out.2⟩
theorem clonetrackg_any (D:Nat) (v:Value) (l:List Trk.Clip) (w:World) (h:TG w D v l) (hl:l.length≤1048576) (hch:∀ c∈l,c.chan.length≤1048576):Calls Tryz.prog 48 #[v] w (OGPost w l):=by
 have HCH:=Hd hch
 clear hch
 have HT:=Hd h
 obtain⟨ao,cap,rfl,-⟩:=h
 obtain⟨N,hN⟩:=Xq (l.length)
 rw[← hN]at HT hl ⊢
 have HN:=Hd hN
 clear hN
 go_enter Tryz.func48,Tryz.ntmps48
 go_wp2_with fail
 refine(clonelg_any _ _ l w HT.out (by rw[← HN.out];exact hl)).mono ?_
 rintro e w1 ⟨r,rfl,ho,hb⟩
 have HO:=Hd ho.mid
 have HB:=Hd hb
 obtain⟨ra,rc,rfl,-⟩:=ho.tg
 rw[← HN.out]at HO ⊢
 clear ho hb
 go_upto_region 3 with fail
 go_loopw [9] (fun i wr=>∃ k:Nat,k≤N∧i=.int .i64 (k:Int)∧OGm wr w.heap.size w.heap.size (.slice ra N rc) l k∧Below w.heap.size w wr) (fun i _=>N-(intOf i).toNat)
 case atStart=>exact⟨0,Nat.zero_le _,rfl,HO.out,HB.out⟩
 case round=>
  obtain⟨k,hk,rfl,ho,hb⟩:=hrel
  have HOK:=Hd ho
  have HBK:=Hd hb
  clear ho hb
  by_cases hlt:k<N
  ·have hlt':(k:Int)<(N:Int):=by omega
   obtain⟨c,hc⟩:∃ c,l[k]?=some c:=⟨_,List.getElem?_eq_getElem (by have:=HN.out;omega)⟩
   rcases HOK.out.shape with⟨-,e⟩ |⟨g,cp,e⟩
   ·have:=HN.out
    rw[e]at this
    simp only[List.length_nil]at this
    omega
   simp only[Value.slice.injEq]at e
   obtain⟨rfl,-,rfl⟩:=e
   obtain⟨x,hA,hX⟩:=HOK.out.cell hc
   obtain⟨ax,cx,ex⟩:=hX.form
   obtain⟨nx,hnx⟩:=Xq (c.chan.length)
   rw[← hnx]at ex
   subst ex
   have HX:=Hd hX.it
   have k21:=hA.k21
   clear hA hX hnx
   have kf:=HOK.out.frozen (k*22+21)
   have HC:=Hd hc
   clear hc
   go_upto_region 5 with fail
   go_wp2_with fail
   refine(clonei_any _ c.chan wr HX.out (HCH.out c (List.mem_of_getElem? HC.out))).mono ?_
   rintro e w2 ⟨y,rfl,hy,hb⟩
   obtain⟨ay,cy,ey⟩:=hy.form
   obtain⟨ny,hny⟩:=Xq (c.chan.length)
   rw[← hny]at ey
   subst ey
   replace HOK:=Hd (HOK.out.below hb)
   replace HBK:=Tb HBK hb
   have HO2:=Hd (HOK.out.setCh (Nat.le_refl _) HC.out hy)
   have HB2:=Hd (HBK.out.setCell (p:=⟨g,k*22+21,none⟩) HOK.out.lo (.slice ay ny cy))
   obtain⟨x2,hA,-⟩:=HOK.out.cell HC.out
   have k21':=hA.k21
   have kf':=HOK.out.frozen (k*22+21)
   clear hb hy hny hA k21 kf
   go_wp2_with fail
   go_roundw
   case rel=>exact⟨k+1,by omega,by simp,HO2.out,HB2.out⟩
   case measure=>
    simp[intOf]
    omega
  have hkn:k=N:=by omega
  go_wp2_with fail
  go_ret
  exact⟨_,rfl,HOK.out.all (by have:=HN.out;omega),HBK.out⟩
theorem sameframeg_yes (c d:Trk.Clip) (x y:Value) (j k:Int) (w:World) (hix:IT w x c.chan) (hiy:IT w y d.chan) (hch:c.chan=d.chan) (fc:FrB c j) (fd:FrB d k) :
  Calls Tryz.prog 136 #[clipGV c x,.int .i64 j,clipGV d y,.int .i64 k] w fun e w'=>e=.returned (.bool (decide (Trk.one c j=Trk.one d k)))∧Below w.heap.size w w':=by
 have HCH:=Hd hch
 obtain⟨ax,cx,ex,-⟩:=id hix
 obtain⟨ay,cy,ey,-⟩:=id hiy
 have HEI:=Hd (fun w1 (hb:Below w.heap.size w w1)=>equali_any x y c.chan d.chan w1 (hix.below hb) (hiy.below hb))
 rw[decide_eq_true hch,ex,ey]at HEI
 rw[ex,ey]
 clear hix hiy ex ey hch
 obtain⟨nx,hnx⟩:=Xq (c.chan.length)
 obtain⟨ny,hny⟩:=Xq (d.chan.length)
 rw[← hnx,← hny]at HEI ⊢
 clear hnx hny
 have S1:=Hd (fun w=>samesource_any c.a d.a j k w fc.a fd.a fc.pa fd.pa)
 have S2:=Hd (fun w=>samesource_any c.b d.b j k w fc.b fd.b fc.pb fd.pb)
 have HE:=Hd (Trk.one_eq (c:=c) (d:=d) j k fc.z fd.z)
 have o0:=fc.o0
 have o1:=fc.o1
 have o2:=fd.o0
 have o3:=fd.o1
 have j0:=fc.k0
 have j1:=fc.k1
 have k0:=fd.k0
 have k1:=fd.k1
 clear fc fd
 obtain⟨D,hD⟩:=Xq (decide (Trk.one c j=Trk.one d k))
 rw[← hD]
 have HD:=Hd hD
 clear hD
 obtain⟨sa,hsa⟩:=Xq (decide (Trk.moved c.a j=Trk.moved d.a k))
 obtain⟨sb,hsb⟩:=Xq (decide (Trk.moved c.b j=Trk.moved d.b k))
 rw[← hsa]at S1
 rw[← hsb]at S2
 have HSA:=Hd hsa
 have HSB:=Hd hsb
 clear hsa hsb
 unfold clipGV
 obtain⟨C,hC⟩:=Xq ((clipG c (.slice ax nx cx)).toArray)
 obtain⟨DD,hDD⟩:=Xq ((clipG d (.slice ay ny cy)).toArray)
 rw[← hC,← hDD]
 have HCC:=Hd hC
 have HDD:=Hd hDD
 clear hC hDD
 go_enter Tryz.func136,Tryz.ntmps136
 go_upto_region 1 with fail
 obtain⟨w1,hw1⟩:=Xq ((w.alloc (.cells C 48)).alloc (.cells DD 48))
 rw[← hw1]
 rw[HCC.out,HDD.out]at hw1
 obtain⟨hx,hy,hb1⟩:=boxG2_facts hw1
 obtain⟨g1,hg1⟩:=Xq (w.heap.size)
 obtain⟨g2,hg2⟩:=Xq (w.heap.size+1)
 rw[← hg2]at hy ⊢
 rw[← hg1]at hx ⊢
 have HB:=Hd hb1
 have HX:=Hd hx
 have HY:=Hd hy
 clear hw1 hb1 hg1 hg2
 obtain⟨x0,x1,x2,x3,x4,x5,x6,x7,x8,x9,x10,x11,x12,x13,x14,x15,x16,x17,x18,x19,x20,x21⟩:=hx.c.at0
 obtain⟨y0,y1,y2,y3,y4,y5,y6,y7,y8,y9,y10,y11,y12,y13,y14,y15,y16,y17,y18,y19,y20,y21⟩:=hy.c.at0
 clear hx hy x0 y0
 have HNO:¬(Trk.one c j=Trk.one d k)→false=D:=fun h=>by rw[HD.out];exact(decide_eq_false h).symm
 replace HNO:=Hd HNO
 go_upto_region 3 with(go_at_call 107;refine(HEI.out _ HB.out).mono ?_;rintro e w' ⟨rfl,nq,rfl⟩)
 all_goals try
  go_ret
  refine⟨ret_bool (HNO.out fun h=>?_),(by first |exact HB.out |exact below_drewN HB.out _)⟩
  obtain⟨⟨h1,h2,h3,h4,h5,h6⟩,h7,h8,h9⟩:=HE.out.1 h
  first
  |contradiction
  |exact absurd (congrArg ByteArray.toList h4) (by assumption)
  |(exfalso;simp_all;done)
 rename_i hk ht hp htx hg K1 a1 K2 a2
 have HEQ:=Hd (show(Trk.shares c.kind=true→c.off+j=d.off+k)→D=(sa&&sb) from fun hs=>by
  have h:=HE.out
  rw[HD.out,HSA.out,HSB.out,← Bool.decide_and]
  exact decide_eq_decide.2 (h.trans ⟨fun h=>h.2.2,fun h2=>⟨⟨hk,ht,hp,bytes_inj2 htx,hg,HCH.out⟩,hs,h2.1,h2.2⟩⟩))
 have hbq:Below w1.heap.size w1 (w1.drewN nq):=below_drewN (Below.refl _ _) _
 replace HX:=Hd (HX.out.below hbq)
 replace HY:=Hd (HY.out.below hbq)
 replace HB:=Hd (HB.out.trans (hbq.mono HB.out.size))
 clear hbq x1 x2 x3 x4 x5 x6 x7 x8 x9 x10 x11 x12 x13 x14 x15 x16 y1 y2 y3 y4 y5 y6 y7 y8 y9 y10 y11 y12 y13 y14 y15 y16
 obtain⟨w1q,hw1q⟩:=Xq (w1.drewN nq)
 rw[← hw1q]at HX HY HB ⊢
 clear hw1q
 obtain⟨_,x1,x2,x3,x4,x5,x6,x7,x8,x9,x10,x11,x12,x13,x14,x15,x16,_⟩:=HX.out.c.at0
 obtain⟨_,y1,y2,y3,y4,y5,y6,y7,y8,y9,y10,y11,y12,y13,y14,y15,y16,_⟩:=HY.out.c.at0
 clear ht hp htx hg x17 x18 x19 x20 x21 y17 y18 y19 y20 y21
 have HK:=Hd hk
 unfold srcC at S1 S2
 go_upto_region 5 with fail
 all_goals try
  go_ret
  refine⟨ret_bool (HNO.out fun h=>?_),(by first |exact HB.out |exact below_drewN HB.out _)⟩
  obtain⟨⟨h1,h2,h3,h4,h5,h6⟩,h7,h8,h9⟩:=HE.out.1 h
  first
  |contradiction
  |(exact absurd (h7 (by rw[h1];simp_all[Trk.shares])) (by assumption))
  |(exfalso;simp_all[Trk.shares];done)
 all_goals
  have hd:D=(sa&&sb):=HEQ.out fun hs=>by
   rw[hk]at hs
   first
   |(simp_all[Trk.shares];done)
   | (have h2 : (c.off + j != d.off + k) = false := by assumption
      simpa using h2)
  have HDS:=Hd hd
  clear hd hk
  clear y1 x1 x16 y16
  go_wp2_with fail
  refine(S1.out _).mono ?_
  rintro e w2 ⟨rfl,hb⟩
  replace HX:=Hd (HX.out.below hb)
  replace HY:=Hd (HY.out.below hb)
  replace HB:=Tb HB hb
  clear hb x2 x3 x4 x5 x6 x7 x8 x9 x10 x11 x12 x13 x14 x15 y2 y3 y4 y5 y6 y7 y8 y9 y10 y11 y12 y13 y14 y15
  obtain⟨x0,x1,x2,x3,x4,x5,x6,x7,x8,x9,x10,x11,x12,x13,x14,x15,x16,x17,x18,x19,x20,x21⟩:=HX.out.c.at0
  obtain⟨y0,y1,y2,y3,y4,y5,y6,y7,y8,y9,y10,y11,y12,y13,y14,y15,y16,y17,y18,y19,y20,y21⟩:=HY.out.c.at0
  cases sa
  ·go_wp2_with fail
   go_ret
   exact⟨ret_bool (by rw[HDS.out];rfl),HB.out⟩
  go_wp2_with fail
  refine(S2.out _).mono ?_
  rintro e w3 ⟨rfl,hb⟩
  replace HB:=Tb HB hb
  clear hb
  go_wp2_with fail
  go_ret
  exact⟨ret_bool (by rw[HDS.out];rfl),HB.out⟩
theorem sameframeg_no (c d:Trk.Clip) (x y:Value) (j k:Int) (w:World) (hix:IT w x c.chan) (hiy:IT w y d.chan) (hch:c.chan≠d.chan) (fc:FrB c j) (fd:FrB d k) :
  Calls Tryz.prog 136 #[clipGV c x,.int .i64 j,clipGV d y,.int .i64 k] w fun e w'=>e=.returned (.bool (decide (Trk.one c j=Trk.one d k)))∧Below w.heap.size w w':=by
 have HCH:=Hd hch
 obtain⟨ax,cx,ex,-⟩:=id hix
 obtain⟨ay,cy,ey,-⟩:=id hiy
 have HEI:=Hd (fun w1 (hb:Below w.heap.size w w1)=>equali_any x y c.chan d.chan w1 (hix.below hb) (hiy.below hb))
 rw[decide_eq_false hch,ex,ey]at HEI
 rw[ex,ey]
 clear hix hiy ex ey hch
 obtain⟨nx,hnx⟩:=Xq (c.chan.length)
 obtain⟨ny,hny⟩:=Xq (d.chan.length)
 rw[← hnx,← hny]at HEI ⊢
 clear hnx hny
 have S1:=Hd (fun w=>samesource_any c.a d.a j k w fc.a fd.a fc.pa fd.pa)
 have S2:=Hd (fun w=>samesource_any c.b d.b j k w fc.b fd.b fc.pb fd.pb)
 have HE:=Hd (Trk.one_eq (c:=c) (d:=d) j k fc.z fd.z)
 have o0:=fc.o0
 have o1:=fc.o1
 have o2:=fd.o0
 have o3:=fd.o1
 have j0:=fc.k0
 have j1:=fc.k1
 have k0:=fd.k0
 have k1:=fd.k1
 clear fc fd
 obtain⟨D,hD⟩:=Xq (decide (Trk.one c j=Trk.one d k))
 rw[← hD]
 have HD:=Hd hD
 clear hD
 obtain⟨sa,hsa⟩:=Xq (decide (Trk.moved c.a j=Trk.moved d.a k))
 obtain⟨sb,hsb⟩:=Xq (decide (Trk.moved c.b j=Trk.moved d.b k))
 rw[← hsa]at S1
 rw[← hsb]at S2
 have HSA:=Hd hsa
 have HSB:=Hd hsb
 clear hsa hsb
 unfold clipGV
 obtain⟨C,hC⟩:=Xq ((clipG c (.slice ax nx cx)).toArray)
 obtain⟨DD,hDD⟩:=Xq ((clipG d (.slice ay ny cy)).toArray)
 rw[← hC,← hDD]
 have HCC:=Hd hC
 have HDD:=Hd hDD
 clear hC hDD
 go_enter Tryz.func136,Tryz.ntmps136
 go_upto_region 1 with fail
 obtain⟨w1,hw1⟩:=Xq ((w.alloc (.cells C 48)).alloc (.cells DD 48))
 rw[← hw1]
 rw[HCC.out,HDD.out]at hw1
 obtain⟨hx,hy,hb1⟩:=boxG2_facts hw1
 obtain⟨g1,hg1⟩:=Xq (w.heap.size)
 obtain⟨g2,hg2⟩:=Xq (w.heap.size+1)
 rw[← hg2]at hy ⊢
 rw[← hg1]at hx ⊢
 have HB:=Hd hb1
 have HX:=Hd hx
 have HY:=Hd hy
 clear hw1 hb1 hg1 hg2
 obtain⟨x0,x1,x2,x3,x4,x5,x6,x7,x8,x9,x10,x11,x12,x13,x14,x15,x16,x17,x18,x19,x20,x21⟩:=hx.c.at0
 obtain⟨y0,y1,y2,y3,y4,y5,y6,y7,y8,y9,y10,y11,y12,y13,y14,y15,y16,y17,y18,y19,y20,y21⟩:=hy.c.at0
 clear hx hy x0 y0
 have HNO:¬(Trk.one c j=Trk.one d k)→false=D:=fun h=>by rw[HD.out];exact(decide_eq_false h).symm
 replace HNO:=Hd HNO
 go_upto_region 3 with(go_at_call 107;refine(HEI.out _ HB.out).mono ?_;rintro e w' ⟨rfl,nq,rfl⟩)
 all_goals try
  go_ret
  refine⟨ret_bool (HNO.out fun h=>?_),(by first |exact HB.out |exact below_drewN HB.out _)⟩
  obtain⟨⟨h1,h2,h3,h4,h5,h6⟩,h7,h8,h9⟩:=HE.out.1 h
  first
  |exact absurd h6 HCH.out
  |contradiction
  |exact absurd (congrArg ByteArray.toList h4) (by assumption)
  |(exfalso;simp_all;done)
theorem sameframeg_any (c d:Trk.Clip) (x y:Value) (j k:Int) (w:World) (hix:IT w x c.chan) (hiy:IT w y d.chan) (fc:FrB c j) (fd:FrB d k) :
  Calls Tryz.prog 136 #[clipGV c x,.int .i64 j,clipGV d y,.int .i64 k] w fun e w'=>e=.returned (.bool (decide (Trk.one c j=Trk.one d k)))∧Below w.heap.size w w':=by
 by_cases h:c.chan=d.chan
 ·exact sameframeg_yes c d x y j k w hix hiy h fc fd
 exact sameframeg_no c d x y j k w hix hiy h fc fd
theorem PosB.of {s:Trk.Src} {k:Int} (h:SrcOK s) (k0:-4294967296≤k) (k1:k≤4294967296):PosB s k:=by
 have hw:=h.wide
 have hb:=hw.bounds
 exact⟨hb.2.1,hb.2.2.2.1,hw.l,h.a0,h.a1,h.s0,h.s1,k0,k1⟩
theorem VG.frb {c:Trk.Clip} (h:VG c) {k:Int} (k0:-4294967296≤k) (k1:k≤4294967296):FrB c k:=by
 have ho:=h.off
 exact⟨h.a.okw.okay,h.b.okw.okay,h.a.imp id fun h=>PosB.of h k0 k1,h.b.imp id fun h=>PosB.of h k0 k1,ho.2.2.1,ho.1,ho.2.1,k0,k1⟩
theorem prefixg_any (D1 D2:Nat) (v u:Value) (n m:List Trk.Clip) (w:World) (h:TG w D1 v n) (h':TG w D2 u m) (Vn:TV n) (Vm:TV m) :
  Calls Tryz.prog 92 #[v,u] w fun e w'=>∃ p,e=.returned (.int .i64 p)∧Trk.Pre n m p∧Below w.heap.size w w':=by
 have HT:=Hd h
 have HU:=Hd h'
 obtain⟨ao,cap,rfl,hc1,hc2,-⟩:=h
 obtain⟨bo,dap,rfl,hd1,hd2,-⟩:=h'
 have HGN:=Hd Vn.good
 have HGM:=Hd Vm.good
 have tn:=Vn.t
 have tm:=Vm.t
 have HSF:=Hd (fun(c d:Trk.Clip) (x y:Value) (hc:c∈n) (hd:d∈m) (j k:Int) (j0:-4294967296≤j) (j1:j≤4294967296) (k0:-4294967296≤k) (k1:k≤4294967296) (w:World) (hx:IT w x c.chan) (hy:IT w y d.chan)=>
  sameframeg_any c d x y j k w hx hy ((Vn.c c hc).frb j0 j1) ((Vm.c d hd).frb k0 k1))
 have HLN:=Hd (fun(c:Trk.Clip) (hc:c∈n)=>And.intro (Vn.c c hc).l0 (Vn.c c hc).l1)
 have HLM:=Hd (fun(c:Trk.Clip) (hc:c∈m)=>And.intro (Vm.c c hc).l0 (Vm.c c hc).l1)
 have nn:=Vn.n
 have nm:=Vm.n
 obtain⟨N,hN⟩:=Xq (n.length)
 obtain⟨M,hM⟩:=Xq (m.length)
 rw[← hN]at HT nn hc1 ⊢
 rw[← hM]at HU nm hd1 ⊢
 have HN:=Hd hN
 have HM:=Hd hM
 have TT:=Hd (And.intro tn tm)
 clear Vn Vm hN hM hc1 hc2 hd1 hd2 tn tm
 go_enter Tryz.func92,Tryz.ntmps92
 go_upto_region 4 with fail
 go_loopw [5,6,7,8,9] (fun v5 v6 v7 v8 v9 wr=>∃ (i j:Nat) (b s p:Int),v5=.int .i64 p∧v6=.int .i64 (i:Int)∧v7=.int .i64 (j:Int)∧v8=.int .i64 b∧v9=.int .i64 s∧Trk.PreAt n m i j b s p∧Below w.heap.size w wr) (fun _ i j _ _ _=>(N-(intOf i).toNat)+(M-(intOf j).toNat))
 case atStart=>exact⟨0,0,0,0,0,rfl,rfl,rfl,rfl,rfl,Trk.PreAt.zero HGN.out HGM.out,Below.refl _ _⟩
 case round=>
  obtain⟨i,j,b,s,p,rfl,rfl,rfl,rfl,rfl,hp,hb⟩:=hrel
  have HP:=Hd hp
  have HB:=Hd hb
  have li:i≤N:=by have:=hp.a.il;have:=HN.out;omega
  have lj:j≤M:=by have:=hp.c.il;have:=HM.out;omega
  have pb:=hp.a.le HGN.out
  have pb2:0≤p∧p≤2147483647:=⟨pb.1,Int.le_trans pb.2 TT.out.1⟩
  clear hp hb pb
  by_cases hi:i<N
  rotate_left
  ·have d1:decide ((i:Int)<(N:Int))=false:=decide_eq_false (by omega)
   have hiN:i=N:=by omega
   go_upto_region 4 with fail
   go_quiet (fail)
   go_wp2_with fail
   go_ret
   exact⟨p,rfl,HP.out.done HGN.out HGM.out (.inl (hiN.trans HN.out)),below_drewN HB.out _⟩
  have d1:decide ((i:Int)<(N:Int))=true:=decide_eq_true (by omega)
  by_cases hj:j<M
  rotate_left
  ·have d2:decide ((j:Int)<(M:Int))=false:=decide_eq_false (by omega)
   have hjM:j=M:=by omega
   go_upto_region 4 with fail
   go_quiet (fail)
   go_wp2_with fail
   go_ret
   exact⟨p,rfl,HP.out.done HGN.out HGM.out (.inr (.inl (hjM.trans HM.out))),below_drewN HB.out _⟩
  have d2:decide ((j:Int)<(M:Int))=true:=decide_eq_true (by omega)
  obtain⟨c,hc⟩:∃ c,n[i]?=some c:=⟨_,List.getElem?_eq_getElem (by have:=HN.out;omega)⟩
  obtain⟨d,hd⟩:∃ d,m[j]?=some d:=⟨_,List.getElem?_eq_getElem (by have:=HM.out;omega)⟩
  obtain⟨ao',cap',e,_,_,hT⟩:=HT.out.below HB.out
  have e1:=HN.out
  simp only[Value.slice.injEq]at e
  obtain⟨rfl,-,rfl⟩:=e
  obtain⟨b1,o1,xc,rfl,hA,hX⟩:=hT i c hc
  obtain⟨ax,cx,ex⟩:=hX.form
  obtain⟨nx,hnx⟩:=Xq (c.chan.length)
  rw[← hnx]at ex
  subst ex
  have HIX:=Hd hX.it
  clear hX hnx
  obtain⟨bo',dap',e,_,_,hU⟩:=HU.out.below HB.out
  simp only[Value.slice.injEq]at e
  obtain⟨rfl,-,rfl⟩:=e
  obtain⟨b2,o2,yc,rfl,hA2,hY⟩:=hU j d hd
  obtain⟨ay,cy,ey⟩:=hY.form
  obtain⟨ny,hny⟩:=Xq (d.chan.length)
  rw[← hny]at ey
  subst ey
  have HIY:=Hd hY.it
  clear hY hny
  have HA:=Hd hA
  have HA2:=Hd hA2
  have HQ:=Hd (And.intro hc hd)
  have cl:=HLN.out c (List.mem_of_getElem? hc)
  have dl:=HLM.out d (List.mem_of_getElem? hd)
  have b0:=HP.out.a.b0
  have b01:=HP.out.a.b1 c hc
  have s0:=HP.out.c.b0
  have s01:=HP.out.c.b1 d hd
  have HSC:=Hd (fun w1 h1 h2=>HSF.out c d (.slice ax nx cx) (.slice ay ny cy) (List.mem_of_getElem? hc) (List.mem_of_getElem? hd) b s (by omega) (by omega) (by omega) (by omega) w1 h1 h2)
  unfold clipGV at HSC
  clear hT hU hA hA2 hc hd e1
  obtain⟨C,hC⟩:=Xq ((clipG c (.slice ax nx cx)).toArray)
  obtain⟨D,hD⟩:=Xq ((clipG d (.slice ay ny cy)).toArray)
  rw[← hC,← hD]at HSC
  have HC:=Hd hC
  have HD:=Hd hD
  clear hC hD
  have i1:(i:Int)<(N:Int):=by omega
  have j1:(j:Int)<(M:Int):=by omega
  go_upto_region 4 with fail
  refine Plan.wp_region_plan (fun w'=>GA w' b1 (o1+i*22) c (.slice ax nx cx)∧GA w' b2 (o2+j*22) d (.slice ay ny cy)) (([0,1,2,3,4,5,6,7,8,9,10,11,12,13,14,15,16,17,18,19,20].map (·,true))++(([21].map (·,false))++([22].map (·,true)))) (by kernel_rfl) (by kernel_rfl) (by kernel_rfl) ⟨HA.out.below (Below.refl _ _).drew,HA2.out.below (Below.refl _ _).drew⟩ ?_
  refine' Plan.plan_seg _ [0,1,2,3,4,5,6,7,8,9,10,11,12,13,14,15,16,17,18,19,20] (([21].map (·,false))++([22].map (·,true))) (by kernel_rfl) (by kernel_rfl) rfl (by exact⟨HA.out.below (Below.refl _ _).drew,HA2.out.below (Below.refl _ _).drew⟩) (fun wx hS=>?_) ?_
  rotate_left
  ·obtain⟨S1,S2⟩:=hS
   have HS1:=Hd S1
   have HS2:=Hd S2
   clear S1 S2
   go_light
   iterate 14 (apply Plan.seg_pick;rfl;intro K hK;go_wp)
   (apply Plan.seg_pick;rfl;intro K hK)
   go_guarded
   refine wp_load_mid 48 _ rfl b1 (o1+i*22) rfl (clipG c (.slice ax nx cx)) _ HS1.out.range Tryz.underlying48 rfl (by kernel_rfl) ?_
   rw[← HC.out]
   go_wp
   iterate 4 (apply Plan.seg_pick;rfl;intro K hK;go_wp)
   (apply Plan.seg_pick;rfl;intro K hK)
   go_guarded
   refine wp_load_mid 48 _ rfl b2 (o2+j*22) rfl (clipG d (.slice ay ny cy)) _ HS2.out.range Tryz.underlying48 rfl (by kernel_rfl) ?_
   rw[← HD.out]
   go_wp
   iterate 1 (apply Plan.seg_pick;rfl;intro K hK;go_wp)
   exact Plan.seg_nil
  obtain⟨w4,hw4⟩:=Xq (wr.drew)
  rw[← hw4]
  have hb:Below wr.heap.size wr w4:=by rw[hw4];exact(Below.refl _ _).drew
  replace HA:=Hd (HA.out.below hb)
  replace HA2:=Hd (HA2.out.below hb)
  replace HIX:=Hd (HIX.out.below hb)
  replace HIY:=Hd (HIY.out.below hb)
  replace HB:=Tb HB hb
  clear hb hw4
  obtain⟨r,hr⟩:=Xq (decide (Trk.one c b=Trk.one d s))
  rw[← hr]at HSC
  have HR:=Hd hr
  clear hr
  refine Plan.plan_of_effect rfl (fun K hK=>?_)
  go_wp2_with fail
  refine(HSC.out _ HIX.out HIY.out).mono ?_
  rintro e w5 ⟨rfl,hb⟩
  replace HA:=Hd (HA.out.below hb)
  replace HA2:=Hd (HA2.out.below hb)
  replace HB:=Tb HB hb
  clear hb HSC
  go_wp2_with fail
  refine⟨⟨HA.out,HA2.out⟩,?_⟩
  refine' Plan.plan_seg _ [22] [] (by kernel_rfl) (by kernel_rfl) rfl (by exact⟨HA.out,HA2.out⟩) (fun wx hS=>?_) ?_
  rotate_left
  ·clear hS
   go_light
   iterate 1 (apply Plan.seg_pick;rfl;intro K hK;go_wp)
   exact Plan.seg_nil
  refine Plan.plan_done ?_
  cases r with
  |false=>
   go_wp2_with fail
   go_ret
   exact⟨p,rfl,HP.out.done HGN.out HGM.out (.inr (.inr ⟨c,d,HQ.out.1,HQ.out.2,of_decide_eq_false HR.out.symm⟩)),HB.out⟩
  | true =>
   obtain⟨t,ht⟩:=Xq (min (c.len-b) (d.len-s))
   have HN2:=Hd (HP.out.step HGN.out HGM.out HQ.out.1 HQ.out.2 (of_decide_eq_true HR.out.symm) ht)
   have pt:=HN2.out.a.le HGN.out
   have pt2:p+t≤2147483647:=Int.le_trans pt.2 TT.out.1
   have x0:=HA.out.k0
   have y0:=HA2.out.k0
   have t1:1≤t:=by omega
   have t2:t≤c.len-b:=by omega
   have t3:t≤d.len-s:=by omega
   have HBT:=Hd (show b+t=c.len∨s+t=d.len by omega)
   obtain⟨x,hx⟩:=Xq (c.len-b)
   obtain⟨y,hy⟩:=Xq (d.len-s)
   have e1:c.len-b=x:=hx.symm
   have e2:d.len-s=y:=hy.symm
   have HM1:=Hd (show(x≤y∧t=x)∨(y<x∧t=y) by omega)
   have x1:x≤2147483647:=by omega
   have y1:y≤2147483647:=by omega
   have x2:1≤x:=by omega
   have y2:1≤y:=by omega
   clear pt ht hx hy
   go_upto_region 5 with fail
   go_cut [10] from 34 to 75 (fun v10 wx=>v10=.int .i64 (min x y)∧∃ k,wx=w5.drewN k)
   case first J K' h1 h2=>
    go_quiet (fail)
    refine h2 _ _ (Met.intro (h1 _ _ ?_))
    (repeat apply Exists.intro)
    exact⟨⟨rfl,_,rfl⟩,rfl⟩
   case rest=>
   obtain⟨rfl,k5,rfl⟩:=hcut
   have hc1:min x y=t:=by have:=HM1.out;omega
   rw[hc1]
   clear e1 e2 x1 x2 y1 y2 hc1
   by_cases h1:b+t=c.len
   ·have z1:(b+t==c.len)=true:=by simpa using h1
    by_cases h2:s+t=d.len
    ·have z2:(s+t==d.len)=true:=by simpa using h2
     have HN3:=HN2.out
     rw[if_pos h1,if_pos h2,if_pos h1,if_pos h2]at HN3
     replace HN2:=Hd HN3
     clear HN3 h1 h2
     go_wp2_with fail
     go_roundw
     case rel=>exact⟨i+1,j+1,0,0,p+t,rfl,by simp,by simp,rfl,rfl,HN2.out,below_drewN HB.out _⟩
     case measure=>simp[intOf];omega
    have z2:(s+t==d.len)=false:=by simpa using h2
    have HN3:=HN2.out
    rw[if_pos h1,if_neg h2,if_pos h1,if_neg h2]at HN3
    replace HN2:=Hd HN3
    clear HN3 h1 h2
    go_wp2_with fail
    go_roundw
    case rel=>exact⟨i+1,j,0,s+t,p+t,rfl,by simp,by simp,rfl,rfl,HN2.out,below_drewN HB.out _⟩
    case measure=>simp[intOf];omega
   have z1:(b+t==c.len)=false:=by simpa using h1
   by_cases h2:s+t=d.len
   ·have z2:(s+t==d.len)=true:=by simpa using h2
    have HN3:=HN2.out
    rw[if_neg h1,if_pos h2,if_neg h1,if_pos h2]at HN3
    replace HN2:=Hd HN3
    clear HN3 h1 h2
    go_wp2_with fail
    go_roundw
    case rel=>exact⟨i,j+1,b+t,0,p+t,rfl,by simp,by simp,rfl,rfl,HN2.out,below_drewN HB.out _⟩
    case measure=>simp[intOf];omega
   exfalso
   exact HBT.out.elim h1 h2
theorem suffixg_any (D1 D2:Nat) (v u:Value) (n m:List Trk.Clip) (lim:Int) (w:World) (h:TG w D1 v n) (h':TG w D2 u m) (Vn:TV n) (Vm:TV m) (l0:0≤lim) (l1:lim≤Trk.total n) (l2:lim≤Trk.total m) :
  Calls Tryz.prog 93 #[v,u,.int .i64 lim] w fun e w'=>∃ s,e=.returned (.int .i64 s)∧Trk.Suf n m lim s∧Below w.heap.size w w':=by
 have HT:=Hd h
 have HU:=Hd h'
 obtain⟨ao,cap,rfl,hc1,hc2,-⟩:=h
 obtain⟨bo,dap,rfl,hd1,hd2,-⟩:=h'
 have HGN:=Hd Vn.good
 have HGM:=Hd Vm.good
 have tn:=Vn.t
 have tm:=Vm.t
 have HSF:=Hd (fun(c d:Trk.Clip) (x y:Value) (hc:c∈n) (hd:d∈m) (j k:Int) (j0:-4294967296≤j) (j1:j≤4294967296) (k0:-4294967296≤k) (k1:k≤4294967296) (w:World) (hx:IT w x c.chan) (hy:IT w y d.chan)=>
  sameframeg_any c d x y j k w hx hy ((Vn.c c hc).frb j0 j1) ((Vm.c d hd).frb k0 k1))
 have HLN:=Hd (fun(c:Trk.Clip) (hc:c∈n)=>And.intro (Vn.c c hc).l0 (Vn.c c hc).l1)
 have HLM:=Hd (fun(c:Trk.Clip) (hc:c∈m)=>And.intro (Vm.c c hc).l0 (Vm.c c hc).l1)
 have nn:=Vn.n
 have nm:=Vm.n
 have lb:lim≤2147483647:=by omega
 obtain⟨N,hN⟩:=Xq (n.length)
 obtain⟨M,hM⟩:=Xq (m.length)
 rw[← hN]at HT nn hc1 ⊢
 rw[← hM]at HU nm hd1 ⊢
 have HN:=Hd hN
 have HM:=Hd hM
 have TT:=Hd (And.intro l1 l2)
 have HL0:=Hd l0
 have HZ:=Hd (show Trk.SufAt n m N M 0 0 0 by rw[hN,hM];exact Trk.SufAt.zero Vn.good Vm.good)
 clear Vn Vm hN hM hc1 hc2 hd1 hd2 tn tm l1 l2
 go_enter Tryz.func93,Tryz.ntmps93
 go_upto_region 4 with fail
 go_loopw [7,8,9,10,11] (fun v7 v8 v9 v10 v11 wr=>∃ (i j:Nat) (b s p:Int),v7=.int .i64 p∧v8=.int .i64 ((i:Int)-1)∧v9=.int .i64 ((j:Int)-1)∧v10=.int .i64 b∧v11=.int .i64 s∧Trk.SufAt n m i j b s p∧Below w.heap.size w wr) (fun _ i j _ _ _=>(intOf i+1).toNat+(intOf j+1).toNat)
 case atStart=>exact⟨N,M,0,0,0,rfl,rfl,rfl,rfl,rfl,HZ.out,Below.refl _ _⟩
 case round=>
  obtain⟨i,j,b,s,p,rfl,rfl,rfl,rfl,rfl,hp,hb⟩:=hrel
  have HP:=Hd hp
  have HB:=Hd hb
  have li:i≤N:=by have:=hp.a.il;have:=HN.out;omega
  have lj:j≤M:=by have:=hp.c.il;have:=HM.out;omega
  have p0:=hp.a.nonneg HGN.out
  have HDN:=Hd (fun hx=>hp.done HGN.out HGM.out HL0.out TT.out.1 TT.out.2 hx)
  clear hp hb
  by_cases hpl:p<lim
  rotate_left
  ·have d1:decide (p<lim)=false:=decide_eq_false hpl
   have HD:=Hd (HDN.out (.inl (by omega)))
   clear hpl
   go_upto_region 4 with fail
   go_quiet (fail)
   go_wp2_with fail
   all_goals
    go_ret
    exact⟨min p lim,ret_int (by omega),HD.out,below_drewN HB.out _⟩
  have d1:decide (p<lim)=true:=decide_eq_true hpl
  cases i with
  | zero =>
   have HD:=Hd (HDN.out (.inr (.inl rfl)))
   have ei:(((0:Nat):Int)-1)=-1:=by omega
   rw[ei]
   clear ei
   have d2:decide ((0:Int)≤-1)=false:=rfl
   go_upto_region 4 with fail
   go_quiet (fail)
   go_wp2_with fail
   all_goals
    go_ret
    exact⟨min p lim,ret_int (by omega),HD.out,below_drewN HB.out _⟩
  |succ i=>
  cases j with
  | zero =>
   have HD:=Hd (HDN.out (.inr (.inr (.inl rfl))))
   have ei:(((0:Nat):Int)-1)=-1:=by omega
   have ej:(((i+1:Nat):Int)-1)=(i:Int):=by omega
   rw[ei,ej]
   clear ei ej
   have d2:decide ((0:Int)≤(i:Int))=true:=decide_eq_true (by omega)
   have d3:decide ((0:Int)≤-1)=false:=rfl
   go_upto_region 4 with fail
   go_quiet (fail)
   go_wp2_with fail
   all_goals
    go_ret
    exact⟨min p lim,ret_int (by omega),HD.out,below_drewN HB.out _⟩
  |succ j=>
  have ei:(((i+1:Nat):Int)-1)=(i:Int):=by omega
  have ej:(((j+1:Nat):Int)-1)=(j:Int):=by omega
  rw[ei,ej]
  clear ei ej
  obtain⟨c,hc⟩:∃ c,n[i]?=some c:=⟨_,List.getElem?_eq_getElem (by have:=HN.out;omega)⟩
  obtain⟨d,hd⟩:∃ d,m[j]?=some d:=⟨_,List.getElem?_eq_getElem (by have:=HM.out;omega)⟩
  obtain⟨ao',cap',e,_,_,hT⟩:=HT.out.below HB.out
  have e1:=HN.out
  simp only[Value.slice.injEq]at e
  obtain⟨rfl,-,rfl⟩:=e
  obtain⟨b1,o1,xc,rfl,hA,hX⟩:=hT i c hc
  obtain⟨ax,cx,ex⟩:=hX.form
  obtain⟨nx,hnx⟩:=Xq (c.chan.length)
  rw[← hnx]at ex
  subst ex
  have HIX:=Hd hX.it
  clear hX hnx
  obtain⟨bo',dap',e,_,_,hU⟩:=HU.out.below HB.out
  simp only[Value.slice.injEq]at e
  obtain⟨rfl,-,rfl⟩:=e
  obtain⟨b2,o2,yc,rfl,hA2,hY⟩:=hU j d hd
  obtain⟨ay,cy,ey⟩:=hY.form
  obtain⟨ny,hny⟩:=Xq (d.chan.length)
  rw[← hny]at ey
  subst ey
  have HIY:=Hd hY.it
  clear hY hny
  have HA:=Hd hA
  have HA2:=Hd hA2
  have HQ:=Hd (And.intro hc hd)
  have cl:=HLN.out c (List.mem_of_getElem? hc)
  have dl:=HLM.out d (List.mem_of_getElem? hd)
  have b0:=HP.out.a.b0
  have b01:=HP.out.a.b1 i c rfl hc
  have s0:=HP.out.c.b0
  have s01:=HP.out.c.b1 j d rfl hd
  have HSC:=Hd (fun w1 h1 h2=>HSF.out c d (.slice ax nx cx) (.slice ay ny cy) (List.mem_of_getElem? hc) (List.mem_of_getElem? hd) (c.len-1-b) (d.len-1-s) (by omega) (by omega) (by omega) (by omega) w1 h1 h2)
  unfold clipGV at HSC
  clear hT hU hA hA2 hc hd e1
  obtain⟨C,hC⟩:=Xq ((clipG c (.slice ax nx cx)).toArray)
  obtain⟨D,hD⟩:=Xq ((clipG d (.slice ay ny cy)).toArray)
  rw[← hC,← hD]at HSC
  have HC:=Hd hC
  have HD:=Hd hD
  clear hC hD
  have i1:(i:Int)<(N:Int):=by omega
  have j1:(j:Int)<(M:Int):=by omega
  have d2:decide ((0:Int)≤(i:Int))=true:=decide_eq_true (by omega)
  have d3:decide ((0:Int)≤(j:Int))=true:=decide_eq_true (by omega)
  go_upto_region 4 with fail
  refine Plan.wp_region_plan (fun w'=>GA w' b1 (o1+i*22) c (.slice ax nx cx)∧GA w' b2 (o2+j*22) d (.slice ay ny cy)) (([0,1,2,3,4,5,6,7,8,9,10,11,12,13,14,15,16,17,18,19,20,21,22,23,24,25,26,27,28,29,30,31,32,33,34,35].map (·,true))++(([36].map (·,false))++([37].map (·,true)))) (by kernel_rfl) (by kernel_rfl) (by kernel_rfl) ⟨HA.out.below (Below.refl _ _).drew,HA2.out.below (Below.refl _ _).drew⟩ ?_
  refine' Plan.plan_seg _ [0,1,2,3,4,5,6,7,8,9,10,11,12,13,14,15,16,17,18,19,20,21,22,23,24,25,26,27,28,29,30,31,32,33,34,35] (([36].map (·,false))++([37].map (·,true))) (by kernel_rfl) (by kernel_rfl) rfl (by exact⟨HA.out.below (Below.refl _ _).drew,HA2.out.below (Below.refl _ _).drew⟩) (fun wx hS=>?_) ?_
  rotate_left
  ·obtain⟨S1,S2⟩:=hS
   have HS1:=Hd S1
   have HS2:=Hd S2
   have x0:=S1.k0
   have y0:=S2.k0
   clear S1 S2
   go_light
   iterate 15 (apply Plan.seg_pick;rfl;intro K hK;go_wp)
   (apply Plan.seg_pick;rfl;intro K hK)
   go_guarded
   refine wp_load_mid 48 _ rfl b1 (o1+i*22) rfl (clipG c (.slice ax nx cx)) _ HS1.out.range Tryz.underlying48 rfl (by kernel_rfl) ?_
   rw[← HC.out]
   go_wp
   iterate 11 (apply Plan.seg_pick;rfl;intro K hK;go_wp)
   (apply Plan.seg_pick;rfl;intro K hK)
   go_guarded
   refine wp_load_mid 48 _ rfl b2 (o2+j*22) rfl (clipG d (.slice ay ny cy)) _ HS2.out.range Tryz.underlying48 rfl (by kernel_rfl) ?_
   rw[← HD.out]
   go_wp
   iterate 8 (apply Plan.seg_pick;rfl;intro K hK;go_wp)
   exact Plan.seg_nil
  obtain⟨w4,hw4⟩:=Xq (wr.drew)
  rw[← hw4]
  have hb:Below wr.heap.size wr w4:=by rw[hw4];exact(Below.refl _ _).drew
  replace HA:=Hd (HA.out.below hb)
  replace HA2:=Hd (HA2.out.below hb)
  replace HIX:=Hd (HIX.out.below hb)
  replace HIY:=Hd (HIY.out.below hb)
  replace HB:=Tb HB hb
  clear hb hw4
  obtain⟨r,hr⟩:=Xq (decide (Trk.one c (c.len-1-b)=Trk.one d (d.len-1-s)))
  rw[← hr]at HSC
  have HR:=Hd hr
  clear hr
  refine Plan.plan_of_effect rfl (fun K hK=>?_)
  go_wp2_with fail
  refine(HSC.out _ HIX.out HIY.out).mono ?_
  rintro e w5 ⟨rfl,hb⟩
  replace HA:=Hd (HA.out.below hb)
  replace HA2:=Hd (HA2.out.below hb)
  replace HB:=Tb HB hb
  clear hb HSC
  go_wp2_with fail
  refine⟨⟨HA.out,HA2.out⟩,?_⟩
  refine' Plan.plan_seg _ [37] [] (by kernel_rfl) (by kernel_rfl) rfl (by exact⟨HA.out,HA2.out⟩) (fun wx hS=>?_) ?_
  rotate_left
  ·clear hS
   go_light
   iterate 1 (apply Plan.seg_pick;rfl;intro K hK;go_wp)
   exact Plan.seg_nil
  refine Plan.plan_done ?_
  cases r with
  | false =>
   have HD:=Hd (HDN.out (.inr (.inr (.inr ⟨i,j,c,d,rfl,rfl,HQ.out.1,HQ.out.2,of_decide_eq_false HR.out.symm⟩))))
   go_wp2_with fail
   all_goals
    go_ret
    exact⟨min p lim,ret_int (by omega),HD.out,HB.out⟩
  | true =>
   obtain⟨t,ht⟩:=Xq (min (c.len-b) (d.len-s))
   have HN2:=Hd (HP.out.step HGN.out HGM.out HQ.out.1 HQ.out.2 (of_decide_eq_true HR.out.symm) ht)
   have x0:=HA.out.k0
   have y0:=HA2.out.k0
   have t1:1≤t:=by omega
   have t2:t≤c.len-b:=by omega
   have t3:t≤d.len-s:=by omega
   have HBT:=Hd (show b+t=c.len∨s+t=d.len by omega)
   obtain⟨x,hx⟩:=Xq (c.len-b)
   obtain⟨y,hy⟩:=Xq (d.len-s)
   have e1:c.len-b=x:=hx.symm
   have e2:d.len-s=y:=hy.symm
   have HM1:=Hd (show(x≤y∧t=x)∨(y<x∧t=y) by omega)
   have x1:x≤2147483647:=by omega
   have y1:y≤2147483647:=by omega
   have x2:1≤x:=by omega
   have y2:1≤y:=by omega
   clear ht hx hy
   go_upto_region 5 with fail
   go_cut [12] from 57 to 98 (fun v12 wx=>v12=.int .i64 (min x y)∧∃ k,wx=w5.drewN k)
   case first J K' h1 h2=>
    go_quiet (fail)
    refine h2 _ _ (Met.intro (h1 _ _ ?_))
    (repeat apply Exists.intro)
    exact⟨⟨rfl,_,rfl⟩,rfl⟩
   case rest=>
   obtain⟨rfl,k5,rfl⟩:=hcut
   have hc1:min x y=t:=by have:=HM1.out;omega
   rw[hc1]
   clear e1 e2 x1 x2 y1 y2 hc1
   by_cases h1:b+t=c.len
   ·have z1:(b+t==c.len)=true:=by simpa using h1
    by_cases h2:s+t=d.len
    ·have z2:(s+t==d.len)=true:=by simpa using h2
     have HN3:=HN2.out
     rw[if_pos h1,if_pos h2,if_pos h1,if_pos h2]at HN3
     replace HN2:=Hd HN3
     clear HN3 h1 h2
     go_wp2_with fail
     go_roundw
     case rel=>exact⟨i,j,0,0,p+t,rfl,rfl,rfl,rfl,rfl,HN2.out,below_drewN HB.out _⟩
     case measure=>simp[intOf]<;>omega
    have z2:(s+t==d.len)=false:=by simpa using h2
    have HN3:=HN2.out
    rw[if_pos h1,if_neg h2,if_pos h1,if_neg h2]at HN3
    replace HN2:=Hd HN3
    clear HN3 h1 h2
    go_wp2_with fail
    go_roundw
    case rel=>exact⟨i,j+1,0,s+t,p+t,rfl,rfl,by simp,rfl,rfl,HN2.out,below_drewN HB.out _⟩
    case measure=>simp[intOf]<;>omega
   have z1:(b+t==c.len)=false:=by simpa using h1
   by_cases h2:s+t=d.len
   ·have z2:(s+t==d.len)=true:=by simpa using h2
    have HN3:=HN2.out
    rw[if_neg h1,if_pos h2,if_neg h1,if_pos h2]at HN3
    replace HN2:=Hd HN3
    clear HN3 h1 h2
    go_wp2_with fail
    go_roundw
    case rel=>exact⟨i+1,j,b+t,0,p+t,rfl,by simp,rfl,rfl,rfl,HN2.out,below_drewN HB.out _⟩
    case measure=>simp[intOf]<;>omega
   exfalso
   exact HBT.out.elim h1 h2
def DB (w:World) (g:Nat):Prop:=∃ cur,w.heap[g]?=some (.cells cur 98 (0,0))
theorem DB.lt {w:World} {g:Nat} (h:DB w g):g<w.heap.size:=by
 obtain⟨cur,h⟩:=h
 exact(Array.getElem?_eq_some_iff.1 h).1
theorem DB.below {w w':World} {g:Nat} (h:DB w g) (hb:Below w.heap.size w w'):DB w' g:=by
 have hl:=h.lt
 obtain⟨cur,h⟩:=h
 exact⟨cur,(hb.block g hl).trans h⟩
theorem DB.set {w:World} {g:Nat} (h:DB w g) {k o:Nat} (u:Value):DB (w.setCell ⟨k,o,none⟩ u) g:=by
 obtain⟨cur,h⟩:=h
 by_cases e:k=g
 ·subst e
  exact⟨cur.setIfInBounds o u,by simp[World.setCell,Array.getElem?_modify,h]⟩
 exact⟨cur,by simp[World.setCell,Array.getElem?_modify,h,e]⟩
theorem OG.box {w:World} {B g:Nat} {v:Value} {l:List Trk.Clip} (h:OG w B 0 v l) (hd:DB w g) (hB:g<B) (o:Nat) (u:Value):OG (w.setCell ⟨g,o,none⟩ u) B 0 v l:=by
 obtain⟨cur,hd⟩:=hd
 exact h.far (by simp) hd (by decide) (Nat.zero_le _) (h.row_ne hB) (fun b _ hn=>by simp[World.setCell,Array.getElem?_modify,Ne.symm hn])
open Classical in
noncomputable def partE (l:List Trk.Clip) (a b:Int):Int:=if a=b∨okCut l a then 0 else 2
open Classical in
noncomputable def partR (l:List Trk.Clip) (a b:Int):List Trk.Clip:=if a=b∨okCut l a then partL l a b else[]
theorem partg_any (D0:Nat) (v:Value) (l:List Trk.Clip) (a b:Int) (w:World) (h:TG w D0 v l) (hV:TV l) (a0:0≤a) (ab:a≤b) (b1:b≤Trk.total l) :
  Calls Tryz.prog 94 #[v,.int .i64 a,.int .i64 b] w fun e w'=>∃ v',e=.returned (.tuple #[v',.int .i64 (partE l a b)])∧OG w' w.heap.size 0 v' (partR l a b)∧Below w.heap.size w w':=by
 by_cases he:a=b
 ·subst he
  have e1:partE l a a=0:=if_pos (Or.inl rfl)
  have e2:partR l a a=[]:=by unfold partR partL;rw[if_pos (Or.inl rfl),if_pos rfl]
  rw[e1,e2]
  obtain⟨ao,cap,rfl⟩:=h.form
  clear hV h e1 e2
  go_enter Tryz.func94,Tryz.ntmps94
  go_wp2_with fail
  go_ret2
  exact⟨_,rfl,OG.nil _ _ _,Below.refl _ _⟩
 have HC:=Hd (cutg_any D0 v l a b w h hV a0 (by omega) (by have:=hV.t;omega) (Nat.le_trans (Trk.cut_len hV.good a0 ab b1) hV.n))
 obtain⟨ao,cap,rfl⟩:=h.form
 clear hV h
 have z:(a==b)=false:=by simpa using he
 have HX:=Hd he
 clear he
 go_enter Tryz.func94,Tryz.ntmps94
 go_wp2_with fail
 refine HC.out.mono ?_
 rintro e w1 ⟨ho,hb⟩
 have HB:=Hd hb
 clear hb
 rcases ho with⟨hok,v',rfl,ho⟩ |⟨hok,rfl⟩
 ·have HO:=Hd ho
  have HK:=Hd hok
  clear ho hok
  go_wp2_with fail
  go_ret2
  refine⟨v',?_,?_,HB.out⟩
  ·unfold partE
   rw[if_pos (Or.inr HK.out)]
   rfl
  unfold partR partL
  rw[if_pos (Or.inr HK.out),if_neg HX.out]
  exact HO.out
 have HK:=Hd hok
 clear hok
 go_wp2_with fail
 go_ret2
 refine⟨.slice none 0 0,?_,?_,HB.out⟩
 ·unfold partE
  rw[if_neg (fun h=>h.elim HX.out HK.out)]
  rfl
 unfold partR
 rw[if_neg (fun h=>h.elim HX.out HK.out)]
 exact OG.nil _ _ _
def CmpG (w:World) (n m:List Trk.Clip) (e:Ending) (w':World):Prop:=
 ∃ p q xv,e=.returned (.agg #[.int .i64 p,.int .i64 q,xv,.int .i64 (partE m p (Trk.total m-(Trk.total n-q)))])∧Trk.Diff n m p q (partL m p (Trk.total m-(Trk.total n-q)))∧OG w' w.heap.size 0 xv (partR m p (Trk.total m-(Trk.total n-q)))∧Below w.heap.size w w'
theorem compareg_any (D1 D2:Nat) (v u:Value) (n m:List Trk.Clip) (w:World) (h:TG w D1 v n) (h':TG w D2 u m) (Vn:TV n) (Vm:TV m) :
  Calls Tryz.prog 49 #[v,u] w (CmpG w n m):=by
 have HT:=Hd h
 have HU:=Hd h'
 have L1:=Hd (fun(w:World) (h:TG w D1 v n)=>lengthg_any D1 v n w h Vn)
 have L2:=Hd (fun(w:World) (h:TG w D2 u m)=>lengthg_any D2 u m w h Vm)
 have PX:=Hd (fun(w:World) (h:TG w D1 v n) (h':TG w D2 u m)=>prefixg_any D1 D2 v u n m w h h' Vn Vm)
 have SX:=Hd (fun(lim:Int) (w:World) (h:TG w D1 v n) (h':TG w D2 u m)=>suffixg_any D1 D2 v u n m lim w h h' Vn Vm)
 have PA:=Hd (fun(a b:Int) (w:World) (h':TG w D2 u m)=>partg_any D2 u m a b w h' Vm)
 have tn:=Vn.t
 have tm:=Vm.t
 have t0:=Trk.total_nonneg Vn.good
 have t1:=Trk.total_nonneg Vm.good
 obtain⟨ao,cap,rfl,-⟩:=h
 obtain⟨bo,dap,rfl,-⟩:=h'
 clear Vn Vm
 obtain⟨N,hN⟩:=Xq (Trk.total n)
 obtain⟨M,hM⟩:=Xq (Trk.total m)
 rw[← hN]at tn t0
 rw[← hM]at tm t1
 have HN:=Hd hN
 have HM:=Hd hM
 clear hN hM
 obtain⟨ln,hln⟩:=Xq (n.length)
 obtain⟨lm,hlm⟩:=Xq (m.length)
 rw[← hln]at HT L1 PX SX ⊢
 rw[← hlm]at HU L2 PX SX PA ⊢
 clear hln hlm
 go_enter Tryz.func49,Tryz.ntmps49
 go_upto_region 1 with fail
 obtain⟨w1,hw1⟩:=Xq (w.alloc (.cells #[.int .i64 0,.int .i64 0,.slice none 0 0,.int .i64 0] 98))
 obtain⟨g,hg⟩:=Xq (w.heap.size)
 have hb:Below w.heap.size w w1:=by rw[hw1];exact below_box _ _
 have HD:=Hd (show D4 w1 g 0 0 (.slice none 0 0) 0 by rw[hw1,hg];exact⟨by simp[go_sem],by simp[go_sem],by simp[go_sem],by simp[go_sem],fun o=>by simp[go_sem]⟩)
 have HDB:=Hd (show DB w1 g by rw[hw1,hg];exact⟨_,(MapKept.heap_alloc w _).1⟩)
 rw[← hw1,← hg]
 have HB:=Hd hb
 have HG:=Hd (show w.heap.size≤g by omega)
 replace HT:=Hd (HT.out.below hb)
 replace HU:=Hd (HU.out.below hb)
 clear hb hw1 hg
 go_wp2_with fail
 refine(L1.out _ HT.out).mono ?_
 rintro e w2 ⟨rfl,hb⟩
 replace HB:=Tb HB hb
 replace HD:=Hd (HD.out.below hb)
 replace HDB:=Hd (HDB.out.below hb)
 replace HT:=Hd (HT.out.below hb)
 replace HU:=Hd (HU.out.below hb)
 rw[← HN.out]
 clear hb
 go_wp2_with fail
 refine(L2.out _ HU.out).mono ?_
 rintro e w3 ⟨rfl,hb⟩
 replace HB:=Tb HB hb
 replace HD:=Hd (HD.out.below hb)
 replace HDB:=Hd (HDB.out.below hb)
 replace HT:=Hd (HT.out.below hb)
 replace HU:=Hd (HU.out.below hb)
 rw[← HM.out]
 clear hb
 go_wp2_with fail
 refine(PX.out _ HT.out HU.out).mono ?_
 rintro e w4 ⟨p,rfl,hp,hb⟩
 replace HB:=Tb HB hb
 replace HD:=Hd (HD.out.below hb)
 replace HDB:=Hd (HDB.out.below hb)
 replace HT:=Hd (HT.out.below hb)
 replace HU:=Hd (HU.out.below hb)
 have HP:=Hd hp
 have p0:=hp.h0
 have p1:p≤N:=by rw[HN.out];exact hp.h1
 have p2:p≤M:=by rw[HM.out];exact hp.h2
 clear hb hp
 obtain⟨k,hk⟩:=Xq (min N M)
 have HK:=Hd hk
 have k1:k≤N:=by omega
 have k2:k≤M:=by omega
 have k3:p≤k:=by omega
 clear hk
 go_upto_region 3 with fail
 apply wp_region_lit
 iterate 15 go_step
 rw[← HK.out]
 go_wp2_with fail
 refine(SX.out (k-p) _ HT.out HU.out (by omega) (by have:=HN.out;omega) (by have:=HM.out;omega)).mono ?_
 rintro e w5 ⟨s,rfl,hs,hb⟩
 replace HB:=Tb HB hb
 replace HD:=Hd (HD.out.below hb)
 replace HDB:=Hd (HDB.out.below hb)
 replace HU:=Hd (HU.out.below hb)
 have HS:=Hd hs
 have s0:=hs.h0
 have s1:=hs.h1
 clear hb hs HT
 obtain⟨q,hq⟩:=Xq (N-s)
 obtain⟨r,hr⟩:=Xq (M-s)
 have eq1:N-s=q:=hq.symm
 have er1:M-s=r:=hr.symm
 have HQR:=Hd (And.intro hq hr)
 have q0:p≤q:=by omega
 have q1:q≤2147483647:=by omega
 have r0:p≤r:=by omega
 have r1:r≤2147483647:=by omega
 have r2:r≤M:=by omega
 clear hq hr
 go_upto_region 5 with fail
 obtain⟨w6,hw6⟩:=Xq (w5.alloc (.cells #[.int .i64 p,.int .i64 q,.slice none 0 0,.int .i64 0] 98))
 obtain⟨g2,hg2⟩:=Xq (w5.heap.size)
 have hb:Below w5.heap.size w5 w6:=by rw[hw6];exact below_box _ _
 have HE:=Hd (show D4 w6 g2 p q (.slice none 0 0) 0 by rw[hw6,hg2];exact⟨by simp[go_sem],by simp[go_sem],by simp[go_sem],by simp[go_sem],fun o=>by simp[go_sem]⟩)
 have HEB:=Hd (show DB w6 g2 by rw[hw6,hg2];exact⟨_,(MapKept.heap_alloc w5 _).1⟩)
 rw[← hw6,← hg2]
 have HG2:=Hd (show w.heap.size≤g2∧g≠g2 by have:=HB.out.size;have:=HD.out.lt;omega)
 replace HB:=Tb HB hb
 replace HD:=Hd (HD.out.below hb)
 replace HDB:=Hd (HDB.out.below hb)
 replace HU:=Hd (HU.out.below hb)
 clear hb hw6 hg2
 go_wp2_with fail
 refine(PA.out p r _ HU.out p0 r0 (by have:=HM.out;omega)).mono ?_
 rintro e w7 ⟨xv,rfl,ho,hb⟩
 obtain⟨xa,xc,hxv⟩:=ho.tg.form
 have HO:=Hd ho
 have HLE:=Hd (And.intro HB.out.size (And.intro HD.out.lt HE.out.lt))
 replace HB:=Tb HB hb
 replace HD:=Hd (HD.out.below hb)
 replace HDB:=Hd (HDB.out.below hb)
 replace HE:=Hd (HE.out.below hb)
 replace HEB:=Hd (HEB.out.below hb)
 clear hb ho
 obtain⟨er,her⟩:=Xq (partE m p r)
 rw[← her]
 have HER:=Hd her
 clear her
 obtain⟨xn,hxn⟩:=Xq ((partR m p r).length)
 rw[← hxn]at hxv
 subst hxv
 clear hxn
 obtain⟨e0,e1,e2,e3,ef⟩:=HE.out
 obtain⟨d0,d1,d2,d3,df⟩:=HD.out
 have n1:=HG2.out.2
 have n2:g2≠g:=Ne.symm n1
 go_wp2_with fail
 have hr':r=Trk.total m-(Trk.total n-q):=by
  rw[← HN.out,← HM.out]
  have:=HQR.out
  omega
 have hdf:Trk.Diff n m p q (partL m p (Trk.total m-(Trk.total n-q))):=by
  refine⟨HP.out,?_,rfl⟩
  have h1:Trk.total n-q=s:=by rw[← HN.out];have:=HQR.out;omega
  rw[h1,← HN.out,← HM.out,← HK.out]
  exact HS.out
 have hg:=HG.out
 have hg2:=HG2.out.1
 refine bodyPost_ret (results_diff (g:=g) (p:=p) (q:=q) (x:=.slice xa xn xc) (e:=er) Tryz.results49 rfl ?_) rfl ⟨p,q,.slice xa xn xc,?_,hdf,?_,?_⟩
 ·exact⟨by simp[go_sem,d0,d1,d2,d3,df],by simp[go_sem,d0,d1,d2,d3,df],by simp[go_sem,d0,d1,d2,d3,df],by simp[go_sem,d0,d1,d2,d3,df],fun o=>by simp[go_sem,df]⟩
 ·rw[← hr',← HER.out]
 ·rw[← hr']
  obtain⟨l1,l2,l3⟩:=HLE.out
  have h:=HO.out
  have b1:=HDB.out
  have b2:=HEB.out
  have h1:=h.box b2 l3 2 (.slice xa xn xc)
  have b1:=b1.set (k:=g2) (o:=2) (.slice xa xn xc)
  have b2:=b2.set (k:=g2) (o:=2) (.slice xa xn xc)
  have h2:=h1.box b2 l3 3 (.int .i64 er)
  have b1:=b1.set (k:=g2) (o:=3) (.int .i64 er)
  have h3:=h2.box b1 l2 0 (.int .i64 p)
  have b1:=b1.set (k:=g) (o:=0) (.int .i64 p)
  have h4:=h3.box b1 l2 1 (.int .i64 q)
  have b1:=b1.set (k:=g) (o:=1) (.int .i64 q)
  have h5:=h4.box b1 l2 2 (.slice xa xn xc)
  have b1:=b1.set (k:=g) (o:=2) (.slice xa xn xc)
  have h6:=h5.box b1 l2 3 (.int .i64 er)
  exact h6.lower l1
 have h:=HB.out
 exact(((((h.setCell (p:=⟨g2,2,none⟩) hg2 _).setCell (p:=⟨g2,3,none⟩) hg2 _).setCell (p:=⟨g,0,none⟩) hg _).setCell (p:=⟨g,1,none⟩) hg _).setCell (p:=⟨g,2,none⟩) hg _).setCell (p:=⟨g,3,none⟩) hg _
theorem TV.cl {l:List Trk.Clip} (h:TV l):∀ c∈l,c.chan.length≤1048576:=fun c hc=>by
 have:=(h.c c hc).ch.1
 omega
theorem TV.nil:TV []:=⟨by simp,fun c hc=>(by cases hc),by show(0:Int)≤_;decide⟩
theorem partR_tv {l:List Trk.Clip} (h:TV l) {a b:Int} (a0:0≤a) (ab:a≤b) (b1:b≤Trk.total l):TV (partR l a b):=by
 unfold partR partL
 split
 ·rename_i ho
  split
  ·exact TV.nil
  rename_i hn
  have ht:=h.t
  refine⟨Nat.le_trans (Trk.cut_len h.good a0 ab b1) h.n,cut_vg h.l a0 ab (by omega) (ho.resolve_left hn),?_⟩
  rw[(Trk.cut_of h.good a0 ab).t]
  omega
 exact TV.nil
theorem partE_or (l:List Trk.Clip) (a b:Int):partE l a b=0∨partE l a b=2:=by
 unfold partE
 split
 ·exact .inl rfl
 exact .inr rfl
theorem partR_of {l:List Trk.Clip} {a b:Int} (h:partE l a b=0):partR l a b=partL l a b:=by
 unfold partE at h
 unfold partR
 split
 ·rfl
 rename_i hn
 rw[if_neg hn]at h
 exact absurd h (by decide)
theorem partL_tv {l:List Trk.Clip} (hl:TV l) {a b:Int} (a0:0≤a) (ab:a≤b) (b1:b≤Trk.total l) (h:partE l a b=0):TV (partL l a b):=by
 rw[← partR_of h]
 exact partR_tv hl a0 ab b1
def pieces (n:List Trk.Clip) (p1 q1:Int) (x1:List Trk.Clip) (p2 q2:Int) (x2:List Trk.Clip):List (List Trk.Clip):=[partL n 0 p1,x1,partL n q1 p2,x2,partL n q2 (Trk.total n)]
def flatK (P:List (List Trk.Clip)) (k:Nat):List Trk.Clip:=(P.take k).flatten
theorem flatK_succ {P:List (List Trk.Clip)} {k:Nat} {x:List Trk.Clip} (h:P[k]?=some x):flatK P (k+1)=flatK P k++x:=by
 unfold flatK
 rw[List.take_add_one,h]
 simp
theorem flatK_total_le {P:List (List Trk.Clip)} (h:∀ l∈P,Trk.GoodL l):∀ k,Trk.total (flatK P k)≤Trk.total P.flatten:=by
 intro k
 have e:P.flatten=flatK P k++(P.drop k).flatten:=by unfold flatK;rw[← List.flatten_append,List.take_append_drop]
 rw[e,Trk.total_append]
 have:Trk.GoodL (P.drop k).flatten:=fun c hc=>by
  obtain⟨l,hl,hcl⟩:=List.mem_flatten.1 hc
  exact h l (List.mem_of_mem_drop hl) c hcl
 have:=Trk.total_nonneg this
 omega
theorem pk_pk_append {u v:List Trk.Clip} (gu:Trk.GoodL u) (gv:Trk.GoodL v):Trk.pk (Trk.pk u++v)=Trk.pk (u++v):=
 Trk.pk_eq ((Trk.pk_of gu).g.append gv) (gu.append gv) (Trk.Same.append (Trk.pk_of gu).g gu (Trk.pk_of gu).s (Trk.Same.refl _))
def GlueR (P:List (List Trk.Clip)) (code:Int) (x:List Trk.Clip):Prop:=
 (code=5∧x=[]∧∃ k,k≤P.length∧64<(Trk.pk (flatK P k)).length)∨(code=0∧x=Trk.nf P.flatten∧∀ k,k≤P.length→(Trk.pk (flatK P k)).length≤64)
def rpG (x y z:Int) (i lo hi:Nat) (v:Value) (w:World):Prop:=v=if i=5 then .int .i64 x else if i=6 then .int .i64 z else .int .i64 y
theorem rpG.ext {x y z:Int} (i lo hi:Nat) (v:Value) (w w':World) (h:rpG x y z i lo hi v w) (hb:Plan.Ext w w'):rpG x y z i lo hi v w':=h
def rpS:List (Nat×Tmp):=[(5,80),(6,81),(9,84)]
theorem nf_pk {u:List Trk.Clip} (g:Trk.GoodL u):Trk.nf (Trk.pk u)=Trk.nf u:=by
 unfold Trk.nf
 rw[Trk.pk_pk g]
theorem partL_total {l:List Trk.Clip} (h:Trk.GoodL l) {a b:Int} (a0:0≤a) (ab:a≤b):Trk.total (partL l a b)=b-a:=by
 unfold partL
 split
 ·show(0:Int)=_;omega
 exact(Trk.cut_of h a0 ab).t
def RepR (n:List Trk.Clip) (p1 q1:Int) (x1:List Trk.Clip) (p2 q2:Int) (x2:List Trk.Clip) (code:Int) (x:List Trk.Clip):Prop:=
 (2147483647<Trk.total (pieces n p1 q1 x1 p2 q2 x2).flatten∧code=2∧x=[])∨(Trk.total (pieces n p1 q1 x1 p2 q2 x2).flatten≤2147483647∧GlueR (pieces n p1 q1 x1 p2 q2 x2) code x)
def shortC (n a b:List Trk.Clip):Prop:=Trk.nf b=Trk.nf n∨Trk.nf b=Trk.nf a∨Trk.nf a=Trk.nf n
theorem D4.put {w:World} {g:Nat} {p q:Int} {x:Value} {e:Int} (h:D4 w g p q x e) (p' q':Int) (x':Value) (e':Int) :
  D4 ((((w.setCell ⟨g,0,none⟩ (.int .i64 p')).setCell ⟨g,1,none⟩ (.int .i64 q')).setCell ⟨g,2,none⟩ x').setCell ⟨g,3,none⟩ (.int .i64 e')) g p' q' x' e':=by
 obtain⟨h0,h1,h2,h3,hf⟩:=h
 exact⟨by simp[go_sem,h0,h1,h2,h3,hf],by simp[go_sem,h0,h1,h2,h3,hf],by simp[go_sem,h0,h1,h2,h3,hf],by simp[go_sem,h0,h1,h2,h3,hf],fun o=>by simp[go_sem,hf]⟩
theorem D4.other {w:World} {g:Nat} {p q:Int} {x:Value} {e:Int} (h:D4 w g p q x e) {g2:Nat} (hn:g≠g2) (o:Nat) (u:Value):D4 (w.setCell ⟨g2,o,none⟩ u) g p q x e:=by
 obtain⟨h0,h1,h2,h3,hf⟩:=h
 have hn2:=Ne.symm hn
 exact⟨by simp[go_sem,h0,hn,hn2],by simp[go_sem,h1,hn,hn2],by simp[go_sem,h2,hn,hn2],by simp[go_sem,h3,hn,hn2],fun o=>by simp[go_sem,hf]⟩
theorem flatK_vgl {P:List (List Trk.Clip)} (h:∀ l∈P,VGL l) (k:Nat):VGL (flatK P k):=fun c hc=>by
 obtain⟨l,hl,hcl⟩:=List.mem_flatten.1 hc
 exact h l (List.mem_of_mem_take hl) c hcl
def five (a b c d e:Int) (k:Nat):Int:=[a,b,c,d,e].getD k 0
theorem five_or {a b c d e:Int} (ha:a=0∨a=2) (hb:b=0∨b=2) (hc:c=0∨c=2) (hd:d=0∨d=2) (he:e=0∨e=2) (k:Nat) (hk:k<5):five a b c d e k=0∨five a b c d e k=2:=by
 rcases(show k=0∨k=1∨k=2∨k=3∨k=4 by omega) with rfl |rfl |rfl |rfl |rfl
 ·exact ha
 ·exact hb
 ·exact hc
 ·exact hd
 exact he
theorem five_zeros {a b c d e:Int} (h:a=0∧b=0∧c=0∧d=0∧e=0) (k:Nat):five a b c d e k=0:=by
 obtain⟨rfl,rfl,rfl,rfl,rfl⟩:=h
 unfold five
 rcases k with _ |_ |_ |_ |_ |k<;>rfl
theorem five_any (w:World) (a b c d e:Int) (k:Nat) (h:k<5):Sem.run Tryz.prog (Instr.index 137 (Value.agg #[.int .i64 a,.int .i64 b,.int .i64 c,.int .i64 d,.int .i64 e]) (.int .i64 (k:Int))) w=.ok (.int .i64 (five a b c d e k)) w:=by
 rcases(show k=0∨k=1∨k=2∨k=3∨k=4 by omega) with rfl |rfl |rfl |rfl |rfl<;>simp[Instr.index,run_underlying Tryz.underlying137,part,sizeOf,asIntOf,go_sem,Tryz.t30,five]
def okRep (n:List Trk.Clip) (E1 p1 q1 E2 p2 q2:Int):Prop:=E1=0∧E2=0∧partE n 0 p1=0∧partE n q1 p2=0∧partE n q2 (Trk.total n)=0
def RepPG (w:World) (n:List Trk.Clip) (E1 p1 q1:Int) (x1:List Trk.Clip) (E2 p2 q2:Int) (x2:List Trk.Clip) (e:Ending) (w':World):Prop:=
 ∃ v' code x,e=.returned (.tuple #[v',.int .i64 code])∧OG w' w.heap.size 0 v' x∧Below w.heap.size w w' ∧
  ((¬okRep n E1 p1 q1 E2 p2 q2∧code=2∧x=[])∨(okRep n E1 p1 q1 E2 p2 q2∧((2147483647<Trk.total (pieces n p1 q1 x1 p2 q2 x2).flatten∧code=2∧x=[])∨(Trk.total (pieces n p1 q1 x1 p2 q2 x2).flatten≤2147483647∧GlueR (pieces n p1 q1 x1 p2 q2 x2) code x))))
theorem replaceg_any (D1 D2 D3:Nat) (v xv yv:Value) (n x1 x2:List Trk.Clip) (p1 q1 p2 q2 E1 E2:Int) (w:World) (h:TG w D1 v n) (hx:TG w D2 xv x1) (hy:TG w D3 yv x2) (Vn:TV n) (Vx:TV x1) (Vy:TV x2) (he1:E1=0∨E1=2) (he2:E2=0∨E2=2)
  (i0:0≤p1) (i1:p1≤q1) (i2:q1≤p2) (i3:p2≤q2) (i4:q2≤Trk.total n) :
  Calls Tryz.prog 50 #[v,.agg #[.int .i64 p1,.int .i64 q1,xv,.int .i64 E1],.agg #[.int .i64 p2,.int .i64 q2,yv,.int .i64 E2]] w (RepPG w n E1 p1 q1 x1 E2 p2 q2 x2):=by
 have HT:=Hd h
 have HX:=Hd hx
 have HY:=Hd hy
 have LN:=Hd (fun(w:World) (h:TG w D1 v n)=>lengthg_any D1 v n w h Vn)
 have LX:=Hd (fun(w:World) (h:TG w D2 xv x1)=>lengthg_any D2 xv x1 w h Vx)
 have LY:=Hd (fun(w:World) (h:TG w D3 yv x2)=>lengthg_any D3 yv x2 w h Vy)
 have P1:=Hd (fun(w:World) (h:TG w D1 v n)=>partg_any D1 v n 0 p1 w h Vn (Int.le_refl 0) i0 (by omega))
 have P2:=Hd (fun(w:World) (h:TG w D1 v n)=>partg_any D1 v n q1 p2 w h Vn (by omega) i2 (by omega))
 have P3:=Hd (fun(w:World) (h:TG w D1 v n)=>partg_any D1 v n q2 (Trk.total n) w h Vn (by omega) i4 (Int.le_refl _))
 have VA:=Hd (fun hz=>partL_tv Vn (Int.le_refl 0) i0 (by omega) hz)
 have VB:=Hd (fun hz=>partL_tv Vn (show 0≤q1 by omega) i2 (by omega) hz)
 have VC':=Hd (fun hz=>partL_tv Vn (show 0≤q2 by omega) i4 (Int.le_refl _) hz)
 have tA:=partL_total Vn.good (Int.le_refl 0) i0
 have tB:=partL_total Vn.good (show 0≤q1 by omega) i2
 have tC:=partL_total Vn.good (show 0≤q2 by omega) i4
 have tn:=Vn.t
 have tx:=Vx.t
 have ty:=Vy.t
 have tx0:=Trk.total_nonneg Vx.good
 have ty0:=Trk.total_nonneg Vy.good
 have HVL:=Hd (show partE n 0 p1=0→partE n q1 p2=0→partE n q2 (Trk.total n)=0→∀ l∈pieces n p1 q1 x1 p2 q2 x2,TV l from fun z3 z4 z5 l hl=>by
  simp only[pieces,List.mem_cons,List.not_mem_nil,or_false]at hl
  rcases hl with rfl |rfl |rfl |rfl |rfl
  ·exact VA.out z3
  ·exact Vx
  ·exact VB.out z4
  ·exact Vy
  exact VC'.out z5)
 have HTF:=Hd (show Trk.total (pieces n p1 q1 x1 p2 q2 x2).flatten=Trk.total n-(q1-p1+q2-p2)+Trk.total x1+Trk.total x2 by
  simp only[pieces,List.flatten_cons,List.flatten_nil,List.append_nil,Trk.total_append,tA,tB,tC]
  omega)
 obtain⟨ao,ca,rfl⟩:=h.form
 obtain⟨xo,cx,rfl⟩:=hx.form
 obtain⟨yo,cy,rfl⟩:=hy.form
 clear Vn Vx Vy tA tB tC h hx hy VA VB VC'
 obtain⟨N,hN⟩:=Xq (Trk.total n)
 obtain⟨X,hX⟩:=Xq (Trk.total x1)
 obtain⟨Y,hY⟩:=Xq (Trk.total x2)
 rw[← hN]at LN P3 i4 tn HVL
 rw[← hX]at LX tx tx0
 rw[← hY]at LY ty ty0
 rw[← hN,← hX,← hY]at HTF
 have HP:=Hd (show pieces n p1 q1 x1 p2 q2 x2=[partL n 0 p1,x1,partL n q1 p2,x2,partL n q2 N] by rw[hN];rfl)
 obtain⟨nn,hnn⟩:=Xq (n.length)
 obtain⟨nx,hnx⟩:=Xq (x1.length)
 obtain⟨ny,hny⟩:=Xq (x2.length)
 rw[← hnn]at HT LN P1 P2 P3 ⊢
 rw[← hnx]at HX LX ⊢
 rw[← hny]at HY LY ⊢
 have HNT:=Hd hN
 clear hN hX hY hnn hnx hny
 have hOk:okRep n E1 p1 q1 E2 p2 q2↔(E1=0∧E2=0∧partE n 0 p1=0∧partE n q1 p2=0∧partE n q2 N=0):=by rw[HNT.out];exact Iff.rfl
 obtain⟨E3,hE3⟩:=Xq (partE n 0 p1)
 obtain⟨E4,hE4⟩:=Xq (partE n q1 p2)
 obtain⟨E5,hE5⟩:=Xq (partE n q2 N)
 have H5O:=Hd (five_or he1 he2 (hE3 ▸ partE_or n 0 p1:E3=0∨E3=2) (hE4 ▸ partE_or n q1 p2:E4=0∨E4=2) (hE5 ▸ partE_or n q2 N:E5=0∨E5=2))
 have HR3:=Hd (fun(z:E3=0)=>partR_of (l:=n) (a:=0) (b:=p1) (hE3.symm.trans z))
 have HR4:=Hd (fun(z:E4=0)=>partR_of (l:=n) (a:=q1) (b:=p2) (hE4.symm.trans z))
 have HR5:=Hd (fun(z:E5=0)=>partR_of (l:=n) (a:=q2) (b:=N) (hE5.symm.trans z))
 rw[← hE3]at P1 HVL hOk
 rw[← hE4]at P2 HVL hOk
 rw[← hE5]at P3 HVL hOk
 have HOk:=Hd hOk
 clear hE3 hE4 hE5 hOk he1 he2
 unfold RepPG
 obtain⟨OK,hOK⟩:=Xq (okRep n E1 p1 q1 E2 p2 q2)
 rw[← hOK]at HOk ⊢
 clear hOK
 obtain⟨PP,hPP⟩:=Xq (pieces n p1 q1 x1 p2 q2 x2)
 rw[← hPP]at HVL HTF HP ⊢
 clear hPP
 go_enter Tryz.func50,Tryz.ntmps50
 go_upto_region 1 with fail
 obtain⟨w1,hw1⟩:=Xq ((w.alloc (.cells #[.int .i64 p1,.int .i64 q1,.slice xo nx cx,.int .i64 E1] 98)).alloc (.cells #[.int .i64 p2,.int .i64 q2,.slice yo ny cy,.int .i64 E2] 98))
 obtain⟨g1,hg1⟩:=Xq (w.heap.size)
 obtain⟨g2,hg2⟩:=Xq (w.heap.size+1)
 have hb:Below w.heap.size w w1:=by rw[hw1];go_grown
 have HD:=Hd (show D4 w1 g1 p1 q1 (.slice xo nx cx) E1 by rw[hw1,hg1];exact⟨by simp[go_sem],by simp[go_sem],by simp[go_sem],by simp[go_sem],fun o=>by simp[go_sem]⟩)
 have HE:=Hd (show D4 w1 g2 p2 q2 (.slice yo ny cy) E2 by rw[hw1,hg2];exact⟨by simp[go_sem],by simp[go_sem],by simp[go_sem],by simp[go_sem],fun o=>by simp[go_sem]⟩)
 rw[← hw1,← hg2,← hg1]
 have HB:=Hd hb
 replace HT:=Hd (HT.out.below hb)
 replace HX:=Hd (HX.out.below hb)
 replace HY:=Hd (HY.out.below hb)
 clear hb hw1 hg1 hg2
 go_wp2_with fail
 refine(LN.out _ HT.out).mono ?_
 rintro e w2 ⟨rfl,hb⟩
 replace HT:=Hd (HT.out.below hb)
 replace HX:=Hd (HX.out.below hb)
 replace HY:=Hd (HY.out.below hb)
 replace HD:=Hd (HD.out.below hb)
 replace HE:=Hd (HE.out.below hb)
 replace HB:=Tb HB hb
 clear hb
 obtain⟨d0,d1,d2,d3,df⟩:=HD.out
 go_wp2_with fail
 refine(P1.out _ HT.out).mono ?_
 rintro e w3 ⟨v3,rfl,ho,hb⟩
 have H3:=Hd ho.tg
 clear d0 d1 d2 d3 df
 replace HT:=Hd (HT.out.below hb)
 replace HX:=Hd (HX.out.below hb)
 replace HY:=Hd (HY.out.below hb)
 replace HD:=Hd (HD.out.below hb)
 replace HE:=Hd (HE.out.below hb)
 replace HB:=Tb HB hb
 clear hb
 obtain⟨d0,d1,d2,d3,df⟩:=HD.out
 obtain⟨e0,e1,e2,e3,ef⟩:=HE.out
 go_wp2_with fail
 refine(P2.out _ HT.out).mono ?_
 rintro e w4 ⟨v4,rfl,ho,hb⟩
 have H4:=Hd ho.tg
 clear d0 d1 d2 d3 df e0 e1 e2 e3 ef
 replace HT:=Hd (HT.out.below hb)
 replace HX:=Hd (HX.out.below hb)
 replace HY:=Hd (HY.out.below hb)
 replace HD:=Hd (HD.out.below hb)
 replace HE:=Hd (HE.out.below hb)
 replace H3:=Hd (H3.out.below hb)
 replace HB:=Tb HB hb
 clear hb
 obtain⟨e0,e1,e2,e3,ef⟩:=HE.out
 go_wp2_with fail
 refine(P3.out _ HT.out).mono ?_
 rintro e w5 ⟨v5,rfl,ho,hb⟩
 have H5:=Hd ho.tg
 clear e0 e1 e2 e3 ef
 replace HX:=Hd (HX.out.below hb)
 replace HY:=Hd (HY.out.below hb)
 replace HD:=Hd (HD.out.below hb)
 replace HE:=Hd (HE.out.below hb)
 replace H3:=Hd (H3.out.below hb)
 replace H4:=Hd (H4.out.below hb)
 replace HB:=Tb HB hb
 clear hb
 clear HT P1 P2 P3 LN
 obtain⟨d0,d1,d2,d3,df⟩:=HD.out
 obtain⟨e0,e1,e2,e3,ef⟩:=HE.out
 go_upto_region 6 with fail
 go_loopw [57] (fun i wr=>∃ k:Nat,k≤5∧i=.int .i64 (k:Int)∧(∀ j,j<k→five E1 E2 E3 E4 E5 j=0)∧wr=w5) (fun i _=>5-(intOf i).toNat)
 case atStart=>exact⟨0,Nat.zero_le _,rfl,fun j hj=>by omega,rfl⟩
 case round =>
  obtain⟨k,hk,rfl,hz,rfl⟩:=hrel
  have HZ:=Hd hz
  clear hz
  by_cases hlt:k<5
  ·have hlt':(k:Int)<5:=by omega
   go_wp2_with fail
   rw[five_any _ _ _ _ _ _ k hlt]
   rcases H5O.out k hlt with hv |hv
   ·have HV:=Hd hv
    rw[hv]
    clear hv
    go_wp2_with fail
    go_roundw
    case rel=>
     refine⟨k+1,by omega,by simp,fun j hj=>?_,trivial⟩
     by_cases hjk:j=k
     ·rw[hjk];exact HV.out
     exact HZ.out j (by omega)
    case measure=>
     simp[intOf]
     omega
   have HV:=Hd hv
   rw[hv]
   clear hv
   go_wp2_with fail
   go_ret2
   refine⟨_,_,_,rfl,OG.nil _ _ _,HB.out,.inl ⟨fun h=>?_,rfl,rfl⟩⟩
   have h2:=HV.out
   rw[five_zeros (HOk.out.1 h) k]at h2
   exact absurd h2 (by decide)
  have e5:(k:Int)=5:=by omega
  have hz:E1=0∧E2=0∧E3=0∧E4=0∧E5=0:=⟨HZ.out 0 (by omega),HZ.out 1 (by omega),HZ.out 2 (by omega),HZ.out 3 (by omega),HZ.out 4 (by omega)⟩
  have HOKK:=Hd (HOk.out.2 hz)
  replace HVL:=Hd (HVL.out hz.2.2.1 hz.2.2.2.1 hz.2.2.2.2)
  replace H3:=Hd (show TG wr 0 v3 (partL n 0 p1) from HR3.out hz.2.2.1 ▸ H3.out)
  replace H4:=Hd (show TG wr 0 v4 (partL n q1 p2) from HR4.out hz.2.2.2.1 ▸ H4.out)
  replace H5:=Hd (show TG wr 0 v5 (partL n q2 N) from HR5.out hz.2.2.2.2 ▸ H5.out)
  rw[e5]
  clear e5 hz HZ hlt hk HOk H5O
  obtain⟨dd,hdd⟩:=Xq (q1-p1+q2-p2)
  have hd1:q1-p1+q2-p2=dd:=hdd.symm
  have hd2:0≤dd∧dd≤N:=by omega
  have HDD:=Hd hdd
  clear hdd
  go_upto_region 12 with fail
  clear d0 d1 d2 d3 df e0 e1 e2 e3 ef hd1
  have hd3:=hd2.1
  have hd4:=hd2.2
  refine Plan.wp_region_fresh (fun w'=>Below wr.heap.size wr w') 12 (rpG X Y (N-dd+X)) ([0,1,2,3,4,7,8].map (·,true)) rpS ([10,11].map (·,true)) 114 (by kernel_rfl) (by kernel_rfl) (by kernel_rfl) (Below.refl _ _).drew (fun wa wb ha hb=>ha.trans (hb.mono ha.size)) rpG.ext ?_
  refine' Plan.plan_seg _ [0,1,2,3,4,7,8] [] (by kernel_rfl) (by kernel_rfl) rfl (by exact(Below.refl _ _).drew) (fun wx hS=>?_) ?_
  rotate_left
  ·obtain⟨d0,d1,d2,d3,df⟩:=HD.out.below hS
   obtain⟨e0,e1,e2,e3,ef⟩:=HE.out.below hS
   clear hS
   go_light
   iterate 7 (apply Plan.seg_pick;rfl;intro K hK;go_wp)
   exact Plan.seg_nil
  refine Plan.plan_nil ?_
  refine Plan.fresh_at_gen (fun A=>A.tmps.size=114∧A.tmps[79]?=some (.slice xo nx cx)∧A.tmps[83]?=some (.slice yo ny cy)∧A.tmps[77]?=some (.int .i64 (N-dd))) ⟨rfl,rfl,rfl,rfl⟩ rfl (fun Aq hA=>?_) ?_
  ·obtain⟨hsz,e79,e83,e77⟩:=hA
   intro p' hp o ho vs wx lo hi hS hE hG K hK
   simp only[rpS,List.mem_cons,List.not_mem_nil,or_false]at hp
   rcases hp with rfl |rfl |rfl
   all_goals obtain rfl:=Option.some.inj ho
   ·have t9:(Plan.puts vs rpS Aq).eval (.tmp 79)=.slice xo nx cx:=by rw[Plan.eval_out (by decide)];simp[Act.eval,Array.getD_eq_getD_getElem?,e79]
    refine Plan.one_call rfl 31 Tryz.func31 (by kernel_rfl) (by kernel_rfl) #[.tmp 79] #[23] rfl #[.slice xo nx cx] (by simp only[List.map_toArray,List.map_cons,List.map_nil,t9]) (fun r w'=>r=.int .i64 X∧Below wx.heap.size wx w') ?_ (fun r w' hR=>hK _ _ hR.1 hR.2)
    refine(LX.out wx (HX.out.below hS)).mono ?_
    rintro e w' ⟨rfl,hb⟩
    exact⟨_,rfl,rfl,hb⟩
   ·have h5:vs 5=.int .i64 X:=hG (5,80) (by decide) (by decide)
    have t80:(Plan.puts vs rpS Aq).tmps[80]?=some (.int .i64 X):=by
     rw[← h5]
     exact Plan.puts_in vs rpS Aq (i:=5) (s:=80) (by decide) (by decide) (by rw[hsz];decide)
    have t77:(Plan.puts vs rpS Aq).tmps[77]?=some (.int .i64 (N-dd)):=by
     rw[Plan.puts_out vs rpS Aq (s:=77) (by decide)]
     exact e77
    clear hG
    obtain⟨Bq,hBq⟩:=Xq (Plan.puts vs rpS Aq)
    rw[← hBq]at hK t80 t77 ⊢
    clear hBq hsz e79 e83 e77
    go_wp2
    exact hK _ _ rfl (Below.refl _ _)
   have t9:(Plan.puts vs rpS Aq).eval (.tmp 83)=.slice yo ny cy:=by rw[Plan.eval_out (by decide)];simp[Act.eval,Array.getD_eq_getD_getElem?,e83]
   refine Plan.one_call rfl 31 Tryz.func31 (by kernel_rfl) (by kernel_rfl) #[.tmp 83] #[23] rfl #[.slice yo ny cy] (by simp only[List.map_toArray,List.map_cons,List.map_nil,t9]) (fun r w'=>r=.int .i64 Y∧Below wx.heap.size wx w') ?_ (fun r w' hR=>hK _ _ hR.1 hR.2)
   refine(LY.out wx (HY.out.below hS)).mono ?_
   rintro e w' ⟨rfl,hb⟩
   exact⟨_,rfl,rfl,hb⟩
  intro vs lo hi w6 hS hE hall hap
  have h2:vs 5=.int .i64 X:=(hall (5,80) (by decide)).1
  have h5:vs 9=.int .i64 Y:=(hall (9,84) (by decide)).1
  have h6:vs 6=.int .i64 (N-dd+X):=(hall (6,81) (by decide)).1
  have hSk:=Hd hS
  have hb:=hS
  simp only[rpS,Plan.puts,h2,h5,h6]
  clear hall hap hE hS h2 h5 h6
  replace HX:=Hd (HX.out.below hb)
  replace HY:=Hd (HY.out.below hb)
  replace HD:=Hd (HD.out.below hb)
  replace HE:=Hd (HE.out.below hb)
  replace H3:=Hd (H3.out.below hb)
  replace H4:=Hd (H4.out.below hb)
  replace H5:=Hd (H5.out.below hb)
  replace HB:=Tb HB hb
  clear hb
  obtain⟨S,hS⟩:=Xq (N-dd+X+Y)
  have hs1:N-dd+X+Y=S:=hS.symm
  have HSS:=Hd (show Trk.total PP.flatten=S by rw[HTF.out,hS,HDD.out])
  clear hS
  refine' Plan.plan_seg _ [10,11] [] (by kernel_rfl) (by kernel_rfl) rfl (by exact hSk.out) (fun wy hS=>?_) ?_
  rotate_left
  ·clear hS
   go_light
   iterate 2 (apply Plan.seg_pick;rfl;intro K hK;go_wp)
   exact Plan.seg_nil
  refine Plan.plan_done ?_
  clear hs1
  by_cases hlong:2147483647<S
  ·have HLG:=Hd hlong
   go_wp2_with fail
   go_ret2
   exact⟨_,_,_,rfl,OG.nil _ _ _,HB.out,.inr ⟨HOKK.out,.inl ⟨by rw[HSS.out];exact HLG.out,rfl,rfl⟩⟩⟩
  have HLG:=Hd (show Trk.total PP.flatten≤2147483647 by rw[HSS.out];omega)
  obtain⟨d0,d1,d2,d3,df⟩:=HD.out
  obtain⟨e0,e1,e2,e3,ef⟩:=HE.out
  obtain⟨a3,c3,h3⟩:=H3.out.form
  obtain⟨a4,c4,h4⟩:=H4.out.form
  obtain⟨a5,c5,h5⟩:=H5.out.form
  obtain⟨n3,hn3⟩:=Xq ((partL n 0 p1).length)
  obtain⟨n4,hn4⟩:=Xq ((partL n q1 p2).length)
  obtain⟨n5,hn5⟩:=Xq ((partL n q2 N).length)
  rw[← hn3]at h3
  rw[← hn4]at h4
  rw[← hn5]at h5
  subst h3 h4 h5
  clear hn3 hn4 hn5
  go_upto_region 15 with fail
  apply wp_region_lit
  iterate 21 go_step
  refine Great.wpList_buildSliceTo rfl 68 23 5 #[(0,.tmp 87),(1,.tmp 89),(2,.tmp 90),(3,.tmp 92),(4,.tmp 93)] rfl w6.heap.size rfl (some 94) rfl Tryz.underlying68 #[.slice a3 n3 c3,.slice xo nx cx,.slice a4 n4 c4,.slice yo ny cy,.slice a5 n5 c5] ?_ ?_
  ·simp only[List.map_toArray,List.map_cons,List.map_nil,List.toList_toArray]
   kernel_rfl
  obtain⟨w7,hw7⟩:=Xq (w6.alloc (.cells #[.slice a3 n3 c3,.slice xo nx cx,.slice a4 n4 c4,.slice yo ny cy,.slice a5 n5 c5] 23))
  obtain⟨gs,hgs⟩:=Xq (w6.heap.size)
  have hb:Below w6.heap.size w6 w7:=by rw[hw7];exact below_box _ _
  have f0:w7.cell? ⟨gs,0,none⟩=some (.slice a3 n3 c3):=by rw[hw7,hgs];simp[go_sem]
  have f1:w7.cell? ⟨gs,1,none⟩=some (.slice xo nx cx):=by rw[hw7,hgs];simp[go_sem]
  have f2:w7.cell? ⟨gs,2,none⟩=some (.slice a4 n4 c4):=by rw[hw7,hgs];simp[go_sem]
  have f3:w7.cell? ⟨gs,3,none⟩=some (.slice yo ny cy):=by rw[hw7,hgs];simp[go_sem]
  have f4:w7.cell? ⟨gs,4,none⟩=some (.slice a5 n5 c5):=by rw[hw7,hgs];simp[go_sem]
  rw[← hw7,← hgs]
  clear hw7 hgs d0 d1 d2 d3 df e0 e1 e2 e3 ef
  replace HX:=Hd (HX.out.below hb)
  replace HY:=Hd (HY.out.below hb)
  replace H3:=Hd (H3.out.below hb)
  replace H4:=Hd (H4.out.below hb)
  replace H5:=Hd (H5.out.below hb)
  replace HB:=Tb HB hb
  clear hb
  have HC:=Hd (show ∀ i x,PP[i]?=some x→∃ a m c,w7.cell? ⟨gs,i,none⟩=some (.slice a m c)∧TG w7 w7.heap.size (.slice a m c) x from fun i x hi=>by
   rw[HP.out]at hi
   have hlt:=(List.getElem?_eq_some_iff.1 hi).1
   rcases(show i=0∨i=1∨i=2∨i=3∨i=4 by simp at hlt;omega) with rfl |rfl |rfl |rfl |rfl
   all_goals
    simp only[List.getElem?_cons_zero,List.getElem?_cons_succ,Option.some.injEq]at hi
    subst hi
   ·exact⟨_,_,_,f0,H3.out.base⟩
   ·exact⟨_,_,_,f1,HX.out.base⟩
   ·exact⟨_,_,_,f2,H4.out.base⟩
   ·exact⟨_,_,_,f3,HY.out.base⟩
   exact⟨_,_,_,f4,H5.out.base⟩)
  have HPL:=Hd (show PP.length=5 by rw[HP.out];rfl)
  clear f0 f1 f2 f3 f4 H3 H4 H5 HX HY HD HE HSS
  have hgl:∀ l∈PP,Trk.GoodL l:=fun l hl=>(HVL.out l hl).good
  have HGL:=Hd hgl
  have HVF:=Hd (show ∀ k,(Trk.pk (flatK PP k)).length≤64→TV (Trk.pk (flatK PP k)) from fun k hk=>by
   have hv:=flatK_vgl (fun l hl=>(HVL.out l hl).l) k
   have ht:=flatK_total_le HGL.out k
   have h2:=HLG.out
   refine⟨hk,pk_vg hv (by omega),?_⟩
   rw[(Trk.pk_of hv.good).s.t]
   omega)
  clear hgl
  go_upto_region 16 with fail
  go_loopw [18,96] (fun v18 v96 wl=>∃ k:Nat,k≤5∧v96=.int .i64 (k:Int)∧TG wl 0 v18 (Trk.pk (flatK PP k))∧(∀ j,j≤k→(Trk.pk (flatK PP j)).length≤64)∧Below w7.heap.size w7 wl) (fun _ i _=>5-(intOf i).toNat)
  case atStart=>
   refine⟨0,Nat.zero_le _,rfl,TG.nil _ _,fun j hj=>?_,Below.refl _ _⟩
   have:j=0:=by omega
   subst this
   exact Nat.zero_le _
  case round=>
   obtain⟨k,hk,rfl,ht,hl,hb⟩:=hrel
   have HT:=Hd ht
   have HLL:=Hd hl
   have HBK:=Hd hb
   clear ht hl hb
   by_cases hlt:k<5
   ·have hlt':(k:Int)<5:=by omega
    obtain⟨x,hx⟩:∃ x,PP[k]?=some x:=⟨_,List.getElem?_eq_getElem (by rw[HPL.out];exact hlt)⟩
    obtain⟨xa,xm,xc,hcell,htk⟩:=HC.out k x hx
    have cx:=(HBK.out.cell (p:=⟨gs,k,none⟩) (block_lt_of_cell hcell)).trans hcell
    have HXT:=Hd (htk.below HBK.out)
    have VX:=HVL.out x (List.mem_of_getElem? hx)
    have hsum:Trk.total (Trk.pk (flatK PP k))+Trk.total x≤2147483647:=by
     have h1:=flatK_total_le HGL.out (k+1)
     rw[flatK_succ hx,Trk.total_append]at h1
     have h2:=HLG.out
     rw[(Trk.pk_of (flatK_vgl (fun l hl=>(HVL.out l hl).l) k).good).s.t]
     omega
    have HJ:=Hd (fun(v:Value) (w:World) (h:TG w 0 v (Trk.pk (flatK PP k))) (h':TG w w7.heap.size (.slice xa xm xc) x)=>joing_any 0 w7.heap.size v (.slice xa xm xc) _ x w h h' (HVF.out k (HLL.out k (Nat.le_refl _))) VX hsum)
    unfold JoinG at HJ
    rw[pk_pk_append (flatK_vgl (fun l hl=>(HVL.out l hl).l) k).good VX.good,← flatK_succ hx]at HJ
    clear hcell htk VX hsum hx
    go_wp2_with fail
    refine(HJ.out _ _ HT.out HXT.out).mono ?_
    rintro e w8 ⟨v8,code,rfl,hj,hb⟩
    have HB8:=Tb HBK hb
    clear cx hb
    rcases hj with⟨h1,rfl,ho⟩ |⟨h1,rfl,rfl⟩
    ·have HO:=Hd ho.tg
     have HL1:=Hd h1
     clear ho h1
     go_wp2_with fail
     go_roundw
     case rel=>
      refine⟨k+1,by omega,by simp,HO.out,fun j hj=>?_,HB8.out⟩
      by_cases hjk:j=k+1
      ·rw[hjk];exact HL1.out
      exact HLL.out j (by omega)
     case measure=>
      simp[intOf]
      omega
    have HL1:=Hd h1
    clear h1
    go_wp2_with fail
    go_ret2
    exact⟨_,_,_,rfl,OG.nil _ _ _,HB.out.trans (HB8.out.mono HB.out.size),.inr ⟨HOKK.out,.inr ⟨HLG.out,.inl ⟨rfl,rfl,k+1,by rw[HPL.out];omega,HL1.out⟩⟩⟩⟩
   have hk5:k=5:=by omega
   subst hk5
   have e5:flatK PP 5=PP.flatten:=by unfold flatK;rw[List.take_of_length_le (by rw[HPL.out];omega)]
   have VV:=HVF.out 5 (HLL.out 5 (Nat.le_refl _))
   have HLF:=Hd (fun j (hj:j≤PP.length)=>HLL.out j (by rw[HPL.out]at hj;exact hj))
   rw[e5]at HT VV
   have gf:Trk.GoodL PP.flatten:=by rw[← e5];exact(flatK_vgl (fun l hl=>(HVL.out l hl).l) 5).good
   have NO:=Hd (fun(v:Value) (w:World) (h:TG w 0 v (Trk.pk PP.flatten))=>normalg_any 0 v _ w h VV)
   rw[nf_pk gf]at NO
   have CL:=Hd (fun(v:Value) (w:World) (h:TG w 0 v (Trk.nf PP.flatten))=>clonetrackg_any 0 v _ w h (by have:=VV.nf.n;rw[nf_pk gf]at this;omega) (by have:=VV.nf.cl;rw[nf_pk gf]at this;exact this))
   clear VV gf e5
   go_wp2_with fail
   refine(NO.out _ _ HT.out).mono ?_
   rintro e w8 ⟨v8,rfl,ho,hb⟩
   have HO:=Hd ho.tg
   have HB8:=Tb HBK hb
   clear hb ho
   go_wp2_with fail
   refine(CL.out _ _ HO.out).mono ?_
   rintro e w9 ⟨v9,rfl,ho,hb⟩
   have HO9:=Hd (ho.lower (Nat.le_trans HB.out.size HB8.out.size))
   have HB9:=Tb HB8 hb
   clear hb ho
   go_wp2_with fail
   go_ret2
   exact⟨_,_,_,rfl,HO9.out,HB.out.trans (HB9.out.mono HB.out.size),.inr ⟨HOKK.out,.inr ⟨HLG.out,.inr ⟨rfl,rfl,HLF.out⟩⟩⟩⟩
end Go.Proofs.YtfoohocgdcgbcaaGreat
