/- Texts of this claim joined: VT VU VV VW VX. -/
import Derived.Test.YtfoohocgdcgbcaaGreatMe10
import Derived.Test.YtfoohocgdcgbcaaGreatSq
set_option linter.unusedVariables false
set_option linter.unusedSimpArgs false
set_option maxRecDepth 100000
set_option maxHeartbeats 40000000
namespace Go.Proofs.YtfoohocgdcgbcaaGreat
open Go.Trk
open Go.RowKit
theorem cells_range:∀ {l:List Clip} {i:Nat} {x x':Clip} {j:Nat} {vs:List Value},l[i]?=some x→j+vs.length≤22→clipC x'=(clipC x).take j++vs++(clipC x).drop (j+vs.length) →
  (cells l).take (i*22+j)++vs++(cells l).drop (i*22+j+vs.length)=cells (l.set i x')
 |[],i,x,x',j,vs,h,_,_=>by simp at h
 |c::l,0,x,x',j,vs,h,hj,e=>by
  simp only[List.getElem?_cons_zero,Option.some.injEq]at h
  subst h
  show(clipC c++cells l).take (0*22+j)++vs++(clipC c++cells l).drop (0*22+j+vs.length)=clipC x'++cells l
  rw[Nat.zero_mul,Nat.zero_add,e,List.take_append_of_le_length (by rw[clipC_length];omega),List.drop_append_of_le_length (by rw[clipC_length];omega)]
  simp[List.append_assoc]
 |c::l,i+1,x,x',j,vs,h,hj,e=>by
  simp only[List.getElem?_cons_succ]at h
  have ih:=cells_range (l:=l) h hj e
  show(clipC c++cells l).take ((i+1)*22+j)++vs++(clipC c++cells l).drop ((i+1)*22+j+vs.length)=clipC c++cells (l.set i x')
  have e1:(i+1)*22+j=(clipC c).length+(i*22+j):=by rw[clipC_length];omega
  have e2:(i+1)*22+j+vs.length=(clipC c).length+(i*22+j+vs.length):=by rw[clipC_length];omega
  rw[e1,List.take_length_add_append,← e1,e2,List.drop_length_add_append,← ih]
  simp[List.append_assoc]
theorem OT.range {w:World} {B g cap kk:Nat} {l:List Clip} {i j:Nat} {x x':Clip} {vs:List Value} (h:OT w B (.slice (some ⟨g,0,none⟩) kk cap) l) (hx:l[i]?=some x) (hj:j+vs.length≤22)
  (e:clipC x'=(clipC x).take j++vs++(clipC x).drop (j+vs.length)):OT (w.setCells g (i*22+j) vs) B (.slice (some ⟨g,0,none⟩) kk cap) (l.set i x'):=by
 have hk:=h.own.2.2.1
 subst hk
 unfold OT at h ⊢
 have hi:=(List.getElem?_eq_some_iff.1 hx).1
 have h2:=RowX.setCells vs (o:=i*22+j) h (by rw[cells_length];omega)
 rw[cells_range hx hj e]at h2
 rw[List.length_set]
 exact h2
structure Turn (g:Nat) (w w':World):Prop where
 s:w.heap.size≤w'.heap.size
 o:∀ b,b<w.heap.size→b≠g→w'.heap[b]?=w.heap[b]?
 b:∀ n w0,n≤g→Below n w0 w→Below n w0 w'
theorem Turn.refl (g:Nat) (w:World):Turn g w w:=⟨Nat.le_refl _,fun _ _ _=>rfl,fun _ _ _ h=>h⟩
theorem Turn.trans {g:Nat} {a b c:World} (h:Turn g a b) (k:Turn g b c):Turn g a c:=
 ⟨Nat.le_trans h.s k.s,fun x hx hn=>(k.o x (Nat.lt_of_lt_of_le hx h.s) hn).trans (h.o x hx hn),fun n w0 hn hb=>k.b n w0 hn (h.b n w0 hn hb)⟩
theorem Turn.cells (g o:Nat) (vs:List Value) (w:World):Turn g w (w.setCells g o vs):=
 ⟨Nat.le_of_eq (size_setCells g vs o w).symm,fun b _ hn=>setCells_other g b hn vs o w,fun n w0 hn hb=>below_setCells g hn _ _ _ hb⟩
theorem Turn.cell (g o:Nat) (u:Value) (w:World):Turn g w (w.setCell ⟨g,o,none⟩ u):=Turn.cells g o [u] w
theorem Turn.of {g:Nat} {w w':World} (hg:g≤w.heap.size) (h:Below w.heap.size w w'):Turn g w w':=
 ⟨h.size,fun b hb _=>h.block b hb,fun n w0 hn hb=>hb.trans (h.mono (Nat.le_trans hn hg))⟩
theorem Turn.get {g:Nat} {w w':World} (h:Turn g w w') {b o:Nat} {u:Value} (hn:b≠g) (hc:w.cell? ⟨b,o,none⟩=some u):w'.cell? ⟨b,o,none⟩=some u:=
 (World.cell?_of_block (a:=⟨b,o,none⟩) (h.o b (block_lt_of_cell hc) hn)).trans hc
theorem Turn.ed {g:Nat} {w w':World} (h:Turn g w w') {b:Nat} {k p n c d sn sd:Int} {v:Value} (hn:b≠g) (hc:ED w b k p n c d sn sd v):ED w' b k p n c d sn sd v:=hc.same (h.o b hc.lt hn)
structure Seen (w:World) (b8 b3 g N cap:Nat) (d:Int) (l:List Clip) (B:Nat):Prop where
 v:w.cell? ⟨b8,0,none⟩=some (.slice (some ⟨g,0,none⟩) N cap)
 d:w.cell? ⟨b3,4,none⟩=some (.int .i64 d)
 l:OT w B (.slice (some ⟨g,0,none⟩) N cap) l
 n8:b8≠g
 n3:b3≠g
theorem Seen.below {w w':World} {b8 b3 g N cap:Nat} {d:Int} {l:List Clip} {B:Nat} (h:Seen w b8 b3 g N cap d l B) (hb:Below w.heap.size w w'):Seen w' b8 b3 g N cap d l B:=
 ⟨(hb.cell (block_lt_of_cell h.v)).trans h.v,(hb.cell (block_lt_of_cell h.d)).trans h.d,h.l.below hb,h.n8,h.n3⟩
theorem Seen.cells {w:World} {b8 b3 g N cap:Nat} {d:Int} {l:List Clip} {B:Nat} (h:Seen w b8 b3 g N cap d l B) {i j:Nat} {x x':Clip} {vs:List Value} (hx:l[i]?=some x) (hj:j+vs.length≤22)
  (e:clipC x'=(clipC x).take j++vs++(clipC x).drop (j+vs.length)):Seen (w.setCells g (i*22+j) vs) b8 b3 g N cap d (l.set i x') B:=
 ⟨(Turn.cells g (i*22+j) vs w).get h.n8 h.v,(Turn.cells g (i*22+j) vs w).get h.n3 h.d,h.l.range hx hj e,h.n8,h.n3⟩
theorem upd_set {l:List Clip} {i:Nat} {x:Clip} (h:l[i]?=some x) (f:Clip→Clip):upd l i f=l.set i (f x):=by unfold upd;rw[h]
theorem Seen.room {w:World} {b8 b3 g N cap:Nat} {d:Int} {l:List Clip} {B:Nat} (h:Seen w b8 b3 g N cap d l B):N=l.length∧N≤cap:=by
 obtain⟨ao,c',e,h1,h2,_⟩:=h.l.tk
 simp only[Value.slice.injEq]at e
 exact⟨h.l.own.2.2.1,by omega⟩
def ClosPost (w:World) (b8 b3 g N cap:Nat) (d:Int) (l:List Clip) (B:Nat) (e:Ending) (w':World):Prop:=e=.returned (.tuple #[])∧Seen w' b8 b3 g N cap d l B∧Turn g w w'
structure C82 (w:World) (b8 b3 g N cap:Nat) (d:Int):Prop where
 v:w.cell? ⟨b8,0,none⟩=some (.slice (some ⟨g,0,none⟩) N cap)
 d:w.cell? ⟨b3,4,none⟩=some (.int .i64 d)
theorem C82.below {w w':World} {b8 b3 g N cap:Nat} {d:Int} (h:C82 w b8 b3 g N cap d) (hb:Below w.heap.size w w'):C82 w' b8 b3 g N cap d:=
 ⟨(hb.cell (block_lt_of_cell h.v)).trans h.v,(hb.cell (block_lt_of_cell h.d)).trans h.d⟩
theorem Seen.c82 {w:World} {b8 b3 g N cap:Nat} {d:Int} {l:List Clip} {B:Nat} (h:Seen w b8 b3 g N cap d l B):C82 w b8 b3 g N cap d:=⟨h.v,h.d⟩
theorem Seen.at' {w:World} {b8 b3 g N cap:Nat} {d:Int} {l:List Clip} {B:Nat} (h:Seen w b8 b3 g N cap d l B) {i:Nat} {x:Clip} (hx:l[i]?=some x):CA w g (i*22) x:=h.l.own.2.2.2 i x hx
theorem CA.src_a {w:World} {b o:Nat} {c:Clip} (h:CA w b o c):w.rangeAt b (o+2) (srcC c.a):=by
 intro j u hj
 have hl:j<7:=(List.getElem?_eq_some_iff.1 hj).1
 have h2:=h.get (2+j) u (by
  rcases(show j=0∨j=1∨j=2∨j=3∨j=4∨j=5∨j=6 by omega) with rfl |rfl |rfl |rfl |rfl |rfl |rfl<;>simpa [srcC,clipC] using hj)
 rw[Nat.add_assoc]
 exact h2
theorem CA.src_b {w:World} {b o:Nat} {c:Clip} (h:CA w b o c):w.rangeAt b (o+9) (srcC c.b):=by
 intro j u hj
 have hl:j<7:=(List.getElem?_eq_some_iff.1 hj).1
 have h2:=h.get (9+j) u (by
  rcases(show j=0∨j=1∨j=2∨j=3∨j=4∨j=5∨j=6 by omega) with rfl |rfl |rfl |rfl |rfl |rfl |rfl<;>simpa [srcC,clipC] using hj)
 rw[Nat.add_assoc]
 exact h2
theorem wpl_loadS {ops:Array Oper} {rest:List Oper} {op:Oper} {a:Act} {w:World} {Q:Exit→Act→World→Prop} {b o:Nat} {s:Src} (dst:Option Tmp) (hd:op.dst=dst) {x:Operand} (hc:w.rangeAt b o (srcC s)) (hgd:op.guard=none) (ho:op.op=.load 46 x)
  (hx:a.eval x=.pointer (some ⟨b,o,none⟩)) (h:wpList Tryz.prog ops Q rest (a.put dst (.agg (srcC s).toArray)) w):wpList Tryz.prog ops Q (op::rest) a w:=by
 subst hd
 exact wpList_load_mid hgd 46 x ho b o hx (srcC s) _ hc Tryz.underlying46 rfl (by kernel_rfl) h
theorem src_oneCell (s:Src):(srcC s).toArray.all (·.oneCell')=true:=by simp[srcC,Value.oneCell']
theorem wpl_storeS {ops:Array Oper} {rest:List Oper} {op:Oper} {a:Act} {w:World} {Q:Exit→Act→World→Prop} {b o:Nat} (s:Src) (dst:Option Tmp) (hd:op.dst=dst) {x y:Operand} (ht:w.there b o 7) (hgd:op.guard=none) (ho:op.op=.store 46 x y)
  (hx:a.eval x=.pointer (some ⟨b,o,none⟩)) (hy:a.eval y=.agg (srcC s).toArray) (h:wpList Tryz.prog ops Q rest (a.put dst undef) (w.setCells b o (srcC s))):wpList Tryz.prog ops Q (op::rest) a w:=by
 subst hd
 exact wpList_store_mid hgd 46 x y ho b o (srcC s).toArray hx hy ht (by kernel_rfl) (src_oneCell s) h
theorem lengthen_any (i:Nat) (x:Clip) (b8 b3 g N cap:Nat) (d:Int) (l:List Clip) (B:Nat) (w:World) (h:Seen w b8 b3 g N cap d l B) (hx:l[i]?=some x) (hN:N≤64) (hl:x.len.natAbs≤1099511627776) (hd:d.natAbs≤1099511627776) :
  Calls Tryz.prog 126 #[.int .i64 (i:Int),.pointer (some ⟨b8,0,none⟩),.pointer (some ⟨b3,0,none⟩)] w (ClosPost w b8 b3 g N cap d (upd l i (lenBy d)) B):=by
 have hr:=h.room
 have hi:=(List.getElem?_eq_some_iff.1 hx).1
 have hiN:i<N:=by omega
 have hiN':(i:Int)<(N:Int):=by omega
 have hcap:=hr.2
 have HS:=Hd h
 have HX:=Hd (upd_set hx (lenBy d))
 have HXX:=Hd hx
 have HC:=Hd h.c82
 clear hr hi hx h
 go_enter Tryz.func126,Tryz.ntmps126
 go_upto_region 0 with fail
 refine Plan.wp_region_plan (fun w'=>C82 w' b8 b3 g N cap d) (([0,1,2,3,5,6].map (·,true))++(([4].map (·,false))++(([7,8,9].map (·,true))++([10].map (·,false))))) (by kernel_rfl) (by kernel_rfl) (by kernel_rfl) (HC.out.below (Below.refl _ _).drew) ?_
 refine' Plan.plan_seg _ [0,1,2,3,5,6] (([4].map (·,false))++(([7,8,9].map (·,true))++([10].map (·,false)))) (by kernel_rfl) (by kernel_rfl) rfl (by exact HC.out.below (Below.refl _ _).drew) (fun wx hS=>?_) ?_
 rotate_left
 ·obtain⟨y1,y2⟩:=hS
  go_light
  iterate 6 (apply Plan.seg_pick;rfl;intro K hK;go_wp)
  exact Plan.seg_nil
 obtain⟨w1,hw1⟩:=Xq (w.drew)
 rw[← hw1]
 have hb:Below w.heap.size w w1:=by rw[hw1];exact(Below.refl _ _).drew
 have HT:=Hd (Turn.of (g:=g) (Nat.le_of_lt (HS.out.l.own.2.1)) hb)
 replace HS:=Hd (HS.out.below hb)
 replace HC:=Hd (HC.out.below hb)
 have z:=(HS.out.at' HXX.out).k0
 have zf:=HS.out.l.frozen (i*22)
 clear hb hw1
 refine Plan.plan_of_effect rfl (fun K hK=>?_)
 go_wp2_with fail
 refine⟨HS.out.c82,?_⟩
 refine' Plan.plan_seg (S:=(fun w'=>C82 w' b8 b3 g N cap d)) _ [7,8,9] ([10].map (·,false)) (by kernel_rfl) (by kernel_rfl) rfl (by exact HS.out.c82) (fun wx hS=>?_) ?_
 rotate_left
 ·clear hS
  go_light
  iterate 3 (apply Plan.seg_pick;rfl;intro K hK;go_wp)
  exact Plan.seg_nil
 refine Plan.plan_of_effect rfl (fun K hK=>?_)
 go_wp2_with fail
 clear z zf
 have HS2:=Hd (HS.out.cells (j:=0) (vs:=[.int .i64 (x.len+d)]) (x':=lenBy d x) HXX.out (by simp) rfl)
 have HT2:=Hd (HT.out.trans (Turn.cells g (i*22+0) [.int .i64 (x.len+d)] w1))
 refine⟨HS2.out.c82,?_⟩
 refine Plan.plan_done ?_
 refine bodyPost_end (results_none Tryz.results126 _ _ _) rfl ?_
 unfold ClosPost
 rw[HX.out]
 exact⟨rfl,HS2.out,HT2.out⟩
theorem slip_cells (d:Int) (x:Clip):clipC { x with a:=moved x.a d }=(clipC x).take 2++srcC (moved x.a d)++(clipC x).drop (2+(srcC (moved x.a d)).length):=rfl
theorem slip_cells2 (d:Int) (x:Clip):clipC (slipBy d x)=(clipC { x with a:=moved x.a d }).take 9++srcC (moved x.b d)++(clipC { x with a:=moved x.a d }).drop (9+(srcC (moved x.b d)).length):=rfl
structure CB2 (w:World) (b8 b3 g N cap i:Nat) (d:Int) (s:Src):Prop where
 v:w.cell? ⟨b8,0,none⟩=some (.slice (some ⟨g,0,none⟩) N cap)
 d:w.cell? ⟨b3,4,none⟩=some (.int .i64 d)
 b:w.rangeAt g (i*22+9) (srcC s)
theorem CB2.below {w w':World} {b8 b3 g N cap i:Nat} {d:Int} {s:Src} (h:CB2 w b8 b3 g N cap i d s) (hb:Below w.heap.size w w'):CB2 w' b8 b3 g N cap i d s:=
 ⟨(hb.cell (block_lt_of_cell h.v)).trans h.v,(hb.cell (block_lt_of_cell h.d)).trans h.d,fun j u hj=>(hb.cell (block_lt_of_cell (h.b j u hj))).trans (h.b j u hj)⟩
theorem Seen.cb {w:World} {b8 b3 g N cap:Nat} {d:Int} {l:List Clip} {B:Nat} (h:Seen w b8 b3 g N cap d l B) {i:Nat} {x:Clip} (hx:l[i]?=some x):CB2 w b8 b3 g N cap i d x.b:=⟨h.v,h.d,(h.at' hx).src_b⟩
theorem OT.thereS {w:World} {B g cap k:Nat} {l:List Clip} (h:OT w B (.slice (some ⟨g,0,none⟩) k cap) l) {i:Nat} (hi:i<l.length) (j:Nat) (hj:j+7≤22):w.there g (i*22+j) 7:=fun q hq=>by
 have:=h.there hi (j+q) (by omega)
 rw[← Nat.add_assoc]at this
 exact this
theorem slip_any (i:Nat) (x:Clip) (b8 b3 g N cap:Nat) (d:Int) (l:List Clip) (B:Nat) (w:World) (h:Seen w b8 b3 g N cap d l B) (hx:l[i]?=some x) (hN:N≤64) (ha:OkS x.a) (hb:OkS x.b) (hd:d.natAbs≤4294967296) :
  Calls Tryz.prog 127 #[.int .i64 (i:Int),.pointer (some ⟨b8,0,none⟩),.pointer (some ⟨b3,0,none⟩)] w (ClosPost w b8 b3 g N cap d (upd l i (slipBy d)) B):=by
 have hr:=h.room
 have hi:=(List.getElem?_eq_some_iff.1 hx).1
 have hiN:i<N:=by omega
 have hiN':(i:Int)<(N:Int):=by omega
 have hcap:=hr.2
 have HS:=Hd h
 have HX:=Hd (upd_set hx (slipBy d))
 have HXX:=Hd hx
 have HC:=Hd (show CB2 w b8 b3 g N cap i d x.b from h.cb hx)
 have HMA:=Hd (fun w=>emoved_any x.a d w ha hd)
 have HMB:=Hd (fun w=>emoved_any x.b d w hb hd)
 unfold srcV at HMA HMB
 obtain⟨SA,hSA⟩:=Xq ((srcC x.a).toArray)
 obtain⟨SB,hSB⟩:=Xq ((srcC x.b).toArray)
 obtain⟨MA,hMA⟩:=Xq ((srcC (moved x.a d)).toArray)
 obtain⟨MB,hMB⟩:=Xq ((srcC (moved x.b d)).toArray)
 rw[← hSA,← hMA]at HMA
 rw[← hSB,← hMB]at HMB
 have HSA:=Hd hSA
 have HSB:=Hd hSB
 have HRA:=Hd hMA
 have HRB:=Hd hMB
 clear hr hi hx h hSA hSB hMA hMB
 go_enter Tryz.func127,Tryz.ntmps127
 go_upto_region 0 with fail
 refine Plan.wp_region_planw (fun w'=>CB2 w' b8 b3 g N cap i d x.b) 25 (([0,1,2,3,4,5,6,7,9,10,12,13,14,15,16,17,18].map (·,true))++(([8,11,19].map (·,false))++(([20,21].map (·,true))++(([22].map (·,false))++(([23,24].map (·,true))++([25].map (·,false))))))) (by kernel_rfl) (by kernel_rfl) (by kernel_rfl) (HC.out.below (Below.refl _ _).drew) ?_
 refine' Plan.plan_seg _ [0,1,2,3,4,5,6,7,9,10,12,13,14,15,16,17,18] (([8,11,19].map (·,false))++(([20,21].map (·,true))++(([22].map (·,false))++(([23,24].map (·,true))++([25].map (·,false)))))) (by kernel_rfl) (by kernel_rfl) rfl (by exact HC.out.below (Below.refl _ _).drew) (fun wx hS=>?_) ?_
 rotate_left
 ·obtain⟨y1,y2,y3⟩:=hS
  have Y3:=Hd y3
  clear y3
  go_light
  iterate 14 (apply Plan.seg_pick;rfl;intro K hK;go_wp)
  (apply Plan.seg_pick;rfl;intro K hK)
  refine wpl_loadS (some 20) rfl Y3.out rfl rfl rfl ?_
  rw[← HSB.out]
  go_wp
  iterate 2 (apply Plan.seg_pick;rfl;intro K hK;go_wp)
  exact Plan.seg_nil
 obtain⟨w1,hw1⟩:=Xq (w.drew)
 rw[← hw1]
 have hb:Below w.heap.size w w1:=by rw[hw1];exact(Below.refl _ _).drew
 have HT:=Hd (Turn.of (g:=g) (Nat.le_of_lt (HS.out.l.own.2.1)) hb)
 replace HS:=Hd (HS.out.below hb)
 clear hb hw1 HC
 refine Plan.plan_of_effect rfl (fun K hK=>?_)
 refine wpl_loadS (some 12) rfl (HS.out.at' HXX.out).src_a rfl rfl rfl ?_
 rw[← HSA.out]
 simp only[Act.put,sA1,sB1,sC1]
 go_wp2_with fail
 refine⟨(HS.out.cb HXX.out),?_⟩
 refine Plan.plan_of_effect rfl (fun K hK=>?_)
 go_wp2_with fail
 refine(HMA.out _).mono ?_
 rintro e w2 ⟨rfl,hb⟩
 replace HT:=Hd (HT.out.trans (Turn.of (g:=g) (Nat.le_of_lt (HS.out.l.own.2.1)) hb))
 replace HS:=Hd (HS.out.below hb)
 clear hb
 go_wp2_with fail
 refine⟨(HS.out.cb HXX.out),?_⟩
 refine Plan.plan_of_effect rfl (fun K hK=>?_)
 go_wp2_with fail
 refine(HMB.out _).mono ?_
 rintro e w3 ⟨rfl,hb⟩
 replace HT:=Hd (HT.out.trans (Turn.of (g:=g) (Nat.le_of_lt (HS.out.l.own.2.1)) hb))
 replace HS:=Hd (HS.out.below hb)
 clear hb
 go_wp2_with fail
 refine⟨(HS.out.cb HXX.out),?_⟩
 refine' Plan.plan_seg (S:=(fun w'=>CB2 w' b8 b3 g N cap i d x.b)) _ [20,21] (([22].map (·,false))++(([23,24].map (·,true))++([25].map (·,false)))) (by kernel_rfl) (by kernel_rfl) rfl (by exact(HS.out.cb HXX.out)) (fun wx hS=>?_) ?_
 rotate_left
 ·clear hS
  go_light
  iterate 2 (apply Plan.seg_pick;rfl;intro K hK;go_wp)
  exact Plan.seg_nil
 refine Plan.plan_of_effect rfl (fun K hK=>?_)
 refine wpl_storeS (moved x.a d) none rfl (HS.out.l.thereS (List.getElem?_eq_some_iff.1 HXX.out).1 2 (by decide)) rfl rfl rfl (by rw[← HRA.out];rfl) ?_
 have HT2:=Hd (HT.out.trans (Turn.cells g (i*22+2) (srcC (moved x.a d)) w3))
 have HS2:=Hd (HS.out.cells HXX.out (by show 2+7≤22;decide) (slip_cells d x))
 have HX2:=Hd (show(l.set i { x with a:=moved x.a d })[i]?=some { x with a:=moved x.a d } by simp[(List.getElem?_eq_some_iff.1 HXX.out).1])
 obtain⟨w4,hw4⟩:=Xq (w3.setCells g (i*22+2) (srcC (moved x.a d)))
 rw[← hw4]at HT2 HS2 ⊢
 have hcb2:=HS2.out.cb HX2.out
 have HCB2:=Hd (show CB2 w4 b8 b3 g N cap i d x.b from hcb2)
 clear hcb2
 clear hw4 HS HT
 simp only[Act.put,sA1,sB1,sC1]
 go_wp2_with fail
 refine⟨HCB2.out,?_⟩
 refine' Plan.plan_seg (S:=(fun w'=>CB2 w' b8 b3 g N cap i d x.b)) _ [23,24] ([25].map (·,false)) (by kernel_rfl) (by kernel_rfl) rfl (by exact HCB2.out) (fun wx hS=>?_) ?_
 rotate_left
 ·clear hS
  go_light
  iterate 2 (apply Plan.seg_pick;rfl;intro K hK;go_wp)
  exact Plan.seg_nil
 refine Plan.plan_of_last rfl (fun K hK=>?_)
 refine wpl_storeS (moved x.b d) none rfl (HS2.out.l.thereS (List.getElem?_eq_some_iff.1 HX2.out).1 9 (by decide)) rfl rfl rfl (by rw[← HRB.out];rfl) ?_
 have HT3:=Hd (HT2.out.trans (Turn.cells g (i*22+9) (srcC (moved x.b d)) w4))
 have HS3:=Hd (HS2.out.cells HX2.out (by show 9+7≤22;decide) (slip_cells2 d x))
 obtain⟨w5,hw5⟩:=Xq (w4.setCells g (i*22+9) (srcC (moved x.b d)))
 rw[← hw5]at HT3 HS3 ⊢
 clear hw5 HS2 HT2
 simp only[Act.put,sA1,sB1,sC1]
 go_wp2_with fail
 refine Plan.plan_done ?_
 refine bodyPost_end (results_none Tryz.results127 _ _ _) rfl ?_
 unfold ClosPost
 rw[HX.out]
 refine⟨rfl,?_,HT3.out⟩
 have e:(l.set i { x with a:=moved x.a d }).set i (slipBy d x)=l.set i (slipBy d x):=by rw[List.set_set]
 rw[← e]
 exact HS3.out
theorem get_set {l:List Clip} {i:Nat} {x:Clip} (h:l[i]?=some x) (y:Clip):(l.set i y)[i]?=some y:=by simp[(List.getElem?_eq_some_iff.1 h).1]
theorem later_any (i:Nat) (x:Clip) (b10 b8 b3 g N cap:Nat) (d:Int) (l:List Clip) (B:Nat) (w:World) (h:Seen w b8 b3 g N cap d l B) (hx:l[i]?=some x) (hN:N≤64) (ha:OkS x.a) (hb:OkS x.b) (hd:d.natAbs≤4294967296)
  (hl:x.len.natAbs≤1099511627776) (ho:x.off.natAbs≤1099511627776) (hc:w.cell? ⟨b10,0,none⟩=some (.func (.func 127) #[] #[.pointer (some ⟨b8,0,none⟩),.pointer (some ⟨b3,0,none⟩)])) :
  Calls Tryz.prog 129 #[.int .i64 (i:Int),.pointer (some ⟨b10,0,none⟩),.pointer (some ⟨b8,0,none⟩),.pointer (some ⟨b3,0,none⟩)] w (ClosPost w b8 b3 g N cap d (upd l i (later d)) B):=by
 have hr:=h.room
 have hi:=(List.getElem?_eq_some_iff.1 hx).1
 have hiN:i<N:=by omega
 have hiN':(i:Int)<(N:Int):=by omega
 have hcap:=hr.2
 have HS:=Hd h
 have HX:=Hd (upd_set hx (later d))
 have HSX:=Hd (upd_set hx (slipBy d))
 have HXX:=Hd hx
 have HSL:=Hd (slip_any i x b8 b3 g N cap d l B w h hx hN ha hb hd)
 clear hr hi hx h ha hb
 go_enter Tryz.func129,Tryz.ntmps129
 go_wp2_with fail
 refine HSL.out.mono ?_
 rintro e w1 ⟨rfl,hs,ht⟩
 rw[HSX.out]at hs
 replace HS:=Hd hs
 have HT:=Hd ht
 have HX1:=Hd (get_set HXX.out (slipBy d x))
 clear hs ht hc HSL HSX
 go_upto_region 1 with fail
 refine Plan.wp_region_plan (fun w'=>C82 w' b8 b3 g N cap d) (([0,1,2,3,5,6].map (·,true))++(([4].map (·,false))++(([7,8,9].map (·,true))++([10].map (·,false))))) (by kernel_rfl) (by kernel_rfl) (by kernel_rfl) (HS.out.c82.below (Below.refl _ _).drew) ?_
 refine' Plan.plan_seg _ [0,1,2,3,5,6] (([4].map (·,false))++(([7,8,9].map (·,true))++([10].map (·,false)))) (by kernel_rfl) (by kernel_rfl) rfl (by exact HS.out.c82.below (Below.refl _ _).drew) (fun wx hS=>?_) ?_
 rotate_left
 ·obtain⟨y1,y2⟩:=hS
  go_light
  iterate 6 (apply Plan.seg_pick;rfl;intro K hK;go_wp)
  exact Plan.seg_nil
 obtain⟨wd,hwd⟩:=Xq (World.drew w1)
 rw[← hwd]
 have hb:Below (World.heap w1).size w1 wd:=by rw[hwd];exact(Below.refl _ _).drew
 replace HT:=Hd (HT.out.trans (Turn.of (g:=g) (Nat.le_of_lt (HS.out.l.own.2.1)) hb))
 replace HS:=Hd (HS.out.below hb)
 have z:wd.cell? ⟨g,i*22,none⟩=some (.int .i64 x.len):=(HS.out.at' HX1.out).k0
 have zf:=HS.out.l.frozen (i*22)
 clear hb hwd
 refine Plan.plan_of_effect rfl (fun K hK=>?_)
 go_wp2_with fail
 refine⟨HS.out.c82,?_⟩
 refine' Plan.plan_seg (S:=(fun w'=>C82 w' b8 b3 g N cap d)) _ [7,8,9] ([10].map (·,false)) (by kernel_rfl) (by kernel_rfl) rfl (by exact HS.out.c82) (fun wx hS=>?_) ?_
 rotate_left
 ·clear hS
  go_light
  iterate 3 (apply Plan.seg_pick;rfl;intro K hK;go_wp)
  exact Plan.seg_nil
 refine Plan.plan_of_effect rfl (fun K hK=>?_)
 go_wp2_with fail
 clear z zf
 replace HT:=Hd (HT.out.trans (Turn.cells g (i*22+0) [.int .i64 (x.len-d)] wd))
 replace HS:=Hd (HS.out.cells (j:=0) (vs:=[.int .i64 (x.len-d)]) (x':={ slipBy d x with len:=x.len-d }) HX1.out (by simp) rfl)
 have hw:wd.setCells g (i*22+0) [.int .i64 (x.len-d)]=wd.setCell ⟨g,i*22,none⟩ (.int .i64 (x.len-d)):=rfl
 rw[hw]at HT HS
 obtain⟨w2,hwn⟩:=Xq (wd.setCell ⟨g,i*22,none⟩ (.int .i64 (x.len-d)))
 rw[← hwn]at HT HS ⊢
 clear hw hwn
 refine⟨HS.out.c82,?_⟩
 refine Plan.plan_done ?_
 have HX2:=Hd (get_set HX1.out { slipBy d x with len:=x.len-d })
 have z1:w2.cell? ⟨g,i*22+1,none⟩=some (.int .i64 x.kind):=(HS.out.at' HX2.out).k1
 have y1:=HS.out.v
 by_cases hsh:x.kind=2∨x.kind=3
 ·have HSH:=Hd (show shares x.kind=true by unfold shares;rcases hsh with h |h<;>simp[h])
  have HLT:=Hd (show later d x={ slipBy d x with len:=x.len-d,off:=x.off+d } by unfold later shift withLen slipBy;rw[HSH.out];rfl)
  obtain⟨kk,hkk⟩:=Xq (x.kind)
  rw[← hkk]at z1 hsh
  have HGO:=Hd hsh
  clear hsh hkk
  by_cases h2:kk=2
  ·have b2:(kk==2)=true:=by simpa using h2
   clear h2
   go_upto_region 3 with fail
   clear z1 y1
   refine Plan.wp_region_plan (fun w'=>C82 w' b8 b3 g N cap d) (([0,1,2,3,5,6].map (·,true))++(([4].map (·,false))++(([7,8,9].map (·,true))++([10].map (·,false))))) (by kernel_rfl) (by kernel_rfl) (by kernel_rfl) (HS.out.c82.below (Below.refl _ _).drew) ?_
   refine' Plan.plan_seg _ [0,1,2,3,5,6] (([4].map (·,false))++(([7,8,9].map (·,true))++([10].map (·,false)))) (by kernel_rfl) (by kernel_rfl) rfl (by exact HS.out.c82.below (Below.refl _ _).drew) (fun wx hS=>?_) ?_
   rotate_left
   ·obtain⟨y1,y2⟩:=hS
    go_light
    iterate 6 (apply Plan.seg_pick;rfl;intro K hK;go_wp)
    exact Plan.seg_nil
   obtain⟨wd,hwd⟩:=Xq (World.drew w2)
   rw[← hwd]
   have hb:Below (World.heap w2).size w2 wd:=by rw[hwd];exact(Below.refl _ _).drew
   replace HT:=Hd (HT.out.trans (Turn.of (g:=g) (Nat.le_of_lt (HS.out.l.own.2.1)) hb))
   replace HS:=Hd (HS.out.below hb)
   have z:wd.cell? ⟨g,i*22+16,none⟩=some (.int .i64 x.off):=(HS.out.at' HX2.out).k16
   have zf:=HS.out.l.frozen (i*22+16)
   clear hb hwd
   refine Plan.plan_of_effect rfl (fun K hK=>?_)
   go_wp2_with fail
   refine⟨HS.out.c82,?_⟩
   refine' Plan.plan_seg (S:=(fun w'=>C82 w' b8 b3 g N cap d)) _ [7,8,9] ([10].map (·,false)) (by kernel_rfl) (by kernel_rfl) rfl (by exact HS.out.c82) (fun wx hS=>?_) ?_
   rotate_left
   ·clear hS
    go_light
    iterate 3 (apply Plan.seg_pick;rfl;intro K hK;go_wp)
    exact Plan.seg_nil
   refine Plan.plan_of_effect rfl (fun K hK=>?_)
   go_wp2_with fail
   clear z zf
   replace HT:=Hd (HT.out.trans (Turn.cells g (i*22+16) [.int .i64 (x.off+d)] wd))
   replace HS:=Hd (HS.out.cells (j:=16) (vs:=[.int .i64 (x.off+d)]) (x':={ slipBy d x with len:=x.len-d,off:=x.off+d }) HX2.out (by simp) rfl)
   have hw:wd.setCells g (i*22+16) [.int .i64 (x.off+d)]=wd.setCell ⟨g,i*22+16,none⟩ (.int .i64 (x.off+d)):=rfl
   rw[hw]at HT HS
   obtain⟨w3,hwn⟩:=Xq (wd.setCell ⟨g,i*22+16,none⟩ (.int .i64 (x.off+d)))
   rw[← hwn]at HT HS ⊢
   clear hw hwn
   refine⟨HS.out.c82,?_⟩
   refine Plan.plan_done ?_
   iterate 0 go_step
   refine bodyPost_end (results_none Tryz.results129 _ _ _) rfl ?_
   unfold ClosPost
   rw[HX.out,HLT.out]
   refine⟨rfl,?_,HT.out⟩
   have h:=HS.out
   rw[List.set_set,List.set_set]at h
   exact h
  have b2:(kk==2)=false:=by simpa using h2
  have b3':(kk==3)=true:=by have:=HGO.out;simp;omega
  clear h2
  go_upto_region 3 with fail
  clear z1 y1
  refine Plan.wp_region_plan (fun w'=>C82 w' b8 b3 g N cap d) (([0,1,2,3,5,6].map (·,true))++(([4].map (·,false))++(([7,8,9].map (·,true))++([10].map (·,false))))) (by kernel_rfl) (by kernel_rfl) (by kernel_rfl) (HS.out.c82.below (Below.refl _ _).drew) ?_
  refine' Plan.plan_seg _ [0,1,2,3,5,6] (([4].map (·,false))++(([7,8,9].map (·,true))++([10].map (·,false)))) (by kernel_rfl) (by kernel_rfl) rfl (by exact HS.out.c82.below (Below.refl _ _).drew) (fun wx hS=>?_) ?_
  rotate_left
  ·obtain⟨y1,y2⟩:=hS
   go_light
   iterate 6 (apply Plan.seg_pick;rfl;intro K hK;go_wp)
   exact Plan.seg_nil
  obtain⟨wd,hwd⟩:=Xq (World.drew w2)
  rw[← hwd]
  have hb:Below (World.heap w2).size w2 wd:=by rw[hwd];exact(Below.refl _ _).drew
  replace HT:=Hd (HT.out.trans (Turn.of (g:=g) (Nat.le_of_lt (HS.out.l.own.2.1)) hb))
  replace HS:=Hd (HS.out.below hb)
  have z:wd.cell? ⟨g,i*22+16,none⟩=some (.int .i64 x.off):=(HS.out.at' HX2.out).k16
  have zf:=HS.out.l.frozen (i*22+16)
  clear hb hwd
  refine Plan.plan_of_effect rfl (fun K hK=>?_)
  go_wp2_with fail
  refine⟨HS.out.c82,?_⟩
  refine' Plan.plan_seg (S:=(fun w'=>C82 w' b8 b3 g N cap d)) _ [7,8,9] ([10].map (·,false)) (by kernel_rfl) (by kernel_rfl) rfl (by exact HS.out.c82) (fun wx hS=>?_) ?_
  rotate_left
  ·clear hS
   go_light
   iterate 3 (apply Plan.seg_pick;rfl;intro K hK;go_wp)
   exact Plan.seg_nil
  refine Plan.plan_of_effect rfl (fun K hK=>?_)
  go_wp2_with fail
  clear z zf
  replace HT:=Hd (HT.out.trans (Turn.cells g (i*22+16) [.int .i64 (x.off+d)] wd))
  replace HS:=Hd (HS.out.cells (j:=16) (vs:=[.int .i64 (x.off+d)]) (x':={ slipBy d x with len:=x.len-d,off:=x.off+d }) HX2.out (by simp) rfl)
  have hw:wd.setCells g (i*22+16) [.int .i64 (x.off+d)]=wd.setCell ⟨g,i*22+16,none⟩ (.int .i64 (x.off+d)):=rfl
  rw[hw]at HT HS
  obtain⟨w3,hwn⟩:=Xq (wd.setCell ⟨g,i*22+16,none⟩ (.int .i64 (x.off+d)))
  rw[← hwn]at HT HS ⊢
  clear hw hwn
  refine⟨HS.out.c82,?_⟩
  refine Plan.plan_done ?_
  iterate 0 go_step
  refine bodyPost_end (results_none Tryz.results129 _ _ _) rfl ?_
  unfold ClosPost
  rw[HX.out,HLT.out]
  refine⟨rfl,?_,HT.out⟩
  have h:=HS.out
  rw[List.set_set,List.set_set]at h
  exact h
 have HSH:=Hd (show shares x.kind=false by unfold shares;simp;omega)
 have HLT:=Hd (show later d x={ slipBy d x with len:=x.len-d } by unfold later shift withLen slipBy;rw[HSH.out];rfl)
 obtain⟨kk,hkk⟩:=Xq (x.kind)
 rw[← hkk]at z1 hsh
 have b2:(kk==2)=false:=by simp;omega
 have b3':(kk==3)=false:=by simp;omega
 clear hsh hkk
 go_wp2_with fail
 clear z1 y1
 refine bodyPost_end (results_none Tryz.results129 _ _ _) rfl ?_
 unfold ClosPost
 rw[HX.out,HLT.out]
 refine⟨rfl,?_,HT.out⟩
 have h:=HS.out
 rw[List.set_set]at h
 exact h
theorem restoring_any (t:Bool) (w:World):Calls Tryz.prog 130 #[.bool t] w fun e w'=>e=.returned (.int .i64 (if t=true then 2 else 1))∧w'=w:=by
 cases t
 ·go_enter Tryz.func130,Tryz.ntmps130
  go_wp2_with fail
  go_ret
  exact⟨rfl,rfl⟩
 go_enter Tryz.func130,Tryz.ntmps130
 go_wp2_with fail
 go_ret
 exact⟨rfl,rfl⟩
theorem missing_any (v:Value) (l:List Clip) (k p m:Int) (c:Nat) (d sn sd:Int) (u:Value) (w:World) (h:Tk w v l) (hl:l.length≤64) (hc:c≤1048576) (hu:u.oneCell'=true) :
  Calls Tryz.prog 125 #[v,edV k p m (c:Int) d sn sd u] w fun e w'=>e=.returned (.bool (missingL l k c))∧Below w.heap.size w w':=by
 obtain⟨ao,cap,rfl,hc1,hc2,hT⟩:=h
 obtain⟨r,hr⟩:=Xq (missingL l k c)
 unfold missingL at hr
 rw[← show r=missingL l k c from hr]
 obtain⟨N,hN⟩:=Xq (l.length)
 rw[← hN]at hl hr ⊢
 have HR:=Hd hr
 unfold edV
 clear hT hc1 hc2 hN hr
 go_enter Tryz.func125,Tryz.ntmps125
 go_upto_region 1 with fail
 obtain⟨w1,hw1⟩:=Xq (w.alloc (.cells (edC k p m (c:Int) d sn sd u) 40))
 rw[← hw1]
 obtain⟨g,hg⟩:=Xq (w.heap.size)
 have HE:=Hd (show ED w1 g k p m c d sn sd u by rw[hw1,hg];exact ED.box w k p m c d sn sd u hu 40)
 have HB:=Hd (show Below w.heap.size w w1 by rw[hw1];exact below_box _ _)
 rw[← hg]
 clear hw1 hg
 refine Plan.wp_region_plan (fun w'=>w'.cell? ⟨g,3,none⟩=some (.int .i64 (c:Int))) ([0,1,2,3,4,5].map (·,true)) (by kernel_rfl) (by kernel_rfl) (by kernel_rfl) (HE.out.below (Below.refl _ _).drew).k3 ?_
 refine' Plan.plan_seg _ [0,1,2,3,4,5] [] (by kernel_rfl) (by kernel_rfl) rfl (by exact(HE.out.below (Below.refl _ _).drew).k3) (fun wx hS=>?_) ?_
 rotate_left
 ·go_light
  iterate 6 (apply Plan.seg_pick;rfl;intro K hK;go_wp)
  exact Plan.seg_nil
 refine Plan.plan_done ?_
 obtain⟨w2,hw2⟩:=Xq (w1.drew)
 rw[← hw2]
 have hb:Below w1.heap.size w1 w2:=by rw[hw2];exact(Below.refl _ _).drew
 replace HE:=Hd (HE.out.below hb)
 replace HB:=Tb HB hb
 clear hb hw2
 have e0:=HE.out.k0
 have e3:=HE.out.k3
 by_cases k7:k=7
 ·have b7:(k==7)=true:=by simpa using k7
  have b9:(k==9)=false:=by simp;omega
  have d7:decide (k=7)=true:=decide_eq_true k7
  have d9:decide (k=9)=false:=decide_eq_false (by omega)
  clear k7
  by_cases h1:N≤c
  ·have h1':(N:Int)≤(c:Int):=by omega
   have hr:=HR.out
   rw[decide_eq_true h1,Bool.true_or,Bool.true_or]at hr
   have HR2:=Hd hr
   clear hr d7 d9
   go_wp2_with fail
   go_ret
   exact⟨by rw[HR2.out];first |rfl |exact ret_bool (by simp;omega),HB.out⟩
  have h1':(c:Int)<(N:Int):=by omega
  have hr:=HR.out
  rw[decide_eq_false h1,d7,d9,Bool.false_or,Bool.false_and,Bool.true_or,Bool.true_and,Bool.false_or]at hr
  by_cases h2:N≤c+1
  ·have h2':(N:Int)≤(c:Int)+1:=by omega
   rw[decide_eq_true h2]at hr
   have HR2:=Hd hr
   clear hr d7 d9 h1 h2
   go_wp2_with fail
   go_ret
   exact⟨by rw[HR2.out];first |rfl |exact ret_bool (by simp;omega),HB.out⟩
  have h2':(c:Int)+1<(N:Int):=by omega
  rw[decide_eq_false h2]at hr
  have HR2:=Hd hr
  clear hr d7 d9 h1 h2
  go_wp2_with fail
  go_ret
  exact⟨by rw[HR2.out];first |rfl |exact ret_bool (by simp;omega),HB.out⟩
 by_cases k9:k=9
 ·have b7:(k==7)=false:=by simp;omega
  have b9:(k==9)=true:=by simpa using k9
  have d7:decide (k=7)=false:=decide_eq_false k7
  have d9:decide (k=9)=true:=decide_eq_true k9
  clear k7 k9
  by_cases h1:N≤c
  ·have h1':(N:Int)≤(c:Int):=by omega
   have hr:=HR.out
   rw[decide_eq_true h1,Bool.true_or,Bool.true_or]at hr
   have HR2:=Hd hr
   clear hr d7 d9
   go_wp2_with fail
   go_ret
   exact⟨by rw[HR2.out];first |rfl |exact ret_bool (by simp;omega),HB.out⟩
  have h1':(c:Int)<(N:Int):=by omega
  have hr:=HR.out
  rw[decide_eq_false h1,d7,d9,Bool.false_or,Bool.true_and,Bool.or_true,Bool.true_and]at hr
  by_cases h0:c=0
  ·have h0':(c:Int)-1<0:=by omega
   rw[decide_eq_true h0,Bool.true_or]at hr
   have HR2:=Hd hr
   clear hr d7 d9 h1 h0
   go_wp2_with fail
   go_ret
   exact⟨by rw[HR2.out];first |rfl |exact ret_bool (by simp;omega),HB.out⟩
  have h0':0≤(c:Int)-1:=by omega
  rw[decide_eq_false h0,Bool.false_or]at hr
  by_cases h2:N≤c+1
  ·have h2':(N:Int)≤(c:Int)+1:=by omega
   rw[decide_eq_true h2]at hr
   have HR2:=Hd hr
   clear hr d7 d9 h1 h2 h0
   go_wp2_with fail
   go_ret
   exact⟨by rw[HR2.out];first |rfl |exact ret_bool (by simp;omega),HB.out⟩
  have h2':(c:Int)+1<(N:Int):=by omega
  rw[decide_eq_false h2]at hr
  have HR2:=Hd hr
  clear hr d7 d9 h1 h2 h0
  go_wp2_with fail
  go_ret
  exact⟨by rw[HR2.out];first |rfl |exact ret_bool (by simp;omega),HB.out⟩
 have b7:(k==7)=false:=by simpa using k7
 have b9:(k==9)=false:=by simpa using k9
 have d7:decide (k=7)=false:=decide_eq_false k7
 have d9:decide (k=9)=false:=decide_eq_false k9
 clear k7 k9
 have hr:=HR.out
 rw[d7,d9,Bool.false_and,Bool.or_false,Bool.false_or,Bool.false_and,Bool.or_false]at hr
 clear d7 d9
 by_cases h1:N≤c
 ·have h1':(N:Int)≤(c:Int):=by omega
  rw[decide_eq_true h1]at hr
  have HR2:=Hd hr
  clear hr h1
  go_wp2_with fail
  go_ret
  exact⟨by rw[HR2.out];first |rfl |exact ret_bool (by simp;omega),HB.out⟩
 have h1':(c:Int)<(N:Int):=by omega
 rw[decide_eq_false h1]at hr
 have HR2:=Hd hr
 clear hr h1
 go_wp2_with fail
 go_ret
 exact⟨by rw[HR2.out];first |rfl |exact ret_bool (by simp;omega),HB.out⟩
theorem etotal_wild (v:Value) (l:List Clip) (w:World) (h:Tk w v l) (hP:∀ k,k≤l.length→-4611686018427387904≤Trk.total (l.take k)∧Trk.total (l.take k)≤4611686018427387904) (hl:l.length≤1048576) :
  Calls Tryz.prog 122 #[v] w fun e w'=>e=.returned (.int .i64 (Trk.total l))∧Below w.heap.size w w':=by
 obtain⟨ao,cap,rfl,hc1,hc2,hT⟩:=h
 have HT:=Hd (show Tk w (.slice ao l.length cap) l from⟨ao,cap,rfl,hc1,hc2,hT⟩)
 clear hT
 have HP:=Hd hP
 obtain⟨L,hL⟩:=Xq (l.length)
 rw[← hL]at hl hc1
 have HLe:=Hd hL
 rw[← hL]
 clear hP hL hc2
 go_enter Tryz.func122,Tryz.ntmps122
 go_wp2_with fail
 go_loopw [3,8] (fun v3 v8 wr=>∃ k:Nat,k≤L∧v8=.int .i64 (k:Int)∧v3=.int .i64 (Trk.total (l.take k))∧Below w.heap.size w wr) (fun _ i _=>L-(intOf i).toNat)
 case atStart=>exact⟨0,Nat.zero_le _,rfl,rfl,Below.refl _ _⟩
 case round=>
  obtain⟨k,hk,rfl,rfl,hb⟩:=hrel
  by_cases hlt:k<L
  ·have hlt':(k:Int)<(L:Int):=by omega
   have hkl:k<l.length:=by rw[← HLe.out];exact hlt
   obtain⟨c,hc⟩:∃ c,l[k]?=some c:=⟨_,List.getElem?_eq_getElem hkl⟩
   obtain⟨ao',cap',e,_,_,hT⟩:=HT.out.below hb
   simp only[Value.slice.injEq,true_and]at e
   obtain⟨rfl,rfl⟩:=e
   obtain⟨b,o,rfl,hA⟩:=hT k c hc
   clear hT
   have hn:Trk.total (l.take (k+1))=Trk.total (l.take k)+c.len:=by
    rw[List.take_add_one,hc]
    show Trk.total (l.take k++[c])=_
    rw[total_append]
    show _+(c.len+0)=_
    omega
   have h1:=HP.out (k+1) hkl
   have h2:=HP.out k (Nat.le_of_lt hkl)
   obtain⟨s,hs⟩:=Xq (Trk.total (l.take k))
   rw[← hs]at hn h2 ⊢
   rw[hn]at h1
   obtain⟨h6,h7⟩:=h1
   obtain⟨h8,h9⟩:=h2
   have HN:=Hd hn
   have HA:=Hd hA
   have HB:=Hd hb
   have HC:=Hd hc
   clear hA hb hc hkl hn hs
   go_upto_region 4 with fail
   apply wp_region_lit
   iterate 3 go_step
   refine wpl_load HA.out rfl rfl rfl ?_
   refine wpl_alloc rfl rfl (fun w2 hg hb2 hs2=>?_)
   obtain⟨g,hgg⟩:=Xq (wr.heap.size)
   rw[← hgg]at hg ⊢
   have hgn:w.heap.size≤g:=by rw[hgg];exact HB.out.size
   have HB2:=Hd (HB.out.trans (hb2.mono HB.out.size))
   clear hb2 hs2 hgg HA
   refine wpl_store c hg rfl rfl rfl rfl ?_
   intro w3 hv ho3 hb3
   have HB3:=Hd (hb3 _ _ hgn HB2.out)
   have x0:=hv.c.at0.1
   clear hv ho3 hb3 hg HB2
   simp only[Act.put,sA1,sB1,sC1]
   obtain⟨C,hC⟩:=Xq ((clipC c).toArray)
   rw[← hC]
   clear hC
   go_wp2_with fail
   go_roundw
   case rel=>exact⟨k+1,by omega,by simp,by rw[HN.out],HB3.out⟩
   case measure=>
    show L-(intOf (.int .i64 ((k:Int)+1))).toNat<L-(intOf (.int .i64 (k:Int))).toNat
    simp[intOf]
    omega
  have hkl:k=L:=by omega
  have e:l.take k=l:=List.take_of_length_le (by rw[← HLe.out];omega)
  rw[e]
  have HB:=Hd hb
  clear hb e
  subst hkl
  go_wp2_with fail
  go_ret
  exact⟨rfl,HB.out⟩
structure Wild (L:Int) (c:Clip):Prop where
 cls:Cls L c
 l0:-1099511627776≤c.len
 l1:c.len≤1099511627776
 o0:-1099511627776≤c.off
 o1:c.off≤1099511627776
 t0:-1099511627776≤c.total
 t1:c.total≤1099511627776
theorem bad_any {L:Int} (c:Clip) (w:World) (h:Wild L c) (hL:L≤140737488355328):Calls Tryz.prog 132 #[clipV c] w fun e w'=>e=.returned (.bool (!decide (okLen c)))∧Below w.heap.size w w':=by
 have HV:=Hd (fun w=>vclip_any c w h.cls hL h.l0 h.l1 h.o0 h.o1 h.t0 h.t1)
 obtain⟨r,hr⟩:=Xq (decide (okLen c))
 rw[← hr]at HV ⊢
 unfold clipV at HV ⊢
 obtain⟨C,hC⟩:=Xq ((clipC c).toArray)
 rw[← hC]at HV ⊢
 have HC:=Hd hC
 clear hC hr h
 go_enter Tryz.func132,Tryz.ntmps132
 go_upto_region 1 with fail
 have hv:CV (w.alloc (.cells C 48)) w.heap.size c:=by rw[HC.out];exact CV.box w c 48
 have hb:Below w.heap.size w (w.alloc (.cells C 48)):=below_box _ _
 obtain⟨w1,hw1⟩:=Xq (w.alloc (.cells C 48))
 rw[← hw1]at hv hb ⊢
 have HX:=Hd hv
 have HB:=Hd hb
 obtain⟨g,hg⟩:=Xq (w.heap.size)
 rw[← hg]at HX ⊢
 clear hw1 hv hb hg
 apply wp_region_lit
 refine wpl_load HX.out.c rfl rfl rfl ?_
 rw[← HC.out]
 simp only[Act.put,sA1,sB1,sC1]
 go_wp2_with fail
 refine(HV.out _).mono ?_
 rintro e w2 ⟨rfl,hb⟩
 have HB2:=Tb HB hb
 clear hb
 go_wp2_with fail
 go_ret
 exact⟨rfl,HB2.out⟩
theorem index_any {L:Int} (v:Value) (l:List Clip) (w:World) (h:Tk w v l) (hW:∀ c∈l,Wild L c) (hL:L≤140737488355328) (hl:l.length≤64) :
  Calls Tryz.prog 157 #[v,.func (.func 132) #[] #[]] w fun e w'=>(∃ r:Int,e=.returned (.int .i64 r)∧((r=-1∧∀ c∈l,okLen c)∨(0≤r∧¬∀ c∈l,okLen c)))∧Below w.heap.size w w':=by
 obtain⟨ao,cap,rfl,hc1,hc2,hT⟩:=h
 have HT:=Hd (show Tk w (.slice ao l.length cap) l from⟨ao,cap,rfl,hc1,hc2,hT⟩)
 have HW:=Hd hW
 obtain⟨N,hN⟩:=Xq (l.length)
 rw[← hN]at hl hc1 HT ⊢
 have HLe:=Hd hN
 clear hT hN hc2 hW
 go_enter Tryz.func157,Tryz.ntmps157
 go_wp2_with fail
 go_loopw [8] (fun v8 wr=>∃ k:Nat,k≤N∧v8=.int .i64 (k:Int)∧Hid (∀ c∈l.take k,okLen c)∧Below w.heap.size w wr) (fun i _=>N-(intOf i).toNat)
 case atStart=>exact⟨0,Nat.zero_le _,rfl,Hd (fun c hc=>by simp at hc),Below.refl _ _⟩
 case round =>
  obtain⟨k,hk,rfl,HK,hb⟩:=hrel
  by_cases hlt:k<N
  ·have hlt':(k:Int)<(N:Int):=by omega
   have hkc:(k:Int)<(cap:Int):=by omega
   have hkl:k<l.length:=by rw[← HLe.out];exact hlt
   obtain⟨c,hc⟩:∃ c,l[k]?=some c:=⟨_,List.getElem?_eq_getElem hkl⟩
   obtain⟨ao',cap',e,_,_,hT⟩:=HT.out.below hb
   simp only[Value.slice.injEq]at e
   obtain⟨rfl,eN,rfl⟩:=e
   clear eN
   obtain⟨b,o,rfl,hA⟩:=hT k c hc
   clear hT
   have HA:=Hd hA
   have HB:=Hd hb
   have HC:=Hd hc
   have HBA:=Hd (fun w=>bad_any c w (HW.out c (List.mem_of_getElem? hc)) hL)
   obtain⟨r,hr⟩:=Xq (decide (okLen c))
   rw[← hr]at HBA
   have HR:=Hd hr
   clear hA hb hc hkl hr
   go_upto_region 4 with fail
   apply wp_region_lit
   iterate 12 go_step
   refine wpl_load HA.out rfl rfl rfl ?_
   simp only[Act.put,sA1,sB1,sC1]
   unfold clipV at HBA
   obtain⟨C,hC⟩:=Xq ((clipC c).toArray)
   rw[← hC]at HBA ⊢
   clear hC HA
   go_wp2_with fail
   refine(HBA.out _).mono ?_
   rintro e w2 ⟨rfl,hb⟩
   have HB2:=Tb HB hb
   clear hb HB
   cases r
   ·go_wp2_with fail
    go_ret
    exact⟨⟨(k:Int),rfl,.inr ⟨by omega,fun h=>by have:=h c (List.mem_of_getElem? HC.out);have h2:=HR.out;rw[decide_eq_true this]at h2;cases h2⟩⟩,HB2.out⟩
   have HK2:=Hd (show ∀ c∈l.take (k+1),okLen c from fun x hx=>by
    rw[List.take_add_one,HC.out]at hx
    rcases List.mem_append.1 hx with hx |hx
    ·exact HK.out x hx
    simp at hx
    subst hx
    exact of_decide_eq_true HR.out.symm)
   go_wp2_with fail
   go_roundw
   case rel=>exact⟨k+1,by omega,by simp,HK2,HB2.out⟩
   case measure=>
    show N-(intOf (.int .i64 ((k:Int)+1))).toNat<N-(intOf (.int .i64 (k:Int))).toNat
    simp[intOf]
    omega
  have hkl:k=N:=by omega
  have e:l.take k=l:=List.take_of_length_le (by rw[← HLe.out];omega)
  rw[e]at HK
  have HB:=Hd hb
  clear hb e
  subst hkl
  go_wp2_with fail
  go_ret
  exact⟨⟨-1,rfl,.inl ⟨rfl,HK.out⟩⟩,HB.out⟩
theorem contains_any {L:Int} (v:Value) (l:List Clip) (w:World) (h:Tk w v l) (hW:∀ c∈l,Wild L c) (hL:L≤140737488355328) (hl:l.length≤64) :
  Calls Tryz.prog 131 #[v,.func (.func 132) #[] #[]] w fun e w'=>e=.returned (.bool (decide (¬∀ c∈l,okLen c)))∧Below w.heap.size w w':=by
 have HI:=Hd (index_any v l w h hW hL hl)
 obtain⟨r,hr⟩:=Xq (decide (¬∀ c∈l,okLen c))
 rw[← hr]
 have HR:=Hd hr
 clear h hW hr
 go_enter Tryz.func131,Tryz.ntmps131
 go_wp2_with fail
 refine HI.out.mono ?_
 rintro e w2 ⟨⟨j,rfl,hj⟩,hb⟩
 have HB:=Hd hb
 clear hb
 rcases hj with⟨rfl,hj⟩ |⟨hj0,hj⟩
 ·have HE:=Hd (show r=false by rw[HR.out];exact decide_eq_false (fun h=>h hj))
  clear hj
  go_wp2_with fail
  go_ret
  exact⟨by rw[HE.out];rfl,HB.out⟩
 have HE:=Hd (show r=true by rw[HR.out];exact decide_eq_true hj)
 clear hj
 go_wp2_with fail
 go_ret
 exact⟨by rw[HE.out];first |rfl |exact ret_bool (by simp;omega),HB.out⟩
end Go.Proofs.YtfoohocgdcgbcaaGreat
