/- Texts of this claim joined: VQ VR. -/
import Derived.Deep.CutBlock
import Derived.Test.YtfoohocgdcgbcaaGreatCh01
import Derived.Test.YtfoohocgdcgbcaaGreatCh10
import Derived.Test.YtfoohocgdcgbcaaGreatSq
set_option linter.unusedVariables false
set_option linter.unusedSimpArgs false
set_option maxRecDepth 100000
set_option maxHeartbeats 40000000
namespace Go.Proofs.YtfoohocgdcgbcaaGreat
open Go.RowKit
def edC (k p n c d sn sd:Int) (v:Value):Array Value:=#[.int .i64 k,.int .i64 p,.int .i64 n,.int .i64 c,.int .i64 d,.int .i64 sn,.int .i64 sd,v]
def edV (k p n c d sn sd:Int) (v:Value):Value:=.agg (edC k p n c d sn sd v)
structure ED (w:World) (b:Nat) (k p n c d sn sd:Int) (v:Value):Prop where
 k0:w.cell? ⟨b,0,none⟩=some (.int .i64 k)
 k1:w.cell? ⟨b,1,none⟩=some (.int .i64 p)
 k2:w.cell? ⟨b,2,none⟩=some (.int .i64 n)
 k3:w.cell? ⟨b,3,none⟩=some (.int .i64 c)
 k4:w.cell? ⟨b,4,none⟩=some (.int .i64 d)
 k5:w.cell? ⟨b,5,none⟩=some (.int .i64 sn)
 k6:w.cell? ⟨b,6,none⟩=some (.int .i64 sd)
 k7:w.cell? ⟨b,7,none⟩=some v
 fz:∀ o,w.frozen? ⟨b,o,none⟩=false
theorem ED.lt {w:World} {b:Nat} {k p n c d sn sd:Int} {v:Value} (h:ED w b k p n c d sn sd v):b<w.heap.size:=block_lt_of_cell h.k0
theorem ED.lim {w w':World} {m b:Nat} {k p n c d sn sd:Int} {v:Value} (h:ED w b k p n c d sn sd v) (hb:Below m w w') (hm:b<m):ED w' b k p n c d sn sd v:=
 ⟨(hb.cell hm).trans h.k0,(hb.cell hm).trans h.k1,(hb.cell hm).trans h.k2,(hb.cell hm).trans h.k3,(hb.cell hm).trans h.k4,(hb.cell hm).trans h.k5,(hb.cell hm).trans h.k6,(hb.cell hm).trans h.k7,fun o=>(hb.frozen (p:=⟨b,o,none⟩) hm).trans (h.fz o)⟩
theorem ED.below {w w':World} {b:Nat} {k p n c d sn sd:Int} {v:Value} (h:ED w b k p n c d sn sd v) (hb:Below w.heap.size w w'):ED w' b k p n c d sn sd v:=h.lim hb h.lt
theorem ED.box (w:World) (k p n c d sn sd:Int) (v:Value) (hv:v.oneCell'=true) (t:TypeId):ED (w.alloc (.cells #[.int .i64 k,.int .i64 p,.int .i64 n,.int .i64 c,.int .i64 d,.int .i64 sn,.int .i64 sd,v] t)) w.heap.size k p n c d sn sd v:=by
 constructor<;>simp[go_sem]
theorem ED.other {w:World} {b:Nat} {k p n c d sn sd:Int} {v:Value} (h:ED w b k p n c d sn sd v) {b2:Nat} (hne:b≠b2) (o:Nat) (u:Value):ED (w.setCell ⟨b2,o,none⟩ u) b k p n c d sn sd v:=by
 have hs:(w.setCell ⟨b2,o,none⟩ u).heap[b]?=w.heap[b]?:=by simp[World.setCell,Array.getElem?_modify,hne.symm]
 exact⟨(World.cell?_of_block (a:=⟨b,0,none⟩) hs).trans h.k0,(World.cell?_of_block (a:=⟨b,1,none⟩) hs).trans h.k1,(World.cell?_of_block (a:=⟨b,2,none⟩) hs).trans h.k2,(World.cell?_of_block (a:=⟨b,3,none⟩) hs).trans h.k3,(World.cell?_of_block (a:=⟨b,4,none⟩) hs).trans h.k4,(World.cell?_of_block (a:=⟨b,5,none⟩) hs).trans h.k5,(World.cell?_of_block (a:=⟨b,6,none⟩) hs).trans h.k6,(World.cell?_of_block (a:=⟨b,7,none⟩) hs).trans h.k7,fun o'=>(World.frozen?_setCell _ _ _ _).trans (h.fz o')⟩
def edPut (w:World) (b:Nat) (k p n c d sn sd:Int) (v:Value):World:=(((((((w.setCell ⟨b,0,none⟩ (.int .i64 k)).setCell ⟨b,1,none⟩ (.int .i64 p)).setCell ⟨b,2,none⟩ (.int .i64 n)).setCell ⟨b,3,none⟩ (.int .i64 c)).setCell ⟨b,4,none⟩ (.int .i64 d)).setCell ⟨b,5,none⟩ (.int .i64 sn)).setCell ⟨b,6,none⟩ (.int .i64 sd)).setCell ⟨b,7,none⟩ v
theorem ED.put {w:World} {b:Nat} {k p n c d sn sd:Int} {v:Value} (h:ED w b k p n c d sn sd v) (k' p' n' c' d' sn' sd':Int) (v':Value):ED (edPut w b k' p' n' c' d' sn' sd' v') b k' p' n' c' d' sn' sd' v':=by
 obtain⟨x0,x1,x2,x3,x4,x5,x6,x7,f⟩:=h
 unfold edPut
 exact⟨by simp[go_sem,x0,x1,x2,x3,x4,x5,x6,x7],by simp[go_sem,x0,x1,x2,x3,x4,x5,x6,x7],by simp[go_sem,x0,x1,x2,x3,x4,x5,x6,x7],by simp[go_sem,x0,x1,x2,x3,x4,x5,x6,x7],by simp[go_sem,x0,x1,x2,x3,x4,x5,x6,x7],by simp[go_sem,x0,x1,x2,x3,x4,x5,x6,x7],by simp[go_sem,x0,x1,x2,x3,x4,x5,x6,x7],by simp[go_sem,x0,x1,x2,x3,x4,x5,x6,x7],fun o=>by simp only[World.frozen?_setCell];exact f o⟩
theorem Tk.lim {w w':World} {n:Nat} {v:Value} {l:List Trk.Clip} (h:Tk w v l) (hb:Below n w w') (hn:∀ b o k c,v=.slice (some ⟨b,o,none⟩) k c→b<n):Tk w' v l:=by
 obtain⟨ao,cap,rfl,h1,h2,h3⟩:=h
 refine⟨ao,cap,rfl,h1,h2,fun i c hc=>?_⟩
 obtain⟨b,o,rfl,hA⟩:=h3 i c hc
 exact⟨b,o,rfl,hA.same (hb.block b (hn b o _ _ rfl))⟩
theorem ED.same {w w':World} {b:Nat} {k p n c d sn sd:Int} {v:Value} (h:ED w b k p n c d sn sd v) (hs:w'.heap[b]?=w.heap[b]?):ED w' b k p n c d sn sd v:=
 ⟨(World.cell?_of_block (a:=⟨b,0,none⟩) hs).trans h.k0,(World.cell?_of_block (a:=⟨b,1,none⟩) hs).trans h.k1,(World.cell?_of_block (a:=⟨b,2,none⟩) hs).trans h.k2,(World.cell?_of_block (a:=⟨b,3,none⟩) hs).trans h.k3,(World.cell?_of_block (a:=⟨b,4,none⟩) hs).trans h.k4,(World.cell?_of_block (a:=⟨b,5,none⟩) hs).trans h.k5,(World.cell?_of_block (a:=⟨b,6,none⟩) hs).trans h.k6,(World.cell?_of_block (a:=⟨b,7,none⟩) hs).trans h.k7,fun o=>(World.frozen?_of_block (a:=⟨b,o,none⟩) hs).trans (h.fz o)⟩
theorem OT.blk {w:World} {B g k cap:Nat} {v:Value} {l:List Trk.Clip} (h:OT w B v l) (e:v=.slice (some ⟨g,0,none⟩) k cap):B≤g∧g<w.heap.size:=by
 subst e
 exact⟨h.own.1,h.own.2.1⟩
theorem cutRaw_np (l:List Trk.Clip) (f:Int) {n:Int} (hn:n≤0):Trk.cutRaw l f n=[]:=by
 cases l with
 |nil=>unfold Trk.cutRaw;rw[if_neg (by omega)]
 |cons c l=>unfold Trk.cutRaw;rw[if_pos hn]
def EdV (e:Trk.Ed) (u:Value):Value:=edV e.k e.p e.m e.c e.d e.sn e.sd u
def EdPost (w:World) (n l:List Trk.Clip) (a b uk:Int) (e:Ending) (w':World):Prop:=
 ∃ v' vr,e=.returned (.tuple #[v',EdV (Trk.backOf n a b uk) vr,.int .i64 0])∧OT w' w.heap.size v' l∧OT w' w.heap.size vr (Trk.backOf n a b uk).ins∧Below w.heap.size w w'
structure E2 (w:World) (g1 g2:Nat) (k p m c d sn sd:Int) (u:Value):Prop where
 a:ED w g1 k p m c d sn sd u
 r:ED w g2 0 0 0 0 0 0 0 (.slice none 0 0)
theorem E2.below {w w':World} {g1 g2:Nat} {k p m c d sn sd:Int} {u:Value} (h:E2 w g1 g2 k p m c d sn sd u) (hb:Below w.heap.size w w'):E2 w' g1 g2 k p m c d sn sd u:=⟨h.a.below hb,h.r.below hb⟩
structure UK (n ins put rl:List Trk.Clip) (k uk p T rem mm:Int):Prop where
 a:k=1→uk=2∧mm=T∧rl=[]∧put=ins
 b:k=2→uk=1∧mm=0∧rl=Trk.cut n p (p+rem)∧put=[]
 c:k=3→uk=3∧mm=0∧rl=Trk.cut n p (p+rem)∧put=ins
 d:k=4→uk=3∧mm=0∧rl=Trk.cut n p (p+rem)∧put=Trk.gapL T
theorem UK.of {n ins put rl:List Trk.Clip} {k uk p T rem mm m:Int} (huk:uk=Trk.undoK k) (hmm:mm=if uk=2 then p+T-p else 0) (hrl:rl=if uk=2 then[] else Trk.cut n p (p+T)) (hr:rem=if k=1 then 0 else T)
  (hp:put=if k=4 then[Trk.gap m] else ins) (hm:k=2∨k=4→T=m∧ins=[]) (ht:1≤T):UK n ins put rl k uk p T rem mm:=by
 unfold Trk.undoK at huk
 constructor
 ·rintro rfl
  have hu:uk=2:=huk
  subst hu
  exact⟨rfl,by rw[hmm,if_pos rfl];omega,by rw[hrl,if_pos rfl],by rw[hp,if_neg (by decide)]⟩
 ·rintro rfl
  have hu:uk=1:=huk
  subst hu
  rw[if_neg (by decide)]at hr hmm hrl hp
  exact⟨rfl,hmm,by rw[hrl,hr],by rw[hp,(hm (.inl rfl)).2]⟩
 ·rintro rfl
  have hu:uk=3:=huk
  subst hu
  rw[if_neg (by decide)]at hr hmm hrl hp
  exact⟨rfl,hmm,by rw[hrl,hr],hp⟩
 rintro rfl
 have hu:uk=3:=huk
 subst hu
 rw[if_neg (by decide)]at hr hmm hrl
 rw[if_pos rfl]at hp
 refine⟨rfl,hmm,by rw[hrl,hr],?_⟩
 rw[hp,← (hm (.inr rfl)).1]
 unfold Trk.gapL
 rw[if_pos (by omega)]
def T26 (w:World) (b:Nat):Prop:=∃ cs p,w.heap[b]?=some (.cells cs 40 p)
theorem T26.set {w:World} {b:Nat} (h:T26 w b) (p:Addr) (u:Value):T26 (w.setCell p u) b:=by
 obtain⟨cs,q,hc⟩:=h
 by_cases hb:p.block=b
 ·subst hb
  simp only[T26,World.setCell,Array.getElem?_modify,hc,if_true,Option.map_some]
  exact⟨_,_,rfl⟩
 refine⟨cs,q,?_⟩
 simp[World.setCell,Array.getElem?_modify,hb,hc]
theorem T26.put {w:World} {b:Nat} (h:T26 w b) (g:Nat) (k p n c d sn sd:Int) (u:Value):T26 (edPut w g k p n c d sn sd u) b:=by
 unfold edPut
 exact(((((((h.set _ _).set _ _).set _ _).set _ _).set _ _).set _ _).set _ _).set _ _
theorem T26.same {w w':World} {b:Nat} (h:T26 w b) (hs:w'.heap[b]?=w.heap[b]?):T26 w' b:=by
 obtain⟨cs,q,hc⟩:=h
 exact⟨cs,q,hs.trans hc⟩
theorem T26.ne {w:World} {b B:Nat} {v:Value} {l:List Trk.Clip} (h:T26 w b) (ho:OT w B v l):∀ g kk cap,v=.slice (some ⟨g,0,none⟩) kk cap→b≠g:=by
 intro g kk cap e hbg
 subst hbg
 subst e
 obtain⟨cs,q,hc⟩:=h
 rcases ho with⟨e,_⟩ |⟨g',cap',cur,e,hB,hg,_⟩
 ·simp at e
 simp only[Value.slice.injEq,Option.some.injEq,Addr.mk.injEq,and_true,true_and]at e
 obtain⟨rfl,rfl,rfl⟩:=e
 rw[hc]at hg
 simp at hg
theorem ED.range {w:World} {b:Nat} {k p n c d sn sd:Int} {v:Value} (h:ED w b k p n c d sn sd v):w.rangeAt b 0 (edC k p n c d sn sd v).toList:=by
 intro j u hj
 have hl:j<8:=(List.getElem?_eq_some_iff.1 hj).1
 rcases(show j=0∨j=1∨j=2∨j=3∨j=4∨j=5∨j=6∨j=7 by omega) with rfl |rfl |rfl |rfl |rfl |rfl |rfl |rfl
 all_goals simp only[edC,List.getElem?_cons_zero,List.getElem?_cons_succ,Option.some.injEq]at hj;subst hj
 ·exact h.k0
 ·exact h.k1
 ·exact h.k2
 ·exact h.k3
 ·exact h.k4
 ·exact h.k5
 ·exact h.k6
 exact h.k7
theorem results_ed {fn:Func} {tmps:Array Value} {w:World} {s t r:Tmp} {b:Nat} {k p n c d sn sd:Int} {v x y:Value} (hr:fn.results=#[.tmp s,.cell t 40,.tmp r]) (hs:tmps.getD s undef=x) (ht:tmps.getD t undef=.pointer (some ⟨b,0,none⟩)) (hy:tmps.getD r undef=y)
  (hc:ED w b k p n c d sn sd v) (hv:(∃ ao m cp,v=.slice ao m cp)):(results fn tmps).run Tryz.prog w=.ok (.tuple #[x,edV k p n c d sn sd v,y]) w:=by
 obtain⟨ao,m,cp,rfl⟩:=hv
 have h:=run_loadVar_mid (P:=Tryz.prog) w b 0 40 (edC k p n c d sn sd (.slice ao m cp)).toList _ hc.range Tryz.underlying40 rfl (by kernel_rfl)
 obtain⟨C,hC⟩:=Xq ((edC k p n c d sn sd (.slice ao m cp)).toList.toArray)
 rw[← hC]at h
 unfold results
 rw[hr]
 have ht2:tmps[t]?.getD undef=.pointer (some ⟨b,0,none⟩):=by rw[← Array.getD_eq_getD_getElem?];exact ht
 have hs2:tmps[s]?.getD undef=x:=by rw[← Array.getD_eq_getD_getElem?];exact hs
 have hy2:tmps[r]?.getD undef=y:=by rw[← Array.getD_eq_getD_getElem?];exact hy
 simp[ht2,hs2,hy2,asAddr,h]
 rw[hC]
 rfl
theorem OT.blocks {w w':World} {B:Nat} {v:Value} {l:List Trk.Clip} (h:OT w B v l) (hs:∀ g kk cap,v=.slice (some ⟨g,0,none⟩) kk cap→w'.heap[g]?=w.heap[g]?):OT w' B v l:=by
 obtain⟨rfl,rfl⟩ |⟨g,cap,rfl⟩:=h.shape
 ·exact OT.nil _ _
 exact h.same (hs g _ _ rfl)
theorem setCells_other (b b2:Nat) (hn:b2≠b):∀ (vs:List Value) (o:Nat) (w:World),(w.setCells b o vs).heap[b2]?=w.heap[b2]?
 |[],_,_=>rfl
 |v::r,o,w=>by
  rw[World.setCells,setCells_other b b2 hn r (o+1)]
  simp[World.setCell,Array.getElem?_modify,hn.symm]
theorem size_setCells (b:Nat):∀ (vs:List Value) (o:Nat) (w:World),(w.setCells b o vs).heap.size=w.heap.size
 |[],_,_=>rfl
 |v::r,o,w=>by rw[World.setCells,size_setCells b r (o+1),World.size_setCell]
theorem T26.cells {b:Nat}:∀ (vs:List Value) (o g:Nat) (w:World),T26 w b→T26 (w.setCells g o vs) b
 |[],_,_,_,h=>h
 |v::r,o,g,w,h=>by rw[World.setCells];exact T26.cells r (o+1) g _ (h.set _ _)
theorem ED.there {w:World} {b:Nat} {k p n c d sn sd:Int} {v:Value} (h:ED w b k p n c d sn sd v):w.there b 0 8:=fun j hj=>⟨by
 have hj':j<(edC k p n c d sn sd v).toList.length:=hj
 rw[h.range j _ (List.getElem?_eq_getElem hj')];rfl,h.fz _⟩
theorem ED.ofRange {w:World} {b:Nat} {k p n c d sn sd:Int} {v:Value} (h:w.rangeAt b 0 (edC k p n c d sn sd v).toList) (hf:∀ o,w.frozen? ⟨b,o,none⟩=false):ED w b k p n c d sn sd v:=
 ⟨h 0 _ rfl,h 1 _ rfl,h 2 _ rfl,h 3 _ rfl,h 4 _ rfl,h 5 _ rfl,h 6 _ rfl,h 7 _ rfl,hf⟩
theorem wpList_appTo (w:World) {ops:Array Oper} {rest:List Oper} {op:Oper} {a:Act} {Q:Exit→Act→World→Prop} (T1 T2:TypeId) (dst:Option Tmp) (hd:op.dst=dst) (h1:Tryz.prog.underlying T1=some (.slice 48)) (h2:Tryz.prog.underlying T2=some (.slice 48)) (hg:op.guard=none) (s x:Operand)
  (hop:op.op=.call { callee:=.builtin .append,args:=#[s,x],argTypes:=#[T1,T2] }) (B:Nat) (v u:Value) (l m:List Trk.Clip) (hs:a.eval s=v) (hx:a.eval x=u) (h:OT w B v l) (hB:B≤w.heap.size) (hm:Tk w u m) (hl:l.length+m.length≤1048576)
  (hK:∀ v' w',OT w' B v' (l++m)→Below B w w'→(∀ b,b<w.heap.size→(∀ g cap,v=.slice (some ⟨g,0,none⟩) l.length cap→b≠g)→w'.heap[b]?=w.heap[b]?)→w.heap.size≤w'.heap.size→wpList Tryz.prog ops Q rest (a.put dst v') w'):wpList Tryz.prog ops Q (op::rest) a w:=by
 subst hd
 exact wpList_appM w T1 T2 h1 h2 hg s x hop B v u l m hs hx h hB hm hl hK
theorem wpl_loadE {ops:Array Oper} {rest:List Oper} {op:Oper} {a:Act} {w:World} {Q:Exit→Act→World→Prop} {b:Nat} {k p n c d sn sd:Int} {ao:Option Addr} {m cp:Nat} {x:Operand} (hE:ED w b k p n c d sn sd (.slice ao m cp)) (hgd:op.guard=none) (ho:op.op=.load 40 x)
  (hx:a.eval x=.pointer (some ⟨b,0,none⟩)) (h:wpList Tryz.prog ops Q rest (a.put op.dst (.agg (edC k p n c d sn sd (.slice ao m cp)))) w):wpList Tryz.prog ops Q (op::rest) a w:=
 wpList_load_mid hgd 40 x ho b 0 hx (edC k p n c d sn sd (.slice ao m cp)).toList _ hE.range Tryz.underlying40 rfl (by kernel_rfl) h
theorem wpl_storeE {ops:Array Oper} {rest:List Oper} {op:Oper} {a:Act} {w:World} {Q:Exit→Act→World→Prop} {b:Nat} {k p n c d sn sd:Int} {v:Value} (k' p' n' c' d' sn' sd':Int) (ao:Option Addr) (m cp:Nat) {x y:Operand}
  (hE:ED w b k p n c d sn sd v) (hgd:op.guard=none) (ho:op.op=.store 40 x y) (hx:a.eval x=.pointer (some ⟨b,0,none⟩)) (hy:a.eval y=.agg (edC k' p' n' c' d' sn' sd' (.slice ao m cp)))
  (h:∀ w',ED w' b k' p' n' c' d' sn' sd' (.slice ao m cp)→(∀ b2,b2≠b→w'.heap[b2]?=w.heap[b2]?)→w'.heap.size=w.heap.size→(∀ n w0,n≤b→Below n w0 w→Below n w0 w')→(T26 w b→T26 w' b)→wpList Tryz.prog ops Q rest (a.put op.dst undef) w'):wpList Tryz.prog ops Q (op::rest) a w:=
 wpList_store_mid hgd 40 x y ho b 0 (edC k' p' n' c' d' sn' sd' (.slice ao m cp)) hx hy hE.there (by kernel_rfl) (by simp[edC,Value.oneCell'])
  (h _ (ED.ofRange (fun j u hj => World.rangeAt_setCells_same w b 0 (edC k' p' n' c' d' sn' sd' (.slice ao m cp)).toList hE.there j u hj) (fun o => (World.frozen?_setCells b _ _ w _).trans (hE.fz o)))
   (fun b2 hn=>setCells_other b b2 hn _ _ _) (size_setCells b _ _ _) (fun n w0 hn hb=>below_setCells b hn _ _ _ hb) (fun ht=>T26.cells _ _ _ _ ht))
end Go.Proofs.YtfoohocgdcgbcaaGreat
