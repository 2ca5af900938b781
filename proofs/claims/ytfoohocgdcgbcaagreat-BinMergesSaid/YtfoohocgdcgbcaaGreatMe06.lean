/- Texts of this claim joined: K L M N O P Q R S U W. -/
import Derived.Deep.MidRow
import Derived.Great.Walk
import Derived.Laws.AppendOwn
import Derived.Laws.Tables
import Derived.OwnWalk
import Derived.Test.YtfoohocgdcgbcaaGreatMe05
import Derived.Test.YtfoohocgdcgbcaaGreatSq
set_option linter.unusedVariables false
set_option linter.unusedSimpArgs false
set_option maxRecDepth 100000
set_option maxHeartbeats 40000000
namespace Go.Proofs.YtfoohocgdcgbcaaGreat
open Go.Trk
open Go.RowKit
theorem below_setCells {n:Nat} {w0:World} (b:Nat) (hb:n≤b):∀ (vs:List Value) (o:Nat) (w:World),Below n w0 w→Below n w0 (w.setCells b o vs)
 |[],_,_,h=>h
 |v::r,o,w,h=>by rw[World.setCells];exact below_setCells b hb r (o+1) _ (h.setCell hb _)
theorem CA.range {w:World} {b o:Nat} {c:Clip} (h:CA w b o c):w.rangeAt b o (clipC c):=h.get
theorem clip_oneCell (c:Clip):(clipC c).toArray.all (·.oneCell')=true:=by simp[clipC,Value.oneCell']
structure CV (w:World) (b:Nat) (c:Clip):Prop where
 c:CA w b 0 c
 f:∀ o,w.frozen? ⟨b,o,none⟩=false
theorem CV.lt {w:World} {b:Nat} {c:Clip} (h:CV w b c):b<w.heap.size:=h.c.lt
theorem CV.below {w w':World} {b:Nat} {c:Clip} (h:CV w b c) (hb:Below w.heap.size w w'):CV w' b c:=
 ⟨h.c.below hb,fun o=>(hb.frozen (p:=⟨b,o,none⟩) h.lt).trans (h.f o)⟩
theorem CV.box (w:World) (c:Clip) (t:TypeId):CV (w.alloc (.cells (clipC c).toArray t)) w.heap.size c:=⟨CA.box w c t,fun o=>by simp[go_sem]⟩
theorem CV.there {w:World} {b:Nat} {c:Clip} (h:CV w b c):w.there b 0 22:=fun j hj=>⟨by
 have hj':j<(clipC c).length:=hj
 rw[h.c.get j _ (List.getElem?_eq_getElem hj')];rfl,h.f _⟩
theorem CV.put {w:World} {b:Nat} {c:Clip} (h:CV w b c) (e:Clip):CV (w.setCells b 0 (clipC e)) b e:=
 ⟨CA.of fun j v hj=>World.rangeAt_setCells_same w b 0 (clipC e) h.there j v hj,fun o=>(World.frozen?_setCells b _ _ w _).trans (h.f o)⟩
theorem CV.apart {w:World} {b:Nat} {c:Clip} (h:CV w b c) {b2:Nat} (hne:b≠b2) (vs:List Value) (o:Nat):CV (w.setCells b2 o vs) b c:=
 ⟨CA.of fun j v hj=>World.rangeAt_setCells_apart h.c.range b2 o vs (.inl hne) j v hj,fun o'=>(World.frozen?_setCells b2 _ _ w _).trans (h.f o')⟩
theorem CV.set_len {w:World} {b:Nat} {c:Clip} (h:CV w b c) (v:Int):CV (w.setCell ⟨b,0,none⟩ (.int .i64 v)) b { c with len:=v }:=by
 obtain⟨h0,f⟩:=h
 obtain⟨x0,x1,x2,x3,x4,x5,x6,x7,x8,x9,x10,x11,x12,x13,x14,x15,x16,x17,x18,x19,x20,x21⟩:=h0.at0
 exact⟨by constructor<;>simp[go_sem,x0,x1,x2,x3,x4,x5,x6,x7,x8,x9,x10,x11,x12,x13,x14,x15,x16,x17,x18,x19,x20,x21],fun o=>(World.frozen?_setCell _ _ _ _).trans (f o)⟩
theorem CV.set_off {w:World} {b:Nat} {c:Clip} (h:CV w b c) (v:Int):CV (w.setCell ⟨b,16,none⟩ (.int .i64 v)) b { c with off:=v }:=by
 obtain⟨h0,f⟩:=h
 obtain⟨x0,x1,x2,x3,x4,x5,x6,x7,x8,x9,x10,x11,x12,x13,x14,x15,x16,x17,x18,x19,x20,x21⟩:=h0.at0
 exact⟨by constructor<;>simp[go_sem,x0,x1,x2,x3,x4,x5,x6,x7,x8,x9,x10,x11,x12,x13,x14,x15,x16,x17,x18,x19,x20,x21],fun o=>(World.frozen?_setCell _ _ _ _).trans (f o)⟩
theorem CV.set_nil {w:World} {b:Nat} {c:Clip} (h:CV w b c):CV (w.setCell ⟨b,21,none⟩ (.slice none 0 0)) b c:=by
 obtain⟨h0,f⟩:=h
 obtain⟨x0,x1,x2,x3,x4,x5,x6,x7,x8,x9,x10,x11,x12,x13,x14,x15,x16,x17,x18,x19,x20,x21⟩:=h0.at0
 exact⟨by constructor<;>simp[go_sem,x0,x1,x2,x3,x4,x5,x6,x7,x8,x9,x10,x11,x12,x13,x14,x15,x16,x17,x18,x19,x20,x21],fun o=>(World.frozen?_setCell _ _ _ _).trans (f o)⟩
theorem CV.other {w:World} {b:Nat} {c:Clip} (h:CV w b c) {b2:Nat} (hne:b≠b2) (o:Nat) (v:Value):CV (w.setCell ⟨b2,o,none⟩ v) b c:=
 ⟨h.c.same (by simp[World.setCell,Array.getElem?_modify,hne.symm]),fun o'=>(World.frozen?_setCell _ _ _ _).trans (h.f o')⟩
theorem wpl_load {ops:Array Oper} {rest:List Oper} {op:Oper} {a:Act} {w:World} {Q:Exit→Act→World→Prop} {b o:Nat} {c:Clip} {x:Operand} (hc:CA w b o c) (hgd:op.guard=none) (ho:op.op=.load 48 x)
  (hx:a.eval x=.pointer (some ⟨b,o,none⟩)) (h:wpList Tryz.prog ops Q rest (a.put op.dst (.agg (clipC c).toArray)) w):wpList Tryz.prog ops Q (op::rest) a w:=
 wpList_load_mid hgd 48 x ho b o hx (clipC c) _ hc.range Tryz.underlying48 rfl (by kernel_rfl) h
theorem wpl_store {ops:Array Oper} {rest:List Oper} {op:Oper} {a:Act} {w:World} {Q:Exit→Act→World→Prop} {b:Nat} {c:Clip} (e:Clip) {x y:Operand} (hc:CV w b c) (hgd:op.guard=none) (ho:op.op=.store 48 x y)
  (hx:a.eval x=.pointer (some ⟨b,0,none⟩)) (hy:a.eval y=.agg (clipC e).toArray)
  (h:∀ w',CV w' b e→(∀ b2 c2,b2≠b→CV w b2 c2→CV w' b2 c2)→(∀ n w0,n≤b→Below n w0 w→Below n w0 w')→wpList Tryz.prog ops Q rest (a.put op.dst undef) w'):wpList Tryz.prog ops Q (op::rest) a w:=
 wpList_store_mid hgd 48 x y ho b 0 (clipC e).toArray hx hy hc.there (by kernel_rfl) (clip_oneCell e)
  (h _ (hc.put e) (fun b2 c2 hne h2=>h2.apart hne _ _) (fun n w0 hn hb=>below_setCells b hn _ _ _ hb))
theorem results_clip {fn:Func} {tmps:Array Value} {w:World} {s:Tmp} {b:Nat} {c:Clip} (hr:fn.results=#[.cell s 48]) (ht:tmps.getD s undef=.pointer (some ⟨b,0,none⟩)) (hc:CA w b 0 c):(results fn tmps).run Tryz.prog w=.ok (.agg (clipC c).toArray) w:=by
 have h:=run_loadVar_mid (P:=Tryz.prog) w b 0 48 (clipC c) _ hc.range Tryz.underlying48 rfl (by kernel_rfl)
 obtain⟨C,hC⟩:=Xq ((clipC c).toArray)
 rw[← hC]at h ⊢
 unfold results
 rw[hr]
 have ht2:tmps[s]?.getD undef=.pointer (some ⟨b,0,none⟩):=by rw[← Array.getD_eq_getD_getElem?];exact ht
 simp[ht2,asAddr,h]
theorem copied_any (c:Clip) (w:World):Calls Tryz.prog 108 #[clipV c] w fun e w'=>e=.returned (clipV c)∧Below w.heap.size w w':=by
 unfold clipV
 obtain⟨C,hC⟩:=Xq ((clipC c).toArray)
 rw[← hC]
 have HC:=Hd hC
 clear hC
 go_enter Tryz.func108,Tryz.ntmps108
 go_upto_region 1 with fail
 obtain⟨w1,hw1⟩:=Xq ((w.alloc (.cells C 48)).alloc (.cells (clipC (gap 0)).toArray 48))
 have hw1':=hw1
 simp only[clipC,gap,black,show(ByteArray.empty:ByteArray)=⟨#[]⟩ from rfl]at hw1'
 rw[← hw1']
 clear hw1'
 rw[HC.out]at hw1
 obtain⟨hx,hy,hb1⟩:CV w1 w.heap.size c∧CV w1 (w.heap.size+1) (gap 0)∧Below w.heap.size w w1:=by
  subst hw1
  refine⟨(CV.box w c 48).below (below_box _ _),?_,by go_grown⟩
  have h2:=CV.box (w.alloc (.cells (clipC c).toArray 48)) (gap 0) 48
  rw[show(w.alloc (.cells (clipC c).toArray 48)).heap.size=w.heap.size+1 by simp]at h2
  exact h2
 obtain⟨g1,hg1⟩:=Xq (w.heap.size)
 obtain⟨g2,hg2⟩:=Xq (w.heap.size+1)
 rw[← hg2]at hy ⊢
 rw[← hg1]at hx ⊢
 have hne:g1≠g2:=by omega
 have hn1:w.heap.size≤g1:=by omega
 have hn2:w.heap.size≤g2:=by omega
 clear hw1 hg1 hg2
 have y21:=hx.c.k21
 have yf:=hx.f
 simp only[Nat.zero_add]at y21
 go_upto_region 2 with(go_at_call 91;refine(clone_nil _).mono ?_;rintro e w' ⟨rfl,rfl⟩)
 have hz:=hx.set_nil
 have hz2:=hy.other hne.symm 21 (.slice none 0 0)
 have hb2:=hb1.setCell (p:=⟨g1,21,none⟩) hn1 (.slice none 0 0)
 clear hx hy hb1 y21 yf
 obtain⟨w3,hw3⟩:=Xq (w1.setCell ⟨g1,21,none⟩ (.slice none 0 0))
 rw[← hw3]at hz hz2 hb2 ⊢
 clear hw3
 rw[HC.out]
 apply wp_region_lit
 refine wpl_load hz.c rfl rfl rfl ?_
 refine wpl_store c hz2 rfl rfl rfl rfl ?_
 intro w4 hv _ hb
 have hb4:=hb _ _ hn2 hb2
 clear hb hz hz2 hb2
 go_wp2_with fail
 refine bodyPost_ret (v:=.agg C) (by rw[HC.out];exact results_clip Tryz.results108 rfl hv.c) rfl ⟨rfl,hb4⟩
structure OkC (c:Clip):Prop where
 g:GoodC c
 a:OkS c.a
 b:OkS c.b
 ch:c.chan=[]
 l:c.len≤4294967296
 o:c.off.natAbs≤4611686018427387904
theorem cont_law {c d:Clip} (hd:GoodC d) (hc:GoodC c):cont d c↔d=withLen (shift c c.len) d.len:=by
 unfold cont
 rw[one_zero hd]
 constructor
 ·intro h
  have h2:=congrArg (fun x=>withLen x d.len) h
  exact h2
 intro h
 rw[h]
 rfl
theorem cont_gap {c d:Clip} (hd:GoodC d) (hc:GoodC c) (k1:c.kind=0) (k2:d.kind=0):cont d c:=by
 unfold cont
 rw[hd.g k2,hc.g k1,one_gap,one_gap]
theorem CV.set_a {w:World} {b:Nat} {c:Clip} (h:CV w b c) (s:Src):CV (((((((w.setCell ⟨b,2,none⟩ (.int .i64 s.kind)).setCell ⟨b,3,none⟩ (.string s.name)).setCell ⟨b,4,none⟩ (.int .i64 s.an)).setCell ⟨b,5,none⟩ (.int .i64 s.ad)).setCell ⟨b,6,none⟩ (.int .i64 s.sn)).setCell ⟨b,7,none⟩ (.int .i64 s.sd)).setCell ⟨b,8,none⟩ (.bool s.smooth)) b { c with a:=s }:=by
 obtain⟨h0,f⟩:=h
 obtain⟨x0,x1,x2,x3,x4,x5,x6,x7,x8,x9,x10,x11,x12,x13,x14,x15,x16,x17,x18,x19,x20,x21⟩:=h0.at0
 exact⟨by constructor<;>simp[go_sem,x0,x1,x2,x3,x4,x5,x6,x7,x8,x9,x10,x11,x12,x13,x14,x15,x16,x17,x18,x19,x20,x21],fun o=>by simp only[World.frozen?_setCell];exact f o⟩
theorem CV.other_a {w:World} {b2:Nat} {c:Clip} (h:CV w b2 c) {b:Nat} (hne:b2≠b) (s:Src):CV (((((((w.setCell ⟨b,2,none⟩ (.int .i64 s.kind)).setCell ⟨b,3,none⟩ (.string s.name)).setCell ⟨b,4,none⟩ (.int .i64 s.an)).setCell ⟨b,5,none⟩ (.int .i64 s.ad)).setCell ⟨b,6,none⟩ (.int .i64 s.sn)).setCell ⟨b,7,none⟩ (.int .i64 s.sd)).setCell ⟨b,8,none⟩ (.bool s.smooth)) b2 c:=(((((((h.other hne 2 _).other hne 3 _).other hne 4 _).other hne 5 _).other hne 6 _).other hne 7 _).other hne 8 _)
theorem below_set_a {n:Nat} {w0 w:World} (h:Below n w0 w) {b:Nat} (hn:n≤b) (s:Src):Below n w0 (((((((w.setCell ⟨b,2,none⟩ (.int .i64 s.kind)).setCell ⟨b,3,none⟩ (.string s.name)).setCell ⟨b,4,none⟩ (.int .i64 s.an)).setCell ⟨b,5,none⟩ (.int .i64 s.ad)).setCell ⟨b,6,none⟩ (.int .i64 s.sn)).setCell ⟨b,7,none⟩ (.int .i64 s.sd)).setCell ⟨b,8,none⟩ (.bool s.smooth)):=((((((h.setCell hn _).setCell hn _).setCell hn _).setCell hn _).setCell hn _).setCell hn _).setCell hn _
theorem CV.set_b {w:World} {b:Nat} {c:Clip} (h:CV w b c) (s:Src):CV (((((((w.setCell ⟨b,9,none⟩ (.int .i64 s.kind)).setCell ⟨b,10,none⟩ (.string s.name)).setCell ⟨b,11,none⟩ (.int .i64 s.an)).setCell ⟨b,12,none⟩ (.int .i64 s.ad)).setCell ⟨b,13,none⟩ (.int .i64 s.sn)).setCell ⟨b,14,none⟩ (.int .i64 s.sd)).setCell ⟨b,15,none⟩ (.bool s.smooth)) b { c with b:=s }:=by
 obtain⟨h0,f⟩:=h
 obtain⟨x0,x1,x2,x3,x4,x5,x6,x7,x8,x9,x10,x11,x12,x13,x14,x15,x16,x17,x18,x19,x20,x21⟩:=h0.at0
 exact⟨by constructor<;>simp[go_sem,x0,x1,x2,x3,x4,x5,x6,x7,x8,x9,x10,x11,x12,x13,x14,x15,x16,x17,x18,x19,x20,x21],fun o=>by simp only[World.frozen?_setCell];exact f o⟩
theorem CV.other_b {w:World} {b2:Nat} {c:Clip} (h:CV w b2 c) {b:Nat} (hne:b2≠b) (s:Src):CV (((((((w.setCell ⟨b,9,none⟩ (.int .i64 s.kind)).setCell ⟨b,10,none⟩ (.string s.name)).setCell ⟨b,11,none⟩ (.int .i64 s.an)).setCell ⟨b,12,none⟩ (.int .i64 s.ad)).setCell ⟨b,13,none⟩ (.int .i64 s.sn)).setCell ⟨b,14,none⟩ (.int .i64 s.sd)).setCell ⟨b,15,none⟩ (.bool s.smooth)) b2 c:=(((((((h.other hne 9 _).other hne 10 _).other hne 11 _).other hne 12 _).other hne 13 _).other hne 14 _).other hne 15 _)
theorem below_set_b {n:Nat} {w0 w:World} (h:Below n w0 w) {b:Nat} (hn:n≤b) (s:Src):Below n w0 (((((((w.setCell ⟨b,9,none⟩ (.int .i64 s.kind)).setCell ⟨b,10,none⟩ (.string s.name)).setCell ⟨b,11,none⟩ (.int .i64 s.an)).setCell ⟨b,12,none⟩ (.int .i64 s.ad)).setCell ⟨b,13,none⟩ (.int .i64 s.sn)).setCell ⟨b,14,none⟩ (.int .i64 s.sd)).setCell ⟨b,15,none⟩ (.bool s.smooth)):=((((((h.setCell hn _).setCell hn _).setCell hn _).setCell hn _).setCell hn _).setCell hn _).setCell hn _
structure CT (w0 w:World) (g1 g2 g3:Nat) (d c e:Clip):Prop where
 x:CV w g1 d
 y:CV w g2 c
 v:CV w g3 e
 u:Below w0.heap.size w0 w
theorem CT.below {w0 w w':World} {g1 g2 g3:Nat} {d c e:Clip} (h:CT w0 w g1 g2 g3 d c e) (hb:Below w.heap.size w w'):CT w0 w' g1 g2 g3 d c e:=
 ⟨h.x.below hb,h.y.below hb,h.v.below hb,h.u.trans (hb.mono h.u.size)⟩
theorem CT.set_a {w0 w:World} {g1 g2 g3:Nat} {d c e:Clip} (h:CT w0 w g1 g2 g3 d c e) (h1:g1≠g3) (h2:g2≠g3) (hn:w0.heap.size≤g3) (s:Src):CT w0 (((((((w.setCell ⟨g3,2,none⟩ (.int .i64 s.kind)).setCell ⟨g3,3,none⟩ (.string s.name)).setCell ⟨g3,4,none⟩ (.int .i64 s.an)).setCell ⟨g3,5,none⟩ (.int .i64 s.ad)).setCell ⟨g3,6,none⟩ (.int .i64 s.sn)).setCell ⟨g3,7,none⟩ (.int .i64 s.sd)).setCell ⟨g3,8,none⟩ (.bool s.smooth)) g1 g2 g3 d c { e with a:=s }:=
 ⟨h.x.other_a h1 s,h.y.other_a h2 s,h.v.set_a s,below_set_a h.u hn s⟩
theorem CT.set_b {w0 w:World} {g1 g2 g3:Nat} {d c e:Clip} (h:CT w0 w g1 g2 g3 d c e) (h1:g1≠g3) (h2:g2≠g3) (hn:w0.heap.size≤g3) (s:Src):CT w0 (((((((w.setCell ⟨g3,9,none⟩ (.int .i64 s.kind)).setCell ⟨g3,10,none⟩ (.string s.name)).setCell ⟨g3,11,none⟩ (.int .i64 s.an)).setCell ⟨g3,12,none⟩ (.int .i64 s.ad)).setCell ⟨g3,13,none⟩ (.int .i64 s.sn)).setCell ⟨g3,14,none⟩ (.int .i64 s.sd)).setCell ⟨g3,15,none⟩ (.bool s.smooth)) g1 g2 g3 d c { e with b:=s }:=
 ⟨h.x.other_b h1 s,h.y.other_b h2 s,h.v.set_b s,below_set_b h.u hn s⟩
theorem CT.set_len {w0 w:World} {g1 g2 g3:Nat} {d c e:Clip} (h:CT w0 w g1 g2 g3 d c e) (h1:g1≠g3) (h2:g2≠g3) (hn:w0.heap.size≤g3) (v:Int):CT w0 (w.setCell ⟨g3,0,none⟩ (.int .i64 v)) g1 g2 g3 d c { e with len:=v }:=
 ⟨h.x.other h1 _ _,h.y.other h2 _ _,h.v.set_len v,h.u.setCell hn _⟩
theorem CT.set_off {w0 w:World} {g1 g2 g3:Nat} {d c e:Clip} (h:CT w0 w g1 g2 g3 d c e) (h1:g1≠g3) (h2:g2≠g3) (hn:w0.heap.size≤g3) (v:Int):CT w0 (w.setCell ⟨g3,16,none⟩ (.int .i64 v)) g1 g2 g3 d c { e with off:=v }:=
 ⟨h.x.other h1 _ _,h.y.other h2 _ _,h.v.set_off v,h.u.setCell hn _⟩
theorem wpl_alloc {ops:Array Oper} {rest:List Oper} {op:Oper} {a:Act} {w:World} {Q:Exit→Act→World→Prop} (hgd:op.guard=none) (ho:op.op=.alloc 48)
  (h:∀ w',CV w' w.heap.size (gap 0)→Below w.heap.size w w'→w'.heap.size=w.heap.size+1→wpList Tryz.prog ops Q rest (a.put op.dst (.pointer (some ⟨w.heap.size,0,none⟩))) w'):wpList Tryz.prog ops Q (op::rest) a w:=by
 refine Great.wpList_runTo hgd _ rfl (.pointer (some ⟨w.heap.size,0,none⟩)) (w.alloc (.cells (clipC (gap 0)).toArray 48)) ?_ (h _ (CV.box w (gap 0) 48) (below_box _ _) (by simp))
 unfold execOp
 rw[ho]
 simp[go_sem,clipC,gap,black]
 rfl
theorem cont_gaps (d c:Clip) (w:World) (k1:c.kind=0) (k2:d.kind=0):Calls Tryz.prog 112 #[clipV d,clipV c] w fun e w'=>e=.returned (.bool true)∧Below w.heap.size w w':=by
 unfold clipV
 obtain⟨C,hC⟩:=Xq ((clipC c).toArray)
 obtain⟨D,hD⟩:=Xq ((clipC d).toArray)
 rw[← hC,← hD]
 have HC:=Hd hC
 have HD:=Hd hD
 clear hC hD
 go_enter Tryz.func112,Tryz.ntmps112
 go_upto_region 1 with fail
 obtain⟨w1,hw1⟩:=Xq ((w.alloc (.cells D 48)).alloc (.cells C 48))
 rw[← hw1]
 rw[HC.out,HD.out]at hw1
 obtain⟨hx,hy,hb1⟩:=box2_facts hw1
 obtain⟨g1,hg1⟩:=Xq (w.heap.size)
 obtain⟨g2,hg2⟩:=Xq (w.heap.size+1)
 rw[← hg2]at hy ⊢
 rw[← hg1]at hx ⊢
 have x1:=hx.k1
 have y1:=hy.k1
 rw[k2]at x1
 rw[k1]at y1
 simp only[Nat.zero_add]at x1 y1
 clear hw1 hg1 hg2 hx hy
 go_wp2_with fail
 go_ret
 exact⟨rfl,hb1⟩
theorem cont_core (d c:Clip) (w:World) (hd:OkC d) (hc:OkC c) (hk:¬(c.kind=0∧d.kind=0)) :
  Calls Tryz.prog 112 #[clipV d,clipV c] w fun e w'=>e=.returned (.bool (decide (cont d c)))∧Below w.heap.size w w':=by
 have HQ:=Hd (show(decide (cont d c))=decide (d=withLen (shift c c.len) d.len) from decide_eq_decide.2 (cont_law hd.g hc.g))
 have hl:=hc.g.l
 have HMA:=fun w=>moved_any c.a c.len w hc.a (by have:=hc.l;omega)
 have HMB:=fun w=>moved_any c.b c.len w hc.b (by have:=hc.l;omega)
 obtain⟨ma,hma⟩:=Xq (moved c.a c.len)
 obtain⟨mb,hmb⟩:=Xq (moved c.b c.len)
 rw[← hma]at HMA
 rw[← hmb]at HMB
 simp only[srcV,srcC]at HMA HMB
 replace HMA:=Hd HMA
 replace HMB:=Hd HMB
 have HSH:=Hd (fun w=>share_any c.kind w)
 have HEQ:=Hd (fun w=>equal_any d (withLen (shift c c.len) d.len) w hd.ch hc.ch)
 have HSF:=Hd (show withLen (shift c c.len) d.len={ c with len:=d.len,a:=ma,b:=mb,off:=if shares c.kind=true then c.off+c.len else c.off } by rw[hma,hmb];rfl)
 clear hma hmb
 have hof:=hc.o
 have hll:=hc.l
 unfold clipV at HEQ ⊢
 obtain⟨C,hC⟩:=Xq ((clipC c).toArray)
 obtain⟨D,hD⟩:=Xq ((clipC d).toArray)
 rw[← hC,← hD]
 have HC:=Hd hC
 have HD:=Hd hD
 clear hC hD
 go_enter Tryz.func112,Tryz.ntmps112
 go_upto_region 1 with fail
 obtain⟨w1,hw1⟩:=Xq ((w.alloc (.cells D 48)).alloc (.cells C 48))
 rw[← hw1]
 rw[HC.out,HD.out]at hw1
 clear HD
 obtain⟨hx,hy,hb1⟩:CV w1 w.heap.size d∧CV w1 (w.heap.size+1) c∧Below w.heap.size w w1:=by
  subst hw1
  refine⟨(CV.box w d 48).below (below_box _ _),?_,by go_grown⟩
  have h2:=CV.box (w.alloc (.cells (clipC d).toArray 48)) c 48
  rw[show(w.alloc (.cells (clipC d).toArray 48)).heap.size=w.heap.size+1 by simp]at h2
  exact h2
 obtain⟨g1,hg1⟩:=Xq (w.heap.size)
 obtain⟨g2,hg2⟩:=Xq (w.heap.size+1)
 have hsz:w1.heap.size=g2+1:=by rw[hw1,hg2];simp
 rw[← hg2]at hy ⊢
 rw[← hg1]at hx ⊢
 have hne:g1≠g2:=by omega
 have hgg:g1+1=g2:=by omega
 have hn1:w.heap.size≤g1:=by omega
 have hn2:w.heap.size≤g2:=by omega
 clear hw1 hg1 hg2
 have x1:=hx.c.k1
 have y1:=hy.c.k1
 simp only[Nat.zero_add]at x1 y1
 go_cut [13] from 6 (fun v wx=>v=.bool false∧wx=w1)
 case first=>
  go_wp2_with fail
  all_goals go_meet
  all_goals first
   |exact⟨rfl,rfl⟩
   |(refine⟨?_,rfl⟩;simp_all)
 obtain⟨e13,rfl⟩:=hcut
 subst e13
 go_upto_region 3 with fail
 clear x1 y1
 rw[HC.out]
 apply wp_region_lit
 refine wpl_load hy.c rfl rfl rfl ?_
 refine wpl_alloc rfl rfl (fun w2 hg hb hs2=>?_)
 rw[hsz]at hg hs2 ⊢
 replace hx:=hx.below hb
 replace hy:=hy.below hb
 replace hb1:=hb1.trans (hb.mono hb1.size)
 have h13:g1≠g2+1:=by omega
 have h23:g2≠g2+1:=by omega
 have hn3:w.heap.size≤g2+1:=by omega
 obtain⟨g3,hg3⟩:=Xq (g2+1)
 rw[← hg3]at hg h13 h23 hn3 ⊢
 clear hb hs2 hsz hg3
 refine wpl_store c hg rfl rfl rfl rfl ?_
 intro w3 hv ho hb
 replace hx:=ho _ _ h13 hx
 replace hy:=ho _ _ h23 hy
 replace hb1:=hb _ _ hn3 hb1
 have T:=Hd (CT.mk hx hy hv hb1)
 clear hb ho hg hx hy hv hb1
 simp only[Act.put,sA1,sB1,sC1]
 go_upto_region 4 with fail
 go_cut [] from 14 (fun wx=>CT w wx g1 g2 g3 d c { c with a:=ma,b:=mb })
 case first J K' h1 h2=>
  refine Plan.wp_region_plan (fun w'=>CV w' g2 c) (([0,1,2,3,5,6,7,8].map (·,true))++(([4].map (·,false))++(([10].map (·,true))++(([9,11].map (·,false))++(([12].map (·,true))++([13].map (·,false))))))) (by kernel_rfl) (by kernel_rfl) (by kernel_rfl) (T.out.y.below (Below.refl _ _).drew) ?_
  refine' Plan.plan_seg _ [0,1,2,3,5,6,7,8] (([4].map (·,false))++(([10].map (·,true))++(([9,11].map (·,false))++(([12].map (·,true))++([13].map (·,false)))))) (by kernel_rfl) (by kernel_rfl) rfl (by exact T.out.y.below (Below.refl _ _).drew) (fun wx hS=>?_) ?_
  rotate_left
  ·obtain⟨x0,x1,x2,x3,x4,x5,x6,x7,x8,x9,x10,x11,x12,x13,x14,x15,x16,x17,x18,x19,x20,x21⟩:=hS.c.at0
   clear hS
   go_light
   iterate 8 (apply Plan.seg_pick;rfl;intro K hK;go_wp)
   exact Plan.seg_nil
  obtain⟨w4,hw4⟩:=Xq (w3.drew)
  rw[← hw4]
  have hb:Below w3.heap.size w3 w4:=by rw[hw4];exact(Below.refl _ _).drew
  replace T:=Hd (T.out.below hb)
  clear hb hw4
  refine Plan.plan_of_effect rfl (fun K hK=>?_)
  go_wp2_with fail
  refine(HMA.out w4).mono ?_
  rintro e w5 ⟨rfl,hb⟩
  replace T:=Hd (T.out.below hb)
  clear hb
  go_wp2_with fail
  refine⟨T.out.y,?_⟩
  refine' Plan.plan_seg _ [10] (([9,11].map (·,false))++(([12].map (·,true))++([13].map (·,false)))) (by kernel_rfl) (by kernel_rfl) rfl (by exact T.out.y) (fun wx hS=>?_) ?_
  rotate_left
  ·clear hS
   go_light
   iterate 1 (apply Plan.seg_pick;rfl;intro K hK;go_wp)
   exact Plan.seg_nil
  refine Plan.plan_of_effect rfl (fun K hK=>?_)
  go_wp2_with fail
  refine(HMB.out w5).mono ?_
  rintro e w6 ⟨rfl,hb⟩
  replace T:=Hd (T.out.below hb)
  clear hb
  go_wp2_with fail
  refine⟨T.out.y,?_⟩
  refine Plan.plan_of_effect rfl (fun K hK=>?_)
  obtain⟨_,_,x2,x3,x4,x5,x6,x7,x8,_⟩:=T.out.v.c.at0
  have xf:=T.out.v.f
  go_wp2_with fail
  have T2:=Hd (T.out.set_a h13 h23 hn3 ma)
  clear x2 x3 x4 x5 x6 x7 x8 xf T
  obtain⟨w7,hw7⟩:=Xq ((((((((w6.setCell ⟨g3,2,none⟩ (.int .i64 ma.kind)).setCell ⟨g3,3,none⟩ (.string ma.name)).setCell ⟨g3,4,none⟩ (.int .i64 ma.an)).setCell ⟨g3,5,none⟩ (.int .i64 ma.ad)).setCell ⟨g3,6,none⟩ (.int .i64 ma.sn)).setCell ⟨g3,7,none⟩ (.int .i64 ma.sd)).setCell ⟨g3,8,none⟩ (.bool ma.smooth)))
  rw[← hw7]at T2 ⊢
  clear hw7
  refine⟨T2.out.y,?_⟩
  refine' Plan.plan_seg _ [12] ([13].map (·,false)) (by kernel_rfl) (by kernel_rfl) rfl (by exact T2.out.y) (fun wx hS=>?_) ?_
  rotate_left
  ·clear hS
   go_light
   iterate 1 (apply Plan.seg_pick;rfl;intro K hK;go_wp)
   exact Plan.seg_nil
  refine Plan.plan_of_effect rfl (fun K hK=>?_)
  obtain⟨_,_,_,_,_,_,_,_,_,x9,x10,x11,x12,x13,x14,x15,_⟩:=T2.out.v.c.at0
  have xf:=T2.out.v.f
  go_wp2_with fail
  have T:=Hd (T2.out.set_b h13 h23 hn3 mb)
  clear x9 x10 x11 x12 x13 x14 x15 xf T2
  obtain⟨w8,hw8⟩:=Xq ((((((((w7.setCell ⟨g3,9,none⟩ (.int .i64 mb.kind)).setCell ⟨g3,10,none⟩ (.string mb.name)).setCell ⟨g3,11,none⟩ (.int .i64 mb.an)).setCell ⟨g3,12,none⟩ (.int .i64 mb.ad)).setCell ⟨g3,13,none⟩ (.int .i64 mb.sn)).setCell ⟨g3,14,none⟩ (.int .i64 mb.sd)).setCell ⟨g3,15,none⟩ (.bool mb.smooth)))
  rw[← hw8]at T ⊢
  clear hw8
  refine⟨T.out.y,?_⟩
  refine Plan.plan_done ?_
  refine h2 _ _ (Met.intro (h1 _ _ ?_))
  (repeat apply Exists.intro)
  exact⟨T.out,rfl⟩
 clear T
 have T:=Hd hcut
 clear hcut
 have y1:=T.out.y.c.k1
 simp only[Nat.zero_add]at y1
 go_upto_if 29 with(go_at_call 110;refine(HSH.out _).mono ?_;rintro e w' ⟨rfl,rfl⟩)
 clear y1
 obtain⟨of,hof2⟩:=Xq ((if shares c.kind=true then c.off+c.len else c.off))
 go_cut [] from 30 (fun wx=>CT w wx g1 g2 g3 d c { c with len:=c.len,a:=ma,b:=mb,off:=of })
 case first=>
  have y0:=T.out.y.c.at0.1
  have x16:=T.out.v.c.k16
  simp only[Nat.zero_add]at x16
  have xf:=T.out.v.f
  go_wp2_with fail
  all_goals go_meet
  case rel=>
   rename_i hsh
   simp only[hsh,if_true]at hof2
   rw[hof2]
   exact T.out.set_off h13 h23 hn3 _
  case rel=>
   rename_i hsh
   simp only[hsh,Bool.false_eq_true,if_false]at hof2
   rw[hof2]
   exact T.out
 case rest=>
  clear T
  have T:=Hd hcut
  clear hcut
  rw[HSF.out,← hof2]at HEQ HQ
  have z0:=T.out.x.c.at0.1
  have x0:=T.out.v.c.at0.1
  have xf:=T.out.v.f
  go_upto_region 8 with fail
  have T2:=Hd (T.out.set_len h13 h23 hn3 d.len)
  clear z0 x0 xf T
  apply wp_region_lit
  obtain⟨e,he⟩:∃ e:Clip,e={ c with len:=d.len,a:=ma,b:=mb,off:=of }:=⟨_,rfl⟩
  have hv:CA (wc.setCell ⟨g3,0,none⟩ (.int .i64 d.len)) g3 0 e:=by rw[he];exact T2.out.v.c
  rw[← he]at HEQ HQ
  have hu:=T2.out.u
  have hx:=T2.out.x.c
  clear T2 he
  refine wpl_load hx rfl rfl rfl ?_
  refine wpl_load hv rfl rfl rfl ?_
  obtain⟨E,hE⟩:=Xq ((clipC e).toArray)
  rw[← hE]at HEQ ⊢
  clear hE hv hx
  obtain⟨D2,hD2⟩:=Xq ((clipC d).toArray)
  rw[← hD2]at HEQ ⊢
  clear hD2
  simp only[Act.put,sA1,sB1,sC1]
  go_wp2_with fail
  refine(HEQ.out _).mono ?_
  rintro e w' ⟨rfl,hb⟩
  go_wp2_with fail
  go_ret
  rw[HQ.out]
  exact⟨rfl,hu.trans (hb.mono hu.size)⟩
theorem cont_any (d c:Clip) (w:World) (hd:OkC d) (hc:OkC c) :
  Calls Tryz.prog 112 #[clipV d,clipV c] w fun e w'=>e=.returned (.bool (decide (cont d c)))∧Below w.heap.size w w':=by
 by_cases hk:c.kind=0∧d.kind=0
 ·have e:=decide_eq_true (cont_gap hd.g hc.g hk.1 hk.2)
  rw[e]
  exact cont_gaps d c w hk.1 hk.2
 exact cont_core d c w hd hc hk
theorem setRow_other (w:World) (g b:Nat) (cs:Array Value) (hn:b≠g):(w.setRow g cs).heap[b]?=w.heap[b]?:=by
 simp[World.setRow,Array.getElem?_modify,Ne.symm hn]
def RowX (w:World) (B:Nat) (E:TypeId) (s:Nat) (v:Value) (k:Nat) (xs:List Value):Prop:=
 (v = .slice none 0 0 ∧ k = 0 ∧ xs = []) ∨ ∃ g cap cur, v = .slice (some ⟨g, 0, none⟩) k cap ∧ B ≤ g ∧ w.heap[g]? = some (.cells cur E (0, 0)) ∧ k ≤ cap ∧ cap ≤ maxLen ∧ cur.size = cap * s ∧
  cur.toList.take (k*s)=xs∧xs.length=k*s
theorem RowX.below {w w':World} {B k s:Nat} {E:TypeId} {v:Value} {xs:List Value} (h:RowX w B E s v k xs) (hb:Below w.heap.size w w'):RowX w' B E s v k xs:=by
 rcases h with h |⟨g,cap,cur,h1,h2,h3,h⟩
 ·exact Or.inl h
 exact Or.inr ⟨g,cap,cur,h1,h2,(hb.block g (Array.getElem?_eq_some_iff.1 h3).1).trans h3,h⟩
theorem RowX.cell {w:World} {B k s:Nat} {E:TypeId} {g cap:Nat} {xs:List Value} (h:RowX w B E s (.slice (some ⟨g,0,none⟩) k cap) k xs) {j:Nat} {u:Value} (hj:xs[j]?=some u):w.cell? ⟨g,j,none⟩=some u:=by
 rcases h with⟨h,_⟩ |⟨g',cap',cur,h1,h2,h3,h4,h5,h6,h8,h9⟩
 ·simp at h
 simp only[Value.slice.injEq,Option.some.injEq,Addr.mk.injEq,and_true,true_and]at h1
 obtain⟨rfl,rfl⟩:=h1
 have hl:=(List.getElem?_eq_some_iff.1 hj).1
 rw[← h8,List.getElem?_take]at hj
 split at hj
 ·simp only[World.cell?,h3]
  simpa using hj
 cases hj
theorem append_x (w:World) (B:Nat) (t E:TypeId) (s bytes:Nat) (z:Value) (ht:Tryz.prog.underlying t=some (.slice E)) (hinfo:(Tryz.prog.info? E).map (fun i=>(i.zero,i.size,i.bytes))=some (some z,s,bytes))
  (hz:∀ n,(Builtin.zeroCells z.cells n).size=n*s) (v:Value) (k:Nat) (xs:List Value) (h:RowX w B E s v k xs) (hB:B≤w.heap.size) (a:Addr) (m c:Nat) (news:List Value) (hl:news.length=m*s)
  (hnews:∀ j u,news[j]?=some u→w.cell? (a.add j)=some u) (h1:∀ u∈news,u.oneCell'=true) (hm:0<m) (h63:k+m≤maxLen) (hfit:∀ cap,k≤cap→cap<k+m→Builtin.nextslicecap (k+m) cap*bytes≤281474976710656) :
  ∃ v' w',(Builtin.append_ #[t,t] t #[v,.slice (some a) m c]).run Tryz.prog w=.ok v' w'∧RowX w' B E s v' (k+m) (xs++news)∧Below B w w'∧v'≠.slice none 0 0 ∧
   (∀ b,b<w.heap.size→(∀ g cap,v=.slice (some ⟨g,0,none⟩) k cap→b≠g)→w'.heap[b]?=w.heap[b]?)∧w.heap.size≤w'.heap.size:=by
 obtain⟨i0,hi,hz0,hz1,hz2⟩:=info_parts hinfo
 have hl':news.length=m*i0.size:=by rw[hz1];exact hl
 have hs63:k+m≤9223372036854775807:=by unfold maxLen at h63;omega
 rcases h with⟨rfl,rfl,rfl⟩ |⟨g,cap,cur,rfl,h2,h3,h4,h5,h6,h8,h9⟩
 ·have h48:=hfit 0 (Nat.le_refl _) (by omega)
  rw[Nat.zero_add,nextslicecap_zero hm]at h48
  have hr:=run_append_nil (P:=Tryz.prog) w t t E i0 z ht hi hz0 a m c news hl' hnews hm (by omega) (by rw[hz2];exact h48)
  have hcap:m≤grownCap w m 0 E:=grownCap_ge w m 0 E
  have hb:Below w.heap.size w (w.drew.alloc (.cells (news.toArray++Builtin.zeroCells z.cells (grownCap w m 0 E-m)) E)):=((Below.refl _ w).drew).alloc (by simp) _
  have hh:=(MapKept.heap_alloc w.drew (.cells (news.toArray++Builtin.zeroCells z.cells (grownCap w m 0 E-m)) E)).1
  refine⟨_,_,hr,Or.inr ⟨w.heap.size,grownCap w m 0 E,_,by rw[Nat.zero_add],hB,hh,by omega,grownCap_le_maxLen w m 0 E (by omega),?_,?_,?_⟩,hb.mono hB,by simp,fun b hb' _=>hb.block b hb',hb.size⟩
  ·rw[Array.size_append,hz _]
   have e1:news.toArray.size=m*s:=by simpa using hl
   rw[e1,← Nat.add_mul,Nat.add_sub_cancel' hcap]
  ·rw[Array.toList_append]
   simp only[Nat.zero_add,List.nil_append]
   rw[List.take_append_of_le_length (by simp[hl]),List.take_of_length_le (by simp[hl])]
  simpa using hl
 have hcs:cur.toList.length=cap*s:=by simpa using h6
 by_cases hroom:k+m≤cap
 ·have hle:(k+m)*s≤cap*s:=Nat.mul_le_mul_right _ hroom
  have hfit2:k*i0.size+news.length≤cur.size:=by rw[hz1,hl,h6,← Nat.add_mul];exact hle
  have hr:=run_append_room (P:=Tryz.prog) w t t E i0 ht hi g k cap cur h3 a m c news hl' hnews h1 hroom hfit2
  rw[hz1]at hr hfit2
  have hh:=setRow_heap w g cur (cur.toList.take (k*s)++news++cur.toList.drop (k*s+news.length)).toArray E (0,0) h3
  have hsame:∀ b,b<w.heap.size→b≠g→(w.setRow g (cur.toList.take (k*s)++news++cur.toList.drop (k*s+news.length)).toArray).heap[b]?=w.heap[b]?:=fun b _ hn=>setRow_other w g b _ hn
  refine⟨_,_,hr,Or.inr ⟨g,cap,_,rfl,h2,hh,hroom,h5,?_,?_,?_⟩,⟨rfl,rfl,rfl,by simp[World.setRow],fun j hj=>setRow_other w g j _ (by omega)⟩,by simp,fun b hb' hne=>hsame b hb' (hne g cap rfl),by simp[World.setRow]⟩
  ·simp only[List.size_toArray,List.length_append,List.length_take,List.length_drop,hcs]
   rw[hl]at hfit2 ⊢
   omega
  ·rw[List.take_append_of_le_length (by rw[List.length_append,List.length_take,hcs,hl,Nat.add_mul];omega),List.take_of_length_le (by rw[List.length_append,List.length_take,hcs,hl,Nat.add_mul];omega),h8]
  rw[List.length_append,h9,hl,Nat.add_mul]
 have holds:∀ j u,xs[j]?=some u→w.cell? ((⟨g,0,none⟩:Addr).add j)=some u:=fun j u hu=>by
  have hadd:(⟨g,0,none⟩:Addr).add j=⟨g,j,none⟩:=by unfold Addr.add;split<;>simp_all
  rw[hadd]
  rw[← h8,List.getElem?_take]at hu
  split at hu
  ·simp only[World.cell?,h3]
   simpa using hu
  cases hu
 have h48:=hfit cap h4 (by omega)
 have hr:=run_append_grow (P:=Tryz.prog) w t t E i0 z ht hi hz0 ⟨g,0,none⟩ k cap xs (by rw[hz1];exact h9) holds a m c news hl' hnews (by omega) (by omega) (by rw[hz2];exact h48)
 have hcap:k+m≤grownCap w (k+m) cap E:=grownCap_ge w _ cap E
 have hb:Below w.heap.size w (w.drew.alloc (.cells (xs.toArray++news.toArray++Builtin.zeroCells z.cells (grownCap w (k+m) cap E-(k+m))) E)):=((Below.refl _ w).drew).alloc (by simp) _
 have hh:=(MapKept.heap_alloc w.drew (.cells (xs.toArray++news.toArray++Builtin.zeroCells z.cells (grownCap w (k+m) cap E-(k+m))) E)).1
 refine⟨_,_,hr,Or.inr ⟨w.heap.size,grownCap w (k+m) cap E,_,rfl,hB,hh,hcap,grownCap_le_maxLen w _ cap E h63,?_,?_,?_⟩,hb.mono hB,by simp,fun b hb' _=>hb.block b hb',hb.size⟩
 ·rw[Array.size_append,Array.size_append,hz _]
  have e1:news.toArray.size=m*s:=by simpa using hl
  have e2:xs.toArray.size=k*s:=by simpa using h9
  rw[e1,e2,← Nat.add_mul,← Nat.add_mul,Nat.add_sub_cancel' hcap]
 ·rw[Array.toList_append,Array.toList_append]
  rw[List.take_append_of_le_length (by simp[hl,h9,Nat.add_mul]),List.take_of_length_le (by simp[hl,h9,Nat.add_mul])]
 rw[List.length_append,h9,hl,Nat.add_mul]
def cells (l:List Clip):List Value:=l.flatMap clipC
theorem cells_length (l:List Clip):(cells l).length=l.length*22:=by
 induction l with
 |nil=>rfl
 |cons c l ih=>
  show(clipC c++cells l).length=_
  rw[List.length_append,ih,clipC_length,List.length_cons]
  omega
theorem cells_get {l:List Clip} {i:Nat} {c:Clip} (h:l[i]?=some c) {j:Nat} (hj:j<22):(cells l)[i*22+j]?=(clipC c)[j]?:=by
 induction l generalizing i with
 |nil=>simp at h
 | cons d l ih =>
  show(clipC d++cells l)[i*22+j]?=_
  cases i with
  |zero=>
   simp only[List.getElem?_cons_zero,Option.some.injEq]at h
   subst h
   rw[Nat.zero_mul,Nat.zero_add,List.getElem?_append_left (by rw[clipC_length];exact hj)]
  |succ i=>
   simp only[List.getElem?_cons_succ]at h
   rw[List.getElem?_append_right (by rw[clipC_length];omega),clipC_length,show(i+1)*22+j-22=i*22+j by omega]
   exact ih h
theorem cells_append (l m:List Clip):cells (l++m)=cells l++cells m:=by simp[cells]
def Tk (w:World) (v:Value) (l:List Clip):Prop:=
 ∃ ao cap,v=.slice ao l.length cap∧l.length≤cap∧cap≤maxLen∧∀ i c,l[i]?=some c→∃ b o,ao=some ⟨b,o,none⟩∧CA w b (o+i*22) c
theorem Tk.below {w w':World} {v:Value} {l:List Clip} (h:Tk w v l) (hb:Below w.heap.size w w'):Tk w' v l:=by
 obtain⟨ao,cap,e,h1,h2,h3⟩:=h
 refine⟨ao,cap,e,h1,h2,fun i c hi=>?_⟩
 obtain⟨b,o,e2,hc⟩:=h3 i c hi
 exact⟨b,o,e2,hc.below hb⟩
theorem Tk.nil (w:World):Tk w (.slice none 0 0) []:=⟨none,0,rfl,Nat.le_refl _,Nat.zero_le _,fun i c h=>by simp at h⟩
def OT (w:World) (B:Nat) (v:Value) (l:List Clip):Prop:=RowX w B 48 22 v l.length (cells l)
theorem OT.nil (w:World) (B:Nat):OT w B (.slice none 0 0) []:=Or.inl ⟨rfl,rfl,rfl⟩
theorem OT.below {w w':World} {B:Nat} {v:Value} {l:List Clip} (h:OT w B v l) (hb:Below w.heap.size w w'):OT w' B v l:=RowX.below h hb
theorem OT.tk {w:World} {B:Nat} {v:Value} {l:List Clip} (h:OT w B v l):Tk w v l:=by
 have h':=h
 rcases h with⟨rfl,hl,_⟩ |⟨g,cap,cur,rfl,hB,hg,hk,hc,_⟩
 ·have:l=[]:=List.length_eq_zero_iff.1 hl
  subst this
  exact Tk.nil w
 refine⟨_,_,rfl,hk,hc,fun i c hi=>⟨g,0,rfl,?_⟩⟩
 refine CA.of fun j u hu=>?_
 have hj:j<22:=(List.getElem?_eq_some_iff.1 hu).1
 have:=RowX.cell h' ((cells_get hi hj).trans hu)
 rw[Nat.zero_add]
 exact this
def zClip:Value:=.agg (clipC (gap 0)).toArray
theorem info53:(Tryz.prog.info? 48).map (fun i=>(i.zero,i.size,i.bytes))=some (some zClip,22,216):=by kernel_rfl
theorem zeros53 (n:Nat):(Builtin.zeroCells zClip.cells n).size=n*22:=by simp[Builtin.zeroCells,zClip,Value.cells,clipC_length]
theorem clip_one (c:Clip):∀ u∈clipC c,u.oneCell'=true:=fun u hu=>by
 have h:=clip_oneCell c
 rw[Array.all_eq_true_iff_forall_mem]at h
 exact h u (by simpa using hu)
theorem wpList_app (w:World) {ops:Array Oper} {rest:List Oper} {op:Oper} {a:Act} {Q:Exit→Act→World→Prop} (hg:op.guard=none) (s x:Operand)
  (hop:op.op=.call { callee:=.builtin .append,args:=#[s,x],argTypes:=#[23,23] }) (hty:op.type=23) (B:Nat) (v:Value) (l:List Clip) (hs:a.eval s=v) (h:OT w B v l) (hB:B≤w.heap.size)
  (b m:Nat) (c:Clip) (hx:a.eval x=.slice (some ⟨b,0,none⟩) 1 m) (hc:CA w b 0 c) (hl:l.length≤1048576)
  (hK:∀ v' w',OT w' B v' (l++[c])→Below B w w'→(∀ b,b<w.heap.size→(∀ g cap,v=.slice (some ⟨g,0,none⟩) l.length cap→b≠g)→w'.heap[b]?=w.heap[b]?)→w.heap.size≤w'.heap.size→wpList Tryz.prog ops Q rest (a.put op.dst v') w'):wpList Tryz.prog ops Q (op::rest) a w:=by
 refine wpList_plain hg fun K hK'=>?_
 have hadd:∀ j,(⟨b,0,none⟩:Addr).add j=⟨b,0+j,none⟩:=fun j=>Addr.add_mid b 0 j
 obtain⟨v',w',hrun,r1,r2,r3,r4,r5⟩:=append_x w B 23 48 22 216 zClip Tryz.underlying23 info53 zeros53 v l.length (cells l) h hB ⟨b,0,none⟩ 1 m (clipC c) (by rw[clipC_length]) (fun j u hu=>by rw[hadd];exact hc.get j u hu) (clip_one c) (by omega) (by unfold maxLen;omega) (fun cap h1 h2=>growslice_fits h2 (by omega))
 unfold Oper.wp
 simp[execOp,hop,resolve,invoke,builtin,hs,hx,hty,hrun,Result.andThen]
 refine hK' _ _ (hK v' w' ?_ r2 r4 r5)
 show RowX w' B 48 22 v' (l++[c]).length (cells (l++[c]))
 rw[cells_append,List.length_append]
 simpa [cells] using r1
theorem cells_one (p:Clip):cells [p]=clipC p:=by simp[cells]
theorem OT.setLen {w:World} {B g cap k:Nat} {q:List Clip} {p:Clip} (h:OT w B (.slice (some ⟨g,0,none⟩) k cap) (q++[p])) (n:Int) :
  OT (w.setCell ⟨g,q.length*22,none⟩ (.int .i64 n)) B (.slice (some ⟨g,0,none⟩) k cap) (q++[withLen p n]):=by
 rcases h with⟨e,_⟩ |⟨g',cap',cur,e,hB,hg,hk,hc,hs,ht,hl⟩
 ·simp at e
 simp only[Value.slice.injEq,Option.some.injEq,Addr.mk.injEq,and_true,true_and]at e
 obtain⟨rfl,rfl,rfl⟩:=e
 have hh:(w.setCell ⟨g,q.length*22,none⟩ (.int .i64 n)).heap[g]?=some (.cells (cur.setIfInBounds (q.length*22) (.int .i64 n)) 48 (0,0)):=by
  simp[World.setCell,Array.getElem?_modify,hg]
 have hlen:(q++[withLen p n]).length=(q++[p]).length:=by simp
 refine Or.inr ⟨g,cap,_,by rw[hlen],hB,hh,by rw[hlen];exact hk,hc,by simpa using hs,?_,?_⟩
 ·rw[hlen,Array.toList_setIfInBounds,List.take_set,ht,cells_append,cells_append,cells_one,cells_one,List.set_append_right _ _ (by rw[cells_length];exact Nat.le_refl _),cells_length,Nat.sub_self]
  rfl
 rw[cells_length]
theorem OT.own {w:World} {B k cap g:Nat} {l:List Clip} (h:OT w B (.slice (some ⟨g,0,none⟩) k cap) l):B≤g∧g<w.heap.size∧k=l.length∧∀ i c,l[i]?=some c→CA w g (i*22) c:=by
 have h':=h
 rcases h with⟨e,_⟩ |⟨g',cap',cur,e,hB,hg,hk,hc,hs,ht,hl⟩
 ·simp at e
 simp only[Value.slice.injEq,Option.some.injEq,Addr.mk.injEq,and_true,true_and]at e
 obtain⟨rfl,rfl,rfl⟩:=e
 refine⟨hB,(Array.getElem?_eq_some_iff.1 hg).1,rfl,fun i c hi=>?_⟩
 refine CA.of fun j u hu=>?_
 have hj:j<22:=(List.getElem?_eq_some_iff.1 hu).1
 exact RowX.cell h' ((cells_get hi hj).trans hu)
theorem OT.frozen {w:World} {B k cap g:Nat} {l:List Clip} (h:OT w B (.slice (some ⟨g,0,none⟩) k cap) l) (o:Nat):w.frozen? ⟨g,o,none⟩=false:=by
 rcases h with⟨e,_⟩ |⟨g',cap',cur,e,hB,hg,_⟩
 ·simp at e
 simp only[Value.slice.injEq,Option.some.injEq,Addr.mk.injEq,and_true,true_and]at e
 obtain⟨rfl,rfl,rfl⟩:=e
 simp[World.frozen?,hg]
theorem OT.shape {w:World} {B:Nat} {v:Value} {l:List Clip} (h:OT w B v l):(v=.slice none 0 0∧l=[])∨∃ g cap,v=.slice (some ⟨g,0,none⟩) l.length cap:=by
 rcases h with⟨rfl,hl,_⟩ |⟨g,cap,cur,rfl,_⟩
 ·exact .inl ⟨rfl,List.length_eq_zero_iff.1 hl⟩
 exact .inr ⟨g,cap,rfl⟩
theorem OT.same {w w':World} {B k cap g:Nat} {l:List Clip} (h:OT w B (.slice (some ⟨g,0,none⟩) k cap) l) (hs:w'.heap[g]?=w.heap[g]?):OT w' B (.slice (some ⟨g,0,none⟩) k cap) l:=by
 rcases h with⟨e,_⟩ |⟨g',cap',cur,e,hB,hg,h⟩
 ·simp at e
 have e':=e
 simp only[Value.slice.injEq,Option.some.injEq,Addr.mk.injEq,and_true,true_and]at e
 obtain⟨rfl,rfl,rfl⟩:=e
 exact Or.inr ⟨g,cap,cur,rfl,hB,hs.trans hg,h⟩
theorem total_take (l:List Clip) (h:GoodL l) (k:Nat):Trk.total (l.take k)≤Trk.total l:=by
 have e:=total_append (l.take k) (l.drop k)
 rw[List.take_append_drop]at e
 have:=total_nonneg (l:=l.drop k) (fun x hx=>h x (List.mem_of_mem_drop hx))
 omega
theorem built_clip (c:Clip):Tryz.prog.builtSlice 48 1 [(0,.agg (clipC c).toArray)]=some (clipC c).toArray:=by kernel_rfl
theorem pack_any (v:Value) (l:List Clip) (w:World) (h:Tk w v l) (hO:∀ c∈l,OkC c) (hl:l.length≤1048576) (ht:Trk.total l≤4611686018427387904) :
  Calls Tryz.prog 70 #[v] w fun e w'=>∃ v',e=.returned v'∧OT w' w.heap.size v' (pk l)∧Below w.heap.size w w':=by
 obtain⟨ao,cap,rfl,hc1,hc2,hT⟩:=h
 have HT:=Hd (show Tk w (.slice ao l.length cap) l from⟨ao,cap,rfl,hc1,hc2,hT⟩)
 clear hT
 have hG:GoodL l:=fun c hc=>(hO c hc).g
 have HO:=Hd hO
 have HG:=Hd hG
 have HTT:=Hd ht
 have HLL:=Hd (And.intro hl (And.intro hc1 hc2))
 obtain⟨L,hL⟩:=Xq (l.length)
 rw[← hL]at hl hc1
 have HLe:=Hd hL
 rw[← hL]
 clear hO hG ht hL hc2
 go_enter Tryz.func70,Tryz.ntmps70
 go_wp2_with fail
 go_loopw [3,8] (fun v3 v8 wr=>∃ k:Nat,k≤L∧v8=.int .i64 (k:Int)∧OT wr w.heap.size v3 (pk (l.take k))∧Below w.heap.size w wr) (fun _ i _=>L-(intOf i).toNat)
 case atStart=>exact⟨0,Nat.zero_le _,rfl,by rw[List.take_zero];exact OT.nil _ _,Below.refl _ _⟩
 case round =>
  obtain⟨k,hk,rfl,ho,hb⟩:=hrel
  by_cases hlt:k<L
  ·have hlt':(k:Int)<(L:Int):=by omega
   have hkl:k<l.length:=by rw[← HLe.out];exact hlt
   obtain⟨c,hc⟩:∃ c,l[k]?=some c:=⟨_,List.getElem?_eq_getElem hkl⟩
   obtain⟨ao',cap',e,_,_,hT⟩:=HT.out.below hb
   simp only[Value.slice.injEq,true_and]at e
   obtain⟨rfl,rfl⟩:=e
   obtain⟨b,o,rfl,hA⟩:=hT k c hc
   clear hT
   have HA:=Hd hA
   have HOT:=Hd ho
   have HB:=Hd hb
   have HC:=Hd hc
   clear hA ho hb hc hkl
   go_upto_region 4 with fail
   apply wp_region_lit
   iterate 6 go_step
   refine wpl_load HA.out rfl rfl rfl ?_
   refine wpl_alloc rfl rfl (fun w2 hg hb2 hs2=>?_)
   obtain⟨g,hgg⟩:=Xq (wr.heap.size)
   rw[← hgg]at hg ⊢
   have hgn:w.heap.size≤g:=by rw[hgg];exact HB.out.size
   have hno:∀ g2 cp,(∃ x,OT wr w.heap.size (.slice (some ⟨g2,0,none⟩) x cp) (pk (l.take k)))→g2≠g:=fun g2 cp hx=>by
    obtain⟨x,hx⟩:=hx
    have:=hx.own.2.1
    omega
   have hno2:∀ g2 cp x,u3=.slice (some ⟨g2,0,none⟩) x cp→g2≠g:=fun g2 cp x e=>hno g2 cp ⟨x,by rw[← e];exact HOT.out⟩
   have HNO:=Hd hno2
   have HBX:=Hd (And.intro hb2 hgg)
   obtain⟨C,hC⟩:=Xq ((clipC c).toArray)
   rw[← hC]
   have HCC:=Hd hC
   clear hC hb2 hs2 hgg hno hno2
   simp only[Act.put,sA1,sB1,sC1]
   iterate 3 go_step
   refine wpl_store c hg rfl rfl rfl (by rw[← HCC.out];rfl) ?_
   intro w3 hv ho3 hb3
   simp only[Act.put,sA1,sB1,sC1]
   have hbw:Below wr.heap.size wr w3:=hb3 _ _ (Nat.le_of_eq HBX.out.2.symm) HBX.out.1
   replace HA:=Hd (HA.out.below hbw)
   replace HOT:=Hd (HOT.out.below hbw)
   have HT3:=Hd ((HT.out.below HB.out).below hbw)
   replace HB:=Hd (HB.out.trans (hbw.mono HB.out.size))
   have HV:=Hd hv
   clear hv ho3 hb3 hbw hg
   obtain⟨tv,htv⟩:∃ t:Bool,t=(match (pk (l.take k)).getLast? with |none=>false |some p=>decide (cont c p)):=⟨_,rfl⟩
   have HTV:=Hd htv
   clear htv
   go_upto_region 5 with fail
   go_cut [23] from 10 to 41 (fun v wx=>v=.bool tv∧CV wx g c∧OT wx w.heap.size u3 (pk (l.take k))∧Below w.heap.size w wx)
   case first J K' h1 h2=>
    by_cases hk0:0<k
    ·have hk0':(0:Int)<(k:Int):=by omega
     have hkl:k-1<l.length:=by rw[← HLe.out];omega
     obtain⟨d,hd⟩:∃ d,l[k-1]?=some d:=⟨_,List.getElem?_eq_getElem hkl⟩
     obtain⟨ao',cap',e,_,_,hT⟩:=HT3.out
     simp only[Value.slice.injEq,true_and]at e
     obtain⟨e1,rfl⟩:=e
     obtain⟨b',o',e2,hA2⟩:=hT (k-1) d hd
     rw[← e1]at e2
     simp only[Option.some.injEq,Addr.mk.injEq,and_true]at e2
     obtain⟨rfl,rfl⟩:=e2
     have HD:=Hd hA2
     have hk1:(k:Int)-1=((k-1:Nat):Int):=by omega
     have hkL:k-1<L:=by omega
     clear hT e1 hA2
     refine Plan.wp_region_plan (fun w'=>CV w' g c∧CA w' b (o+(k-1)*22) d) (([0,1,2,3,4,5,6,7,8].map (·,true))++(([9].map (·,false))++([10].map (·,true)))) (by kernel_rfl) (by kernel_rfl) (by kernel_rfl) ⟨HV.out.below (Below.refl _ _).drew,HD.out.below (Below.refl _ _).drew⟩ ?_
     refine' Plan.plan_seg _ [0,1,2,3,4,5,6,7,8] (([9].map (·,false))++([10].map (·,true))) (by kernel_rfl) (by kernel_rfl) rfl (by exact⟨HV.out.below (Below.refl _ _).drew,HD.out.below (Below.refl _ _).drew⟩) (fun wx hS=>?_) ?_
     rotate_left
     ·obtain⟨S1,S2⟩:=hS
      have HS1:=Hd S1
      have HS2:=Hd S2
      clear S1 S2
      go_light
      iterate 3 (apply Plan.seg_pick;rfl;intro K hK;go_wp)
      (apply Plan.seg_pick;rfl;intro K hK)
      go_guarded
      refine wp_load_mid 48 _ rfl g 0 rfl (clipC c) _ HS1.out.c.range Tryz.underlying48 rfl (by kernel_rfl) ?_
      rw[← HCC.out]
      go_wp
      iterate 4 (apply Plan.seg_pick;rfl;intro K hK;go_wp)
      (apply Plan.seg_pick;rfl;intro K hK)
      go_guarded
      refine wp_load_mid 48 _ rfl b (o+(k-1)*22) rfl (clipC d) _ HS2.out.range Tryz.underlying48 rfl (by kernel_rfl) ?_
      go_wp
      exact Plan.seg_nil
     obtain⟨w4,hw4⟩:=Xq (w3.drew)
     rw[← hw4]
     have hb:Below w3.heap.size w3 w4:=by rw[hw4];exact(Below.refl _ _).drew
     replace HV:=Hd (HV.out.below hb)
     replace HD:=Hd (HD.out.below hb)
     replace HOT:=Hd (HOT.out.below hb)
     replace HB:=Tb HB hb
     clear hb hw4
     have hte:tv=decide (cont c d):=by
      rw[HTV.out]
      have hlast:(l.take k).getLast?=some d:=by
       rw[List.getLast?_eq_getElem?,List.length_take,Nat.min_eq_left (by rw[← HLe.out];exact hk),List.getElem?_take,if_pos (by omega)]
       exact hd
      have hG':GoodL (l.take k):=fun x hx=>HG.out x (List.mem_of_mem_take hx)
      cases hp:(pk (l.take k)).getLast? with
      |none=>
       have e0:=(pk_of hG').e.1 hp
       rw[e0]at hlast
       simp at hlast
      |some p=>exact decide_eq_decide.2 (cont_last hG' hp hlast)
     have HCO:=Hd (show ∀ w,Calls Tryz.prog 112 #[.agg C,.agg (clipC d).toArray] w fun e w'=>e=.returned (.bool tv)∧Below w.heap.size w w' from fun w=>by
      rw[HCC.out,hte]
      exact cont_any c d w (HO.out c (List.mem_of_getElem? HC.out)) (HO.out d (List.mem_of_getElem? hd)))
     clear hte
     refine Plan.plan_of_effect rfl (fun K hK=>?_)
     go_wp2_with fail
     refine(HCO.out w4).mono ?_
     rintro e w5 ⟨rfl,hb⟩
     replace HV:=Hd (HV.out.below hb)
     replace HD:=Hd (HD.out.below hb)
     replace HOT:=Hd (HOT.out.below hb)
     replace HB:=Tb HB hb
     clear hb
     go_wp2_with fail
     refine⟨⟨HV.out,HD.out⟩,?_⟩
     refine' Plan.plan_seg _ [10] [] (by kernel_rfl) (by kernel_rfl) rfl (by exact⟨HV.out,HD.out⟩) (fun wx hS=>?_) ?_
     rotate_left
     ·clear hS
      go_light
      iterate 1 (apply Plan.seg_pick;rfl;intro K hK;go_wp)
      exact Plan.seg_nil
     refine Plan.plan_done ?_
     refine h2 _ _ (Met.intro (h1 _ _ ?_))
     (repeat apply Exists.intro)
     exact⟨⟨rfl,HV.out,HOT.out,HB.out⟩,rfl⟩
    obtain rfl:k=0:=by omega
    have hte:tv=false:=by rw[HTV.out];rfl
    subst hte
    refine Plan.wp_region_plan (fun w'=>CV w' g c) (([0,1,2,3,4,5,6,7,8].map (·,true))++(([9].map (·,false))++([10].map (·,true)))) (by kernel_rfl) (by kernel_rfl) (by kernel_rfl) (HV.out.below (Below.refl _ _).drew) ?_
    refine' Plan.plan_seg _ [0,1,2,3,4,5,6,7,8] (([9].map (·,false))++([10].map (·,true))) (by kernel_rfl) (by kernel_rfl) rfl (by exact HV.out.below (Below.refl _ _).drew) (fun wx hS=>?_) ?_
    rotate_left
    ·clear hS
     go_light
     iterate 9 (apply Plan.seg_pick;rfl;intro K hK;go_wp)
     exact Plan.seg_nil
    obtain⟨w4,hw4⟩:=Xq (w3.drew)
    rw[← hw4]
    have hb:Below w3.heap.size w3 w4:=by rw[hw4];exact(Below.refl _ _).drew
    replace HV:=Hd (HV.out.below hb)
    replace HOT:=Hd (HOT.out.below hb)
    replace HB:=Tb HB hb
    clear hb hw4
    refine Plan.plan_of_effect rfl (fun K hK=>?_)
    go_wp2_with fail
    refine⟨HV.out,?_⟩
    refine' Plan.plan_seg _ [10] [] (by kernel_rfl) (by kernel_rfl) rfl (by exact HV.out) (fun wx hS=>?_) ?_
    rotate_left
    ·clear hS
     go_light
     iterate 1 (apply Plan.seg_pick;rfl;intro K hK;go_wp)
     exact Plan.seg_nil
    refine Plan.plan_done ?_
    refine h2 _ _ (Met.intro (h1 _ _ ?_))
    (repeat apply Exists.intro)
    exact⟨⟨rfl,HV.out,HOT.out,HB.out⟩,rfl⟩
   case rest=>
    obtain⟨e23,hv,ho,hb⟩:=hcut
    subst e23
    clear HV HOT HB
    have HV:=Hd hv
    have HOT:=Hd ho
    have HB:=Hd hb
    clear hv ho hb
    cases tv with
    | true =>
     obtain⟨p,hp,hcp⟩:∃ p,(pk (l.take k)).getLast?=some p∧cont c p:=by
      have h:=HTV.out
      cases hp:(pk (l.take k)).getLast? with
      |none=>rw[hp]at h;simp at h
      |some p=>rw[hp]at h;exact⟨p,rfl,of_decide_eq_true h.symm⟩
     have hq:=getLast_split hp
     obtain⟨q,hq2⟩:=Xq ((pk (l.take k)).dropLast)
     rw[← hq2]at hq
     have hsn:pk (l.take (k+1))=q++[withLen p (p.len+c.len)]:=by
      rw[List.take_add_one,HC.out]
      show pk (l.take k++[c])=_
      rw[pk_snoc]
      unfold snoc
      rw[hp]
      simp only
      rw[if_pos hcp,← hq2]
     have HSN:=Hd hsn
     have hG':GoodL (l.take k):=fun x hx=>HG.out x (List.mem_of_mem_take hx)
     have hpk:=pk_of hG'
     have hpl:p.len≤4611686018427387904:=by
      have h1:=hpk.s.1
      have h2:=total_take l HG.out k
      have h3:=hpk.g
      rw[hq]at h1 h3
      rw[total_append]at h1
      have h4:=total_nonneg (l:=q) (fun x hx=>h3 x (List.mem_append_left _ hx))
      have h5:Trk.total [p]=p.len:=by show p.len+0=_;omega
      have h6:=HTT.out
      omega
     have hpl0:1≤p.len:=(hpk.g p (by rw[hq];simp)).l
     have hcl:=(HO.out c (List.mem_of_getElem? HC.out)).l
     have hcl0:=(HO.out c (List.mem_of_getElem? HC.out)).g.l
     rw[hq]at HOT
     obtain⟨e,e0⟩ |⟨g2,cp,e⟩:=HOT.out.shape
     ·simp at e0
     subst e
     have hng:g2≠g:=HNO.out g2 cp _ rfl
     have hng2:¬g=g2:=fun e=>hng e.symm
     obtain⟨hB2,_,_,hcs⟩:=HOT.out.own
     have hCP:=hcs q.length p (by simp)
     have hfz:=HOT.out.frozen
     have hqn:q.length≤1048576:=by
      have:=hpk.n
      rw[hq]at this
      simp only[List.length_append,List.length_cons,List.length_nil,List.length_take]at this
      omega
     obtain⟨n,hn⟩:=Xq (q.length)
     have hln:(q++[p]).length=n+1:=by simp[hn]
     rw[hln]at HOT ⊢
     rw[← hn]at hCP hqn
     have HN:=Hd hn
     have HCP:=Hd hCP
     have HFZ:=Hd hfz
     clear hn hCP hcs hfz hp hcp hq hq2 hsn hG' hpk hln
     go_upto_region 6 with fail
     refine Plan.wp_region_plan (fun w'=>CV w' g c) (([0,1,2,3,4,5,7,8].map (·,true))++(([6].map (·,false))++(([9,10,11].map (·,true))++([12].map (·,false))))) (by kernel_rfl) (by kernel_rfl) (by kernel_rfl) (HV.out.below (Below.refl _ _).drew) ?_
     refine' Plan.plan_seg _ [0,1,2,3,4,5,7,8] (([6].map (·,false))++(([9,10,11].map (·,true))++([12].map (·,false)))) (by kernel_rfl) (by kernel_rfl) rfl (by exact HV.out.below (Below.refl _ _).drew) (fun wx hS=>?_) ?_
     rotate_left
     ·have x0:=hS.c.at0.1
      clear hS
      go_light
      iterate 8 (apply Plan.seg_pick;rfl;intro K hK;go_wp)
      exact Plan.seg_nil
     obtain⟨w4,hw4⟩:=Xq (wc.drew)
     rw[← hw4]
     have hb:Below wc.heap.size wc w4:=by rw[hw4];exact(Below.refl _ _).drew
     replace HOT:=Hd (HOT.out.below hb)
     replace HCP:=Hd (HCP.out.below hb)
     replace HB:=Tb HB hb
     replace HV:=Hd (HV.out.below hb)
     clear hb hw4 HFZ
     have z0:=HCP.out.k0
     refine Plan.plan_of_effect rfl (fun K hK=>?_)
     go_wp2_with fail
     refine⟨HV.out,?_⟩
     refine' Plan.plan_seg _ [9,10,11] ([12].map (·,false)) (by kernel_rfl) (by kernel_rfl) rfl (by exact HV.out) (fun wx hS=>?_) ?_
     rotate_left
     ·clear hS
      go_light
      iterate 3 (apply Plan.seg_pick;rfl;intro K hK;go_wp)
      exact Plan.seg_nil
     have zf:=HOT.out.frozen
     refine Plan.plan_of_effect rfl (fun K hK=>?_)
     go_wp2_with fail
     refine⟨HV.out.other hng2 _ _,?_⟩
     refine Plan.plan_done ?_
     have hnew:=HOT.out.setLen (p.len+c.len)
     rw[← HN.out,← HSN.out]at hnew
     have HNE:=Hd hnew
     have HBN:=Hd (HB.out.setCell (p:=⟨g2,n*22,none⟩) hB2 (.int .i64 (p.len+c.len)))
     clear z0 zf hnew
     obtain⟨w5,hw5⟩:=Xq (w4.setCell ⟨g2,n*22,none⟩ (.int .i64 (p.len+c.len)))
     rw[← hw5]at HNE HBN ⊢
     clear hw5
     go_wp2_with fail
     go_roundw
     case rel=>
      exact⟨k+1,by omega,by simp,HNE.out,HBN.out⟩
     case measure=>
      show L-(intOf (.int .i64 ((k:Int)+1))).toNat<L-(intOf (.int .i64 (k:Int))).toNat
      simp[intOf]
      omega
    | false =>
     have HCP:=Hd (fun w=>copied_any c w)
     unfold clipV at HCP
     rw[← HCC.out]at HCP
     go_upto_region 7 with fail
     apply wp_region_lit
     iterate 3 go_step
     refine wpl_load HV.out.c rfl rfl rfl ?_
     rw[← HCC.out]
     simp only[Act.put,sA1,sB1,sC1]
     iterate 2 go_step
     refine(HCP.out _).mono ?_
     rintro e w5 ⟨rfl,hb⟩
     replace HOT:=Hd (HOT.out.below hb)
     replace HB:=Tb HB hb
     clear hb
     dsimp only
     go_step
     have hsn:pk (l.take (k+1))=pk (l.take k)++[c]:=by
      rw[List.take_add_one,HC.out]
      show pk (l.take k++[c])=_
      rw[pk_snoc]
      unfold snoc
      have h:=HTV.out
      cases hp:(pk (l.take k)).getLast? with
      |none=>
       have e0:pk (l.take k)=[]:=List.getLast?_eq_none_iff.1 hp
       rw[e0]
       rfl
      |some p=>
       rw[hp]at h
       simp only
       rw[if_neg (of_decide_eq_false h.symm)]
     have HSN:=Hd hsn
     have hG':GoodL (l.take k):=fun x hx=>HG.out x (List.mem_of_mem_take hx)
     have hqn:(pk (l.take k)).length≤1048576:=by
      have:=(pk_of hG').n
      simp only[List.length_take]at this
      omega
     clear hsn hG'
     refine Great.wpList_buildSliceTo rfl 23 48 1 #[(0,.tmp 38)] rfl w5.heap.size rfl _ rfl Tryz.underlying23 C ?_ ?_
     ·simp only[List.map_toArray,List.map_cons,List.map_nil,List.toList_toArray]
      rw[HCC.out]
      exact built_clip c
     have hb:Below w5.heap.size w5 (w5.alloc (.cells C 48)):=below_box _ _
     have hbx:CA (w5.alloc (.cells C 48)) w5.heap.size 0 c:=by rw[HCC.out];exact CA.box w5 c 48
     replace HOT:=Hd (HOT.out.below hb)
     replace HB:=Tb HB hb
     clear hb
     simp only[Act.put,sA1,sB1,sC1]
     refine wpList_app _ rfl (.tmp 36) (.tmp 39) rfl rfl w.heap.size u3 (pk (l.take k)) rfl HOT.out HB.out.size w5.heap.size 1 c rfl hbx hqn ?_
     intro v' w6 r1 r2 r3 r4
     simp only[Act.put,sA1,sB1,sC1]
     rw[← HSN.out]at r1
     have HR:=Hd r1
     replace HB:=Hd (HB.out.trans r2)
     clear r1 r2 r3 r4 hbx
     go_wp2_with fail
     go_roundw
     case rel=>
      exact⟨k+1,by omega,by simp,HR.out,HB.out⟩
     case measure=>
      show L-(intOf (.int .i64 ((k:Int)+1))).toNat<L-(intOf (.int .i64 (k:Int))).toNat
      simp[intOf]
      omega
  have hkl:k=L:=by omega
  have e:l.take k=l:=List.take_of_length_le (by rw[← HLe.out];omega)
  rw[e]at ho
  have HOT:=Hd ho
  have HB:=Hd hb
  clear ho hb e
  subst hkl
  go_wp2_with fail
  go_ret
  exact⟨_,rfl,HOT.out,HB.out⟩
theorem etotal_any (v:Value) (l:List Clip) (w:World) (h:Tk w v l) (hG:GoodL l) (ht:Trk.total l≤4611686018427387904) (hl:l.length≤1048576) :
  Calls Tryz.prog 122 #[v] w fun e w'=>e=.returned (.int .i64 (Trk.total l))∧Below w.heap.size w w':=by
 obtain⟨ao,cap,rfl,hc1,hc2,hT⟩:=h
 have HT:=Hd (show Tk w (.slice ao l.length cap) l from⟨ao,cap,rfl,hc1,hc2,hT⟩)
 clear hT
 have HG:=Hd hG
 have HTT:=Hd ht
 obtain⟨L,hL⟩:=Xq (l.length)
 rw[← hL]at hl hc1
 have HLe:=Hd hL
 rw[← hL]
 clear hG ht hL hc2
 go_enter Tryz.func122,Tryz.ntmps122
 go_wp2_with fail
 go_loopw [3,8] (fun v3 v8 wr=>∃ k:Nat,k≤L∧v8=.int .i64 (k:Int)∧v3=.int .i64 (Trk.total (l.take k))∧Below w.heap.size w wr) (fun _ i _=>L-(intOf i).toNat)
 case atStart=>exact⟨0,Nat.zero_le _,rfl,rfl,Below.refl _ _⟩
 case round=>
  obtain⟨k,hk,rfl,rfl,hb⟩:=hrel
  by_cases hlt:k<L
  ·have hlt':(k:Int)<(L:Int):=by omega
   have hkl:k<l.length:=by rw[← HLe.out];exact hlt
   obtain⟨c,hc⟩:∃ c,l[k]?=some c:=⟨_,List.getElem?_eq_getElem hkl⟩
   obtain⟨ao',cap',e,_,_,hT⟩:=HT.out.below hb
   simp only[Value.slice.injEq,true_and]at e
   obtain⟨rfl,rfl⟩:=e
   obtain⟨b,o,rfl,hA⟩:=hT k c hc
   clear hT
   have hn:Trk.total (l.take (k+1))=Trk.total (l.take k)+c.len:=by
    rw[List.take_add_one,hc]
    show Trk.total (l.take k++[c])=_
    rw[total_append]
    show _+(c.len+0)=_
    omega
   have h1:=total_take l HG.out (k+1)
   have h2:=total_nonneg (l:=l.take k) (fun x hx=>HG.out x (List.mem_of_mem_take hx))
   have h3:=(HG.out c (List.mem_of_getElem? hc)).l
   have h4:=HTT.out
   obtain⟨s,hs⟩:=Xq (Trk.total (l.take k))
   rw[← hs]at hn h2 ⊢
   have h5:s+c.len≤4611686018427387904:=by omega
   have HN:=Hd hn
   have HA:=Hd hA
   have HB:=Hd hb
   have HC:=Hd hc
   clear hA hb hc hkl hn h1 h4 hs
   go_upto_region 4 with fail
   apply wp_region_lit
   iterate 3 go_step
   refine wpl_load HA.out rfl rfl rfl ?_
   refine wpl_alloc rfl rfl (fun w2 hg hb2 hs2=>?_)
   obtain⟨g,hgg⟩:=Xq (wr.heap.size)
   rw[← hgg]at hg ⊢
   have hgn:w.heap.size≤g:=by rw[hgg];exact HB.out.size
   have HB2:=Hd (HB.out.trans (hb2.mono HB.out.size))
   clear hb2 hs2 hgg HA
   refine wpl_store c hg rfl rfl rfl rfl ?_
   intro w3 hv ho3 hb3
   have HB3:=Hd (hb3 _ _ hgn HB2.out)
   have x0:=hv.c.at0.1
   clear hv ho3 hb3 hg HB2
   simp only[Act.put,sA1,sB1,sC1]
   obtain⟨C,hC⟩:=Xq ((clipC c).toArray)
   rw[← hC]
   clear hC
   go_wp2_with fail
   go_roundw
   case rel=>exact⟨k+1,by omega,by simp,by rw[HN.out],HB3.out⟩
   case measure=>
    show L-(intOf (.int .i64 ((k:Int)+1))).toNat<L-(intOf (.int .i64 (k:Int))).toNat
    simp[intOf]
    omega
  have hkl:k=L:=by omega
  have e:l.take k=l:=List.take_of_length_le (by rw[← HLe.out];omega)
  rw[e]
  have HB:=Hd hb
  clear hb e
  subst hkl
  go_wp2_with fail
  go_ret
  exact⟨rfl,HB.out⟩
theorem divisor_any (x y:Nat) (w:World) (hx:x<9223372036854775808) (hy:y<9223372036854775808) :
  Calls Tryz.prog 158 #[.int .i64 (x:Int),.int .i64 (y:Int)] w fun e w'=>e=.returned (.int .i64 ((Nat.gcd x y:Nat):Int))∧∃ m,w'=w.drewN m:=by
 obtain⟨g,hg⟩:=Xq (Nat.gcd x y)
 rw[← hg]
 replace hg:=Hd hg
 go_enter Tryz.func158,Tryz.ntmps158
 go_wp2
 go_loopw [0,1] (fun i j wr=>∃ a b:Nat,i=.int .i64 (a:Int)∧j=.int .i64 (b:Int)∧a<9223372036854775808∧b<9223372036854775808∧Hid (g=Nat.gcd a b)∧∃ m,wr=w.drewN m) (fun i j _=>(intOf j).toNat)
 case atStart=>exact⟨x,y,rfl,rfl,hx,hy,hg,0,rfl⟩
 case round=>
  obtain⟨a,b,rfl,rfl,ha,hb,hG,m,rfl⟩:=hrel
  by_cases h0:b=0
  ·subst h0
   go_wp2
   go_ret
   exact⟨by rw[hG.out];simp,m,rfl⟩
  have e1:¬(b:Int)=0:=by omega
  have hm:=Nat.mod_lt a (Nat.pos_of_ne_zero h0)
  go_wp2
  go_quiet (fail)
  go_wp2
  go_round
  case rel=>exact⟨b,a % b,rfl,by simp,hb,by omega,Hd (by rw[hG.out,gcd_step h0]),m+_,World.drewN_drewN _ _ _⟩
  case measure=>simp[intOf];omega
theorem bounded_at (n d:Int) (w:World) (h1:1≤d) (h2:d≤65536) (hg:n.natAbs.gcd d.toNat=1) (n1:-1099511627776*d≤n) (n2:n≤1099511627776*d) :
  Calls Tryz.prog 153 #[.agg #[.int .i64 n,.int .i64 d],.int .i64 1099511627776] w fun e w'=>e=.returned (.bool true)∧Below w.heap.size w w':=by
 have HV:=Hd (show ∀ w,Calls Tryz.prog 121 #[.agg #[.int .i64 n,.int .i64 d]] w fun e w'=>e=.returned (.bool true)∧Below w.heap.size w w' from fun w=>by
  have h:=valid_any n d w (by omega) (by omega) (by omega) (by omega)
  rw[validR_yes h1 (by omega),hg]at h
  exact h)
 clear hg
 go_enter Tryz.func153,Tryz.ntmps153
 go_upto_region 1 with fail
 obtain⟨w1,hw1⟩:=Xq (w.alloc (.cells #[.int .i64 n,.int .i64 d] 38))
 rw[← hw1]
 have hb1:Below w.heap.size w w1:=by rw[hw1];exact below_box _ _
 have x0:w1.cell? ⟨w.heap.size,0,none⟩=some (.int .i64 n):=by rw[hw1];simp[go_sem]
 have x1:w1.cell? ⟨w.heap.size,1,none⟩=some (.int .i64 d):=by rw[hw1];simp[go_sem]
 have HB:=Hd hb1
 obtain⟨b,hb⟩:=Xq (w.heap.size)
 rw[← hb]at x0 x1 ⊢
 clear hw1 hb1 hb
 go_wp2_with fail
 refine(HV.out w1).mono ?_
 rintro e w2 ⟨rfl,hb2⟩
 replace x0:=(hb2.cell (block_lt_of_cell x0)).trans x0
 replace x1:=(hb2.cell (block_lt_of_cell x1)).trans x1
 replace HB:=Hd (HB.out.trans (hb2.mono HB.out.size))
 clear hb2
 go_wp2_with fail
 all_goals go_ret
 all_goals exact⟨ret_bool (by first |rfl |(simp;done) |(simp;omega)),HB.out⟩
theorem bounded_sp (n d:Int) (w:World) (h1:1≤d) (h2:d≤65536) (hg:n.natAbs.gcd d.toNat=1) (n1:-1024*d≤n) (n2:n≤1024*d) :
  Calls Tryz.prog 153 #[.agg #[.int .i64 n,.int .i64 d],.int .i64 1024] w fun e w'=>e=.returned (.bool true)∧Below w.heap.size w w':=by
 have HV:=Hd (show ∀ w,Calls Tryz.prog 121 #[.agg #[.int .i64 n,.int .i64 d]] w fun e w'=>e=.returned (.bool true)∧Below w.heap.size w w' from fun w=>by
  have h:=valid_any n d w (by omega) (by omega) (by omega) (by omega)
  rw[validR_yes h1 (by omega),hg]at h
  exact h)
 clear hg
 go_enter Tryz.func153,Tryz.ntmps153
 go_upto_region 1 with fail
 obtain⟨w1,hw1⟩:=Xq (w.alloc (.cells #[.int .i64 n,.int .i64 d] 38))
 rw[← hw1]
 have hb1:Below w.heap.size w w1:=by rw[hw1];exact below_box _ _
 have x0:w1.cell? ⟨w.heap.size,0,none⟩=some (.int .i64 n):=by rw[hw1];simp[go_sem]
 have x1:w1.cell? ⟨w.heap.size,1,none⟩=some (.int .i64 d):=by rw[hw1];simp[go_sem]
 have HB:=Hd hb1
 obtain⟨b,hb⟩:=Xq (w.heap.size)
 rw[← hb]at x0 x1 ⊢
 clear hw1 hb1 hb
 go_wp2_with fail
 refine(HV.out w1).mono ?_
 rintro e w2 ⟨rfl,hb2⟩
 replace x0:=(hb2.cell (block_lt_of_cell x0)).trans x0
 replace x1:=(hb2.cell (block_lt_of_cell x1)).trans x1
 replace HB:=Hd (HB.out.trans (hb2.mono HB.out.size))
 clear hb2
 go_wp2_with fail
 all_goals go_ret
 all_goals exact⟨ret_bool (by first |rfl |(simp;done) |(simp;omega)),HB.out⟩
theorem name_ok (c d:UInt8) (w:World) (c0:97≤(c.toNat:Int)) (c1:(c.toNat:Int)≤122) (d0:48≤(d.toNat:Int)) (d1:(d.toNat:Int)≤57) :
  Calls Tryz.prog 114 #[.string ⟨#[c,d]⟩] w fun e w'=>e=.returned (.bool true)∧w=w':=by
 have key0:∀ h,((⟨#[c,d]⟩:ByteArray)[0]'h)=c:=fun h=>rfl
 have key1:∀ h,((⟨#[c,d]⟩:ByteArray)[1]'h)=d:=fun h=>rfl
 have K0:=Hd key0
 have K1:=Hd key1
 clear key0 key1
 go_enter Tryz.func114,Tryz.ntmps114
 go_wp2_with fail
 go_loop [15] (fun i=>i=.int .i64 0∨i=.int .i64 1∨i=.int .i64 2) (fun i=>2-(intOf i).toNat)
 case atStart=>exact .inl rfl
 case round=>
  rcases hrel with rfl |rfl |rfl
  ·go_wp2_with fail
   all_goals
    have key0:=K0.out
    simp only[key0]at *
    first
    |(exfalso;omega)
    |exact⟨by simp,by simp[intOf]⟩
  ·go_wp2_with fail
   all_goals
    have key1:=K1.out
    simp only[key1]at *
    first
    |(exfalso;omega)
    |exact⟨by simp,by simp[intOf]⟩
  go_wp2_with fail
  go_ret
  exact⟨rfl,rfl⟩
theorem vsource_black (w:World):Calls Tryz.prog 134 #[srcV black] w fun e w'=>e=.returned (.bool true)∧Below w.heap.size w w':=by
 simp only[srcV,srcC,black]
 go_enter Tryz.func134,Tryz.ntmps134
 go_upto_region 1 with fail
 obtain⟨w1,hw1⟩:=Xq (w.alloc (.cells #[.int .i64 0,.string ByteArray.empty,.int .i64 0,.int .i64 0,.int .i64 0,.int .i64 0,.bool false] 46))
 rw[← hw1]
 have hb1:Below w.heap.size w w1:=by rw[hw1];exact below_box _ _
 obtain⟨b,hb⟩:=Xq (w.heap.size)
 have c0:C7 w1 b 0 (.int .i64 0) (.string ByteArray.empty) (.int .i64 0) (.int .i64 0) (.int .i64 0) (.int .i64 0) (.bool false):=by rw[hw1,hb];constructor<;>simp[go_sem]
 rw[← hb]
 have HB:=Hd hb1
 clear hw1 hb1
 obtain⟨x0,x1,x2,x3,x4,x5,x6⟩:=c0.at0
 have hq:=run_eq_src black black w1
 simp only[black]at hq
 clear c0 hb
 go_wp2_with fail
 all_goals go_ret
 all_goals exact⟨rfl,HB.out⟩
theorem channels_nil (w:World):Calls Tryz.prog 133 #[.slice none 0 0] w fun e w'=>e=.returned (.bool true)∧w=w':=by
 go_enter Tryz.func133,Tryz.ntmps133
 go_wp2_with fail
 go_loop [10] (fun i=>i=.int .i64 0) (fun _=>0)
 case atStart=>rfl
 case round=>
  subst hrel
  go_wp2_with fail
  go_ret
  exact⟨rfl,rfl⟩
theorem line_any (s:ByteArray) (w:World) (h1:1≤s.size) (h2:s.size≤64) (h:∀ i (hi:i<s.size),32≤(s[i].toNat:Int)∧(s[i].toNat:Int)≤126) :
  Calls Tryz.prog 135 #[.string s] w fun e w'=>e=.returned (.bool true)∧w=w':=by
 have H:=Hd h
 clear h
 go_enter Tryz.func135,Tryz.ntmps135
 go_wp2_with fail
 go_loop [14] (fun i=>∃ k:Nat,k≤s.size∧i=.int .i64 (k:Int)) (fun i=>s.size-(intOf i).toNat)
 case atStart=>exact⟨0,Nat.zero_le _,rfl⟩
 case round=>
  obtain⟨k,hk,rfl⟩:=hrel
  by_cases hlt:k<s.size
  ·have hlt':(k:Int)<(s.size:Int):=by omega
   obtain⟨b0,b1⟩:=H.out k hlt
   go_wp2_with fail
   all_goals first
    |(exfalso;omega)
    |exact⟨⟨k+1,by omega,by simp⟩,by simp[intOf];omega⟩
    |skip
  have:k=s.size:=by omega
  subst this
  go_wp2_with fail
  go_ret
  exact⟨rfl,rfl⟩
end Go.Proofs.YtfoohocgdcgbcaaGreat
