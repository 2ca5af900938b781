/- Texts of this claim joined: TH TI TJ PlanH TK PlanD TL TM HA. -/
import Derived.Test.YtfoohocgdcgbcaaGreatMe00
import Derived.Test.YtfoohocgdcgbcaaGreatSq
set_option linter.unusedVariables false
set_option linter.unusedSimpArgs false
set_option maxRecDepth 100000
set_option maxHeartbeats 40000000
namespace Go.Trk
theorem mul_bound0 {d v D V:Int} (h0:0≤d) (h1:d≤D) (v0:-V≤v) (v1:v≤V):-(D*V)≤d*v∧d*v≤D*V:=by
 have hV:0≤V:=by omega
 have a:=Int.mul_le_mul_of_nonneg_left v1 h0
 have b:=Int.mul_le_mul_of_nonneg_left v0 h0
 have c:=Int.mul_le_mul_of_nonneg_right h1 hV
 rw[Int.mul_neg]at b
 exact⟨by omega,by omega⟩
theorem mul_bound {d v D V:Int} (h0:-D≤d) (h1:d≤D) (v0:-V≤v) (v1:v≤V):-(D*V)≤d*v∧d*v≤D*V:=by
 rcases Int.le_total 0 d with hd |hd
 ·exact mul_bound0 hd h1 v0 v1
 have a:=mul_bound0 (d:=-d) (D:=D) (by omega) (by omega) v0 v1
 rw[Int.neg_mul]at a
 exact⟨by omega,by omega⟩
theorem SrcIn.lenBy {L n d D:Int} {s:Src} (h:SrcIn L n s) (h0:-D≤d) (h1:d≤D):SrcIn (L+D*18018) (n+d) s:=by
 rcases h with rfl |h
 ·exact .inl rfl
 have b:=mul_bound h0 h1 h.v0 h.v1
 have hD:0≤D*18018:=by omega
 have e:(n+d)*svel s=n*svel s+d*svel s:=Int.add_mul _ _ _
 have q0:=h.q0
 have q1:=h.q1
 have p0:=h.p0
 have p1:=h.p1
 exact .inr ⟨h.lat,h.k,h.nm,h.v0,h.v1,by omega,by omega,by rw[e];omega,by rw[e];omega⟩
theorem SrcIn.later {L n d D:Int} {s:Src} (h:SrcIn L n s) (h0:-D≤d) (h1:d≤D):SrcIn (L+D*18018) (n-d) (moved s d):=by
 rcases h with rfl |h
 ·rw[moved_black];exact .inl rfl
 obtain⟨m1,m2,m3⟩:=moved_lat h.lat d
 have b:=mul_bound h0 h1 h.v0 h.v1
 have hD:0≤D*18018:=by omega
 have e:(n-d)*svel s=n*svel s-d*svel s:=Int.sub_mul _ _ _
 have q0:=h.q0
 have q1:=h.q1
 have p0:=h.p0
 have p1:=h.p1
 have hk:(moved s d).kind=s.kind:=moved_kind s d
 have hnm:(moved s d).name=s.name:=by unfold moved;split<;>rfl
 exact .inr ⟨m1,by rw[hk];exact h.k,by rw[hnm];exact h.nm,by rw[m3];exact h.v0,by rw[m3];exact h.v1,by rw[m2];omega,by rw[m2];omega,by rw[m2,m3,e];omega,by rw[m2,m3,e];omega⟩
theorem SrcIn.slip {L n d D:Int} {s:Src} (h:SrcIn L n s) (h0:-D≤d) (h1:d≤D):SrcIn (L+D*18018) n (moved s d):=by
 rcases h with rfl |h
 ·rw[moved_black];exact .inl rfl
 obtain⟨m1,m2,m3⟩:=moved_lat h.lat d
 have b:=mul_bound h0 h1 h.v0 h.v1
 have q0:=h.q0
 have q1:=h.q1
 have p0:=h.p0
 have p1:=h.p1
 have hk:(moved s d).kind=s.kind:=moved_kind s d
 have hnm:(moved s d).name=s.name:=by unfold moved;split<;>rfl
 exact .inr ⟨m1,by rw[hk];exact h.k,by rw[hnm];exact h.nm,by rw[m3];exact h.v0,by rw[m3];exact h.v1,by rw[m2];omega,by rw[m2];omega,by rw[m2,m3];omega,by rw[m2,m3];omega⟩
theorem KindOK.len {c:Clip} (h:KindOK c) (n:Int):KindOK (withLen c n):=h
theorem Cls.lenBy {L d D:Int} {c:Clip} (h:Cls L c) (h0:-D≤d) (h1:d≤D):Cls (L+D*18018) (lenBy d c):=
 ⟨h.a.lenBy h0 h1,h.b.lenBy h0 h1,h.ch,h.gn,h.kd.len _⟩
theorem Cls.later {L d D:Int} {c:Clip} (h:Cls L c) (h0:-D≤d) (h1:d≤D):Cls (L+D*18018) (later d c):=
 ⟨h.a.later h0 h1,h.b.later h0 h1,h.ch,h.gn,h.kd.shift d _⟩
theorem KindOK.slip {c:Clip} (h:KindOK c) (d:Int):KindOK (slipBy d c):=by
 unfold KindOK slipBy at *
 simp only
 rcases h with⟨h0,h1,h2,h⟩ |⟨h0,h2,h⟩ |h |h |h |⟨h0,h2,h⟩
 ·exact .inl ⟨h0,by rw[h1,moved_black],by rw[h2,moved_black],h⟩
 ·exact .inr (.inl ⟨h0,by rw[h2,moved_black],h⟩)
 ·exact .inr (.inr (.inl h))
 ·exact .inr (.inr (.inr (.inl h)))
 ·exact .inr (.inr (.inr (.inr (.inl h))))
 exact .inr (.inr (.inr (.inr (.inr ⟨h0,by rw[h2,moved_black],h⟩))))
theorem Cls.slip {L d D:Int} {c:Clip} (h:Cls L c) (h0:-D≤d) (h1:d≤D):Cls (L+D*18018) (slipBy d c):=
 ⟨h.a.slip h0 h1,h.b.slip h0 h1,h.ch,h.gn,h.kd.slip d⟩
structure SpeedOK (sn sd:Int):Prop where
 d0:1≤sd
 d:sd∣6006
 g:sn.natAbs.gcd sd.toNat=1
 v0:-18018≤sn*(6006 / sd)
 v1:sn*(6006 / sd)≤18018
theorem Cls.speedy {L M sn sd:Int} {c:Clip} (h:Cls L c) (hs:SpeedOK sn sd) (hb:c.a≠black) (hl0:-M≤c.len) (hl1:c.len≤M):Cls (L+M*18018) (speedy sn sd c):=by
 have hM:0≤M*18018:=by omega
 refine⟨?_,h.b.mono (by omega),h.ch,h.gn,?_⟩
 ·rcases h.a with e |k
  ·exact absurd e hb
  have p0:=k.p0
  have p1:=k.p1
  have b:=mul_bound hl0 hl1 hs.v0 hs.v1
  have ev:svel { c.a with sn:=sn,sd:=sd }=sn*(6006 / sd):=rfl
  have ep:spos { c.a with sn:=sn,sd:=sd }=spos c.a:=rfl
  have g:=k.lat.g
  refine .inr ⟨⟨?_,k.lat.a,hs.d⟩,k.k,k.nm,hs.v0,hs.v1,by show _≤spos c.a;omega,by show spos c.a≤_;omega,?_,?_⟩
  ·exact⟨g.k,g.a0,g.a1,hs.d0,hs.g⟩
  ·show -(L+M*18018)≤spos c.a+c.len*(sn*(6006 / sd));omega
  show spos c.a+c.len*(sn*(6006 / sd))≤L+M*18018;omega
 have k:=h.kd
 unfold KindOK Trk.speedy at *
 simp only
 rcases k with⟨h0,h1,h⟩ |h |h |h |h |h
 ·exact absurd h1 hb
 ·exact .inr (.inl h)
 ·exact .inr (.inr (.inl h))
 ·exact .inr (.inr (.inr (.inl h)))
 ·exact .inr (.inr (.inr (.inr (.inl h))))
 exact .inr (.inr (.inr (.inr (.inr h))))
theorem mem_upd {l:List Clip} {i:Nat} {f:Clip→Clip} {y:Clip} (h:y∈upd l i f):y∈l∨∃ x∈l,y=f x:=by
 unfold upd at h
 split at h
 ·rename_i x hx
  rcases List.mem_or_eq_of_mem_set h with h |h
  ·exact .inl h
  exact .inr ⟨x,List.mem_of_getElem? hx,h⟩
 exact .inl h
def ClsL (L:Int) (l:List Clip):Prop:=∀ c∈l,Cls L c
theorem ClsL.mono {L M:Int} {l:List Clip} (h:ClsL L l) (hl:L≤M):ClsL M l:=fun c hc=>(h c hc).mono hl
theorem ClsL.upd {L M:Int} {l:List Clip} (h:ClsL L l) (hl:L≤M) {f:Clip→Clip} (hf:∀ x∈l,Cls M (f x)) (i:Nat):ClsL M (upd l i f):=fun y hy=>by
 rcases mem_upd hy with hy |⟨x,hx,rfl⟩
 ·exact(h y hy).mono hl
 exact hf x hx
theorem adj_cls {L D M:Int} {n:List Clip} {k d sn sd:Int} {c:Nat} (h:ClsL L n) (h0:-D≤d) (h1:d≤D) (hl:∀ x∈n,-M≤x.len∧x.len≤M) (hM:0≤M)
  (hs:k=5∨k=6∨k=7∨k=8∨k=9∨(SpeedOK sn sd∧(n[c]?.map (·.a))≠some black)):ClsL (L+D*18018+D*18018+M*18018) (adjL n k c d sn sd):=by
 have hD:0≤D*18018:=by omega
 have hM':0≤M*18018:=by omega
 have A:∀ i,ClsL (L+D*18018) (Trk.upd n i (Trk.lenBy d)):=fun i=>h.upd (by omega) (fun x hx=>(h x hx).lenBy h0 h1) i
 have B:∀ i j,ClsL (L+D*18018+D*18018) (Trk.upd (Trk.upd n i (Trk.lenBy d)) j (Trk.later d)):=fun i j=>(A i).upd (by omega) (fun x hx=>(A i x hx).later h0 h1) j
 unfold adjL
 split
 ·exact(A c).mono (by omega)
 rename_i n5
 split
 ·exact(h.upd (M:=L+D*18018) (by omega) (fun x hx=>(h x hx).later h0 h1) c).mono (by omega)
 rename_i n6
 split
 ·exact(B _ _).mono (by omega)
 rename_i n7
 split
 ·exact(h.upd (M:=L+D*18018) (by omega) (fun x hx=>(h x hx).slip h0 h1) c).mono (by omega)
 rename_i n8
 split
 ·exact(B _ _).mono (by omega)
 rename_i n9
 obtain⟨hs,ha⟩:SpeedOK sn sd∧(n[c]?.map (·.a))≠some black:=by
  rcases hs with e |e |e |e |e |e
  ·exact absurd e n5
  ·exact absurd e n6
  ·exact absurd e n7
  ·exact absurd e n8
  ·exact absurd e n9
  exact e
 intro y hy
 unfold Trk.upd at hy
 split at hy
 ·rename_i x hx
  rcases List.mem_or_eq_of_mem_set hy with hy |rfl
  ·exact(h y hy).mono (by omega)
  have hm:=List.mem_of_getElem? hx
  refine((h x hm).speedy hs ?_ (hl x hm).1 (hl x hm).2).mono (by omega)
  intro e
  rw[hx]at ha
  exact ha (by simp[e])
 exact(h y hy).mono (by omega)
theorem fr_cons3 {P mid Q:List Clip} (gP:GoodL P) (gm:GoodL mid) {i:Int} (hi:0≤i) :
  fr (P++mid++Q) i=if i<total P then fr P i else if i<total P+total mid then fr mid (i-total P) else fr Q (i-total P-total mid):=by
 have tP:=total_nonneg gP
 have tm:=total_nonneg gm
 by_cases h1:i<total P
 ·rw[if_pos h1,List.append_assoc,fr_append_lt _ gP hi h1]
 rw[if_neg h1]
 by_cases h2:i<total P+total mid
 ·rw[if_pos h2,fr_append_lt _ (gP.append gm) hi (by rw[total_append];exact h2),fr_append_ge _ gP (by omega)]
 rw[if_neg h2,fr_append_ge _ (gP.append gm) (by rw[total_append];omega),total_append]
 congr 1
 omega
structure UndoOf (n l:List Clip) (a b uk:Int):Prop where
 lo:∀ i,0≤i→i<a→fr l i=fr n i
 two:uk=2→∀ i,b≤i→fr l i=fr n (i-(b-a))
 one:uk=1→∀ i,a≤i→fr l i=fr n (i+(b-a))
 three:uk=3→∀ i,b≤i→fr l i=fr n i
 k:uk=1∨uk=2∨uk=3
 a0:0≤a
 ab:a<b
theorem total_one (c:Clip):total [c]=c.len:=by show c.len+0=_;omega
theorem fr_one {c:Clip} {i:Int} (h:i<c.len):fr [c] i=one c i:=fr_lt h
theorem take_total (P Q:List Clip):total ((P++Q).take P.length)=total P:=by rw[List.take_left'];rfl
theorem beg_of (P Q:List Clip) (x:Clip):begL (P++x::Q) P.length=total P:=by unfold begL;exact take_total P _
theorem end_of (P Q:List Clip) (x:Clip):endL (P++x::Q) P.length=total P+x.len:=by
 unfold endL
 have h:=take_total (P++[x]) Q
 rw[List.append_assoc]at h
 simp only[List.length_append,List.length_cons,List.length_nil,Nat.zero_add,List.singleton_append]at h
 rw[h,total_append,total_one]
theorem lenBy_len (d:Int) (c:Clip):(lenBy d c).len=c.len+d:=rfl
theorem later_len (d:Int) (c:Clip):(later d c).len=c.len-d:=rfl
theorem one_lenBy (d:Int) (c:Clip) (i:Int):one (lenBy d c) i=one c i:=rfl
theorem one_later {c:Clip} (h:GoodC c) (d i:Int):one (later d c) i=one c (d+i):=by
 unfold later
 rw[one_withLen,one_shift h.a h.b]
theorem undo3 {P mid mid' Q:List Clip} (gP:GoodL P) (gm:GoodL mid) (gm':GoodL mid') (ht:total mid'=total mid) (a b:Int) (a0:0≤a) (ab:a<b) (h0:total P≤a) (h1:b≤total P+total mid)
  (lo:∀ j,0≤j→j<a-total P→fr mid' j=fr mid j) (hi:∀ j,b-total P≤j→j<total mid→fr mid' j=fr mid j):UndoOf (P++mid++Q) (P++mid'++Q) a b 3:=by
 refine⟨fun i i0 ia=>?_,fun h=>absurd h (by decide),fun h=>absurd h (by decide),fun _ i ib=>?_,.inr (.inr rfl),a0,ab⟩
 ·rw[fr_cons3 gP gm' i0,fr_cons3 gP gm i0,ht]
  by_cases c1:i<total P
  ·rw[if_pos c1,if_pos c1]
  rw[if_neg c1,if_neg c1]
  rw[if_pos (by omega),if_pos (by omega)]
  exact lo _ (by omega) (by omega)
 rw[fr_cons3 gP gm' (by omega),fr_cons3 gP gm (by omega),ht]
 by_cases c1:i<total P
 ·rw[if_pos c1,if_pos c1]
 rw[if_neg c1,if_neg c1]
 by_cases c2:i<total P+total mid
 ·rw[if_pos c2,if_pos c2]
  exact hi _ (by omega) (by omega)
 rw[if_neg c2,if_neg c2]
theorem undo5 {P Q:List Clip} {x:Clip} {d:Int} (gP:GoodL P) (gx:GoodC x) (gx':GoodC (lenBy d x)) (hd:d≠0) :
  UndoOf (P++x::Q) (P++lenBy d x::Q) (min (total P+x.len) (total P+x.len+d)) (max (total P+x.len) (total P+x.len+d)) (undK 5 d):=by
 have tP:=total_nonneg gP
 have l0:=gx.l
 have l1:=gx'.l
 rw[lenBy_len]at l1
 have e1:P++x::Q=P++[x]++Q:=by simp
 have e2:P++lenBy d x::Q=P++[lenBy d x]++Q:=by simp
 have g1:GoodL [x]:=GoodL.cons gx GoodL.nil
 have g2:GoodL [lenBy d x]:=GoodL.cons gx' GoodL.nil
 rw[e1,e2]
 have uk:undK 5 d=if 0<d then 2 else 1:=by unfold undK;rw[if_pos rfl]
 refine⟨fun i i0 ia=>?_,fun h i ib=>?_,fun h i ib=>?_,fun h=>?_,?_,by omega,by omega⟩
 ·rw[fr_cons3 gP g2 i0,fr_cons3 gP g1 i0,total_one,total_one,lenBy_len]
  by_cases c1:i<total P
  ·rw[if_pos c1,if_pos c1]
  rw[if_neg c1,if_neg c1,if_pos (by omega),if_pos (by omega),fr_one (by rw[lenBy_len];omega),fr_one (by omega),one_lenBy]
 ·rw[uk]at h
  have d0:0<d:=by
   by_cases d0:0<d
   ·exact d0
   rw[if_neg d0]at h;omega
  rw[fr_cons3 gP g2 (by omega),fr_cons3 gP g1 (by omega),total_one,total_one,lenBy_len]
  rw[if_neg (by omega),if_neg (by omega),if_neg (by omega),if_neg (by omega)]
  congr 1
  omega
 ·rw[uk]at h
  have d0:d<0:=by
   by_cases d0:0<d
   ·rw[if_pos d0]at h;omega
   omega
  rw[fr_cons3 gP g2 (by omega),fr_cons3 gP g1 (by omega),total_one,total_one,lenBy_len]
  rw[if_neg (by omega),if_neg (by omega),if_neg (by omega),if_neg (by omega)]
  congr 1
  omega
 ·rw[uk]at h;split at h<;>omega
 rw[uk];split<;>omega
theorem undo6 {P Q:List Clip} {x:Clip} {d:Int} (gP:GoodL P) (gx:GoodC x) (gx':GoodC (later d x)) (hd:d≠0) :
  UndoOf (P++x::Q) (P++later d x::Q) (total P) (total P+max d (-d)) (undK 6 d):=by
 have tP:=total_nonneg gP
 have l0:=gx.l
 have l1:=gx'.l
 rw[later_len]at l1
 have e1:P++x::Q=P++[x]++Q:=by simp
 have e2:P++later d x::Q=P++[later d x]++Q:=by simp
 have g1:GoodL [x]:=GoodL.cons gx GoodL.nil
 have g2:GoodL [later d x]:=GoodL.cons gx' GoodL.nil
 rw[e1,e2]
 have uk:undK 6 d=if d<0 then 2 else 1:=by unfold undK;rw[if_neg (by decide),if_pos rfl]
 refine⟨fun i i0 ia=>?_,fun h i ib=>?_,fun h i ib=>?_,fun h=>?_,?_,by omega,by omega⟩
 ·rw[fr_cons3 gP g2 i0,fr_cons3 gP g1 i0]
  rw[if_pos ia,if_pos ia]
 ·rw[uk]at h
  have d0:d<0:=by
   by_cases d0:d<0
   ·exact d0
   rw[if_neg d0]at h;omega
  rw[fr_cons3 gP g2 (by omega),fr_cons3 gP g1 (by omega),total_one,total_one,later_len]
  by_cases c2:i<total P+(x.len-d)
  ·rw[if_neg (by omega),if_pos c2,if_neg (by omega),if_pos (by omega),fr_one (by rw[later_len];omega),fr_one (by omega),one_later gx]
   congr 1
   omega
  rw[if_neg (by omega),if_neg c2,if_neg (by omega),if_neg (by omega)]
  congr 1
  omega
 ·rw[uk]at h
  have d0:0<d:=by
   by_cases d0:d<0
   ·rw[if_pos d0]at h;omega
   omega
  rw[fr_cons3 gP g2 (by omega),fr_cons3 gP g1 (by omega),total_one,total_one,later_len]
  by_cases c2:i<total P+(x.len-d)
  ·rw[if_neg (by omega),if_pos c2,if_neg (by omega),if_pos (by omega),fr_one (by rw[later_len];omega),fr_one (by omega),one_later gx]
   congr 1
   omega
  rw[if_neg (by omega),if_neg c2,if_neg (by omega),if_neg (by omega)]
  congr 1
  omega
 ·rw[uk]at h;split at h<;>omega
 rw[uk];split<;>omega
theorem fr_two {x y:Clip} {i:Int}:fr [x,y] i=if i<x.len then one x i else if i-x.len<y.len then one y (i-x.len) else gap 1:=by
 show(if i<x.len then one x i else fr [y] (i-x.len))=_
 split
 ·rfl
 rfl
theorem fr_three {x y z:Clip} {i:Int}:fr [x,y,z] i=if i<x.len then one x i else if i-x.len<y.len then one y (i-x.len) else if i-x.len-y.len<z.len then one z (i-x.len-y.len) else gap 1:=rfl
theorem undo7 {P Q:List Clip} {x y:Clip} {d:Int} (gP:GoodL P) (gx:GoodC x) (gy:GoodC y) (gx':GoodC (lenBy d x)) (gy':GoodC (later d y)) (hd:d≠0) :
  UndoOf (P++[x,y]++Q) (P++[lenBy d x,later d y]++Q) (min (total P+x.len) (total P+x.len+d)) (max (total P+x.len) (total P+x.len+d)) 3:=by
 have tP:=total_nonneg gP
 have l0:=gx.l
 have l1:=gx'.l
 have l2:=gy.l
 have l3:=gy'.l
 rw[lenBy_len]at l1
 rw[later_len]at l3
 have t1:total [x,y]=x.len+y.len:=by show x.len+(y.len+0)=_;omega
 have t2:total [lenBy d x,later d y]=x.len+y.len:=by show x.len+d+(y.len-d+0)=_;omega
 refine undo3 gP (GoodL.cons gx (GoodL.cons gy GoodL.nil)) (GoodL.cons gx' (GoodL.cons gy' GoodL.nil)) (by rw[t1,t2]) _ _ (by omega) (by omega) (by omega) (by rw[t1];omega) (fun j j0 j1=>?_) (fun j j0 j1=>?_)
 ·rw[fr_two,fr_two,lenBy_len,if_pos (by omega),if_pos (by omega),one_lenBy]
 rw[t1]at j1
 rw[fr_two,fr_two,lenBy_len,later_len,if_neg (by omega),if_pos (by omega),if_neg (by omega),if_pos (by omega),one_later gy]
 congr 1
 omega
theorem undo9 {P Q:List Clip} {y x z:Clip} {d:Int} (gP:GoodL P) (gy:GoodC y) (gx:GoodC x) (gz:GoodC z) (gy':GoodC (lenBy d y)) (gz':GoodC (later d z)) (hd:d≠0) :
  UndoOf (P++[y,x,z]++Q) (P++[lenBy d y,x,later d z]++Q) (min (total P+y.len) (total P+y.len+d)) (max (total P+y.len+x.len) (total P+y.len+x.len+d)) 3 ∧
  ∀ j,0≤j→j<x.len→fr (P++[lenBy d y,x,later d z]++Q) (total P+y.len+d+j)=fr (P++[y,x,z]++Q) (total P+y.len+j):=by
 have tP:=total_nonneg gP
 have l0:=gy.l
 have l1:=gy'.l
 have l2:=gz.l
 have l3:=gz'.l
 have l4:=gx.l
 rw[lenBy_len]at l1
 rw[later_len]at l3
 have t1:total [y,x,z]=y.len+x.len+z.len:=by show y.len+(x.len+(z.len+0))=_;omega
 have t2:total [lenBy d y,x,later d z]=y.len+x.len+z.len:=by show y.len+d+(x.len+(z.len-d+0))=_;omega
 have g1:GoodL [y,x,z]:=GoodL.cons gy (GoodL.cons gx (GoodL.cons gz GoodL.nil))
 have g2:GoodL [lenBy d y,x,later d z]:=GoodL.cons gy' (GoodL.cons gx (GoodL.cons gz' GoodL.nil))
 refine⟨undo3 gP g1 g2 (by rw[t1,t2]) _ _ (by omega) (by omega) (by omega) (by rw[t1];omega) (fun j j0 j1=>?_) (fun j j0 j1=>?_),fun j j0 j1=>?_⟩
 ·rw[fr_three,fr_three,lenBy_len,if_pos (by omega),if_pos (by omega),one_lenBy]
 ·rw[t1]at j1
  rw[fr_three,fr_three,lenBy_len,later_len,if_neg (by omega),if_neg (by omega),if_pos (by omega),if_neg (by omega),if_neg (by omega),if_pos (by omega),one_later gz]
  congr 1
  omega
 rw[fr_cons3 gP g2 (by omega),fr_cons3 gP g1 (by omega),t1,t2,if_neg (by omega),if_pos (by omega),if_neg (by omega),if_pos (by omega),fr_three,fr_three,lenBy_len]
 rw[if_neg (by omega),if_pos (by omega),if_neg (by omega),if_pos (by omega)]
 congr 1
 omega
theorem undo8 {P Q:List Clip} {x x':Clip} (gP:GoodL P) (gx:GoodC x) (gx':GoodC x') (hl:x'.len=x.len):UndoOf (P++x::Q) (P++x'::Q) (total P) (total P+x.len) 3:=by
 have tP:=total_nonneg gP
 have l0:=gx.l
 have e1:P++x::Q=P++[x]++Q:=by simp
 have e2:P++x'::Q=P++[x']++Q:=by simp
 rw[e1,e2]
 exact undo3 gP (GoodL.cons gx GoodL.nil) (GoodL.cons gx' GoodL.nil) (by rw[total_one,total_one,hl]) _ _ (by omega) (by omega) (Int.le_refl _) (by rw[total_one];exact Int.le_refl _) (fun j j0 j1=>by omega)
  (fun j j0 j1=>by rw[total_one]at j1;omega)
structure Ed where
 k:Int
 p:Int
 m:Int
 c:Int
 d:Int
 sn:Int
 sd:Int
 ins:List Clip
def Ed.T (e:Ed):Int:=if e.k=1∨e.k=3 then total e.ins else e.m
def Ed.rem (e:Ed):Int:=if e.k=1 then 0 else e.T
def Ed.put (e:Ed):List Clip:=if e.k=4 then[gap e.m] else e.ins
def Ed.exl (e:Ed) (n:List Clip):List Clip:=exL n e.p e.rem e.put
def undoK (k:Int):Int:=if k=1 then 2 else if k=2 then 1 else 3
structure Ed.Ex (e:Ed):Prop where
 k:e.k=1∨e.k=2∨e.k=3∨e.k=4
 p:0≤e.p
 g:GoodL e.ins
 i:e.k=2∨e.k=4→e.ins=[]
 t:1≤e.T
theorem Ed.Ex.put_good {e:Ed} (h:e.Ex):GoodL e.put:=by
 have ht:=h.t
 unfold Ed.put
 split
 ·rename_i h4
  unfold Ed.T at ht
  rw[if_neg (by omega)]at ht
  exact GoodL.cons (gap_good ht) GoodL.nil
 exact h.g
theorem Ed.Ex.put_total {e:Ed} (h:e.Ex):total e.put=if e.k=2 then 0 else e.T:=by
 unfold Ed.put Ed.T
 rcases h.k with h1 |h1 |h1 |h1
 ·rw[if_neg (by omega),if_neg (by omega),if_pos (by omega)]
 ·rw[if_neg (by omega),if_pos h1,h.i (.inl h1)];rfl
 ·rw[if_neg (by omega),if_neg (by omega),if_pos (by omega)]
 rw[if_pos h1,if_neg (by omega),if_neg (by omega)]
 show e.m+0=_
 omega
theorem Ed.Ex.rem_nonneg {e:Ed} (h:e.Ex):0≤e.rem:=by
 have:=h.t
 unfold Ed.rem
 split<;>omega
theorem Ed.Ex.of {e:Ed} (h:e.Ex) {n:List Clip} (gn:GoodL n):ExOf n e.p e.rem e.put (e.exl n):=ex_of gn h.put_good h.p h.rem_nonneg
def backOf (n:List Clip) (a b uk:Int):Ed:=⟨uk,a,if uk=2 then b-a else 0,0,0,0,0,if uk=2 then[] else cut n a b⟩
end Go.Trk
namespace Go.Plan
open Go
section
variable {P:Program} {ops:Array Oper} {Q:Exit→Act→World→Prop} {S:World→Prop} {z:Nat} {C:Act→World→Prop}
def waitsFor (ops:Array Oper):Nat→Nat→Nat→Bool
 |0,_,_=>false
 |f+1,j,i=>match ops[j]? with
  |some o=>o.after.any fun e=>Region.binds .any e&&(e.on==i||waitsFor ops f e.on i)
  |none=>false
def lastOK2 (ops:Array Oper) (z:Nat):Bool:=
 match ops[z]? with
 |some _=>(List.range ops.size).all fun i=>i==z||waitsFor ops 4 z i
 |none=>true
def Closed (ops:Array Oper) (listed:Array Bool):Prop:=∀ (j:Nat) (o:Oper),ops[j]?=some o→listed.getD j false=true→∀ e∈o.after,Region.binds .any e=true→listed.getD e.on false=true
theorem waits_spec {listed:Array Bool} (hc:Closed ops listed):∀ (f j i:Nat),(∀ o,ops[j]?=some o→∀ e∈o.after,Region.binds .any e=true→listed.getD e.on false=true)→waitsFor ops f j i=true→listed.getD i false=true
 |0,j,i,_,h=>by simp[waitsFor]at h
 | f + 1, j, i, hj, h => by
  unfold waitsFor at h
  split at h
  ·rename_i o ho
   obtain⟨e,he,hb⟩:=Array.any_eq_true'.1 h
   simp only[Bool.and_eq_true,Bool.or_eq_true,beq_iff_eq]at hb
   have hl:=hj o ho e he hb.1
   rcases hb.2 with h2 |h2
   ·rw[← h2];exact hl
   exact waits_spec hc f e.on i (fun o' ho' e' he' hb'=>hc e.on o' ho' hl e' he' hb') h2
  cases h
theorem Closed.set {listed:Array Bool} (hc:Closed ops listed) {j:Nat} (hj:j∈Region.ready .any ops listed):Closed ops (listed.setIfInBounds j true):=by
 intro k o ho hk e he hb
 obtain⟨hjun,oj,hoj,hall⟩:=mem_ready.1 hj
 have hmono:∀ m,listed.getD m false=true→(listed.setIfInBounds j true).getD m false=true:=fun m hm=>by
  by_cases hjm:j=m
  ·subst hjm
   have hlt:j<listed.size:=by
    by_cases hlt:j<listed.size
    ·exact hlt
    simp[Array.getElem?_eq_none (Nat.le_of_not_lt hlt)]at hm
   simp[hlt]
  rw[getD_set_ne false hjm];exact hm
 by_cases hjk:j=k
 ·subst hjk
  rw[hoj]at ho
  obtain rfl:=Option.some.inj ho
  exact hmono _ (hall e he hb)
 rw[getD_set_ne false hjk]at hk
 exact hmono _ (hc k o ho hk e he hb)
theorem anyS_take2 {i:Nat} {oi:Oper} {v:Value} (hi:ops[i]?=some oi) (hs:Region.noSelect ops=true) (hz:lastOK2 ops z=true) (hQ:∀ c a w,Q (.panic c) (a.put oi.dst v) w→Q (.panic c) a w) :
  ∀ (fuel:Nat) (listed:Array Bool) (a:Act) (w:World),Closed ops listed→Region.free .any ops listed i=true→i∈Region.ready .any ops listed→YieldsIf P ops S oi v a→S w →
   anyS P ops Q S z fuel (listed.setIfInBounds i true) (a.put oi.dst v) w→anyS P ops Q S z (fuel+1) listed a w:=by
 have hsel:=Region.noSelect_spec hs
 have hilt:=(Array.getElem?_eq_some_iff.1 hi).1
 have key : ∀ (fuel : Nat) (listed : Array Bool) (a : Act) (w : World), Closed ops listed →
   (∀ j oj,ops[j]?=some oj→j≠i→listed.getD j true=false→(∀ e∈oj.after,Region.binds .any e=true→e.on≠i)→oi.apart ops oj=true) →
   i∈Region.ready .any ops listed→YieldsIf P ops S oi v a→S w→anyS P ops Q S z fuel (listed.setIfInBounds i true) (a.put oi.dst v) w→anyS P ops Q S z (fuel+1) listed a w:=by
  intro fuel
  induction fuel with
  | zero =>
   intro listed a w _ _ hr hy hS H
   refine⟨fun h=>absurd (h ▸ hr) (by simp),fun j hj=>?_⟩
   by_cases hji:j=i
   ·subst hji;exact hy.wpOp hi hS ⟨fun _=>hS,H⟩
   have:=ready_mono hj hji
   rw[H.1]at this
   cases this
  | succ fuel ih =>
   intro listed a w hcl hfree hr hy hS H
   refine⟨fun h=>absurd (h ▸ hr) (by simp),fun j hj=>?_⟩
   by_cases hji:j=i
   ·subst hji;exact hy.wpOp hi hS ⟨fun _=>hS,H⟩
   have h1:=H.2 j (ready_mono hj hji)
   obtain⟨hjun,oj,hoj,hall⟩:=mem_ready.1 hj
   have hnot:∀ e∈oj.after,Region.binds .any e=true→e.on≠i:=fun e he hb heq=>by
    have h3:=hall e he hb
    have h0:=(mem_ready.1 hr).1
    rw[heq]at h3
    by_cases hlt:i<listed.size
    ·simp[hlt]at h0 h3;rw[h0]at h3;cases h3
    simp[Array.getElem?_eq_none (Nat.le_of_not_lt hlt)]at h3
   have hjz:j≠z:=by
    rintro rfl
    have hz2:=hz
    simp only[lastOK2,hoj,List.all_eq_true,List.mem_range]at hz2
    have h4:=hz2 i hilt
    simp only[Bool.or_eq_true,beq_iff_eq,Ne.symm hji,false_or]at h4
    have h3:=waits_spec hcl 4 j i (fun o ho e he hb=>by
     rw[hoj]at ho
     obtain rfl:=Option.some.inj ho
     exact hall e he hb) h4
    have h0:=(mem_ready.1 hr).1
    by_cases hlt:i<listed.size
    ·simp[hlt]at h0 h3;rw[h0]at h3;cases h3
    simp[Array.getElem?_eq_none (Nat.le_of_not_lt hlt)]at h3
   have h2:=wpOp_putIf hoj (hfree j oj hoj hji hjun hnot) (fun cs b=>hsel i oi cs b hi) (fun cs b=>hsel j oj cs b hoj) hQ hy h1
   refine wpOp_mono (fun a' w' h3=>?_) h2
   obtain⟨hy',himp,hrest⟩:=h3
   have hr':i∈Region.ready .any ops (listed.setIfInBounds j true):=ready_mono hr (Ne.symm hji)
   have hS':S w':=himp hjz
   refine⟨fun _=>hS',ih (listed.setIfInBounds j true) a' w' (hcl.set hj) (fun k ok hk hki hun hno=>?_) hr' hy' hS' ?_⟩
   ·refine hfree k ok hk hki ?_ hno
    by_cases hjk:j=k
    ·subst hjk;exact hjun
    rw[getD_set_ne true hjk]at hun;exact hun
   rw[Array.setIfInBounds_comm _ _ hji]
   exact hrest
 intro fuel listed a w hcl hf hr hy hS H
 exact key fuel listed a w hcl (Region.free_spec hi hf) hr hy hS H
theorem held_of_plan2 (hs:Region.noSelect ops=true) (hz:lastOK2 ops z=true) (hQ:∀ c a d v w,Q (.panic c) (a.put d v) w→Q (.panic c) a w) (listed':Array Bool) (fuel:Nat)
  (hC:∀ a w,(¬listed'.getD z false=true→S w)→C a w→anyS P ops Q S z fuel listed' a w) :
  ∀ (plan:List (Nat×Bool)) (listed:Array Bool) (a:Act) (w:World),Closed ops listed→planGo ops z listed plan=some listed'→listed.size=ops.size→(¬listed.getD z false=true→S w)→wpPlan P ops Q S z C plan a w →
   anyS P ops Q S z (fuel+plan.length) listed a w
 |[],listed,a,w,_,hp,_,hS,h=>by
  simp only[planGo,Option.some.injEq]at hp
  subst hp
  exact hC a w hS h
 | (i, true) :: r, listed, a, w, hcl, hp, hl, hS, h => by
  simp only[planGo]at hp
  split at hp
  ·rename_i hc
   simp only[Bool.and_eq_true,List.contains_eq_mem,decide_eq_true_eq,Bool.not_eq_true']at hc
   obtain⟨o,ho,v,hy,hr⟩:=h
   have hSw:S w:=hS (by rw[hc.2];simp)
   exact anyS_take2 ho hs hz (fun c a w=>hQ c a _ _ w) _ _ _ _ hcl hc.1.1 hc.1.2 hy hSw (held_of_plan2 hs hz hQ listed' fuel hC r _ _ _ (hcl.set hc.1.2) hp (by simp[hl]) (fun _=>hSw) hr)
  cases hp
 | (i, false) :: r, listed, a, w, hcl, hp, hl, hS, h => by
  simp only[planGo]at hp
  split at hp
  ·rename_i hc
   simp only[beq_iff_eq]at hc
   refine⟨fun h0=>by rw[hc]at h0;simp at h0,fun j hj=>?_⟩
   have hj2:=hj
   rw[hc]at hj
   obtain rfl:=List.mem_singleton.1 hj
   refine wpOp_mono (fun a' w' h'=>⟨h'.1,held_of_plan2 hs hz hQ listed' fuel hC r _ _ _ (hcl.set hj2) hp (by simp[hl]) (fun hnz=>h'.1 (fun e=>hnz ?_)) h'.2⟩) h
   subst e
   have hmem:j∈Region.ready .any ops listed:=by rw[hc];simp
   obtain⟨_,o,ho,_⟩:=mem_ready.1 hmem
   have:j<listed.size:=by rw[hl];exact(Array.getElem?_eq_some_iff.1 ho).1
   simp[this]
  cases hp
theorem closed_none (n:Nat):Closed ops (Array.replicate n false):=by
 intro j o ho hj
 have e:(Array.replicate n false).getD j false=false:=by
  by_cases h:j<n
  ·simp[h]
  simp[Array.getD,h]
 rw[e]at hj
 cases hj
theorem wp_region_planw {id:Nat} {l:List Oper} {a:Act} {w:World} (S:World→Prop) (z:Nat) (plan:List (Nat×Bool)) (hm:P.follows .mixedOrders=true)
  (hs:Region.noSelect l.toArray=true) (hp:(lastOK2 l.toArray z&&planOK l.toArray z (Array.replicate l.toArray.size false) plan&&decide (plan.length=l.toArray.size))=true)
  (hS:S w.drew) (h:wpPlan P l.toArray (NoPanic Q) S z (NoPanic Q .normal) plan a w.drew):(Code.region id l.toArray true).wp P Q a w:=by
 simp only[Bool.and_eq_true,decide_eq_true_eq,planOK]at hp
 split at hp
 ·rename_i l' hl'
  refine wp_region_noPanic (wp_region_any hm (any_of_anyS (S:=S) (z:=z) _ _ _ _ ?_))
  have:=held_of_plan2 (P:=P) (Q:=NoPanic Q) (S:=S) (C:=NoPanic Q .normal) hs hp.1.1 (fun c a d v w h=>h.elim) l' 0 (fun a w _ h=>anyS_done (by simpa using hp.1.2) h 0) plan _ a w.drew (closed_none _) hl' (by simp) (fun _=>hS) h
  rw[Nat.zero_add,hp.2]at this
  exact this
 simp at hp
end
end Go.Plan
namespace Go.Trk
theorem total_split (P Q:List Clip) (x:Clip):total (P++x::Q)=total P+x.len+total Q:=by rw[total_append,total_cons];omega
theorem good_mid {P Q:List Clip} {x:Clip} (h:GoodL (P++x::Q)):GoodL P∧GoodC x∧GoodL Q:=
 ⟨fun y hy=>h y (List.mem_append_left _ hy),h x (by simp),fun y hy=>h y (by simp[hy])⟩
theorem upd_next (P Q:List Clip) (x y:Clip) (f g:Clip→Clip):upd (upd (P++x::y::Q) P.length f) (P.length+1) g=P++[f x,g y]++Q:=by
 rw[upd_at]
 have h:=upd_at (P++[f x]) Q y g
 simp only[List.length_append,List.length_cons,List.length_nil,Nat.zero_add,List.append_assoc,List.singleton_append]at h
 rw[h]
 simp
theorem upd_two (P Q:List Clip) (q x y:Clip) (f g:Clip→Clip):upd (upd (P++q::x::y::Q) P.length f) (P.length+2) g=P++[f q,x,g y]++Q:=by
 rw[upd_at]
 have h:=upd_at (P++[f q,x]) Q y g
 simp only[List.length_append,List.length_cons,List.length_nil,Nat.zero_add,List.append_assoc,List.cons_append,List.nil_append,Nat.reduceAdd]at h
 rw[h]
 simp
theorem split_two {l:List Clip} {i:Nat} {x y:Clip} (hx:l[i]?=some x) (hy:l[i+1]?=some y):∃ P Q,l=P++x::y::Q∧P.length=i:=by
 obtain⟨P,R,rfl,hP⟩:=split_at hx
 subst hP
 rw[List.getElem?_append_right (by omega),show P.length+1-P.length=1 by omega]at hy
 simp only[List.getElem?_cons_succ]at hy
 cases R with
 |nil=>simp at hy
 |cons z R=>
  simp only[List.getElem?_cons_zero,Option.some.injEq]at hy
  subst hy
  exact⟨P,R,rfl,rfl⟩
theorem split_three {l:List Clip} {i:Nat} {q x y:Clip} (hq:l[i]?=some q) (hx:l[i+1]?=some x) (hy:l[i+2]?=some y):∃ P Q,l=P++q::x::y::Q∧P.length=i:=by
 obtain⟨P,R,rfl,hP⟩:=split_two hq hx
 subst hP
 rw[List.getElem?_append_right (by omega),show P.length+2-P.length=2 by omega]at hy
 simp only[List.getElem?_cons_succ]at hy
 cases R with
 |nil=>simp at hy
 |cons z R=>
  simp only[List.getElem?_cons_zero,Option.some.injEq]at hy
  subst hy
  exact⟨P,R,rfl,rfl⟩
theorem adj_undo {n:List Clip} {k:Int} {c:Nat} {d sn sd:Int} (hn:GoodL n) (hk:5≤k∧k≤10) (hc:c<n.length) (h9:k=9→0<c) (h7:k=7∨k=9→c+1<n.length) (hd:k≤9→d≠0) (hg:GoodL (adjL n k c d sn sd)) :
  UndoOf n (adjL n k c d sn sd) (fromL n k c d) (toL n k c d) (undK k d)∧(undK k d≠2→toL n k c d≤total n):=by
 have hk6:k=5∨k=6∨k=7∨k=8∨k=9∨k=10:=by omega
 obtain⟨x,hx⟩:∃ x,n[c]?=some x:=⟨_,List.getElem?_eq_getElem hc⟩
 rcases hk6 with rfl |rfl |rfl |rfl |rfl |rfl
 ·have hd':=hd (by decide)
  obtain⟨P,Q,rfl,rfl⟩:=split_at hx
  obtain⟨gP,gx,gQ⟩:=good_mid hn
  have e:adjL (P++x::Q) 5 P.length d sn sd=P++lenBy d x::Q:=by simp only[adjL];rw[if_pos trivial,upd_at]
  rw[e]at hg ⊢
  have gx':=(good_mid hg).2.1
  have tQ:=total_nonneg gQ
  have ef:fromL (P++x::Q) 5 P.length d=min (total P+x.len) (total P+x.len+d):=by simp only[fromL,end_of];simp
  have et:toL (P++x::Q) 5 P.length d=max (total P+x.len) (total P+x.len+d):=by simp only[toL,end_of];simp
  rw[ef,et,total_split]
  refine⟨undo5 gP gx gx' hd',fun h=>?_⟩
  have:¬0<d:=fun h2=>h (by simp[undK,h2])
  omega
 ·have hd':=hd (by decide)
  obtain⟨P,Q,rfl,rfl⟩:=split_at hx
  obtain⟨gP,gx,gQ⟩:=good_mid hn
  have e:adjL (P++x::Q) 6 P.length d sn sd=P++later d x::Q:=by simp only[adjL];rw[if_neg (by decide),if_pos trivial,upd_at]
  rw[e]at hg ⊢
  have gx':=(good_mid hg).2.1
  have tQ:=total_nonneg gQ
  have l1:=gx'.l
  rw[later_len]at l1
  have ef:fromL (P++x::Q) 6 P.length d=total P:=by simp only[fromL,beg_of];simp
  have et:toL (P++x::Q) 6 P.length d=total P+max d (-d):=by simp only[toL,beg_of];simp
  rw[ef,et,total_split]
  refine⟨undo6 gP gx gx' hd',fun h=>?_⟩
  have:¬d<0:=fun h2=>h (by simp[undK,h2])
  omega
 ·have hd':=hd (by decide)
  obtain⟨y,hy⟩:∃ y,n[c+1]?=some y:=⟨_,List.getElem?_eq_getElem (h7 (.inl rfl))⟩
  obtain⟨P,Q,rfl,rfl⟩:=split_two hx hy
  obtain⟨gP,gx,gyQ⟩:=good_mid hn
  have gy:=gyQ.head
  have gQ:=gyQ.tail
  have e:adjL (P++x::y::Q) 7 P.length d sn sd=P++[lenBy d x,later d y]++Q:=by simp only[adjL];rw[if_neg (by decide),if_neg (by decide),if_pos trivial,upd_next]
  rw[e]at hg ⊢
  have gx':GoodC (lenBy d x):=hg _ (by simp)
  have gy':GoodC (later d y):=hg _ (by simp)
  have tQ:=total_nonneg gQ
  have l1:=gy'.l
  rw[later_len]at l1
  have ly:=gy.l
  have ef:fromL (P++x::y::Q) 7 P.length d=min (total P+x.len) (total P+x.len+d):=by simp only[fromL,end_of];simp
  have et:toL (P++x::y::Q) 7 P.length d=max (total P+x.len) (total P+x.len+d):=by simp only[toL,end_of];simp
  rw[ef,et,total_split,total_cons]
  have e2:P++x::y::Q=P++[x,y]++Q:=by simp
  rw[e2]
  exact⟨undo7 gP gx gy gx' gy' hd',fun h=>by omega⟩
 ·obtain⟨P,Q,rfl,rfl⟩:=split_at hx
  obtain⟨gP,gx,gQ⟩:=good_mid hn
  have e:adjL (P++x::Q) 8 P.length d sn sd=P++slipBy d x::Q:=by simp only[adjL];rw[if_neg (by decide),if_neg (by decide),if_neg (by decide),if_pos trivial,upd_at]
  rw[e]at hg ⊢
  have gx':=(good_mid hg).2.1
  have tQ:=total_nonneg gQ
  have ef:fromL (P++x::Q) 8 P.length d=total P:=by simp only[fromL,beg_of];simp
  have et:toL (P++x::Q) 8 P.length d=total P+x.len:=by simp only[toL,end_of];simp
  rw[ef,et,total_split]
  exact⟨undo8 gP gx gx' rfl,fun h=>by omega⟩
 ·have hd':=hd (by decide)
  have hc0:=h9 rfl
  obtain⟨c,rfl⟩:∃ j,c=j+1:=⟨c-1,by omega⟩
  obtain⟨y,hy⟩:∃ y,n[c+1+1]?=some y:=⟨_,List.getElem?_eq_getElem (h7 (.inr rfl))⟩
  obtain⟨q,hq⟩:∃ q,n[c]?=some q:=⟨_,List.getElem?_eq_getElem (by omega)⟩
  obtain⟨P,Q,rfl,rfl⟩:=split_three hq hx hy
  obtain⟨gP,gq,gR⟩:=good_mid hn
  have gx:=gR.head
  have gy:=gR.tail.head
  have gQ:=gR.tail.tail
  have e:adjL (P++q::x::y::Q) 9 (P.length+1) d sn sd=P++[lenBy d q,x,later d y]++Q:=by
   simp only[adjL]
   rw[if_neg (by decide),if_neg (by decide),if_neg (by decide),if_neg (by decide),if_pos trivial,Nat.add_sub_cancel,upd_two]
  rw[e]at hg ⊢
  have gq':GoodC (lenBy d q):=hg _ (by simp)
  have gy':GoodC (later d y):=hg _ (by simp)
  have tQ:=total_nonneg gQ
  have l1:=gy'.l
  rw[later_len]at l1
  have ly:=gy.l
  have eb:begL (P++q::x::y::Q) (P.length+1)=total P+q.len:=end_of P _ q
  have ee:endL (P++q::x::y::Q) (P.length+1)=total P+q.len+x.len:=by
   have h:=end_of (P++[q]) (y::Q) x
   simp only[List.length_append,List.length_cons,List.length_nil,Nat.zero_add,List.append_assoc,List.singleton_append]at h
   rw[h,total_append,total_one]
  have ef:fromL (P++q::x::y::Q) 9 (P.length+1) d=min (total P+q.len) (total P+q.len+d):=by simp only[fromL,eb];simp
  have et:toL (P++q::x::y::Q) 9 (P.length+1) d=max (total P+q.len+x.len) (total P+q.len+x.len+d):=by simp only[toL,ee];simp
  rw[ef,et,total_split,total_cons,total_cons]
  have e2:P++q::x::y::Q=P++[q,x,y]++Q:=by simp
  rw[e2]
  exact⟨(undo9 gP gq gx gy gq' gy' hd').1,fun h=>by omega⟩
 obtain⟨P,Q,rfl,rfl⟩:=split_at hx
 obtain⟨gP,gx,gQ⟩:=good_mid hn
 have e:adjL (P++x::Q) 10 P.length d sn sd=P++speedy sn sd x::Q:=by
  simp only[adjL]
  rw[if_neg (by decide),if_neg (by decide),if_neg (by decide),if_neg (by decide),if_neg (by decide),upd_at]
 rw[e]at hg ⊢
 have gx':=(good_mid hg).2.1
 have tQ:=total_nonneg gQ
 have ef:fromL (P++x::Q) 10 P.length d=total P:=by simp only[fromL,beg_of];simp
 have et:toL (P++x::Q) 10 P.length d=total P+x.len:=by simp only[toL,end_of];simp
 rw[ef,et,total_split]
 exact⟨undo8 gP gx gx' rfl,fun h=>by omega⟩
def Bd (M:Int) (c:Clip):Prop:=-M≤c.len∧c.len≤M∧-M≤c.off∧c.off≤M∧-M≤c.total∧c.total≤M
theorem Bd.mono {M K:Int} {c:Clip} (h:Bd M c) (hk:M≤K):Bd K c:=by
 obtain⟨a,b,c,d,e,f⟩:=h
 exact⟨by omega,by omega,by omega,by omega,by omega,by omega⟩
theorem bd_upd {M K:Int} {l:List Clip} (h:∀ c∈l,Bd M c) (hk:M≤K) {f:Clip→Clip} (hf:∀ c,Bd M c→Bd K (f c)) (i:Nat):∀ c∈upd l i f,Bd K c:=fun y hy=>by
 rcases mem_upd hy with hy |⟨x,hx,rfl⟩
 ·exact(h y hy).mono hk
 exact hf x (h x hx)
theorem bd_lenBy {M d D:Int} (h0:-D≤d) (h1:d≤D) (c:Clip) (h:Bd M c):Bd (M+D) (lenBy d c):=by
 obtain⟨a1,a2,a3,a4,a5,a6⟩:=h
 exact⟨by show _≤c.len+d;omega,by show c.len+d≤_;omega,by show _≤c.off;omega,by show c.off≤_;omega,by show _≤c.total;omega,by show c.total≤_;omega⟩
theorem bd_later {M d D:Int} (h0:-D≤d) (h1:d≤D) (c:Clip) (h:Bd M c):Bd (M+D) (later d c):=by
 obtain⟨a1,a2,a3,a4,a5,a6⟩:=h
 have e:(later d c).off=if shares c.kind=true then c.off+d else c.off:=rfl
 refine⟨by show _≤c.len-d;omega,by show c.len-d≤_;omega,?_,?_,by show _≤c.total;omega,by show c.total≤_;omega⟩
 ·rw[e];split<;>omega
 rw[e];split<;>omega
theorem adj_bd {M D:Int} {n:List Clip} {k:Int} {c:Nat} {d sn sd:Int} (h:∀ x∈n,Bd M x) (h0:-D≤d) (h1:d≤D):∀ y∈adjL n k c d sn sd,Bd (M+D+D) y:=by
 have hD:0≤D:=by omega
 have A:=fun i=>bd_upd h (show M≤M+D by omega) (bd_lenBy h0 h1) i
 have B:=fun i j=>bd_upd (A i) (show M+D≤M+D+D by omega) (bd_later h0 h1) j
 unfold adjL
 split
 ·exact fun y hy=>(A c y hy).mono (by omega)
 split
 ·exact fun y hy=>(bd_upd h (show M≤M+D by omega) (bd_later h0 h1) c y hy).mono (by omega)
 split
 ·exact B _ _
 split
 ·exact bd_upd h (by omega) (fun x hx=>by
   obtain⟨a1,a2,a3,a4,a5,a6⟩:=hx.mono (show M≤M+D+D by omega)
   exact⟨a1,a2,a3,a4,a5,a6⟩) c
 split
 ·exact B _ _
 exact bd_upd h (by omega) (fun x hx=>by
  obtain⟨a1,a2,a3,a4,a5,a6⟩:=hx.mono (show M≤M+D+D by omega)
  exact⟨a1,a2,a3,a4,a5,a6⟩) c
theorem total_bd {M:Int} (hM:0≤M):∀ {l:List Clip},(∀ c∈l,Bd M c)→-(M*l.length)≤total l∧total l≤M*l.length
 |[],_=>⟨by show -(M*0)≤0;omega,by show(0:Int)≤M*0;omega⟩
 |c::l,h=>by
  have ih:=total_bd hM (l:=l) fun x hx=>h x (List.mem_cons_of_mem _ hx)
  have hc:=h c List.mem_cons_self
  rw[total_cons,List.length_cons]
  have e:M*((l.length+1:Nat):Int)=M*l.length+M:=by rw[Int.natCast_add,Int.mul_add];simp
  rw[e]
  obtain⟨a1,a2,_⟩:=hc
  omega
end Go.Trk
namespace Go.Plan
open Go
inductive PT where
 |leaf
 |run (l:List (Nat×Bool)) (r:PT)
 |fork (i:Nat) (r:PT) (j:Nat) (s:PT)
 |dyn (r:PT)
def PT.cnt:PT→Nat
 |leaf=>0
 |run l r=>r.cnt+l.length
 |fork _ r _ _=>r.cnt+1
 |dyn r=>r.cnt
def treeGo (ops:Array Oper) (z:Nat):Array Bool→PT→Bool
 |listed,.leaf=>(Region.ready .any ops listed).isEmpty
 |listed,.run l r=>match planGo ops z listed l with
  |some l'=>treeGo ops z l' r&&decide (l'.size=ops.size)
  |none=>false
 |listed,.fork i r j s=>Region.ready .any ops listed==[i,j]&&decide (r.cnt=s.cnt)&&decide (listed.size=ops.size)&&treeGo ops z (listed.setIfInBounds i true) r&&treeGo ops z (listed.setIfInBounds j true) s
 |listed,.dyn r=>treeGo ops z listed r
section
variable {P:Program} {ops:Array Oper} {Q:Exit→Act→World→Prop} {S:World→Prop} {z:Nat}
def wpTree (P:Program) (ops:Array Oper) (Q:Exit→Act→World→Prop):PT→(World→Prop)→Act→World→Prop
 |.leaf,_,a,w=>Q .normal a w
 |.run l r,S,a,w=>wpPlan P ops Q S ops.size (wpTree P ops Q r S) l a w
 |.fork i r j s,S,a,w=>wpOp P ops Q i (fun a' w'=>S w'∧wpTree P ops Q r S a' w') a w∧wpOp P ops Q j (fun a' w'=>S w'∧wpTree P ops Q s S a' w') a w
 |.dyn r,S,a,w=>∃ S2:World→Prop,(∀ w,S2 w→S w)∧S2 w∧wpTree P ops Q r S2 a w
theorem anyS_weak {S S2:World→Prop} (h:∀ w,S2 w→S w):∀ (fuel:Nat) (listed:Array Bool) (a:Act) (w:World),anyS P ops Q S2 z fuel listed a w→anyS P ops Q S z fuel listed a w
 |0,_,_,_,h'=>h'
 |fuel+1,_,_,_,h'=>⟨h'.1,fun i hi=>wpOp_mono (fun a' w' hx=>⟨fun hz=>h _ (hx.1 hz),anyS_weak h fuel _ a' w' hx.2⟩) (h'.2 i hi)⟩
theorem held_of_tree (hs:Region.noSelect ops=true) (hQ:∀ c a d v w,Q (.panic c) (a.put d v) w→Q (.panic c) a w) :
  ∀ (t:PT) (S:World→Prop) (listed:Array Bool) (a:Act) (w:World),treeGo ops ops.size listed t=true→listed.size=ops.size→S w→wpTree P ops Q t S a w→anyS P ops Q S ops.size t.cnt listed a w
 |.leaf,S,listed,a,w,hg,_,hS,h=>anyS_done (by simpa [treeGo] using hg) h 0
 | .run l r, S, listed, a, w, hg, hl, hS, h => by
  simp only[treeGo]at hg
  split at hg
  ·rename_i l' hl'
   simp only[Bool.and_eq_true,decide_eq_true_eq]at hg
   refine held_of_plan hs (lastOK_none ops) hQ l' r.cnt (fun a w hSw hC=>held_of_tree hs hQ r S l' a w hg.1 hg.2 (hSw ?_) hC) l listed a w hl' hl (fun _=>hS) h
   have e:l'.getD ops.size false=false:=by
    rw[Array.getD_eq_getD_getElem?,Array.getElem?_eq_none (by omega)]
    rfl
   rw[e];simp
  cases hg
 | .fork i r j s, S, listed, a, w, hg, hl, hS, h => by
  simp only[treeGo,Bool.and_eq_true,beq_iff_eq,decide_eq_true_eq]at hg
  obtain⟨⟨⟨⟨hr,hc⟩,_⟩,h1⟩,h2⟩:=hg
  refine⟨fun h0=>by rw[hr]at h0;simp at h0,fun k hk=>?_⟩
  rw[hr]at hk
  simp only[List.mem_cons,List.not_mem_nil,or_false]at hk
  rcases hk with rfl |rfl
  ·exact wpOp_mono (fun a' w' h'=>⟨fun _=>h'.1,held_of_tree hs hQ r S _ a' w' h1 (by simp[hl]) h'.1 h'.2⟩) h.1
  refine wpOp_mono (fun a' w' h'=>⟨fun _=>h'.1,?_⟩) h.2
  rw[show r.cnt=s.cnt from hc]
  exact held_of_tree hs hQ s S _ a' w' h2 (by simp[hl]) h'.1 h'.2
 |.dyn r,S,listed,a,w,hg,hl,hS,h=>by
  obtain⟨S2,h1,h2,h3⟩:=h
  exact anyS_weak h1 _ _ _ _ (held_of_tree hs hQ r S2 listed a w hg hl h2 h3)
theorem wp_region_tree {id:Nat} {l:List Oper} {a:Act} {w:World} (S:World→Prop) (t:PT) (hm:P.follows .mixedOrders=true)
  (hs:Region.noSelect l.toArray=true) (hp:(treeGo l.toArray l.toArray.size (Array.replicate l.toArray.size false) t&&decide (t.cnt=l.toArray.size))=true)
  (hS:S w.drew) (h:wpTree P l.toArray (NoPanic Q) t S a w.drew):(Code.region id l.toArray true).wp P Q a w:=by
 simp only[Bool.and_eq_true,decide_eq_true_eq]at hp
 refine wp_region_noPanic (wp_region_any hm (any_of_anyS (S:=S) (z:=l.toArray.size) _ _ _ _ ?_))
 have:=held_of_tree (P:=P) (Q:=NoPanic Q) hs (fun c a d v w h=>h.elim) t S _ a w.drew hp.1 (by simp) hS h
 rw[hp.2]at this
 exact this
theorem op_of_list {i:Nat} {o:Oper} {T:Act→World→Prop} {a:Act} {w:World} (ho:ops[i]?=some o)
  (h:∀ K:Act→World→Prop,(∀ a' w',S w'∧T a' w'→K a' w')→wpList P ops (Exit.then K Q) [o] a w):wpOp P ops Q i (fun a' w'=>S w'∧T a' w') a w:=by
 have:=plan_of_effect (P:=P) (Q:=Q) (S:=fun _=>True) (z:=ops.size) (C:=fun a' w'=>S w'∧T a' w') (rest:=[]) (i:=i) ho
  (fun K hK=>h K fun a' w' h'=>hK a' w' ⟨trivial,h'⟩)
 exact wpOp_mono (fun a' w' h'=>h'.2) this
theorem tree_leaf {a:Act} {w:World} (h:Q .normal a w):wpTree P ops (NoPanic Q) .leaf S a w:=h
theorem tree_run {l:List (Nat×Bool)} {r:PT} {a:Act} {w:World} (h:wpPlan P ops Q S ops.size (wpTree P ops Q r S) l a w):wpTree P ops Q (.run l r) S a w:=h
theorem tree_dyn {r:PT} {a:Act} {w:World} (S2:World→Prop) (h1:∀ w,S2 w→S w) (h2:S2 w) (h:wpTree P ops Q r S2 a w):wpTree P ops Q (.dyn r) S a w:=⟨S2,h1,h2,h⟩
theorem tree_fork {i j:Nat} {r s:PT} {a:Act} {w:World} (h1:wpOp P ops Q i (fun a' w'=>S w'∧wpTree P ops Q r S a' w') a w) (h2:wpOp P ops Q j (fun a' w'=>S w'∧wpTree P ops Q s S a' w') a w):wpTree P ops Q (.fork i r j s) S a w:=⟨h1,h2⟩
end
end Go.Plan
namespace Go.Trk
theorem fr_at:∀ {l:List Clip} {i:Nat} {c:Clip} {x:Int},GoodL l→l[i]?=some c→0≤x→x<c.len→fr l (total (l.take i)+x)=one c x
 |[],i,c,x,g,h,_,_=>by simp at h
 |d::l,0,c,x,g,h,h0,h1=>by
  simp only[List.getElem?_cons_zero,Option.some.injEq]at h
  subst h
  show fr (d::l) (0+x)=_
  rw[Int.zero_add,fr_lt h1]
 |d::l,i+1,c,x,g,h,h0,h1=>by
  simp only[List.getElem?_cons_succ]at h
  have hd:=g.head.l
  have ht:0≤total (l.take i):=total_nonneg fun y hy=>g.tail y (List.mem_of_mem_take hy)
  show fr (d::l) (d.len+total (l.take i)+x)=_
  rw[fr_ge (by omega),show d.len+total (l.take i)+x-d.len=total (l.take i)+x by omega]
  exact fr_at g.tail h h0 h1
theorem one_step {c d:Clip} {a b:Int} (hc:GoodC c) (hd:GoodC d) (h:one c a=one d b) (t:Int):one c (a+t)=one d (b+t):=by
 have e1:one (one c a) t=one c (a+t):=by
  show one (withLen (shift c a) 1) t=_
  rw[one_withLen,one_shift hc.a hc.b]
 have e2:one (one d b) t=one d (b+t):=by
  show one (withLen (shift d b) 1) t=_
  rw[one_withLen,one_shift hd.a hd.b]
 rw[← e1,← e2,h]
theorem total_take {l:List Clip} {i:Nat} {c:Clip} (h:l[i]?=some c):total (l.take (i+1))=total (l.take i)+c.len:=by
 have e:l.take (i+1)=l.take i++[c]:=by rw[List.take_add_one,h];rfl
 rw[e,total_append]
 show _+(c.len+0)=_
 omega
theorem total_drop {l:List Clip} {i:Nat} {c:Clip} (h:l[i]?=some c):total (l.drop i)=c.len+total (l.drop (i+1)):=by
 have hlt:=(List.getElem?_eq_some_iff.1 h).1
 rw[List.drop_eq_getElem_cons hlt,(List.getElem?_eq_some_iff.1 h).2]
 rfl
theorem take_drop_total (l:List Clip) (i:Nat):total (l.take i)+total (l.drop i)=total l:=by
 rw[← total_append,List.take_append_drop]
theorem GoodL.take {l:List Clip} (g:GoodL l) (i:Nat):GoodL (l.take i):=fun y hy=>g y (List.mem_of_mem_take hy)
theorem GoodL.drop {l:List Clip} (g:GoodL l) (i:Nat):GoodL (l.drop i):=fun y hy=>g y (List.mem_of_mem_drop hy)
theorem total_take_le {l:List Clip} (g:GoodL l) (i:Nat):total (l.take i)≤total l:=by
 have h1:=take_drop_total l i
 have h2:=total_nonneg (g.drop i)
 omega
theorem fr_end {l:List Clip} {i:Nat} {c:Clip} {y:Int} (g:GoodL l) (h:l[i]?=some c) (h0:0≤y) (h1:y<c.len):fr l (total l-1-(total (l.drop (i+1))+y))=one c (c.len-1-y):=by
 have e1:=take_drop_total l i
 have e2:=total_drop h
 rw[show total l-1-(total (l.drop (i+1))+y)=total (l.take i)+(c.len-1-y) by omega]
 exact fr_at g h (by omega) (by omega)
structure Pre (n m:List Clip) (p:Int):Prop where
 h0:0≤p
 h1:p≤total n
 h2:p≤total m
 f:∀ i,0≤i→i<p→fr n i=fr m i
 x:p<total n→p<total m→fr n p≠fr m p
structure Suf (n m:List Clip) (lim s:Int):Prop where
 h0:0≤s
 h1:s≤lim
 f:∀ i,0≤i→i<s→fr n (total n-1-i)=fr m (total m-1-i)
 x:s<lim→fr n (total n-1-s)≠fr m (total m-1-s)
structure At (n:List Clip) (i:Nat) (b p:Int):Prop where
 e:p=total (n.take i)+b
 b0:0≤b
 il:i≤n.length
 b1:∀ c,n[i]?=some c→b<c.len
 z:i=n.length→b=0
theorem At.zero {n:List Clip} (g:GoodL n):At n 0 0 0:=
 ⟨rfl,Int.le_refl 0,Nat.zero_le _,fun c hc=>by have:=(g c (List.mem_of_getElem? hc)).l;omega,fun _=>rfl⟩
theorem At.le {n:List Clip} {i:Nat} {b p:Int} (g:GoodL n) (h:At n i b p):0≤p∧p≤total n:=by
 have h0:=total_nonneg (g.take i)
 have h1:=h.e
 have h2:=h.b0
 refine⟨by omega,?_⟩
 rcases Nat.lt_or_ge i n.length with hi |hi
 ·obtain⟨c,hc⟩:∃ c,n[i]?=some c:=⟨_,List.getElem?_eq_getElem hi⟩
  have:=h.b1 c hc
  have h3:=total_take hc
  have h4:=total_take_le g (i+1)
  omega
 have:=h.z (by have:=h.il;omega)
 have h4:=total_take_le g i
 omega
theorem At.end_ {n:List Clip} {b p:Int} (h:At n n.length b p):p=total n:=by
 have h1:=h.e
 have h2:=h.z rfl
 rw[List.take_length]at h1
 omega
theorem At.fr {n:List Clip} {i:Nat} {b p:Int} (g:GoodL n) (h:At n i b p) {c:Clip} (hc:n[i]?=some c):fr n p=one c b:=by
 rw[h.e];exact fr_at g hc h.b0 (h.b1 c hc)
theorem At.next {n:List Clip} {i:Nat} {b p:Int} (g:GoodL n) (h:At n i b p) {c:Clip} (hc:n[i]?=some c):At n (i+1) 0 (p+(c.len-b)):=by
 refine⟨by rw[total_take hc,h.e];omega,Int.le_refl 0,(List.getElem?_eq_some_iff.1 hc).1,fun d hd=>?_,fun _=>rfl⟩
 have:=(g d (List.mem_of_getElem? hd)).l
 omega
theorem At.on {n:List Clip} {i:Nat} {b p t:Int} (h:At n i b p) {c:Clip} (hc:n[i]?=some c) (h0:0≤t) (h1:b+t<c.len):At n i (b+t) (p+t):=by
 refine⟨by rw[h.e];omega,by have:=h.b0;omega,h.il,fun d hd=>?_,fun e=>?_⟩
 ·rw[hc]at hd;cases hd;exact h1
 have:=(List.getElem?_eq_some_iff.1 hc).1;omega
structure PreAt (n m:List Clip) (i j:Nat) (b s p:Int):Prop where
 a:At n i b p
 c:At m j s p
 f:∀ k,0≤k→k<p→fr n k=fr m k
theorem PreAt.zero {n m:List Clip} (g:GoodL n) (k:GoodL m):PreAt n m 0 0 0 0 0:=⟨At.zero g,At.zero k,fun k h h2=>by omega⟩
theorem PreAt.more {n m:List Clip} {i j:Nat} {b s p:Int} (gn:GoodL n) (gm:GoodL m) (h:PreAt n m i j b s p) {c d:Clip} (hc:n[i]?=some c) (hd:m[j]?=some d) (e:one c b=one d s) {t:Int} (t1:t≤c.len-b) (t2:t≤d.len-s) :
  ∀ k,0≤k→k<p+t→fr n k=fr m k:=by
 intro k k0 k1
 by_cases hk:k<p
 ·exact h.f k k0 hk
 have gc:=gn c (List.mem_of_getElem? hc)
 have gd:=gm d (List.mem_of_getElem? hd)
 have e1:=fr_at (x:=b+(k-p)) gn hc (by have:=h.a.b0;omega) (by omega)
 have e2:=fr_at (x:=s+(k-p)) gm hd (by have:=h.c.b0;omega) (by omega)
 rw[show total (n.take i)+(b+(k-p))=k by have:=h.a.e;omega]at e1
 rw[show total (m.take j)+(s+(k-p))=k by have:=h.c.e;omega]at e2
 rw[e1,e2,one_step gc gd e (k-p)]
theorem PreAt.step {n m:List Clip} {i j:Nat} {b s p:Int} (gn:GoodL n) (gm:GoodL m) (h:PreAt n m i j b s p) {c d:Clip} (hc:n[i]?=some c) (hd:m[j]?=some d) (e:one c b=one d s) {t:Int} (ht:t=min (c.len-b) (d.len-s)) :
  PreAt n m (if b+t=c.len then i+1 else i) (if s+t=d.len then j+1 else j) (if b+t=c.len then 0 else b+t) (if s+t=d.len then 0 else s+t) (p+t):=by
 have b1:=h.a.b1 c hc
 have s1:=h.c.b1 d hd
 refine⟨?_,?_,h.more gn gm hc hd e (by omega) (by omega)⟩
 ·split
  ·have:=h.a.next gn hc
   rw[show c.len-b=t by omega]at this
   exact this
  exact h.a.on hc (by omega) (by omega)
 split
 ·have:=h.c.next gm hd
  rw[show d.len-s=t by omega]at this
  exact this
 exact h.c.on hd (by omega) (by omega)
theorem PreAt.done {n m:List Clip} {i j:Nat} {b s p:Int} (gn:GoodL n) (gm:GoodL m) (h:PreAt n m i j b s p) (hx:i=n.length∨j=m.length∨∃ c d,n[i]?=some c∧m[j]?=some d∧one c b≠one d s):Pre n m p:=by
 have h1:=h.a.le gn
 have h2:=h.c.le gm
 refine⟨h1.1,h1.2,h2.2,h.f,fun k1 k2=>?_⟩
 rcases hx with rfl |rfl |⟨c,d,hc,hd,hne⟩
 ·have:=h.a.end_;omega
 ·have:=h.c.end_;omega
 rw[h.a.fr gn hc,h.c.fr gm hd];exact hne
structure Af (n:List Clip) (i:Nat) (b p:Int):Prop where
 e:p=total (n.drop i)+b
 b0:0≤b
 il:i≤n.length
 b1:∀ k c,i=k+1→n[k]?=some c→b<c.len
 z:i=0→b=0
theorem Af.zero {n:List Clip} (g:GoodL n):Af n n.length 0 0:=
 ⟨by rw[List.drop_length];rfl,Int.le_refl 0,Nat.le_refl _,fun k c _ hc=>by have:=(g c (List.mem_of_getElem? hc)).l;omega,fun _=>rfl⟩
theorem Af.end_ {n:List Clip} {b p:Int} (h:Af n 0 b p):p=total n:=by
 have h1:=h.e
 have h2:=h.z rfl
 rw[List.drop_zero]at h1
 omega
theorem Af.nonneg {n:List Clip} {i:Nat} {b p:Int} (g:GoodL n) (h:Af n i b p):0≤p:=by
 have h0:=total_nonneg (g.drop i)
 have h1:=h.e
 have h2:=h.b0
 omega
theorem Af.fr {n:List Clip} {k:Nat} {b p:Int} (g:GoodL n) (h:Af n (k+1) b p) {c:Clip} (hc:n[k]?=some c):fr n (total n-1-p)=one c (c.len-1-b):=by
 rw[h.e];exact fr_end g hc h.b0 (h.b1 k c rfl hc)
theorem Af.next {n:List Clip} {k:Nat} {b p:Int} (g:GoodL n) (h:Af n (k+1) b p) {c:Clip} (hc:n[k]?=some c):Af n k 0 (p+(c.len-b)):=by
 refine⟨by rw[total_drop hc,h.e];omega,Int.le_refl 0,by have:=h.il;omega,fun i d _ hd=>?_,fun _=>rfl⟩
 have:=(g d (List.mem_of_getElem? hd)).l
 omega
theorem Af.on {n:List Clip} {k:Nat} {b p t:Int} (h:Af n (k+1) b p) {c:Clip} (hc:n[k]?=some c) (h0:0≤t) (h1:b+t<c.len):Af n (k+1) (b+t) (p+t):=by
 refine⟨by rw[h.e];omega,by have:=h.b0;omega,h.il,fun i d e hd=>?_,fun e=>by omega⟩
 have:i=k:=by omega
 subst this
 rw[hc]at hd;cases hd;exact h1
structure SufAt (n m:List Clip) (i j:Nat) (b s p:Int):Prop where
 a:Af n i b p
 c:Af m j s p
 f:∀ k,0≤k→k<p→fr n (total n-1-k)=fr m (total m-1-k)
theorem SufAt.zero {n m:List Clip} (g:GoodL n) (k:GoodL m):SufAt n m n.length m.length 0 0 0:=⟨Af.zero g,Af.zero k,fun k h h2=>by omega⟩
theorem SufAt.more {n m:List Clip} {i j:Nat} {b s p:Int} (gn:GoodL n) (gm:GoodL m) (h:SufAt n m (i+1) (j+1) b s p) {c d:Clip} (hc:n[i]?=some c) (hd:m[j]?=some d) (e:one c (c.len-1-b)=one d (d.len-1-s)) {t:Int} (t1:t≤c.len-b) (t2:t≤d.len-s) :
  ∀ k,0≤k→k<p+t→fr n (total n-1-k)=fr m (total m-1-k):=by
 intro k k0 k1
 by_cases hk:k<p
 ·exact h.f k k0 hk
 have gc:=gn c (List.mem_of_getElem? hc)
 have gd:=gm d (List.mem_of_getElem? hd)
 have e1:=fr_end (y:=b+(k-p)) gn hc (by have:=h.a.b0;omega) (by omega)
 have e2:=fr_end (y:=s+(k-p)) gm hd (by have:=h.c.b0;omega) (by omega)
 rw[show total (n.drop (i+1))+(b+(k-p))=k by have:=h.a.e;omega]at e1
 rw[show total (m.drop (j+1))+(s+(k-p))=k by have:=h.c.e;omega]at e2
 have e3:=one_step gc gd e (p-k)
 rw[show c.len-1-b+(p-k)=c.len-1-(b+(k-p)) by omega,show d.len-1-s+(p-k)=d.len-1-(s+(k-p)) by omega]at e3
 rw[e1,e2,e3]
theorem SufAt.step {n m:List Clip} {i j:Nat} {b s p:Int} (gn:GoodL n) (gm:GoodL m) (h:SufAt n m (i+1) (j+1) b s p) {c d:Clip} (hc:n[i]?=some c) (hd:m[j]?=some d) (e:one c (c.len-1-b)=one d (d.len-1-s)) {t:Int} (ht:t=min (c.len-b) (d.len-s)) :
  SufAt n m (if b+t=c.len then i else i+1) (if s+t=d.len then j else j+1) (if b+t=c.len then 0 else b+t) (if s+t=d.len then 0 else s+t) (p+t):=by
 have b1:=h.a.b1 i c rfl hc
 have s1:=h.c.b1 j d rfl hd
 refine⟨?_,?_,h.more gn gm hc hd e (by omega) (by omega)⟩
 ·split
  ·have:=h.a.next gn hc
   rw[show c.len-b=t by omega]at this
   exact this
  exact h.a.on hc (by omega) (by omega)
 split
 ·have:=h.c.next gm hd
  rw[show d.len-s=t by omega]at this
  exact this
 exact h.c.on hd (by omega) (by omega)
theorem SufAt.done {n m:List Clip} {i j:Nat} {b s p lim:Int} (gn:GoodL n) (gm:GoodL m) (h:SufAt n m i j b s p) (l0:0≤lim) (l1:lim≤total n) (l2:lim≤total m)
  (hx:lim≤p∨i=0∨j=0∨∃ i' j' c d,i=i'+1∧j=j'+1∧n[i']?=some c∧m[j']?=some d∧one c (c.len-1-b)≠one d (d.len-1-s)):Suf n m lim (min p lim):=by
 have h0:=h.a.nonneg gn
 refine⟨by omega,by omega,fun k k0 k1=>h.f k k0 (by omega),fun hl=>?_⟩
 rcases hx with hx |rfl |rfl |⟨i',j',c,d,rfl,rfl,hc,hd,hne⟩
 ·omega
 ·have:=h.a.end_;omega
 ·have:=h.c.end_;omega
 rw[show min p lim=p by omega,h.a.fr gn hc,h.c.fr gm hd];exact hne
structure Diff (n m:List Clip) (p q:Int) (x:List Clip):Prop where
 pre:Pre n m p
 suf:Suf n m (min (total n) (total m)-p) (total n-q)
 x:x=if p=total m-(total n-q) then[] else cut m p (total m-(total n-q))
theorem Diff.le {n m x:List Clip} {p q:Int} (h:Diff n m p q x):0≤p∧p≤q∧q≤total n∧p≤total m-(total n-q)∧0≤total n-q:=by
 have h1:=h.pre.h0
 have h2:=h.suf.h0
 have h3:=h.suf.h1
 refine⟨h1,?_,?_,?_,h2⟩<;>omega
theorem base_nat {A D:Nat} (hA:0<A) (hD:0<D):A / A.gcd D*D=A*(D / A.gcd D)∧A / A.gcd D*D / A=D / A.gcd D∧A / A.gcd D*D / D=A / A.gcd D∧0<A / A.gcd D*D:=by
 have g0:0<A.gcd D:=Nat.gcd_pos_of_pos_left _ hA
 have ga:A.gcd D∣A:=Nat.gcd_dvd_left _ _
 have gd:A.gcd D∣D:=Nat.gcd_dvd_right _ _
 have e:A / A.gcd D*D=A*(D / A.gcd D):=by
  rw[← Nat.mul_div_assoc _ gd,Nat.div_mul_right_comm ga]
 refine⟨e,?_,Nat.mul_div_cancel _ hD,Nat.mul_pos (Nat.div_pos (Nat.le_of_dvd hA ga) g0) hD⟩
 rw[e]
 exact Nat.mul_div_cancel_left _ hA
def baseN (s:Src):Nat:=s.ad.toNat / s.ad.toNat.gcd s.sd.toNat*s.sd.toNat
def posN (s:Src) (k:Int):Int:=s.an*((s.sd.toNat / s.ad.toNat.gcd s.sd.toNat:Nat):Int)+k*s.sn*((s.ad.toNat / s.ad.toNat.gcd s.sd.toNat:Nat):Int)
theorem pos_rat {s:Src} (h:Good s) (k:Int):s.at'+k*s.sp=mkRat (posN s k) (baseN s):=by
 obtain⟨A,hA⟩:=Int.eq_ofNat_of_zero_le (show 0≤s.ad by have:=h.a0;omega)
 obtain⟨D,hD⟩:=Int.eq_ofNat_of_zero_le (show 0≤s.sd by have:=h.s0;omega)
 have a0:0<A:=by have:=h.a0;omega
 have d0:0<D:=by have:=h.s0;omega
 obtain⟨b1,b2,b3,b4⟩:=base_nat a0 d0
 have g0:0<A.gcd D:=Nat.gcd_pos_of_pos_left _ a0
 have ga:A / A.gcd D*A.gcd D=A:=Nat.div_mul_cancel (Nat.gcd_dvd_left _ _)
 have gd:D / A.gcd D*A.gcd D=D:=Nat.div_mul_cancel (Nat.gcd_dvd_right _ _)
 unfold Src.at' Src.sp posN baseN
 rw[hA,hD,Int.toNat_natCast,Int.toNat_natCast]
 obtain⟨g,eg⟩:=Xq (A.gcd D)
 rw[← eg]at g0 ga gd ⊢
 obtain⟨a,ea⟩:=Xq (A / g)
 obtain⟨d,ed⟩:=Xq (D / g)
 rw[← ea,← ed]
 rw[← ea]at ga
 rw[← ed]at gd
 have ek:(k:Rat)=mkRat k 1:=by rw[Rat.mkRat_one]
 rw[ek,Rat.mkRat_mul_mkRat,Nat.one_mul,Rat.mkRat_add_mkRat _ _ (by omega) (by omega)]
 have e1:s.an*(D:Int)+k*s.sn*(A:Int)=(s.an*(d:Int)+k*s.sn*(a:Int))*(g:Int):=by
  have e1:(D:Int)=(d:Int)*(g:Int):=by exact_mod_cast gd.symm
  have e2:(A:Int)=(a:Int)*(g:Int):=by exact_mod_cast ga.symm
  rw[e1,e2,Int.add_mul,← Int.mul_assoc,← Int.mul_assoc]
 have e2:A*D=(a*D)*g:=by
  rw[← ga,Nat.mul_right_comm]
 rw[e1,e2]
 exact Rat.mkRat_mul_right (by omega)
theorem base_pos {s:Src} (h:Good s):0<baseN s:=by
 have a0:=h.a0
 have d0:=h.s0
 exact(base_nat (A:=s.ad.toNat) (D:=s.sd.toNat) (by omega) (by omega)).2.2.2
theorem moved_num {s:Src} (h:Good s) (k:Int):(moved s k).an=posN s k / (((posN s k).natAbs.gcd (baseN s):Nat):Int)∧(moved s k).ad=(baseN s:Int) / (((posN s k).natAbs.gcd (baseN s):Nat):Int):=by
 have em:moved s k={ s with an:=(s.at'+k*s.sp).num,ad:=(s.at'+k*s.sp).den }:=by unfold moved;rw[if_neg h.ne]
 have hb:=base_pos h
 rw[em,pos_rat h k]
 refine⟨?_,?_⟩
 ·show(mkRat _ _).num=_
  rw[Rat.num_mkRat,if_neg (by omega),Nat.gcd_comm]
 show((mkRat _ _).den:Int)=_
 rw[Rat.den_mkRat,if_neg (by omega),Nat.gcd_comm,Int.natCast_ediv]
theorem moved_name (s:Src) (n:Int):(moved s n).name=s.name:=by unfold moved;split<;>rfl
theorem moved_sn (s:Src) (n:Int):(moved s n).sn=s.sn∧(moved s n).sd=s.sd∧(moved s n).smooth=s.smooth:=by unfold moved;split<;>exact⟨rfl,rfl,rfl⟩
theorem moved_eq {a b:Src} (j k:Int):moved a j=moved b k↔((moved a j).an=(moved b k).an∧(moved a j).ad=(moved b k).ad)∧a.kind=b.kind∧a.name=b.name∧a.sn=b.sn∧a.sd=b.sd∧a.smooth=b.smooth:=by
 constructor
 ·intro h
  refine⟨⟨by rw[h],by rw[h]⟩,?_,?_,?_,?_,?_⟩
  ·have:=congrArg Src.kind h;rwa [moved_kind,moved_kind]at this
  ·have:=congrArg Src.name h;rwa [moved_name,moved_name]at this
  ·have:=congrArg Src.sn h;rwa [(moved_sn a j).1,(moved_sn b k).1]at this
  ·have:=congrArg Src.sd h;rwa [(moved_sn a j).2.1,(moved_sn b k).2.1]at this
  have:=congrArg Src.smooth h;rwa [(moved_sn a j).2.2,(moved_sn b k).2.2]at this
 rintro⟨⟨h1,h2⟩,h3,h4,h5,h6,h7⟩
 refine Src.ext2 ?_ ?_ h1 h2 ?_ ?_ ?_
 ·rw[moved_kind,moved_kind,h3]
 ·rw[moved_name,moved_name,h4]
 ·rw[(moved_sn a j).1,(moved_sn b k).1,h5]
 ·rw[(moved_sn a j).2.1,(moved_sn b k).2.1,h6]
 rw[(moved_sn a j).2.2,(moved_sn b k).2.2,h7]
theorem one_eq {c d:Clip} (j k:Int) (hc:shares c.kind=false→c.off=0) (hd:shares d.kind=false→d.off=0) :
  one c j=one d k↔(c.kind=d.kind∧c.total=d.total∧c.param=d.param∧c.text=d.text∧c.gain=d.gain∧c.chan=d.chan)∧(shares c.kind=true→c.off+j=d.off+k)∧moved c.a j=moved d.a k∧moved c.b j=moved d.b k:=by
 constructor
 ·intro h
  have hk:(one c j).kind=(one d k).kind:=by rw[h]
  have h1:(one c j).total=(one d k).total:=by rw[h]
  have h2:(one c j).param=(one d k).param:=by rw[h]
  have h3:(one c j).text=(one d k).text:=by rw[h]
  have h4:(one c j).gain=(one d k).gain:=by rw[h]
  have h5:(one c j).chan=(one d k).chan:=by rw[h]
  have h6:(one c j).a=(one d k).a:=by rw[h]
  have h7:(one c j).b=(one d k).b:=by rw[h]
  have ho:(one c j).off=(one d k).off:=by rw[h]
  replace hk:c.kind=d.kind:=hk
  refine⟨⟨hk,h1,h2,h3,h4,h5⟩,fun hs=>?_,h6,h7⟩
  replace ho:(if shares c.kind=true then c.off+j else c.off)=(if shares d.kind=true then d.off+k else d.off):=ho
  rw[← hk,if_pos hs,if_pos hs]at ho
  exact ho
 rintro⟨⟨h1,h2,h3,h4,h5,h6⟩,ho,ha,hb⟩
 refine Clip.ext2 rfl h1 ha hb ?_ h2 h3 h4 h5 h6
 show(if shares c.kind=true then c.off+j else c.off)=(if shares d.kind=true then d.off+k else d.off)
 rw[← h1]
 by_cases hs:shares c.kind=true
 ·rw[if_pos hs,if_pos hs];exact ho hs
 rw[if_neg hs,if_neg hs]
 have hs':shares c.kind=false:=by simpa using hs
 rw[hc hs',hd (by rw[← h1];exact hs')]
structure Wide (M:Nat) (s:Src):Prop where
 g:Good s
 a:s.an.natAbs≤M*s.ad.toNat
 v:s.sn.natAbs≤1024*s.sd.toNat
 l:baseN s≤65536
theorem Wide.mono {M N:Nat} {s:Src} (h:Wide M s) (k:M≤N):Wide N s:=⟨h.g,Nat.le_trans h.a (Nat.mul_le_mul_right _ k),h.v,h.l⟩
theorem posN_wide {M:Nat} {s:Src} (h:Wide M s) (n:Int) {N:Nat} (hn:n.natAbs≤N):(posN s n).natAbs≤(M+1024*N)*baseN s:=by
 have ha0:=h.g.a0
 have hd0:=h.g.s0
 obtain⟨b1,b2,b3,b4⟩:=base_nat (A:=s.ad.toNat) (D:=s.sd.toNat) (by omega) (by omega)
 have h1:=h.a
 have h2:=h.v
 unfold posN baseN
 obtain⟨A,hA⟩:=Xq (s.ad.toNat)
 obtain⟨D,hD⟩:=Xq (s.sd.toNat)
 rw[← hA,← hD]at b1
 rw[← hA]at h1
 rw[← hD]at h2
 rw[← hA,← hD]
 obtain⟨a,ea⟩:=Xq (A / A.gcd D)
 obtain⟨d,ed⟩:=Xq (D / A.gcd D)
 rw[← ea,← ed]at b1 ⊢
 have t1:(s.an*(d:Int)).natAbs≤M*A*d:=by
  rw[Int.natAbs_mul,Int.natAbs_natCast]
  exact Nat.mul_le_mul_right _ h1
 have t2:(n*s.sn*(a:Int)).natAbs≤N*(1024*D)*a:=by
  rw[Int.natAbs_mul,Int.natAbs_mul,Int.natAbs_natCast]
  exact Nat.mul_le_mul_right _ (Nat.mul_le_mul hn h2)
 have e1:M*A*d=M*(a*D):=by rw[b1,Nat.mul_assoc]
 have e2:N*(1024*D)*a=1024*N*(a*D):=by
  rw[show N*(1024*D)=1024*N*D by rw[← Nat.mul_assoc,Nat.mul_comm N 1024],Nat.mul_assoc,Nat.mul_comm D a]
 rw[e1]at t1
 rw[e2]at t2
 rw[Nat.add_mul]
 exact Nat.le_trans (Int.natAbs_add_le _ _) (Nat.add_le_add t1 t2)
theorem lcm_le {a d b:Nat} (hb:0<b) (h1:a∣b) (h2:d∣b):a / a.gcd d*d≤b:=by
 have e:a / a.gcd d*d=a.lcm d:=by
  rw[Nat.div_mul_right_comm (Nat.gcd_dvd_left _ _)]
  rfl
 rw[e]
 exact Nat.le_of_dvd hb (Nat.lcm_dvd h1 h2)
theorem moved_parts {s:Src} (h:Good s) (n:Int):∃ (q:Int) (D g:Nat),moved s n={ s with an:=q,ad:=(D:Int) }∧0<g∧D*g=baseN s∧q*(g:Int)=posN s n∧g=(posN s n).natAbs.gcd (baseN s):=by
 have em:moved s n={ s with an:=(moved s n).an,ad:=(moved s n).ad }:=by unfold moved;rw[if_neg h.ne]
 obtain⟨h1,h2⟩:=moved_num h n
 have hb:=base_pos h
 obtain⟨g,hg⟩:=Xq ((posN s n).natAbs.gcd (baseN s))
 rw[← hg]at h1 h2
 have g0:0<g:=by rw[hg];exact Nat.gcd_pos_of_pos_right _ hb
 have gb:g∣baseN s:=by rw[hg];exact Nat.gcd_dvd_right _ _
 have gp:(g:Int)∣posN s n:=Int.ofNat_dvd_left.2 (by rw[hg];exact Nat.gcd_dvd_left _ _)
 refine⟨(moved s n).an,baseN s / g,g,?_,g0,Nat.div_mul_cancel gb,?_,hg⟩
 ·have e:(moved s n).ad=((baseN s / g:Nat):Int):=by rw[h2,Int.natCast_ediv]
  rw[← e]
  exact em
 rw[h1]
 exact Int.ediv_mul_cancel gp
theorem Wide.moved {M:Nat} {s:Src} (h:Wide M s) (n:Int) {N:Nat} (hn:n.natAbs≤N):Wide (M+1024*N) (moved s n):=by
 have hg:=moved_good h.g n
 obtain⟨q,D,g,e,g0,eD,eq,-⟩:=moved_parts h.g n
 have hp:=posN_wide h n hn
 have hb:=base_pos h.g
 refine⟨hg,?_,?_,?_⟩
 ·rw[e]
  show q.natAbs≤_*((D:Int)).toNat
  rw[Int.toNat_natCast]
  refine Nat.le_of_mul_le_mul_right (c:=g) ?_ g0
  rw[Nat.mul_assoc,eD]
  have:q.natAbs*g=(posN s n).natAbs:=by rw[← eq,Int.natAbs_mul,Int.natAbs_natCast]
  rw[this]
  exact hp
 ·rw[e];exact h.v
 have d1:D∣baseN s:=⟨g,eD.symm⟩
 have d2:s.sd.toNat∣baseN s:=Nat.dvd_mul_left _ _
 refine Nat.le_trans ?_ h.l
 rw[e]
 show((D:Int)).toNat / ((D:Int)).toNat.gcd s.sd.toNat*s.sd.toNat≤_
 rw[Int.toNat_natCast]
 exact lcm_le hb d1 d2
theorem Wide.bounds {M:Nat} {s:Src} (h:Wide M s):1≤s.ad∧s.ad≤65536∧1≤s.sd∧s.sd≤65536∧s.an.natAbs≤M*65536∧s.sn.natAbs≤67108864:=by
 have a0:=h.g.a0
 have d0:=h.g.s0
 have hb:=base_pos h.g
 obtain⟨b1,b2,b3,b4⟩:=base_nat (A:=s.ad.toNat) (D:=s.sd.toNat) (by omega) (by omega)
 have c1:s.ad.toNat≤baseN s:=by
  refine Nat.le_of_dvd hb ?_
  unfold baseN
  rw[b1]
  exact Nat.dvd_mul_right _ _
 have c2:s.sd.toNat≤baseN s:=Nat.le_of_dvd hb (Nat.dvd_mul_left _ _)
 have hl:=h.l
 have m1:=Nat.mul_le_mul_left M (show s.ad.toNat≤65536 by omega)
 have m2:=Nat.mul_le_mul_left 1024 (show s.sd.toNat≤65536 by omega)
 have e1:=h.a
 have e2:=h.v
 omega
def OkW (M:Nat) (s:Src):Prop:=s=black∨Wide M s
theorem OkW.okay {M:Nat} {s:Src} (h:OkW M s):Okay s:=h.imp id fun h=>h.g
theorem OkW.mono {M N:Nat} {s:Src} (h:OkW M s) (k:M≤N):OkW N s:=h.imp id fun h=>h.mono k
theorem OkW.moved {M:Nat} {s:Src} (h:OkW M s) (n:Int) {N:Nat} (hn:n.natAbs≤N):OkW (M+1024*N) (Trk.moved s n):=by
 rcases h with rfl |h
 ·rw[moved_black];exact .inl rfl
 exact .inr (h.moved n hn)
end Go.Trk
