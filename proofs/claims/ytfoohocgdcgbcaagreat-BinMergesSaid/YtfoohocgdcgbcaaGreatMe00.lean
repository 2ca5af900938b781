/- Texts of this claim joined: Plan TA TB TC PlanC PlanE TD TE TF TG. -/
import Derived.OrdersHeld
import Derived.Deep.RegionHeld3
import Derived.Tactics
import Derived.WalkKit
import Init.Data.Rat
import Derived.Great.BuildSlice
import Derived.Test.YtfoohocgdcgbcaaGreatSq
set_option linter.unusedVariables false
set_option linter.unusedSimpArgs false
set_option maxRecDepth 100000
set_option maxHeartbeats 40000000
namespace Go.Plan
open Go
def planGo (ops:Array Oper) (z:Nat):Array Bool→List (Nat×Bool)→Option (Array Bool)
 |listed,[]=>some listed
 |listed,(i,true)::r=>if Region.free .any ops listed i&&(Region.ready .any ops listed).contains i&&!listed.getD z false then planGo ops z (listed.setIfInBounds i true) r else none
 |listed,(i,false)::r=>if Region.ready .any ops listed==[i] then planGo ops z (listed.setIfInBounds i true) r else none
def planOK (ops:Array Oper) (z:Nat) (listed:Array Bool) (plan:List (Nat×Bool)):Bool:=
 match planGo ops z listed plan with
 |some l=>(Region.ready .any ops l).isEmpty
 |none=>false
section
variable {P:Program} {ops:Array Oper} {Q:Exit→Act→World→Prop} {S:World→Prop} {z:Nat} {C:Act→World→Prop}
def lastOK (ops:Array Oper) (z:Nat):Bool:=
 match ops[z]? with
 |some o=>(List.range ops.size).all fun i=>i==z||o.after.any fun e=>Region.binds .any e&&e.on==i
 |none=>true
theorem lastOK_spec {z:Nat} (h:lastOK ops z=true) {o:Oper} (ho:ops[z]?=some o) {i:Nat} (hi:i<ops.size) (hne:i≠z):∃ e∈o.after,Region.binds .any e=true∧e.on=i:=by
 simp only[lastOK,ho,List.all_eq_true,List.mem_range]at h
 have:=h i hi
 simp only[Bool.or_eq_true,beq_iff_eq,hne,false_or]at this
 obtain⟨e,he,hb⟩:=Array.any_eq_true'.1 this
 simp only[Bool.and_eq_true,beq_iff_eq]at hb
 exact⟨e,he,hb.1,hb.2⟩
def anyS (P:Program) (ops:Array Oper) (Q:Exit→Act→World→Prop) (S:World→Prop) (z:Nat):Nat→Array Bool→Act→World→Prop
 |0,listed,a,w=>Region.ready .any ops listed=[]∧Q .normal a w
 |fuel+1,listed,a,w=>(Region.ready .any ops listed=[]→Q .normal a w) ∧
  ∀ i∈Region.ready .any ops listed,wpOp P ops Q i (fun a' w'=>(i≠z→S w')∧anyS P ops Q S z fuel (listed.setIfInBounds i true) a' w') a w
theorem any_of_anyS:∀ (fuel:Nat) (listed:Array Bool) (a:Act) (w:World),anyS P ops Q S z fuel listed a w→wpAny P .any ops Q fuel listed a w
 |0,_,_,_,h=>h
 |fuel+1,_,_,_,h=>⟨h.1,fun i hi=>wpOp_mono (fun a' w' h'=>any_of_anyS fuel _ a' w' h'.2) (h.2 i hi)⟩
theorem anyS_done {listed:Array Bool} {a:Act} {w:World} (hr:Region.ready .any ops listed=[]) (h:Q .normal a w):∀ fuel,anyS P ops Q S z fuel listed a w
 |0=>⟨hr,h⟩
 |_+1=>⟨fun _=>h,by rw[hr];simp⟩
theorem anyS_take {i:Nat} {oi:Oper} {v:Value} (hi:ops[i]?=some oi) (hs:Region.noSelect ops=true) (hz:lastOK ops z=true) (hQ:∀ c a w,Q (.panic c) (a.put oi.dst v) w→Q (.panic c) a w) :
  ∀ (fuel:Nat) (listed:Array Bool) (a:Act) (w:World),Region.free .any ops listed i=true→i∈Region.ready .any ops listed→YieldsIf P ops S oi v a→S w →
   anyS P ops Q S z fuel (listed.setIfInBounds i true) (a.put oi.dst v) w→anyS P ops Q S z (fuel+1) listed a w:=by
 have hsel:=Region.noSelect_spec hs
 have hilt:=(Array.getElem?_eq_some_iff.1 hi).1
 have key:∀ (fuel:Nat) (listed:Array Bool) (a:Act) (w:World),
   (∀ j oj,ops[j]?=some oj→j≠i→listed.getD j true=false→(∀ e∈oj.after,Region.binds .any e=true→e.on≠i)→oi.apart ops oj=true) →
   i∈Region.ready .any ops listed→YieldsIf P ops S oi v a→S w→anyS P ops Q S z fuel (listed.setIfInBounds i true) (a.put oi.dst v) w→anyS P ops Q S z (fuel+1) listed a w:=by
  intro fuel
  induction fuel with
  | zero =>
   intro listed a w _ hr hy hS H
   refine⟨fun h=>absurd (h ▸ hr) (by simp),fun j hj=>?_⟩
   by_cases hji:j=i
   ·subst hji;exact hy.wpOp hi hS ⟨fun _=>hS,H⟩
   have:=ready_mono hj hji
   rw[H.1]at this
   cases this
  | succ fuel ih =>
   intro listed a w hfree hr hy hS H
   refine⟨fun h=>absurd (h ▸ hr) (by simp),fun j hj=>?_⟩
   by_cases hji:j=i
   ·subst hji;exact hy.wpOp hi hS ⟨fun _=>hS,H⟩
   have h1:=H.2 j (ready_mono hj hji)
   obtain⟨hjun,oj,hoj,hall⟩:=mem_ready.1 hj
   have hnot:∀ e∈oj.after,Region.binds .any e=true→e.on≠i:=fun e he hb heq=>by
    have h3:=hall e he hb
    have h0:=(mem_ready.1 hr).1
    rw[heq]at h3
    by_cases hlt:i<listed.size
    ·simp[hlt]at h0 h3;rw[h0]at h3;cases h3
    simp[Array.getElem?_eq_none (Nat.le_of_not_lt hlt)]at h3
   have hjz:j≠z:=by
    rintro rfl
    obtain⟨e,he,hb,hei⟩:=lastOK_spec hz hoj hilt (Ne.symm hji)
    exact hnot e he hb hei
   have h2:=wpOp_putIf hoj (hfree j oj hoj hji hjun hnot) (fun cs b=>hsel i oi cs b hi) (fun cs b=>hsel j oj cs b hoj) hQ hy h1
   refine wpOp_mono (fun a' w' h3=>?_) h2
   obtain⟨hy',himp,hrest⟩:=h3
   have hr':i∈Region.ready .any ops (listed.setIfInBounds j true):=ready_mono hr (Ne.symm hji)
   have hS':S w':=himp hjz
   refine⟨fun _=>hS',ih (listed.setIfInBounds j true) a' w' (fun k ok hk hki hun hno=>?_) hr' hy' hS' ?_⟩
   ·refine hfree k ok hk hki ?_ hno
    by_cases hjk:j=k
    ·subst hjk;exact hjun
    rw[getD_set_ne true hjk]at hun;exact hun
   rw[Array.setIfInBounds_comm _ _ hji]
   exact hrest
 intro fuel listed a w hf hr hy hS H
 exact key fuel listed a w (Region.free_spec hi hf) hr hy hS H
def wpPlan (P:Program) (ops:Array Oper) (Q:Exit→Act→World→Prop) (S:World→Prop) (z:Nat) (C:Act→World→Prop):List (Nat×Bool)→Act→World→Prop
 |[],a,w=>C a w
 |(i,true)::r,a,w=>∃ o,ops[i]?=some o∧∃ v,YieldsIf P ops S o v a∧wpPlan P ops Q S z C r (a.put o.dst v) w
 |(i,false)::r,a,w=>wpOp P ops Q i (fun a' w'=>(i≠z→S w')∧wpPlan P ops Q S z C r a' w') a w
theorem held_of_plan (hs:Region.noSelect ops=true) (hz:lastOK ops z=true) (hQ:∀ c a d v w,Q (.panic c) (a.put d v) w→Q (.panic c) a w) (listed':Array Bool) (fuel:Nat)
  (hC:∀ a w,(¬listed'.getD z false=true→S w)→C a w→anyS P ops Q S z fuel listed' a w) :
  ∀ (plan:List (Nat×Bool)) (listed:Array Bool) (a:Act) (w:World),planGo ops z listed plan=some listed'→listed.size=ops.size→(¬listed.getD z false=true→S w)→wpPlan P ops Q S z C plan a w →
   anyS P ops Q S z (fuel+plan.length) listed a w
 |[],listed,a,w,hp,_,hS,h=>by
  simp only[planGo,Option.some.injEq]at hp
  subst hp
  exact hC a w hS h
 | (i, true) :: r, listed, a, w, hp, hl, hS, h => by
  simp only[planGo]at hp
  split at hp
  ·rename_i hc
   simp only[Bool.and_eq_true,List.contains_eq_mem,decide_eq_true_eq,Bool.not_eq_true']at hc
   obtain⟨o,ho,v,hy,hr⟩:=h
   have hSw:S w:=hS (by rw[hc.2];simp)
   exact anyS_take ho hs hz (fun c a w=>hQ c a _ _ w) _ _ _ _ hc.1.1 hc.1.2 hy hSw (held_of_plan hs hz hQ listed' fuel hC r _ _ _ hp (by simp[hl]) (fun _=>hSw) hr)
  cases hp
 | (i, false) :: r, listed, a, w, hp, hl, hS, h => by
  simp only[planGo]at hp
  split at hp
  ·rename_i hc
   simp only[beq_iff_eq]at hc
   refine⟨fun h0=>by rw[hc]at h0;simp at h0,fun j hj=>?_⟩
   rw[hc]at hj
   obtain rfl:=List.mem_singleton.1 hj
   refine wpOp_mono (fun a' w' h'=>⟨h'.1,held_of_plan hs hz hQ listed' fuel hC r _ _ _ hp (by simp[hl]) (fun hnz=>h'.1 (fun e=>hnz ?_)) h'.2⟩) h
   subst e
   have hmem:j∈Region.ready .any ops listed:=by rw[hc];simp
   obtain⟨_,o,ho,_⟩:=mem_ready.1 hmem
   have:j<listed.size:=by rw[hl];exact(Array.getElem?_eq_some_iff.1 ho).1
   simp[this]
  cases hp
def valued:Op→Bool
 |.move _ |.assign _ |.pick .. |.load .. |.binOp .. |.unOp .. |.convert .. |.fieldAddr .. |.indexAddr .. |.index .. |.field .. |.build .. |.extract .. |.slice .. |.lookup ..=>true
 |.nilCheck _=>true
 |.call { callee:=.builtin .len,.. } |.call { callee:=.builtin .min,.. } |.call { callee:=.builtin .max,.. }=>true
 |_=>false
theorem value_of_map {s:Sem Value} {w w':World} {n:Next} (h:(do pure (.value (← s)):Sem Next).run P w=.ok n w'):∃ v,n=.value v:=by
 simp only[Sem.run_bind]at h
 cases hs:s.run P w with
 |ok v w1=>rw[hs]at h;simp only[Result.andThen_ok,Sem.run_pure,Result.ok.injEq]at h;exact⟨v,h.1.symm⟩
 |halt x w1=>rw[hs]at h;simp[Result.andThen]at h
theorem bind_ok {α:Type} {s:Sem α} {f:α→Sem Next} {w w':World} {n:Next} (h:(s >>= f).run P w=.ok n w'):∃ a w1,(f a).run P w1=.ok n w':=by
 simp only[Sem.run_bind]at h
 cases hs:s.run P w with
 |ok v w1=>rw[hs]at h;exact⟨v,w1,h⟩
 |halt x w1=>rw[hs]at h;simp[Result.andThen]at h
theorem valued_spec {o:Oper} {ρ:Operand→Value} {w w':World} {n:Next} (hv:valued o.op=true) (h:(execOp ρ o).run P w=.ok n w'):∃ v,n=.value v:=by
 obtain⟨dst,op,type,pos,after,guard⟩:=o
 cases op<;>simp only[valued]at hv<;>simp only[execOp]at h
 case move=>simp only[Sem.run_pure,Result.ok.injEq]at h;exact⟨_,h.1.symm⟩
 case assign=>simp only[Sem.run_pure,Result.ok.injEq]at h;exact⟨_,h.1.symm⟩
 case pick c a b=>
  simp only[Sem.run_bind]at h
  cases hs:(asBool (ρ c)).run P w with
  |ok v w1=>rw[hs]at h;simp only[Result.andThen_ok,Sem.run_pure,Result.ok.injEq]at h;exact⟨_,h.1.symm⟩
  |halt x w1=>rw[hs]at h;simp[Result.andThen]at h
 case call c=>
  obtain⟨cl,args,ts⟩:=c
  cases cl with
  | builtin b =>
   cases b<;>simp at hv
   all_goals
    simp only[resolve,invoke,builtin,Sem.run_bind,Sem.run_pure,Result.andThen_ok]at h
    exact value_of_map (by simpa using h)
  |_=>simp at hv
 case nilCheck x=>
  have bad:∀ (w1 w2:World) (m:Next),(runtimePanic .nilDeref:Sem Next).run P w1≠.ok m w2:=by
   intro w1 w2 m he
   simp[runtimePanic,goPanic]at he
  split at h
  ·exact(bad _ _ _ h).elim
  ·exact(bad _ _ _ h).elim
  ·exact(bad _ _ _ h).elim
  ·split at h
   ·exact(bad _ _ _ h).elim
   ·obtain⟨_,w1,h⟩:=bind_ok h
    obtain⟨_,w2,h⟩:=bind_ok h
    split at h
    ·obtain⟨_,w3,h⟩:=bind_ok h
     simp only[Sem.run_pure,Result.ok.injEq]at h;exact⟨_,h.1.symm⟩
    simp only[Sem.run_pure,Result.ok.injEq]at h;exact⟨_,h.1.symm⟩
   simp only[Sem.run_pure,Result.ok.injEq]at h;exact⟨_,h.1.symm⟩
  simp only[Sem.run_pure,Result.ok.injEq]at h;exact⟨_,h.1.symm⟩
 all_goals first
  |exact value_of_map h
  |(exact absurd hv (by simp))
def noEnd:Exit→Act→World→Prop:=fun _ _ _=>False
def Seg (P:Program) (ops:Array Oper) (wx:World) (A:Act):List Oper→Act→World→Prop
 |[],a,w=>a=A∧w=wx
 |o::r,a,w=>w=wx∧wpList P ops (Exit.then (fun a' w'=>Seg P ops wx A r a' w') noEnd) [o] a w
theorem seg_nil {wx:World} {A:Act}:Seg P ops wx A [] A wx:=⟨rfl,rfl⟩
theorem seg_cons {wx:World} {A:Act} {o:Oper} {r:List Oper} {a:Act}
  (h:∀ K:Act→World→Prop,(∀ a' w',Seg P ops wx A r a' w'→K a' w')→wpList P ops (Exit.then K noEnd) [o] a wx):Seg P ops wx A (o::r) a wx:=
 ⟨rfl,h _ fun _ _ h=>h⟩
theorem Seg.world {wx:World} {A:Act}:∀ {l:List Oper} {a:Act} {w:World},Seg P ops wx A l a w→w=wx
 |[],_,_,h=>h.2
 |_::_,_,_,h=>h.1
theorem Seg.step {wx:World} {A:Act} {o:Oper} {r:List Oper} {a:Act} {w:World} (hv:valued o.op=true) (h:Seg P ops wx A (o::r) a w) :
  w=wx∧((Region.wanted o (yielded ops a.tmps)=true∧∃ v,(execOp a.eval o).run P wx=.ok (.value v) wx∧Seg P ops wx A r (a.put o.dst v) wx) ∨
   (Region.wanted o (yielded ops a.tmps)=false∧Seg P ops wx A r (a.put o.dst undef) wx)):=by
 obtain⟨rfl,h⟩:=h
 refine⟨rfl,?_⟩
 unfold wpList at h
 split at h
 ·rename_i hw
  refine .inl ⟨hw,?_⟩
  rcases h with h |⟨_,a1,w1,h⟩
  ·unfold Oper.wp at h
   generalize hr:(execOp a.eval o).run P w=x at h
   cases x with
   |halt y w1=>cases y<;>simp[Oper.upon,Exit.then,noEnd]at h
   |ok n w1=>
    obtain⟨v,rfl⟩:=valued_spec hv hr
    have h':Seg P ops w A r (a.put o.dst v) w1:=h
    have hw1:=h'.world
    subst hw1
    exact⟨v,rfl,h'⟩
  exact h.elim
 rename_i hw
 exact .inr ⟨by simpa using hw,h⟩
def dstsFree (d:Tmp) (l:List Oper):Bool:=l.all fun o=>o.dst != some d
def segOK (n:Nat):List Oper→Bool
 |[]=>true
 |o::r=>valued o.op&&(match o.dst with |some d=>decide (d<n)&&dstsFree d r |none=>false)&&segOK n r
theorem put_size (a:Act) (d:Option Tmp) (v:Value):(a.put d v).tmps.size=a.tmps.size:=by cases d<;>simp[Act.put]
theorem Seg.keeps {wx:World} {A:Act} {n:Nat} (d:Tmp):∀ (l:List Oper) (a:Act) (w:World),segOK n l=true→dstsFree d l=true→Seg P ops wx A l a w→A.tmps[d]?=a.tmps[d]?
 |[],a,w,_,_,h=>by rw[h.1]
 | o :: r, a, w, hs, hd, h => by
  simp only[segOK,Bool.and_eq_true]at hs
  simp only[dstsFree,List.all_cons,Bool.and_eq_true,bne_iff_ne,ne_eq]at hd
  have put:∀ v,(a.put o.dst v).tmps[d]?=a.tmps[d]?:=by
   intro v
   cases ho:o.dst with
   |none=>rfl
   |some e=>simp only[Act.put];exact Array.getElem?_setIfInBounds_ne (fun he=>hd.1 (by rw[ho,he]))
  obtain⟨_,⟨_,v,_,h'⟩ |⟨_,h'⟩⟩:=h.step hs.1.1
  ·rw[Seg.keeps d r _ _ hs.2 (by simpa [dstsFree] using hd.2) h',put]
  rw[Seg.keeps d r _ _ hs.2 (by simpa [dstsFree] using hd.2) h',put]
theorem plan_of_seg {n:Nat} {A:Act} {w:World} (hS:S w) (rest:List (Nat×Bool)) (hrest:wpPlan P ops Q S z C rest A w) :
  ∀ (is:List Nat) (l:List Oper) (a:Act),is.map (ops[·]?)=l.map some→segOK n l=true→a.tmps.size=n→(∀ wx,S wx→Seg P ops wx A l a wx) →
   wpPlan P ops Q S z C (is.map (·,true)++rest) a w
 |[],[],a,_,_,_,h=>by
  have:=(h w hS).1
  subst this
  exact hrest
 |[],_::_,_,h,_,_,_=>by simp at h
 |_::_,[],_,h,_,_,_=>by simp at h
 | i :: is, o :: l, a, he, hs, hn, h => by
  simp only[List.map_cons,List.cons.injEq]at he
  have hs':=hs
  simp only[segOK,Bool.and_eq_true]at hs'
  obtain⟨⟨hv,hd⟩,hr⟩:=hs'
  cases ho:o.dst with
  |none=>rw[ho]at hd;simp at hd
  | some d =>
   rw[ho]at hd
   simp only[Bool.and_eq_true,decide_eq_true_eq]at hd
   by_cases hw:Region.wanted o (yielded ops a.tmps)=true
   ·have hval:∀ wx,S wx→∃ v,(execOp a.eval o).run P wx=.ok (.value v) wx∧Seg P ops wx A l (a.put o.dst v) wx:=by
     intro wx hx
     obtain⟨_,⟨_,v,h1,h2⟩ |⟨h1,_⟩⟩:=(h wx hx).step hv
     ·exact⟨v,h1,h2⟩
     rw[hw]at h1;cases h1
    have hA:∀ wx v,Seg P ops wx A l (a.put o.dst v) wx→v=A.tmps.getD d undef:=by
     intro wx v h2
     have:=h2.keeps d l _ _ hr hd.2
     rw[ho]at this
     simp only[Act.put]at this
     rw[Array.getElem?_setIfInBounds_self_of_lt (by rw[hn];exact hd.1)]at this
     simp[Array.getD_eq_getD_getElem?,this]
    refine⟨o,he.1,A.tmps.getD d undef,.inl ⟨hw,fun wx hx=>?_⟩,?_⟩
    ·obtain⟨v,h1,h2⟩:=hval wx hx
     rw[h1,hA wx v h2]
    refine plan_of_seg hS rest hrest is l _ he.2 hr (by rw[put_size];exact hn) (fun wx hx=>?_)
    obtain⟨v,h1,h2⟩:=hval wx hx
    rw[← hA wx v h2]
    exact h2
   have hw':Region.wanted o (yielded ops a.tmps)=false:=by simpa using hw
   refine⟨o,he.1,undef,.inr ⟨hw',rfl⟩,?_⟩
   refine plan_of_seg hS rest hrest is l _ he.2 hr (by rw[put_size];exact hn) (fun wx hx=>?_)
   obtain⟨_,⟨h1,_⟩ |⟨_,h2⟩⟩:=(h wx hx).step hv
   ·rw[h1]at hw';cases hw'
   exact h2
theorem plan_of_effect' {i:Nat} {o:Oper} {rest:List (Nat×Bool)} {a:Act} {w:World} (ho:ops[i]?=some o)
  (h:∀ K:Act→World→Prop,(∀ a' w',(i≠z→S w')∧wpPlan P ops Q S z C rest a' w'→K a' w')→wpList P ops (Exit.then K Q) [o] a w):wpPlan P ops Q S z C ((i,false)::rest) a w:=by
 have:=h _ (fun _ _ h=>h)
 show wpOp P ops Q i _ a w
 unfold wpOp
 rw[ho]
 simp only
 unfold wpList at this
 split at this
 ·rename_i hw
  rw[if_pos hw]
  refine this.imp (fun h1=>?_) (fun h1=>⟨h1.1,h1.2⟩)
  unfold Oper.wp at *
  generalize (execOp a.eval o).run P w=x at *
  cases x with
  | ok n w1 =>
   cases n<;>simp only[Oper.upon]at h1 ⊢<;>first
    |exact h1
    |exact Calls.mono h1 (fun e w'' he=>by cases e<;>exact he)
    |exact Rows.mono h1 (fun _ _ he=>he)
  |halt y w1=>cases y<;>simp only[Oper.upon]at h1 ⊢<;>exact h1
 rename_i hw
 rw[if_neg hw]
 exact this
theorem plan_of_effect {i:Nat} {o:Oper} {rest:List (Nat×Bool)} {a:Act} {w:World} (ho:ops[i]?=some o)
  (h:∀ K:Act→World→Prop,(∀ a' w',S w'∧wpPlan P ops Q S z C rest a' w'→K a' w')→wpList P ops (Exit.then K Q) [o] a w):wpPlan P ops Q S z C ((i,false)::rest) a w:=
 plan_of_effect' ho fun K hK=>h K fun a' w' h'=>hK a' w' ⟨fun _=>h'.1,h'.2⟩
theorem plan_of_last {o:Oper} {rest:List (Nat×Bool)} {a:Act} {w:World} (ho:ops[z]?=some o)
  (h:∀ K:Act→World→Prop,(∀ a' w',wpPlan P ops Q S z C rest a' w'→K a' w')→wpList P ops (Exit.then K Q) [o] a w):wpPlan P ops Q S z C ((z,false)::rest) a w:=
 plan_of_effect' ho fun K hK=>h K fun a' w' h'=>hK a' w' ⟨fun hz=>absurd rfl hz,h'⟩
theorem wp_region_planz {id:Nat} {l:List Oper} {a:Act} {w:World} (S:World→Prop) (z:Nat) (plan:List (Nat×Bool)) (hm:P.follows .mixedOrders=true)
  (hs:Region.noSelect l.toArray=true) (hp:(lastOK l.toArray z&&planOK l.toArray z (Array.replicate l.toArray.size false) plan&&decide (plan.length=l.toArray.size))=true)
  (hS:S w.drew) (h:wpPlan P l.toArray (NoPanic Q) S z (NoPanic Q .normal) plan a w.drew):(Code.region id l.toArray true).wp P Q a w:=by
 simp only[Bool.and_eq_true,decide_eq_true_eq,planOK]at hp
 split at hp
 ·rename_i l' hl'
  refine wp_region_noPanic (wp_region_any hm (any_of_anyS (S:=S) (z:=z) _ _ _ _ ?_))
  have:=held_of_plan (P:=P) (Q:=NoPanic Q) (S:=S) (C:=NoPanic Q .normal) hs hp.1.1 (fun c a d v w h=>h.elim) l' 0 (fun a w _ h=>anyS_done (by simpa using hp.1.2) h 0) plan _ a w.drew hl' (by simp) (fun _=>hS) h
  rw[Nat.zero_add,hp.2]at this
  exact this
 simp at hp
theorem lastOK_none (ops:Array Oper):lastOK ops ops.size=true:=by simp[lastOK]
theorem wp_region_plan {id:Nat} {l:List Oper} {a:Act} {w:World} (S:World→Prop) (plan:List (Nat×Bool)) (hm:P.follows .mixedOrders=true)
  (hs:Region.noSelect l.toArray=true) (hp:(planOK l.toArray l.toArray.size (Array.replicate l.toArray.size false) plan&&decide (plan.length=l.toArray.size))=true)
  (hS:S w.drew) (h:wpPlan P l.toArray (NoPanic Q) S l.toArray.size (NoPanic Q .normal) plan a w.drew):(Code.region id l.toArray true).wp P Q a w:=
 wp_region_planz S l.toArray.size plan hm hs (by rw[lastOK_none,Bool.true_and];exact hp) hS h
abbrev Ext (w w':World):Prop:=RowKit.Below w.heap.size w w'
theorem Ext.refl (w:World):Ext w w:=RowKit.Below.refl _ _
theorem Ext.trans {a b c:World} (h:Ext a b) (k:Ext b c):Ext a c:=RowKit.Below.trans h (k.mono h.size)
def over (ops:Array Oper) (vs:Nat→Value):List Nat→Act→Act
 |[],a=>a
 |i::r,a=>over ops vs r (a.put ((ops[i]?).bind (·.dst)) (vs i))
def dstOf (ops:Array Oper) (i:Nat):Option Tmp:=(ops[i]?).bind (·.dst)
def waits (ops:Array Oper):Nat→Nat→List Nat
 |0,_=>[]
 |f+1,j=>match ops[j]? with
  |some o=>(o.after.toList.filter (Region.binds .any)).flatMap fun e=>e.on::waits ops f e.on
  |none=>[]
def topo (ops:Array Oper):Array Bool→List Nat→Bool
 |_,[]=>true
 |listed,t::r=>(match ops[t]? with
  |some o=>o.after.all fun e=>!Region.binds .any e||listed.getD e.on false
  |none=>false)&&topo ops (listed.setIfInBounds t true) r
def freshOK (ops : Array Oper) (listed : Array Bool) (n : Nat) (T : List Nat) : Bool :=
 (T.all fun t => match ops[t]? with
  | some o => (match o.dst with | some d => decide (d < n) && !(o.looksAt ops).contains d | none => false) && o.guard.isNone && (match o.op with | .select .. => false | _ => true) && !listed.getD t true &&
    (T.all fun k=>k==t||((match dstOf ops k with |some d=>o.dst != some d&&(!(o.looksAt ops).contains d||o.after.any fun e=>Region.binds .any e&&e.on==k) |none=>false)))
  |none=>false) &&
 ((List.range ops.size).all fun j => T.contains j || listed.getD j true ||
  T.all fun t=>(waits ops ops.size j).contains t) &&
 ((List.range ops.size).all fun j => !listed.getD j false || match ops[j]? with
  |some o=>o.after.all fun e=>!Region.binds .any e||listed.getD e.on false
  |none=>true)&&decide (listed.size=ops.size)&&decide T.Nodup&&topo ops listed T
theorem wp_carry {o:Oper} {a b:Act} {w:World} {K K2:Act→World→Prop} (he:execOp a.eval o=execOp b.eval o) (hP:∀ c a w,¬Q (.panic c) a w)
  (hK:∀ v w',K (a.put o.dst v) w'→K2 (b.put o.dst v) w') (hD:∀ d w',¬K ({ a with defers:=d::a.defers }.put o.dst undef) w') (h:o.wp P a w K Q):o.wp P b w K2 Q:=by
 unfold Oper.wp at *
 rw[← he]
 generalize (execOp a.eval o).run P w=r at *
 cases r with
 | ok n w' =>
  cases n<;>simp only[Oper.upon]at h ⊢
  case value v=>exact hK _ _ h
  case skip=>exact hK _ _ h
  case defer d=>exact(hD _ _ h).elim
  case enter f args=>
   refine Calls.mono h fun e w'' he=>?_
   cases e with
   |returned v=>exact hK _ _ he
   |panicked c=>exact(hP _ _ _ he).elim
   |outgrown=>exact he
  case row row args=>exact Rows.mono h fun v w'' hv=>hK _ _ hv
 |halt x w'=>
  cases x<;>simp only[Oper.upon]at h ⊢
  case panic v=>exact(hP _ _ _ h).elim
def slotBy (ops:Array Oper) (vs:Nat→Value) (D:List Nat) (a0:Act) (k:Tmp):Option Value:=
 match D.find? (fun i=>dstOf ops i==some k) with
 |some i=>if k<a0.tmps.size then some (vs i) else none
 |none=>a0.tmps[k]?
theorem put_get (a:Act) (d:Option Tmp) (v:Value) (k:Tmp):(a.put d v).tmps[k]?=if d=some k∧k<a.tmps.size then some v else a.tmps[k]?:=by
 cases d with
 |none=>simp[Act.put]
 | some e =>
  simp only[Act.put,Option.some.injEq]
  by_cases hek:e=k
  ·subst hek
   by_cases hlt:e<a.tmps.size
   ·simp[hlt]
   simp[hlt]
  rw[Array.getElem?_setIfInBounds_ne hek];simp[hek]
theorem over_size (vs:Nat→Value):∀ (T:List Nat) (a:Act),(over ops vs T a).tmps.size=a.tmps.size
 |[],_=>rfl
 |i::r,a=>by rw[over,over_size vs r,put_size]
theorem over_defers (vs:Nat→Value):∀ (T:List Nat) (a:Act),(over ops vs T a).defers=a.defers
 |[],_=>rfl
 |i::r,a=>by
  rw[over,over_defers vs r]
  cases (ops[i]?).bind (·.dst)<;>rfl
theorem over_get (vs:Nat→Value) (k:Tmp):∀ (T:List Nat) (a:Act),(∀ i∈T,∀ j∈T,i≠j→dstOf ops i≠dstOf ops j∨dstOf ops i=none)→T.Nodup →
  (over ops vs T a).tmps[k]?=slotBy ops vs T a k
 |[],a,_,_=>rfl
 | i :: r, a, hd, hn => by
  rw[over,over_get vs k r _ (fun x hx y hy=>hd x (List.mem_cons_of_mem _ hx) y (List.mem_cons_of_mem _ hy)) (List.nodup_cons.1 hn).2]
  unfold slotBy
  rw[put_size,List.find?_cons]
  by_cases hi:dstOf ops i=some k
  ·have hi':(dstOf ops i==some k)=true:=by simp[hi]
   rw[hi']
   have hnone:r.find? (fun i=>dstOf ops i==some k)=none:=by
    rw[List.find?_eq_none]
    intro j hj hjk
    simp only[beq_iff_eq]at hjk
    have hij:i≠j:=fun e=>(List.nodup_cons.1 hn).1 (e ▸ hj)
    rcases hd i (List.mem_cons_self ..) j (List.mem_cons_of_mem _ hj) hij with h |h
    ·exact h (by rw[hi,hjk])
    rw[hi]at h;cases h
   rw[hnone]
   simp only
   rw[put_get,show(ops[i]?).bind (·.dst)=some k from hi]
   by_cases hlt:k<a.tmps.size
   ·simp[hlt]
   simp[hlt]
  have hi':(dstOf ops i==some k)=false:=by simp[hi]
  rw[hi']
  simp only
  cases r.find? (fun i=>dstOf ops i==some k) with
  |some j=>rfl
  |none=>
   simp only
   rw[put_get,if_neg (fun h=>hi h.1)]
theorem find_dst {D:List Nat} {k:Tmp} {i:Nat} (hi:i∈D) (hk:dstOf ops i=some k) (hd:∀ x∈D,dstOf ops x=some k→x=i) :
  D.find? (fun i=>dstOf ops i==some k)=some i:=by
 cases h:D.find? (fun i=>dstOf ops i==some k) with
 |none=>rw[List.find?_eq_none]at h;exact absurd (by simp[hk]) (h i hi)
 |some j=>
  have h1:=List.find?_some h
  simp only[beq_iff_eq]at h1
  rw[hd j (List.mem_of_find?_eq_some h) h1]
theorem slotBy_agree {vs:Nat→Value} {D T:List Nat} {a0:Act} {t:Tmp} (hsub:∀ x∈D,x∈T) (hdist:∀ i∈T,∀ j∈T,dstOf ops i=some t→dstOf ops j=some t→i=j)
  (h:∀ k∈T,dstOf ops k=some t→k∈D):slotBy ops vs D a0 t=slotBy ops vs T a0 t:=by
 unfold slotBy
 by_cases he:∃ k∈T,dstOf ops k=some t
 ·obtain⟨k,hk,hkt⟩:=he
  rw[find_dst hk hkt (fun x hx hxt=>hdist x hx k hk hxt hkt),find_dst (h k hk hkt) hkt (fun x hx hxt=>hdist x (hsub x hx) k hk hxt hkt)]
 have n1:T.find? (fun i=>dstOf ops i==some t)=none:=by
  rw[List.find?_eq_none];intro x hx hxt;exact he ⟨x,hx,by simpa using hxt⟩
 have n2:D.find? (fun i=>dstOf ops i==some t)=none:=by
  rw[List.find?_eq_none];intro x hx hxt;exact he ⟨x,hsub x hx,by simpa using hxt⟩
 rw[n1,n2]
theorem waits_listed {listed:Array Bool} (hc:∀ (j:Nat) (o:Oper),ops[j]?=some o→listed.getD j false=true→∀ e∈o.after,Region.binds .any e=true→listed.getD e.on false=true) :
  ∀ (f j:Nat) (o:Oper),ops[j]?=some o→(∀ e∈o.after,Region.binds .any e=true→listed.getD e.on false=true)→∀ t∈waits ops f j,listed.getD t false=true
 |0,_,_,_,_,t,ht=>by simp[waits]at ht
 | f + 1, j, o, ho, h, t, ht => by
  simp only[waits,ho,List.mem_flatMap,List.mem_filter,Array.mem_toList_iff,List.mem_cons]at ht
  obtain⟨e,⟨he,hb⟩,ht⟩:=ht
  have hl:=h e he hb
  rcases ht with rfl |ht
  ·exact hl
  cases hoe:ops[e.on]? with
  |none=>cases f<;>simp[waits,hoe]at ht
  |some o'=>exact waits_listed hc f e.on o' hoe (hc e.on o' hoe hl) t ht
structure FreshInv (ops:Array Oper) (S:World→Prop) (G:Nat→Nat→Nat→Value→World→Prop) (listed0:Array Bool) (T:List Nat) (a0:Act) (w0:World)
  (D:List Nat) (vs:Nat→Value) (lo hi:Nat→Nat) (listed:Array Bool) (a:Act) (w:World):Prop where
 sub:∀ x∈D,x∈T
 nodup:D.Nodup
 size:listed.size=ops.size
 marks:∀ j,j<ops.size→listed.getD j false=(listed0.getD j false||D.contains j)
 closed:∀ (j:Nat) (o:Oper),ops[j]?=some o→listed.getD j false=true→∀ e∈o.after,Region.binds .any e=true→listed.getD e.on false=true
 defers:a.defers=a0.defers
 tmps:a.tmps.size=a0.tmps.size
 slots:∀ k,a.tmps[k]?=slotBy ops vs D a0 k
 held:∀ k∈D,G k (lo k) (hi k) (vs k) w∧w0.heap.size≤lo k∧hi k≤w.heap.size
 apart:∀ i∈D,∀ k∈D,i≠k→hi i≤lo k∨hi k≤lo i
 ext:Ext w0 w
 S:S w
def markAll (listed:Array Bool) (T:List Nat):Array Bool:=T.foldl (fun l t=>l.setIfInBounds t true) listed
theorem markAll_size:∀ (T:List Nat) (l:Array Bool),(markAll l T).size=l.size
 |[],_=>rfl
 |t::r,l=>by
  show(markAll (l.setIfInBounds t true) r).size=_
  rw[markAll_size r];simp
theorem markAll_get (j:Nat):∀ (T:List Nat) (l:Array Bool),j<l.size→(markAll l T).getD j false=(l.getD j false||T.contains j)
 |[],l,_=>by simp[markAll]
 | t :: r, l, hj => by
  show(markAll (l.setIfInBounds t true) r).getD j false=_
  rw[markAll_get j r _ (by simpa using hj)]
  by_cases htj:t=j
  ·subst htj;simp[hj]
  have:(l.setIfInBounds t true).getD j false=l.getD j false:=getD_set_ne false htj
  rw[this]
  simp[Ne.symm htj]
structure FreshFacts (ops:Array Oper) (listed0:Array Bool) (n:Nat) (T:List Nat):Prop where
 op:∀ t∈T,∃ o d,ops[t]?=some o∧o.dst=some d∧d<n∧d ∉ o.looksAt ops∧o.guard=none∧(∀ cs b,o.op≠.select cs b)∧listed0.getD t true=false ∧
  ∀ k∈T,k≠t→∃ e,dstOf ops k=some e∧e≠d∧(e∈o.looksAt ops→∃ x∈o.after,Region.binds .any x=true∧x.on=k)
 rest:∀ j,j<ops.size→j∈T∨listed0.getD j true=true∨∀ t∈T,t∈waits ops ops.size j
 closed:∀ (j:Nat) (o:Oper),ops[j]?=some o→listed0.getD j false=true→∀ e∈o.after,Region.binds .any e=true→listed0.getD e.on false=true
 size:listed0.size=ops.size
 nodup:T.Nodup
 topo:topo ops listed0 T=true
theorem freshOK_spec {listed0:Array Bool} {n:Nat} {T:List Nat} (h:freshOK ops listed0 n T=true):FreshFacts ops listed0 n T:=by
 simp only[freshOK,Bool.and_eq_true,List.all_eq_true,decide_eq_true_eq,List.mem_range]at h
 obtain⟨⟨⟨⟨⟨h1,h2⟩,h3⟩,h4⟩,h5⟩,h6⟩:=h
 refine⟨fun t ht=>?_,fun j hj=>?_,fun j o ho hl e he hb=>?_,h4,h5,h6⟩
 ·have ht1:=h1 t ht
  cases ho:ops[t]? with
  |none=>rw[ho]at ht1;cases ht1
  | some o =>
   rw[ho]at ht1
   simp only[Bool.and_eq_true]at ht1
   obtain⟨⟨⟨⟨a1,a2⟩,a3⟩,a4⟩,a5⟩:=ht1
   cases hd:o.dst with
   |none=>rw[hd]at a1;cases a1
   | some d =>
    rw[hd]at a1
    simp only[Bool.and_eq_true,decide_eq_true_eq,Bool.not_eq_true',List.contains_eq_mem,decide_eq_false_iff_not]at a1
    refine⟨o,d,rfl,hd,a1.1,a1.2,by simpa using a2,(fun cs b e=>by rw[e]at a3;cases a3),by simpa using a4,fun k hk hkt=>?_⟩
    have a6:=(List.all_eq_true.1 a5) k hk
    simp only[Bool.or_eq_true,beq_iff_eq,hkt,false_or]at a6
    cases hkd:dstOf ops k with
    |none=>rw[hkd]at a6;cases a6
    | some e =>
     rw[hkd]at a6
     simp only[Bool.and_eq_true,bne_iff_ne,ne_eq,Bool.or_eq_true,Bool.not_eq_true',List.contains_eq_mem,decide_eq_false_iff_not]at a6
     refine⟨e,rfl,fun hed=>a6.1 (by rw[hd,hed]),fun hl=>?_⟩
     rcases a6.2 with h |h
     ·exact absurd hl h
     obtain⟨x,hx,hxx⟩:=Array.any_eq_true'.1 h
     simp only[Bool.and_eq_true,beq_iff_eq]at hxx
     exact⟨x,hx,hxx.1,hxx.2⟩
 ·have:=h2 j hj
  simp only[Bool.or_eq_true,List.contains_eq_mem,decide_eq_true_eq,List.all_eq_true]at this
  rcases this with(h |h) |h
  ·exact .inl h
  ·exact .inr (.inl h)
  exact .inr (.inr h)
 have hj:j<ops.size:=(Array.getElem?_eq_some_iff.1 ho).1
 have:=h3 j hj
 simp only[hl,ho,Bool.not_true,Bool.false_or]at this
 have:=(Array.all_eq_true'.1 this) e he
 simpa [hb] using this
theorem topo_next {T:List Nat}:∀ {listed0:Array Bool},topo ops listed0 T=true→∀ (D:List Nat) (listed:Array Bool),(∀ j,listed0.getD j false=true→listed.getD j false=true) →
  (∀ j∈D,listed.getD j false=true)→(∃ t∈T,t ∉ D)→∃ t∈T,t ∉ D∧∃ o,ops[t]?=some o∧∀ e∈o.after,Region.binds .any e=true→listed.getD e.on false=true:=by
 induction T with
 |nil=>intro _ _ _ _ _ _ ⟨t,ht,_⟩;cases ht
 | cons t r ih =>
  intro listed0 h D listed h0 hD hex
  simp only[topo,Bool.and_eq_true]at h
  by_cases htD:t∈D
  ·obtain⟨x,hx,hxD⟩:=hex
   have hx':x∈r:=by
    rcases List.mem_cons.1 hx with rfl |hx
    ·exact absurd htD hxD
    exact hx
   obtain⟨y,hy,hyD,ho⟩:=ih h.2 D listed (fun j hj=>by
    by_cases hjt:t=j
    ·subst hjt;exact hD t htD
    rw[getD_set_ne false hjt]at hj;exact h0 j hj) hD ⟨x,hx',hxD⟩
   exact⟨y,List.mem_cons_of_mem _ hy,hyD,ho⟩
  refine⟨t,List.mem_cons_self ..,htD,?_⟩
  cases ho:ops[t]? with
  |none=>rw[ho]at h;simp at h
  |some o=>
   rw[ho]at h
   refine⟨o,rfl,fun e he hb=>h0 _ ?_⟩
   have:=(Array.all_eq_true'.1 h.1) e he
   simpa [hb] using this
theorem fresh_phase {G:Nat→Nat→Nat→Value→World→Prop} {listed0:Array Bool} {n:Nat} {T:List Nat} (F:FreshFacts ops listed0 n T) (hP:∀ c a w,¬Q (.panic c) a w) {a0:Act} (hn:a0.tmps.size=n) {w0:World}
  (hSm:∀ w w',S w→Ext w w'→S w') (hGm:∀ i lo hi v w w',G i lo hi v w→Ext w w'→G i lo hi v w')
  (hstep : ∀ i o, i ∈ T → ops[i]? = some o → ∀ (vs : Nat → Value) (w : World) (lo hi : Nat → Nat), S w → Ext w0 w → (∀ k ∈ T, ∀ e, dstOf ops k = some e → e ∈ o.looksAt ops → G k (lo k) (hi k) (vs k) w) →
   o.wp P (over ops vs T a0) w (fun a' w'=>∃ v,a'=(over ops vs T a0).put o.dst v∧G i w.heap.size w'.heap.size v w'∧Ext w w') Q∨(o.asks P (over ops vs T a0) w∧LetsOut Q)) (fuel:Nat)
  (hfin : ∀ (vs : Nat → Value) (lo hi : Nat → Nat) (w : World), S w → Ext w0 w → (∀ k ∈ T, G k (lo k) (hi k) (vs k) w ∧ w0.heap.size ≤ lo k ∧ hi k ≤ w.heap.size) → (∀ i ∈ T, ∀ k ∈ T, i ≠ k → hi i ≤ lo k ∨ hi k ≤ lo i) →
   anyS P ops Q S z fuel (markAll listed0 T) (over ops vs T a0) w) :
  ∀ (m:Nat) (D:List Nat) (vs:Nat→Value) (lo hi:Nat→Nat) (listed:Array Bool) (a:Act) (w:World),D.length+m=T.length →
   FreshInv ops S G listed0 T a0 w0 D vs lo hi listed a w→anyS P ops Q S z (fuel+m) listed a w:=by
 have hdist:∀ t,∀ i∈T,∀ j∈T,dstOf ops i=some t→dstOf ops j=some t→i=j:=by
  intro t i hi j hj h1 h2
  by_cases hij:i=j
  ·exact hij
  obtain⟨o,d,ho,hd,_,_,_,_,_,hk⟩:=F.op j hj
  obtain⟨e,he,hed,_⟩:=hk i hi hij
  have:dstOf ops j=some d:=by simp[dstOf,ho,hd]
  rw[this]at h2
  rw[he]at h1
  cases h1;cases h2
  exact absurd rfl hed
 have hdist':∀ i∈T,∀ j∈T,i≠j→dstOf ops i≠dstOf ops j∨dstOf ops i=none:=by
  intro i hi j hj hij
  cases h:dstOf ops i with
  |none=>exact .inr rfl
  |some t=>exact .inl fun e=>hij (hdist t i hi j hj h e.symm)
 intro m
 induction m with
 | zero =>
  intro D vs lo hi listed a w hlen I
  have hall:∀ t∈T,t∈D:=by
   intro t ht
   by_cases htD:t∈D
   ·exact htD
   exfalso
   have hsub:(t::D).Nodup:=List.nodup_cons.2 ⟨htD,I.nodup⟩
   have:=List.Nodup.length_le_of_subset hsub (l₂:=T) (fun x hx=>by
    rcases List.mem_cons.1 hx with rfl |hx
    ·exact ht
    exact I.sub x hx)
   simp only[List.length_cons]at this
   omega
  have ea:a=over ops vs T a0:=by
   have h1:a.tmps=(over ops vs T a0).tmps:=by
    apply Array.ext_getElem?
    intro k
    rw[I.slots k,over_get vs k T a0 hdist' F.nodup]
    exact slotBy_agree I.sub (hdist k) (fun x hx _=>hall x hx)
   have h2:a.defers=(over ops vs T a0).defers:=by rw[I.defers,over_defers]
   cases a;cases hov:over ops vs T a0;rw[hov]at h1 h2;simp only at h1 h2;rw[h1,h2]
  have el:listed=markAll listed0 T:=by
   apply Array.ext
   ·rw[markAll_size,I.size,F.size]
   intro j h1 h2
   have h3:=I.marks j (by rw[← I.size];exact h1)
   have h4:=markAll_get (l:=listed0) j T (by rw[F.size,← I.size];exact h1)
   have h5:D.contains j=T.contains j:=by
    rw[Bool.eq_iff_iff];simp only[List.contains_eq_mem,decide_eq_true_eq]
    exact⟨I.sub j,hall j⟩
   rw[h5,← h4]at h3
   simpa [h1,h2] using h3
  rw[ea,el]
  exact hfin vs lo hi w I.S I.ext (fun k hk=>I.held k (hall k hk)) (fun i hi' k hk=>I.apart i (hall i hi') k (hall k hk))
 | succ m ih =>
  intro D vs lo hi listed a w hlen I
  have hex:∃ t∈T,t ∉ D:=by
   refine Classical.byContradiction fun hno=>?_
   have hall:∀ t∈T,t∈D:=fun t ht=>Classical.byContradiction fun h=>hno ⟨t,ht,h⟩
   have:=List.Nodup.length_le_of_subset F.nodup (l₂:=D) hall
   omega
  have up:∀ j,listed0.getD j false=true→listed.getD j false=true:=by
   intro j hj
   have hlt:j<ops.size:=by
    rw[← F.size]
    exact Classical.byContradiction fun h=>by simp[Array.getElem?_eq_none (Nat.le_of_not_lt h)]at hj
   rw[I.marks j hlt,hj];rfl
  have upD:∀ j∈D,listed.getD j false=true:=by
   intro j hj
   obtain⟨o,_,ho,_⟩:=F.op j (I.sub j hj)
   rw[I.marks j (Array.getElem?_eq_some_iff.1 ho).1]
   simp[hj]
  have undone:∀ t∈T,t ∉ D→listed.getD t true=false:=by
   intro t ht htD
   obtain⟨o,_,ho,_,_,_,_,_,h0,_⟩:=F.op t ht
   have hlt:=(Array.getElem?_eq_some_iff.1 ho).1
   have h1:=I.marks t hlt
   have h0':listed0.getD t false=false:=by
    have:t<listed0.size:=by rw[F.size];exact hlt
    simpa [this] using h0
   rw[h0']at h1
   have:t<listed.size:=by rw[I.size];exact hlt
   simpa [this,htD] using h1
  obtain⟨t0,ht0,ht0D,o0,ho0,hall0⟩:=topo_next F.topo D listed up upD hex
  have hne:Region.ready .any ops listed≠[]:=by
   intro h
   have:t0∈Region.ready .any ops listed:=mem_ready.2 ⟨undone t0 ht0 ht0D,o0,ho0,hall0⟩
   rw[h]at this
   cases this
  refine⟨fun h=>absurd h hne,fun i hir=>?_⟩
  obtain⟨hun,o,ho,hafter⟩:=mem_ready.1 hir
  have hlt:=(Array.getElem?_eq_some_iff.1 ho).1
  have hiT:i∈T:=by
   rcases F.rest i hlt with h |h |h
   ·exact h
   ·exfalso
    have h':listed0.getD i false=true:=by
     have:i<listed0.size:=by rw[F.size];exact hlt
     simpa [this] using h
    have h2:=up i h'
    have:i<listed.size:=by rw[I.size];exact hlt
    simp[this]at h2 hun
    rw[h2]at hun;cases hun
   exfalso
   have h1:=waits_listed I.closed ops.size i o ho hafter t0 (h t0 ht0)
   have h2:=undone t0 ht0 ht0D
   obtain⟨_,_,hot,_⟩:=F.op t0 ht0
   have:t0<listed.size:=by rw[I.size];exact(Array.getElem?_eq_some_iff.1 hot).1
   simp[this]at h1 h2
   rw[h1]at h2;cases h2
  have hiD:i ∉ D:=by
   intro h
   have h1:=upD i h
   have:i<listed.size:=by rw[I.size];exact hlt
   simp[this]at h1 hun
   rw[h1]at hun;cases hun
  obtain⟨o',d,ho',hd,hdn,hdl,hg,hsel,_,hk⟩:=F.op i hiT
  obtain rfl:o=o':=Option.some.inj (ho.symm.trans ho')
  have hid:dstOf ops i=some d:=by simp[dstOf,ho,hd]
  have same:∀ t,t∈o.looksAt ops→a.tmps[t]?=(over ops vs T a0).tmps[t]?:=by
   intro t ht
   rw[I.slots t,over_get vs t T a0 hdist' F.nodup]
   refine slotBy_agree I.sub (hdist t) (fun k hkT hkt=>?_)
   by_cases hki:k=i
   ·subst hki
    rw[hid]at hkt;cases hkt
    exact absurd ht hdl
   obtain⟨e,he,_,hl⟩:=hk k hkT hki
   rw[hkt]at he;cases he
   obtain⟨x,hx,hxb,hxk⟩:=hl ht
   have:=hafter x hx hxb
   rw[hxk]at this
   exact Classical.byContradiction fun hkD=>by
    have h2:=undone k hkT hkD
    obtain⟨_,_,hot,_⟩:=F.op k hkT
    have h3:k<listed.size:=by rw[I.size];exact(Array.getElem?_eq_some_iff.1 hot).1
    simp[h3]at this h2
    rw[this]at h2;cases h2
  have heval:execOp (over ops vs T a0).eval o=execOp a.eval o:=execOp_congr o hsel fun x hx=>by
   cases x with
   |tmp t=>
    have:=same t (List.mem_append_left _ (List.mem_filterMap.2 ⟨.tmp t,by simpa using hx,rfl⟩))
    simp[Act.eval,Array.getD_eq_getD_getElem?,this]
   |_=>rfl
  have hst:=hstep i o hiT ho vs w lo hi I.S I.ext (fun k hkT e he hel=>by
   by_cases hki:k=i
   ·subst hki
    rw[hid]at he;cases he
    exact absurd hel hdl
   obtain⟨e',he',_,hl⟩:=hk k hkT hki
   rw[he]at he';cases he'
   obtain⟨x,hx,hxb,hxk⟩:=hl hel
   have:=hafter x hx hxb
   rw[hxk]at this
   have hkD:k∈D:=Classical.byContradiction fun hkD=>by
    have h2:=undone k hkT hkD
    obtain⟨_,_,hot,_⟩:=F.op k hkT
    have h3:k<listed.size:=by rw[I.size];exact(Array.getElem?_eq_some_iff.1 hot).1
    simp[h3]at this h2
    rw[this]at h2;cases h2
   exact(I.held k hkD).1)
  have hput:∀ (b:Act) (v u:Value),b.tmps.size=n→b.put o.dst v=b.put o.dst u→v=u:=by
   intro b v u hb h
   have h1:(b.put o.dst v).tmps[d]?=(b.put o.dst u).tmps[d]?:=by rw[h]
   rw[put_get,put_get,if_pos ⟨hd,by rw[hb];exact hdn⟩,if_pos ⟨hd,by rw[hb];exact hdn⟩]at h1
   exact Option.some.inj h1
  have hov:(over ops vs T a0).tmps.size=n:=by rw[over_size];exact hn
  have hwp:o.wp P a w (fun a' w'=>∃ v,a'=a.put o.dst v∧G i w.heap.size w'.heap.size v w'∧Ext w w') Q∨(o.asks P a w∧LetsOut Q):=by
   refine hst.imp (fun hst=>?_) (fun h=>⟨by unfold Oper.asks at *;rw[← heval];exact h.1,h.2⟩)
   refine wp_carry (a:=over ops vs T a0) heval hP (fun v w' h=>?_) (fun dd w' h=>?_) hst
   ·obtain⟨u,hu,h2⟩:=h
    obtain rfl:=hput _ _ _ hov hu
    exact⟨v,rfl,h2⟩
   obtain⟨u,hu,_⟩:=h
   have:({ over ops vs T a0 with defers:=dd::(over ops vs T a0).defers }.put o.dst undef).defers=((over ops vs T a0).put o.dst u).defers:=by rw[hu]
   rw[hd]at this
   simp[Act.put]at this
  unfold wpOp
  rw[ho]
  simp only
  rw[if_pos (by simp[Region.wanted,hg])]
  refine hwp.imp (fun hwp=>Oper.wp_mono (fun a' w' h=>?_) hwp) id
  obtain⟨v,rfl,hG,hE⟩:=h
  have hS':=hSm _ _ I.S hE
  refine⟨fun _=>hS',?_⟩
  refine ih (i::D) (fun j=>if j=i then v else vs j) (fun j=>if j=i then w.heap.size else lo j) (fun j=>if j=i then w'.heap.size else hi j) _ _ w' (by simp only[List.length_cons];omega) ?_
  refine⟨fun x hx=>?_,List.nodup_cons.2 ⟨hiD,I.nodup⟩,by simp[I.size],fun j hj=>?_,fun j oj hoj hl e he hb=>?_,?_,by rw[put_size];exact I.tmps,fun k=>?_,fun k hk'=>?_,fun x hx y hy hxy=>?_,I.ext.trans hE,hS'⟩
  ·rcases List.mem_cons.1 hx with rfl |hx
   ·exact hiT
   exact I.sub x hx
  ·by_cases hij:i=j
   ·subst hij
    have:i<listed.size:=by rw[I.size];exact hlt
    simp[this]
   rw[getD_set_ne false hij,I.marks j hj]
   simp[Ne.symm hij]
  ·by_cases hij:i=j
   ·subst hij
    obtain rfl:o=oj:=Option.some.inj (ho.symm.trans hoj)
    exact getD_set_true (hafter e he hb)
   rw[getD_set_ne false hij]at hl
   exact getD_set_true (I.closed j oj hoj hl e he hb)
  ·rw[hd];exact I.defers
  ·rw[put_get,hd]
   by_cases hdk:d=k
   ·subst hdk
    unfold slotBy
    rw[List.find?_cons,show(dstOf ops i==some d)=true by simp[hid]]
    simp only[true_and,if_true]
    rw[I.tmps]
    by_cases hlt2:d<a0.tmps.size
    ·rw[if_pos hlt2,if_pos hlt2]
    rw[hn]at hlt2;exact absurd hdn hlt2
   rw[if_neg (fun h=>hdk (Option.some.inj h.1)),I.slots k]
   unfold slotBy
   rw[List.find?_cons,show(dstOf ops i==some k)=false by simp[hid,hdk]]
   cases hf:D.find? (fun i=>dstOf ops i==some k) with
   |none=>rfl
   |some j=>
    have hji:j≠i:=fun e=>hiD (e ▸ List.mem_of_find?_eq_some hf)
    simp[hji]
  ·rcases List.mem_cons.1 hk' with rfl |hk'
   ·simp only[if_true]
    exact⟨hG,I.ext.size,Nat.le_refl _⟩
   have hki:k≠i:=fun e=>hiD (e ▸ hk')
   simp only[hki,if_false]
   have:=I.held k hk'
   exact⟨hGm _ _ _ _ _ _ this.1 hE,this.2.1,Nat.le_trans this.2.2 hE.size⟩
  rcases List.mem_cons.1 hx with hxi |hxD
  ·subst hxi
   rcases List.mem_cons.1 hy with hyx |hyD
   ·exact absurd hyx.symm hxy
   have hyi:y≠x:=Ne.symm hxy
   simp only[if_true,hyi,if_false]
   exact .inr (I.held y hyD).2.2
  have hxi:x≠i:=fun e=>hiD (e ▸ hxD)
  rcases List.mem_cons.1 hy with hyi |hyD
  ·subst hyi
   simp only[if_true,hxi,if_false]
   exact .inl (I.held x hxD).2.2
  have hyi:y≠i:=fun e=>hiD (e ▸ hyD)
  simp only[hxi,hyi,if_false]
  exact I.apart x hxD y hyD hxy
def puts (vs:Nat→Value):List (Nat×Tmp)→Act→Act
 |[],a=>a
 |p::r,a=>puts vs r (a.put (some p.2) (vs p.1))
theorem over_eq_puts (vs:Nat→Value):∀ (TS:List (Nat×Tmp)) (a:Act),(∀ p∈TS,dstOf ops p.1=some p.2)→over ops vs (TS.map (·.1)) a=puts vs TS a
 |[],_,_=>rfl
 |p::r,a,h=>by
  simp only[List.map_cons,over,puts]
  rw[show(ops[p.1]?).bind (·.dst)=some p.2 from h p (List.mem_cons_self ..)]
  exact over_eq_puts vs r _ (fun q hq=>h q (List.mem_cons_of_mem _ hq))
theorem wp_of_list {o:Oper} {K:Act→World→Prop} {a:Act} {w:World} (hg:o.guard=none) (h:wpList P ops (Exit.then K Q) [o] a w):o.wp P a w K Q∨(o.asks P a w∧LetsOut Q):=by
 unfold wpList at h
 rw[if_pos (by simp[Region.wanted,hg])]at h
 refine h.imp (fun h1=>?_) (fun h1=>⟨h1.1,h1.2⟩)
 unfold Oper.wp at *
 generalize (execOp a.eval o).run P w=x at *
 cases x with
 | ok n w1 =>
  cases n<;>simp only[Oper.upon]at h1 ⊢<;>first
   |exact h1
   |exact Calls.mono h1 (fun e w'' he=>by cases e<;>exact he)
   |exact Rows.mono h1 (fun _ _ he=>he)
 |halt y w1=>cases y<;>simp only[Oper.upon]at h1 ⊢<;>exact h1
def FreshAt (P:Program) (ops:Array Oper) (Q:Exit→Act→World→Prop) (S:World→Prop) (z:Nat) (G:Nat→Nat→Nat→Value→World→Prop) (TS:List (Nat×Tmp)) (plan2:List (Nat×Bool)) (n:Nat) (a1:Act) (w1:World):Prop:=
 a1.tmps.size=n ∧
 (∀ p ∈ TS, ∀ o, ops[p.1]? = some o → ∀ (vs : Nat → Value) (w : World) (lo hi : Nat → Nat), S w → Ext w1 w → (∀ k ∈ TS, k.2 ∈ o.looksAt ops → G k.1 (lo k.1) (hi k.1) (vs k.1) w) →
  ∀ K:Act→World→Prop,(∀ v w',G p.1 w.heap.size w'.heap.size v w'→Ext w w'→K ((puts vs TS a1).put (some p.2) v) w')→wpList P ops (Exit.then K Q) [o] (puts vs TS a1) w) ∧
 (∀ (vs : Nat → Value) (lo hi : Nat → Nat) (w : World), S w → Ext w1 w → (∀ k ∈ TS, G k.1 (lo k.1) (hi k.1) (vs k.1) w ∧ w1.heap.size ≤ lo k.1 ∧ hi k.1 ≤ w.heap.size) →
  (∀ i∈TS,∀ k∈TS,i.1≠k.1→hi i.1≤lo k.1∨hi k.1≤lo i.1)→wpPlan P ops Q S z (Q .normal) plan2 (puts vs TS a1) w)
def freshRegion (ops:Array Oper) (z:Nat) (plan1:List (Nat×Bool)) (TS:List (Nat×Tmp)) (plan2:List (Nat×Bool)) (n:Nat):Bool:=
 match planGo ops z (Array.replicate ops.size false) plan1 with
 |some l1=>freshOK ops l1 n (TS.map (·.1))&&planOK ops z (markAll l1 (TS.map (·.1))) plan2&&(TS.all fun p=>dstOf ops p.1==some p.2)&&decide (plan1.length+TS.length+plan2.length=ops.size)&&lastOK ops z&&!l1.getD z false
 |none=>false
theorem wp_region_fresh {id:Nat} {l:List Oper} {a:Act} {w:World} (S:World→Prop) (z:Nat) (G:Nat→Nat→Nat→Value→World→Prop) (plan1:List (Nat×Bool)) (TS:List (Nat×Tmp)) (plan2:List (Nat×Bool)) (n:Nat)
  (hm:P.follows .mixedOrders=true) (hs:Region.noSelect l.toArray=true) (hp:freshRegion l.toArray z plan1 TS plan2 n=true) (hS:S w.drew)
  (hSm:∀ w w',S w→Ext w w'→S w') (hGm:∀ i lo hi v w w',G i lo hi v w→Ext w w'→G i lo hi v w')
  (h:wpPlan P l.toArray (NoPanic Q) S z (FreshAt P l.toArray (NoPanic Q) S z G TS plan2 n) plan1 a w.drew):(Code.region id l.toArray true).wp P Q a w:=by
 unfold freshRegion at hp
 split at hp
 ·rename_i l1 hl1
  simp only[Bool.and_eq_true,decide_eq_true_eq,List.all_eq_true,beq_iff_eq,Bool.not_eq_true']at hp
  obtain⟨⟨⟨⟨⟨hf,hp2⟩,hd⟩,hlen⟩,hz⟩,hzl⟩:=hp
  have F:=freshOK_spec hf
  refine wp_region_noPanic (wp_region_any hm (any_of_anyS (S:=S) (z:=z) _ _ _ _ ?_))
  have key:=held_of_plan (P:=P) (Q:=NoPanic Q) (S:=S) (C:=FreshAt P l.toArray (NoPanic Q) S z G TS plan2 n) hs hz (fun c a d v w h=>h.elim) l1 (plan2.length+TS.length) (fun a1 w1 hS1 hC=>?_) plan1 _ a w.drew hl1 (by simp) (fun _=>hS) h
  ·rw[show plan2.length+TS.length+plan1.length=l.toArray.size by omega]at key
   exact key
  have hS1':S w1:=hS1 (by rw[hzl];simp)
  obtain⟨hn,hst,hfin⟩:=hC
  have hT:TS.length=(TS.map (·.1)).length:=by simp
  rw[hT]
  have hdst:∀ p∈TS,dstOf l.toArray p.1=some p.2:=hd
  refine fresh_phase (Q:=NoPanic Q) (w0:=w1) F (fun c a w h=>h) hn hSm hGm (fun i o hi ho vs w lo hi' hSw hE hdep=>?_) plan2.length (fun vs lo hi w hSw hE hall hap=>?_) (TS.map (·.1)).length [] (fun _=>undef) (fun _=>0) (fun _=>0) l1 a1 w1 (by simp) ?_
  ·obtain⟨p,hpT,rfl⟩:=List.mem_map.1 hi
   obtain⟨o',d,ho',hod,_,_,hg,_⟩:=F.op p.1 hi
   obtain rfl:o=o':=Option.some.inj (ho.symm.trans ho')
   have hd2:o.dst=some p.2:=by
    have:=hdst p hpT
    simp only[dstOf,ho,Option.bind_some]at this
    exact this
   rw[over_eq_puts vs TS a1 hdst]
   refine wp_of_list hg (hst p hpT o ho vs w lo hi' hSw hE (fun k hk hkl=>hdep k.1 (List.mem_map.2 ⟨k,hk,rfl⟩) k.2 (hdst k hk) hkl) _ (fun v w' hG hE'=>?_))
   rw[hd2]
   exact⟨v,rfl,hG,hE'⟩
  ·rw[over_eq_puts vs TS a1 hdst]
   have hw:=hfin vs lo hi w hSw hE (fun k hk=>hall k.1 (List.mem_map.2 ⟨k,hk,rfl⟩)) (fun i hi k hk hne=>hap i.1 (List.mem_map.2 ⟨i,hi,rfl⟩) k.1 (List.mem_map.2 ⟨k,hk,rfl⟩) hne)
   unfold planOK at hp2
   split at hp2
   ·rename_i l2 hl2
    have:=held_of_plan (P:=P) (Q:=NoPanic Q) (S:=S) (C:=NoPanic Q .normal) hs hz (fun c a d v w h=>h.elim) l2 0 (fun a w _ h=>anyS_done (by simpa using hp2) h 0) plan2 _ _ w hl2 (by rw[markAll_size,F.size]) (fun _=>hSw) hw
    rw[Nat.zero_add]at this
    exact this
   cases hp2
  exact⟨(fun x hx=>by cases hx),List.nodup_nil,F.size,(fun j hj=>by simp),F.closed,rfl,rfl,(fun k=>rfl),(fun k hk=>by cases hk),(fun i hi=>by cases hi),Ext.refl _,hS1'⟩
 cases hp
theorem plan_nil {a:Act} {w:World} (h:C a w):wpPlan P ops Q S z C [] a w:=h
theorem plan_done {a:Act} {w:World} (h:Q .normal a w):wpPlan P ops (NoPanic Q) S z (NoPanic Q .normal) [] a w:=h
def pick (L:List Oper) (is:List Nat):List Oper:=is.filterMap (L[·]?)
theorem seg_pick {L:List Oper} {wx:World} {A:Act} {i:Nat} {is:List Nat} {o:Oper} {a:Act} (ho:L[i]?=some o)
  (h:∀ K:Act→World→Prop,(∀ a' w',Seg P L.toArray wx A (pick L is) a' w'→K a' w')→wpList P L.toArray (Exit.then K noEnd) [o] a wx):Seg P L.toArray wx A (pick L (i::is)) a wx:=by
 have e:pick L (i::is)=o::pick L is:=by simp[pick,ho]
 rw[e]
 exact seg_cons h
theorem plan_seg {L:List Oper} {A:Act} {a:Act} {w:World} (n:Nat) (ps:List Nat) (rest:List (Nat×Bool)) (hb:ps.all (decide <|·<L.length)=true)
  (hs:segOK n (pick L ps)=true) (hn:a.tmps.size=n) (hS:S w) (h:∀ wx,S wx→Seg P L.toArray wx A (pick L ps) a wx)
  (hrest:wpPlan P L.toArray Q S z C rest A w):wpPlan P L.toArray Q S z C (ps.map (·,true)++rest) a w:=by
 refine plan_of_seg hS rest hrest ps (pick L ps) a ?_ hs hn h
 clear h hs hrest
 induction ps with
 |nil=>rfl
 |cons i is ih=>
  simp only[List.all_cons,Bool.and_eq_true,decide_eq_true_eq]at hb
  have:=ih hb.2
  have e:pick L (i::is)=L[i]::pick L is:=by simp[pick,hb.1]
  rw[e]
  simp only[List.map_cons]
  rw[this]
  simp[hb.1]
end
end Go.Plan
namespace Go.Trk
structure Src where
 kind:Int
 name:ByteArray
 an:Int
 ad:Int
 sn:Int
 sd:Int
 smooth:Bool
theorem Src.ext2 {a b:Src} (h1:a.kind=b.kind) (h2:a.name=b.name) (h3:a.an=b.an) (h4:a.ad=b.ad) (h5:a.sn=b.sn) (h6:a.sd=b.sd) (h7:a.smooth=b.smooth):a=b:=by
 cases a;cases b;simp only at h1 h2 h3 h4 h5 h6 h7;subst h1 h2 h3 h4 h5 h6 h7;rfl
instance : DecidableEq Src := fun a b =>
 if h:a.kind=b.kind∧a.name=b.name∧a.an=b.an∧a.ad=b.ad∧a.sn=b.sn∧a.sd=b.sd∧a.smooth=b.smooth then
  .isTrue (Src.ext2 h.1 h.2.1 h.2.2.1 h.2.2.2.1 h.2.2.2.2.1 h.2.2.2.2.2.1 h.2.2.2.2.2.2)
 else .isFalse fun e=>h (by subst e;exact⟨rfl,rfl,rfl,rfl,rfl,rfl,rfl⟩)
def black:Src:=⟨0,ByteArray.empty,0,0,0,0,false⟩
def Src.at' (s:Src):Rat:=mkRat s.an s.ad.toNat
def Src.sp (s:Src):Rat:=mkRat s.sn s.sd.toNat
def moved (s:Src) (n:Int):Src:=if s=black then s else { s with an:=(s.at'+n*s.sp).num,ad:=(s.at'+n*s.sp).den }
structure Good (s:Src):Prop where
 k:s.kind≠0
 a0:1≤s.ad
 a1:s.an.natAbs.gcd s.ad.toNat=1
 s0:1≤s.sd
 s1:s.sn.natAbs.gcd s.sd.toNat=1
def Okay (s:Src):Prop:=s=black∨Good s
theorem Good.ne {s:Src} (h:Good s):s≠black:=fun e=>h.k (by rw[e];rfl)
theorem mk_num {n d:Int} (h0:1≤d) (h1:n.natAbs.gcd d.toNat=1):(mkRat n d.toNat).num=n∧((mkRat n d.toNat).den:Int)=d:=by
 have hd:d.toNat≠0:=by omega
 have h1':d.toNat.gcd n.natAbs=1:=by rw[Nat.gcd_comm];exact h1
 rw[Rat.num_mkRat,Rat.den_mkRat,if_neg hd,if_neg hd,h1']
 constructor
 ·simp
 simp;omega
theorem moved_black (n:Int):moved black n=black:=by unfold moved;rw[if_pos rfl]
theorem moved_at {s:Src} (h:Good s) (n:Int):(moved s n).at'=s.at'+n*s.sp:=by
 unfold moved
 rw[if_neg h.ne]
 show mkRat (s.at'+n*s.sp).num ((s.at'+n*s.sp).den:Int).toNat=_
 rw[Int.toNat_natCast]
 exact Rat.mkRat_self _
theorem moved_good {s:Src} (h:Good s) (n:Int):Good (moved s n):=by
 unfold moved
 rw[if_neg h.ne]
 refine⟨h.k,?_,?_,h.s0,h.s1⟩
 ·show(1:Int)≤((s.at'+n*s.sp).den:Int)
  have:=(s.at'+n*s.sp).den_pos
  omega
 show(s.at'+n*s.sp).num.natAbs.gcd ((s.at'+n*s.sp).den:Int).toNat=1
 rw[Int.toNat_natCast]
 exact(s.at'+n*s.sp).reduced
theorem moved_kind (s:Src) (n:Int):(moved s n).kind=s.kind:=by unfold moved;split<;>rfl
theorem moved_sp (s:Src) (n:Int):(moved s n).sp=s.sp:=by unfold moved;split<;>rfl
theorem moved_okay {s:Src} (h:Okay s) (n:Int):Okay (moved s n):=by
 rcases h with rfl |h
 ·exact .inl (moved_black n)
 exact .inr (moved_good h n)
theorem moved_zero {s:Src} (h:Okay s):moved s 0=s:=by
 rcases h with rfl |h
 ·exact moved_black 0
 have e:s.at'+((0:Int):Rat)*s.sp=s.at':=by
  rw[show((0:Int):Rat)=0 from rfl,Rat.zero_mul,Rat.add_zero]
 unfold moved
 rw[if_neg h.ne,e]
 obtain⟨h1,h2⟩:=mk_num h.a0 h.a1
 refine Src.ext2 rfl rfl ?_ ?_ rfl rfl rfl
 ·exact h1
 exact h2
theorem moved_add {s:Src} (h:Okay s) (a b:Int):moved (moved s a) b=moved s (a+b):=by
 rcases h with rfl |h
 ·rw[moved_black,moved_black,moved_black]
 have hg:=moved_good h a
 have e:(moved s a).at'+b*(moved s a).sp=s.at'+((a+b:Int):Rat)*s.sp:=by
  rw[moved_at h,moved_sp,Rat.intCast_add,Rat.add_mul,Rat.add_assoc]
 have e1:moved (moved s a) b={ moved s a with an:=((moved s a).at'+b*(moved s a).sp).num,ad:=((moved s a).at'+b*(moved s a).sp).den }:=by
  show(if moved s a=black then moved s a else _)=_
  rw[if_neg hg.ne]
 rw[e1,e]
 unfold moved
 rw[if_neg h.ne,if_neg h.ne]
structure Clip where
 len:Int
 kind:Int
 a:Src
 b:Src
 off:Int
 total:Int
 param:Int
 text:ByteArray
 gain:Int
 chan:List Int
theorem Clip.ext2 {c d:Clip} (h1:c.len=d.len) (h2:c.kind=d.kind) (h3:c.a=d.a) (h4:c.b=d.b) (h5:c.off=d.off) (h6:c.total=d.total) (h7:c.param=d.param) (h8:c.text=d.text) (h9:c.gain=d.gain) (h10:c.chan=d.chan):c=d:=by
 cases c;cases d;simp only at h1 h2 h3 h4 h5 h6 h7 h8 h9 h10;subst h1 h2 h3 h4 h5 h6 h7 h8 h9 h10;rfl
instance : DecidableEq Clip := fun c d =>
 if h:c.len=d.len∧c.kind=d.kind∧c.a=d.a∧c.b=d.b∧c.off=d.off∧c.total=d.total∧c.param=d.param∧c.text=d.text∧c.gain=d.gain∧c.chan=d.chan then
  .isTrue (Clip.ext2 h.1 h.2.1 h.2.2.1 h.2.2.2.1 h.2.2.2.2.1 h.2.2.2.2.2.1 h.2.2.2.2.2.2.1 h.2.2.2.2.2.2.2.1 h.2.2.2.2.2.2.2.2.1 h.2.2.2.2.2.2.2.2.2)
 else .isFalse fun e=>h (by subst e;exact⟨rfl,rfl,rfl,rfl,rfl,rfl,rfl,rfl,rfl,rfl⟩)
def gap (n:Int):Clip:=⟨n,0,black,black,0,0,0,ByteArray.empty,0,[]⟩
def shares (k:Int):Bool:=decide (k=2)||decide (k=3)
def shift (c:Clip) (n:Int):Clip:={ c with a:=moved c.a n,b:=moved c.b n,off:=if shares c.kind=true then c.off+n else c.off }
def withLen (c:Clip) (n:Int):Clip:={ c with len:=n }
def one (c:Clip) (i:Int):Clip:=withLen (shift c i) 1
structure GoodC (c:Clip):Prop where
 l:1≤c.len
 a:Okay c.a
 b:Okay c.b
 g:c.kind=0→c=gap c.len
theorem shift_add {c:Clip} (ha:Okay c.a) (hb:Okay c.b) (m n:Int):shift (shift c m) n=shift c (m+n):=by
 unfold shift
 refine Clip.ext2 rfl rfl (moved_add ha m n) (moved_add hb m n) ?_ rfl rfl rfl rfl rfl
 show(if shares c.kind=true then(if shares c.kind=true then c.off+m else c.off)+n else(if shares c.kind=true then c.off+m else c.off))=_
 by_cases h:shares c.kind=true
 ·simp only[h,if_true];omega
 simp[h]
theorem shift_zero {c:Clip} (ha:Okay c.a) (hb:Okay c.b):shift c 0=c:=by
 unfold shift
 refine Clip.ext2 rfl rfl (moved_zero ha) (moved_zero hb) ?_ rfl rfl rfl rfl rfl
 show(if shares c.kind=true then c.off+0 else c.off)=_
 split<;>omega
theorem one_zero {c:Clip} (h:GoodC c):one c 0=withLen c 1:=by unfold one;rw[shift_zero h.a h.b]
theorem one_withLen (c:Clip) (n i:Int):one (withLen c n) i=one c i:=rfl
theorem one_shift {c:Clip} (ha:Okay c.a) (hb:Okay c.b) (m i:Int):one (shift c m) i=one c (m+i):=by unfold one;rw[shift_add ha hb]
theorem GoodC.shift {c:Clip} (h:GoodC c) (n:Int):GoodC (shift c n):=by
 refine⟨h.l,moved_okay h.a n,moved_okay h.b n,fun hk=>?_⟩
 have hk':c.kind=0:=hk
 have e:=h.g hk'
 show Trk.shift c n=gap c.len
 rw[e]
 unfold Trk.shift gap
 simp[moved_black,shares]
theorem GoodC.withLen {c:Clip} (h:GoodC c) {n:Int} (hn:1≤n):GoodC (withLen c n):=by
 refine⟨hn,h.a,h.b,fun hk=>?_⟩
 have e:=h.g hk
 show Trk.withLen c n=gap n
 rw[e];rfl
theorem gap_good {n:Int} (h:1≤n):GoodC (gap n):=⟨h,.inl rfl,.inl rfl,fun _=>rfl⟩
theorem one_gap (n i:Int):one (gap n) i=gap 1:=by
 unfold one shift withLen gap
 simp[moved_black,shares]
def fr:List Clip→Int→Clip
 |[],_=>gap 1
 |c::l,i=>if i<c.len then one c i else fr l (i-c.len)
def total:List Clip→Int
 |[]=>0
 |c::l=>c.len+total l
def GoodL (l:List Clip):Prop:=∀ c∈l,GoodC c
theorem total_nonneg {l:List Clip} (h:GoodL l):0≤total l:=by
 induction l with
 |nil=>exact Int.le_refl _
 |cons c l ih=>
  have:=(h c List.mem_cons_self).l
  have:=ih fun d hd=>h d (List.mem_cons_of_mem _ hd)
  simp only[total];omega
theorem total_append (l m:List Clip):total (l++m)=total l+total m:=by
 induction l with
 |nil=>simp[total]
 |cons c l ih=>simp only[List.cons_append,total,ih];omega
theorem total_cons (c:Clip) (l:List Clip):total (c::l)=c.len+total l:=rfl
theorem fr_lt {c:Clip} {l:List Clip} {i:Int} (h:i<c.len):fr (c::l) i=one c i:=by
 show(if i<c.len then one c i else fr l (i-c.len))=_
 rw[if_pos h]
theorem fr_ge {c:Clip} {l:List Clip} {i:Int} (h:c.len≤i):fr (c::l) i=fr l (i-c.len):=by
 show(if i<c.len then one c i else fr l (i-c.len))=_
 rw[if_neg (by omega)]
theorem GoodL.tail {c:Clip} {l:List Clip} (h:GoodL (c::l)):GoodL l:=fun x hx=>h x (List.mem_cons_of_mem _ hx)
theorem GoodL.head {c:Clip} {l:List Clip} (h:GoodL (c::l)):GoodC c:=h c List.mem_cons_self
theorem GoodL.append {l m:List Clip} (h:GoodL l) (k:GoodL m):GoodL (l++m):=fun x hx=>(List.mem_append.1 hx).elim (h x) (k x)
theorem GoodL.nil:GoodL []:=fun x hx=>by cases hx
theorem GoodL.cons {c:Clip} {l:List Clip} (h:GoodC c) (k:GoodL l):GoodL (c::l):=fun x hx=>by
 rcases List.mem_cons.1 hx with rfl |hx
 ·exact h
 exact k x hx
theorem fr_append_lt {l:List Clip} (m:List Clip) (h:GoodL l) {i:Int} (h0:0≤i) (hi:i<total l):fr (l++m) i=fr l i:=by
 induction l generalizing i with
 |nil=>have:total ([]:List Clip)=0:=rfl;omega
 | cons c l ih =>
  rw[total_cons]at hi
  rw[List.cons_append]
  by_cases hc:i<c.len
  ·rw[fr_lt hc,fr_lt hc]
  rw[fr_ge (by omega),fr_ge (by omega)]
  exact ih h.tail (by omega) (by omega)
theorem fr_append_ge {l:List Clip} (m:List Clip) (h:GoodL l) {i:Int} (hi:total l≤i):fr (l++m) i=fr m (i-total l):=by
 induction l generalizing i with
 |nil=>rw[List.nil_append];congr 1;show i=i-0;omega
 |cons c l ih=>
  have h1:=h.head.l
  have h2:=total_nonneg h.tail
  rw[total_cons]at hi ⊢
  rw[List.cons_append,fr_ge (by omega),ih h.tail (by omega)]
  congr 1;omega
theorem fr_beyond {l:List Clip} {i:Int} (h:GoodL l) (hi:total l≤i):fr l i=gap 1:=by
 induction l generalizing i with
 |nil=>rfl
 |cons c l ih=>
  have h1:=h.head.l
  have h2:=total_nonneg h.tail
  rw[total_cons]at hi
  rw[fr_ge (by omega)]
  exact ih h.tail (by omega)
def cont (d c:Clip):Prop:=one d 0=one c c.len
instance (d c : Clip) : Decidable (cont d c) := inferInstanceAs (Decidable (_ = _))
def Pk:List Clip→Prop
 |c::d::l=>¬cont d c∧Pk (d::l)
 |_=>True
theorem Pk.tail {c:Clip} {l:List Clip} (h:Pk (c::l)):Pk l:=by
 cases l with
 |nil=>trivial
 |cons d l=>exact h.2
theorem eq_of_one {c d:Clip} (hc:GoodC c) (hd:GoodC d) (h:one c 0=one d 0) (hl:c.len=d.len):c=d:=by
 rw[one_zero hc,one_zero hd]at h
 have hc':c=withLen (withLen c 1) c.len:=rfl
 have hd':d=withLen (withLen d 1) d.len:=rfl
 rw[hc',hd',h,hl]
theorem one_of_one {c d:Clip} (hc:GoodC c) (hd:GoodC d) (h:one c 0=one d 0) (i:Int):one c i=one d i:=by
 rw[one_zero hc,one_zero hd]at h
 rw[← one_withLen c 1,← one_withLen d 1,h]
theorem cut_short {x y:Clip} {p q:List Clip} (hx:GoodC x) (hy:GoodC y) (hp:GoodL p) (h0:one x 0=one y 0) (hlt:x.len<y.len) (hle:y.len≤x.len+total p) (hpk:Pk (x::p))
  (hf:∀ i,0≤i→i<x.len+total p→fr (x::p) i=fr (y::q) i):False:=by
 have x1:=hx.l
 cases p with
 |nil=>have:total ([]:List Clip)=0:=rfl;omega
 |cons e p=>
  have h1:=hf x.len (by omega) (by omega)
  have e1:=hp.head.l
  rw[fr_ge (Int.le_refl _),fr_lt (by omega),fr_lt hlt,show x.len-x.len=0 by omega]at h1
  exact hpk.1 (h1.trans (one_of_one hx hy h0 x.len).symm)
theorem pk_unique:∀ {l m:List Clip},GoodL l→GoodL m→Pk l→Pk m→total l=total m→(∀ i,0≤i→i<total l→fr l i=fr m i)→l=m
 |[],[],_,_,_,_,_,_=>rfl
 |[],d::m,_,hm,_,_,ht,_=>by
  have:=hm.head.l
  have:=total_nonneg hm.tail
  rw[total_cons]at ht
  have:total ([]:List Clip)=0:=rfl
  omega
 |c::l,[],hl,_,_,_,ht,_=>by
  have:=hl.head.l
  have:=total_nonneg hl.tail
  rw[total_cons]at ht
  have:total ([]:List Clip)=0:=rfl
  omega
 | c :: l, d :: m, hl, hm, pl, pm, ht, hf => by
  have nl:=total_nonneg hl.tail
  have nm:=total_nonneg hm.tail
  have c1:=hl.head.l
  have d1:=hm.head.l
  rw[total_cons,total_cons]at ht
  rw[total_cons]at hf
  have h0:=hf 0 (Int.le_refl _) (by omega)
  rw[fr_lt (by omega),fr_lt (by omega)]at h0
  rcases Int.lt_trichotomy c.len d.len with h |h |h
  ·exact(cut_short hl.head hm.head hl.tail h0 h (by omega) pl hf).elim
  ·have e:=eq_of_one hl.head hm.head h0 h
   subst e
   have:l=m:=pk_unique hl.tail hm.tail pl.tail pm.tail (by omega) (fun i hi hlt=>by
    have h2:=hf (i+c.len) (by omega) (by omega)
    rw[fr_ge (by omega),fr_ge (by omega),show i+c.len-c.len=i by omega]at h2
    exact h2)
   rw[this]
  exact(cut_short hm.head hl.head hm.tail h0.symm h (by omega) pm (fun i hi hlt=>(hf i hi (by omega)).symm)).elim
def NoTail (l:List Clip):Prop:=∀ c,l.getLast?=some c→c.kind≠0
theorem fr_last {l:List Clip} {c:Clip} (h:GoodL l) (hl:l.getLast?=some c):(fr l (total l-1)).kind=c.kind:=by
 induction l with
 |nil=>simp at hl
 | cons d l ih =>
  have h1:=h.head.l
  have h3:=total_nonneg h.tail
  rw[total_cons]
  cases l with
  |nil=>
   simp only[List.getLast?_singleton,Option.some.injEq]at hl
   subst hl
   have:total ([]:List Clip)=0:=rfl
   rw[fr_lt (by omega)];rfl
  |cons e l=>
   rw[List.getLast?_cons_cons]at hl
   have h2:=h.tail.head.l
   have h4:=total_nonneg h.tail.tail
   rw[total_cons]at h3
   rw[fr_ge (by rw[total_cons];omega),show d.len+total (e::l)-1-d.len=total (e::l)-1 by omega]
   exact ih h.tail hl
theorem nf_unique {l m:List Clip} (gl:GoodL l) (gm:GoodL m) (pl:Pk l) (pm:Pk m) (nl:NoTail l) (nm:NoTail m) (hf:∀ i,0≤i→fr l i=fr m i):l=m:=by
 have key:∀ {p q:List Clip},GoodL p→GoodL q→NoTail q→(∀ i,0≤i→fr p i=fr q i)→¬total p<total q:=by
  intro p q gp gq nq hf h
  have hp:=total_nonneg gp
  cases hq:q.getLast? with
  |none=>
   have:q=[]:=List.getLast?_eq_none_iff.1 hq
   subst this
   have:total ([]:List Clip)=0:=rfl
   omega
  |some c=>
   have h1:=fr_last gq hq
   have h2:=hf (total q-1) (by omega)
   rw[fr_beyond gp (by omega)]at h2
   rw[← h2]at h1
   exact nq c hq h1.symm
 have h1:=key gl gm nm hf
 have h2:=key gm gl nl (fun i hi=>(hf i hi).symm)
 exact pk_unique gl gm pl pm (by omega) (fun i hi _=>hf i hi)
def snoc (out:List Clip) (c:Clip):List Clip:=
 match out.getLast? with
 |none=>[c]
 |some p=>if cont c p then out.dropLast++[withLen p (p.len+c.len)] else out++[c]
def pk (l:List Clip):List Clip:=l.foldl snoc []
theorem pk_snoc (l:List Clip) (c:Clip):pk (l++[c])=snoc (pk l) c:=by simp[pk]
theorem list_snoc {P:List Clip→Prop} (h0:P []) (h1:∀ l c,P l→P (l++[c])) (l:List Clip):P l:=by
 have:∀ l:List Clip,P l.reverse:=by
  intro l
  induction l with
  |nil=>exact h0
  |cons c l ih=>rw[List.reverse_cons];exact h1 _ _ ih
 rw[← List.reverse_reverse l]
 exact this _
theorem Pk.add {l:List Clip} {p c:Clip} (h:Pk (l++[p])) (hn:¬cont c p):Pk (l++[p]++[c]):=by
 induction l with
 |nil=>exact⟨hn,trivial⟩
 |cons d l ih=>
  cases l with
  |nil=>exact⟨h.1,hn,trivial⟩
  |cons e l=>exact⟨h.1,ih h.2⟩
theorem Pk.len {l:List Clip} {p:Clip} (h:Pk (l++[p])) (n:Int):Pk (l++[withLen p n]):=by
 induction l with
 |nil=>trivial
 |cons d l ih=>
  cases l with
  |nil=>exact⟨h.1,trivial⟩
  |cons e l=>exact⟨h.1,ih h.2⟩
theorem Pk.front {l:List Clip} {p:Clip} (h:Pk (l++[p])):Pk l:=by
 induction l with
 |nil=>trivial
 |cons d l ih=>
  cases l with
  |nil=>trivial
  |cons e l=>exact⟨h.1,ih h.2⟩
theorem Pk.last2 {l:List Clip} {p c:Clip} (h:Pk (l++[p]++[c])):¬cont c p:=by
 induction l with
 |nil=>exact h.1
 |cons d l ih=>
  cases l with
  |nil=>exact h.2.1
  |cons e l=>exact ih h.2
theorem one_cont {c p:Clip} (hc:GoodC c) (hp:GoodC p) (h:cont c p) (j:Int):one c j=one p (p.len+j):=by
 have e:one c 0=one (shift p p.len) 0:=by rw[one_shift hp.a hp.b,show p.len+0=p.len by omega];exact h
 rw[one_of_one hc (hp.shift p.len) e j,one_shift hp.a hp.b]
structure Same (l m:List Clip):Prop where
 t:total l=total m
 f:∀ i,0≤i→fr l i=fr m i
theorem Same.refl (l:List Clip):Same l l:=⟨rfl,fun _ _=>rfl⟩
theorem Same.trans {l m n:List Clip} (h:Same l m) (k:Same m n):Same l n:=⟨h.t.trans k.t,fun i hi=>(h.f i hi).trans (k.f i hi)⟩
theorem Same.append {l m l' m':List Clip} (gl:GoodL l) (gl':GoodL l') (h:Same l l') (k:Same m m'):Same (l++m) (l'++m'):=by
 refine⟨by rw[total_append,total_append,h.t,k.t],fun i hi=>?_⟩
 by_cases hj:i<total l
 ·rw[fr_append_lt m gl hi hj,fr_append_lt m' gl' hi (by rw[← h.t];exact hj),h.f i hi]
 rw[fr_append_ge m gl (by omega),fr_append_ge m' gl' (by rw[← h.t];omega),k.f _ (by omega),h.t]
theorem getLast_split {l:List Clip} {p:Clip} (h:l.getLast?=some p):l=l.dropLast++[p]:=by
 have hne:l≠[]:=by rintro rfl;simp at h
 have:l.getLast hne=p:=by rw[List.getLast?_eq_some_getLast hne]at h;exact Option.some.inj h
 rw[← this,List.dropLast_concat_getLast]
structure PkOf (l out:List Clip):Prop where
 g:GoodL out
 p:Pk out
 s:Same out l
 n:out.length≤l.length
 e:out.getLast?=none↔l=[]
 last:∀ p c,out.getLast?=some p→l.getLast?=some c→one p p.len=one c c.len∧p.kind=c.kind
theorem PkOf.nil:PkOf [] []:=⟨GoodL.nil,trivial,Same.refl _,Nat.le_refl _,by simp,by simp⟩
theorem PkOf.snoc {l out : List Clip} {c : Clip} (h : PkOf l out) (gl : GoodL l) (hc : GoodC c) : PkOf (l ++ [c]) (snoc out c) := by
 unfold Trk.snoc
 cases ho:out.getLast? with
 |none=>
  have e:=h.e.1 ho
  subst e
  have:out=[]:=List.getLast?_eq_none_iff.1 ho
  subst this
  exact⟨GoodL.cons hc GoodL.nil,trivial,Same.refl _,Nat.le_refl _,by simp,fun p d h1 h2=>by simp at h1 h2;subst h1 h2;exact⟨rfl,rfl⟩⟩
 | some p =>
  have hs:=getLast_split ho
  obtain⟨q,hq⟩:=Xq (out.dropLast)
  rw[← hq]at hs
  have hg:=h.g
  have hp:=h.p
  have hsm:=h.s
  have hn:=h.n
  rw[hs]at hg hp hsm hn
  have gq:GoodL q:=fun x hx=>hg x (List.mem_append_left _ hx)
  have gp:GoodC p:=hg p (by simp)
  have p1:=gp.l
  have c1:=hc.l
  simp only
  by_cases hct:cont c p
  ·rw[if_pos hct,← hq]
   have gp':GoodC (withLen p (p.len+c.len)):=gp.withLen (by omega)
   refine⟨gq.append (GoodL.cons gp' GoodL.nil),hp.len _,?_,?_,by simp,fun p' c' h1 h2=>?_⟩
   ·have h1:Same [withLen p (p.len+c.len)] ([p]++[c]):=by
     refine⟨?_,fun i hi=>?_⟩
     ·show p.len+c.len+0=p.len+(c.len+0);omega
     show fr [withLen p (p.len+c.len)] i=fr (p::[c]) i
     by_cases h1:i<p.len
     ·rw[fr_lt (show i<(withLen p (p.len+c.len)).len by show i<p.len+c.len;omega),fr_lt h1];rfl
     rw[fr_ge (show p.len≤i by omega)]
     by_cases h2:i<p.len+c.len
     ·rw[fr_lt (show i<(withLen p (p.len+c.len)).len from h2),fr_lt (by omega),one_withLen,one_cont hc gp hct]
      congr 1;omega
     rw[fr_ge (show(withLen p (p.len+c.len)).len≤i by show p.len+c.len≤i;omega),fr_ge (by omega)];rfl
    have h2:Same (q++[withLen p (p.len+c.len)]) (q++([p]++[c])):=Same.append gq gq (Same.refl q) h1
    rw[← List.append_assoc]at h2
    exact h2.trans (Same.append hg gl hsm (Same.refl [c]))
   ·simp only[List.length_append,List.length_cons,List.length_nil]at hn ⊢;omega
   simp only[List.getLast?_append,List.getLast?_singleton,Option.some_or,Option.some.injEq]at h1 h2
   subst h1 h2
   refine⟨?_,?_⟩
   ·show one p (p.len+c.len)=one c c.len
    rw[one_cont hc gp hct]
   have h3:=congrArg Clip.kind hct
   exact h3.symm
  rw[if_neg hct]
  rw[hs]
  refine⟨hg.append (GoodL.cons hc GoodL.nil),hp.add hct,Same.append hg gl hsm (Same.refl [c]),?_,by simp,fun p' c' h1 h2=>?_⟩
  ·simp only[List.length_append,List.length_cons,List.length_nil]at hn ⊢;omega
  simp only[List.getLast?_append,List.getLast?_singleton,Option.some_or,Option.some.injEq]at h1 h2
  subst h1 h2
  exact⟨rfl,rfl⟩
theorem pk_of {l:List Clip} (h:GoodL l):PkOf l (pk l):=by
 revert h
 refine list_snoc (P:=fun l=>GoodL l→PkOf l (pk l)) (fun _=>PkOf.nil) (fun l c ih h=>?_) l
 have gl:GoodL l:=fun x hx=>h x (List.mem_append_left _ hx)
 rw[pk_snoc]
 exact(ih gl).snoc gl (h c (by simp))
theorem cont_last {l:List Clip} (h:GoodL l) {p c d:Clip} (hp:(pk l).getLast?=some p) (hc:l.getLast?=some c):cont d p↔cont d c:=by
 unfold cont
 rw[((pk_of h).last p c hp hc).1]
def dropGap (l:List Clip):List Clip:=
 match l.getLast? with
 |none=>l
 |some p=>if p.kind=0 then l.dropLast else l
def nf (l:List Clip):List Clip:=dropGap (pk l)
structure Norm (l:List Clip):Prop where
 g:GoodL l
 p:Pk l
 n:NoTail l
theorem dropGap_norm {l:List Clip} (g:GoodL l) (p:Pk l):Norm (dropGap l)∧(∀ i,0≤i→fr (dropGap l) i=fr l i)∧total (dropGap l)≤total l∧(dropGap l).length≤l.length:=by
 unfold dropGap
 cases h:l.getLast? with
 |none=>
  have:l=[]:=List.getLast?_eq_none_iff.1 h
  subst this
  exact⟨⟨g,p,fun c hc=>by simp at hc⟩,fun _ _=>rfl,Int.le_refl _,Nat.le_refl _⟩
 | some x =>
  simp only
  by_cases hk:x.kind=0
  ·rw[if_pos hk]
   have hs:=getLast_split h
   obtain⟨q,hq⟩:=Xq (l.dropLast)
   rw[← hq]at hs ⊢
   rw[hs]at g p ⊢
   have gq:GoodL q:=fun y hy=>g y (List.mem_append_left _ hy)
   have gx:GoodC x:=g x (by simp)
   have x1:=gx.l
   have ex:=gx.g hk
   refine⟨⟨gq,p.front,fun c hc=>?_⟩,fun i hi=>?_,?_,?_⟩
   ·intro hck
    have hs2:=getLast_split hc
    rw[hs2]at p
    refine p.last2 ?_
    have gc:GoodC c:=gq c (by rw[hs2];simp)
    have ec:=gc.g hck
    unfold cont
    rw[ec,ex,one_gap,one_gap]
   ·by_cases hj:i<total q
    ·rw[fr_append_lt _ gq hi hj]
    rw[fr_append_ge _ gq (by omega),fr_beyond gq (by omega),ex]
    by_cases hx:i-total q<x.len
    ·rw[fr_lt (show i-total q<(gap x.len).len from hx),one_gap]
    rw[fr_ge (show(gap x.len).len≤i-total q by show x.len≤_;omega)];rfl
   ·rw[total_append]
    show total q≤total q+(x.len+0)
    omega
   simp
  rw[if_neg hk]
  exact⟨⟨g,p,fun c hc=>by rw[h]at hc;cases hc;exact hk⟩,fun _ _=>rfl,Int.le_refl _,Nat.le_refl _⟩
theorem nf_norm {l:List Clip} (h:GoodL l):Norm (nf l):=(dropGap_norm (pk_of h).g (pk_of h).p).1
theorem nf_fr {l:List Clip} (h:GoodL l) {i:Int} (hi:0≤i):fr (nf l) i=fr l i:=((dropGap_norm (pk_of h).g (pk_of h).p).2.1 i hi).trans ((pk_of h).s.f i hi)
theorem nf_total {l:List Clip} (h:GoodL l):total (nf l)≤total l:=by
 have:=(dropGap_norm (pk_of h).g (pk_of h).p).2.2.1
 rw[(pk_of h).s.t]at this
 exact this
theorem nf_length {l:List Clip} (h:GoodL l):(nf l).length≤l.length:=Nat.le_trans (dropGap_norm (pk_of h).g (pk_of h).p).2.2.2 (pk_of h).n
theorem Norm.eq {l m:List Clip} (h:Norm l) (k:Norm m) (hf:∀ i,0≤i→fr l i=fr m i):l=m:=nf_unique h.g k.g h.p k.p h.n k.n hf
theorem Norm.nf {l:List Clip} (h:Norm l):nf l=l:=(nf_norm h.g).eq h fun i hi=>nf_fr h.g hi
theorem pk_eq {l m:List Clip} (h:GoodL l) (k:GoodL m) (s:Same l m):pk l=pk m:=
 pk_unique (pk_of h).g (pk_of k).g (pk_of h).p (pk_of k).p ((pk_of h).s.t.trans (s.t.trans (pk_of k).s.t.symm)) fun i hi _=>((pk_of h).s.f i hi).trans ((s.f i hi).trans ((pk_of k).s.f i hi).symm)
theorem pk_pk {l:List Clip} (h:GoodL l):pk (pk l)=pk l:=pk_eq (pk_of h).g h (pk_of h).s
def cutRaw:List Clip→Int→Int→List Clip
 |[],_,n=>if 0<n then[gap n] else[]
 |c::l,f,n=>if n≤0 then[] else if c.len≤f then cutRaw l (f-c.len) n else withLen (shift c f) (min (c.len-f) n)::cutRaw l 0 (n-min (c.len-f) n)
def cut (l:List Clip) (a b:Int):List Clip:=pk (cutRaw l a (b-a))
theorem cutRaw_spec:∀ {l:List Clip} {f n:Int},GoodL l→0≤f→0≤n→GoodL (cutRaw l f n)∧total (cutRaw l f n)=n∧∀ i,0≤i→i<n→fr (cutRaw l f n) i=fr l (f+i)
 | [], f, n, _, hf, hn => by
  unfold cutRaw
  by_cases h:0<n
  ·rw[if_pos h]
   refine⟨GoodL.cons (gap_good (by omega)) GoodL.nil,?_,fun i h0 h1=>?_⟩
   ·show n+0=n;omega
   rw[fr_lt (show i<(gap n).len from h1),one_gap];rfl
  rw[if_neg h]
  exact⟨GoodL.nil,by show(0:Int)=n;omega,fun i h0 h1=>by omega⟩
 | c :: l, f, n, hg, hf, hn => by
  unfold cutRaw
  have c1:=hg.head.l
  by_cases h:n≤0
  ·rw[if_pos h]
   exact⟨GoodL.nil,by show(0:Int)=n;omega,fun i h0 h1=>by omega⟩
  rw[if_neg h]
  by_cases hc:c.len≤f
  ·rw[if_pos hc]
   obtain⟨h1,h2,h3⟩:=cutRaw_spec (l:=l) (f:=f-c.len) (n:=n) hg.tail (by omega) hn
   refine⟨h1,h2,fun i h0 hi=>?_⟩
   rw[h3 i h0 hi,fr_ge (show c.len≤f+i by omega)]
   congr 1;omega
  rw[if_neg hc]
  obtain⟨m,hm⟩:=Xq (min (c.len-f) n)
  rw[← hm]
  have m1:1≤m:=by omega
  have m2:m≤n:=by omega
  have m3:m≤c.len-f:=by omega
  obtain⟨h1,h2,h3⟩:=cutRaw_spec (l:=l) (f:=0) (n:=n-m) hg.tail (by omega) (by omega)
  have gc:GoodC (withLen (shift c f) m):=(hg.head.shift f).withLen m1
  refine⟨GoodL.cons gc h1,?_,fun i h0 hi=>?_⟩
  ·rw[total_cons,h2];show m+(n-m)=n;omega
  by_cases hi2:i<m
  ·rw[fr_lt (show i<(withLen (shift c f) m).len from hi2),one_withLen,one_shift hg.head.a hg.head.b,fr_lt (show f+i<c.len by omega)]
  rw[fr_ge (show(withLen (shift c f) m).len≤i by show m≤i;omega)]
  show fr (cutRaw l 0 (n-m)) (i-m)=_
  rw[h3 (i-m) (by omega) (by omega),fr_ge (show c.len≤f+i by omega)]
  congr 1;omega
structure CutOf (l:List Clip) (a b:Int) (m:List Clip):Prop where
 g:GoodL m
 p:Pk m
 t:total m=b-a
 f:∀ i,0≤i→i<b-a→fr m i=fr l (a+i)
theorem cut_of {l:List Clip} {a b:Int} (g:GoodL l) (ha:0≤a) (hb:a≤b):CutOf l a b (cut l a b):=by
 obtain⟨h1,h2,h3⟩:=cutRaw_spec (l:=l) (f:=a) (n:=b-a) g ha (by omega)
 have h:=pk_of h1
 exact⟨h.g,h.p,h.s.t.trans h2,fun i h0 hi=>(h.s.f i h0).trans (h3 i h0 hi)⟩
theorem cutRaw_length (l:List Clip) (f n:Int):(cutRaw l f n).length≤l.length+1:=by
 induction l generalizing f n with
 |nil=>unfold cutRaw;split<;>simp
 | cons c l ih =>
  unfold cutRaw
  split
  ·simp
  split
  ·have:=ih (f-c.len) n;simp;omega
  have:=ih 0 (n-min (c.len-f) n);simp;omega
theorem cut_length {l:List Clip} {a b:Int} (g:GoodL l) (ha:0≤a) (hb:a≤b):(cut l a b).length≤l.length+1:=
 Nat.le_trans (pk_of (cutRaw_spec (l:=l) (f:=a) (n:=b-a) g ha (by omega)).1).n (cutRaw_length l a (b-a))
theorem mul_num {n sn sd:Int} (h0:1≤sd) (h1:sn.natAbs.gcd sd.toNat=1) :
  ((n:Rat)*mkRat sn sd.toNat).num=n / ((n.natAbs.gcd sd.toNat:Nat):Int)*sn∧(((n:Rat)*mkRat sn sd.toNat).den:Int)=sd / ((n.natAbs.gcd sd.toNat:Nat):Int):=by
 obtain⟨e1,e2⟩:=mk_num h0 h1
 obtain⟨d,rfl⟩:=Int.eq_ofNat_of_zero_le (show 0≤sd by omega)
 rw[Int.toNat_natCast]at *
 have e2':(mkRat sn d).den=d:=by omega
 have hg:(n*sn).natAbs.gcd d=n.natAbs.gcd d:=by
  rw[Int.natAbs_mul]
  exact Nat.Coprime.gcd_mul_right_cancel _ h1
 have hgd:((n.natAbs.gcd d:Nat):Int)∣n:=Int.ofNat_dvd_left.2 (Nat.gcd_dvd_left _ _)
 rw[Rat.num_mul,Rat.den_mul,Rat.num_intCast,Rat.den_intCast,e1,e2',Nat.one_mul,hg]
 constructor
 ·rw[Int.mul_comm n sn,Int.mul_ediv_assoc _ hgd,Int.mul_comm]
 rw[Int.natCast_ediv]
theorem add_num (a b:Rat):let g:=a.den.gcd b.den
  let s:=a.num*((b.den / g:Nat):Int)+b.num*((a.den / g:Nat):Int)
  let h:=s.natAbs.gcd g
  (a+b).num=s / (h:Int)∧(a+b).den=(a.den / g)*(b.den / h):=by
 intro g s h
 have hga:g∣a.den:=Nat.gcd_dvd_left _ _
 have hgb:g∣b.den:=Nat.gcd_dvd_right _ _
 have hhg:h∣g:=Nat.gcd_dvd_right _ _
 have hhb:h∣b.den:=Nat.dvd_trans hhg hgb
 show(Rat.add a b).num=_∧(Rat.add a b).den=_
 unfold Rat.add
 by_cases hg:a.den.gcd b.den=1
 ·rw[dif_pos hg]
  have h1:g=1:=hg
  have hh:h=1:=by show s.natAbs.gcd g=1;rw[h1];simp
  have hs:s=a.num*b.den+b.num*a.den:=by show a.num*((b.den / g:Nat):Int)+b.num*((a.den / g:Nat):Int)=_;rw[h1];simp
  rw[hh,h1,hs]
  simp
 rw[dif_neg hg]
 simp only[Rat.maybeNormalize]
 split
 ·rename_i he
  have hh:h=1:=he
  rw[hh]
  exact⟨by simp;rfl,by simp;rfl⟩
 refine⟨?_,?_⟩
 ·exact Int.divExact_eq_ediv (Int.ofNat_dvd_left.2 (Nat.gcd_dvd_left _ _))
 show(a.den / g*b.den) / h=_
 rw[Nat.mul_div_assoc _ hhb]
end Go.Trk
namespace Go.Plan
open Go
section
variable {P:Program} {ops:Array Oper} {Q:Exit→Act→World→Prop} {S:World→Prop} {z:Nat} {C:Act→World→Prop}
def grown (X:Nat→Prop) (w w':World):Nat→Prop:=fun b=>X b∨(w.heap.size≤b∧b<w'.heap.size)
end
open Go
theorem puts_out (vs:Nat→Value) {s:Tmp}:∀ (TS:List (Nat×Tmp)) (a:Act),(∀ p∈TS,p.2≠s)→(puts vs TS a).tmps[s]?=a.tmps[s]?
 |[],_,_=>rfl
 |p::r,a,h=>by
  rw[puts,puts_out vs r _ (fun q hq=>h q (List.mem_cons_of_mem _ hq))]
  simp only[Act.put,Array.getElem?_setIfInBounds]
  rw[if_neg (h p List.mem_cons_self)]
theorem puts_in (vs:Nat→Value) {i:Nat} {s:Tmp}:∀ (TS:List (Nat×Tmp)) (a:Act),(i,s)∈TS→(∀ p∈TS,p.2=s→p.1=i)→s<a.tmps.size→(puts vs TS a).tmps[s]?=some (vs i)
 |[],_,h,_,_=>by cases h
 | p :: r, a, h, hu, hs => by
  rw[puts]
  by_cases hr:(i,s)∈r
  ·exact puts_in vs r _ hr (fun q hq=>hu q (List.mem_cons_of_mem _ hq)) (by simpa [Act.put] using hs)
  have hp:(i,s)=p:=by
   rcases List.mem_cons.1 h with e |e
   ·exact e
   exact absurd e hr
  subst hp
  rw[puts_out vs r _ (fun q hq e=>hr (by
   have:=hu q (List.mem_cons_of_mem _ hq) e
   obtain⟨q1,q2⟩:=q
   simp only at this e
   subst this e
   exact hq))]
  simp only[Act.put,Array.getElem?_setIfInBounds]
  simp[hs]
theorem eval_in {vs:Nat→Value} {i:Nat} {s:Tmp} {TS:List (Nat×Tmp)} {a:Act} (h:(i,s)∈TS) (hu:∀ p∈TS,p.2=s→p.1=i) (hs:s<a.tmps.size):(puts vs TS a).eval (.tmp s)=vs i:=by
 simp only[Act.eval,Array.getD_eq_getD_getElem?,puts_in vs TS a h hu hs,Option.getD_some]
theorem eval_out {vs:Nat→Value} {s:Tmp} {TS:List (Nat×Tmp)} {a:Act} (h:∀ p∈TS,p.2≠s):(puts vs TS a).eval (.tmp s)=a.eval (.tmp s):=by
 simp only[Act.eval,Array.getD_eq_getD_getElem?,puts_out vs TS a h]
section
variable {P:Program} {ops:Array Oper} {o:Oper} {A:Act} {w:World} {K:Act→World→Prop} {Q:Exit→Act→World→Prop}
theorem one_call (hg : o.guard = none) (f : FuncId) {fn : Func} (hf : P.funcs[f]? = some fn) (hfn : (fn.name == "runtime.NumGoroutine") = false) (hfb : fn.body.isNone = false) (args : Array Operand) (T : Array TypeId) (hop : o.op = .call { callee := .value (.func f), args := args, argTypes := T }) (vs : Array Value) (hx : args.map A.eval = vs)
  (R:Value→World→Prop) (hc:Calls P f vs w fun e w'=>∃ r,e=.returned r∧R r w') (h:∀ r w',R r w'→K (A.put o.dst r) w'):wpList P ops (Exit.then K Q) [o] A w:=by
 refine wpList_plain hg fun K' hK'=>?_
 have hrun:(execOp A.eval o).run P w=.ok (.enter f vs) w:=by
  have hcf:(callFunc f vs).run P w=.ok (.enter f vs) w:=by
   unfold callFunc
   rw[Sem.run_bind]
   show Sem.run P _ w=_
   rw[hf]
   simp only[hfn,hfb]
   rfl
  simp[execOp,hop,resolve,invoke,Act.eval,Deferred.ofValue,hx,hcf]
 unfold Oper.wp
 rw[hrun,Oper.upon_enter]
 refine hc.mono fun e w'' hh=>?_
 obtain⟨r,rfl,hR⟩:=hh
 exact hK' _ _ (wpList_nil (h r w'' hR))
end
theorem fresh_at_gen {P:Program} {ops:Array Oper} {Q:Exit→Act→World→Prop} {S:World→Prop} {z:Nat} {G:Nat→Nat→Nat→Value→World→Prop} {TS:List (Nat×Tmp)} {plan2:List (Nat×Bool)} {n:Nat} {a1:Act} {w1:World}
  (F:Act→Prop) (hF:F a1) (hn:a1.tmps.size=n)
  (hst : ∀ A, F A → ∀ p ∈ TS, ∀ o, ops[p.1]? = some o → ∀ (vs : Nat → Value) (w : World) (lo hi : Nat → Nat), S w → Ext w1 w → (∀ k ∈ TS, k.2 ∈ o.looksAt ops → G k.1 (lo k.1) (hi k.1) (vs k.1) w) →
   ∀ K:Act→World→Prop,(∀ v w',G p.1 w.heap.size w'.heap.size v w'→Ext w w'→K ((puts vs TS A).put (some p.2) v) w')→wpList P ops (Exit.then K Q) [o] (puts vs TS A) w)
  (hfin : ∀ (vs : Nat → Value) (lo hi : Nat → Nat) (w : World), S w → Ext w1 w → (∀ k ∈ TS, G k.1 (lo k.1) (hi k.1) (vs k.1) w ∧ w1.heap.size ≤ lo k.1 ∧ hi k.1 ≤ w.heap.size) →
   (∀ i∈TS,∀ k∈TS,i.1≠k.1→hi i.1≤lo k.1∨hi k.1≤lo i.1)→wpPlan P ops Q S z (Q .normal) plan2 (puts vs TS a1) w):FreshAt P ops Q S z G TS plan2 n a1 w1:=⟨hn,hst a1 hF,hfin⟩
end Go.Plan
namespace Go.Trk
def spos (s:Src):Int:=s.an*(6006 / s.ad)
def svel (s:Src):Int:=s.sn*(6006 / s.sd)
structure Lat (s:Src):Prop where
 g:Good s
 a:s.ad∣6006
 s:s.sd∣6006
theorem mk_lat {n d:Int} (h0:1≤d) (hd:d∣6006):mkRat n d.toNat=((n*(6006 / d):Int):Rat) / 6006:=by
 obtain⟨k,hk⟩:=hd
 have hk0:0<k:=by
  rcases Int.lt_or_le 0 k with h |h
  ·exact h
  have:=Int.mul_nonpos_of_nonneg_of_nonpos (show 0≤d by omega) h;omega
 have e:(6006:Int) / d=k:=by rw[hk];exact Int.mul_ediv_cancel_left _ (by omega)
 rw[e]
 obtain⟨D,rfl⟩:=Int.eq_ofNat_of_zero_le (show 0≤d by omega)
 obtain⟨K,rfl⟩:=Int.eq_ofNat_of_zero_le (show 0≤k by omega)
 have hN:D*K=6006:=by exact_mod_cast hk.symm
 have h1:mkRat n D=mkRat (n*K) (D*K):=(Rat.mkRat_mul_right (by omega)).symm
 rw[Int.toNat_natCast,h1,hN,Rat.mkRat_eq_div]
 rfl
theorem lat_mk {r:Rat} {k:Int} (h:r=(k:Rat) / 6006):((r.den:Nat):Int)∣6006∧r.num*(6006 / (r.den:Int))=k:=by
 have h2:r=mkRat k 6006:=by rw[h,Rat.mkRat_eq_div];rfl
 have e1:r.num=k / ((Nat.gcd 6006 k.natAbs:Nat):Int):=by rw[h2,Rat.num_mkRat];simp
 have e2:r.den=6006 / Nat.gcd 6006 k.natAbs:=by rw[h2,Rat.den_mkRat];simp
 have hg:Nat.gcd 6006 k.natAbs∣6006:=Nat.gcd_dvd_left _ _
 have hk:((Nat.gcd 6006 k.natAbs:Nat):Int)∣k:=Int.ofNat_dvd_left.2 (Nat.gcd_dvd_right _ _)
 obtain⟨g,eg⟩:=Xq (Nat.gcd 6006 k.natAbs)
 rw[← eg]at e1 e2 hg hk
 have hg0:0<g:=Nat.pos_of_dvd_of_pos hg (by decide)
 have hd:r.den*g=6006:=by rw[e2];exact Nat.div_mul_cancel hg
 have hdi:(6006:Int) / (r.den:Int)=(g:Int):=by
  have:(6006:Int)=(r.den:Int)*(g:Int):=by exact_mod_cast hd.symm
  rw[this]
  exact Int.mul_ediv_cancel_left _ (by have:=r.den_pos;omega)
 refine⟨⟨(g:Int),by exact_mod_cast hd.symm⟩,?_⟩
 rw[hdi,e1]
 exact Int.ediv_mul_cancel hk
theorem moved_lat {s:Src} (h:Lat s) (n:Int):Lat (moved s n)∧spos (moved s n)=spos s+n*svel s∧svel (moved s n)=svel s:=by
 have ea:s.at'=((spos s:Int):Rat) / 6006:=mk_lat h.g.a0 h.a
 have es:s.sp=((svel s:Int):Rat) / 6006:=mk_lat h.g.s0 h.s
 have er:s.at'+n*s.sp=((spos s+n*svel s:Int):Rat) / 6006:=by
  rw[ea,es,Rat.intCast_add,Rat.intCast_mul,Rat.div_def,Rat.div_def,Rat.div_def,Rat.add_mul,Rat.mul_assoc]
 obtain⟨h1,h2⟩:=lat_mk er
 have em:moved s n={ s with an:=(s.at'+n*s.sp).num,ad:=(s.at'+n*s.sp).den }:=by unfold moved;rw[if_neg h.g.ne]
 refine⟨⟨moved_good h.g n,?_,?_⟩,?_,?_⟩
 ·rw[em];exact h1
 ·rw[em];exact h.s
 ·rw[em];exact h2
 rw[em];rfl
def okName (s:ByteArray):Prop:=
 (∃ c d:UInt8,s=⟨#[c,d]⟩∧97≤(c.toNat:Int)∧(c.toNat:Int)≤122∧48≤(d.toNat:Int)∧(d.toNat:Int)≤57)∨∃ c:UInt8,s=⟨#[c]⟩∧97≤(c.toNat:Int)∧(c.toNat:Int)≤122
def okLine (s:ByteArray):Prop:=1≤s.size∧s.size≤64∧∀ i (hi:i<s.size),32≤(s[i].toNat:Int)∧(s[i].toNat:Int)≤126
structure SrcP (L n:Int) (s:Src):Prop where
 lat:Lat s
 k:s.kind=1∨s.kind=2
 nm:okName s.name
 v0:-18018≤svel s
 v1:svel s≤18018
 p0:-L≤spos s
 p1:spos s≤L
 q0:-L≤spos s+n*svel s
 q1:spos s+n*svel s≤L
def SrcIn (L n:Int) (s:Src):Prop:=s=black∨SrcP L n s
def KindOK (c:Clip):Prop:=
 (c.kind=0∧c.a=black∧c.b=black∧c.off=0∧c.total=0∧c.param=0∧c.text=ByteArray.empty) ∨
 (c.kind=1∧c.b=black∧c.off=0∧c.total=0∧c.param=0∧c.text=ByteArray.empty) ∨
 (c.kind=2∧c.param=0∧c.text=ByteArray.empty) ∨
 (c.kind=3∧0≤c.param∧c.param≤3∧c.text=ByteArray.empty) ∨
 (c.kind=4∧c.off=0∧c.total=0∧0≤c.param∧c.param≤255∧c.text=ByteArray.empty) ∨
 (c.kind=5∧c.b=black∧c.off=0∧c.total=0∧c.param=0∧okLine c.text)
structure Cls (L:Int) (c:Clip):Prop where
 a:SrcIn L c.len c.a
 b:SrcIn L c.len c.b
 ch:c.chan=[]
 gn:c.gain=0
 kd:KindOK c
def okLen (c:Clip):Prop:=1≤c.len∧c.len≤2147483647∧(shares c.kind=true→0≤c.off∧c.len≤c.total∧c.total≤2147483647∧c.off≤c.total-c.len)
instance (c : Clip) : Decidable (okLen c) := inferInstanceAs (Decidable (_ ∧ _ ∧ (_ → _)))
structure VC (L:Int) (x:Clip):Prop where
 c:Cls L x
 l:okLen x
theorem SrcIn.okay {L n:Int} {s:Src} (h:SrcIn L n s):Okay s:=h.imp id fun h=>h.lat.g
theorem SrcIn.mono {L M n:Int} {s:Src} (h:SrcIn L n s) (hl:L≤M):SrcIn M n s:=h.imp id fun h=>
 ⟨h.lat,h.k,h.nm,h.v0,h.v1,by have:=h.p0;omega,by have:=h.p1;omega,by have:=h.q0;omega,by have:=h.q1;omega⟩
theorem Cls.mono {L M:Int} {c:Clip} (h:Cls L c) (hl:L≤M):Cls M c:=⟨h.a.mono hl,h.b.mono hl,h.ch,h.gn,h.kd⟩
theorem VC.mono {L M:Int} {c:Clip} (h:VC L c) (hl:L≤M):VC M c:=⟨h.c.mono hl,h.l⟩
theorem between {p v n L f:Int} (p0:-L≤p) (p1:p≤L) (q0:-L≤p+n*v) (q1:p+n*v≤L) (h0:0≤f) (h1:f≤n):-L≤p+f*v∧p+f*v≤L:=by
 rcases Int.le_total 0 v with hv |hv
 ·have a:=Int.mul_nonneg h0 hv
  have b:=Int.mul_le_mul_of_nonneg_right h1 hv
  omega
 have a:f*v≤0:=Int.mul_nonpos_of_nonneg_of_nonpos h0 hv
 have b:=Int.mul_le_mul_of_nonpos_right h1 hv
 omega
theorem SrcIn.piece {L n f m:Int} {s:Src} (h:SrcIn L n s) (hf:0≤f) (hm:0≤m) (hn:f+m≤n):SrcIn L m (moved s f):=by
 rcases h with rfl |h
 ·rw[moved_black];exact .inl rfl
 obtain⟨h1,h2,h3⟩:=moved_lat h.lat f
 have b1:=between h.p0 h.p1 h.q0 h.q1 hf (show f≤n by omega)
 have b2:=between h.p0 h.p1 h.q0 h.q1 (show 0≤f+m by omega) hn
 have e:spos s+f*svel s+m*svel s=spos s+(f+m)*svel s:=by rw[Int.add_mul];omega
 refine .inr ⟨h1,by rw[moved_kind];exact h.k,?_,by rw[h3];exact h.v0,by rw[h3];exact h.v1,by rw[h2];exact b1.1,by rw[h2];exact b1.2,by rw[h2,h3,e];exact b2.1,by rw[h2,h3,e];exact b2.2⟩
 unfold moved
 split
 ·exact h.nm
 exact h.nm
theorem KindOK.shift {c:Clip} (h:KindOK c) (f m:Int):KindOK (withLen (shift c f) m):=by
 have hs:∀ k,(k=0∨k=1∨k=4∨k=5)→shares k=false:=by
  rintro k (rfl |rfl |rfl |rfl)<;>rfl
 unfold KindOK withLen Trk.shift at *
 simp only
 rcases h with⟨h0,h1,h2,h3,h4,h5,h6⟩ |⟨h0,h2,h3,h4,h5,h6⟩ |⟨h0,h5,h6⟩ |⟨h0,h5,h6⟩ |⟨h0,h3,h4,h5,h6⟩ |⟨h0,h2,h3,h4,h5,h6⟩
 ·rw[h1,h2,moved_black,hs _ (.inl h0)]
  exact .inl ⟨h0,rfl,rfl,h3,h4,h5,h6⟩
 ·rw[h2,moved_black,hs _ (.inr (.inl h0))]
  exact .inr (.inl ⟨h0,rfl,h3,h4,h5,h6⟩)
 ·exact .inr (.inr (.inl ⟨h0,h5,h6⟩))
 ·exact .inr (.inr (.inr (.inl ⟨h0,h5,h6⟩)))
 ·rw[hs _ (.inr (.inr (.inl h0)))]
  exact .inr (.inr (.inr (.inr (.inl ⟨h0,h3,h4,h5,h6⟩))))
 rw[h2,moved_black,hs _ (.inr (.inr (.inr h0)))]
 exact .inr (.inr (.inr (.inr (.inr ⟨h0,rfl,h3,h4,h5,h6⟩))))
theorem VC.good {L:Int} {c:Clip} (h:VC L c):GoodC c:=by
 refine⟨h.l.1,h.c.a.okay,h.c.b.okay,fun hk=>?_⟩
 rcases h.c.kd with⟨h0,h1,h2,h3,h4,h5,h6⟩ |⟨h0,_⟩ |⟨h0,_⟩ |⟨h0,_⟩ |⟨h0,_⟩ |⟨h0,_⟩
 ·exact Clip.ext2 rfl hk h1 h2 h3 h4 h5 h6 h.c.gn h.c.ch
 all_goals rw[hk]at h0;exact absurd h0 (by decide)
theorem VC.piece {L f m:Int} {c:Clip} (h:VC L c) (hf:0≤f) (hm:1≤m) (hn:f+m≤c.len):VC L (withLen (shift c f) m):=by
 refine⟨⟨h.c.a.piece hf (show 0≤m by omega) hn,h.c.b.piece hf (show 0≤m by omega) hn,h.c.ch,h.c.gn,h.c.kd.shift f m⟩,?_⟩
 obtain⟨l0,l1,l2⟩:=h.l
 refine⟨hm,show m≤2147483647 by omega,fun hs=>?_⟩
 have hs':shares c.kind=true:=hs
 obtain⟨o0,o1,o2,o3⟩:=l2 hs'
 have e:(withLen (shift c f) m).off=c.off+f:=by show(if shares c.kind=true then c.off+f else c.off)=_;rw[if_pos hs']
 rw[e]
 show 0≤c.off+f∧m≤c.total∧c.total≤2147483647∧c.off+f≤c.total-m
 omega
theorem gap_vc {L n:Int} (h0:1≤n) (h1:n≤2147483647):VC L (gap n):=
 ⟨⟨.inl rfl,.inl rfl,rfl,rfl,.inl ⟨rfl,rfl,rfl,rfl,rfl,rfl,rfl⟩⟩,h0,h1,fun h=>by simp[gap,shares]at h⟩
theorem VC.join {L:Int} {p c:Clip} (h:VC L p) (k:VC L c) (hc:cont c p) (hl:p.len+c.len≤2147483647):VC L (withLen p (p.len+c.len)):=by
 have l0:=h.l.1
 have k0:=k.l.1
 have e:c=withLen (shift p p.len) c.len:=by
  unfold cont at hc
  rw[one_zero k.good]at hc
  have h2:=congrArg (fun x=>withLen x c.len) hc
  exact h2
 have ea:c.a=moved p.a p.len:=by rw[e];rfl
 have eb:c.b=moved p.b p.len:=by rw[e];rfl
 have ek:c.kind=p.kind:=by rw[e];rfl
 have et:c.total=p.total:=by rw[e];rfl
 have hs:∀ {s t:Src},SrcIn L p.len s→SrcIn L c.len t→t=moved s p.len→SrcIn L (p.len+c.len) s:=by
  intro s t h1 h2 e
  rcases h1 with rfl |h1
  ·exact .inl rfl
  obtain⟨m1,m2,m3⟩:=moved_lat h1.lat p.len
  rcases h2 with h2 |h2
  ·rw[h2]at e
   exact absurd e.symm (moved_good h1.lat.g p.len).ne
  rw[e]at h2
  have q0:=h2.q0
  have q1:=h2.q1
  have e2:spos s+p.len*svel s+c.len*svel s=spos s+(p.len+c.len)*svel s:=by rw[Int.add_mul];omega
  rw[m2,m3,e2]at q0 q1
  exact .inr ⟨h1.lat,h1.k,h1.nm,h1.v0,h1.v1,h1.p0,h1.p1,q0,q1⟩
 refine⟨⟨hs h.c.a k.c.a ea,hs h.c.b k.c.b eb,h.c.ch,h.c.gn,h.c.kd⟩,show 1≤p.len+c.len by omega,hl,fun hsh=>?_⟩
 have hs':shares p.kind=true:=hsh
 obtain⟨o0,o1,o2,o3⟩:=h.l.2.2 hs'
 obtain⟨r0,r1,r2,r3⟩:=k.l.2.2 (by rw[ek];exact hs')
 have eo:c.off=p.off+p.len:=by rw[e];show(if shares p.kind=true then p.off+p.len else p.off)=_;rw[if_pos hs']
 rw[eo,et]at r3
 show 0≤p.off∧p.len+c.len≤p.total∧p.total≤2147483647∧p.off≤p.total-(p.len+c.len)
 omega
def VL (L:Int) (l:List Clip):Prop:=∀ c∈l,VC L c
theorem VL.good {L:Int} {l:List Clip} (h:VL L l):GoodL l:=fun c hc=>(h c hc).good
theorem VL.mono {L M:Int} {l:List Clip} (h:VL L l) (hl:L≤M):VL M l:=fun c hc=>(h c hc).mono hl
theorem VL.nil {L:Int}:VL L []:=fun c hc=>by cases hc
theorem VL.cons {L:Int} {c:Clip} {l:List Clip} (h:VC L c) (k:VL L l):VL L (c::l):=fun x hx=>by
 rcases List.mem_cons.1 hx with rfl |hx
 ·exact h
 exact k x hx
theorem VL.append {L:Int} {l m:List Clip} (h:VL L l) (k:VL L m):VL L (l++m):=fun x hx=>(List.mem_append.1 hx).elim (h x) (k x)
theorem VL.tail {L:Int} {c:Clip} {l:List Clip} (h:VL L (c::l)):VL L l:=fun x hx=>h x (List.mem_cons_of_mem _ hx)
theorem VL.head {L:Int} {c:Clip} {l:List Clip} (h:VL L (c::l)):VC L c:=h c List.mem_cons_self
theorem VL.sub {L:Int} {l m:List Clip} (h:VL L l) (k:∀ c∈m,c∈l):VL L m:=fun x hx=>h x (k x hx)
theorem len_le_total {l:List Clip} (h:GoodL l) {c:Clip} (hc:c∈l):c.len≤total l:=by
 obtain⟨p,q,rfl⟩:=List.append_of_mem hc
 rw[total_append,total_cons]
 have:=total_nonneg (l:=p) (fun x hx=>h x (List.mem_append_left _ hx))
 have:=total_nonneg (l:=q) (fun x hx=>h x (List.mem_append_right _ (List.mem_cons_of_mem _ hx)))
 omega
theorem mem_drop_last {α:Type} {l:List α} {x:α} (h:x∈l.dropLast):x∈l:=(List.dropLast_sublist l).subset h
theorem snoc_vl {L:Int} {out:List Clip} {c:Clip} (h:VL L out) (k:VC L c) (ht:total out+c.len≤2147483647):VL L (snoc out c):=by
 unfold snoc
 cases ho:out.getLast? with
 |none=>exact VL.cons k VL.nil
 | some p =>
  simp only
  have hs:=getLast_split ho
  have hp:p∈out:=by rw[hs];simp
  split
  ·rename_i hc
   refine VL.append (h.sub fun x hx=>mem_drop_last hx) (VL.cons ((h p hp).join k hc ?_) VL.nil)
   have:=len_le_total h.good hp
   omega
  exact h.append (VL.cons k VL.nil)
theorem pk_vl {L:Int} {l:List Clip} (h:VL L l) (ht:total l≤2147483647):VL L (pk l):=by
 revert h ht
 refine list_snoc (P:=fun l=>VL L l→total l≤2147483647→VL L (pk l)) (fun _ _=>VL.nil) (fun l c ih h ht=>?_) l
 have hl:VL L l:=h.sub fun x hx=>List.mem_append_left _ hx
 have hc:VC L c:=h c (by simp)
 have c1:=hc.l.1
 have et:total (l++[c])=total l+c.len:=by rw[total_append];show _+(c.len+0)=_;omega
 rw[et]at ht
 rw[pk_snoc]
 refine snoc_vl (ih hl (by omega)) hc ?_
 rw[(pk_of hl.good).s.t]
 exact ht
theorem dropGap_vl {L:Int} {l:List Clip} (h:VL L l):VL L (dropGap l):=by
 unfold dropGap
 split
 ·exact h
 split
 ·exact h.sub fun x hx=>mem_drop_last hx
 exact h
theorem nf_vl {L:Int} {l:List Clip} (h:VL L l) (ht:total l≤2147483647):VL L (nf l):=dropGap_vl (pk_vl h ht)
theorem cutRaw_vl {L:Int}:∀ {l:List Clip} {f n:Int},VL L l→0≤f→n≤2147483647→VL L (cutRaw l f n)
 |[],f,n,_,hf,hn=>by
  unfold cutRaw
  split
  ·exact VL.cons (gap_vc (by omega) hn) VL.nil
  exact VL.nil
 | c :: l, f, n, h, hf, hn => by
  unfold cutRaw
  have c1:=h.head.l.1
  split
  ·exact VL.nil
  split
  ·exact cutRaw_vl h.tail (by omega) hn
  refine VL.cons (h.head.piece hf (by omega) (by omega)) (cutRaw_vl h.tail (by omega) (by omega))
theorem cut_vl {L:Int} {l:List Clip} {a b:Int} (h:VL L l) (ha:0≤a) (hb:a≤b) (hn:b-a≤2147483647):VL L (cut l a b):=
 pk_vl (cutRaw_vl h ha hn) (by rw[(cutRaw_spec h.good ha (by omega)).2.1];exact hn)
theorem SrcP.nums {L n:Int} {s:Src} (h:SrcP L n s):1≤s.ad∧s.ad≤6006∧1≤s.sd∧s.sd≤6006∧-L≤s.an∧s.an≤L∧-3*s.sd≤s.sn∧s.sn≤3*s.sd:=by
 have a0:=h.lat.g.a0
 have s0:=h.lat.g.s0
 have a1:s.ad≤6006:=Int.le_of_dvd (by decide) h.lat.a
 have s1:s.sd≤6006:=Int.le_of_dvd (by decide) h.lat.s
 have hq:∀ {d:Int},1≤d→d∣6006→1≤6006 / d∧6006 / d*d=6006:=fun {d} h0 h1=>⟨by
  have:=Int.ediv_mul_cancel h1
  rcases Int.lt_or_le (6006 / d) 1 with h |h
  ·have:=Int.mul_nonpos_of_nonpos_of_nonneg (show 6006 / d≤0 by omega) (show 0≤d by omega);omega
  exact h,Int.ediv_mul_cancel h1⟩
 obtain⟨x0,x1⟩:=hq a0 h.lat.a
 obtain⟨y0,y1⟩:=hq s0 h.lat.s
 have p0:=h.p0
 have p1:=h.p1
 have v0:=h.v0
 have v1:=h.v1
 unfold spos at p0 p1
 unfold svel at v0 v1
 obtain⟨x,hx⟩:=Xq (6006 / s.ad)
 obtain⟨y,hy⟩:=Xq (6006 / s.sd)
 rw[← hx]at x0 x1 p0 p1
 rw[← hy]at y0 y1 v0 v1
 have hL:0≤L:=by omega
 refine⟨a0,a1,s0,s1,?_,?_,?_,?_⟩
 ·rcases Int.lt_or_le s.an 0 with h |h
  ·have:=Int.mul_le_mul_of_nonpos_left (show s.an≤0 by omega) x0;omega
  omega
 ·rcases Int.lt_or_le s.an 0 with h |h
  ·omega
  have:=Int.mul_le_mul_of_nonneg_left x0 h;omega
 ·refine Int.le_of_mul_le_mul_right (a:=y) ?_ (by omega)
  rw[Int.mul_assoc,Int.mul_comm s.sd,y1];omega
 refine Int.le_of_mul_le_mul_right (a:=y) ?_ (by omega)
 rw[Int.mul_assoc,Int.mul_comm s.sd,y1];omega
theorem SrcP.far {L n M:Int} {s:Src} (h:SrcP L n s) (hL:L≤M):-(M*s.ad)≤s.an*6006∧s.an*6006≤M*s.ad:=by
 have a0:=h.lat.g.a0
 have p0:=h.p0
 have p1:=h.p1
 unfold spos at p0 p1
 have e:=Int.ediv_mul_cancel h.lat.a
 obtain⟨x,hx⟩:=Xq (6006 / s.ad)
 rw[← hx]at p0 p1 e
 have e2:s.an*6006=s.an*x*s.ad:=by rw[Int.mul_assoc,e]
 rw[e2]
 constructor
 ·have:=Int.mul_le_mul_of_nonneg_right (show -M≤s.an*x by omega) (show 0≤s.ad by omega)
  rw[Int.neg_mul]at this
  exact this
 exact Int.mul_le_mul_of_nonneg_right (show s.an*x≤M by omega) (show 0≤s.ad by omega)
def gapL (n:Int):List Clip:=if 0<n then[gap n] else[]
def aft (l:List Clip) (a:Int):List Clip:=if a<total l then cut l a (total l) else[]
def exL (n:List Clip) (p rem:Int) (ins:List Clip):List Clip:=cut n 0 (min p (total n))++gapL (p-total n)++ins++aft n (p+rem)
theorem gapL_good (n:Int):GoodL (gapL n):=by
 unfold gapL
 split
 ·exact GoodL.cons (gap_good (by omega)) GoodL.nil
 exact GoodL.nil
theorem gapL_total {n:Int}:total (gapL n)=max n 0:=by
 unfold gapL
 split
 ·show n+0=_;omega
 show(0:Int)=_;omega
theorem gapL_fr (n i:Int):fr (gapL n) i=gap 1:=by
 unfold gapL
 split
 ·by_cases h:i<n
  ·rw[fr_lt (show i<(gap n).len from h),one_gap]
  rw[fr_ge (show(gap n).len≤i by show n≤i;omega)];rfl
 rfl
theorem gapL_len (n:Int):(gapL n).length≤1:=by unfold gapL;split<;>simp
theorem aft_of {l:List Clip} {a:Int} (g:GoodL l) (ha:0≤a):GoodL (aft l a)∧total (aft l a)=max (total l-a) 0∧(∀ i,0≤i→fr (aft l a) i=fr l (a+i))∧(aft l a).length≤l.length+1:=by
 unfold aft
 split
 ·rename_i h
  have k:=cut_of g ha (Int.le_of_lt h)
  refine⟨k.g,by rw[k.t];omega,fun i hi=>?_,cut_length g ha (Int.le_of_lt h)⟩
  by_cases h2:i<total l-a
  ·exact k.f i hi h2
  rw[fr_beyond k.g (by rw[k.t];omega),fr_beyond g (by omega)]
 refine⟨GoodL.nil,by show(0:Int)=_;omega,fun i hi=>?_,by simp⟩
 rw[fr_beyond g (by omega)]
 rfl
theorem gapL_vl {L n:Int} (h:n≤2147483647):VL L (gapL n):=by
 unfold gapL
 split
 ·exact VL.cons (gap_vc (by omega) h) VL.nil
 exact VL.nil
theorem aft_vl {L:Int} {l:List Clip} {a:Int} (h:VL L l) (ha:0≤a) (ht:total l≤2147483647):VL L (aft l a):=by
 unfold aft
 split
 ·exact cut_vl h ha (by omega) (by omega)
 exact VL.nil
structure ExOf (n:List Clip) (p rem:Int) (ins l:List Clip):Prop where
 g:GoodL l
 t:total l=p+total ins+max (total n-p-rem) 0
 f:∀ i,0≤i→fr l i=if i<p then fr n i else if i<p+total ins then fr ins (i-p) else fr n (i-total ins+rem)
 n:l.length≤n.length+1+1+ins.length+(n.length+1)
theorem ex_of {n ins:List Clip} {p rem:Int} (gn:GoodL n) (gi:GoodL ins) (hp:0≤p) (hr:0≤rem):ExOf n p rem ins (exL n p rem ins):=by
 have tn:=total_nonneg gn
 have ti:=total_nonneg gi
 have k:=cut_of gn (Int.le_refl 0) (show(0:Int)≤min p (total n) by omega)
 obtain⟨ga,ta,fa,la⟩:=aft_of gn (show 0≤p+rem by omega)
 have gg:=gapL_good (p-total n)
 have tg:=@gapL_total (p-total n)
 have kb:=cut_length gn (Int.le_refl 0) (show(0:Int)≤min p (total n) by omega)
 have lg:=gapL_len (p-total n)
 unfold exL
 obtain⟨B,hB⟩:=Xq (cut n 0 (min p (total n)))
 obtain⟨A,hA⟩:=Xq (aft n (p+rem))
 rw[← hB]at k kb ⊢
 rw[← hA]at ga ta fa la ⊢
 have kt:=k.t
 refine⟨((k.g.append gg).append gi).append ga,?_,fun i hi=>?_,?_⟩
 ·rw[total_append,total_append,total_append,kt,tg,ta];omega
 ·by_cases h1:i<p
  ·rw[if_pos h1,List.append_assoc,List.append_assoc]
   by_cases h2:i<total n
   ·rw[fr_append_lt _ k.g hi (by omega),k.f i hi (by omega)]
    congr 1;omega
   rw[fr_append_ge _ k.g (by omega),fr_append_lt _ gg (by omega) (by omega),gapL_fr,fr_beyond gn (by omega)]
  rw[if_neg h1]
  have hb:total (B++gapL (p-total n))=p:=by rw[total_append,kt,tg];omega
  by_cases h2:i<p+total ins
  ·rw[if_pos h2,List.append_assoc,fr_append_ge _ (k.g.append gg) (by omega),fr_append_lt _ gi (by omega) (by omega),hb]
  rw[if_neg h2,fr_append_ge _ ((k.g.append gg).append gi) (by rw[total_append];omega),fa _ (by rw[total_append];omega)]
  congr 1
  rw[total_append];omega
 simp only[List.length_append];omega
def lenBy (d:Int) (c:Clip):Clip:=withLen c (c.len+d)
def slipBy (d:Int) (c:Clip):Clip:={ c with a:=moved c.a d,b:=moved c.b d }
def later (d:Int) (c:Clip):Clip:=withLen (shift c d) (c.len-d)
def speedy (sn sd:Int) (c:Clip):Clip:={ c with a:={ c.a with sn:=sn,sd:=sd } }
def upd (l:List Clip) (i:Nat) (f:Clip→Clip):List Clip:=
 match l[i]? with
 |some x=>l.set i (f x)
 |none=>l
theorem upd_at (P Q:List Clip) (x:Clip) (f:Clip→Clip):upd (P++x::Q) P.length f=P++f x::Q:=by
 unfold upd
 simp
theorem upd_length (l:List Clip) (i:Nat) (f:Clip→Clip):(upd l i f).length=l.length:=by
 unfold upd
 split<;>simp
theorem upd_other {l:List Clip} {i j:Nat} (hn:i≠j) (f:Clip→Clip):(upd l i f)[j]?=l[j]?:=by
 unfold upd
 split
 ·rw[List.getElem?_set_ne hn]
 rfl
theorem split_at {l:List Clip} {i:Nat} {x:Clip} (h:l[i]?=some x):∃ P Q,l=P++x::Q∧P.length=i:=by
 have hl:=(List.getElem?_eq_some_iff.1 h).1
 refine⟨l.take i,l.drop (i+1),?_,by simp;omega⟩
 have e:l[i]=x:=by rw[List.getElem?_eq_getElem hl]at h;exact Option.some.inj h
 rw[← e,List.getElem_cons_drop,List.take_append_drop]
def adjL (n:List Clip) (k:Int) (c:Nat) (d sn sd:Int):List Clip:=
 if k=5 then upd n c (lenBy d) else
 if k=6 then upd n c (later d) else
 if k=7 then upd (upd n c (lenBy d)) (c+1) (later d) else
 if k=8 then upd n c (slipBy d) else
 if k=9 then upd (upd n (c-1) (lenBy d)) (c+1) (later d) else
 upd n c (speedy sn sd)
def begL (n:List Clip) (c:Nat):Int:=total (n.take c)
def endL (n:List Clip) (c:Nat):Int:=total (n.take (c+1))
def fromL (n:List Clip) (k:Int) (c:Nat) (d:Int):Int:=
 if k=5∨k=7 then min (endL n c) (endL n c+d) else if k=9 then min (begL n c) (begL n c+d) else begL n c
def toL (n:List Clip) (k:Int) (c:Nat) (d:Int):Int:=
 if k=5∨k=7∨k=9 then max (endL n c) (endL n c+d) else if k=6 then begL n c+max d (-d) else endL n c
def undK (k d:Int):Int:=if k=5 then(if 0<d then 2 else 1) else if k=6 then(if d<0 then 2 else 1) else 3
def missingL (n:List Clip) (k:Int) (c:Nat):Bool:=
 decide (n.length≤c)||(decide (k=9)&&decide (c=0))||((decide (k=7)||decide (k=9))&&decide (n.length≤c+1))
def adjCode (n:List Clip) (k:Int) (c:Nat) (d sn sd:Int):Int:=
 if missingL n k c then 7 else
 if k=10∧(n[c]?.map (·.a))=some black then 13 else
 if 2147483647<total (adjL n k c d sn sd)∨¬∀ x∈adjL n k c d sn sd,okLen x then 2 else 0
theorem adjL_length (n:List Clip) (k:Int) (c:Nat) (d sn sd:Int):(adjL n k c d sn sd).length=n.length:=by
 unfold adjL
 split
 ·simp[upd_length]
 split
 ·simp[upd_length]
 split
 ·simp[upd_length]
 split
 ·simp[upd_length]
 split<;>simp[upd_length]
end Go.Trk
