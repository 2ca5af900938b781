/- Texts of this claim joined: Plan A B C H L. -/
import Derived.OrdersHeld
import Derived.Deep.RegionHeld3
import Derived.Tactics
import Derived.WalkKit
import Derived.Test.YtkhjkemllgjfmaaRows
import Derived.WalkSpells
import Derived.WalkLawsBesides
import Derived.Deep.LoopGhost
import Derived.Deep.Cut
import Derived.Deep.Light
import Derived.Lib.Hide
import Derived.BigRegion
import Derived.BigQuiet
import Derived.Handy
import Derived.Defers
import Derived.Recover
import Derived.Laws.BytesArg
set_option linter.unusedVariables false
set_option linter.unusedSimpArgs false

/- A region whose order Go leaves open, walked once: a plan lists its operations in one order; those marked pure yield one value in every world that meets a condition S, the others come up in one forced order. -/
namespace Go.Plan
open Go

/-- The plan is carried out from 'listed' on; what is listed behind it; none: the plan does not fit. -/
def planGo (ops : Array Oper) (z : Nat) : Array Bool → List (Nat × Bool) → Option (Array Bool)
  | listed, [] => some listed
  | listed, (i, true) :: r => if Region.free .any ops listed i && (Region.ready .any ops listed).contains i && !listed.getD z false then planGo ops z (listed.setIfInBounds i true) r else none
  | listed, (i, false) :: r => if Region.ready .any ops listed == [i] then planGo ops z (listed.setIfInBounds i true) r else none

def planOK (ops : Array Oper) (z : Nat) (listed : Array Bool) (plan : List (Nat × Bool)) : Bool :=
  match planGo ops z listed plan with
  | some l => (Region.ready .any ops l).isEmpty
  | none => false

section
variable {P : Program} {ops : Array Oper} {Q : Exit → Act → World → Prop} {S : World → Prop} {z : Nat} {C : Act → World → Prop}

/-- Operation z waits for all others. -/
def lastOK (ops : Array Oper) (z : Nat) : Bool :=
  match ops[z]? with
  | some o => (List.range ops.size).all fun i => i == z || o.after.any fun e => Region.binds .any e && e.on == i
  | none => true

theorem lastOK_spec {z : Nat} (h : lastOK ops z = true) {o : Oper} (ho : ops[z]? = some o) {i : Nat} (hi : i < ops.size) (hne : i ≠ z) : ∃ e ∈ o.after, Region.binds .any e = true ∧ e.on = i := by
  simp only [lastOK, ho, List.all_eq_true, List.mem_range] at h
  have := h i hi
  simp only [Bool.or_eq_true, beq_iff_eq, hne, false_or] at this
  obtain ⟨e, he, hb⟩ := Array.any_eq_true'.1 this
  simp only [Bool.and_eq_true, beq_iff_eq] at hb
  exact ⟨e, he, hb.1, hb.2⟩

/-- Whatever order is picked from here on; S holds behind every operation but z. -/
def anyS (P : Program) (ops : Array Oper) (Q : Exit → Act → World → Prop) (S : World → Prop) (z : Nat) : Nat → Array Bool → Act → World → Prop
  | 0, listed, a, w => Region.ready .any ops listed = [] ∧ Q .normal a w
  | fuel + 1, listed, a, w => (Region.ready .any ops listed = [] → Q .normal a w) ∧
    ∀ i ∈ Region.ready .any ops listed, wpOp P ops Q i (fun a' w' => (i ≠ z → S w') ∧ anyS P ops Q S z fuel (listed.setIfInBounds i true) a' w') a w

theorem any_of_anyS : ∀ (fuel : Nat) (listed : Array Bool) (a : Act) (w : World), anyS P ops Q S z fuel listed a w → wpAny P .any ops Q fuel listed a w
  | 0, _, _, _, h => h
  | fuel + 1, _, _, _, h => ⟨h.1, fun i hi => wpOp_mono (fun a' w' h' => any_of_anyS fuel _ a' w' h'.2) (h.2 i hi)⟩

theorem anyS_done {listed : Array Bool} {a : Act} {w : World} (hr : Region.ready .any ops listed = []) (h : Q .normal a w) : ∀ fuel, anyS P ops Q S z fuel listed a w
  | 0 => ⟨hr, h⟩
  | _ + 1 => ⟨fun _ => h, by rw [hr]; simp⟩

theorem anyS_take {i : Nat} {oi : Oper} {v : Value} (hi : ops[i]? = some oi) (hs : Region.noSelect ops = true) (hz : lastOK ops z = true) (hQ : ∀ c a w, Q (.panic c) (a.put oi.dst v) w → Q (.panic c) a w) :
    ∀ (fuel : Nat) (listed : Array Bool) (a : Act) (w : World), Region.free .any ops listed i = true → i ∈ Region.ready .any ops listed → YieldsIf P ops S oi v a → S w →
      anyS P ops Q S z fuel (listed.setIfInBounds i true) (a.put oi.dst v) w → anyS P ops Q S z (fuel + 1) listed a w := by
  have hsel := Region.noSelect_spec hs
  have hilt := (Array.getElem?_eq_some_iff.1 hi).1
  have key : ∀ (fuel : Nat) (listed : Array Bool) (a : Act) (w : World),
      (∀ j oj, ops[j]? = some oj → j ≠ i → listed.getD j true = false → (∀ e ∈ oj.after, Region.binds .any e = true → e.on ≠ i) → oi.apart ops oj = true) →
      i ∈ Region.ready .any ops listed → YieldsIf P ops S oi v a → S w → anyS P ops Q S z fuel (listed.setIfInBounds i true) (a.put oi.dst v) w → anyS P ops Q S z (fuel + 1) listed a w := by
    intro fuel
    induction fuel with
    | zero =>
      intro listed a w _ hr hy hS H
      refine ⟨fun h => absurd (h ▸ hr) (by simp), fun j hj => ?_⟩
      by_cases hji : j = i
      · subst hji; exact hy.wpOp hi hS ⟨fun _ => hS, H⟩
      · have := ready_mono hj hji
        rw [H.1] at this
        cases this
    | succ fuel ih =>
      intro listed a w hfree hr hy hS H
      refine ⟨fun h => absurd (h ▸ hr) (by simp), fun j hj => ?_⟩
      by_cases hji : j = i
      · subst hji; exact hy.wpOp hi hS ⟨fun _ => hS, H⟩
      · have h1 := H.2 j (ready_mono hj hji)
        obtain ⟨hjun, oj, hoj, hall⟩ := mem_ready.1 hj
        have hnot : ∀ e ∈ oj.after, Region.binds .any e = true → e.on ≠ i := fun e he hb heq => by
          have h3 := hall e he hb
          have h0 := (mem_ready.1 hr).1
          rw [heq] at h3
          by_cases hlt : i < listed.size
          · simp [hlt] at h0 h3; rw [h0] at h3; cases h3
          · simp [Array.getElem?_eq_none (Nat.le_of_not_lt hlt)] at h3
        have hjz : j ≠ z := by
          rintro rfl
          obtain ⟨e, he, hb, hei⟩ := lastOK_spec hz hoj hilt (Ne.symm hji)
          exact hnot e he hb hei
        have h2 := wpOp_putIf hoj (hfree j oj hoj hji hjun hnot) (fun cs b => hsel i oi cs b hi) (fun cs b => hsel j oj cs b hoj) hQ hy h1
        refine wpOp_mono (fun a' w' h3 => ?_) h2
        obtain ⟨hy', himp, hrest⟩ := h3
        have hr' : i ∈ Region.ready .any ops (listed.setIfInBounds j true) := ready_mono hr (Ne.symm hji)
        have hS' : S w' := himp hjz
        refine ⟨fun _ => hS', ih (listed.setIfInBounds j true) a' w' (fun k ok hk hki hun hno => ?_) hr' hy' hS' ?_⟩
        · refine hfree k ok hk hki ?_ hno
          by_cases hjk : j = k
          · subst hjk; exact hjun
          · rw [getD_set_ne true hjk] at hun; exact hun
        · rw [Array.setIfInBounds_comm _ _ hji]
          exact hrest
  intro fuel listed a w hf hr hy hS H
  exact key fuel listed a w (Region.free_spec hi hf) hr hy hS H

def wpPlan (P : Program) (ops : Array Oper) (Q : Exit → Act → World → Prop) (S : World → Prop) (z : Nat) (C : Act → World → Prop) : List (Nat × Bool) → Act → World → Prop
  | [], a, w => C a w
  | (i, true) :: r, a, w => ∃ o, ops[i]? = some o ∧ ∃ v, YieldsIf P ops S o v a ∧ wpPlan P ops Q S z C r (a.put o.dst v) w
  | (i, false) :: r, a, w => wpOp P ops Q i (fun a' w' => (i ≠ z → S w') ∧ wpPlan P ops Q S z C r a' w') a w

theorem held_of_plan (hs : Region.noSelect ops = true) (hz : lastOK ops z = true) (hQ : ∀ c a d v w, Q (.panic c) (a.put d v) w → Q (.panic c) a w) (listed' : Array Bool) (fuel : Nat)
    (hC : ∀ a w, (¬ listed'.getD z false = true → S w) → C a w → anyS P ops Q S z fuel listed' a w) :
    ∀ (plan : List (Nat × Bool)) (listed : Array Bool) (a : Act) (w : World), planGo ops z listed plan = some listed' → listed.size = ops.size → (¬ listed.getD z false = true → S w) → wpPlan P ops Q S z C plan a w →
      anyS P ops Q S z (fuel + plan.length) listed a w
  | [], listed, a, w, hp, _, hS, h => by
    simp only [planGo, Option.some.injEq] at hp
    subst hp
    exact hC a w hS h
  | (i, true) :: r, listed, a, w, hp, hl, hS, h => by
    simp only [planGo] at hp
    split at hp
    · rename_i hc
      simp only [Bool.and_eq_true, List.contains_eq_mem, decide_eq_true_eq, Bool.not_eq_true'] at hc
      obtain ⟨o, ho, v, hy, hr⟩ := h
      have hSw : S w := hS (by rw [hc.2]; simp)
      exact anyS_take ho hs hz (fun c a w => hQ c a _ _ w) _ _ _ _ hc.1.1 hc.1.2 hy hSw (held_of_plan hs hz hQ listed' fuel hC r _ _ _ hp (by simp [hl]) (fun _ => hSw) hr)
    · cases hp
  | (i, false) :: r, listed, a, w, hp, hl, hS, h => by
    simp only [planGo] at hp
    split at hp
    · rename_i hc
      simp only [beq_iff_eq] at hc
      refine ⟨fun h0 => by rw [hc] at h0; simp at h0, fun j hj => ?_⟩
      rw [hc] at hj
      obtain rfl := List.mem_singleton.1 hj
      refine wpOp_mono (fun a' w' h' => ⟨h'.1, held_of_plan hs hz hQ listed' fuel hC r _ _ _ hp (by simp [hl]) (fun hnz => h'.1 (fun e => hnz ?_)) h'.2⟩) h
      subst e
      have hmem : j ∈ Region.ready .any ops listed := by rw [hc]; simp
      obtain ⟨_, o, ho, _⟩ := mem_ready.1 hmem
      have : j < listed.size := by rw [hl]; exact (Array.getElem?_eq_some_iff.1 ho).1
      simp [this]
    · cases hp

/-! ### The operations that are values -/
def valued : Op → Bool
  | .move _ | .assign _ | .pick .. | .load .. | .binOp .. | .unOp .. | .convert .. | .fieldAddr .. | .indexAddr .. | .index .. | .field .. | .build .. | .extract .. | .slice .. | .lookup .. => true
  | .nilCheck _ => true
  | .call { callee := .builtin .len, .. } | .call { callee := .builtin .min, .. } | .call { callee := .builtin .max, .. } => true
  | _ => false

theorem value_of_map {s : Sem Value} {w w' : World} {n : Next} (h : (do pure (.value (← s)) : Sem Next).run P w = .ok n w') : ∃ v, n = .value v := by
  simp only [Sem.run_bind] at h
  cases hs : s.run P w with
  | ok v w1 => rw [hs] at h; simp only [Result.andThen_ok, Sem.run_pure, Result.ok.injEq] at h; exact ⟨v, h.1.symm⟩
  | halt x w1 => rw [hs] at h; simp [Result.andThen] at h

theorem bind_ok {α : Type} {s : Sem α} {f : α → Sem Next} {w w' : World} {n : Next} (h : (s >>= f).run P w = .ok n w') : ∃ a w1, (f a).run P w1 = .ok n w' := by
  simp only [Sem.run_bind] at h
  cases hs : s.run P w with
  | ok v w1 => rw [hs] at h; exact ⟨v, w1, h⟩
  | halt x w1 => rw [hs] at h; simp [Result.andThen] at h

theorem valued_spec {o : Oper} {ρ : Operand → Value} {w w' : World} {n : Next} (hv : valued o.op = true) (h : (execOp ρ o).run P w = .ok n w') : ∃ v, n = .value v := by
  obtain ⟨dst, op, type, pos, after, guard⟩ := o
  cases op <;> simp only [valued] at hv <;> simp only [execOp] at h
  case move => simp only [Sem.run_pure, Result.ok.injEq] at h; exact ⟨_, h.1.symm⟩
  case assign => simp only [Sem.run_pure, Result.ok.injEq] at h; exact ⟨_, h.1.symm⟩
  case pick c a b =>
    simp only [Sem.run_bind] at h
    cases hs : (asBool (ρ c)).run P w with
    | ok v w1 => rw [hs] at h; simp only [Result.andThen_ok, Sem.run_pure, Result.ok.injEq] at h; exact ⟨_, h.1.symm⟩
    | halt x w1 => rw [hs] at h; simp [Result.andThen] at h
  case call c =>
    obtain ⟨cl, args, ts⟩ := c
    cases cl with
    | builtin b =>
      cases b <;> simp at hv
      all_goals
        simp only [resolve, invoke, builtin, Sem.run_bind, Sem.run_pure, Result.andThen_ok] at h
        exact value_of_map (by simpa using h)
    | _ => simp at hv
  case nilCheck x =>
    have bad : ∀ (w1 w2 : World) (m : Next), (runtimePanic .nilDeref : Sem Next).run P w1 ≠ .ok m w2 := by
      intro w1 w2 m he
      simp [runtimePanic, goPanic] at he
    split at h
    · exact (bad _ _ _ h).elim
    · exact (bad _ _ _ h).elim
    · exact (bad _ _ _ h).elim
    · split at h
      · exact (bad _ _ _ h).elim
      · obtain ⟨_, w1, h⟩ := bind_ok h
        obtain ⟨_, w2, h⟩ := bind_ok h
        split at h
        · obtain ⟨_, w3, h⟩ := bind_ok h
          simp only [Sem.run_pure, Result.ok.injEq] at h; exact ⟨_, h.1.symm⟩
        · simp only [Sem.run_pure, Result.ok.injEq] at h; exact ⟨_, h.1.symm⟩
      · simp only [Sem.run_pure, Result.ok.injEq] at h; exact ⟨_, h.1.symm⟩
    · simp only [Sem.run_pure, Result.ok.injEq] at h; exact ⟨_, h.1.symm⟩
  all_goals first
    | exact value_of_map h
    | (exact absurd hv (by simp))

/-! ### A run of such operations, walked in an arbitrary world that meets S -/
def noEnd : Exit → Act → World → Prop := fun _ _ _ => False

def Seg (P : Program) (ops : Array Oper) (wx : World) (A : Act) : List Oper → Act → World → Prop
  | [], a, w => a = A ∧ w = wx
  | o :: r, a, w => w = wx ∧ wpList P ops (Exit.then (fun a' w' => Seg P ops wx A r a' w') noEnd) [o] a w

theorem seg_nil {wx : World} {A : Act} : Seg P ops wx A [] A wx := ⟨rfl, rfl⟩
theorem seg_cons {wx : World} {A : Act} {o : Oper} {r : List Oper} {a : Act}
    (h : ∀ K : Act → World → Prop, (∀ a' w', Seg P ops wx A r a' w' → K a' w') → wpList P ops (Exit.then K noEnd) [o] a wx) : Seg P ops wx A (o :: r) a wx :=
  ⟨rfl, h _ fun _ _ h => h⟩

theorem Seg.world {wx : World} {A : Act} : ∀ {l : List Oper} {a : Act} {w : World}, Seg P ops wx A l a w → w = wx
  | [], _, _, h => h.2
  | _ :: _, _, _, h => h.1

/-- One step of a segment: the operation is passed over, or it yields a value and leaves the world alone. -/
theorem Seg.step {wx : World} {A : Act} {o : Oper} {r : List Oper} {a : Act} {w : World} (hv : valued o.op = true) (h : Seg P ops wx A (o :: r) a w) :
    w = wx ∧ ((Region.wanted o (yielded ops a.tmps) = true ∧ ∃ v, (execOp a.eval o).run P wx = .ok (.value v) wx ∧ Seg P ops wx A r (a.put o.dst v) wx) ∨
      (Region.wanted o (yielded ops a.tmps) = false ∧ Seg P ops wx A r (a.put o.dst undef) wx)) := by
  obtain ⟨rfl, h⟩ := h
  refine ⟨rfl, ?_⟩
  unfold wpList at h
  split at h
  · rename_i hw
    refine .inl ⟨hw, ?_⟩
    rcases h with h | ⟨_, a1, w1, h⟩
    · unfold Oper.wp at h
      generalize hr : (execOp a.eval o).run P w = x at h
      cases x with
      | halt y w1 => cases y <;> simp [Oper.upon, Exit.then, noEnd] at h
      | ok n w1 =>
        obtain ⟨v, rfl⟩ := valued_spec hv hr
        have h' : Seg P ops w A r (a.put o.dst v) w1 := h
        have hw1 := h'.world
        subst hw1
        exact ⟨v, rfl, h'⟩
    · exact h.elim
  · rename_i hw
    exact .inr ⟨by simpa using hw, h⟩

def dstsFree (d : Tmp) (l : List Oper) : Bool := l.all fun o => o.dst != some d
/-- Every operation is a value, writes a slot of its own below n. -/
def segOK (n : Nat) : List Oper → Bool
  | [] => true
  | o :: r => valued o.op && (match o.dst with | some d => decide (d < n) && dstsFree d r | none => false) && segOK n r

theorem put_size (a : Act) (d : Option Tmp) (v : Value) : (a.put d v).tmps.size = a.tmps.size := by cases d <;> simp [Act.put]

theorem Seg.keeps {wx : World} {A : Act} {n : Nat} (d : Tmp) : ∀ (l : List Oper) (a : Act) (w : World), segOK n l = true → dstsFree d l = true → Seg P ops wx A l a w → A.tmps[d]? = a.tmps[d]?
  | [], a, w, _, _, h => by rw [h.1]
  | o :: r, a, w, hs, hd, h => by
    simp only [segOK, Bool.and_eq_true] at hs
    simp only [dstsFree, List.all_cons, Bool.and_eq_true, bne_iff_ne, ne_eq] at hd
    have put : ∀ v, (a.put o.dst v).tmps[d]? = a.tmps[d]? := by
      intro v
      cases ho : o.dst with
      | none => rfl
      | some e => simp only [Act.put]; exact Array.getElem?_setIfInBounds_ne (fun he => hd.1 (by rw [ho, he]))
    obtain ⟨_, ⟨_, v, _, h'⟩ | ⟨_, h'⟩⟩ := h.step hs.1.1
    · rw [Seg.keeps d r _ _ hs.2 (by simpa [dstsFree] using hd.2) h', put]
    · rw [Seg.keeps d r _ _ hs.2 (by simpa [dstsFree] using hd.2) h', put]

/-- A segment that ends in one frame A in every world that meets S goes by values. -/
theorem plan_of_seg {n : Nat} {A : Act} {w : World} (hS : S w) (rest : List (Nat × Bool)) (hrest : wpPlan P ops Q S z C rest A w) :
    ∀ (is : List Nat) (l : List Oper) (a : Act), is.map (ops[·]?) = l.map some → segOK n l = true → a.tmps.size = n → (∀ wx, S wx → Seg P ops wx A l a wx) →
      wpPlan P ops Q S z C (is.map (·, true) ++ rest) a w
  | [], [], a, _, _, _, h => by
    have := (h w hS).1
    subst this
    exact hrest
  | [], _ :: _, _, h, _, _, _ => by simp at h
  | _ :: _, [], _, h, _, _, _ => by simp at h
  | i :: is, o :: l, a, he, hs, hn, h => by
    simp only [List.map_cons, List.cons.injEq] at he
    have hs' := hs
    simp only [segOK, Bool.and_eq_true] at hs'
    obtain ⟨⟨hv, hd⟩, hr⟩ := hs'
    cases ho : o.dst with
    | none => rw [ho] at hd; simp at hd
    | some d =>
      rw [ho] at hd
      simp only [Bool.and_eq_true, decide_eq_true_eq] at hd
      by_cases hw : Region.wanted o (yielded ops a.tmps) = true
      · have hval : ∀ wx, S wx → ∃ v, (execOp a.eval o).run P wx = .ok (.value v) wx ∧ Seg P ops wx A l (a.put o.dst v) wx := by
          intro wx hx
          obtain ⟨_, ⟨_, v, h1, h2⟩ | ⟨h1, _⟩⟩ := (h wx hx).step hv
          · exact ⟨v, h1, h2⟩
          · rw [hw] at h1; cases h1
        have hA : ∀ wx v, Seg P ops wx A l (a.put o.dst v) wx → v = A.tmps.getD d undef := by
          intro wx v h2
          have := h2.keeps d l _ _ hr hd.2
          rw [ho] at this
          simp only [Act.put] at this
          rw [Array.getElem?_setIfInBounds_self_of_lt (by rw [hn]; exact hd.1)] at this
          simp [Array.getD_eq_getD_getElem?, this]
        refine ⟨o, he.1, A.tmps.getD d undef, .inl ⟨hw, fun wx hx => ?_⟩, ?_⟩
        · obtain ⟨v, h1, h2⟩ := hval wx hx
          rw [h1, hA wx v h2]
        · refine plan_of_seg hS rest hrest is l _ he.2 hr (by rw [put_size]; exact hn) (fun wx hx => ?_)
          obtain ⟨v, h1, h2⟩ := hval wx hx
          rw [← hA wx v h2]
          exact h2
      · have hw' : Region.wanted o (yielded ops a.tmps) = false := by simpa using hw
        refine ⟨o, he.1, undef, .inr ⟨hw', rfl⟩, ?_⟩
        refine plan_of_seg hS rest hrest is l _ he.2 hr (by rw [put_size]; exact hn) (fun wx hx => ?_)
        obtain ⟨_, ⟨h1, _⟩ | ⟨_, h2⟩⟩ := (h wx hx).step hv
        · rw [h1] at hw'; cases hw'
        · exact h2

/-- An effect, walked as ever. -/
theorem plan_of_effect' {i : Nat} {o : Oper} {rest : List (Nat × Bool)} {a : Act} {w : World} (ho : ops[i]? = some o)
    (h : ∀ K : Act → World → Prop, (∀ a' w', (i ≠ z → S w') ∧ wpPlan P ops Q S z C rest a' w' → K a' w') → wpList P ops (Exit.then K Q) [o] a w) : wpPlan P ops Q S z C ((i, false) :: rest) a w := by
  have := h _ (fun _ _ h => h)
  show wpOp P ops Q i _ a w
  unfold wpOp
  rw [ho]
  simp only
  unfold wpList at this
  split at this
  · rename_i hw
    rw [if_pos hw]
    refine this.imp (fun h1 => ?_) (fun h1 => ⟨h1.1, h1.2⟩)
    unfold Oper.wp at *
    generalize (execOp a.eval o).run P w = x at *
    cases x with
    | ok n w1 =>
      cases n <;> simp only [Oper.upon] at h1 ⊢ <;> first
        | exact h1
        | exact Calls.mono h1 (fun e w'' he => by cases e <;> exact he)
        | exact Rows.mono h1 (fun _ _ he => he)
    | halt y w1 => cases y <;> simp only [Oper.upon] at h1 ⊢ <;> exact h1
  · rename_i hw
    rw [if_neg hw]
    exact this

theorem plan_of_effect {i : Nat} {o : Oper} {rest : List (Nat × Bool)} {a : Act} {w : World} (ho : ops[i]? = some o)
    (h : ∀ K : Act → World → Prop, (∀ a' w', S w' ∧ wpPlan P ops Q S z C rest a' w' → K a' w') → wpList P ops (Exit.then K Q) [o] a w) : wpPlan P ops Q S z C ((i, false) :: rest) a w :=
  plan_of_effect' ho fun K hK => h K fun a' w' h' => hK a' w' ⟨fun _ => h'.1, h'.2⟩

/-- The operation that waits for all others: S need not hold behind it. -/
theorem plan_of_last {o : Oper} {rest : List (Nat × Bool)} {a : Act} {w : World} (ho : ops[z]? = some o)
    (h : ∀ K : Act → World → Prop, (∀ a' w', wpPlan P ops Q S z C rest a' w' → K a' w') → wpList P ops (Exit.then K Q) [o] a w) : wpPlan P ops Q S z C ((z, false) :: rest) a w :=
  plan_of_effect' ho fun K hK => h K fun a' w' h' => hK a' w' ⟨fun hz => absurd rfl hz, h'⟩

theorem wp_region_planz {id : Nat} {l : List Oper} {a : Act} {w : World} (S : World → Prop) (z : Nat) (plan : List (Nat × Bool)) (hm : P.follows .mixedOrders = true)
    (hs : Region.noSelect l.toArray = true) (hp : (lastOK l.toArray z && planOK l.toArray z (Array.replicate l.toArray.size false) plan && decide (plan.length = l.toArray.size)) = true)
    (hS : S w.drew) (h : wpPlan P l.toArray (NoPanic Q) S z (NoPanic Q .normal) plan a w.drew) : (Code.region id l.toArray true).wp P Q a w := by
  simp only [Bool.and_eq_true, decide_eq_true_eq, planOK] at hp
  split at hp
  · rename_i l' hl'
    refine wp_region_noPanic (wp_region_any hm (any_of_anyS (S := S) (z := z) _ _ _ _ ?_))
    have := held_of_plan (P := P) (Q := NoPanic Q) (S := S) (C := NoPanic Q .normal) hs hp.1.1 (fun c a d v w h => h.elim) l' 0 (fun a w _ h => anyS_done (by simpa using hp.1.2) h 0) plan _ a w.drew hl' (by simp) (fun _ => hS) h
    rw [Nat.zero_add, hp.2] at this
    exact this
  · simp at hp

theorem lastOK_none (ops : Array Oper) : lastOK ops ops.size = true := by simp [lastOK]

theorem wp_region_plan {id : Nat} {l : List Oper} {a : Act} {w : World} (S : World → Prop) (plan : List (Nat × Bool)) (hm : P.follows .mixedOrders = true)
    (hs : Region.noSelect l.toArray = true) (hp : (planOK l.toArray l.toArray.size (Array.replicate l.toArray.size false) plan && decide (plan.length = l.toArray.size)) = true)
    (hS : S w.drew) (h : wpPlan P l.toArray (NoPanic Q) S l.toArray.size (NoPanic Q .normal) plan a w.drew) : (Code.region id l.toArray true).wp P Q a w :=
  wp_region_planz S l.toArray.size plan hm hs (by rw [lastOK_none, Bool.true_and]; exact hp) hS h

/-! ### Fresh operations: they come up in any order; each leaves a value of which G says what holds from then on -/
abbrev Ext (w w' : World) : Prop := RowKit.Below w.heap.size w w'
theorem Ext.refl (w : World) : Ext w w := RowKit.Below.refl _ _
theorem Ext.trans {a b c : World} (h : Ext a b) (k : Ext b c) : Ext a c := RowKit.Below.trans h (k.mono h.size)

/-- The slots of the operations T hold vs. -/
def over (ops : Array Oper) (vs : Nat → Value) : List Nat → Act → Act
  | [], a => a
  | i :: r, a => over ops vs r (a.put ((ops[i]?).bind (·.dst)) (vs i))

def dstOf (ops : Array Oper) (i : Nat) : Option Tmp := (ops[i]?).bind (·.dst)

/-- All that an operation waits for, directly or through others. -/
def waits (ops : Array Oper) : Nat → Nat → List Nat
  | 0, _ => []
  | f + 1, j => match ops[j]? with
    | some o => (o.after.toList.filter (Region.binds .any)).flatMap fun e => e.on :: waits ops f e.on
    | none => []

/-- T stands in an order in which each waits for none behind it. -/
def topo (ops : Array Oper) : Array Bool → List Nat → Bool
  | _, [] => true
  | listed, t :: r => (match ops[t]? with
    | some o => o.after.all fun e => !Region.binds .any e || listed.getD e.on false
    | none => false) && topo ops (listed.setIfInBounds t true) r

/-- The checks on a set T of fresh operations that come up from 'listed' on. -/
def freshOK (ops : Array Oper) (listed : Array Bool) (n : Nat) (T : List Nat) : Bool :=
  (T.all fun t => match ops[t]? with
    | some o => (match o.dst with | some d => decide (d < n) && !(o.looksAt ops).contains d | none => false) && o.guard.isNone && (match o.op with | .select .. => false | _ => true) && !listed.getD t true &&
        (T.all fun k => k == t || ((match dstOf ops k with | some d => o.dst != some d && (!(o.looksAt ops).contains d || o.after.any fun e => Region.binds .any e && e.on == k) | none => false)))
    | none => false) &&
  ((List.range ops.size).all fun j => T.contains j || listed.getD j true ||
    T.all fun t => (waits ops ops.size j).contains t) &&
  ((List.range ops.size).all fun j => !listed.getD j false || match ops[j]? with
    | some o => o.after.all fun e => !Region.binds .any e || listed.getD e.on false
    | none => true) && decide (listed.size = ops.size) && decide T.Nodup && topo ops listed T

theorem wp_carry {o : Oper} {a b : Act} {w : World} {K K2 : Act → World → Prop} (he : execOp a.eval o = execOp b.eval o) (hP : ∀ c a w, ¬ Q (.panic c) a w)
    (hK : ∀ v w', K (a.put o.dst v) w' → K2 (b.put o.dst v) w') (hD : ∀ d w', ¬ K ({ a with defers := d :: a.defers }.put o.dst undef) w') (h : o.wp P a w K Q) : o.wp P b w K2 Q := by
  unfold Oper.wp at *
  rw [← he]
  generalize (execOp a.eval o).run P w = r at *
  cases r with
  | ok n w' =>
    cases n <;> simp only [Oper.upon] at h ⊢
    case value v => exact hK _ _ h
    case skip => exact hK _ _ h
    case defer d => exact (hD _ _ h).elim
    case enter f args =>
      refine Calls.mono h fun e w'' he => ?_
      cases e with
      | returned v => exact hK _ _ he
      | panicked c => exact (hP _ _ _ he).elim
      | outgrown => exact he
    case row row args => exact Rows.mono h fun v w'' hv => hK _ _ hv
  | halt x w' =>
    cases x <;> simp only [Oper.upon] at h ⊢
    case panic v => exact (hP _ _ _ h).elim

/-- What a slot holds when the operations D have come up. -/
def slotBy (ops : Array Oper) (vs : Nat → Value) (D : List Nat) (a0 : Act) (k : Tmp) : Option Value :=
  match D.find? (fun i => dstOf ops i == some k) with
  | some i => if k < a0.tmps.size then some (vs i) else none
  | none => a0.tmps[k]?

theorem put_get (a : Act) (d : Option Tmp) (v : Value) (k : Tmp) : (a.put d v).tmps[k]? = if d = some k ∧ k < a.tmps.size then some v else a.tmps[k]? := by
  cases d with
  | none => simp [Act.put]
  | some e =>
    simp only [Act.put, Option.some.injEq]
    by_cases hek : e = k
    · subst hek
      by_cases hlt : e < a.tmps.size
      · simp [hlt]
      · simp [hlt]
    · rw [Array.getElem?_setIfInBounds_ne hek]; simp [hek]

theorem over_size (vs : Nat → Value) : ∀ (T : List Nat) (a : Act), (over ops vs T a).tmps.size = a.tmps.size
  | [], _ => rfl
  | i :: r, a => by rw [over, over_size vs r, put_size]

theorem over_defers (vs : Nat → Value) : ∀ (T : List Nat) (a : Act), (over ops vs T a).defers = a.defers
  | [], _ => rfl
  | i :: r, a => by
    rw [over, over_defers vs r]
    cases (ops[i]?).bind (·.dst) <;> rfl

theorem over_get (vs : Nat → Value) (k : Tmp) : ∀ (T : List Nat) (a : Act), (∀ i ∈ T, ∀ j ∈ T, i ≠ j → dstOf ops i ≠ dstOf ops j ∨ dstOf ops i = none) → T.Nodup →
    (over ops vs T a).tmps[k]? = slotBy ops vs T a k
  | [], a, _, _ => rfl
  | i :: r, a, hd, hn => by
    rw [over, over_get vs k r _ (fun x hx y hy => hd x (List.mem_cons_of_mem _ hx) y (List.mem_cons_of_mem _ hy)) (List.nodup_cons.1 hn).2]
    unfold slotBy
    rw [put_size, List.find?_cons]
    by_cases hi : dstOf ops i = some k
    · have hi' : (dstOf ops i == some k) = true := by simp [hi]
      rw [hi']
      have hnone : r.find? (fun i => dstOf ops i == some k) = none := by
        rw [List.find?_eq_none]
        intro j hj hjk
        simp only [beq_iff_eq] at hjk
        have hij : i ≠ j := fun e => (List.nodup_cons.1 hn).1 (e ▸ hj)
        rcases hd i (List.mem_cons_self ..) j (List.mem_cons_of_mem _ hj) hij with h | h
        · exact h (by rw [hi, hjk])
        · rw [hi] at h; cases h
      rw [hnone]
      simp only
      rw [put_get, show (ops[i]?).bind (·.dst) = some k from hi]
      by_cases hlt : k < a.tmps.size
      · simp [hlt]
      · simp [hlt]
    · have hi' : (dstOf ops i == some k) = false := by simp [hi]
      rw [hi']
      simp only
      cases r.find? (fun i => dstOf ops i == some k) with
      | some j => rfl
      | none =>
        simp only
        rw [put_get, if_neg (fun h => hi h.1)]

theorem find_dst {D : List Nat} {k : Tmp} {i : Nat} (hi : i ∈ D) (hk : dstOf ops i = some k) (hd : ∀ x ∈ D, dstOf ops x = some k → x = i) :
    D.find? (fun i => dstOf ops i == some k) = some i := by
  cases h : D.find? (fun i => dstOf ops i == some k) with
  | none => rw [List.find?_eq_none] at h; exact absurd (by simp [hk]) (h i hi)
  | some j =>
    have h1 := List.find?_some h
    simp only [beq_iff_eq] at h1
    rw [hd j (List.mem_of_find?_eq_some h) h1]

theorem slotBy_agree {vs : Nat → Value} {D T : List Nat} {a0 : Act} {t : Tmp} (hsub : ∀ x ∈ D, x ∈ T) (hdist : ∀ i ∈ T, ∀ j ∈ T, dstOf ops i = some t → dstOf ops j = some t → i = j)
    (h : ∀ k ∈ T, dstOf ops k = some t → k ∈ D) : slotBy ops vs D a0 t = slotBy ops vs T a0 t := by
  unfold slotBy
  by_cases he : ∃ k ∈ T, dstOf ops k = some t
  · obtain ⟨k, hk, hkt⟩ := he
    rw [find_dst hk hkt (fun x hx hxt => hdist x hx k hk hxt hkt), find_dst (h k hk hkt) hkt (fun x hx hxt => hdist x (hsub x hx) k hk hxt hkt)]
  · have n1 : T.find? (fun i => dstOf ops i == some t) = none := by
      rw [List.find?_eq_none]; intro x hx hxt; exact he ⟨x, hx, by simpa using hxt⟩
    have n2 : D.find? (fun i => dstOf ops i == some t) = none := by
      rw [List.find?_eq_none]; intro x hx hxt; exact he ⟨x, hsub x hx, by simpa using hxt⟩
    rw [n1, n2]

theorem waits_listed {listed : Array Bool} (hc : ∀ (j : Nat) (o : Oper), ops[j]? = some o → listed.getD j false = true → ∀ e ∈ o.after, Region.binds .any e = true → listed.getD e.on false = true) :
    ∀ (f j : Nat) (o : Oper), ops[j]? = some o → (∀ e ∈ o.after, Region.binds .any e = true → listed.getD e.on false = true) → ∀ t ∈ waits ops f j, listed.getD t false = true
  | 0, _, _, _, _, t, ht => by simp [waits] at ht
  | f + 1, j, o, ho, h, t, ht => by
    simp only [waits, ho, List.mem_flatMap, List.mem_filter, Array.mem_toList_iff, List.mem_cons] at ht
    obtain ⟨e, ⟨he, hb⟩, ht⟩ := ht
    have hl := h e he hb
    rcases ht with rfl | ht
    · exact hl
    · cases hoe : ops[e.on]? with
      | none => cases f <;> simp [waits, hoe] at ht
      | some o' => exact waits_listed hc f e.on o' hoe (hc e.on o' hoe hl) t ht

structure FreshInv (ops : Array Oper) (S : World → Prop) (G : Nat → Nat → Nat → Value → World → Prop) (listed0 : Array Bool) (T : List Nat) (a0 : Act) (w0 : World)
    (D : List Nat) (vs : Nat → Value) (lo hi : Nat → Nat) (listed : Array Bool) (a : Act) (w : World) : Prop where
  sub : ∀ x ∈ D, x ∈ T
  nodup : D.Nodup
  size : listed.size = ops.size
  marks : ∀ j, j < ops.size → listed.getD j false = (listed0.getD j false || D.contains j)
  closed : ∀ (j : Nat) (o : Oper), ops[j]? = some o → listed.getD j false = true → ∀ e ∈ o.after, Region.binds .any e = true → listed.getD e.on false = true
  defers : a.defers = a0.defers
  tmps : a.tmps.size = a0.tmps.size
  slots : ∀ k, a.tmps[k]? = slotBy ops vs D a0 k
  held : ∀ k ∈ D, G k (lo k) (hi k) (vs k) w ∧ w0.heap.size ≤ lo k ∧ hi k ≤ w.heap.size
  apart : ∀ i ∈ D, ∀ k ∈ D, i ≠ k → hi i ≤ lo k ∨ hi k ≤ lo i
  ext : Ext w0 w
  S : S w

def markAll (listed : Array Bool) (T : List Nat) : Array Bool := T.foldl (fun l t => l.setIfInBounds t true) listed

theorem markAll_size : ∀ (T : List Nat) (l : Array Bool), (markAll l T).size = l.size
  | [], _ => rfl
  | t :: r, l => by
    show (markAll (l.setIfInBounds t true) r).size = _
    rw [markAll_size r]; simp

theorem markAll_get (j : Nat) : ∀ (T : List Nat) (l : Array Bool), j < l.size → (markAll l T).getD j false = (l.getD j false || T.contains j)
  | [], l, _ => by simp [markAll]
  | t :: r, l, hj => by
    show (markAll (l.setIfInBounds t true) r).getD j false = _
    rw [markAll_get j r _ (by simpa using hj)]
    by_cases htj : t = j
    · subst htj; simp [hj]
    · have : (l.setIfInBounds t true).getD j false = l.getD j false := getD_set_ne false htj
      rw [this]
      simp [Ne.symm htj]

structure FreshFacts (ops : Array Oper) (listed0 : Array Bool) (n : Nat) (T : List Nat) : Prop where
  op : ∀ t ∈ T, ∃ o d, ops[t]? = some o ∧ o.dst = some d ∧ d < n ∧ d ∉ o.looksAt ops ∧ o.guard = none ∧ (∀ cs b, o.op ≠ .select cs b) ∧ listed0.getD t true = false ∧
    ∀ k ∈ T, k ≠ t → ∃ e, dstOf ops k = some e ∧ e ≠ d ∧ (e ∈ o.looksAt ops → ∃ x ∈ o.after, Region.binds .any x = true ∧ x.on = k)
  rest : ∀ j, j < ops.size → j ∈ T ∨ listed0.getD j true = true ∨ ∀ t ∈ T, t ∈ waits ops ops.size j
  closed : ∀ (j : Nat) (o : Oper), ops[j]? = some o → listed0.getD j false = true → ∀ e ∈ o.after, Region.binds .any e = true → listed0.getD e.on false = true
  size : listed0.size = ops.size
  nodup : T.Nodup
  topo : topo ops listed0 T = true

theorem freshOK_spec {listed0 : Array Bool} {n : Nat} {T : List Nat} (h : freshOK ops listed0 n T = true) : FreshFacts ops listed0 n T := by
  simp only [freshOK, Bool.and_eq_true, List.all_eq_true, decide_eq_true_eq, List.mem_range] at h
  obtain ⟨⟨⟨⟨⟨h1, h2⟩, h3⟩, h4⟩, h5⟩, h6⟩ := h
  refine ⟨fun t ht => ?_, fun j hj => ?_, fun j o ho hl e he hb => ?_, h4, h5, h6⟩
  · have ht1 := h1 t ht
    cases ho : ops[t]? with
    | none => rw [ho] at ht1; cases ht1
    | some o =>
      rw [ho] at ht1
      simp only [Bool.and_eq_true] at ht1
      obtain ⟨⟨⟨⟨a1, a2⟩, a3⟩, a4⟩, a5⟩ := ht1
      cases hd : o.dst with
      | none => rw [hd] at a1; cases a1
      | some d =>
        rw [hd] at a1
        simp only [Bool.and_eq_true, decide_eq_true_eq, Bool.not_eq_true', List.contains_eq_mem, decide_eq_false_iff_not] at a1
        refine ⟨o, d, rfl, hd, a1.1, a1.2, by simpa using a2, (fun cs b e => by rw [e] at a3; cases a3), by simpa using a4, fun k hk hkt => ?_⟩
        have a6 := (List.all_eq_true.1 a5) k hk
        simp only [Bool.or_eq_true, beq_iff_eq, hkt, false_or] at a6
        cases hkd : dstOf ops k with
        | none => rw [hkd] at a6; cases a6
        | some e =>
          rw [hkd] at a6
          simp only [Bool.and_eq_true, bne_iff_ne, ne_eq, Bool.or_eq_true, Bool.not_eq_true', List.contains_eq_mem, decide_eq_false_iff_not] at a6
          refine ⟨e, rfl, fun hed => a6.1 (by rw [hd, hed]), fun hl => ?_⟩
          rcases a6.2 with h | h
          · exact absurd hl h
          · obtain ⟨x, hx, hxx⟩ := Array.any_eq_true'.1 h
            simp only [Bool.and_eq_true, beq_iff_eq] at hxx
            exact ⟨x, hx, hxx.1, hxx.2⟩
  · have := h2 j hj
    simp only [Bool.or_eq_true, List.contains_eq_mem, decide_eq_true_eq, List.all_eq_true] at this
    rcases this with (h | h) | h
    · exact .inl h
    · exact .inr (.inl h)
    · exact .inr (.inr h)
  · have hj : j < ops.size := (Array.getElem?_eq_some_iff.1 ho).1
    have := h3 j hj
    simp only [hl, ho, Bool.not_true, Bool.false_or] at this
    have := (Array.all_eq_true'.1 this) e he
    simpa [hb] using this

theorem topo_next {T : List Nat} : ∀ {listed0 : Array Bool}, topo ops listed0 T = true → ∀ (D : List Nat) (listed : Array Bool), (∀ j, listed0.getD j false = true → listed.getD j false = true) →
    (∀ j ∈ D, listed.getD j false = true) → (∃ t ∈ T, t ∉ D) → ∃ t ∈ T, t ∉ D ∧ ∃ o, ops[t]? = some o ∧ ∀ e ∈ o.after, Region.binds .any e = true → listed.getD e.on false = true := by
  induction T with
  | nil => intro _ _ _ _ _ _ ⟨t, ht, _⟩; cases ht
  | cons t r ih =>
    intro listed0 h D listed h0 hD hex
    simp only [topo, Bool.and_eq_true] at h
    by_cases htD : t ∈ D
    · obtain ⟨x, hx, hxD⟩ := hex
      have hx' : x ∈ r := by
        rcases List.mem_cons.1 hx with rfl | hx
        · exact absurd htD hxD
        · exact hx
      obtain ⟨y, hy, hyD, ho⟩ := ih h.2 D listed (fun j hj => by
        by_cases hjt : t = j
        · subst hjt; exact hD t htD
        · rw [getD_set_ne false hjt] at hj; exact h0 j hj) hD ⟨x, hx', hxD⟩
      exact ⟨y, List.mem_cons_of_mem _ hy, hyD, ho⟩
    · refine ⟨t, List.mem_cons_self .., htD, ?_⟩
      cases ho : ops[t]? with
      | none => rw [ho] at h; simp at h
      | some o =>
        rw [ho] at h
        refine ⟨o, rfl, fun e he hb => h0 _ ?_⟩
        have := (Array.all_eq_true'.1 h.1) e he
        simpa [hb] using this

theorem fresh_phase {G : Nat → Nat → Nat → Value → World → Prop} {listed0 : Array Bool} {n : Nat} {T : List Nat} (F : FreshFacts ops listed0 n T) (hP : ∀ c a w, ¬ Q (.panic c) a w) {a0 : Act} (hn : a0.tmps.size = n) {w0 : World}
    (hSm : ∀ w w', S w → Ext w w' → S w') (hGm : ∀ i lo hi v w w', G i lo hi v w → Ext w w' → G i lo hi v w')
    (hstep : ∀ i o, i ∈ T → ops[i]? = some o → ∀ (vs : Nat → Value) (w : World) (lo hi : Nat → Nat), S w → Ext w0 w → (∀ k ∈ T, ∀ e, dstOf ops k = some e → e ∈ o.looksAt ops → G k (lo k) (hi k) (vs k) w) →
      o.wp P (over ops vs T a0) w (fun a' w' => ∃ v, a' = (over ops vs T a0).put o.dst v ∧ G i w.heap.size w'.heap.size v w' ∧ Ext w w') Q ∨ (o.asks P (over ops vs T a0) w ∧ LetsOut Q)) (fuel : Nat)
    (hfin : ∀ (vs : Nat → Value) (lo hi : Nat → Nat) (w : World), S w → Ext w0 w → (∀ k ∈ T, G k (lo k) (hi k) (vs k) w ∧ w0.heap.size ≤ lo k ∧ hi k ≤ w.heap.size) → (∀ i ∈ T, ∀ k ∈ T, i ≠ k → hi i ≤ lo k ∨ hi k ≤ lo i) →
      anyS P ops Q S z fuel (markAll listed0 T) (over ops vs T a0) w) :
    ∀ (m : Nat) (D : List Nat) (vs : Nat → Value) (lo hi : Nat → Nat) (listed : Array Bool) (a : Act) (w : World), D.length + m = T.length →
      FreshInv ops S G listed0 T a0 w0 D vs lo hi listed a w → anyS P ops Q S z (fuel + m) listed a w := by
  have hdist : ∀ t, ∀ i ∈ T, ∀ j ∈ T, dstOf ops i = some t → dstOf ops j = some t → i = j := by
    intro t i hi j hj h1 h2
    by_cases hij : i = j
    · exact hij
    · obtain ⟨o, d, ho, hd, _, _, _, _, _, hk⟩ := F.op j hj
      obtain ⟨e, he, hed, _⟩ := hk i hi hij
      have : dstOf ops j = some d := by simp [dstOf, ho, hd]
      rw [this] at h2
      rw [he] at h1
      cases h1; cases h2
      exact absurd rfl hed
  have hdist' : ∀ i ∈ T, ∀ j ∈ T, i ≠ j → dstOf ops i ≠ dstOf ops j ∨ dstOf ops i = none := by
    intro i hi j hj hij
    cases h : dstOf ops i with
    | none => exact .inr rfl
    | some t => exact .inl fun e => hij (hdist t i hi j hj h e.symm)
  intro m
  induction m with
  | zero =>
    intro D vs lo hi listed a w hlen I
    have hall : ∀ t ∈ T, t ∈ D := by
      intro t ht
      by_cases htD : t ∈ D
      · exact htD
      · exfalso
        have hsub : (t :: D).Nodup := List.nodup_cons.2 ⟨htD, I.nodup⟩
        have := List.Nodup.length_le_of_subset hsub (l₂ := T) (fun x hx => by
          rcases List.mem_cons.1 hx with rfl | hx
          · exact ht
          · exact I.sub x hx)
        simp only [List.length_cons] at this
        omega
    have ea : a = over ops vs T a0 := by
      have h1 : a.tmps = (over ops vs T a0).tmps := by
        apply Array.ext_getElem?
        intro k
        rw [I.slots k, over_get vs k T a0 hdist' F.nodup]
        exact slotBy_agree I.sub (hdist k) (fun x hx _ => hall x hx)
      have h2 : a.defers = (over ops vs T a0).defers := by rw [I.defers, over_defers]
      cases a; cases hov : over ops vs T a0; rw [hov] at h1 h2; simp only at h1 h2; rw [h1, h2]
    have el : listed = markAll listed0 T := by
      apply Array.ext
      · rw [markAll_size, I.size, F.size]
      · intro j h1 h2
        have h3 := I.marks j (by rw [← I.size]; exact h1)
        have h4 := markAll_get (l := listed0) j T (by rw [F.size, ← I.size]; exact h1)
        have h5 : D.contains j = T.contains j := by
          rw [Bool.eq_iff_iff]; simp only [List.contains_eq_mem, decide_eq_true_eq]
          exact ⟨I.sub j, hall j⟩
        rw [h5, ← h4] at h3
        simpa [h1, h2] using h3
    rw [ea, el]
    exact hfin vs lo hi w I.S I.ext (fun k hk => I.held k (hall k hk)) (fun i hi' k hk => I.apart i (hall i hi') k (hall k hk))
  | succ m ih =>
    intro D vs lo hi listed a w hlen I
    have hex : ∃ t ∈ T, t ∉ D := by
      refine Classical.byContradiction fun hno => ?_
      have hall : ∀ t ∈ T, t ∈ D := fun t ht => Classical.byContradiction fun h => hno ⟨t, ht, h⟩
      have := List.Nodup.length_le_of_subset F.nodup (l₂ := D) hall
      omega
    have up : ∀ j, listed0.getD j false = true → listed.getD j false = true := by
      intro j hj
      have hlt : j < ops.size := by
        rw [← F.size]
        exact Classical.byContradiction fun h => by simp [Array.getElem?_eq_none (Nat.le_of_not_lt h)] at hj
      rw [I.marks j hlt, hj]; rfl
    have upD : ∀ j ∈ D, listed.getD j false = true := by
      intro j hj
      obtain ⟨o, _, ho, _⟩ := F.op j (I.sub j hj)
      rw [I.marks j (Array.getElem?_eq_some_iff.1 ho).1]
      simp [hj]
    have undone : ∀ t ∈ T, t ∉ D → listed.getD t true = false := by
      intro t ht htD
      obtain ⟨o, _, ho, _, _, _, _, _, h0, _⟩ := F.op t ht
      have hlt := (Array.getElem?_eq_some_iff.1 ho).1
      have h1 := I.marks t hlt
      have h0' : listed0.getD t false = false := by
        have : t < listed0.size := by rw [F.size]; exact hlt
        simpa [this] using h0
      rw [h0'] at h1
      have : t < listed.size := by rw [I.size]; exact hlt
      simpa [this, htD] using h1
    obtain ⟨t0, ht0, ht0D, o0, ho0, hall0⟩ := topo_next F.topo D listed up upD hex
    have hne : Region.ready .any ops listed ≠ [] := by
      intro h
      have : t0 ∈ Region.ready .any ops listed := mem_ready.2 ⟨undone t0 ht0 ht0D, o0, ho0, hall0⟩
      rw [h] at this
      cases this
    refine ⟨fun h => absurd h hne, fun i hir => ?_⟩
    obtain ⟨hun, o, ho, hafter⟩ := mem_ready.1 hir
    have hlt := (Array.getElem?_eq_some_iff.1 ho).1
    have hiT : i ∈ T := by
      rcases F.rest i hlt with h | h | h
      · exact h
      · exfalso
        have h' : listed0.getD i false = true := by
          have : i < listed0.size := by rw [F.size]; exact hlt
          simpa [this] using h
        have h2 := up i h'
        have : i < listed.size := by rw [I.size]; exact hlt
        simp [this] at h2 hun
        rw [h2] at hun; cases hun
      · exfalso
        have h1 := waits_listed I.closed ops.size i o ho hafter t0 (h t0 ht0)
        have h2 := undone t0 ht0 ht0D
        obtain ⟨_, _, hot, _⟩ := F.op t0 ht0
        have : t0 < listed.size := by rw [I.size]; exact (Array.getElem?_eq_some_iff.1 hot).1
        simp [this] at h1 h2
        rw [h1] at h2; cases h2
    have hiD : i ∉ D := by
      intro h
      have h1 := upD i h
      have : i < listed.size := by rw [I.size]; exact hlt
      simp [this] at h1 hun
      rw [h1] at hun; cases hun
    obtain ⟨o', d, ho', hd, hdn, hdl, hg, hsel, _, hk⟩ := F.op i hiT
    obtain rfl : o = o' := Option.some.inj (ho.symm.trans ho')
    have hid : dstOf ops i = some d := by simp [dstOf, ho, hd]
    -- a slot that o looks at holds what 'over' says
    have same : ∀ t, t ∈ o.looksAt ops → a.tmps[t]? = (over ops vs T a0).tmps[t]? := by
      intro t ht
      rw [I.slots t, over_get vs t T a0 hdist' F.nodup]
      refine slotBy_agree I.sub (hdist t) (fun k hkT hkt => ?_)
      by_cases hki : k = i
      · subst hki
        rw [hid] at hkt; cases hkt
        exact absurd ht hdl
      · obtain ⟨e, he, _, hl⟩ := hk k hkT hki
        rw [hkt] at he; cases he
        obtain ⟨x, hx, hxb, hxk⟩ := hl ht
        have := hafter x hx hxb
        rw [hxk] at this
        exact Classical.byContradiction fun hkD => by
          have h2 := undone k hkT hkD
          obtain ⟨_, _, hot, _⟩ := F.op k hkT
          have h3 : k < listed.size := by rw [I.size]; exact (Array.getElem?_eq_some_iff.1 hot).1
          simp [h3] at this h2
          rw [this] at h2; cases h2
    have heval : execOp (over ops vs T a0).eval o = execOp a.eval o := execOp_congr o hsel fun x hx => by
      cases x with
      | tmp t =>
        have := same t (List.mem_append_left _ (List.mem_filterMap.2 ⟨.tmp t, by simpa using hx, rfl⟩))
        simp [Act.eval, Array.getD_eq_getD_getElem?, this]
      | _ => rfl
    have hst := hstep i o hiT ho vs w lo hi I.S I.ext (fun k hkT e he hel => by
      by_cases hki : k = i
      · subst hki
        rw [hid] at he; cases he
        exact absurd hel hdl
      · obtain ⟨e', he', _, hl⟩ := hk k hkT hki
        rw [he] at he'; cases he'
        obtain ⟨x, hx, hxb, hxk⟩ := hl hel
        have := hafter x hx hxb
        rw [hxk] at this
        have hkD : k ∈ D := Classical.byContradiction fun hkD => by
          have h2 := undone k hkT hkD
          obtain ⟨_, _, hot, _⟩ := F.op k hkT
          have h3 : k < listed.size := by rw [I.size]; exact (Array.getElem?_eq_some_iff.1 hot).1
          simp [h3] at this h2
          rw [this] at h2; cases h2
        exact (I.held k hkD).1)
    have hput : ∀ (b : Act) (v u : Value), b.tmps.size = n → b.put o.dst v = b.put o.dst u → v = u := by
      intro b v u hb h
      have h1 : (b.put o.dst v).tmps[d]? = (b.put o.dst u).tmps[d]? := by rw [h]
      rw [put_get, put_get, if_pos ⟨hd, by rw [hb]; exact hdn⟩, if_pos ⟨hd, by rw [hb]; exact hdn⟩] at h1
      exact Option.some.inj h1
    have hov : (over ops vs T a0).tmps.size = n := by rw [over_size]; exact hn
    have hwp : o.wp P a w (fun a' w' => ∃ v, a' = a.put o.dst v ∧ G i w.heap.size w'.heap.size v w' ∧ Ext w w') Q ∨ (o.asks P a w ∧ LetsOut Q) := by
      refine hst.imp (fun hst => ?_) (fun h => ⟨by unfold Oper.asks at *; rw [← heval]; exact h.1, h.2⟩)
      refine wp_carry (a := over ops vs T a0) heval hP (fun v w' h => ?_) (fun dd w' h => ?_) hst
      · obtain ⟨u, hu, h2⟩ := h
        obtain rfl := hput _ _ _ hov hu
        exact ⟨v, rfl, h2⟩
      · obtain ⟨u, hu, _⟩ := h
        have : ({ over ops vs T a0 with defers := dd :: (over ops vs T a0).defers }.put o.dst undef).defers = ((over ops vs T a0).put o.dst u).defers := by rw [hu]
        rw [hd] at this
        simp [Act.put] at this
    unfold wpOp
    rw [ho]
    simp only
    rw [if_pos (by simp [Region.wanted, hg])]
    refine hwp.imp (fun hwp => Oper.wp_mono (fun a' w' h => ?_) hwp) id
    obtain ⟨v, rfl, hG, hE⟩ := h
    have hS' := hSm _ _ I.S hE
    refine ⟨fun _ => hS', ?_⟩
    refine ih (i :: D) (fun j => if j = i then v else vs j) (fun j => if j = i then w.heap.size else lo j) (fun j => if j = i then w'.heap.size else hi j) _ _ w' (by simp only [List.length_cons]; omega) ?_
    refine ⟨fun x hx => ?_, List.nodup_cons.2 ⟨hiD, I.nodup⟩, by simp [I.size], fun j hj => ?_, fun j oj hoj hl e he hb => ?_, ?_, by rw [put_size]; exact I.tmps, fun k => ?_, fun k hk' => ?_, fun x hx y hy hxy => ?_, I.ext.trans hE, hS'⟩
    · rcases List.mem_cons.1 hx with rfl | hx
      · exact hiT
      · exact I.sub x hx
    · by_cases hij : i = j
      · subst hij
        have : i < listed.size := by rw [I.size]; exact hlt
        simp [this]
      · rw [getD_set_ne false hij, I.marks j hj]
        simp [Ne.symm hij]
    · by_cases hij : i = j
      · subst hij
        obtain rfl : o = oj := Option.some.inj (ho.symm.trans hoj)
        exact getD_set_true (hafter e he hb)
      · rw [getD_set_ne false hij] at hl
        exact getD_set_true (I.closed j oj hoj hl e he hb)
    · rw [hd]; exact I.defers
    · rw [put_get, hd]
      by_cases hdk : d = k
      · subst hdk
        unfold slotBy
        rw [List.find?_cons, show (dstOf ops i == some d) = true by simp [hid]]
        simp only [true_and, if_true]
        rw [I.tmps]
        by_cases hlt2 : d < a0.tmps.size
        · rw [if_pos hlt2, if_pos hlt2]
        · rw [hn] at hlt2; exact absurd hdn hlt2
      · rw [if_neg (fun h => hdk (Option.some.inj h.1)), I.slots k]
        unfold slotBy
        rw [List.find?_cons, show (dstOf ops i == some k) = false by simp [hid, hdk]]
        cases hf : D.find? (fun i => dstOf ops i == some k) with
        | none => rfl
        | some j =>
          have hji : j ≠ i := fun e => hiD (e ▸ List.mem_of_find?_eq_some hf)
          simp [hji]
    · rcases List.mem_cons.1 hk' with rfl | hk'
      · simp only [if_true]
        exact ⟨hG, I.ext.size, Nat.le_refl _⟩
      · have hki : k ≠ i := fun e => hiD (e ▸ hk')
        simp only [hki, if_false]
        have := I.held k hk'
        exact ⟨hGm _ _ _ _ _ _ this.1 hE, this.2.1, Nat.le_trans this.2.2 hE.size⟩
    · rcases List.mem_cons.1 hx with hxi | hxD
      · subst hxi
        rcases List.mem_cons.1 hy with hyx | hyD
        · exact absurd hyx.symm hxy
        · have hyi : y ≠ x := Ne.symm hxy
          simp only [if_true, hyi, if_false]
          exact .inr (I.held y hyD).2.2
      · have hxi : x ≠ i := fun e => hiD (e ▸ hxD)
        rcases List.mem_cons.1 hy with hyi | hyD
        · subst hyi
          simp only [if_true, hxi, if_false]
          exact .inl (I.held x hxD).2.2
        · have hyi : y ≠ i := fun e => hiD (e ▸ hyD)
          simp only [hxi, hyi, if_false]
          exact I.apart x hxD y hyD hxy

/-- The same by the slots' numbers. -/
def puts (vs : Nat → Value) : List (Nat × Tmp) → Act → Act
  | [], a => a
  | p :: r, a => puts vs r (a.put (some p.2) (vs p.1))

theorem over_eq_puts (vs : Nat → Value) : ∀ (TS : List (Nat × Tmp)) (a : Act), (∀ p ∈ TS, dstOf ops p.1 = some p.2) → over ops vs (TS.map (·.1)) a = puts vs TS a
  | [], _, _ => rfl
  | p :: r, a, h => by
    simp only [List.map_cons, over, puts]
    rw [show (ops[p.1]?).bind (·.dst) = some p.2 from h p (List.mem_cons_self ..)]
    exact over_eq_puts vs r _ (fun q hq => h q (List.mem_cons_of_mem _ hq))

theorem wp_of_list {o : Oper} {K : Act → World → Prop} {a : Act} {w : World} (hg : o.guard = none) (h : wpList P ops (Exit.then K Q) [o] a w) : o.wp P a w K Q ∨ (o.asks P a w ∧ LetsOut Q) := by
  unfold wpList at h
  rw [if_pos (by simp [Region.wanted, hg])] at h
  refine h.imp (fun h1 => ?_) (fun h1 => ⟨h1.1, h1.2⟩)
  unfold Oper.wp at *
  generalize (execOp a.eval o).run P w = x at *
  cases x with
  | ok n w1 =>
    cases n <;> simp only [Oper.upon] at h1 ⊢ <;> first
      | exact h1
      | exact Calls.mono h1 (fun e w'' he => by cases e <;> exact he)
      | exact Rows.mono h1 (fun _ _ he => he)
  | halt y w1 => cases y <;> simp only [Oper.upon] at h1 ⊢ <;> exact h1

/-- What is asked where the fresh operations begin. -/
def FreshAt (P : Program) (ops : Array Oper) (Q : Exit → Act → World → Prop) (S : World → Prop) (z : Nat) (G : Nat → Nat → Nat → Value → World → Prop) (TS : List (Nat × Tmp)) (plan2 : List (Nat × Bool)) (n : Nat) (a1 : Act) (w1 : World) : Prop :=
  a1.tmps.size = n ∧
  (∀ p ∈ TS, ∀ o, ops[p.1]? = some o → ∀ (vs : Nat → Value) (w : World) (lo hi : Nat → Nat), S w → Ext w1 w → (∀ k ∈ TS, k.2 ∈ o.looksAt ops → G k.1 (lo k.1) (hi k.1) (vs k.1) w) →
    ∀ K : Act → World → Prop, (∀ v w', G p.1 w.heap.size w'.heap.size v w' → Ext w w' → K ((puts vs TS a1).put (some p.2) v) w') → wpList P ops (Exit.then K Q) [o] (puts vs TS a1) w) ∧
  (∀ (vs : Nat → Value) (lo hi : Nat → Nat) (w : World), S w → Ext w1 w → (∀ k ∈ TS, G k.1 (lo k.1) (hi k.1) (vs k.1) w ∧ w1.heap.size ≤ lo k.1 ∧ hi k.1 ≤ w.heap.size) →
    (∀ i ∈ TS, ∀ k ∈ TS, i.1 ≠ k.1 → hi i.1 ≤ lo k.1 ∨ hi k.1 ≤ lo i.1) → wpPlan P ops Q S z (Q .normal) plan2 (puts vs TS a1) w)

def freshRegion (ops : Array Oper) (z : Nat) (plan1 : List (Nat × Bool)) (TS : List (Nat × Tmp)) (plan2 : List (Nat × Bool)) (n : Nat) : Bool :=
  match planGo ops z (Array.replicate ops.size false) plan1 with
  | some l1 => freshOK ops l1 n (TS.map (·.1)) && planOK ops z (markAll l1 (TS.map (·.1))) plan2 && (TS.all fun p => dstOf ops p.1 == some p.2) && decide (plan1.length + TS.length + plan2.length = ops.size) && lastOK ops z && !l1.getD z false
  | none => false

theorem wp_region_fresh {id : Nat} {l : List Oper} {a : Act} {w : World} (S : World → Prop) (z : Nat) (G : Nat → Nat → Nat → Value → World → Prop) (plan1 : List (Nat × Bool)) (TS : List (Nat × Tmp)) (plan2 : List (Nat × Bool)) (n : Nat)
    (hm : P.follows .mixedOrders = true) (hs : Region.noSelect l.toArray = true) (hp : freshRegion l.toArray z plan1 TS plan2 n = true) (hS : S w.drew)
    (hSm : ∀ w w', S w → Ext w w' → S w') (hGm : ∀ i lo hi v w w', G i lo hi v w → Ext w w' → G i lo hi v w')
    (h : wpPlan P l.toArray (NoPanic Q) S z (FreshAt P l.toArray (NoPanic Q) S z G TS plan2 n) plan1 a w.drew) : (Code.region id l.toArray true).wp P Q a w := by
  unfold freshRegion at hp
  split at hp
  · rename_i l1 hl1
    simp only [Bool.and_eq_true, decide_eq_true_eq, List.all_eq_true, beq_iff_eq, Bool.not_eq_true'] at hp
    obtain ⟨⟨⟨⟨⟨hf, hp2⟩, hd⟩, hlen⟩, hz⟩, hzl⟩ := hp
    have F := freshOK_spec hf
    refine wp_region_noPanic (wp_region_any hm (any_of_anyS (S := S) (z := z) _ _ _ _ ?_))
    have key := held_of_plan (P := P) (Q := NoPanic Q) (S := S) (C := FreshAt P l.toArray (NoPanic Q) S z G TS plan2 n) hs hz (fun c a d v w h => h.elim) l1 (plan2.length + TS.length) (fun a1 w1 hS1 hC => ?_) plan1 _ a w.drew hl1 (by simp) (fun _ => hS) h
    · rw [show plan2.length + TS.length + plan1.length = l.toArray.size by omega] at key
      exact key
    · have hS1' : S w1 := hS1 (by rw [hzl]; simp)
      obtain ⟨hn, hst, hfin⟩ := hC
      have hT : TS.length = (TS.map (·.1)).length := by simp
      rw [hT]
      have hdst : ∀ p ∈ TS, dstOf l.toArray p.1 = some p.2 := hd
      refine fresh_phase (Q := NoPanic Q) (w0 := w1) F (fun c a w h => h) hn hSm hGm (fun i o hi ho vs w lo hi' hSw hE hdep => ?_) plan2.length (fun vs lo hi w hSw hE hall hap => ?_) (TS.map (·.1)).length [] (fun _ => undef) (fun _ => 0) (fun _ => 0) l1 a1 w1 (by simp) ?_
      · obtain ⟨p, hpT, rfl⟩ := List.mem_map.1 hi
        obtain ⟨o', d, ho', hod, _, _, hg, _⟩ := F.op p.1 hi
        obtain rfl : o = o' := Option.some.inj (ho.symm.trans ho')
        have hd2 : o.dst = some p.2 := by
          have := hdst p hpT
          simp only [dstOf, ho, Option.bind_some] at this
          exact this
        rw [over_eq_puts vs TS a1 hdst]
        refine wp_of_list hg (hst p hpT o ho vs w lo hi' hSw hE (fun k hk hkl => hdep k.1 (List.mem_map.2 ⟨k, hk, rfl⟩) k.2 (hdst k hk) hkl) _ (fun v w' hG hE' => ?_))
        rw [hd2]
        exact ⟨v, rfl, hG, hE'⟩
      · rw [over_eq_puts vs TS a1 hdst]
        have hw := hfin vs lo hi w hSw hE (fun k hk => hall k.1 (List.mem_map.2 ⟨k, hk, rfl⟩)) (fun i hi k hk hne => hap i.1 (List.mem_map.2 ⟨i, hi, rfl⟩) k.1 (List.mem_map.2 ⟨k, hk, rfl⟩) hne)
        unfold planOK at hp2
        split at hp2
        · rename_i l2 hl2
          have := held_of_plan (P := P) (Q := NoPanic Q) (S := S) (C := NoPanic Q .normal) hs hz (fun c a d v w h => h.elim) l2 0 (fun a w _ h => anyS_done (by simpa using hp2) h 0) plan2 _ _ w hl2 (by rw [markAll_size, F.size]) (fun _ => hSw) hw
          rw [Nat.zero_add] at this
          exact this
        · cases hp2
      · exact ⟨(fun x hx => by cases hx), List.nodup_nil, F.size, (fun j hj => by simp), F.closed, rfl, rfl, (fun k => rfl), (fun k hk => by cases hk), (fun i hi => by cases hi), Ext.refl _, hS1'⟩
  · cases hp

theorem plan_nil {a : Act} {w : World} (h : C a w) : wpPlan P ops Q S z C [] a w := h

theorem fresh_at {G : Nat → Nat → Nat → Value → World → Prop} {TS : List (Nat × Tmp)} {plan2 : List (Nat × Bool)} {n : Nat} {a1 : Act} {w1 : World} (hn : a1.tmps.size = n)
    (h : ∀ p ∈ TS, ∀ o, ops[p.1]? = some o → ∀ (vs : Nat → Value) (w : World) (lo hi : Nat → Nat), S w → Ext w1 w → (∀ k ∈ TS, k.2 ∈ o.looksAt ops → G k.1 (lo k.1) (hi k.1) (vs k.1) w) →
      ∀ K : Act → World → Prop, (∀ v w', G p.1 w.heap.size w'.heap.size v w' → Ext w w' → K ((puts vs TS a1).put (some p.2) v) w') → wpList P ops (Exit.then K Q) [o] (puts vs TS a1) w)
    (hfin : ∀ (vs : Nat → Value) (lo hi : Nat → Nat) (w : World), S w → Ext w1 w → (∀ k ∈ TS, G k.1 (lo k.1) (hi k.1) (vs k.1) w ∧ w1.heap.size ≤ lo k.1 ∧ hi k.1 ≤ w.heap.size) →
      (∀ i ∈ TS, ∀ k ∈ TS, i.1 ≠ k.1 → hi i.1 ≤ lo k.1 ∨ hi k.1 ≤ lo i.1) → wpPlan P ops Q S z (Q .normal) plan2 (puts vs TS a1) w) : FreshAt P ops Q S z G TS plan2 n a1 w1 := ⟨hn, h, hfin⟩

theorem plan_done {a : Act} {w : World} (h : Q .normal a w) : wpPlan P ops (NoPanic Q) S z (NoPanic Q .normal) [] a w := h

/-! ### For the hand: segments by the operations' numbers -/
def pick (L : List Oper) (is : List Nat) : List Oper := is.filterMap (L[·]?)

theorem seg_pick {L : List Oper} {wx : World} {A : Act} {i : Nat} {is : List Nat} {o : Oper} {a : Act} (ho : L[i]? = some o)
    (h : ∀ K : Act → World → Prop, (∀ a' w', Seg P L.toArray wx A (pick L is) a' w' → K a' w') → wpList P L.toArray (Exit.then K noEnd) [o] a wx) : Seg P L.toArray wx A (pick L (i :: is)) a wx := by
  have e : pick L (i :: is) = o :: pick L is := by simp [pick, ho]
  rw [e]
  exact seg_cons h

theorem plan_seg {L : List Oper} {A : Act} {a : Act} {w : World} (n : Nat) (ps : List Nat) (rest : List (Nat × Bool)) (hb : ps.all (decide <| · < L.length) = true)
    (hs : segOK n (pick L ps) = true) (hn : a.tmps.size = n) (hS : S w) (h : ∀ wx, S wx → Seg P L.toArray wx A (pick L ps) a wx)
    (hrest : wpPlan P L.toArray Q S z C rest A w) : wpPlan P L.toArray Q S z C (ps.map (·, true) ++ rest) a w := by
  refine plan_of_seg hS rest hrest ps (pick L ps) a ?_ hs hn h
  clear h hs hrest
  induction ps with
  | nil => rfl
  | cons i is ih =>
    simp only [List.all_cons, Bool.and_eq_true, decide_eq_true_eq] at hb
    have := ih hb.2
    have e : pick L (i :: is) = L[i] :: pick L is := by simp [pick, hb.1]
    rw [e]
    simp only [List.map_cons]
    rw [this]
    simp [hb.1]

end
end Go.Plan

/- Reading predicates for bytes; aid for walks of package isomedia and its reference. -/
namespace Go.Proofs.Ytkhjkemllgjfmaa
open Go.RowKit
set_option linter.unusedVariables false

/-- v reads in w as a byte slice of n bytes f 0, .., f (n-1). -/
def BA (w : World) (v : Value) (n : Nat) (f : Nat → Int) : Prop :=
  ∃ ao c, v = .slice ao n c ∧ n ≤ c ∧ ∀ i, i < n → (∃ b o, ao = some ⟨b, o, none⟩ ∧ w.cell? ⟨b, o + i, none⟩ = some (.int .u8 (f i))) ∧ 0 ≤ f i ∧ f i < 256

theorem BA.open {w : World} {v : Value} {n : Nat} {f : Nat → Int} (h : BA w v n f) (hn : 0 < n) :
    ∃ b o c, v = .slice (some ⟨b, o, none⟩) n c ∧ n ≤ c ∧ (∀ i, i < n → w.cell? ⟨b, o + i, none⟩ = some (.int .u8 (f i))) ∧ ∀ i, i < n → 0 ≤ f i ∧ f i < 256 := by
  obtain ⟨ao, c, rfl, hc, H⟩ := h
  obtain ⟨⟨b, o, rfl, _⟩, _⟩ := H 0 hn
  refine ⟨b, o, c, rfl, hc, fun i hi => ?_, fun i hi => (H i hi).2⟩
  obtain ⟨⟨b', o', he, hcell⟩, _⟩ := H i hi
  simp only [Option.some.injEq, Addr.mk.injEq, and_true] at he
  obtain ⟨rfl, rfl⟩ := he
  exact hcell
theorem BA.mk {w : World} {b o n c : Nat} {f : Nat → Int} (hc : n ≤ c) (h : ∀ i, i < n → w.cell? ⟨b, o + i, none⟩ = some (.int .u8 (f i))) (hb : ∀ i, i < n → 0 ≤ f i ∧ f i < 256) :
    BA w (.slice (some ⟨b, o, none⟩) n c) n f := ⟨_, _, rfl, hc, fun i hi => ⟨⟨b, o, rfl, h i hi⟩, hb i hi⟩⟩
theorem BA.below {w w' : World} {v : Value} {n : Nat} {f : Nat → Int} (h : BA w v n f) (hb : Below w.heap.size w w') : BA w' v n f := by
  obtain ⟨ao, c, rfl, hc, H⟩ := h
  refine ⟨ao, c, rfl, hc, fun i hi => ?_⟩
  obtain ⟨⟨b, o, he, hcell⟩, h2⟩ := H i hi
  exact ⟨⟨b, o, he, (hb.cell (p := ⟨b, o + i, none⟩) (block_lt_of_cell hcell)).trans hcell⟩, h2⟩

theorem below_box (w : World) (o : Obj) : Below w.heap.size w (w.alloc o) := (Below.refl _ _).alloc (Nat.le_refl _) _
theorem ret_bool {a b : Bool} (h : a = b) : Ending.returned (.bool a) = Ending.returned (.bool b) := by rw [h]
theorem ret_i64 {a b : Int} (h : a = b) : Ending.returned (.int .i64 a) = Ending.returned (.int .i64 b) := by rw [h]

/-- Block b holds one cell and may be written. -/
structure C1 (w : World) (b : Nat) (c : Value) : Prop where
  k0 : w.cell? ⟨b, 0, none⟩ = some c
  fz : w.frozen? ⟨b, 0, none⟩ = false
theorem C1.lt {w : World} {b : Nat} {c : Value} (h : C1 w b c) : b < w.heap.size := block_lt_of_cell h.k0
theorem C1.below {w w' : World} {b : Nat} {c : Value} (h : C1 w b c) (hb : Below w.heap.size w w') : C1 w' b c := ⟨(hb.cell h.lt).trans h.k0, (hb.frozen h.lt).trans h.fz⟩

/-- Four bytes, the highest first. -/
def numI (f : Nat → Int) (at' : Nat) : Int := bits BinOp.or IntKind.i64 (bits BinOp.or IntKind.i64 (bits BinOp.or IntKind.i64 (f at' * 16777216) (f (at' + 1) * 65536)) (f (at' + 2) * 256)) (f (at' + 3))

end Go.Proofs.Ytkhjkemllgjfmaa

/- The contracts of number, both. -/
namespace Go.Proofs.Ytkhjkemllgjfmaa
open Go.RowKit
set_option linter.unusedVariables false

set_option maxRecDepth 100000 in
set_option maxHeartbeats 1000000 in
theorem number_any (b o n c at' : Nat) (f : Nat → Int) (w : World) (hn : n ≤ 100000000) (h : ∀ i, i < n → w.cell? ⟨b, o + i, none⟩ = some (.int .u8 (f i))) (hb : ∀ i, i < n → 0 ≤ f i ∧ f i < 256) (ha : at' + 4 ≤ n) :
    Calls Try.prog 29 #[.slice (some ⟨b, o, none⟩) n c, .int .i64 (at' : Int)] w fun e w' => e = .returned (.int .i64 (numI f at')) ∧ w' = w.drew := by
  have c0 := h at' (by omega)
  have c1 := h (at' + 1) (by omega)
  have c2 := h (at' + 2) (by omega)
  have c3 := h (at' + 3) (by omega)
  have b0 := hb at' (by omega)
  have b1 := hb (at' + 1) (by omega)
  have b2 := hb (at' + 2) (by omega)
  have b3 := hb (at' + 3) (by omega)
  clear h hb
  go_enter Try.func29, Try.ntmps29
  go_wp2_with fail
  refine Plan.wp_region_plan (fun w' => w'.cell? ⟨b, o + at', none⟩ = some (.int .u8 (f at')) ∧ w'.cell? ⟨b, o + (at' + 1), none⟩ = some (.int .u8 (f (at' + 1))) ∧ w'.cell? ⟨b, o + (at' + 2), none⟩ = some (.int .u8 (f (at' + 2))) ∧ w'.cell? ⟨b, o + (at' + 3), none⟩ = some (.int .u8 (f (at' + 3)))) (([0, 1, 2, 3, 4, 5, 6, 7, 8, 9, 10, 11, 12, 13, 14, 15, 16, 17, 18, 19, 20, 21, 22, 23, 24, 25, 26, 27, 28, 29].map (·, true))) (by kernel_rfl) (by kernel_rfl) (by kernel_rfl) ⟨c0, c1, c2, c3⟩ ?_
  refine' Plan.plan_seg _ [0, 1, 2, 3, 4, 5, 6, 7, 8, 9, 10, 11, 12, 13, 14, 15, 16, 17, 18, 19, 20, 21, 22, 23, 24, 25, 26, 27, 28, 29] ([]) (by kernel_rfl) (by kernel_rfl) rfl (by exact ⟨c0, c1, c2, c3⟩) (fun wx hS => ?_) ?_
  rotate_left
  · obtain ⟨z0, z1, z2, z3⟩ := hS
    go_light
    iterate 30 (apply Plan.seg_pick; rfl; intro K hK; go_wp)
    exact Plan.seg_nil
  refine Plan.plan_done ?_
  go_wp2_with fail
  go_ret
  exact ⟨ret_i64 rfl, rfl⟩

set_option maxRecDepth 100000 in
set_option maxHeartbeats 1000000 in
theorem rnumber_any (b o n c at' : Nat) (f : Nat → Int) (w : World) (hn : n ≤ 100000000) (h : ∀ i, i < n → w.cell? ⟨b, o + i, none⟩ = some (.int .u8 (f i))) (hb : ∀ i, i < n → 0 ≤ f i ∧ f i < 256) (ha : at' + 4 ≤ n) :
    Calls Try.prog 30 #[.slice (some ⟨b, o, none⟩) n c, .int .i64 (at' : Int)] w fun e w' => e = .returned (.int .i64 (numI f at')) ∧ w' = w.drew := by
  have c0 := h at' (by omega)
  have c1 := h (at' + 1) (by omega)
  have c2 := h (at' + 2) (by omega)
  have c3 := h (at' + 3) (by omega)
  have b0 := hb at' (by omega)
  have b1 := hb (at' + 1) (by omega)
  have b2 := hb (at' + 2) (by omega)
  have b3 := hb (at' + 3) (by omega)
  clear h hb
  go_enter Try.func30, Try.ntmps30
  go_wp2_with fail
  refine Plan.wp_region_plan (fun w' => w'.cell? ⟨b, o + at', none⟩ = some (.int .u8 (f at')) ∧ w'.cell? ⟨b, o + (at' + 1), none⟩ = some (.int .u8 (f (at' + 1))) ∧ w'.cell? ⟨b, o + (at' + 2), none⟩ = some (.int .u8 (f (at' + 2))) ∧ w'.cell? ⟨b, o + (at' + 3), none⟩ = some (.int .u8 (f (at' + 3)))) (([0, 1, 2, 3, 4, 5, 6, 7, 8, 9, 10, 11, 12, 13, 14, 15, 16, 17, 18, 19, 20, 21, 22, 23, 24, 25, 26, 27, 28, 29].map (·, true))) (by kernel_rfl) (by kernel_rfl) (by kernel_rfl) ⟨c0, c1, c2, c3⟩ ?_
  refine' Plan.plan_seg _ [0, 1, 2, 3, 4, 5, 6, 7, 8, 9, 10, 11, 12, 13, 14, 15, 16, 17, 18, 19, 20, 21, 22, 23, 24, 25, 26, 27, 28, 29] ([]) (by kernel_rfl) (by kernel_rfl) rfl (by exact ⟨c0, c1, c2, c3⟩) (fun wx hS => ?_) ?_
  rotate_left
  · obtain ⟨z0, z1, z2, z3⟩ := hS
    go_light
    iterate 30 (apply Plan.seg_pick; rfl; intro K hK; go_wp)
    exact Plan.seg_nil
  refine Plan.plan_done ?_
  go_wp2_with fail
  go_ret
  exact ⟨ret_i64 rfl, rfl⟩

end Go.Proofs.Ytkhjkemllgjfmaa

/- What dividing bytes into boxes computes; rows of boxes. -/
namespace Go.Proofs.Ytkhjkemllgjfmaa
open Go.RowKit
set_option linter.unusedVariables false

theorem info31 : (Try.prog.info? 31).map (fun i => (i.zero, i.size, i.bytes)) = some (some (.agg #[.string { data := #[] }, .int .i64 0, .int .i64 0, .int .i64 0]), 4, 40) := by kernel_rfl
theorem info32 : (Try.prog.info? 32).map (fun i => (i.zero, i.size, i.bytes)) = some (some (.agg #[.string { data := #[] }, .int .i64 0, .int .i64 0, .int .i64 0]), 4, 40) := by kernel_rfl

/-- A box begins at index at'. -/
def goOn (f : Nat → Int) (to at' : Nat) : Prop := at' + 8 ≤ to ∧ 8 ≤ numI f at' ∧ numI f at' ≤ (to : Int) - at'
def pos (f : Nat → Int) (fr : Nat) : Nat → Nat
  | 0 => fr
  | k + 1 => pos f fr k + (numI f (pos f fr k)).toNat
def Walked (f : Nat → Int) (fr to k : Nat) : Prop := ∀ j, j < k → goOn f to (pos f fr j)
def codeAt (f : Nat → Int) (to at' : Nat) : Int := if to ≤ at' then 0 else if to < at' + 8 then 4 else if numI f at' < 8 then 3 else 4
theorem Walked.unique {f : Nat → Int} {fr to k l : Nat} (h1 : Walked f fr to k) (h2 : Walked f fr to l) (n1 : ¬ goOn f to (pos f fr k)) (n2 : ¬ goOn f to (pos f fr l)) : k = l := by
  rcases Nat.lt_trichotomy k l with h | h | h
  · exact absurd (h2 k h) n1
  · exact h
  · exact absurd (h1 l h) n2
theorem Walked.step {f : Nat → Int} {fr to k : Nat} (h : Walked f fr to k) (hg : goOn f to (pos f fr k)) : Walked f fr to (k + 1) := by
  intro j hj
  by_cases e : j = k
  · subst e; exact hg
  · exact h j (by omega)
theorem Walked.le {f : Nat → Int} {fr to k : Nat} (hf : fr ≤ to) (h : Walked f fr to k) : pos f fr k ≤ to ∧ k ≤ pos f fr k := by
  induction k with
  | zero => exact ⟨hf, Nat.zero_le _⟩
  | succ k ih =>
    have h1 := ih (fun j hj => h j (by omega))
    obtain ⟨a, b, c⟩ := h k (by omega)
    simp only [pos]
    omega

def boxV (f : Nat → Int) (at' : Nat) : List Value := [.string (strOfNums [f (at' + 4), f (at' + 4 + 1), f (at' + 4 + 2), f (at' + 4 + 3)]), .int .i64 (at' : Int), .int .i64 ((at' : Int) + 8), .int .i64 ((at' : Int) + numI f at')]
def rowsV (f : Nat → Int) (fr : Nat) : Nat → List Value
  | 0 => []
  | k + 1 => rowsV f fr k ++ boxV f (pos f fr k)
theorem rowsV_length (f : Nat → Int) (fr k : Nat) : (rowsV f fr k).length = k * 4 := by
  induction k with
  | zero => rfl
  | succ k ih => rw [rowsV, List.length_append, ih]; simp [boxV]; omega
theorem rowsV_at (f : Nat → Int) (fr k j i : Nat) (hj : j < k) (hi : i < 4) : (rowsV f fr k)[j * 4 + i]? = (boxV f (pos f fr j))[i]? := by
  induction k with
  | zero => omega
  | succ k ih =>
    rw [rowsV]
    by_cases e : j = k
    · subst e
      rw [List.getElem?_append_right (by rw [rowsV_length]; omega), rowsV_length]
      congr 1; omega
    · rw [List.getElem?_append_left (by rw [rowsV_length]; omega)]
      exact ih (by omega)

/-- What Boxes leaves. -/
def BoxesPost (E : TypeId) (w : World) (f : Nat → Int) (n : Nat) (fr to : Int) (e : Ending) (w' : World) : Prop :=
  ∃ v c, e = .returned (.tuple #[v, .int .i64 c]) ∧ Below w.heap.size w w' ∧
    (if fr < 0 ∨ to < fr ∨ (n : Int) < to then v = .slice none 0 0 ∧ c = 1 else
      ∃ k, Walked f fr.toNat to.toNat k ∧ ¬ goOn f to.toNat (pos f fr.toNat k) ∧ c = codeAt f to.toNat (pos f fr.toNat k) ∧ (c ≠ 0 → v = .slice none 0 0) ∧ (c = 0 → w'.ownsRow w.heap.size E 4 v k (rowsV f fr.toNat k)))

theorem owns_far {w : World} {B E size n : Nat} {v : Value} {xs : List Value} (h : w.ownsRow B E size v n xs) {p : Addr} (hp : p.block < B) (u : Value) : (w.setCell p u).ownsRow B E size v n xs := by
  refine ⟨h.1, ?_⟩
  rcases h.2 with h1 | ⟨g, cap, cur, h', h1, h2, h3⟩
  · exact .inl h1
  · exact .inr ⟨g, cap, cur, h', h1, by rw [Below.heap_setCell _ _ _ _ (by omega)]; exact h2, h3⟩
theorem owns_drew {w : World} {B E size n : Nat} {v : Value} {xs : List Value} (h : w.ownsRow B E size v n xs) : w.drew.ownsRow B E size v n xs := h
theorem owns_below {w w' : World} {B E size n : Nat} {v : Value} {xs : List Value} (h : w.ownsRow B E size v n xs) (hb : Below w.heap.size w w') : w'.ownsRow B E size v n xs := by
  refine ⟨h.1, ?_⟩
  rcases h.2 with h1 | ⟨g, cap, cur, h', h1, h2, h3⟩
  · exact .inl h1
  · exact .inr ⟨g, cap, cur, h', h1, by rw [hb.block g (Array.getElem?_eq_some_iff.1 h2).1]; exact h2, h3⟩
theorem owns_mono {w : World} {B B' E size n : Nat} {v : Value} {xs : List Value} (h : w.ownsRow B E size v n xs) (hB : B' ≤ B) : w.ownsRow B' E size v n xs := by
  refine ⟨h.1, ?_⟩
  rcases h.2 with h1 | ⟨g, cap, cur, h', h1, h2, h3⟩
  · exact .inl h1
  · exact .inr ⟨g, cap, cur, h', Nat.le_trans hB h1, h2, h3⟩
theorem owns_shape {w : World} {B E size n : Nat} {v : Value} {xs : List Value} (h : w.ownsRow B E size v n xs) : ∃ a m c, v = .slice a m c := by
  rcases h.2 with ⟨rfl, _⟩ | ⟨g, cap, cur, rfl, _⟩
  · exact ⟨_, _, _, rfl⟩
  · exact ⟨_, _, _, rfl⟩
theorem owns_nil (w : World) (B E size : Nat) : w.ownsRow B E size (.slice none 0 0) 0 [] := ⟨by simp, .inl ⟨rfl, rfl⟩⟩
/-- The cells of a row. -/
theorem owns_open {w : World} {B E size n : Nat} {v : Value} {xs : List Value} (h : w.ownsRow B E size v n xs) (hn : 0 < n) : ∃ g c, v = .slice (some ⟨g, 0, none⟩) n c ∧ n ≤ c ∧ ∀ i u, xs[i]? = some u → w.cell? ⟨g, i, none⟩ = some u := by
  obtain ⟨hl, h⟩ := h
  rcases h with ⟨_, h0⟩ | ⟨g, cap, cur, rfl, h1, h2, h3, h4, h5, h6⟩
  · omega
  · refine ⟨g, cap, rfl, h3, fun i u hi => ?_⟩
    have hil := (List.getElem?_eq_some_iff.1 hi).1
    rw [← h6, List.getElem?_take] at hi
    split at hi
    · simp only [World.cell?, h2]
      simpa using hi
    · simp at hi

end Go.Proofs.Ytkhjkemllgjfmaa

/- Media files as data: samples, edits, tracks, files; how values read as these. -/
namespace Go.Proofs.Ytkhjkemllgjfmaa
open Go.RowKit
set_option linter.unusedVariables false

structure Sm where
  n : Nat
  D : Nat → Int
  dur : Int
  shift : Int
  sync : Bool
structure Ed where
  dur : Int
  time : Int
structure Tr where
  h : ByteArray
  sc : Int
  nC : Nat
  C : Nat → Int
  nS : Nat
  S : Nat → Sm
  nE : Nat
  E : Nat → Ed
structure Fl where
  sc : Int
  nT : Nat
  T : Nat → Tr

/-- Samples at an address. -/
def SA (w : World) (v : Value) (n : Nat) (S : Nat → Sm) : Prop := ∃ ao c, v = .slice ao n c ∧ n ≤ c ∧ ∀ i, i < n → ∃ b o x, ao = some ⟨b, o, none⟩ ∧ w.cell? ⟨b, o + i * 4, none⟩ = some x ∧ w.cell? ⟨b, o + i * 4 + 1, none⟩ = some (.int .i64 (S i).dur) ∧ w.cell? ⟨b, o + i * 4 + 2, none⟩ = some (.int .i64 (S i).shift) ∧ w.cell? ⟨b, o + i * 4 + 3, none⟩ = some (.bool (S i).sync) ∧ BA w x (S i).n (S i).D
def EA (w : World) (v : Value) (n : Nat) (E : Nat → Ed) : Prop := ∃ ao c, v = .slice ao n c ∧ n ≤ c ∧ ∀ i, i < n → ∃ b o, ao = some ⟨b, o, none⟩ ∧ w.cell? ⟨b, o + i * 2, none⟩ = some (.int .i64 (E i).dur) ∧ w.cell? ⟨b, o + i * 2 + 1, none⟩ = some (.int .i64 (E i).time)
/-- A track's five cells. -/
structure TC (w : World) (c0 c1 c2 c3 c4 : Value) (T : Tr) : Prop where
  k0 : c0 = .string T.h
  k1 : c1 = .int .i64 T.sc
  k2 : BA w c2 T.nC T.C
  k3 : SA w c3 T.nS T.S
  k4 : EA w c4 T.nE T.E
def TA (w : World) (v : Value) (T : Tr) : Prop := ∃ c0 c1 c2 c3 c4, v = .agg #[c0, c1, c2, c3, c4] ∧ TC w c0 c1 c2 c3 c4 T
def TSA (w : World) (v : Value) (n : Nat) (T : Nat → Tr) : Prop := ∃ ao c, v = .slice ao n c ∧ n ≤ c ∧ ∀ i, i < n → ∃ b o c0 c1 c2 c3 c4, ao = some ⟨b, o, none⟩ ∧ w.cell? ⟨b, o + i * 5, none⟩ = some c0 ∧ w.cell? ⟨b, o + i * 5 + 1, none⟩ = some c1 ∧ w.cell? ⟨b, o + i * 5 + 2, none⟩ = some c2 ∧ w.cell? ⟨b, o + i * 5 + 3, none⟩ = some c3 ∧ w.cell? ⟨b, o + i * 5 + 4, none⟩ = some c4 ∧ TC w c0 c1 c2 c3 c4 (T i)
def FA (w : World) (v : Value) (F : Fl) : Prop := ∃ c, v = .agg #[.int .i64 F.sc, c] ∧ TSA w c F.nT F.T

theorem SA.below {w w' : World} {v : Value} {n : Nat} {S : Nat → Sm} (h : SA w v n S) (hb : Below w.heap.size w w') : SA w' v n S := by
  obtain ⟨ao, c, rfl, hc, H⟩ := h
  refine ⟨ao, c, rfl, hc, fun i hi => ?_⟩
  obtain ⟨b, o, x, e, h0, h1, h2, h3, h4⟩ := H i hi
  exact ⟨b, o, x, e, (hb.cell (block_lt_of_cell h0)).trans h0, (hb.cell (block_lt_of_cell h1)).trans h1, (hb.cell (block_lt_of_cell h2)).trans h2, (hb.cell (block_lt_of_cell h3)).trans h3, h4.below hb⟩
theorem EA.below {w w' : World} {v : Value} {n : Nat} {E : Nat → Ed} (h : EA w v n E) (hb : Below w.heap.size w w') : EA w' v n E := by
  obtain ⟨ao, c, rfl, hc, H⟩ := h
  refine ⟨ao, c, rfl, hc, fun i hi => ?_⟩
  obtain ⟨b, o, e, h0, h1⟩ := H i hi
  exact ⟨b, o, e, (hb.cell (block_lt_of_cell h0)).trans h0, (hb.cell (block_lt_of_cell h1)).trans h1⟩
theorem TC.below {w w' : World} {c0 c1 c2 c3 c4 : Value} {T : Tr} (h : TC w c0 c1 c2 c3 c4 T) (hb : Below w.heap.size w w') : TC w' c0 c1 c2 c3 c4 T := ⟨h.k0, h.k1, h.k2.below hb, h.k3.below hb, h.k4.below hb⟩
theorem TA.below {w w' : World} {v : Value} {T : Tr} (h : TA w v T) (hb : Below w.heap.size w w') : TA w' v T := by
  obtain ⟨c0, c1, c2, c3, c4, rfl, k⟩ := h
  exact ⟨_, _, _, _, _, rfl, k.below hb⟩
theorem TSA.below {w w' : World} {v : Value} {n : Nat} {T : Nat → Tr} (h : TSA w v n T) (hb : Below w.heap.size w w') : TSA w' v n T := by
  obtain ⟨ao, c, rfl, hc, H⟩ := h
  refine ⟨ao, c, rfl, hc, fun i hi => ?_⟩
  obtain ⟨b, o, c0, c1, c2, c3, c4, e, h0, h1, h2, h3, h4, h5⟩ := H i hi
  exact ⟨b, o, c0, c1, c2, c3, c4, e, (hb.cell (block_lt_of_cell h0)).trans h0, (hb.cell (block_lt_of_cell h1)).trans h1, (hb.cell (block_lt_of_cell h2)).trans h2, (hb.cell (block_lt_of_cell h3)).trans h3, (hb.cell (block_lt_of_cell h4)).trans h4, h5.below hb⟩
theorem FA.below {w w' : World} {v : Value} {F : Fl} (h : FA w v F) (hb : Below w.heap.size w w') : FA w' v F := by
  obtain ⟨c, rfl, k⟩ := h
  exact ⟨_, rfl, k.below hb⟩

theorem BA.shape {w : World} {v : Value} {n : Nat} {f : Nat → Int} (h : BA w v n f) : ∃ a c, v = .slice a n c := by obtain ⟨a, c, e, _⟩ := h; exact ⟨a, c, e⟩
theorem SA.shape {w : World} {v : Value} {n : Nat} {f : Nat → Sm} (h : SA w v n f) : ∃ a c, v = .slice a n c := by obtain ⟨a, c, e, _⟩ := h; exact ⟨a, c, e⟩
theorem EA.shape {w : World} {v : Value} {n : Nat} {f : Nat → Ed} (h : EA w v n f) : ∃ a c, v = .slice a n c := by obtain ⟨a, c, e, _⟩ := h; exact ⟨a, c, e⟩
theorem TSA.shape {w : World} {v : Value} {n : Nat} {f : Nat → Tr} (h : TSA w v n f) : ∃ a c, v = .slice a n c := by obtain ⟨a, c, e, _⟩ := h; exact ⟨a, c, e⟩

/-- What the statements' guard says. -/
def lightT (T : Tr) : Bool := decide (T.h.size ≤ 20) && decide (T.nC ≤ 5000) && decide (T.nS ≤ 40) && decide (T.nE ≤ 70) && (List.range T.nS).all fun i => decide ((T.S i).n ≤ 500)
def lightF (F : Fl) : Bool := decide (F.nT ≤ 6) && (List.range F.nT).all fun i => lightT (F.T i)
def okSm (s : Sm) : Bool := decide (s.n ≤ 1048576 ∧ 0 ≤ s.dur ∧ s.dur ≤ 16777216 ∧ 0 ≤ s.shift ∧ s.shift ≤ 16777216)
def okEd (e : Ed) : Bool := decide (0 ≤ e.dur ∧ e.dur ≤ 2147483647 ∧ -1 ≤ e.time ∧ e.time ≤ 2147483647)
def okTr (T : Tr) : Bool := decide (T.h.size = 4 ∧ 1 ≤ T.sc ∧ T.sc ≤ 16777216 ∧ T.nC ≤ 4096 ∧ T.nS ≤ 4096 ∧ T.nE ≤ 64) && ((List.range T.nS).all fun i => okSm (T.S i)) && (List.range T.nE).all fun i => okEd (T.E i)
def okFl (F : Fl) : Bool := decide (1 ≤ F.sc ∧ F.sc ≤ 16777216 ∧ F.nT ≤ 4) && (List.range F.nT).all fun i => okTr (F.T i)

theorem all_range {n : Nat} {p : Nat → Bool} : (List.range n).all p = true ↔ ∀ i, i < n → p i = true := by simp
theorem all_range_no {n : Nat} {p : Nat → Bool} {i : Nat} (hi : i < n) (h : p i = false) : (List.range n).all p = false := by
  rw [Bool.eq_false_iff]
  intro h'
  have := all_range.1 h' i hi
  rw [h] at this
  cases this

/-- A loop's 'so far', and its end. -/
theorem all_step {k : Nat} {p : Nat → Bool} (h : ∀ i, i < k → p i = true) (hk : p k = true) : ∀ i, i < k + 1 → p i = true := by
  intro i hi
  by_cases e : i = k
  · subst e; exact hk
  · exact h i (by omega)

end Go.Proofs.Ytkhjkemllgjfmaa

/- The contract of the statements' track: a reference's track as the program has it. -/
namespace Go.Proofs.Ytkhjkemllgjfmaa
open Go.RowKit
set_option linter.unusedVariables false

theorem info75 : (Try.prog.info? 75).map (fun i => (i.zero, i.size, i.bytes)) = some (some (.agg #[.slice none 0 0, .int .i64 0, .int .i64 0, .bool false]), 4, 48) := by kernel_rfl
theorem info76 : (Try.prog.info? 76).map (fun i => (i.zero, i.size, i.bytes)) = some (some (.agg #[.int .i64 0, .int .i64 0]), 2, 16) := by kernel_rfl

/-- One element appended to a row of the call's own. -/
theorem wpList_app (w : World) {ops : Array Oper} {rest : List Oper} {o : Oper} {a : Act} {Q : Exit → Act → World → Prop} (hgd : o.guard = none) (s x : Operand) (t E : TypeId) (size bytes : Nat) (z : Value) (ht : Try.prog.underlying t = some (.slice E))
    (hE : (Try.prog.info? E).map (fun i => (i.zero, i.size, i.bytes)) = some (some z, size, bytes)) (hzs : z.cells.size = size) (hsz : 0 < size) (hby : bytes ≤ 1000)
    (ho : o.op = .call { callee := .builtin .append, args := #[s, x], argTypes := #[t, t] }) (B k g : Nat) (v : Value) (xs news : List Value) (hs : a.eval s = v) (hown : w.ownsRow B E size v k xs)
    (hx : a.eval x = .slice (some ⟨g, 0, none⟩) 1 1) (hl : news.length = size) (hnews : ∀ j u, news[j]? = some u → w.cell? ⟨g, j, none⟩ = some u) (h1 : ∀ u ∈ news, u.oneCell' = true)
    (hk : k ≤ 100000000) (hB : B ≤ w.heap.size)
    (h : ∀ v' w', w'.ownsRow B E size v' (k + 1) (xs ++ news) → Below B w w' → wpList Try.prog ops Q rest (a.put o.dst v') w') : wpList Try.prog ops Q (o :: rest) a w := by
  obtain ⟨i0, hi, hz0, hz1, hz2⟩ := info_parts hE
  have hb2 : (k + 1) * bytes ≤ (100000000 + 1) * 1000 := Nat.mul_le_mul (by omega) hby
  refine wpList_append_own _ hgd s x t ho B E i0 z size bytes ht hi hz0 hz1 hz2 hzs hsz v k xs hs hown ⟨g, 0, none⟩ 1 1 news hx (by omega) (fun j u hj => ?_) h1 (by unfold maxLen; omega) (by omega) hB (fun v' w' hown' hg hnil => ?_)
  · rw [Addr.add_lit, Nat.zero_add]; exact hnews j u hj
  · refine h v' w' hown' ((Below.refl _ _).grown hg hB (fun k' h' => ?_))
    rcases hown.2 with ⟨rfl, _⟩ | ⟨g', cap, cur, rfl, hg', _⟩
    · cases h'
    · cases h'; exact hg'

/-- The samples' data, as values. -/
theorem SA.pick {w : World} {v : Value} {n : Nat} {S : Nat → Sm} (h : SA w v n S) : ∃ X : Nat → Value, ∀ i, i < n → ∃ b o c, v = .slice (some ⟨b, o, none⟩) n c ∧ w.cell? ⟨b, o + i * 4, none⟩ = some (X i) ∧ w.cell? ⟨b, o + i * 4 + 1, none⟩ = some (.int .i64 (S i).dur) ∧ w.cell? ⟨b, o + i * 4 + 2, none⟩ = some (.int .i64 (S i).shift) ∧ w.cell? ⟨b, o + i * 4 + 3, none⟩ = some (.bool (S i).sync) ∧ BA w (X i) (S i).n (S i).D := by
  obtain ⟨ao, c, rfl, hc, H⟩ := h
  refine ⟨fun i => (match ao with | some a => (w.cell? ⟨a.block, a.off + i * 4, none⟩).getD (.int .i64 0) | none => .int .i64 0), fun i hi => ?_⟩
  obtain ⟨b, o, x, rfl, h0, h1, h2, h3, h4⟩ := H i hi
  refine ⟨b, o, c, rfl, ?_, h1, h2, h3, ?_⟩
  · simp [h0]
  · simpa [h0] using h4

theorem owns_stay {w w' : World} {B E size n N : Nat} {v : Value} {xs : List Value} (h : w.ownsRow B E size v n xs) (hb : Below N w w') (hg : ∀ g c, v = .slice (some ⟨g, 0, none⟩) n c → g < N) : w'.ownsRow B E size v n xs := by
  refine ⟨h.1, ?_⟩
  rcases h.2 with h1 | ⟨g, cap, cur, h', h1, h2, h3⟩
  · exact .inl h1
  · exact .inr ⟨g, cap, cur, h', h1, by rw [hb.block g (hg g cap h')]; exact h2, h3⟩
theorem owns_in {w : World} {B E size n : Nat} {v : Value} {xs : List Value} (h : w.ownsRow B E size v n xs) (g c : Nat) (e : v = .slice (some ⟨g, 0, none⟩) n c) : g < w.heap.size := by
  rcases h.2 with ⟨h1, _⟩ | ⟨g', cap, cur, h', h1, h2, h3⟩
  · rw [h1] at e; cases e
  · rw [h'] at e; cases e; exact (Array.getElem?_eq_some_iff.1 h2).1
def smV (X : Nat → Value) (S : Nat → Sm) (i : Nat) : List Value := [X i, .int .i64 (S i).dur, .int .i64 (S i).shift, .bool (S i).sync]
def edV (E : Nat → Ed) (i : Nat) : List Value := [.int .i64 (E i).dur, .int .i64 (E i).time]
def rowsOf (f : Nat → List Value) : Nat → List Value
  | 0 => []
  | k + 1 => rowsOf f k ++ f k
theorem rowsOf_length {f : Nat → List Value} {m : Nat} (hf : ∀ i, (f i).length = m) (k : Nat) : (rowsOf f k).length = k * m := by
  induction k with
  | zero => simp [rowsOf]
  | succ k ih => rw [rowsOf, List.length_append, ih, hf, Nat.add_mul]; omega
theorem rowsOf_at {f : Nat → List Value} {m : Nat} (hf : ∀ i, (f i).length = m) (k j i : Nat) (hj : j < k) (hi : i < m) : (rowsOf f k)[j * m + i]? = (f j)[i]? := by
  induction k with
  | zero => omega
  | succ k ih =>
    have hl := rowsOf_length hf k
    rw [rowsOf]
    by_cases e : j = k
    · subst e
      rw [List.getElem?_append_right (by omega), hl]
      congr 1; omega
    · have h1 : (j + 1) * m ≤ k * m := Nat.mul_le_mul_right _ (by omega)
      rw [Nat.add_mul] at h1
      rw [List.getElem?_append_left (by omega)]
      exact ih (by omega)
theorem owns_zero {w : World} {B E size : Nat} {v : Value} {xs : List Value} (h : w.ownsRow B E size v 0 xs) : ∃ a m, v = .slice a 0 m := by
  rcases h.2 with ⟨rfl, _⟩ | ⟨g, cap, cur, rfl, _⟩
  · exact ⟨_, _, rfl⟩
  · exact ⟨_, _, rfl⟩
theorem SA.of_row {w : World} {B E n : Nat} {v : Value} {X : Nat → Value} {S : Nat → Sm} (h : w.ownsRow B E 4 v n (rowsOf (smV X S) n)) (hX : ∀ i, i < n → BA w (X i) (S i).n (S i).D) : SA w v n S := by
  rcases Nat.eq_zero_or_pos n with rfl | hn
  · obtain ⟨a, m, rfl⟩ := owns_zero h
    exact ⟨a, m, rfl, Nat.zero_le _, fun i hi => absurd hi (Nat.not_lt_zero i)⟩
  · obtain ⟨g, c, rfl, hc, H⟩ := owns_open h hn
    have hf : ∀ i, (smV X S i).length = 4 := fun i => rfl
    refine ⟨_, c, rfl, hc, fun i hi => ⟨g, 0, X i, rfl, ?_, ?_, ?_, ?_, hX i hi⟩⟩
    · simpa using H (i * 4 + 0) _ (by rw [rowsOf_at hf n i 0 hi (by omega)]; rfl)
    · simpa using H (i * 4 + 1) _ (by rw [rowsOf_at hf n i 1 hi (by omega)]; rfl)
    · simpa using H (i * 4 + 2) _ (by rw [rowsOf_at hf n i 2 hi (by omega)]; rfl)
    · simpa using H (i * 4 + 3) _ (by rw [rowsOf_at hf n i 3 hi (by omega)]; rfl)
theorem EA.of_row {w : World} {B E n : Nat} {v : Value} {S : Nat → Ed} (h : w.ownsRow B E 2 v n (rowsOf (edV S) n)) : EA w v n S := by
  rcases Nat.eq_zero_or_pos n with rfl | hn
  · obtain ⟨a, m, rfl⟩ := owns_zero h
    exact ⟨a, m, rfl, Nat.zero_le _, fun i hi => absurd hi (Nat.not_lt_zero i)⟩
  · obtain ⟨g, c, rfl, hc, H⟩ := owns_open h hn
    have hf : ∀ i, (edV S i).length = 2 := fun i => rfl
    refine ⟨_, c, rfl, hc, fun i hi => ⟨g, 0, rfl, ?_, ?_⟩⟩
    · simpa using H (i * 2 + 0) _ (by rw [rowsOf_at hf n i 0 hi (by omega)]; rfl)
    · simpa using H (i * 2 + 1) _ (by rw [rowsOf_at hf n i 1 hi (by omega)]; rfl)

/-- Block b holds five cells and may be written. -/
structure BX (w : World) (b : Nat) (c0 c1 c2 c3 c4 : Value) : Prop where
  k0 : w.cell? ⟨b, 0, none⟩ = some c0
  k1 : w.cell? ⟨b, 1, none⟩ = some c1
  k2 : w.cell? ⟨b, 2, none⟩ = some c2
  k3 : w.cell? ⟨b, 3, none⟩ = some c3
  k4 : w.cell? ⟨b, 4, none⟩ = some c4
  fz : ∀ o, w.frozen? ⟨b, o, none⟩ = false
theorem BX.lt {w : World} {b : Nat} {c0 c1 c2 c3 c4 : Value} (h : BX w b c0 c1 c2 c3 c4) : b < w.heap.size := block_lt_of_cell h.k0
theorem BX.far {w w' : World} {B b : Nat} {c0 c1 c2 c3 c4 : Value} (h : BX w b c0 c1 c2 c3 c4) (hb : Below B w w') (hl : b < B) : BX w' b c0 c1 c2 c3 c4 :=
  ⟨(hb.cell hl).trans h.k0, (hb.cell hl).trans h.k1, (hb.cell hl).trans h.k2, (hb.cell hl).trans h.k3, (hb.cell hl).trans h.k4, fun o => (hb.frozen hl).trans (h.fz o)⟩
theorem BX.of_alloc (w : World) (b : Nat) (c0 c1 c2 c3 c4 : Value) (t : TypeId) (h : b = w.heap.size) : BX (w.alloc (.cells #[c0, c1, c2, c3, c4] t)) b c0 c1 c2 c3 c4 := by
  subst h; exact ⟨by simp [go_sem], by simp [go_sem], by simp [go_sem], by simp [go_sem], by simp [go_sem], fun o => by simp [go_sem]⟩
theorem BX.set3 {w : World} {b : Nat} {c0 c1 c2 c3 c4 : Value} (h : BX w b c0 c1 c2 c3 c4) (u : Value) : BX (w.setCell ⟨b, 3, none⟩ u) b c0 c1 c2 u c4 :=
  ⟨by simp [go_sem, h.k0], by simp [go_sem, h.k1], by simp [go_sem, h.k2], by simp [go_sem, h.k3], by simp [go_sem, h.k4], fun o => by rw [World.frozen?_setCell]; exact h.fz o⟩
theorem BX.set4 {w : World} {b : Nat} {c0 c1 c2 c3 c4 : Value} (h : BX w b c0 c1 c2 c3 c4) (u : Value) : BX (w.setCell ⟨b, 4, none⟩ u) b c0 c1 c2 c3 u :=
  ⟨by simp [go_sem, h.k0], by simp [go_sem, h.k1], by simp [go_sem, h.k2], by simp [go_sem, h.k3], by simp [go_sem, h.k4], fun o => by rw [World.frozen?_setCell]; exact h.fz o⟩
theorem BX.other {w : World} {b b' o : Nat} {c0 c1 c2 c3 c4 u : Value} (h : BX w b c0 c1 c2 c3 c4) (hne : b ≠ b') : BX (w.setCell ⟨b', o, none⟩ u) b c0 c1 c2 c3 c4 :=
  ⟨by rw [World.cell?_setCell_far _ _ _ _ (by simpa using hne.symm)]; exact h.k0, by rw [World.cell?_setCell_far _ _ _ _ (by simpa using hne.symm)]; exact h.k1, by rw [World.cell?_setCell_far _ _ _ _ (by simpa using hne.symm)]; exact h.k2, by rw [World.cell?_setCell_far _ _ _ _ (by simpa using hne.symm)]; exact h.k3, by rw [World.cell?_setCell_far _ _ _ _ (by simpa using hne.symm)]; exact h.k4, fun o => by rw [World.frozen?_setCell]; exact h.fz o⟩

theorem BX.put5 {w : World} {b : Nat} {x0 x1 x2 x3 x4 : Value} (h : BX w b x0 x1 x2 x3 x4) (c0 c1 c2 c3 c4 : Value) : BX (((((w.setCell ⟨b, 0, none⟩ c0).setCell ⟨b, 1, none⟩ c1).setCell ⟨b, 2, none⟩ c2).setCell ⟨b, 3, none⟩ c3).setCell ⟨b, 4, none⟩ c4) b c0 c1 c2 c3 c4 := by
  obtain ⟨h0, h1, h2, h3, h4, hz⟩ := h
  exact ⟨by simp [go_sem, h0], by simp [go_sem, h1], by simp [go_sem, h2], by simp [go_sem, h3], by simp [go_sem, h4], fun o => by simp only [World.frozen?_setCell]; exact hz o⟩
theorem owns_put5 {w : World} {b B E size n : Nat} {v : Value} {xs : List Value} (h : w.ownsRow B E size v n xs) (hb : b < B) (c0 c1 c2 c3 c4 : Value) : (((((w.setCell ⟨b, 0, none⟩ c0).setCell ⟨b, 1, none⟩ c1).setCell ⟨b, 2, none⟩ c2).setCell ⟨b, 3, none⟩ c3).setCell ⟨b, 4, none⟩ c4).ownsRow B E size v n xs :=
  owns_far (owns_far (owns_far (owns_far (owns_far h (by simpa using hb) _) (by simpa using hb) _) (by simpa using hb) _) (by simpa using hb) _) (by simpa using hb) _
theorem below_put5 {w w' : World} {b B : Nat} (h : Below B w w') (hb : B ≤ b) (c0 c1 c2 c3 c4 : Value) : Below B w (((((w'.setCell ⟨b, 0, none⟩ c0).setCell ⟨b, 1, none⟩ c1).setCell ⟨b, 2, none⟩ c2).setCell ⟨b, 3, none⟩ c3).setCell ⟨b, 4, none⟩ c4) :=
  ((((h.setCell (by simpa using hb) _).setCell (by simpa using hb) _).setCell (by simpa using hb) _).setCell (by simpa using hb) _).setCell (by simpa using hb) _
theorem results_cell {fn : Func} {c : Tmp} {ty : TypeId} (h : fn.results = #[.cell c ty]) (tmps : Array Value) (P : Program) (w : World) {p : Addr} {r : Value} (h1 : tmps.getD c undef = .pointer (some p)) (h3 : (loadVar ty p).run P w = .ok r w) :
    (results fn tmps).run P w = .ok r w := by
  rw [Array.getD_eq_getD_getElem?] at h1
  simp [results, h, h1, h3, asAddr]
theorem load43 {w : World} {b : Nat} {c0 c1 c2 c3 c4 : Value} (h : BX w b c0 c1 c2 c3 c4) : (loadVar 43 ⟨b, 0, none⟩).run Try.prog w = .ok (.agg #[c0, c1, c2, c3, c4]) w := by
  obtain ⟨h0, h1, h2, h3, h4, _⟩ := h
  simp [go_sem, h0, h1, h2, h3, h4]
theorem cells4 {w : World} {g : Nat} {c0 c1 c2 c3 : Value} (h0 : w.cell? ⟨g, 0, none⟩ = some c0) (h1 : w.cell? ⟨g, 1, none⟩ = some c1) (h2 : w.cell? ⟨g, 2, none⟩ = some c2) (h3 : w.cell? ⟨g, 3, none⟩ = some c3) (j : Nat) (u : Value) (hj : [c0, c1, c2, c3][j]? = some u) : w.cell? ⟨g, j, none⟩ = some u := by
  match j, hj with
  | 0, hj => simp at hj; rw [← hj]; exact h0
  | 1, hj => simp at hj; rw [← hj]; exact h1
  | 2, hj => simp at hj; rw [← hj]; exact h2
  | 3, hj => simp at hj; rw [← hj]; exact h3
  | j + 4, hj => simp at hj
theorem cells2 {w : World} {g : Nat} {c0 c1 : Value} (h0 : w.cell? ⟨g, 0, none⟩ = some c0) (h1 : w.cell? ⟨g, 1, none⟩ = some c1) (j : Nat) (u : Value) (hj : [c0, c1][j]? = some u) : w.cell? ⟨g, j, none⟩ = some u := by
  match j, hj with
  | 0, hj => simp at hj; rw [← hj]; exact h0
  | 1, hj => simp at hj; rw [← hj]; exact h1
  | j + 2, hj => simp at hj

set_option maxRecDepth 100000 in
set_option maxHeartbeats 4000000 in
theorem track_any (v : Value) (T : Tr) (w : World) (hv : TA w v T) (hS : T.nS ≤ 1000000) (hE : T.nE ≤ 1000000) :
    Calls Try.prog 15 #[v] w fun e w' => ∃ r, e = .returned r ∧ TA w' r T ∧ Below w.heap.size w w' := by
  obtain ⟨c0, c1, c2, c3, c4, rfl, rfl, rfl, b2, b3, b4⟩ := hv
  obtain ⟨a2, d2, rfl⟩ := b2.shape
  obtain ⟨a3, d3, rfl⟩ := b3.shape
  obtain ⟨a4, d4, rfl⟩ := b4.shape
  obtain ⟨X, hX⟩ := b3.pick
  have HX := Lib.hid hX
  have HB2 := Lib.hid b2
  have HB4 := Lib.hid b4
  clear b2 b3 b4 hX
  go_enter Try.func15, Try.ntmps15
  go_wp2_with fail
  obtain ⟨w1, hw⟩ : ∃ x, x = ((w.alloc (.cells #[.string T.h, .int .i64 T.sc, .slice a2 T.nC d2, .slice a3 T.nS d3, .slice a4 T.nE d4] 48)).alloc (.cells #[.string { data := #[] }, .int .i64 0, .slice none 0 0, .slice none 0 0, .slice none 0 0] 43)).alloc (.cells #[.string T.h, .int .i64 T.sc, .slice a2 T.nC d2, .slice none 0 0, .slice none 0 0] 43) := ⟨_, rfl⟩
  rw [← hw]
  have hb1 : Below w.heap.size w w1 := by rw [hw]; go_grown
  have xa : BX w1 w.heap.size (.string T.h) (.int .i64 T.sc) (.slice a2 T.nC d2) (.slice a3 T.nS d3) (.slice a4 T.nE d4) := by
    rw [hw]; exact ((BX.of_alloc w _ _ _ _ _ _ 48 rfl).far (below_box _ _) (by simp)).far (below_box _ _) (by simp; omega)
  have xr : BX w1 (w.heap.size + 1) (.string { data := #[] }) (.int .i64 0) (.slice none 0 0) (.slice none 0 0) (.slice none 0 0) := by
    rw [hw]; exact (BX.of_alloc _ _ _ _ _ _ _ 43 (by simp)).far (below_box _ _) (by simp)
  have xx : BX w1 (w.heap.size + 1 + 1) (.string T.h) (.int .i64 T.sc) (.slice a2 T.nC d2) (.slice none 0 0) (.slice none 0 0) := by
    rw [hw]; exact BX.of_alloc _ _ _ _ _ _ _ 43 (by simp)
  have hsz : w1.heap.size = w.heap.size + 1 + 1 + 1 := by rw [hw]; simp
  obtain ⟨bla, hbla⟩ : ∃ z, z = w.heap.size := ⟨_, rfl⟩
  obtain ⟨blr, hblr⟩ : ∃ z, z = w.heap.size + 1 := ⟨_, rfl⟩
  obtain ⟨blx, hblx⟩ : ∃ z, z = w.heap.size + 1 + 1 := ⟨_, rfl⟩
  obtain ⟨B, hB⟩ : ∃ z, z = w1.heap.size := ⟨_, rfl⟩
  have n0 : w.heap.size ≤ bla := by omega
  have n1 : bla < blr := by omega
  have n2 : blr < blx := by omega
  have n3 : blx < B := by omega
  have n4 : B ≤ w1.heap.size := by omega
  rw [← hblx] at xx ⊢
  rw [← hblr] at xr ⊢
  rw [← hbla] at xa ⊢
  have XA := Lib.hid xa
  have XR := Lib.hid xr
  have XX := Lib.hid xx
  have HB := Lib.hid hb1
  clear hw hb1 xa xr xx hsz hbla hblr hblx hB
  go_loopw [4] (fun i wr => ∃ (k : Nat) (v : Value), k ≤ T.nS ∧ i = .int .i64 (k : Int) ∧ BX wr blx (.string T.h) (.int .i64 T.sc) (.slice a2 T.nC d2) v (.slice none 0 0) ∧ BX wr bla (.string T.h) (.int .i64 T.sc) (.slice a2 T.nC d2) (.slice a3 T.nS d3) (.slice a4 T.nE d4) ∧ BX wr blr (.string { data := #[] }) (.int .i64 0) (.slice none 0 0) (.slice none 0 0) (.slice none 0 0) ∧ wr.ownsRow B 75 4 v k (rowsOf (smV X T.S) k) ∧ Below w.heap.size w wr ∧ B ≤ wr.heap.size) (fun i _ => T.nS - (intOf i).toNat)
  case atStart => exact ⟨0, _, Nat.zero_le _, rfl, XX.out, XA.out, XR.out, owns_nil _ _ _ _, HB.out, n4⟩
  case round =>
    obtain ⟨k, v, hk, rfl, xx, xa, xr, ho, hb, hsz⟩ := hrel
    obtain ⟨va, vm, vc, rfl⟩ := owns_shape ho
    have HO := Lib.hid ho
    have HBW := Lib.hid hb
    have HXX := Lib.hid xx
    have HXA := Lib.hid xa
    have HXR := Lib.hid xr
    have a3' := xa.k3
    clear ho hb xx xa xr
    by_cases hlt : k < T.nS
    · obtain ⟨b, o, c, e, h0, h1, h2, h3, hx⟩ := HX.out k hlt
      simp only [Value.slice.injEq, true_and] at e
      obtain ⟨rfl, rfl⟩ := e
      obtain ⟨ax, dx, ex⟩ := hx.shape
      rw [ex] at h0
      have EX := Lib.hid ex
      replace h0 := (HBW.out.cell (block_lt_of_cell h0)).trans h0
      replace h1 := (HBW.out.cell (block_lt_of_cell h1)).trans h1
      replace h2 := (HBW.out.cell (block_lt_of_cell h2)).trans h2
      replace h3 := (HBW.out.cell (block_lt_of_cell h3)).trans h3
      have x3 := HXX.out.k3
      have xl := HXX.out.lt
      have fz := HXX.out.fz
      clear hx ex
      go_wp2_with (at_builtin; refine wpList_app _ rfl (.tmp 27) (.tmp 37) 40 75 4 48 _ Try.underlying40 info75 rfl (by decide) (by decide) rfl B k _ (.slice va vm vc) _ [.slice ax (T.S k).n dx, .int .i64 (T.S k).dur, .int .i64 (T.S k).shift, .bool (T.S k).sync] rfl (owns_below HO.out (by exact (below_box _ _).trans ((below_box _ _).mono (by simp)))) rfl rfl (cells4 (by simp [go_sem]) (by simp [go_sem]) (by simp [go_sem]) (by simp [go_sem])) (by simp [Value.oneCell']) (by omega) (by simp; omega) ?_)
      intro v' w6 hv' hb6
      have hv6 : Below B wr w6 := (((Below.refl B wr).alloc hsz _).alloc (by simp; omega) _).trans hb6
      obtain ⟨va', vm', vc', rfl⟩ := owns_shape hv'
      have xx6 := HXX.out.far hv6 n3
      have xa6 := HXA.out.far hv6 (by omega)
      have xr6 := HXR.out.far hv6 (by omega)
      have hb6' := HBW.out.trans (hv6.mono (by omega))
      have HV6 := Lib.hid (And.intro hv' (And.intro xx6 (And.intro xa6 (And.intro xr6 (And.intro hb6' (show B ≤ w6.heap.size by have := hv6.size; omega))))))
      have x36 := xx6.k3
      have fz6 := xx6.fz
      clear hv' hb6 hv6 xx6 xa6 xr6 hb6' x3 xl fz h0 h1 h2 h3
      go_wp2_with fail
      go_roundw
      case rel =>
        refine ⟨k + 1, .slice va' vm' vc', by omega, by go_num, HV6.out.2.1.set3 _, HV6.out.2.2.1.other (by omega), HV6.out.2.2.2.1.other (by omega), ?_, HV6.out.2.2.2.2.1.setCell (by simp; omega) _, by rw [World.size_setCell]; exact HV6.out.2.2.2.2.2⟩
        have e : rowsOf (smV X T.S) (k + 1) = rowsOf (smV X T.S) k ++ [.slice ax (T.S k).n dx, .int .i64 (T.S k).dur, .int .i64 (T.S k).shift, .bool (T.S k).sync] := by
          simp only [rowsOf, smV]; rw [EX.out]
        rw [e]
        exact owns_far HV6.out.1 (by simpa using n3) _
      case measure => simp [intOf]; omega
    · obtain rfl : k = T.nS := by omega
      clear XA XR XX HB
      go_wp2_with fail
      obtain ⟨w2, hw2⟩ : ∃ x, x = wr := ⟨_, rfl⟩
      rw [← hw2] at HO HBW HXX HXA HXR hsz ⊢
      obtain ⟨sa, sm, sc, es⟩ : ∃ a m c, Value.slice va vm vc = .slice a m c := ⟨_, _, _, rfl⟩
      have SG := Lib.hid (owns_in HO.out)
      rw [es] at SG
      have SZ := Lib.hid (show B ≤ w2.heap.size from hsz)
      clear hw2 a3'
      go_loopw [6] (fun i wx => ∃ (k : Nat) (v : Value), k ≤ T.nE ∧ i = .int .i64 (k : Int) ∧ BX wx blx (.string T.h) (.int .i64 T.sc) (.slice a2 T.nC d2) (.slice sa sm sc) v ∧ BX wx bla (.string T.h) (.int .i64 T.sc) (.slice a2 T.nC d2) (.slice a3 T.nS d3) (.slice a4 T.nE d4) ∧ BX wx blr (.string { data := #[] }) (.int .i64 0) (.slice none 0 0) (.slice none 0 0) (.slice none 0 0) ∧ wx.ownsRow w2.heap.size 76 2 v k (rowsOf (edV T.E) k) ∧ wx.ownsRow B 75 4 (.slice sa sm sc) T.nS (rowsOf (smV X T.S) T.nS) ∧ Below w.heap.size w wx ∧ w2.heap.size ≤ wx.heap.size) (fun i _ => T.nE - (intOf i).toNat)
      case atStart => exact ⟨0, _, Nat.zero_le _, rfl, by rw [← es]; exact HXX.out, HXA.out, HXR.out, owns_nil _ _ _ _, by rw [← es]; exact HO.out, HBW.out, Nat.le_refl _⟩
      case round =>
        obtain ⟨k, v, hk, rfl, xx, xa, xr, ho, hos, hb, hs2⟩ := hrel
        obtain ⟨va, vm, vc, rfl⟩ := owns_shape ho
        have KO := Lib.hid ho
        have KS := Lib.hid hos
        have KBW := Lib.hid hb
        have KXX := Lib.hid xx
        have KXA := Lib.hid xa
        have KXR := Lib.hid xr
        have a4' := xa.k4
        have x4 := xx.k4
        clear ho hos hb xx xa xr HXX HXA HXR HO
        by_cases hlt : k < T.nE
        · obtain ⟨ao', c', e, hcc', H⟩ := HB4.out
          simp only [Value.slice.injEq, true_and] at e
          obtain ⟨rfl, rfl⟩ := e
          obtain ⟨b, o, rfl, h0, h1⟩ := H k hlt
          have hbs := block_lt_of_cell h0
          replace h0 := (KBW.out.cell (block_lt_of_cell h0)).trans h0
          replace h1 := (KBW.out.cell (block_lt_of_cell h1)).trans h1
          have HLT := Lib.hid hbs
          clear H hbs
          go_wp2_with fail
          refine Plan.wp_region_planz (fun w' => w'.cell? ⟨blx, 4, none⟩ = some (.slice va vm vc) ∧ w'.cell? ⟨bla, 4, none⟩ = some (.slice (some ⟨b, o, none⟩) T.nE d4) ∧ w'.cell? ⟨b, o + k * 2, none⟩ = some (.int .i64 (T.E k).dur) ∧ w'.cell? ⟨b, o + k * 2 + 1, none⟩ = some (.int .i64 (T.E k).time)) 18 (([0, 1, 2, 3, 4, 5, 6, 7, 8, 9, 10, 11, 12, 13, 14].map (·, true)) ++ (([15, 16].map (·, false)) ++ (([17].map (·, true)) ++ (([18].map (·, false)))))) (by kernel_rfl) (by kernel_rfl) (by kernel_rfl) ⟨x4, a4', h0, h1⟩ ?_
          refine' Plan.plan_seg _ [0, 1, 2, 3, 4, 5, 6, 7, 8, 9, 10, 11, 12, 13, 14] (([15, 16].map (·, false)) ++ (([17].map (·, true)) ++ (([18].map (·, false))))) (by kernel_rfl) (by kernel_rfl) rfl (by exact ⟨x4, a4', h0, h1⟩) (fun wx hS => ?_) ?_
          rotate_left
          · obtain ⟨y0, y1, y2, y3⟩ := hS
            go_light
            iterate 15 (apply Plan.seg_pick; rfl; intro K hK; go_wp)
            exact Plan.seg_nil
          have hdr : Below wr.heap.size wr (wr.alloc (.cells #[.int .i64 (T.E k).dur, .int .i64 (T.E k).time] 76)).drew := (below_box _ _).drew
          refine Plan.plan_of_effect rfl (fun K hK => ?_)
          go_wp2_with fail
          obtain ⟨wz, hwz⟩ : ∃ x, x = (wr.alloc (.cells #[.int .i64 (T.E k).dur, .int .i64 (T.E k).time] 76)).drew := ⟨_, rfl⟩
          rw [← hwz] at hdr ⊢
          have z0 : wz.cell? ⟨wr.heap.size, 0, none⟩ = some (.int .i64 (T.E k).dur) := by rw [hwz]; simp [go_sem]
          have z1 : wz.cell? ⟨wr.heap.size, 1, none⟩ = some (.int .i64 (T.E k).time) := by rw [hwz]; simp [go_sem]
          have hs3 : w2.heap.size ≤ wz.heap.size := by have := hdr.size; omega
          have HD := Lib.hid hdr
          clear hwz hdr
          refine ⟨⟨(HD.out.cell (block_lt_of_cell x4)).trans x4, (HD.out.cell (block_lt_of_cell a4')).trans a4', (HD.out.cell (block_lt_of_cell h0)).trans h0, (HD.out.cell (block_lt_of_cell h1)).trans h1⟩, ?_⟩
          refine Plan.plan_of_effect rfl (fun K hK => ?_)
          refine wpList_app wz rfl (.tmp 48) (.tmp 62) 41 76 2 16 _ Try.underlying41 info76 rfl (by decide) (by decide) rfl w2.heap.size k wr.heap.size (.slice va vm vc) _ [.int .i64 (T.E k).dur, .int .i64 (T.E k).time] (by simp [go_sem]) (owns_below KO.out HD.out) (by simp [go_sem]) rfl (cells2 z0 z1) (by simp [Value.oneCell']) (by omega) hs3 ?_
          intro v' w6 hv' hb6
          have hv6 : Below w2.heap.size wr w6 := (HD.out.mono hs2).trans hb6
          obtain ⟨va', vm', vc', rfl⟩ := owns_shape hv'
          have hB2 : B ≤ w2.heap.size := hsz
          have xx6 := KXX.out.far hv6 (by omega)
          have xa6 := KXA.out.far hv6 (by omega)
          have xr6 := KXR.out.far hv6 (by omega)
          have hb6' := KBW.out.trans (hv6.mono (by omega))
          have hos6 := owns_stay KS.out hv6 SG.out
          have HV6 := Lib.hid (And.intro hv' (And.intro xx6 (And.intro xa6 (And.intro xr6 (And.intro hb6' (And.intro hos6 (show w2.heap.size ≤ w6.heap.size by have := hv6.size; omega)))))))
          have g4 := xx6.k4
          have ga := xa6.k4
          have e0 := (hv6.cell (p := ⟨b, o + k * 2, none⟩) (by have := HLT.out; have := SZ.out; simp; omega)).trans h0
          have e1 := (hv6.cell (p := ⟨b, o + k * 2 + 1, none⟩) (by have := HLT.out; have := SZ.out; simp; omega)).trans h1
          have fz6 := xx6.fz
          clear hv' hb6 hv6 xx6 xa6 xr6 hb6' hos6 x4 a4' h0 h1 z0 z1
          go_wp2_with fail
          refine ⟨⟨g4, ga, e0, e1⟩, ?_⟩
          refine' Plan.plan_seg _ [17] (([18].map (·, false))) (by kernel_rfl) (by kernel_rfl) rfl (by exact ⟨g4, ga, e0, e1⟩) (fun wx hS => ?_) ?_
          rotate_left
          · obtain ⟨y0, y1, y2, y3⟩ := hS
            go_light
            iterate 1 (apply Plan.seg_pick; rfl; intro K hK; go_wp)
            exact Plan.seg_nil
          refine Plan.plan_of_last rfl (fun K hK => ?_)
          go_wp2_with fail
          refine Plan.plan_done ?_
          go_wp2_with fail
          go_roundw
          case rel =>
            refine ⟨k + 1, .slice va' vm' vc', by omega, by go_num, HV6.out.2.1.set4 _, HV6.out.2.2.1.other (by omega), HV6.out.2.2.2.1.other (by omega), ?_, owns_far HV6.out.2.2.2.2.2.1 (by simpa using n3) _, HV6.out.2.2.2.2.1.setCell (by simp; omega) _, by rw [World.size_setCell]; exact HV6.out.2.2.2.2.2.2⟩
            exact owns_far HV6.out.1 (by simp; omega) _
          case measure => simp [intOf]; omega
        · obtain rfl : k = T.nE := by omega
          obtain ⟨x0, x1, x2, x3, x4', xz⟩ := KXX.out
          obtain ⟨r0, r1, r2, r3, r4, rz⟩ := KXR.out
          go_wp2_with fail
          refine bodyPost_ret (results_cell rfl _ _ _ rfl (load43 (KXR.out.put5 _ _ _ _ _))) rfl ?_
          have hf := below_put5 KBW.out (show w.heap.size ≤ blr by omega) (.string T.h) (.int .i64 T.sc) (.slice a2 T.nC d2)
          refine ⟨_, rfl, ⟨_, _, _, _, _, rfl, ⟨rfl, rfl, HB2.out.below (hf _ _), SA.of_row (owns_put5 KS.out (by omega) _ _ _ _ _) (fun i hi => ?_), EA.of_row (owns_put5 KO.out (by omega) _ _ _ _ _)⟩⟩, hf _ _⟩
          obtain ⟨_, _, _, _, _, _, _, _, hx⟩ := HX.out i hi
          exact hx.below (hf _ _)

end Go.Proofs.Ytkhjkemllgjfmaa
