/- Operations that come up in any order: their operands, and single operations over a frame that is not looked into. -/
import Derived.Test.YtkhjkemllgjfmaaPlanC
import Derived.Great.BuildSlice
namespace Go.Plan
open Go

theorem puts_size (vs : Nat → Value) : ∀ (TS : List (Nat × Tmp)) (a : Act), (puts vs TS a).tmps.size = a.tmps.size
  | [], _ => rfl
  | p :: r, a => by
    rw [puts, puts_size vs r]
    simp [Act.put]
theorem puts_defers (vs : Nat → Value) : ∀ (TS : List (Nat × Tmp)) (a : Act), (puts vs TS a).defers = a.defers
  | [], _ => rfl
  | p :: r, a => by
    rw [puts, puts_defers vs r]
    rfl
theorem puts_out (vs : Nat → Value) {s : Tmp} : ∀ (TS : List (Nat × Tmp)) (a : Act), (∀ p ∈ TS, p.2 ≠ s) → (puts vs TS a).tmps[s]? = a.tmps[s]?
  | [], _, _ => rfl
  | p :: r, a, h => by
    rw [puts, puts_out vs r _ (fun q hq => h q (List.mem_cons_of_mem _ hq))]
    simp only [Act.put, Array.getElem?_setIfInBounds]
    rw [if_neg (h p List.mem_cons_self)]
theorem puts_in (vs : Nat → Value) {i : Nat} {s : Tmp} : ∀ (TS : List (Nat × Tmp)) (a : Act), (i, s) ∈ TS → (∀ p ∈ TS, p.2 = s → p.1 = i) → s < a.tmps.size → (puts vs TS a).tmps[s]? = some (vs i)
  | [], _, h, _, _ => by cases h
  | p :: r, a, h, hu, hs => by
    rw [puts]
    by_cases hr : (i, s) ∈ r
    · exact puts_in vs r _ hr (fun q hq => hu q (List.mem_cons_of_mem _ hq)) (by simpa [Act.put] using hs)
    · have hp : (i, s) = p := by
        rcases List.mem_cons.1 h with e | e
        · exact e
        · exact absurd e hr
      subst hp
      rw [puts_out vs r _ (fun q hq e => hr (by
        have := hu q (List.mem_cons_of_mem _ hq) e
        obtain ⟨q1, q2⟩ := q
        simp only at this e
        subst this e
        exact hq))]
      simp only [Act.put, Array.getElem?_setIfInBounds]
      simp [hs]
theorem eval_in {vs : Nat → Value} {i : Nat} {s : Tmp} {TS : List (Nat × Tmp)} {a : Act} (h : (i, s) ∈ TS) (hu : ∀ p ∈ TS, p.2 = s → p.1 = i) (hs : s < a.tmps.size) : (puts vs TS a).eval (.tmp s) = vs i := by
  simp only [Act.eval, Array.getD_eq_getD_getElem?, puts_in vs TS a h hu hs, Option.getD_some]
theorem eval_out {vs : Nat → Value} {s : Tmp} {TS : List (Nat × Tmp)} {a : Act} (h : ∀ p ∈ TS, p.2 ≠ s) : (puts vs TS a).eval (.tmp s) = a.eval (.tmp s) := by
  simp only [Act.eval, Array.getD_eq_getD_getElem?, puts_out vs TS a h]

section
variable {P : Program} {ops : Array Oper} {o : Oper} {A : Act} {w : World} {K : Act → World → Prop} {Q : Exit → Act → World → Prop}
theorem one_call (hg : o.guard = none) (f : FuncId) {fn : Func} (hf : P.funcs[f]? = some fn) (hfn : (fn.name == "runtime.NumGoroutine") = false) (hfb : fn.body.isNone = false) (args : Array Operand) (T : Array TypeId) (hop : o.op = .call { callee := .value (.func f), args := args, argTypes := T }) (vs : Array Value) (hx : args.map A.eval = vs)
    (R : Value → World → Prop) (hc : Calls P f vs w fun e w' => ∃ r, e = .returned r ∧ R r w') (h : ∀ r w', R r w' → K (A.put o.dst r) w') : wpList P ops (Exit.then K Q) [o] A w := by
  refine wpList_plain hg fun K' hK' => ?_
  have hrun : (execOp A.eval o).run P w = .ok (.enter f vs) w := by
    have hcf : (callFunc f vs).run P w = .ok (.enter f vs) w := by
      unfold callFunc
      rw [Sem.run_bind]
      show Sem.run P _ w = _
      rw [hf]
      simp only [hfn, hfb]
      rfl
    simp [execOp, hop, resolve, invoke, Act.eval, Deferred.ofValue, hx, hcf]
  unfold Oper.wp
  rw [hrun, Oper.upon_enter]
  refine hc.mono fun e w'' hh => ?_
  obtain ⟨r, rfl, hR⟩ := hh
  exact hK' _ _ (wpList_nil (h r w'' hR))
end
end Go.Plan

namespace Go.Plan
/-- The frame need not be looked into. -/
theorem ownAt_gen {P : Program} {ops : Array Oper} {Q : Exit → Act → World → Prop} {S : World → Prop} {z : Nat} {G : Nat → (Nat → Prop) → Value → World → Prop} {pred : Nat → List Nat} {TS : List (Nat × Tmp)} {plan2 : List (Nat × Bool)} {n : Nat} {a1 : Act} {w1 : World}
    (F : Act → Prop) (hF : F a1) (h : ∀ A, F A → OwnAt P ops Q S z G pred TS plan2 n A w1) : OwnAt P ops Q S z G pred TS plan2 n a1 w1 := h a1 hF
end Go.Plan
