/- Texts of this claim joined: ZD PlanD. -/
import Derived.Test.YtkhjkemllgjfmaaPu00
import Derived.Test.YtkhjkemllgjfmaaPu07
set_option linter.unusedVariables false
set_option linter.unusedSimpArgs false

/- The bytes of Put as the reference joins them. -/
namespace Go.Proofs.Ytkhjkemllgjfmaa
open Go.RowKit
set_option linter.unusedVariables false
set_option linter.unusedSimpArgs false

def frontL (F : Fl) (first : Int) : List Int := [boxL nFtyp [strB ⟨#[99, 114, 118, 109]⟩, numsL [0], strB ⟨#[105, 115, 111, 109]⟩].flatten, rmoovL F first].flatten
def rputL (F : Fl) : List Int := [frontL F (((frontL F 0).length : Int) + 8), boxL nMdat [dataL F.T F.nT].flatten].flatten
theorem front_ref (F : Fl) (first : Int) : ftypB ++ bytesT (moovT F first) = frontL F first := by
  unfold frontL ftypB
  rw [moov_ref]
  simp only [bytesT]
  rw [boxP_four _ _ rfl]
  unfold ftypL
  simp
theorem put_ref (F : Fl) : putL F = rputL F := by
  unfold putL rputL firstOf
  rw [front_ref, front_ref, flat1, boxP_four _ _ rfl]
  simp
end Go.Proofs.Ytkhjkemllgjfmaa

/- Regions in which two operations with an effect may come up in either order: a plan that forks. -/
namespace Go.Plan
open Go

/-- A plan that may fork. -/
inductive PT where
  | leaf
  | run (l : List (Nat × Bool)) (r : PT)
  | fork (i : Nat) (r : PT) (j : Nat) (s : PT)
  | dyn (r : PT)

def PT.cnt : PT → Nat
  | leaf => 0
  | run l r => r.cnt + l.length
  | fork _ r _ _ => r.cnt + 1
  | dyn r => r.cnt

def treeGo (ops : Array Oper) (z : Nat) : Array Bool → PT → Bool
  | listed, .leaf => (Region.ready .any ops listed).isEmpty
  | listed, .run l r => match planGo ops z listed l with
    | some l' => treeGo ops z l' r && decide (l'.size = ops.size)
    | none => false
  | listed, .fork i r j s => Region.ready .any ops listed == [i, j] && decide (r.cnt = s.cnt) && decide (listed.size = ops.size) && treeGo ops z (listed.setIfInBounds i true) r && treeGo ops z (listed.setIfInBounds j true) s
  | listed, .dyn r => treeGo ops z listed r

section
variable {P : Program} {ops : Array Oper} {Q : Exit → Act → World → Prop} {S : World → Prop} {z : Nat}

def wpTree (P : Program) (ops : Array Oper) (Q : Exit → Act → World → Prop) : PT → (World → Prop) → Act → World → Prop
  | .leaf, _, a, w => Q .normal a w
  | .run l r, S, a, w => wpPlan P ops Q S ops.size (wpTree P ops Q r S) l a w
  | .fork i r j s, S, a, w => wpOp P ops Q i (fun a' w' => S w' ∧ wpTree P ops Q r S a' w') a w ∧ wpOp P ops Q j (fun a' w' => S w' ∧ wpTree P ops Q s S a' w') a w
  | .dyn r, S, a, w => ∃ S2 : World → Prop, (∀ w, S2 w → S w) ∧ S2 w ∧ wpTree P ops Q r S2 a w

theorem anyS_weak {S S2 : World → Prop} (h : ∀ w, S2 w → S w) : ∀ (fuel : Nat) (listed : Array Bool) (a : Act) (w : World), anyS P ops Q S2 z fuel listed a w → anyS P ops Q S z fuel listed a w
  | 0, _, _, _, h' => h'
  | fuel + 1, _, _, _, h' => ⟨h'.1, fun i hi => wpOp_mono (fun a' w' hx => ⟨fun hz => h _ (hx.1 hz), anyS_weak h fuel _ a' w' hx.2⟩) (h'.2 i hi)⟩

theorem held_of_tree (hs : Region.noSelect ops = true) (hQ : ∀ c a d v w, Q (.panic c) (a.put d v) w → Q (.panic c) a w) :
    ∀ (t : PT) (S : World → Prop) (listed : Array Bool) (a : Act) (w : World), treeGo ops ops.size listed t = true → listed.size = ops.size → S w → wpTree P ops Q t S a w → anyS P ops Q S ops.size t.cnt listed a w
  | .leaf, S, listed, a, w, hg, _, hS, h => anyS_done (by simpa [treeGo] using hg) h 0
  | .run l r, S, listed, a, w, hg, hl, hS, h => by
    simp only [treeGo] at hg
    split at hg
    · rename_i l' hl'
      simp only [Bool.and_eq_true, decide_eq_true_eq] at hg
      refine held_of_plan hs (lastOK_none ops) hQ l' r.cnt (fun a w hSw hC => held_of_tree hs hQ r S l' a w hg.1 hg.2 (hSw ?_) hC) l listed a w hl' hl (fun _ => hS) h
      have e : l'.getD ops.size false = false := by
        rw [Array.getD_eq_getD_getElem?, Array.getElem?_eq_none (by omega)]
        rfl
      rw [e]; simp
    · cases hg
  | .fork i r j s, S, listed, a, w, hg, hl, hS, h => by
    simp only [treeGo, Bool.and_eq_true, beq_iff_eq, decide_eq_true_eq] at hg
    obtain ⟨⟨⟨⟨hr, hc⟩, _⟩, h1⟩, h2⟩ := hg
    refine ⟨fun h0 => by rw [hr] at h0; simp at h0, fun k hk => ?_⟩
    rw [hr] at hk
    simp only [List.mem_cons, List.not_mem_nil, or_false] at hk
    rcases hk with rfl | rfl
    · exact wpOp_mono (fun a' w' h' => ⟨fun _ => h'.1, held_of_tree hs hQ r S _ a' w' h1 (by simp [hl]) h'.1 h'.2⟩) h.1
    · refine wpOp_mono (fun a' w' h' => ⟨fun _ => h'.1, ?_⟩) h.2
      rw [show r.cnt = s.cnt from hc]
      exact held_of_tree hs hQ s S _ a' w' h2 (by simp [hl]) h'.1 h'.2
  | .dyn r, S, listed, a, w, hg, hl, hS, h => by
    obtain ⟨S2, h1, h2, h3⟩ := h
    exact anyS_weak h1 _ _ _ _ (held_of_tree hs hQ r S2 listed a w hg hl h2 h3)

theorem wp_region_tree {id : Nat} {l : List Oper} {a : Act} {w : World} (S : World → Prop) (t : PT) (hm : P.follows .mixedOrders = true)
    (hs : Region.noSelect l.toArray = true) (hp : (treeGo l.toArray l.toArray.size (Array.replicate l.toArray.size false) t && decide (t.cnt = l.toArray.size)) = true)
    (hS : S w.drew) (h : wpTree P l.toArray (NoPanic Q) t S a w.drew) : (Code.region id l.toArray true).wp P Q a w := by
  simp only [Bool.and_eq_true, decide_eq_true_eq] at hp
  refine wp_region_noPanic (wp_region_any hm (any_of_anyS (S := S) (z := l.toArray.size) _ _ _ _ ?_))
  have := held_of_tree (P := P) (Q := NoPanic Q) hs (fun c a d v w h => h.elim) t S _ a w.drew hp.1 (by simp) hS h
  rw [hp.2] at this
  exact this

/-- An operation of a fork, walked as ever. -/
theorem op_of_list {i : Nat} {o : Oper} {T : Act → World → Prop} {a : Act} {w : World} (ho : ops[i]? = some o)
    (h : ∀ K : Act → World → Prop, (∀ a' w', S w' ∧ T a' w' → K a' w') → wpList P ops (Exit.then K Q) [o] a w) : wpOp P ops Q i (fun a' w' => S w' ∧ T a' w') a w := by
  have := plan_of_effect (P := P) (Q := Q) (S := fun _ => True) (z := ops.size) (C := fun a' w' => S w' ∧ T a' w') (rest := []) (i := i) ho
    (fun K hK => h K fun a' w' h' => hK a' w' ⟨trivial, h'⟩)
  exact wpOp_mono (fun a' w' h' => h'.2) this
theorem tree_leaf {a : Act} {w : World} (h : Q .normal a w) : wpTree P ops (NoPanic Q) .leaf S a w := h
theorem tree_run {l : List (Nat × Bool)} {r : PT} {a : Act} {w : World} (h : wpPlan P ops Q S ops.size (wpTree P ops Q r S) l a w) : wpTree P ops Q (.run l r) S a w := h
theorem tree_dyn {r : PT} {a : Act} {w : World} (S2 : World → Prop) (h1 : ∀ w, S2 w → S w) (h2 : S2 w) (h : wpTree P ops Q r S2 a w) : wpTree P ops Q (.dyn r) S a w := ⟨S2, h1, h2, h⟩
theorem tree_fork {i j : Nat} {r s : PT} {a : Act} {w : World} (h1 : wpOp P ops Q i (fun a' w' => S w' ∧ wpTree P ops Q r S a' w') a w) (h2 : wpOp P ops Q j (fun a' w' => S w' ∧ wpTree P ops Q s S a' w') a w) : wpTree P ops Q (.fork i r j s) S a w := ⟨h1, h2⟩
end
end Go.Plan
