/- Texts of this claim joined: PlanD TL TM. -/
import Derived.Test.YtfoohocgdcgbcaaGreatHb00
set_option linter.unusedVariables false
set_option linter.unusedSimpArgs false
namespace Go.Plan
open Go
inductive PT where
 | leaf
 | run (l : List (Nat × Bool)) (r : PT)
 | fork (i : Nat) (r : PT) (j : Nat) (s : PT)
 | dyn (r : PT)
def PT.cnt : PT → Nat
 | leaf => 0
 | run l r => r.cnt + l.length
 | fork _ r _ _ => r.cnt + 1
 | dyn r => r.cnt
def treeGo (ops : Array Oper) (z : Nat) : Array Bool → PT → Bool
 | listed, .leaf => (Region.ready .any ops listed).isEmpty
 | listed, .run l r => match planGo ops z listed l with
  | some l' => treeGo ops z l' r && decide (l'.size = ops.size)
  | none => false
 | listed, .fork i r j s => Region.ready .any ops listed == [i, j] && decide (r.cnt = s.cnt) && decide (listed.size = ops.size) && treeGo ops z (listed.setIfInBounds i true) r && treeGo ops z (listed.setIfInBounds j true) s
 | listed, .dyn r => treeGo ops z listed r
section
variable {P : Program} {ops : Array Oper} {Q : Exit → Act → World → Prop} {S : World → Prop} {z : Nat}
def wpTree (P : Program) (ops : Array Oper) (Q : Exit → Act → World → Prop) : PT → (World → Prop) → Act → World → Prop
 | .leaf, _, a, w => Q .normal a w
 | .run l r, S, a, w => wpPlan P ops Q S ops.size (wpTree P ops Q r S) l a w
 | .fork i r j s, S, a, w => wpOp P ops Q i (fun a' w' => S w' ∧ wpTree P ops Q r S a' w') a w ∧ wpOp P ops Q j (fun a' w' => S w' ∧ wpTree P ops Q s S a' w') a w
 | .dyn r, S, a, w => ∃ S2 : World → Prop, (∀ w, S2 w → S w) ∧ S2 w ∧ wpTree P ops Q r S2 a w
theorem anyS_weak {S S2 : World → Prop} (h : ∀ w, S2 w → S w) : ∀ (fuel : Nat) (listed : Array Bool) (a : Act) (w : World), anyS P ops Q S2 z fuel listed a w → anyS P ops Q S z fuel listed a w
 | 0, _, _, _, h' => h'
 | fuel + 1, _, _, _, h' => ⟨h'.1, fun i hi => wpOp_mono (fun a' w' hx => ⟨fun hz => h _ (hx.1 hz), anyS_weak h fuel _ a' w' hx.2⟩) (h'.2 i hi)⟩
theorem held_of_tree (hs : Region.noSelect ops = true) (hQ : ∀ c a d v w, Q (.panic c) (a.put d v) w → Q (.panic c) a w) :
  ∀ (t : PT) (S : World → Prop) (listed : Array Bool) (a : Act) (w : World), treeGo ops ops.size listed t = true → listed.size = ops.size → S w → wpTree P ops Q t S a w → anyS P ops Q S ops.size t.cnt listed a w
 | .leaf, S, listed, a, w, hg, _, hS, h => anyS_done (by simpa [treeGo] using hg) h 0
 | .run l r, S, listed, a, w, hg, hl, hS, h => by
  simp only [treeGo] at hg
  split at hg
  ·rename_i l' hl'
   simp only [Bool.and_eq_true, decide_eq_true_eq] at hg
   refine held_of_plan hs (lastOK_none ops) hQ l' r.cnt (fun a w hSw hC => held_of_tree hs hQ r S l' a w hg.1 hg.2 (hSw ?_) hC) l listed a w hl' hl (fun _ => hS) h
   have e : l'.getD ops.size false = false := by
    rw [Array.getD_eq_getD_getElem?, Array.getElem?_eq_none (by omega)]
    rfl
   rw [e]; simp
  ·cases hg
 | .fork i r j s, S, listed, a, w, hg, hl, hS, h => by
  simp only [treeGo, Bool.and_eq_true, beq_iff_eq, decide_eq_true_eq] at hg
  obtain ⟨⟨⟨⟨hr, hc⟩, _⟩, h1⟩, h2⟩ := hg
  refine ⟨fun h0 => by rw [hr] at h0; simp at h0, fun k hk => ?_⟩
  rw [hr] at hk
  simp only [List.mem_cons, List.not_mem_nil, or_false] at hk
  rcases hk with rfl | rfl
  ·exact wpOp_mono (fun a' w' h' => ⟨fun _ => h'.1, held_of_tree hs hQ r S _ a' w' h1 (by simp [hl]) h'.1 h'.2⟩) h.1
  ·refine wpOp_mono (fun a' w' h' => ⟨fun _ => h'.1, ?_⟩) h.2
   rw [show r.cnt = s.cnt from hc]
   exact held_of_tree hs hQ s S _ a' w' h2 (by simp [hl]) h'.1 h'.2
 | .dyn r, S, listed, a, w, hg, hl, hS, h => by
  obtain ⟨S2, h1, h2, h3⟩ := h
  exact anyS_weak h1 _ _ _ _ (held_of_tree hs hQ r S2 listed a w hg hl h2 h3)
theorem wp_region_tree {id : Nat} {l : List Oper} {a : Act} {w : World} (S : World → Prop) (t : PT) (hm : P.follows .mixedOrders = true)
  (hs : Region.noSelect l.toArray = true) (hp : (treeGo l.toArray l.toArray.size (Array.replicate l.toArray.size false) t && decide (t.cnt = l.toArray.size)) = true)
  (hS : S w.drew) (h : wpTree P l.toArray (NoPanic Q) t S a w.drew) : (Code.region id l.toArray true).wp P Q a w := by
 simp only [Bool.and_eq_true, decide_eq_true_eq] at hp
 refine wp_region_noPanic (wp_region_any hm (any_of_anyS (S := S) (z := l.toArray.size) _ _ _ _ ?_))
 have := held_of_tree (P := P) (Q := NoPanic Q) hs (fun c a d v w h => h.elim) t S _ a w.drew hp.1 (by simp) hS h
 rw [hp.2] at this
 exact this
theorem op_of_list {i : Nat} {o : Oper} {T : Act → World → Prop} {a : Act} {w : World} (ho : ops[i]? = some o)
  (h : ∀ K : Act → World → Prop, (∀ a' w', S w' ∧ T a' w' → K a' w') → wpList P ops (Exit.then K Q) [o] a w) : wpOp P ops Q i (fun a' w' => S w' ∧ T a' w') a w := by
 have := plan_of_effect (P := P) (Q := Q) (S := fun _ => True) (z := ops.size) (C := fun a' w' => S w' ∧ T a' w') (rest := []) (i := i) ho
  (fun K hK => h K fun a' w' h' => hK a' w' ⟨trivial, h'⟩)
 exact wpOp_mono (fun a' w' h' => h'.2) this
theorem tree_leaf {a : Act} {w : World} (h : Q .normal a w) : wpTree P ops (NoPanic Q) .leaf S a w := h
theorem tree_run {l : List (Nat × Bool)} {r : PT} {a : Act} {w : World} (h : wpPlan P ops Q S ops.size (wpTree P ops Q r S) l a w) : wpTree P ops Q (.run l r) S a w := h
theorem tree_dyn {r : PT} {a : Act} {w : World} (S2 : World → Prop) (h1 : ∀ w, S2 w → S w) (h2 : S2 w) (h : wpTree P ops Q r S2 a w) : wpTree P ops Q (.dyn r) S a w := ⟨S2, h1, h2, h⟩
theorem tree_fork {i j : Nat} {r s : PT} {a : Act} {w : World} (h1 : wpOp P ops Q i (fun a' w' => S w' ∧ wpTree P ops Q r S a' w') a w) (h2 : wpOp P ops Q j (fun a' w' => S w' ∧ wpTree P ops Q s S a' w') a w) : wpTree P ops Q (.fork i r j s) S a w := ⟨h1, h2⟩
end
end Go.Plan
namespace Go.Trk
theorem fr_at : ∀ {l : List Clip} {i : Nat} {c : Clip} {x : Int}, GoodL l → l[i]? = some c → 0 ≤ x → x < c.len → fr l (total (l.take i) + x) = one c x
 | [], i, c, x, g, h, _, _ => by simp at h
 | d :: l, 0, c, x, g, h, h0, h1 => by
  simp only [List.getElem?_cons_zero, Option.some.injEq] at h
  subst h
  show fr (d :: l) (0 + x) = _
  rw [Int.zero_add, fr_lt h1]
 | d :: l, i + 1, c, x, g, h, h0, h1 => by
  simp only [List.getElem?_cons_succ] at h
  have hd := g.head.l
  have ht : 0 ≤ total (l.take i) := total_nonneg fun y hy => g.tail y (List.mem_of_mem_take hy)
  show fr (d :: l) (d.len + total (l.take i) + x) = _
  rw [fr_ge (by omega), show d.len + total (l.take i) + x - d.len = total (l.take i) + x by omega]
  exact fr_at g.tail h h0 h1
theorem one_step {c d : Clip} {a b : Int} (hc : GoodC c) (hd : GoodC d) (h : one c a = one d b) (t : Int) : one c (a + t) = one d (b + t) := by
 have e1 : one (one c a) t = one c (a + t) := by
  show one (withLen (shift c a) 1) t = _
  rw [one_withLen, one_shift hc.a hc.b]
 have e2 : one (one d b) t = one d (b + t) := by
  show one (withLen (shift d b) 1) t = _
  rw [one_withLen, one_shift hd.a hd.b]
 rw [← e1, ← e2, h]
theorem total_take {l : List Clip} {i : Nat} {c : Clip} (h : l[i]? = some c) : total (l.take (i + 1)) = total (l.take i) + c.len := by
 have e : l.take (i + 1) = l.take i ++ [c] := by rw [List.take_add_one, h]; rfl
 rw [e, total_append]
 show _ + (c.len + 0) = _
 omega
theorem total_drop {l : List Clip} {i : Nat} {c : Clip} (h : l[i]? = some c) : total (l.drop i) = c.len + total (l.drop (i + 1)) := by
 have hlt := (List.getElem?_eq_some_iff.1 h).1
 rw [List.drop_eq_getElem_cons hlt, (List.getElem?_eq_some_iff.1 h).2]
 rfl
theorem take_drop_total (l : List Clip) (i : Nat) : total (l.take i) + total (l.drop i) = total l := by
 rw [← total_append, List.take_append_drop]
theorem GoodL.take {l : List Clip} (g : GoodL l) (i : Nat) : GoodL (l.take i) := fun y hy => g y (List.mem_of_mem_take hy)
theorem GoodL.drop {l : List Clip} (g : GoodL l) (i : Nat) : GoodL (l.drop i) := fun y hy => g y (List.mem_of_mem_drop hy)
theorem total_take_le {l : List Clip} (g : GoodL l) (i : Nat) : total (l.take i) ≤ total l := by
 have h1 := take_drop_total l i
 have h2 := total_nonneg (g.drop i)
 omega
theorem fr_end {l : List Clip} {i : Nat} {c : Clip} {y : Int} (g : GoodL l) (h : l[i]? = some c) (h0 : 0 ≤ y) (h1 : y < c.len) : fr l (total l - 1 - (total (l.drop (i + 1)) + y)) = one c (c.len - 1 - y) := by
 have e1 := take_drop_total l i
 have e2 := total_drop h
 rw [show total l - 1 - (total (l.drop (i + 1)) + y) = total (l.take i) + (c.len - 1 - y) by omega]
 exact fr_at g h (by omega) (by omega)
structure Pre (n m : List Clip) (p : Int) : Prop where
 h0 : 0 ≤ p
 h1 : p ≤ total n
 h2 : p ≤ total m
 f : ∀ i, 0 ≤ i → i < p → fr n i = fr m i
 x : p < total n → p < total m → fr n p ≠ fr m p
structure Suf (n m : List Clip) (lim s : Int) : Prop where
 h0 : 0 ≤ s
 h1 : s ≤ lim
 f : ∀ i, 0 ≤ i → i < s → fr n (total n - 1 - i) = fr m (total m - 1 - i)
 x : s < lim → fr n (total n - 1 - s) ≠ fr m (total m - 1 - s)
structure At (n : List Clip) (i : Nat) (b p : Int) : Prop where
 e : p = total (n.take i) + b
 b0 : 0 ≤ b
 il : i ≤ n.length
 b1 : ∀ c, n[i]? = some c → b < c.len
 z : i = n.length → b = 0
theorem At.zero {n : List Clip} (g : GoodL n) : At n 0 0 0 :=
 ⟨rfl, Int.le_refl 0, Nat.zero_le _, fun c hc => by have := (g c (List.mem_of_getElem? hc)).l; omega, fun _ => rfl⟩
theorem At.le {n : List Clip} {i : Nat} {b p : Int} (g : GoodL n) (h : At n i b p) : 0 ≤ p ∧ p ≤ total n := by
 have h0 := total_nonneg (g.take i)
 have h1 := h.e
 have h2 := h.b0
 refine ⟨by omega, ?_⟩
 rcases Nat.lt_or_ge i n.length with hi | hi
 ·obtain ⟨c, hc⟩ : ∃ c, n[i]? = some c := ⟨_, List.getElem?_eq_getElem hi⟩
  have := h.b1 c hc
  have h3 := total_take hc
  have h4 := total_take_le g (i + 1)
  omega
 ·have := h.z (by have := h.il; omega)
  have h4 := total_take_le g i
  omega
theorem At.end_ {n : List Clip} {b p : Int} (h : At n n.length b p) : p = total n := by
 have h1 := h.e
 have h2 := h.z rfl
 rw [List.take_length] at h1
 omega
theorem At.fr {n : List Clip} {i : Nat} {b p : Int} (g : GoodL n) (h : At n i b p) {c : Clip} (hc : n[i]? = some c) : fr n p = one c b := by
 rw [h.e]; exact fr_at g hc h.b0 (h.b1 c hc)
theorem At.next {n : List Clip} {i : Nat} {b p : Int} (g : GoodL n) (h : At n i b p) {c : Clip} (hc : n[i]? = some c) : At n (i + 1) 0 (p + (c.len - b)) := by
 refine ⟨by rw [total_take hc, h.e]; omega, Int.le_refl 0, (List.getElem?_eq_some_iff.1 hc).1, fun d hd => ?_, fun _ => rfl⟩
 have := (g d (List.mem_of_getElem? hd)).l
 omega
theorem At.on {n : List Clip} {i : Nat} {b p t : Int} (h : At n i b p) {c : Clip} (hc : n[i]? = some c) (h0 : 0 ≤ t) (h1 : b + t < c.len) : At n i (b + t) (p + t) := by
 refine ⟨by rw [h.e]; omega, by have := h.b0; omega, h.il, fun d hd => ?_, fun e => ?_⟩
 ·rw [hc] at hd; cases hd; exact h1
 ·have := (List.getElem?_eq_some_iff.1 hc).1; omega
structure PreAt (n m : List Clip) (i j : Nat) (b s p : Int) : Prop where
 a : At n i b p
 c : At m j s p
 f : ∀ k, 0 ≤ k → k < p → fr n k = fr m k
theorem PreAt.zero {n m : List Clip} (g : GoodL n) (k : GoodL m) : PreAt n m 0 0 0 0 0 := ⟨At.zero g, At.zero k, fun k h h2 => by omega⟩
theorem PreAt.more {n m : List Clip} {i j : Nat} {b s p : Int} (gn : GoodL n) (gm : GoodL m) (h : PreAt n m i j b s p) {c d : Clip} (hc : n[i]? = some c) (hd : m[j]? = some d) (e : one c b = one d s) {t : Int} (t1 : t ≤ c.len - b) (t2 : t ≤ d.len - s) :
  ∀ k, 0 ≤ k → k < p + t → fr n k = fr m k := by
 intro k k0 k1
 by_cases hk : k < p
 ·exact h.f k k0 hk
 ·have gc := gn c (List.mem_of_getElem? hc)
  have gd := gm d (List.mem_of_getElem? hd)
  have e1 := fr_at (x := b + (k - p)) gn hc (by have := h.a.b0; omega) (by omega)
  have e2 := fr_at (x := s + (k - p)) gm hd (by have := h.c.b0; omega) (by omega)
  rw [show total (n.take i) + (b + (k - p)) = k by have := h.a.e; omega] at e1
  rw [show total (m.take j) + (s + (k - p)) = k by have := h.c.e; omega] at e2
  rw [e1, e2, one_step gc gd e (k - p)]
theorem PreAt.step {n m : List Clip} {i j : Nat} {b s p : Int} (gn : GoodL n) (gm : GoodL m) (h : PreAt n m i j b s p) {c d : Clip} (hc : n[i]? = some c) (hd : m[j]? = some d) (e : one c b = one d s) {t : Int} (ht : t = min (c.len - b) (d.len - s)) :
  PreAt n m (if b + t = c.len then i + 1 else i) (if s + t = d.len then j + 1 else j) (if b + t = c.len then 0 else b + t) (if s + t = d.len then 0 else s + t) (p + t) := by
 have b1 := h.a.b1 c hc
 have s1 := h.c.b1 d hd
 refine ⟨?_, ?_, h.more gn gm hc hd e (by omega) (by omega)⟩
 ·split
  ·have := h.a.next gn hc
   rw [show c.len - b = t by omega] at this
   exact this
  ·exact h.a.on hc (by omega) (by omega)
 ·split
  ·have := h.c.next gm hd
   rw [show d.len - s = t by omega] at this
   exact this
  ·exact h.c.on hd (by omega) (by omega)
theorem PreAt.done {n m : List Clip} {i j : Nat} {b s p : Int} (gn : GoodL n) (gm : GoodL m) (h : PreAt n m i j b s p) (hx : i = n.length ∨ j = m.length ∨ ∃ c d, n[i]? = some c ∧ m[j]? = some d ∧ one c b ≠ one d s) : Pre n m p := by
 have h1 := h.a.le gn
 have h2 := h.c.le gm
 refine ⟨h1.1, h1.2, h2.2, h.f, fun k1 k2 => ?_⟩
 rcases hx with rfl | rfl | ⟨c, d, hc, hd, hne⟩
 ·have := h.a.end_; omega
 ·have := h.c.end_; omega
 ·rw [h.a.fr gn hc, h.c.fr gm hd]; exact hne
structure Af (n : List Clip) (i : Nat) (b p : Int) : Prop where
 e : p = total (n.drop i) + b
 b0 : 0 ≤ b
 il : i ≤ n.length
 b1 : ∀ k c, i = k + 1 → n[k]? = some c → b < c.len
 z : i = 0 → b = 0
theorem Af.zero {n : List Clip} (g : GoodL n) : Af n n.length 0 0 :=
 ⟨by rw [List.drop_length]; rfl, Int.le_refl 0, Nat.le_refl _, fun k c _ hc => by have := (g c (List.mem_of_getElem? hc)).l; omega, fun _ => rfl⟩
theorem Af.end_ {n : List Clip} {b p : Int} (h : Af n 0 b p) : p = total n := by
 have h1 := h.e
 have h2 := h.z rfl
 rw [List.drop_zero] at h1
 omega
theorem Af.nonneg {n : List Clip} {i : Nat} {b p : Int} (g : GoodL n) (h : Af n i b p) : 0 ≤ p := by
 have h0 := total_nonneg (g.drop i)
 have h1 := h.e
 have h2 := h.b0
 omega
theorem Af.fr {n : List Clip} {k : Nat} {b p : Int} (g : GoodL n) (h : Af n (k + 1) b p) {c : Clip} (hc : n[k]? = some c) : fr n (total n - 1 - p) = one c (c.len - 1 - b) := by
 rw [h.e]; exact fr_end g hc h.b0 (h.b1 k c rfl hc)
theorem Af.next {n : List Clip} {k : Nat} {b p : Int} (g : GoodL n) (h : Af n (k + 1) b p) {c : Clip} (hc : n[k]? = some c) : Af n k 0 (p + (c.len - b)) := by
 refine ⟨by rw [total_drop hc, h.e]; omega, Int.le_refl 0, by have := h.il; omega, fun i d _ hd => ?_, fun _ => rfl⟩
 have := (g d (List.mem_of_getElem? hd)).l
 omega
theorem Af.on {n : List Clip} {k : Nat} {b p t : Int} (h : Af n (k + 1) b p) {c : Clip} (hc : n[k]? = some c) (h0 : 0 ≤ t) (h1 : b + t < c.len) : Af n (k + 1) (b + t) (p + t) := by
 refine ⟨by rw [h.e]; omega, by have := h.b0; omega, h.il, fun i d e hd => ?_, fun e => by omega⟩
 have : i = k := by omega
 subst this
 rw [hc] at hd; cases hd; exact h1
structure SufAt (n m : List Clip) (i j : Nat) (b s p : Int) : Prop where
 a : Af n i b p
 c : Af m j s p
 f : ∀ k, 0 ≤ k → k < p → fr n (total n - 1 - k) = fr m (total m - 1 - k)
theorem SufAt.zero {n m : List Clip} (g : GoodL n) (k : GoodL m) : SufAt n m n.length m.length 0 0 0 := ⟨Af.zero g, Af.zero k, fun k h h2 => by omega⟩
theorem SufAt.more {n m : List Clip} {i j : Nat} {b s p : Int} (gn : GoodL n) (gm : GoodL m) (h : SufAt n m (i + 1) (j + 1) b s p) {c d : Clip} (hc : n[i]? = some c) (hd : m[j]? = some d) (e : one c (c.len - 1 - b) = one d (d.len - 1 - s)) {t : Int} (t1 : t ≤ c.len - b) (t2 : t ≤ d.len - s) :
  ∀ k, 0 ≤ k → k < p + t → fr n (total n - 1 - k) = fr m (total m - 1 - k) := by
 intro k k0 k1
 by_cases hk : k < p
 ·exact h.f k k0 hk
 ·have gc := gn c (List.mem_of_getElem? hc)
  have gd := gm d (List.mem_of_getElem? hd)
  have e1 := fr_end (y := b + (k - p)) gn hc (by have := h.a.b0; omega) (by omega)
  have e2 := fr_end (y := s + (k - p)) gm hd (by have := h.c.b0; omega) (by omega)
  rw [show total (n.drop (i + 1)) + (b + (k - p)) = k by have := h.a.e; omega] at e1
  rw [show total (m.drop (j + 1)) + (s + (k - p)) = k by have := h.c.e; omega] at e2
  have e3 := one_step gc gd e (p - k)
  rw [show c.len - 1 - b + (p - k) = c.len - 1 - (b + (k - p)) by omega, show d.len - 1 - s + (p - k) = d.len - 1 - (s + (k - p)) by omega] at e3
  rw [e1, e2, e3]
theorem SufAt.step {n m : List Clip} {i j : Nat} {b s p : Int} (gn : GoodL n) (gm : GoodL m) (h : SufAt n m (i + 1) (j + 1) b s p) {c d : Clip} (hc : n[i]? = some c) (hd : m[j]? = some d) (e : one c (c.len - 1 - b) = one d (d.len - 1 - s)) {t : Int} (ht : t = min (c.len - b) (d.len - s)) :
  SufAt n m (if b + t = c.len then i else i + 1) (if s + t = d.len then j else j + 1) (if b + t = c.len then 0 else b + t) (if s + t = d.len then 0 else s + t) (p + t) := by
 have b1 := h.a.b1 i c rfl hc
 have s1 := h.c.b1 j d rfl hd
 refine ⟨?_, ?_, h.more gn gm hc hd e (by omega) (by omega)⟩
 ·split
  ·have := h.a.next gn hc
   rw [show c.len - b = t by omega] at this
   exact this
  ·exact h.a.on hc (by omega) (by omega)
 ·split
  ·have := h.c.next gm hd
   rw [show d.len - s = t by omega] at this
   exact this
  ·exact h.c.on hd (by omega) (by omega)
theorem SufAt.done {n m : List Clip} {i j : Nat} {b s p lim : Int} (gn : GoodL n) (gm : GoodL m) (h : SufAt n m i j b s p) (l0 : 0 ≤ lim) (l1 : lim ≤ total n) (l2 : lim ≤ total m)
  (hx : lim ≤ p ∨ i = 0 ∨ j = 0 ∨ ∃ i' j' c d, i = i' + 1 ∧ j = j' + 1 ∧ n[i']? = some c ∧ m[j']? = some d ∧ one c (c.len - 1 - b) ≠ one d (d.len - 1 - s)) : Suf n m lim (min p lim) := by
 have h0 := h.a.nonneg gn
 refine ⟨by omega, by omega, fun k k0 k1 => h.f k k0 (by omega), fun hl => ?_⟩
 rcases hx with hx | rfl | rfl | ⟨i', j', c, d, rfl, rfl, hc, hd, hne⟩
 ·omega
 ·have := h.a.end_; omega
 ·have := h.c.end_; omega
 ·rw [show min p lim = p by omega, h.a.fr gn hc, h.c.fr gm hd]; exact hne
structure Diff (n m : List Clip) (p q : Int) (x : List Clip) : Prop where
 pre : Pre n m p
 suf : Suf n m (min (total n) (total m) - p) (total n - q)
 x : x = if p = total m - (total n - q) then [] else cut m p (total m - (total n - q))
theorem Diff.le {n m x : List Clip} {p q : Int} (h : Diff n m p q x) : 0 ≤ p ∧ p ≤ q ∧ q ≤ total n ∧ p ≤ total m - (total n - q) ∧ 0 ≤ total n - q := by
 have h1 := h.pre.h0
 have h2 := h.suf.h0
 have h3 := h.suf.h1
 refine ⟨h1, ?_, ?_, ?_, h2⟩ <;> omega
theorem Diff.cut {n m x : List Clip} {p q : Int} (h : Diff n m p q x) (g : GoodL m) : CutOf m p (total m - (total n - q)) x := by
 obtain ⟨h0, h1, h2, h3, h4⟩ := h.le
 rw [h.x]
 split
 ·rename_i e
  rw [← e]
  exact ⟨GoodL.nil, trivial, by show (0 : Int) = _; omega, fun i h0 h1 => by omega⟩
 ·exact cut_of g h0 h3
theorem base_nat {A D : Nat} (hA : 0 < A) (hD : 0 < D) : A / A.gcd D * D = A * (D / A.gcd D) ∧ A / A.gcd D * D / A = D / A.gcd D ∧ A / A.gcd D * D / D = A / A.gcd D ∧ 0 < A / A.gcd D * D := by
 have g0 : 0 < A.gcd D := Nat.gcd_pos_of_pos_left _ hA
 have ga : A.gcd D ∣ A := Nat.gcd_dvd_left _ _
 have gd : A.gcd D ∣ D := Nat.gcd_dvd_right _ _
 have e : A / A.gcd D * D = A * (D / A.gcd D) := by
  rw [← Nat.mul_div_assoc _ gd, Nat.div_mul_right_comm ga]
 refine ⟨e, ?_, Nat.mul_div_cancel _ hD, Nat.mul_pos (Nat.div_pos (Nat.le_of_dvd hA ga) g0) hD⟩
 rw [e]
 exact Nat.mul_div_cancel_left _ hA
def baseN (s : Src) : Nat := s.ad.toNat / s.ad.toNat.gcd s.sd.toNat * s.sd.toNat
def posN (s : Src) (k : Int) : Int := s.an * ((s.sd.toNat / s.ad.toNat.gcd s.sd.toNat : Nat) : Int) + k * s.sn * ((s.ad.toNat / s.ad.toNat.gcd s.sd.toNat : Nat) : Int)
theorem pos_rat {s : Src} (h : Good s) (k : Int) : s.at' + k * s.sp = mkRat (posN s k) (baseN s) := by
 obtain ⟨A, hA⟩ := Int.eq_ofNat_of_zero_le (show 0 ≤ s.ad by have := h.a0; omega)
 obtain ⟨D, hD⟩ := Int.eq_ofNat_of_zero_le (show 0 ≤ s.sd by have := h.s0; omega)
 have a0 : 0 < A := by have := h.a0; omega
 have d0 : 0 < D := by have := h.s0; omega
 obtain ⟨b1, b2, b3, b4⟩ := base_nat a0 d0
 have g0 : 0 < A.gcd D := Nat.gcd_pos_of_pos_left _ a0
 have ga : A / A.gcd D * A.gcd D = A := Nat.div_mul_cancel (Nat.gcd_dvd_left _ _)
 have gd : D / A.gcd D * A.gcd D = D := Nat.div_mul_cancel (Nat.gcd_dvd_right _ _)
 unfold Src.at' Src.sp posN baseN
 rw [hA, hD, Int.toNat_natCast, Int.toNat_natCast]
 obtain ⟨g, eg⟩ : ∃ g, g = A.gcd D := ⟨_, rfl⟩
 rw [← eg] at g0 ga gd ⊢
 obtain ⟨a, ea⟩ : ∃ a, a = A / g := ⟨_, rfl⟩
 obtain ⟨d, ed⟩ : ∃ d, d = D / g := ⟨_, rfl⟩
 rw [← ea, ← ed]
 rw [← ea] at ga
 rw [← ed] at gd
 have ek : (k : Rat) = mkRat k 1 := by rw [Rat.mkRat_one]
 rw [ek, Rat.mkRat_mul_mkRat, Nat.one_mul, Rat.mkRat_add_mkRat _ _ (by omega) (by omega)]
 have e1 : s.an * (D : Int) + k * s.sn * (A : Int) = (s.an * (d : Int) + k * s.sn * (a : Int)) * (g : Int) := by
  have e1 : (D : Int) = (d : Int) * (g : Int) := by exact_mod_cast gd.symm
  have e2 : (A : Int) = (a : Int) * (g : Int) := by exact_mod_cast ga.symm
  rw [e1, e2, Int.add_mul, ← Int.mul_assoc, ← Int.mul_assoc]
 have e2 : A * D = (a * D) * g := by
  rw [← ga, Nat.mul_right_comm]
 rw [e1, e2]
 exact Rat.mkRat_mul_right (by omega)
theorem base_pos {s : Src} (h : Good s) : 0 < baseN s := by
 have a0 := h.a0
 have d0 := h.s0
 exact (base_nat (A := s.ad.toNat) (D := s.sd.toNat) (by omega) (by omega)).2.2.2
theorem moved_num {s : Src} (h : Good s) (k : Int) : (moved s k).an = posN s k / (((posN s k).natAbs.gcd (baseN s) : Nat) : Int) ∧ (moved s k).ad = (baseN s : Int) / (((posN s k).natAbs.gcd (baseN s) : Nat) : Int) := by
 have em : moved s k = { s with an := (s.at' + k * s.sp).num, ad := (s.at' + k * s.sp).den } := by unfold moved; rw [if_neg h.ne]
 have hb := base_pos h
 rw [em, pos_rat h k]
 refine ⟨?_, ?_⟩
 ·show (mkRat _ _).num = _
  rw [Rat.num_mkRat, if_neg (by omega), Nat.gcd_comm]
 ·show ((mkRat _ _).den : Int) = _
  rw [Rat.den_mkRat, if_neg (by omega), Nat.gcd_comm, Int.natCast_ediv]
theorem moved_name (s : Src) (n : Int) : (moved s n).name = s.name := by unfold moved; split <;> rfl
theorem moved_sn (s : Src) (n : Int) : (moved s n).sn = s.sn ∧ (moved s n).sd = s.sd ∧ (moved s n).smooth = s.smooth := by unfold moved; split <;> exact ⟨rfl, rfl, rfl⟩
theorem moved_eq {a b : Src} (j k : Int) : moved a j = moved b k ↔ ((moved a j).an = (moved b k).an ∧ (moved a j).ad = (moved b k).ad) ∧ a.kind = b.kind ∧ a.name = b.name ∧ a.sn = b.sn ∧ a.sd = b.sd ∧ a.smooth = b.smooth := by
 constructor
 ·intro h
  refine ⟨⟨by rw [h], by rw [h]⟩, ?_, ?_, ?_, ?_, ?_⟩
  ·have := congrArg Src.kind h; rwa [moved_kind, moved_kind] at this
  ·have := congrArg Src.name h; rwa [moved_name, moved_name] at this
  ·have := congrArg Src.sn h; rwa [(moved_sn a j).1, (moved_sn b k).1] at this
  ·have := congrArg Src.sd h; rwa [(moved_sn a j).2.1, (moved_sn b k).2.1] at this
  ·have := congrArg Src.smooth h; rwa [(moved_sn a j).2.2, (moved_sn b k).2.2] at this
 ·rintro ⟨⟨h1, h2⟩, h3, h4, h5, h6, h7⟩
  refine Src.ext2 ?_ ?_ h1 h2 ?_ ?_ ?_
  ·rw [moved_kind, moved_kind, h3]
  ·rw [moved_name, moved_name, h4]
  ·rw [(moved_sn a j).1, (moved_sn b k).1, h5]
  ·rw [(moved_sn a j).2.1, (moved_sn b k).2.1, h6]
  ·rw [(moved_sn a j).2.2, (moved_sn b k).2.2, h7]
theorem one_eq {c d : Clip} (j k : Int) (hc : shares c.kind = false → c.off = 0) (hd : shares d.kind = false → d.off = 0) :
  one c j = one d k ↔ (c.kind = d.kind ∧ c.total = d.total ∧ c.param = d.param ∧ c.text = d.text ∧ c.gain = d.gain ∧ c.chan = d.chan) ∧ (shares c.kind = true → c.off + j = d.off + k) ∧ moved c.a j = moved d.a k ∧ moved c.b j = moved d.b k := by
 constructor
 ·intro h
  have hk : (one c j).kind = (one d k).kind := by rw [h]
  have h1 : (one c j).total = (one d k).total := by rw [h]
  have h2 : (one c j).param = (one d k).param := by rw [h]
  have h3 : (one c j).text = (one d k).text := by rw [h]
  have h4 : (one c j).gain = (one d k).gain := by rw [h]
  have h5 : (one c j).chan = (one d k).chan := by rw [h]
  have h6 : (one c j).a = (one d k).a := by rw [h]
  have h7 : (one c j).b = (one d k).b := by rw [h]
  have ho : (one c j).off = (one d k).off := by rw [h]
  replace hk : c.kind = d.kind := hk
  refine ⟨⟨hk, h1, h2, h3, h4, h5⟩, fun hs => ?_, h6, h7⟩
  replace ho : (if shares c.kind = true then c.off + j else c.off) = (if shares d.kind = true then d.off + k else d.off) := ho
  rw [← hk, if_pos hs, if_pos hs] at ho
  exact ho
 ·rintro ⟨⟨h1, h2, h3, h4, h5, h6⟩, ho, ha, hb⟩
  refine Clip.ext2 rfl h1 ha hb ?_ h2 h3 h4 h5 h6
  show (if shares c.kind = true then c.off + j else c.off) = (if shares d.kind = true then d.off + k else d.off)
  rw [← h1]
  by_cases hs : shares c.kind = true
  ·rw [if_pos hs, if_pos hs]; exact ho hs
  ·rw [if_neg hs, if_neg hs]
   have hs' : shares c.kind = false := by simpa using hs
   rw [hc hs', hd (by rw [← h1]; exact hs')]
theorem Okay.kind {s : Src} (h : Okay s) : s = black ↔ s.kind = 0 := by
 constructor
 ·rintro rfl; rfl
 ·intro hk
  rcases h with h | h
  ·exact h
  ·exact absurd hk h.k
end Go.Trk
