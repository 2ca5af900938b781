/- Rows of numbers of the call's own: one grows, the others stay; the tables of a track as lists. -/
import Derived.Test.YtkhjkemllgjfmaaYN
import Derived.Test.YtkhjkemllgjfmaaYM
namespace Go.Proofs.Ytkhjkemllgjfmaa
open Go.RowKit
set_option linter.unusedVariables false
set_option linter.unusedSimpArgs false

def OwnI (w : World) (B : Nat) (v : Value) (L : List Int) : Prop := w.ownsRow B 2 1 v L.length (iv L)
theorem iv_append (L M : List Int) : iv (L ++ M) = iv L ++ iv M := by simp [iv]
theorem iv_one (L : List Int) : ∀ u ∈ iv L, u.oneCell' = true := fun u hu => by obtain ⟨i, _, rfl⟩ := List.mem_map.1 hu; rfl
theorem OwnI.below {w w' : World} {B : Nat} {v : Value} {L : List Int} (h : OwnI w B v L) (hb : Below w.heap.size w w') : OwnI w' B v L := owns_below h hb
theorem OwnI.mono {w : World} {B B' : Nat} {v : Value} {L : List Int} (h : OwnI w B v L) (hB : B' ≤ B) : OwnI w B' v L := owns_mono h hB
theorem OwnI.il {w : World} {B : Nat} {v : Value} {L : List Int} (h : OwnI w B v L) : IL w v L := by
  by_cases h0 : L = []
  · subst h0
    obtain ⟨a, c, rfl⟩ := owns_shapeN h
    exact ⟨a, c, rfl, Nat.zero_le _, fun i u hi => by simp at hi⟩
  · obtain ⟨g, c, rfl, hc, hx⟩ := owns_open h (List.length_pos_iff.2 h0)
    refine ⟨_, c, rfl, hc, fun i u hi => ⟨g, 0, rfl, ?_⟩⟩
    rw [Nat.zero_add]
    exact hx i _ (by simp [iv, hi])
theorem OwnI.only {w w' : World} {B g2 n c : Nat} {L : List Int} {p : Option Nat} (h : OwnI w B (.slice (some ⟨g2, 0, none⟩) n c) L) (hp : p ≠ some g2) (hg : w.grownBy w' p) : OwnI w' B (.slice (some ⟨g2, 0, none⟩) n c) L := by
  obtain ⟨h1, h2⟩ := h
  refine ⟨h1, ?_⟩
  rcases h2 with ⟨e, _⟩ | ⟨g, cap, cur, e, hB, hb, h3⟩
  · simp at e
  · simp only [Value.slice.injEq, Option.some.injEq, Addr.mk.injEq, and_true] at e
    obtain ⟨rfl, rfl, rfl⟩ := e
    exact .inr ⟨g2, c, cur, rfl, hB, (hg.block g2 (Array.getElem?_eq_some_iff.1 hb).1 (fun e => hp e.symm)).trans hb, h3⟩
theorem OwnI.lt {w : World} {B g n c : Nat} {L : List Int} (h : OwnI w B (.slice (some ⟨g, 0, none⟩) n c) L) : B ≤ g ∧ g < w.heap.size := by
  rcases h.2 with ⟨e, _⟩ | ⟨g', cap, cur, e, hB, hb, _⟩
  · simp at e
  · simp only [Value.slice.injEq, Option.some.injEq, Addr.mk.injEq, and_true] at e
    obtain ⟨rfl, _, _⟩ := e
    exact ⟨hB, (Array.getElem?_eq_some_iff.1 hb).1⟩

theorem wpList_advI (w : World) {ops : Array Oper} {rest : List Oper} {o : Oper} {a : Act} {Q : Exit → Act → World → Prop} (hgd : o.guard = none) (s x : Operand)
    (ho : o.op = .call { callee := .builtin .append, args := #[s, x], argTypes := #[51, 51] }) (B g n c : Nat) (L : List Int) (hs : a.eval s = .slice (some ⟨g, 0, none⟩) n c) (hown : OwnI w B (.slice (some ⟨g, 0, none⟩) n c) L)
    (b cx : Nat) (m : Int) (hx : a.eval x = .slice (some ⟨b, 0, none⟩) 1 cx) (hM : w.cell? ⟨b, 0, none⟩ = some (.int .i64 m)) (hk : L.length + 1 ≤ 100000000) (hB : B ≤ w.heap.size)
    (h : ∀ g' c' w', OwnI w' B (.slice (some ⟨g', 0, none⟩) (n + 1) c') (L ++ [m]) → w.grownBy w' (some g) → (g' = g ∨ w.heap.size ≤ g') → wpList Try.prog ops Q rest (a.put o.dst (.slice (some ⟨g', 0, none⟩) (n + 1) c')) w') : wpList Try.prog ops Q (o :: rest) a w := by
  obtain ⟨i0, hi, hz0, hz1, hz2⟩ := info_parts info2
  have hn : n = L.length := by
    obtain ⟨a', c', e⟩ := owns_shapeN hown
    simp only [Value.slice.injEq] at e
    exact e.2.1
  subst hn
  refine wpList_append_lies _ hgd s x 51 ho B 2 i0 (.int .i64 0) 1 8 Try.underlying51 hi hz0 hz1 hz2 rfl (by decide) _ L.length (iv L) hs hown ⟨b, 0, none⟩ 1 cx [.int .i64 m] hx rfl (fun j u hj => ?_) (fun u hu => by simp at hu; subst hu; rfl) (by decide) (by unfold maxLen; omega) (by omega) hB w.heap.size rfl (fun g' cap w' hown' hg hor hlt => ?_)
  · have : j = 0 := by
      have := (List.getElem?_eq_some_iff.1 hj).1
      simp at this
      exact this
    subst this
    simp at hj
    subst hj
    rw [Addr.add_lit]
    exact hM
  · refine h g' cap w' (by unfold OwnI; rw [iv_append, List.length_append]; exact hown') hg ?_
    rcases hor with e | e
    · have : (some g : Option Nat) = some g' := e
      exact .inl (Option.some.inj this).symm
    · exact .inr (by omega)

/-- The tables as lists of numbers. -/
def syncL (S : Nat → Sm) : Nat → List Int
  | 0 => []
  | k + 1 => syncL S k ++ (if (S k).sync then [(k : Int) + 1] else [])
def sizeL (S : Nat → Sm) : Nat → List Int
  | 0 => []
  | k + 1 => sizeL S k ++ [((S k).n : Int)]
def placeL (S : Nat → Sm) (first : Int) : Nat → List Int
  | 0 => []
  | k + 1 => placeL S first k ++ [first + (sizeN S k : Nat)]
theorem syncL_length (S : Nat → Sm) (k : Nat) : (syncL S k).length ≤ k := by
  induction k with
  | zero => simp [syncL]
  | succ k ih => simp only [syncL, List.length_append]; split <;> simp <;> omega
theorem sizeL_length (S : Nat → Sm) (k : Nat) : (sizeL S k).length = k := by
  induction k with
  | zero => rfl
  | succ k ih => simp [sizeL, ih]
theorem placeL_length (S : Nat → Sm) (f : Int) (k : Nat) : (placeL S f k).length = k := by
  induction k with
  | zero => rfl
  | succ k ih => simp [placeL, ih]
end Go.Proofs.Ytkhjkemllgjfmaa
