/- Media files as data: samples, edits, tracks, files; how values read as these. -/
import Derived.Test.YtkhjkemllgjfmaaC
namespace Go.Proofs.Ytkhjkemllgjfmaa
open Go.RowKit
set_option linter.unusedVariables false

structure Sm where
  n : Nat
  D : Nat → Int
  dur : Int
  shift : Int
  sync : Bool
structure Ed where
  dur : Int
  time : Int
structure Tr where
  h : ByteArray
  sc : Int
  nC : Nat
  C : Nat → Int
  nS : Nat
  S : Nat → Sm
  nE : Nat
  E : Nat → Ed
structure Fl where
  sc : Int
  nT : Nat
  T : Nat → Tr

/-- Samples at an address. -/
def SA (w : World) (v : Value) (n : Nat) (S : Nat → Sm) : Prop := ∃ ao c, v = .slice ao n c ∧ n ≤ c ∧ ∀ i, i < n → ∃ b o x, ao = some ⟨b, o, none⟩ ∧ w.cell? ⟨b, o + i * 4, none⟩ = some x ∧ w.cell? ⟨b, o + i * 4 + 1, none⟩ = some (.int .i64 (S i).dur) ∧ w.cell? ⟨b, o + i * 4 + 2, none⟩ = some (.int .i64 (S i).shift) ∧ w.cell? ⟨b, o + i * 4 + 3, none⟩ = some (.bool (S i).sync) ∧ BA w x (S i).n (S i).D
def EA (w : World) (v : Value) (n : Nat) (E : Nat → Ed) : Prop := ∃ ao c, v = .slice ao n c ∧ n ≤ c ∧ ∀ i, i < n → ∃ b o, ao = some ⟨b, o, none⟩ ∧ w.cell? ⟨b, o + i * 2, none⟩ = some (.int .i64 (E i).dur) ∧ w.cell? ⟨b, o + i * 2 + 1, none⟩ = some (.int .i64 (E i).time)
/-- A track's five cells. -/
structure TC (w : World) (c0 c1 c2 c3 c4 : Value) (T : Tr) : Prop where
  k0 : c0 = .string T.h
  k1 : c1 = .int .i64 T.sc
  k2 : BA w c2 T.nC T.C
  k3 : SA w c3 T.nS T.S
  k4 : EA w c4 T.nE T.E
def TA (w : World) (v : Value) (T : Tr) : Prop := ∃ c0 c1 c2 c3 c4, v = .agg #[c0, c1, c2, c3, c4] ∧ TC w c0 c1 c2 c3 c4 T
def TSA (w : World) (v : Value) (n : Nat) (T : Nat → Tr) : Prop := ∃ ao c, v = .slice ao n c ∧ n ≤ c ∧ ∀ i, i < n → ∃ b o c0 c1 c2 c3 c4, ao = some ⟨b, o, none⟩ ∧ w.cell? ⟨b, o + i * 5, none⟩ = some c0 ∧ w.cell? ⟨b, o + i * 5 + 1, none⟩ = some c1 ∧ w.cell? ⟨b, o + i * 5 + 2, none⟩ = some c2 ∧ w.cell? ⟨b, o + i * 5 + 3, none⟩ = some c3 ∧ w.cell? ⟨b, o + i * 5 + 4, none⟩ = some c4 ∧ TC w c0 c1 c2 c3 c4 (T i)
def FA (w : World) (v : Value) (F : Fl) : Prop := ∃ c, v = .agg #[.int .i64 F.sc, c] ∧ TSA w c F.nT F.T

theorem SA.below {w w' : World} {v : Value} {n : Nat} {S : Nat → Sm} (h : SA w v n S) (hb : Below w.heap.size w w') : SA w' v n S := by
  obtain ⟨ao, c, rfl, hc, H⟩ := h
  refine ⟨ao, c, rfl, hc, fun i hi => ?_⟩
  obtain ⟨b, o, x, e, h0, h1, h2, h3, h4⟩ := H i hi
  exact ⟨b, o, x, e, (hb.cell (block_lt_of_cell h0)).trans h0, (hb.cell (block_lt_of_cell h1)).trans h1, (hb.cell (block_lt_of_cell h2)).trans h2, (hb.cell (block_lt_of_cell h3)).trans h3, h4.below hb⟩
theorem EA.below {w w' : World} {v : Value} {n : Nat} {E : Nat → Ed} (h : EA w v n E) (hb : Below w.heap.size w w') : EA w' v n E := by
  obtain ⟨ao, c, rfl, hc, H⟩ := h
  refine ⟨ao, c, rfl, hc, fun i hi => ?_⟩
  obtain ⟨b, o, e, h0, h1⟩ := H i hi
  exact ⟨b, o, e, (hb.cell (block_lt_of_cell h0)).trans h0, (hb.cell (block_lt_of_cell h1)).trans h1⟩
theorem TC.below {w w' : World} {c0 c1 c2 c3 c4 : Value} {T : Tr} (h : TC w c0 c1 c2 c3 c4 T) (hb : Below w.heap.size w w') : TC w' c0 c1 c2 c3 c4 T := ⟨h.k0, h.k1, h.k2.below hb, h.k3.below hb, h.k4.below hb⟩
theorem TA.below {w w' : World} {v : Value} {T : Tr} (h : TA w v T) (hb : Below w.heap.size w w') : TA w' v T := by
  obtain ⟨c0, c1, c2, c3, c4, rfl, k⟩ := h
  exact ⟨_, _, _, _, _, rfl, k.below hb⟩
theorem TSA.below {w w' : World} {v : Value} {n : Nat} {T : Nat → Tr} (h : TSA w v n T) (hb : Below w.heap.size w w') : TSA w' v n T := by
  obtain ⟨ao, c, rfl, hc, H⟩ := h
  refine ⟨ao, c, rfl, hc, fun i hi => ?_⟩
  obtain ⟨b, o, c0, c1, c2, c3, c4, e, h0, h1, h2, h3, h4, h5⟩ := H i hi
  exact ⟨b, o, c0, c1, c2, c3, c4, e, (hb.cell (block_lt_of_cell h0)).trans h0, (hb.cell (block_lt_of_cell h1)).trans h1, (hb.cell (block_lt_of_cell h2)).trans h2, (hb.cell (block_lt_of_cell h3)).trans h3, (hb.cell (block_lt_of_cell h4)).trans h4, h5.below hb⟩
theorem FA.below {w w' : World} {v : Value} {F : Fl} (h : FA w v F) (hb : Below w.heap.size w w') : FA w' v F := by
  obtain ⟨c, rfl, k⟩ := h
  exact ⟨_, rfl, k.below hb⟩

theorem BA.shape {w : World} {v : Value} {n : Nat} {f : Nat → Int} (h : BA w v n f) : ∃ a c, v = .slice a n c := by obtain ⟨a, c, e, _⟩ := h; exact ⟨a, c, e⟩
theorem SA.shape {w : World} {v : Value} {n : Nat} {f : Nat → Sm} (h : SA w v n f) : ∃ a c, v = .slice a n c := by obtain ⟨a, c, e, _⟩ := h; exact ⟨a, c, e⟩
theorem EA.shape {w : World} {v : Value} {n : Nat} {f : Nat → Ed} (h : EA w v n f) : ∃ a c, v = .slice a n c := by obtain ⟨a, c, e, _⟩ := h; exact ⟨a, c, e⟩
theorem TSA.shape {w : World} {v : Value} {n : Nat} {f : Nat → Tr} (h : TSA w v n f) : ∃ a c, v = .slice a n c := by obtain ⟨a, c, e, _⟩ := h; exact ⟨a, c, e⟩

/-- What the statements' guard says. -/
def lightT (T : Tr) : Bool := decide (T.h.size ≤ 20) && decide (T.nC ≤ 5000) && decide (T.nS ≤ 40) && decide (T.nE ≤ 70) && (List.range T.nS).all fun i => decide ((T.S i).n ≤ 500)
def lightF (F : Fl) : Bool := decide (F.nT ≤ 6) && (List.range F.nT).all fun i => lightT (F.T i)
def okSm (s : Sm) : Bool := decide (s.n ≤ 1048576 ∧ 0 ≤ s.dur ∧ s.dur ≤ 16777216 ∧ 0 ≤ s.shift ∧ s.shift ≤ 16777216)
def okEd (e : Ed) : Bool := decide (0 ≤ e.dur ∧ e.dur ≤ 2147483647 ∧ -1 ≤ e.time ∧ e.time ≤ 2147483647)
def okTr (T : Tr) : Bool := decide (T.h.size = 4 ∧ 1 ≤ T.sc ∧ T.sc ≤ 16777216 ∧ T.nC ≤ 4096 ∧ T.nS ≤ 4096 ∧ T.nE ≤ 64) && ((List.range T.nS).all fun i => okSm (T.S i)) && (List.range T.nE).all fun i => okEd (T.E i)
def okFl (F : Fl) : Bool := decide (1 ≤ F.sc ∧ F.sc ≤ 16777216 ∧ F.nT ≤ 4) && (List.range F.nT).all fun i => okTr (F.T i)

theorem all_range {n : Nat} {p : Nat → Bool} : (List.range n).all p = true ↔ ∀ i, i < n → p i = true := by simp
theorem all_range_no {n : Nat} {p : Nat → Bool} {i : Nat} (hi : i < n) (h : p i = false) : (List.range n).all p = false := by
  rw [Bool.eq_false_iff]
  intro h'
  have := all_range.1 h' i hi
  rw [h] at this
  cases this

/-- A loop's 'so far', and its end. -/
theorem all_step {k : Nat} {p : Nat → Bool} (h : ∀ i, i < k → p i = true) (hk : p k = true) : ∀ i, i < k + 1 → p i = true := by
  intro i hi
  by_cases e : i = k
  · subst e; exact hk
  · exact h i (by omega)

end Go.Proofs.Ytkhjkemllgjfmaa
