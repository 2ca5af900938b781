/- What dividing bytes into boxes computes; rows of boxes. -/
import Derived.Test.YtkhjkemllgjfmaaB
namespace Go.Proofs.Ytkhjkemllgjfmaa
open Go.RowKit
set_option linter.unusedVariables false

theorem info31 : (Try.prog.info? 31).map (fun i => (i.zero, i.size, i.bytes)) = some (some (.agg #[.string { data := #[] }, .int .i64 0, .int .i64 0, .int .i64 0]), 4, 40) := by kernel_rfl
theorem info32 : (Try.prog.info? 32).map (fun i => (i.zero, i.size, i.bytes)) = some (some (.agg #[.string { data := #[] }, .int .i64 0, .int .i64 0, .int .i64 0]), 4, 40) := by kernel_rfl

/-- A box begins at index at'. -/
def goOn (f : Nat → Int) (to at' : Nat) : Prop := at' + 8 ≤ to ∧ 8 ≤ numI f at' ∧ numI f at' ≤ (to : Int) - at'
def pos (f : Nat → Int) (fr : Nat) : Nat → Nat
  | 0 => fr
  | k + 1 => pos f fr k + (numI f (pos f fr k)).toNat
def Walked (f : Nat → Int) (fr to k : Nat) : Prop := ∀ j, j < k → goOn f to (pos f fr j)
def codeAt (f : Nat → Int) (to at' : Nat) : Int := if to ≤ at' then 0 else if to < at' + 8 then 4 else if numI f at' < 8 then 3 else 4
theorem Walked.unique {f : Nat → Int} {fr to k l : Nat} (h1 : Walked f fr to k) (h2 : Walked f fr to l) (n1 : ¬ goOn f to (pos f fr k)) (n2 : ¬ goOn f to (pos f fr l)) : k = l := by
  rcases Nat.lt_trichotomy k l with h | h | h
  · exact absurd (h2 k h) n1
  · exact h
  · exact absurd (h1 l h) n2
theorem Walked.step {f : Nat → Int} {fr to k : Nat} (h : Walked f fr to k) (hg : goOn f to (pos f fr k)) : Walked f fr to (k + 1) := by
  intro j hj
  by_cases e : j = k
  · subst e; exact hg
  · exact h j (by omega)
theorem Walked.le {f : Nat → Int} {fr to k : Nat} (hf : fr ≤ to) (h : Walked f fr to k) : pos f fr k ≤ to ∧ k ≤ pos f fr k := by
  induction k with
  | zero => exact ⟨hf, Nat.zero_le _⟩
  | succ k ih =>
    have h1 := ih (fun j hj => h j (by omega))
    obtain ⟨a, b, c⟩ := h k (by omega)
    simp only [pos]
    omega

def boxV (f : Nat → Int) (at' : Nat) : List Value := [.string (strOfNums [f (at' + 4), f (at' + 4 + 1), f (at' + 4 + 2), f (at' + 4 + 3)]), .int .i64 (at' : Int), .int .i64 ((at' : Int) + 8), .int .i64 ((at' : Int) + numI f at')]
def rowsV (f : Nat → Int) (fr : Nat) : Nat → List Value
  | 0 => []
  | k + 1 => rowsV f fr k ++ boxV f (pos f fr k)
theorem rowsV_length (f : Nat → Int) (fr k : Nat) : (rowsV f fr k).length = k * 4 := by
  induction k with
  | zero => rfl
  | succ k ih => rw [rowsV, List.length_append, ih]; simp [boxV]; omega
theorem rowsV_at (f : Nat → Int) (fr k j i : Nat) (hj : j < k) (hi : i < 4) : (rowsV f fr k)[j * 4 + i]? = (boxV f (pos f fr j))[i]? := by
  induction k with
  | zero => omega
  | succ k ih =>
    rw [rowsV]
    by_cases e : j = k
    · subst e
      rw [List.getElem?_append_right (by rw [rowsV_length]; omega), rowsV_length]
      congr 1; omega
    · rw [List.getElem?_append_left (by rw [rowsV_length]; omega)]
      exact ih (by omega)

/-- What Boxes leaves. -/
def BoxesPost (E : TypeId) (w : World) (f : Nat → Int) (n : Nat) (fr to : Int) (e : Ending) (w' : World) : Prop :=
  ∃ v c, e = .returned (.tuple #[v, .int .i64 c]) ∧ Below w.heap.size w w' ∧
    (if fr < 0 ∨ to < fr ∨ (n : Int) < to then v = .slice none 0 0 ∧ c = 1 else
      ∃ k, Walked f fr.toNat to.toNat k ∧ ¬ goOn f to.toNat (pos f fr.toNat k) ∧ c = codeAt f to.toNat (pos f fr.toNat k) ∧ (c ≠ 0 → v = .slice none 0 0) ∧ (c = 0 → w'.ownsRow w.heap.size E 4 v k (rowsV f fr.toNat k)))

theorem owns_far {w : World} {B E size n : Nat} {v : Value} {xs : List Value} (h : w.ownsRow B E size v n xs) {p : Addr} (hp : p.block < B) (u : Value) : (w.setCell p u).ownsRow B E size v n xs := by
  refine ⟨h.1, ?_⟩
  rcases h.2 with h1 | ⟨g, cap, cur, h', h1, h2, h3⟩
  · exact .inl h1
  · exact .inr ⟨g, cap, cur, h', h1, by rw [Below.heap_setCell _ _ _ _ (by omega)]; exact h2, h3⟩
theorem owns_drew {w : World} {B E size n : Nat} {v : Value} {xs : List Value} (h : w.ownsRow B E size v n xs) : w.drew.ownsRow B E size v n xs := h
theorem owns_below {w w' : World} {B E size n : Nat} {v : Value} {xs : List Value} (h : w.ownsRow B E size v n xs) (hb : Below w.heap.size w w') : w'.ownsRow B E size v n xs := by
  refine ⟨h.1, ?_⟩
  rcases h.2 with h1 | ⟨g, cap, cur, h', h1, h2, h3⟩
  · exact .inl h1
  · exact .inr ⟨g, cap, cur, h', h1, by rw [hb.block g (Array.getElem?_eq_some_iff.1 h2).1]; exact h2, h3⟩
theorem owns_mono {w : World} {B B' E size n : Nat} {v : Value} {xs : List Value} (h : w.ownsRow B E size v n xs) (hB : B' ≤ B) : w.ownsRow B' E size v n xs := by
  refine ⟨h.1, ?_⟩
  rcases h.2 with h1 | ⟨g, cap, cur, h', h1, h2, h3⟩
  · exact .inl h1
  · exact .inr ⟨g, cap, cur, h', Nat.le_trans hB h1, h2, h3⟩
theorem owns_shape {w : World} {B E size n : Nat} {v : Value} {xs : List Value} (h : w.ownsRow B E size v n xs) : ∃ a m c, v = .slice a m c := by
  rcases h.2 with ⟨rfl, _⟩ | ⟨g, cap, cur, rfl, _⟩
  · exact ⟨_, _, _, rfl⟩
  · exact ⟨_, _, _, rfl⟩
theorem owns_nil (w : World) (B E size : Nat) : w.ownsRow B E size (.slice none 0 0) 0 [] := ⟨by simp, .inl ⟨rfl, rfl⟩⟩
/-- The cells of a row. -/
theorem owns_open {w : World} {B E size n : Nat} {v : Value} {xs : List Value} (h : w.ownsRow B E size v n xs) (hn : 0 < n) : ∃ g c, v = .slice (some ⟨g, 0, none⟩) n c ∧ n ≤ c ∧ ∀ i u, xs[i]? = some u → w.cell? ⟨g, i, none⟩ = some u := by
  obtain ⟨hl, h⟩ := h
  rcases h with ⟨_, h0⟩ | ⟨g, cap, cur, rfl, h1, h2, h3, h4, h5, h6⟩
  · omega
  · refine ⟨g, cap, rfl, h3, fun i u hi => ?_⟩
    have hil := (List.getElem?_eq_some_iff.1 hi).1
    rw [← h6, List.getElem?_take] at hi
    split at hi
    · simp only [World.cell?, h2]
      simpa using hi
    · simp at hi

end Go.Proofs.Ytkhjkemllgjfmaa
