/- A file with one track delayed: its cells, rows that are copied. -/
import Derived.Test.YtkhjkemllgjfmaaU
import Derived.Test.YtkhjkemllgjfmaaV
namespace Go.Proofs.Ytkhjkemllgjfmaa
open Go.RowKit
set_option linter.unusedVariables false

theorem info48 : (Try.prog.info? 48).map (fun i => (i.zero, i.size, i.bytes)) = some (some (.agg #[.string { data := #[] }, .int .i64 0, .slice none 0 0, .slice none 0 0, .slice none 0 0]), 5, 96) := by kernel_rfl
theorem info61 : (Try.prog.info? 61).map (fun i => (i.zero, i.size, i.bytes)) = some (some (.agg #[.int .i64 0, .int .i64 0]), 2, 16) := by kernel_rfl

/-- Many elements appended to a row of the call's own. -/
theorem wpList_appN (w : World) {ops : Array Oper} {rest : List Oper} {o : Oper} {a : Act} {Q : Exit → Act → World → Prop} (hgd : o.guard = none) (s x : Operand) (t E : TypeId) (size bytes : Nat) (z : Value) (ht : Try.prog.underlying t = some (.slice E))
    (hE : (Try.prog.info? E).map (fun i => (i.zero, i.size, i.bytes)) = some (some z, size, bytes)) (hzs : z.cells.size = size) (hsz : 0 < size) (hby : bytes ≤ 1000)
    (ho : o.op = .call { callee := .builtin .append, args := #[s, x], argTypes := #[t, t] }) (B k b off m c : Nat) (v : Value) (xs news : List Value) (hs : a.eval s = v) (hown : w.ownsRow B E size v k xs)
    (hx : a.eval x = .slice (some ⟨b, off, none⟩) m c) (hl : news.length = m * size) (hnews : ∀ j u, news[j]? = some u → w.cell? ⟨b, off + j, none⟩ = some u) (h1 : ∀ u ∈ news, u.oneCell' = true)
    (hk : k + m ≤ 100000000) (hB : B ≤ w.heap.size)
    (h : ∀ v' w', w'.ownsRow B E size v' (k + m) (xs ++ news) → Below B w w' → wpList Try.prog ops Q rest (a.put o.dst v') w') : wpList Try.prog ops Q (o :: rest) a w := by
  obtain ⟨i0, hi, hz0, hz1, hz2⟩ := info_parts hE
  have hb2 : (k + m) * bytes ≤ 100000000 * 1000 := Nat.mul_le_mul (by omega) hby
  refine wpList_append_own _ hgd s x t ho B E i0 z size bytes ht hi hz0 hz1 hz2 hzs hsz v k xs hs hown ⟨b, off, none⟩ m c news hx hl (fun j u hj => ?_) h1 (by unfold maxLen; omega) (by omega) hB (fun v' w' hown' hg hnil => ?_)
  · rw [Addr.add_lit]; exact hnews j u hj
  · refine h v' w' hown' ((Below.refl _ _).grown hg hB (fun k' h' => ?_))
    rcases hown.2 with ⟨rfl, _⟩ | ⟨g', cap, cur, rfl, hg', _⟩
    · cases h'
    · cases h'; exact hg'

theorem rowsOf_late (f g : Nat → List Value) (h : ∀ i, f (i + 1) = g i) (n : Nat) : rowsOf f (n + 1) = f 0 ++ rowsOf g n := by
  induction n with
  | zero => simp [rowsOf]
  | succ n ih => rw [rowsOf, ih, rowsOf, h, List.append_assoc]
theorem edits_row {w : World} {b o n c : Nat} {E : Nat → Ed} (h : EA w (.slice (some ⟨b, o, none⟩) n c) n E) (j : Nat) (u : Value) (hj : (rowsOf (edV E) n)[j]? = some u) : w.cell? ⟨b, o + j, none⟩ = some u := by
  have hf : ∀ i, (edV E i).length = 2 := fun i => rfl
  have hjl : j < n * 2 := by have := (List.getElem?_eq_some_iff.1 hj).1; rwa [rowsOf_length hf] at this
  obtain ⟨_, _, e, _, H⟩ := h
  simp only [Value.slice.injEq, true_and] at e
  obtain ⟨rfl, rfl⟩ := e
  obtain ⟨b', o', e, h0, h1⟩ := H (j / 2) (by omega)
  simp only [Option.some.injEq, Addr.mk.injEq, and_true] at e
  obtain ⟨rfl, rfl⟩ := e
  have hr := rowsOf_at hf n (j / 2) (j % 2) (by omega) (by omega)
  rw [show j / 2 * 2 + j % 2 = j by omega, hj] at hr
  rcases (show j % 2 = 0 ∨ j % 2 = 1 by omega) with e | e
  · rw [e] at hr
    simp only [edV, List.getElem?_cons_zero, Option.some.injEq] at hr
    rw [hr, ← h0]; congr 2; omega
  · rw [e] at hr
    simp only [edV, List.getElem?_cons_succ, List.getElem?_cons_zero, Option.some.injEq] at hr
    rw [hr, ← h1]; congr 2; omega
/-- The cells of a slice of tracks. -/
def cellsAt (w : World) (b o n : Nat) : List Value := (List.range n).map fun j => (w.cell? ⟨b, o + j, none⟩).getD (.int .i64 0)
theorem tracks_cell {w : World} {b o n c : Nat} {T : Nat → Tr} (h : TSA w (.slice (some ⟨b, o, none⟩) n c) n T) (j : Nat) (hj : j < n * 5) : ∃ u, w.cell? ⟨b, o + j, none⟩ = some u ∧ u.oneCell' = true := by
  obtain ⟨b', o', a2, d2, a3, d3, a4, d4, e, t0, t1, t2, t3, t4, _⟩ := h.at (k := j / 5) (by omega)
  simp only [Option.some.injEq, Addr.mk.injEq, and_true] at e
  obtain ⟨rfl, rfl⟩ := e
  rcases (show j % 5 = 0 ∨ j % 5 = 1 ∨ j % 5 = 2 ∨ j % 5 = 3 ∨ j % 5 = 4 by omega) with e | e | e | e | e
  · exact ⟨_, by rw [← t0]; congr 2; omega, by simp [Value.oneCell']⟩
  · exact ⟨_, by rw [← t1]; congr 2; omega, by simp [Value.oneCell']⟩
  · exact ⟨_, by rw [← t2]; congr 2; omega, by simp [Value.oneCell']⟩
  · exact ⟨_, by rw [← t3]; congr 2; omega, by simp [Value.oneCell']⟩
  · exact ⟨_, by rw [← t4]; congr 2; omega, by simp [Value.oneCell']⟩
theorem cellsAt_get {w : World} {b o n c : Nat} {T : Nat → Tr} (h : TSA w (.slice (some ⟨b, o, none⟩) n c) n T) (j : Nat) (u : Value) (hj : (cellsAt w b o (n * 5))[j]? = some u) : w.cell? ⟨b, o + j, none⟩ = some u := by
  have hjl : j < n * 5 := by have := (List.getElem?_eq_some_iff.1 hj).1; simpa [cellsAt] using this
  obtain ⟨x, hx, _⟩ := tracks_cell h j hjl
  unfold cellsAt at hj
  rw [List.getElem?_map, List.getElem?_range hjl] at hj
  simp only [Option.map_some, Option.some.injEq, hx, Option.getD_some] at hj
  rw [hx, hj]
theorem cellsAt_at {w : World} {b o n : Nat} {j : Nat} {u : Value} (hj : j < n) (h : w.cell? ⟨b, o + j, none⟩ = some u) : (cellsAt w b o n)[j]? = some u := by
  unfold cellsAt
  rw [List.getElem?_map, List.getElem?_range hj]
  simp [h]
theorem owns_empty (w : World) (E size : Nat) : (w.alloc (.cells #[] E)).ownsRow w.heap.size E size (.slice (some ⟨w.heap.size, 0, none⟩) 0 0) 0 [] :=
  ⟨by simp, .inr ⟨w.heap.size, 0, #[], rfl, Nat.le_refl _, by simp only [World.alloc, Array.getElem?_push_size], Nat.le_refl _, by decide, by simp, by simp⟩⟩
theorem owns_one (w : World) (E size : Nat) (cs : Array Value) (h : cs.size = size) : (w.alloc (.cells cs E)).ownsRow w.heap.size E size (.slice (some ⟨w.heap.size, 0, none⟩) 1 1) 1 cs.toList :=
  ⟨by simp [h], .inr ⟨w.heap.size, 1, cs, rfl, Nat.le_refl _, by simp only [World.alloc, Array.getElem?_push_size], Nat.le_refl _, by decide, by omega, by rw [List.take_of_length_le (by simp [h])]⟩⟩
theorem owns_open2 {w : World} {B E size n : Nat} {v : Value} {xs : List Value} (h : w.ownsRow B E size v n xs) (hn : 0 < n) : ∃ g c, v = .slice (some ⟨g, 0, none⟩) n c ∧ n ≤ c ∧ B ≤ g ∧ (∀ o, w.frozen? ⟨g, o, none⟩ = false) ∧ ∀ i u, xs[i]? = some u → w.cell? ⟨g, i, none⟩ = some u := by
  obtain ⟨g, c, e, hc, H⟩ := owns_open h hn
  rcases h.2 with ⟨h1, h0⟩ | ⟨g', cap, cur, h1, h2, h3, _⟩
  · omega
  · rw [h1] at e; cases e
    exact ⟨g, c, h1, hc, h2, fun o => by simp [World.frozen?, h3], H⟩
/-- A file in which one track is late. -/
def lateF (F : Fl) (k : Nat) (b : Int) : Fl := { F with T := fun i => if i = k then lateT (F.T k) b else F.T i }
theorem okFl_late (F : Fl) (k : Nat) (b : Int) (hk : k < F.nT) (hok : okFl F = true) (hn : (F.T k).nE ≤ 60) (h0 : 0 ≤ b) (h1 : b ≤ 1048576) : okFl (lateF F k b) = true := by
  have ho := okFl_yes hok
  unfold okFl
  simp only [Bool.and_eq_true, decide_eq_true_eq, all_range]
  refine ⟨ho.1, fun i hi => ?_⟩
  by_cases e : i = k
  · subst e; simpa [lateF] using ok_late (F.T i) b (ho.2 i hi) hn h0 h1
  · simpa [lateF, e] using ho.2 i hi
/-- The late file's tracks in their row. -/
theorem FA.late {w0 w' : World} {b o c gt cap : Nat} {F : Fl} {k : Nat} {bv : Int} {ve : Value} (hk : k < F.nT) (h : TSA w0 (.slice (some ⟨b, o, none⟩) F.nT c) F.nT F.T) (hb : Below w0.heap.size w0 w')
    (hc : F.nT ≤ cap) (hcell : ∀ j u, (cellsAt w0 b o (F.nT * 5))[j]? = some u → j ≠ k * 5 + 4 → w'.cell? ⟨gt, j, none⟩ = some u) (hv : w'.cell? ⟨gt, k * 5 + 4, none⟩ = some ve) (hE : EA w' ve ((F.T k).nE + 1) (lateE (F.T k).E bv)) :
    FA w' (.agg #[.int .i64 F.sc, .slice (some ⟨gt, 0, none⟩) F.nT cap]) (lateF F k bv) := by
  refine ⟨_, rfl, _, _, rfl, hc, fun i hi => ?_⟩
  obtain ⟨ao', c', e, hcc, H⟩ := h
  simp only [Value.slice.injEq, true_and] at e
  obtain ⟨rfl, rfl⟩ := e
  obtain ⟨b', o', c0, c1, c2, c3, c4, e, t0, t1, t2, t3, t4, hT⟩ := H i hi
  simp only [Option.some.injEq, Addr.mk.injEq, and_true] at e
  obtain ⟨rfl, rfl⟩ := e
  have hi' : i < F.nT := hi
  have q0 := hcell (i * 5) c0 (cellsAt_at (by omega) t0) (by omega)
  have q1 := hcell (i * 5 + 1) c1 (cellsAt_at (by omega) (by rw [← Nat.add_assoc]; exact t1)) (by omega)
  have q2 := hcell (i * 5 + 2) c2 (cellsAt_at (by omega) (by rw [← Nat.add_assoc]; exact t2)) (by omega)
  have q3 := hcell (i * 5 + 3) c3 (cellsAt_at (by omega) (by rw [← Nat.add_assoc]; exact t3)) (by omega)
  have hT' := hT.below hb
  by_cases e : i = k
  · subst e
    refine ⟨gt, 0, c0, c1, c2, c3, ve, rfl, by simpa using q0, by simpa using q1, by simpa using q2, by simpa using q3, by simpa using hv, ?_⟩
    obtain ⟨k0, k1, k2, k3, k4⟩ := hT'
    simp only [lateF, if_pos]
    exact ⟨k0, k1, k2, k3, hE⟩
  · have q4 := hcell (i * 5 + 4) c4 (cellsAt_at (by omega) (by rw [← Nat.add_assoc]; exact t4)) (by omega)
    refine ⟨gt, 0, c0, c1, c2, c3, c4, rfl, by simpa using q0, by simpa using q1, by simpa using q2, by simpa using q3, by simpa using q4, ?_⟩
    simp only [lateF, if_neg e]
    exact hT'

end Go.Proofs.Ytkhjkemllgjfmaa
