/- Texts of this claim joined: L P Q D S. -/
import Derived.Test.YtkhjkemllgjfmaaPu00
import Derived.Test.YtkhjkemllgjfmaaPu01
set_option linter.unusedVariables false
set_option linter.unusedSimpArgs false

/- The contract of the statements' track: a reference's track as the program has it. -/
namespace Go.Proofs.Ytkhjkemllgjfmaa
open Go.RowKit
set_option linter.unusedVariables false

theorem info75 : (Try.prog.info? 75).map (fun i => (i.zero, i.size, i.bytes)) = some (some (.agg #[.slice none 0 0, .int .i64 0, .int .i64 0, .bool false]), 4, 48) := by kernel_rfl
theorem info76 : (Try.prog.info? 76).map (fun i => (i.zero, i.size, i.bytes)) = some (some (.agg #[.int .i64 0, .int .i64 0]), 2, 16) := by kernel_rfl

/-- One element appended to a row of the call's own. -/
theorem wpList_app (w : World) {ops : Array Oper} {rest : List Oper} {o : Oper} {a : Act} {Q : Exit → Act → World → Prop} (hgd : o.guard = none) (s x : Operand) (t E : TypeId) (size bytes : Nat) (z : Value) (ht : Try.prog.underlying t = some (.slice E))
    (hE : (Try.prog.info? E).map (fun i => (i.zero, i.size, i.bytes)) = some (some z, size, bytes)) (hzs : z.cells.size = size) (hsz : 0 < size) (hby : bytes ≤ 1000)
    (ho : o.op = .call { callee := .builtin .append, args := #[s, x], argTypes := #[t, t] }) (B k g : Nat) (v : Value) (xs news : List Value) (hs : a.eval s = v) (hown : w.ownsRow B E size v k xs)
    (hx : a.eval x = .slice (some ⟨g, 0, none⟩) 1 1) (hl : news.length = size) (hnews : ∀ j u, news[j]? = some u → w.cell? ⟨g, j, none⟩ = some u) (h1 : ∀ u ∈ news, u.oneCell' = true)
    (hk : k ≤ 100000000) (hB : B ≤ w.heap.size)
    (h : ∀ v' w', w'.ownsRow B E size v' (k + 1) (xs ++ news) → Below B w w' → wpList Try.prog ops Q rest (a.put o.dst v') w') : wpList Try.prog ops Q (o :: rest) a w := by
  obtain ⟨i0, hi, hz0, hz1, hz2⟩ := info_parts hE
  have hb2 : (k + 1) * bytes ≤ (100000000 + 1) * 1000 := Nat.mul_le_mul (by omega) hby
  refine wpList_append_own _ hgd s x t ho B E i0 z size bytes ht hi hz0 hz1 hz2 hzs hsz v k xs hs hown ⟨g, 0, none⟩ 1 1 news hx (by omega) (fun j u hj => ?_) h1 (by unfold maxLen; omega) (by omega) hB (fun v' w' hown' hg hnil => ?_)
  · rw [Addr.add_lit, Nat.zero_add]; exact hnews j u hj
  · refine h v' w' hown' ((Below.refl _ _).grown hg hB (fun k' h' => ?_))
    rcases hown.2 with ⟨rfl, _⟩ | ⟨g', cap, cur, rfl, hg', _⟩
    · cases h'
    · cases h'; exact hg'

/-- The samples' data, as values. -/
theorem SA.pick {w : World} {v : Value} {n : Nat} {S : Nat → Sm} (h : SA w v n S) : ∃ X : Nat → Value, ∀ i, i < n → ∃ b o c, v = .slice (some ⟨b, o, none⟩) n c ∧ w.cell? ⟨b, o + i * 4, none⟩ = some (X i) ∧ w.cell? ⟨b, o + i * 4 + 1, none⟩ = some (.int .i64 (S i).dur) ∧ w.cell? ⟨b, o + i * 4 + 2, none⟩ = some (.int .i64 (S i).shift) ∧ w.cell? ⟨b, o + i * 4 + 3, none⟩ = some (.bool (S i).sync) ∧ BA w (X i) (S i).n (S i).D := by
  obtain ⟨ao, c, rfl, hc, H⟩ := h
  refine ⟨fun i => (match ao with | some a => (w.cell? ⟨a.block, a.off + i * 4, none⟩).getD (.int .i64 0) | none => .int .i64 0), fun i hi => ?_⟩
  obtain ⟨b, o, x, rfl, h0, h1, h2, h3, h4⟩ := H i hi
  refine ⟨b, o, c, rfl, ?_, h1, h2, h3, ?_⟩
  · simp [h0]
  · simpa [h0] using h4

theorem owns_stay {w w' : World} {B E size n N : Nat} {v : Value} {xs : List Value} (h : w.ownsRow B E size v n xs) (hb : Below N w w') (hg : ∀ g c, v = .slice (some ⟨g, 0, none⟩) n c → g < N) : w'.ownsRow B E size v n xs := by
  refine ⟨h.1, ?_⟩
  rcases h.2 with h1 | ⟨g, cap, cur, h', h1, h2, h3⟩
  · exact .inl h1
  · exact .inr ⟨g, cap, cur, h', h1, by rw [hb.block g (hg g cap h')]; exact h2, h3⟩
theorem owns_in {w : World} {B E size n : Nat} {v : Value} {xs : List Value} (h : w.ownsRow B E size v n xs) (g c : Nat) (e : v = .slice (some ⟨g, 0, none⟩) n c) : g < w.heap.size := by
  rcases h.2 with ⟨h1, _⟩ | ⟨g', cap, cur, h', h1, h2, h3⟩
  · rw [h1] at e; cases e
  · rw [h'] at e; cases e; exact (Array.getElem?_eq_some_iff.1 h2).1
def smV (X : Nat → Value) (S : Nat → Sm) (i : Nat) : List Value := [X i, .int .i64 (S i).dur, .int .i64 (S i).shift, .bool (S i).sync]
def edV (E : Nat → Ed) (i : Nat) : List Value := [.int .i64 (E i).dur, .int .i64 (E i).time]
def rowsOf (f : Nat → List Value) : Nat → List Value
  | 0 => []
  | k + 1 => rowsOf f k ++ f k
theorem rowsOf_length {f : Nat → List Value} {m : Nat} (hf : ∀ i, (f i).length = m) (k : Nat) : (rowsOf f k).length = k * m := by
  induction k with
  | zero => simp [rowsOf]
  | succ k ih => rw [rowsOf, List.length_append, ih, hf, Nat.add_mul]; omega
theorem rowsOf_at {f : Nat → List Value} {m : Nat} (hf : ∀ i, (f i).length = m) (k j i : Nat) (hj : j < k) (hi : i < m) : (rowsOf f k)[j * m + i]? = (f j)[i]? := by
  induction k with
  | zero => omega
  | succ k ih =>
    have hl := rowsOf_length hf k
    rw [rowsOf]
    by_cases e : j = k
    · subst e
      rw [List.getElem?_append_right (by omega), hl]
      congr 1; omega
    · have h1 : (j + 1) * m ≤ k * m := Nat.mul_le_mul_right _ (by omega)
      rw [Nat.add_mul] at h1
      rw [List.getElem?_append_left (by omega)]
      exact ih (by omega)
theorem owns_zero {w : World} {B E size : Nat} {v : Value} {xs : List Value} (h : w.ownsRow B E size v 0 xs) : ∃ a m, v = .slice a 0 m := by
  rcases h.2 with ⟨rfl, _⟩ | ⟨g, cap, cur, rfl, _⟩
  · exact ⟨_, _, rfl⟩
  · exact ⟨_, _, rfl⟩
theorem SA.of_row {w : World} {B E n : Nat} {v : Value} {X : Nat → Value} {S : Nat → Sm} (h : w.ownsRow B E 4 v n (rowsOf (smV X S) n)) (hX : ∀ i, i < n → BA w (X i) (S i).n (S i).D) : SA w v n S := by
  rcases Nat.eq_zero_or_pos n with rfl | hn
  · obtain ⟨a, m, rfl⟩ := owns_zero h
    exact ⟨a, m, rfl, Nat.zero_le _, fun i hi => absurd hi (Nat.not_lt_zero i)⟩
  · obtain ⟨g, c, rfl, hc, H⟩ := owns_open h hn
    have hf : ∀ i, (smV X S i).length = 4 := fun i => rfl
    refine ⟨_, c, rfl, hc, fun i hi => ⟨g, 0, X i, rfl, ?_, ?_, ?_, ?_, hX i hi⟩⟩
    · simpa using H (i * 4 + 0) _ (by rw [rowsOf_at hf n i 0 hi (by omega)]; rfl)
    · simpa using H (i * 4 + 1) _ (by rw [rowsOf_at hf n i 1 hi (by omega)]; rfl)
    · simpa using H (i * 4 + 2) _ (by rw [rowsOf_at hf n i 2 hi (by omega)]; rfl)
    · simpa using H (i * 4 + 3) _ (by rw [rowsOf_at hf n i 3 hi (by omega)]; rfl)
theorem EA.of_row {w : World} {B E n : Nat} {v : Value} {S : Nat → Ed} (h : w.ownsRow B E 2 v n (rowsOf (edV S) n)) : EA w v n S := by
  rcases Nat.eq_zero_or_pos n with rfl | hn
  · obtain ⟨a, m, rfl⟩ := owns_zero h
    exact ⟨a, m, rfl, Nat.zero_le _, fun i hi => absurd hi (Nat.not_lt_zero i)⟩
  · obtain ⟨g, c, rfl, hc, H⟩ := owns_open h hn
    have hf : ∀ i, (edV S i).length = 2 := fun i => rfl
    refine ⟨_, c, rfl, hc, fun i hi => ⟨g, 0, rfl, ?_, ?_⟩⟩
    · simpa using H (i * 2 + 0) _ (by rw [rowsOf_at hf n i 0 hi (by omega)]; rfl)
    · simpa using H (i * 2 + 1) _ (by rw [rowsOf_at hf n i 1 hi (by omega)]; rfl)

/-- Block b holds five cells and may be written. -/
structure BX (w : World) (b : Nat) (c0 c1 c2 c3 c4 : Value) : Prop where
  k0 : w.cell? ⟨b, 0, none⟩ = some c0
  k1 : w.cell? ⟨b, 1, none⟩ = some c1
  k2 : w.cell? ⟨b, 2, none⟩ = some c2
  k3 : w.cell? ⟨b, 3, none⟩ = some c3
  k4 : w.cell? ⟨b, 4, none⟩ = some c4
  fz : ∀ o, w.frozen? ⟨b, o, none⟩ = false
theorem BX.lt {w : World} {b : Nat} {c0 c1 c2 c3 c4 : Value} (h : BX w b c0 c1 c2 c3 c4) : b < w.heap.size := block_lt_of_cell h.k0
theorem BX.far {w w' : World} {B b : Nat} {c0 c1 c2 c3 c4 : Value} (h : BX w b c0 c1 c2 c3 c4) (hb : Below B w w') (hl : b < B) : BX w' b c0 c1 c2 c3 c4 :=
  ⟨(hb.cell hl).trans h.k0, (hb.cell hl).trans h.k1, (hb.cell hl).trans h.k2, (hb.cell hl).trans h.k3, (hb.cell hl).trans h.k4, fun o => (hb.frozen hl).trans (h.fz o)⟩
theorem BX.of_alloc (w : World) (b : Nat) (c0 c1 c2 c3 c4 : Value) (t : TypeId) (h : b = w.heap.size) : BX (w.alloc (.cells #[c0, c1, c2, c3, c4] t)) b c0 c1 c2 c3 c4 := by
  subst h; exact ⟨by simp [go_sem], by simp [go_sem], by simp [go_sem], by simp [go_sem], by simp [go_sem], fun o => by simp [go_sem]⟩
theorem BX.set3 {w : World} {b : Nat} {c0 c1 c2 c3 c4 : Value} (h : BX w b c0 c1 c2 c3 c4) (u : Value) : BX (w.setCell ⟨b, 3, none⟩ u) b c0 c1 c2 u c4 :=
  ⟨by simp [go_sem, h.k0], by simp [go_sem, h.k1], by simp [go_sem, h.k2], by simp [go_sem, h.k3], by simp [go_sem, h.k4], fun o => by rw [World.frozen?_setCell]; exact h.fz o⟩
theorem BX.set4 {w : World} {b : Nat} {c0 c1 c2 c3 c4 : Value} (h : BX w b c0 c1 c2 c3 c4) (u : Value) : BX (w.setCell ⟨b, 4, none⟩ u) b c0 c1 c2 c3 u :=
  ⟨by simp [go_sem, h.k0], by simp [go_sem, h.k1], by simp [go_sem, h.k2], by simp [go_sem, h.k3], by simp [go_sem, h.k4], fun o => by rw [World.frozen?_setCell]; exact h.fz o⟩
theorem BX.other {w : World} {b b' o : Nat} {c0 c1 c2 c3 c4 u : Value} (h : BX w b c0 c1 c2 c3 c4) (hne : b ≠ b') : BX (w.setCell ⟨b', o, none⟩ u) b c0 c1 c2 c3 c4 :=
  ⟨by rw [World.cell?_setCell_far _ _ _ _ (by simpa using hne.symm)]; exact h.k0, by rw [World.cell?_setCell_far _ _ _ _ (by simpa using hne.symm)]; exact h.k1, by rw [World.cell?_setCell_far _ _ _ _ (by simpa using hne.symm)]; exact h.k2, by rw [World.cell?_setCell_far _ _ _ _ (by simpa using hne.symm)]; exact h.k3, by rw [World.cell?_setCell_far _ _ _ _ (by simpa using hne.symm)]; exact h.k4, fun o => by rw [World.frozen?_setCell]; exact h.fz o⟩

theorem BX.put5 {w : World} {b : Nat} {x0 x1 x2 x3 x4 : Value} (h : BX w b x0 x1 x2 x3 x4) (c0 c1 c2 c3 c4 : Value) : BX (((((w.setCell ⟨b, 0, none⟩ c0).setCell ⟨b, 1, none⟩ c1).setCell ⟨b, 2, none⟩ c2).setCell ⟨b, 3, none⟩ c3).setCell ⟨b, 4, none⟩ c4) b c0 c1 c2 c3 c4 := by
  obtain ⟨h0, h1, h2, h3, h4, hz⟩ := h
  exact ⟨by simp [go_sem, h0], by simp [go_sem, h1], by simp [go_sem, h2], by simp [go_sem, h3], by simp [go_sem, h4], fun o => by simp only [World.frozen?_setCell]; exact hz o⟩
theorem owns_put5 {w : World} {b B E size n : Nat} {v : Value} {xs : List Value} (h : w.ownsRow B E size v n xs) (hb : b < B) (c0 c1 c2 c3 c4 : Value) : (((((w.setCell ⟨b, 0, none⟩ c0).setCell ⟨b, 1, none⟩ c1).setCell ⟨b, 2, none⟩ c2).setCell ⟨b, 3, none⟩ c3).setCell ⟨b, 4, none⟩ c4).ownsRow B E size v n xs :=
  owns_far (owns_far (owns_far (owns_far (owns_far h (by simpa using hb) _) (by simpa using hb) _) (by simpa using hb) _) (by simpa using hb) _) (by simpa using hb) _
theorem below_put5 {w w' : World} {b B : Nat} (h : Below B w w') (hb : B ≤ b) (c0 c1 c2 c3 c4 : Value) : Below B w (((((w'.setCell ⟨b, 0, none⟩ c0).setCell ⟨b, 1, none⟩ c1).setCell ⟨b, 2, none⟩ c2).setCell ⟨b, 3, none⟩ c3).setCell ⟨b, 4, none⟩ c4) :=
  ((((h.setCell (by simpa using hb) _).setCell (by simpa using hb) _).setCell (by simpa using hb) _).setCell (by simpa using hb) _).setCell (by simpa using hb) _
theorem results_cell {fn : Func} {c : Tmp} {ty : TypeId} (h : fn.results = #[.cell c ty]) (tmps : Array Value) (P : Program) (w : World) {p : Addr} {r : Value} (h1 : tmps.getD c undef = .pointer (some p)) (h3 : (loadVar ty p).run P w = .ok r w) :
    (results fn tmps).run P w = .ok r w := by
  rw [Array.getD_eq_getD_getElem?] at h1
  simp [results, h, h1, h3, asAddr]
theorem load43 {w : World} {b : Nat} {c0 c1 c2 c3 c4 : Value} (h : BX w b c0 c1 c2 c3 c4) : (loadVar 43 ⟨b, 0, none⟩).run Try.prog w = .ok (.agg #[c0, c1, c2, c3, c4]) w := by
  obtain ⟨h0, h1, h2, h3, h4, _⟩ := h
  simp [go_sem, h0, h1, h2, h3, h4]
theorem cells4 {w : World} {g : Nat} {c0 c1 c2 c3 : Value} (h0 : w.cell? ⟨g, 0, none⟩ = some c0) (h1 : w.cell? ⟨g, 1, none⟩ = some c1) (h2 : w.cell? ⟨g, 2, none⟩ = some c2) (h3 : w.cell? ⟨g, 3, none⟩ = some c3) (j : Nat) (u : Value) (hj : [c0, c1, c2, c3][j]? = some u) : w.cell? ⟨g, j, none⟩ = some u := by
  match j, hj with
  | 0, hj => simp at hj; rw [← hj]; exact h0
  | 1, hj => simp at hj; rw [← hj]; exact h1
  | 2, hj => simp at hj; rw [← hj]; exact h2
  | 3, hj => simp at hj; rw [← hj]; exact h3
  | j + 4, hj => simp at hj
theorem cells2 {w : World} {g : Nat} {c0 c1 : Value} (h0 : w.cell? ⟨g, 0, none⟩ = some c0) (h1 : w.cell? ⟨g, 1, none⟩ = some c1) (j : Nat) (u : Value) (hj : [c0, c1][j]? = some u) : w.cell? ⟨g, j, none⟩ = some u := by
  match j, hj with
  | 0, hj => simp at hj; rw [← hj]; exact h0
  | 1, hj => simp at hj; rw [← hj]; exact h1
  | j + 2, hj => simp at hj

set_option maxRecDepth 100000 in
set_option maxHeartbeats 4000000 in
theorem track_any (v : Value) (T : Tr) (w : World) (hv : TA w v T) (hS : T.nS ≤ 1000000) (hE : T.nE ≤ 1000000) :
    Calls Try.prog 15 #[v] w fun e w' => ∃ r, e = .returned r ∧ TA w' r T ∧ Below w.heap.size w w' := by
  obtain ⟨c0, c1, c2, c3, c4, rfl, rfl, rfl, b2, b3, b4⟩ := hv
  obtain ⟨a2, d2, rfl⟩ := b2.shape
  obtain ⟨a3, d3, rfl⟩ := b3.shape
  obtain ⟨a4, d4, rfl⟩ := b4.shape
  obtain ⟨X, hX⟩ := b3.pick
  have HX := Lib.hid hX
  have HB2 := Lib.hid b2
  have HB4 := Lib.hid b4
  clear b2 b3 b4 hX
  go_enter Try.func15, Try.ntmps15
  go_wp2_with fail
  obtain ⟨w1, hw⟩ : ∃ x, x = ((w.alloc (.cells #[.string T.h, .int .i64 T.sc, .slice a2 T.nC d2, .slice a3 T.nS d3, .slice a4 T.nE d4] 48)).alloc (.cells #[.string { data := #[] }, .int .i64 0, .slice none 0 0, .slice none 0 0, .slice none 0 0] 43)).alloc (.cells #[.string T.h, .int .i64 T.sc, .slice a2 T.nC d2, .slice none 0 0, .slice none 0 0] 43) := ⟨_, rfl⟩
  rw [← hw]
  have hb1 : Below w.heap.size w w1 := by rw [hw]; go_grown
  have xa : BX w1 w.heap.size (.string T.h) (.int .i64 T.sc) (.slice a2 T.nC d2) (.slice a3 T.nS d3) (.slice a4 T.nE d4) := by
    rw [hw]; exact ((BX.of_alloc w _ _ _ _ _ _ 48 rfl).far (below_box _ _) (by simp)).far (below_box _ _) (by simp; omega)
  have xr : BX w1 (w.heap.size + 1) (.string { data := #[] }) (.int .i64 0) (.slice none 0 0) (.slice none 0 0) (.slice none 0 0) := by
    rw [hw]; exact (BX.of_alloc _ _ _ _ _ _ _ 43 (by simp)).far (below_box _ _) (by simp)
  have xx : BX w1 (w.heap.size + 1 + 1) (.string T.h) (.int .i64 T.sc) (.slice a2 T.nC d2) (.slice none 0 0) (.slice none 0 0) := by
    rw [hw]; exact BX.of_alloc _ _ _ _ _ _ _ 43 (by simp)
  have hsz : w1.heap.size = w.heap.size + 1 + 1 + 1 := by rw [hw]; simp
  obtain ⟨bla, hbla⟩ : ∃ z, z = w.heap.size := ⟨_, rfl⟩
  obtain ⟨blr, hblr⟩ : ∃ z, z = w.heap.size + 1 := ⟨_, rfl⟩
  obtain ⟨blx, hblx⟩ : ∃ z, z = w.heap.size + 1 + 1 := ⟨_, rfl⟩
  obtain ⟨B, hB⟩ : ∃ z, z = w1.heap.size := ⟨_, rfl⟩
  have n0 : w.heap.size ≤ bla := by omega
  have n1 : bla < blr := by omega
  have n2 : blr < blx := by omega
  have n3 : blx < B := by omega
  have n4 : B ≤ w1.heap.size := by omega
  rw [← hblx] at xx ⊢
  rw [← hblr] at xr ⊢
  rw [← hbla] at xa ⊢
  have XA := Lib.hid xa
  have XR := Lib.hid xr
  have XX := Lib.hid xx
  have HB := Lib.hid hb1
  clear hw hb1 xa xr xx hsz hbla hblr hblx hB
  go_loopw [4] (fun i wr => ∃ (k : Nat) (v : Value), k ≤ T.nS ∧ i = .int .i64 (k : Int) ∧ BX wr blx (.string T.h) (.int .i64 T.sc) (.slice a2 T.nC d2) v (.slice none 0 0) ∧ BX wr bla (.string T.h) (.int .i64 T.sc) (.slice a2 T.nC d2) (.slice a3 T.nS d3) (.slice a4 T.nE d4) ∧ BX wr blr (.string { data := #[] }) (.int .i64 0) (.slice none 0 0) (.slice none 0 0) (.slice none 0 0) ∧ wr.ownsRow B 75 4 v k (rowsOf (smV X T.S) k) ∧ Below w.heap.size w wr ∧ B ≤ wr.heap.size) (fun i _ => T.nS - (intOf i).toNat)
  case atStart => exact ⟨0, _, Nat.zero_le _, rfl, XX.out, XA.out, XR.out, owns_nil _ _ _ _, HB.out, n4⟩
  case round =>
    obtain ⟨k, v, hk, rfl, xx, xa, xr, ho, hb, hsz⟩ := hrel
    obtain ⟨va, vm, vc, rfl⟩ := owns_shape ho
    have HO := Lib.hid ho
    have HBW := Lib.hid hb
    have HXX := Lib.hid xx
    have HXA := Lib.hid xa
    have HXR := Lib.hid xr
    have a3' := xa.k3
    clear ho hb xx xa xr
    by_cases hlt : k < T.nS
    · obtain ⟨b, o, c, e, h0, h1, h2, h3, hx⟩ := HX.out k hlt
      simp only [Value.slice.injEq, true_and] at e
      obtain ⟨rfl, rfl⟩ := e
      obtain ⟨ax, dx, ex⟩ := hx.shape
      rw [ex] at h0
      have EX := Lib.hid ex
      replace h0 := (HBW.out.cell (block_lt_of_cell h0)).trans h0
      replace h1 := (HBW.out.cell (block_lt_of_cell h1)).trans h1
      replace h2 := (HBW.out.cell (block_lt_of_cell h2)).trans h2
      replace h3 := (HBW.out.cell (block_lt_of_cell h3)).trans h3
      have x3 := HXX.out.k3
      have xl := HXX.out.lt
      have fz := HXX.out.fz
      clear hx ex
      go_wp2_with (at_builtin; refine wpList_app _ rfl (.tmp 27) (.tmp 37) 40 75 4 48 _ Try.underlying40 info75 rfl (by decide) (by decide) rfl B k _ (.slice va vm vc) _ [.slice ax (T.S k).n dx, .int .i64 (T.S k).dur, .int .i64 (T.S k).shift, .bool (T.S k).sync] rfl (owns_below HO.out (by exact (below_box _ _).trans ((below_box _ _).mono (by simp)))) rfl rfl (cells4 (by simp [go_sem]) (by simp [go_sem]) (by simp [go_sem]) (by simp [go_sem])) (by simp [Value.oneCell']) (by omega) (by simp; omega) ?_)
      intro v' w6 hv' hb6
      have hv6 : Below B wr w6 := (((Below.refl B wr).alloc hsz _).alloc (by simp; omega) _).trans hb6
      obtain ⟨va', vm', vc', rfl⟩ := owns_shape hv'
      have xx6 := HXX.out.far hv6 n3
      have xa6 := HXA.out.far hv6 (by omega)
      have xr6 := HXR.out.far hv6 (by omega)
      have hb6' := HBW.out.trans (hv6.mono (by omega))
      have HV6 := Lib.hid (And.intro hv' (And.intro xx6 (And.intro xa6 (And.intro xr6 (And.intro hb6' (show B ≤ w6.heap.size by have := hv6.size; omega))))))
      have x36 := xx6.k3
      have fz6 := xx6.fz
      clear hv' hb6 hv6 xx6 xa6 xr6 hb6' x3 xl fz h0 h1 h2 h3
      go_wp2_with fail
      go_roundw
      case rel =>
        refine ⟨k + 1, .slice va' vm' vc', by omega, by go_num, HV6.out.2.1.set3 _, HV6.out.2.2.1.other (by omega), HV6.out.2.2.2.1.other (by omega), ?_, HV6.out.2.2.2.2.1.setCell (by simp; omega) _, by rw [World.size_setCell]; exact HV6.out.2.2.2.2.2⟩
        have e : rowsOf (smV X T.S) (k + 1) = rowsOf (smV X T.S) k ++ [.slice ax (T.S k).n dx, .int .i64 (T.S k).dur, .int .i64 (T.S k).shift, .bool (T.S k).sync] := by
          simp only [rowsOf, smV]; rw [EX.out]
        rw [e]
        exact owns_far HV6.out.1 (by simpa using n3) _
      case measure => simp [intOf]; omega
    · obtain rfl : k = T.nS := by omega
      clear XA XR XX HB
      go_wp2_with fail
      obtain ⟨w2, hw2⟩ : ∃ x, x = wr := ⟨_, rfl⟩
      rw [← hw2] at HO HBW HXX HXA HXR hsz ⊢
      obtain ⟨sa, sm, sc, es⟩ : ∃ a m c, Value.slice va vm vc = .slice a m c := ⟨_, _, _, rfl⟩
      have SG := Lib.hid (owns_in HO.out)
      rw [es] at SG
      have SZ := Lib.hid (show B ≤ w2.heap.size from hsz)
      clear hw2 a3'
      go_loopw [6] (fun i wx => ∃ (k : Nat) (v : Value), k ≤ T.nE ∧ i = .int .i64 (k : Int) ∧ BX wx blx (.string T.h) (.int .i64 T.sc) (.slice a2 T.nC d2) (.slice sa sm sc) v ∧ BX wx bla (.string T.h) (.int .i64 T.sc) (.slice a2 T.nC d2) (.slice a3 T.nS d3) (.slice a4 T.nE d4) ∧ BX wx blr (.string { data := #[] }) (.int .i64 0) (.slice none 0 0) (.slice none 0 0) (.slice none 0 0) ∧ wx.ownsRow w2.heap.size 76 2 v k (rowsOf (edV T.E) k) ∧ wx.ownsRow B 75 4 (.slice sa sm sc) T.nS (rowsOf (smV X T.S) T.nS) ∧ Below w.heap.size w wx ∧ w2.heap.size ≤ wx.heap.size) (fun i _ => T.nE - (intOf i).toNat)
      case atStart => exact ⟨0, _, Nat.zero_le _, rfl, by rw [← es]; exact HXX.out, HXA.out, HXR.out, owns_nil _ _ _ _, by rw [← es]; exact HO.out, HBW.out, Nat.le_refl _⟩
      case round =>
        obtain ⟨k, v, hk, rfl, xx, xa, xr, ho, hos, hb, hs2⟩ := hrel
        obtain ⟨va, vm, vc, rfl⟩ := owns_shape ho
        have KO := Lib.hid ho
        have KS := Lib.hid hos
        have KBW := Lib.hid hb
        have KXX := Lib.hid xx
        have KXA := Lib.hid xa
        have KXR := Lib.hid xr
        have a4' := xa.k4
        have x4 := xx.k4
        clear ho hos hb xx xa xr HXX HXA HXR HO
        by_cases hlt : k < T.nE
        · obtain ⟨ao', c', e, hcc', H⟩ := HB4.out
          simp only [Value.slice.injEq, true_and] at e
          obtain ⟨rfl, rfl⟩ := e
          obtain ⟨b, o, rfl, h0, h1⟩ := H k hlt
          have hbs := block_lt_of_cell h0
          replace h0 := (KBW.out.cell (block_lt_of_cell h0)).trans h0
          replace h1 := (KBW.out.cell (block_lt_of_cell h1)).trans h1
          have HLT := Lib.hid hbs
          clear H hbs
          go_wp2_with fail
          refine Plan.wp_region_planz (fun w' => w'.cell? ⟨blx, 4, none⟩ = some (.slice va vm vc) ∧ w'.cell? ⟨bla, 4, none⟩ = some (.slice (some ⟨b, o, none⟩) T.nE d4) ∧ w'.cell? ⟨b, o + k * 2, none⟩ = some (.int .i64 (T.E k).dur) ∧ w'.cell? ⟨b, o + k * 2 + 1, none⟩ = some (.int .i64 (T.E k).time)) 18 (([0, 1, 2, 3, 4, 5, 6, 7, 8, 9, 10, 11, 12, 13, 14].map (·, true)) ++ (([15, 16].map (·, false)) ++ (([17].map (·, true)) ++ (([18].map (·, false)))))) (by kernel_rfl) (by kernel_rfl) (by kernel_rfl) ⟨x4, a4', h0, h1⟩ ?_
          refine' Plan.plan_seg _ [0, 1, 2, 3, 4, 5, 6, 7, 8, 9, 10, 11, 12, 13, 14] (([15, 16].map (·, false)) ++ (([17].map (·, true)) ++ (([18].map (·, false))))) (by kernel_rfl) (by kernel_rfl) rfl (by exact ⟨x4, a4', h0, h1⟩) (fun wx hS => ?_) ?_
          rotate_left
          · obtain ⟨y0, y1, y2, y3⟩ := hS
            go_light
            iterate 15 (apply Plan.seg_pick; rfl; intro K hK; go_wp)
            exact Plan.seg_nil
          have hdr : Below wr.heap.size wr (wr.alloc (.cells #[.int .i64 (T.E k).dur, .int .i64 (T.E k).time] 76)).drew := (below_box _ _).drew
          refine Plan.plan_of_effect rfl (fun K hK => ?_)
          go_wp2_with fail
          obtain ⟨wz, hwz⟩ : ∃ x, x = (wr.alloc (.cells #[.int .i64 (T.E k).dur, .int .i64 (T.E k).time] 76)).drew := ⟨_, rfl⟩
          rw [← hwz] at hdr ⊢
          have z0 : wz.cell? ⟨wr.heap.size, 0, none⟩ = some (.int .i64 (T.E k).dur) := by rw [hwz]; simp [go_sem]
          have z1 : wz.cell? ⟨wr.heap.size, 1, none⟩ = some (.int .i64 (T.E k).time) := by rw [hwz]; simp [go_sem]
          have hs3 : w2.heap.size ≤ wz.heap.size := by have := hdr.size; omega
          have HD := Lib.hid hdr
          clear hwz hdr
          refine ⟨⟨(HD.out.cell (block_lt_of_cell x4)).trans x4, (HD.out.cell (block_lt_of_cell a4')).trans a4', (HD.out.cell (block_lt_of_cell h0)).trans h0, (HD.out.cell (block_lt_of_cell h1)).trans h1⟩, ?_⟩
          refine Plan.plan_of_effect rfl (fun K hK => ?_)
          refine wpList_app wz rfl (.tmp 48) (.tmp 62) 41 76 2 16 _ Try.underlying41 info76 rfl (by decide) (by decide) rfl w2.heap.size k wr.heap.size (.slice va vm vc) _ [.int .i64 (T.E k).dur, .int .i64 (T.E k).time] (by simp [go_sem]) (owns_below KO.out HD.out) (by simp [go_sem]) rfl (cells2 z0 z1) (by simp [Value.oneCell']) (by omega) hs3 ?_
          intro v' w6 hv' hb6
          have hv6 : Below w2.heap.size wr w6 := (HD.out.mono hs2).trans hb6
          obtain ⟨va', vm', vc', rfl⟩ := owns_shape hv'
          have hB2 : B ≤ w2.heap.size := hsz
          have xx6 := KXX.out.far hv6 (by omega)
          have xa6 := KXA.out.far hv6 (by omega)
          have xr6 := KXR.out.far hv6 (by omega)
          have hb6' := KBW.out.trans (hv6.mono (by omega))
          have hos6 := owns_stay KS.out hv6 SG.out
          have HV6 := Lib.hid (And.intro hv' (And.intro xx6 (And.intro xa6 (And.intro xr6 (And.intro hb6' (And.intro hos6 (show w2.heap.size ≤ w6.heap.size by have := hv6.size; omega)))))))
          have g4 := xx6.k4
          have ga := xa6.k4
          have e0 := (hv6.cell (p := ⟨b, o + k * 2, none⟩) (by have := HLT.out; have := SZ.out; simp; omega)).trans h0
          have e1 := (hv6.cell (p := ⟨b, o + k * 2 + 1, none⟩) (by have := HLT.out; have := SZ.out; simp; omega)).trans h1
          have fz6 := xx6.fz
          clear hv' hb6 hv6 xx6 xa6 xr6 hb6' hos6 x4 a4' h0 h1 z0 z1
          go_wp2_with fail
          refine ⟨⟨g4, ga, e0, e1⟩, ?_⟩
          refine' Plan.plan_seg _ [17] (([18].map (·, false))) (by kernel_rfl) (by kernel_rfl) rfl (by exact ⟨g4, ga, e0, e1⟩) (fun wx hS => ?_) ?_
          rotate_left
          · obtain ⟨y0, y1, y2, y3⟩ := hS
            go_light
            iterate 1 (apply Plan.seg_pick; rfl; intro K hK; go_wp)
            exact Plan.seg_nil
          refine Plan.plan_of_last rfl (fun K hK => ?_)
          go_wp2_with fail
          refine Plan.plan_done ?_
          go_wp2_with fail
          go_roundw
          case rel =>
            refine ⟨k + 1, .slice va' vm' vc', by omega, by go_num, HV6.out.2.1.set4 _, HV6.out.2.2.1.other (by omega), HV6.out.2.2.2.1.other (by omega), ?_, owns_far HV6.out.2.2.2.2.2.1 (by simpa using n3) _, HV6.out.2.2.2.2.1.setCell (by simp; omega) _, by rw [World.size_setCell]; exact HV6.out.2.2.2.2.2.2⟩
            exact owns_far HV6.out.1 (by simp; omega) _
          case measure => simp [intOf]; omega
        · obtain rfl : k = T.nE := by omega
          obtain ⟨x0, x1, x2, x3, x4', xz⟩ := KXX.out
          obtain ⟨r0, r1, r2, r3, r4, rz⟩ := KXR.out
          go_wp2_with fail
          refine bodyPost_ret (results_cell rfl _ _ _ rfl (load43 (KXR.out.put5 _ _ _ _ _))) rfl ?_
          have hf := below_put5 KBW.out (show w.heap.size ≤ blr by omega) (.string T.h) (.int .i64 T.sc) (.slice a2 T.nC d2)
          refine ⟨_, rfl, ⟨_, _, _, _, _, rfl, ⟨rfl, rfl, HB2.out.below (hf _ _), SA.of_row (owns_put5 KS.out (by omega) _ _ _ _ _) (fun i hi => ?_), EA.of_row (owns_put5 KO.out (by omega) _ _ _ _ _)⟩⟩, hf _ _⟩
          obtain ⟨_, _, _, _, _, _, _, _, hx⟩ := HX.out i hi
          exact hx.below (hf _ _)

end Go.Proofs.Ytkhjkemllgjfmaa

/- A track copied by the statements' track: its parts stay while others change. -/
namespace Go.Proofs.Ytkhjkemllgjfmaa
open Go.RowKit
set_option linter.unusedVariables false

theorem BA.ag {w w' : World} {v : Value} {n : Nat} {f : Nat → Int} (h : BA w v n f) (ha : ∀ p : Addr, p.block < w.heap.size → w'.cell? p = w.cell? p) : BA w' v n f := by
  obtain ⟨ao, c, rfl, hc, H⟩ := h
  refine ⟨ao, c, rfl, hc, fun i hi => ?_⟩
  obtain ⟨⟨b, o, he, hcell⟩, h2⟩ := H i hi
  exact ⟨⟨b, o, he, (ha ⟨b, o + i, none⟩ (block_lt_of_cell hcell)).trans hcell⟩, h2⟩
theorem owns_open_ag {w w' : World} {B E size n : Nat} {v : Value} {xs : List Value} (h : w.ownsRow B E size v n xs) (ha : ∀ b cur, B ≤ b → w.heap[b]? = some (.cells cur E (0, 0)) → w'.heap[b]? = w.heap[b]?) (hn : 0 < n) : ∃ g c, v = .slice (some ⟨g, 0, none⟩) n c ∧ n ≤ c ∧ ∀ i u, xs[i]? = some u → w'.cell? ⟨g, i, none⟩ = some u := by
  obtain ⟨g, c, e, hc, H⟩ := owns_open h hn
  rcases h.2 with ⟨h1, h0⟩ | ⟨g', cap, cur, h1, h2, h3, _⟩
  · omega
  · rw [h1] at e; cases e
    exact ⟨g, c, h1, hc, fun i u hi => (World.cell?_of_block (ha g cur h2 h3)).trans (H i u hi)⟩
theorem SA.of_row_ag {w w' : World} {B E n : Nat} {v : Value} {X : Nat → Value} {S : Nat → Sm} (h : w.ownsRow B E 4 v n (rowsOf (smV X S) n)) (ha : ∀ b cur, B ≤ b → w.heap[b]? = some (.cells cur E (0, 0)) → w'.heap[b]? = w.heap[b]?) (hX : ∀ i, i < n → BA w' (X i) (S i).n (S i).D) : SA w' v n S := by
  rcases Nat.eq_zero_or_pos n with rfl | hn
  · obtain ⟨a, m, rfl⟩ := owns_zero h
    exact ⟨a, m, rfl, Nat.zero_le _, fun i hi => absurd hi (Nat.not_lt_zero i)⟩
  · obtain ⟨g, c, rfl, hc, H⟩ := owns_open_ag h ha hn
    have hf : ∀ i, (smV X S i).length = 4 := fun i => rfl
    refine ⟨_, c, rfl, hc, fun i hi => ⟨g, 0, X i, rfl, ?_, ?_, ?_, ?_, hX i hi⟩⟩
    · simpa using H (i * 4 + 0) _ (by rw [rowsOf_at hf n i 0 hi (by omega)]; rfl)
    · simpa using H (i * 4 + 1) _ (by rw [rowsOf_at hf n i 1 hi (by omega)]; rfl)
    · simpa using H (i * 4 + 2) _ (by rw [rowsOf_at hf n i 2 hi (by omega)]; rfl)
    · simpa using H (i * 4 + 3) _ (by rw [rowsOf_at hf n i 3 hi (by omega)]; rfl)
theorem EA.of_row_ag {w w' : World} {B E n : Nat} {v : Value} {S : Nat → Ed} (h : w.ownsRow B E 2 v n (rowsOf (edV S) n)) (ha : ∀ b cur, B ≤ b → w.heap[b]? = some (.cells cur E (0, 0)) → w'.heap[b]? = w.heap[b]?) : EA w' v n S := by
  rcases Nat.eq_zero_or_pos n with rfl | hn
  · obtain ⟨a, m, rfl⟩ := owns_zero h
    exact ⟨a, m, rfl, Nat.zero_le _, fun i hi => absurd hi (Nat.not_lt_zero i)⟩
  · obtain ⟨g, c, rfl, hc, H⟩ := owns_open_ag h ha hn
    have hf : ∀ i, (edV S i).length = 2 := fun i => rfl
    refine ⟨_, c, rfl, hc, fun i hi => ⟨g, 0, rfl, ?_, ?_⟩⟩
    · simpa using H (i * 2 + 0) _ (by rw [rowsOf_at hf n i 0 hi (by omega)]; rfl)
    · simpa using H (i * 2 + 1) _ (by rw [rowsOf_at hf n i 1 hi (by omega)]; rfl)

/-- The tracks in a row's cells. -/
def TR (w : World) (T : Nat → Tr) (n : Nat) (xs : List Value) : Prop := ∀ i, i < n → ∃ c0 c1 c2 c3 c4, xs[i * 5]? = some c0 ∧ xs[i * 5 + 1]? = some c1 ∧ xs[i * 5 + 2]? = some c2 ∧ xs[i * 5 + 3]? = some c3 ∧ xs[i * 5 + 4]? = some c4 ∧ TC w c0 c1 c2 c3 c4 (T i)
theorem TR.step {w : World} {T : Nat → Tr} {n : Nat} {xs : List Value} (h : TR w T n xs) (hl : xs.length = n * 5) {c0 c1 c2 c3 c4 : Value} (hc : TC w c0 c1 c2 c3 c4 (T n)) : TR w T (n + 1) (xs ++ [c0, c1, c2, c3, c4]) := by
  intro i hi
  by_cases e : i = n
  · subst e
    refine ⟨c0, c1, c2, c3, c4, ?_, ?_, ?_, ?_, ?_, hc⟩
    all_goals (rw [List.getElem?_append_right (by omega), hl])
    · simp
    · rw [show i * 5 + 1 - i * 5 = 1 by omega]; rfl
    · rw [show i * 5 + 2 - i * 5 = 2 by omega]; rfl
    · rw [show i * 5 + 3 - i * 5 = 3 by omega]; rfl
    · rw [show i * 5 + 4 - i * 5 = 4 by omega]; rfl
  · obtain ⟨d0, d1, d2, d3, d4, h0, h1, h2, h3, h4, h5⟩ := h i (by omega)
    exact ⟨d0, d1, d2, d3, d4, by rw [List.getElem?_append_left (by omega)]; exact h0, by rw [List.getElem?_append_left (by omega)]; exact h1, by rw [List.getElem?_append_left (by omega)]; exact h2, by rw [List.getElem?_append_left (by omega)]; exact h3, by rw [List.getElem?_append_left (by omega)]; exact h4, h5⟩
theorem TSA.of_row {w : World} {B E n : Nat} {v : Value} {T : Nat → Tr} {xs : List Value} (h : w.ownsRow B E 5 v n xs) (ht : TR w T n xs) : TSA w v n T := by
  rcases Nat.eq_zero_or_pos n with rfl | hn
  · obtain ⟨a, m, rfl⟩ := owns_zero h
    exact ⟨a, m, rfl, Nat.zero_le _, fun i hi => absurd hi (Nat.not_lt_zero i)⟩
  · obtain ⟨g, c, rfl, hc, H⟩ := owns_open h hn
    refine ⟨_, c, rfl, hc, fun i hi => ?_⟩
    obtain ⟨d0, d1, d2, d3, d4, h0, h1, h2, h3, h4, h5⟩ := ht i hi
    exact ⟨g, 0, d0, d1, d2, d3, d4, rfl, by simpa using H _ _ h0, by simpa using H _ _ h1, by simpa using H _ _ h2, by simpa using H _ _ h3, by simpa using H _ _ h4, h5⟩

/-- One element appended; what other blocks hold stays. -/
theorem wpList_app2 (w : World) {ops : Array Oper} {rest : List Oper} {o : Oper} {a : Act} {Q : Exit → Act → World → Prop} (hgd : o.guard = none) (s x : Operand) (t E : TypeId) (size bytes : Nat) (z : Value) (ht : Try.prog.underlying t = some (.slice E))
    (hE : (Try.prog.info? E).map (fun i => (i.zero, i.size, i.bytes)) = some (some z, size, bytes)) (hzs : z.cells.size = size) (hsz : 0 < size) (hby : bytes ≤ 1000)
    (ho : o.op = .call { callee := .builtin .append, args := #[s, x], argTypes := #[t, t] }) (B k g : Nat) (v : Value) (xs news : List Value) (hs : a.eval s = v) (hown : w.ownsRow B E size v k xs)
    (hx : a.eval x = .slice (some ⟨g, 0, none⟩) 1 1) (hl : news.length = size) (hnews : ∀ j u, news[j]? = some u → w.cell? ⟨g, j, none⟩ = some u) (h1 : ∀ u ∈ news, u.oneCell' = true)
    (hk : k ≤ 100000000) (hB : B ≤ w.heap.size)
    (h : ∀ v' w', w'.ownsRow B E size v' (k + 1) (xs ++ news) → Below B w w' → (∀ (b : Nat) (cur : Array Value) (e : TypeId), w.heap[b]? = some (.cells cur e (0, 0)) → e ≠ E → w'.heap[b]? = w.heap[b]?) → wpList Try.prog ops Q rest (a.put o.dst v') w') : wpList Try.prog ops Q (o :: rest) a w := by
  obtain ⟨i0, hi, hz0, hz1, hz2⟩ := info_parts hE
  have hb2 : (k + 1) * bytes ≤ (100000000 + 1) * 1000 := Nat.mul_le_mul (by omega) hby
  refine wpList_append_own _ hgd s x t ho B E i0 z size bytes ht hi hz0 hz1 hz2 hzs hsz v k xs hs hown ⟨g, 0, none⟩ 1 1 news hx (by omega) (fun j u hj => ?_) h1 (by unfold maxLen; omega) (by omega) hB (fun v' w' hown' hg hnil => ?_)
  · rw [Addr.add_lit, Nat.zero_add]; exact hnews j u hj
  · refine h v' w' hown' ((Below.refl _ _).grown hg hB (fun k' h' => ?_)) (fun b cur e hb hne => ?_)
    · rcases hown.2 with ⟨rfl, _⟩ | ⟨g', cap, cur, rfl, hg', _⟩
      · cases h'
      · cases h'; exact hg'
    · refine hg.block b (Array.getElem?_eq_some_iff.1 hb).1 (fun h' => ?_)
      rcases hown.2 with ⟨rfl, _⟩ | ⟨g', cap, cur', rfl, _, hg', _⟩
      · cases h'
      · cases h'; rw [hb] at hg'; cases hg'; exact hne rfl

set_option maxRecDepth 100000 in
set_option maxHeartbeats 4000000 in
theorem track_far (v : Value) (T : Tr) (wo w : World) (hv : TA wo v T) (hbo : Below wo.heap.size wo w) (hS : T.nS ≤ 1000000) (hE : T.nE ≤ 1000000) :
    Calls Try.prog 15 #[v] w fun e w' => ∃ c0 c1 c2 c3 c4, e = .returned (.agg #[c0, c1, c2, c3, c4]) ∧ Below w.heap.size w w' ∧ ∀ w'' : World, (∀ p : Addr, p.block < wo.heap.size → w''.cell? p = wo.cell? p) → (∀ b cur e, w.heap.size ≤ b → w'.heap[b]? = some (.cells cur e (0, 0)) → e ≠ 43 → w''.heap[b]? = w'.heap[b]?) → TC w'' c0 c1 c2 c3 c4 T := by
  obtain ⟨c0, c1, c2, c3, c4, rfl, rfl, rfl, b2, b3, b4⟩ := hv
  obtain ⟨a2, d2, rfl⟩ := b2.shape
  obtain ⟨a3, d3, rfl⟩ := b3.shape
  obtain ⟨a4, d4, rfl⟩ := b4.shape
  obtain ⟨X, hX⟩ := b3.pick
  have KX := Lib.hid hX
  have HX := Lib.hid (show ∀ i, i < T.nS → ∃ b o c, Value.slice a3 T.nS d3 = .slice (some ⟨b, o, none⟩) T.nS c ∧ w.cell? ⟨b, o + i * 4, none⟩ = some (X i) ∧ w.cell? ⟨b, o + i * 4 + 1, none⟩ = some (.int .i64 (T.S i).dur) ∧ w.cell? ⟨b, o + i * 4 + 2, none⟩ = some (.int .i64 (T.S i).shift) ∧ w.cell? ⟨b, o + i * 4 + 3, none⟩ = some (.bool (T.S i).sync) ∧ BA w (X i) (T.S i).n (T.S i).D from fun i hi => by
    obtain ⟨b, o, c, e, h0, h1, h2, h3, hx⟩ := hX i hi
    exact ⟨b, o, c, e, (hbo.cell (block_lt_of_cell h0)).trans h0, (hbo.cell (block_lt_of_cell h1)).trans h1, (hbo.cell (block_lt_of_cell h2)).trans h2, (hbo.cell (block_lt_of_cell h3)).trans h3, hx.below hbo⟩)
  have KB2 := Lib.hid b2
  have HB4 := Lib.hid (b4.below hbo)
  have HBO := Lib.hid hbo
  clear b2 b3 b4 hX hbo
  go_enter Try.func15, Try.ntmps15
  go_wp2_with fail
  obtain ⟨w1, hw⟩ : ∃ x, x = ((w.alloc (.cells #[.string T.h, .int .i64 T.sc, .slice a2 T.nC d2, .slice a3 T.nS d3, .slice a4 T.nE d4] 48)).alloc (.cells #[.string { data := #[] }, .int .i64 0, .slice none 0 0, .slice none 0 0, .slice none 0 0] 43)).alloc (.cells #[.string T.h, .int .i64 T.sc, .slice a2 T.nC d2, .slice none 0 0, .slice none 0 0] 43) := ⟨_, rfl⟩
  rw [← hw]
  have hb1 : Below w.heap.size w w1 := by rw [hw]; go_grown
  have xa : BX w1 w.heap.size (.string T.h) (.int .i64 T.sc) (.slice a2 T.nC d2) (.slice a3 T.nS d3) (.slice a4 T.nE d4) := by
    rw [hw]; exact ((BX.of_alloc w _ _ _ _ _ _ 48 rfl).far (below_box _ _) (by simp)).far (below_box _ _) (by simp; omega)
  have xr : BX w1 (w.heap.size + 1) (.string { data := #[] }) (.int .i64 0) (.slice none 0 0) (.slice none 0 0) (.slice none 0 0) := by
    rw [hw]; exact (BX.of_alloc _ _ _ _ _ _ _ 43 (by simp)).far (below_box _ _) (by simp)
  have xx : BX w1 (w.heap.size + 1 + 1) (.string T.h) (.int .i64 T.sc) (.slice a2 T.nC d2) (.slice none 0 0) (.slice none 0 0) := by
    rw [hw]; exact BX.of_alloc _ _ _ _ _ _ _ 43 (by simp)
  have hsz : w1.heap.size = w.heap.size + 1 + 1 + 1 := by rw [hw]; simp
  obtain ⟨bla, hbla⟩ : ∃ z, z = w.heap.size := ⟨_, rfl⟩
  obtain ⟨blr, hblr⟩ : ∃ z, z = w.heap.size + 1 := ⟨_, rfl⟩
  obtain ⟨blx, hblx⟩ : ∃ z, z = w.heap.size + 1 + 1 := ⟨_, rfl⟩
  obtain ⟨B, hB⟩ : ∃ z, z = w1.heap.size := ⟨_, rfl⟩
  have n0 : w.heap.size ≤ bla := by omega
  have n1 : bla < blr := by omega
  have n2 : blr < blx := by omega
  have n3 : blx < B := by omega
  have n4 : B ≤ w1.heap.size := by omega
  rw [← hblx] at xx ⊢
  rw [← hblr] at xr ⊢
  rw [← hbla] at xa ⊢
  have XA := Lib.hid xa
  have XR := Lib.hid xr
  have XX := Lib.hid xx
  have HB := Lib.hid hb1
  clear hw hb1 xa xr xx hsz hbla hblr hblx hB
  go_loopw [4] (fun i wr => ∃ (k : Nat) (v : Value), k ≤ T.nS ∧ i = .int .i64 (k : Int) ∧ BX wr blx (.string T.h) (.int .i64 T.sc) (.slice a2 T.nC d2) v (.slice none 0 0) ∧ BX wr bla (.string T.h) (.int .i64 T.sc) (.slice a2 T.nC d2) (.slice a3 T.nS d3) (.slice a4 T.nE d4) ∧ BX wr blr (.string { data := #[] }) (.int .i64 0) (.slice none 0 0) (.slice none 0 0) (.slice none 0 0) ∧ wr.ownsRow B 75 4 v k (rowsOf (smV X T.S) k) ∧ Below w.heap.size w wr ∧ B ≤ wr.heap.size) (fun i _ => T.nS - (intOf i).toNat)
  case atStart => exact ⟨0, _, Nat.zero_le _, rfl, XX.out, XA.out, XR.out, owns_nil _ _ _ _, HB.out, n4⟩
  case round =>
    obtain ⟨k, v, hk, rfl, xx, xa, xr, ho, hb, hsz⟩ := hrel
    obtain ⟨va, vm, vc, rfl⟩ := owns_shape ho
    have HO := Lib.hid ho
    have HBW := Lib.hid hb
    have HXX := Lib.hid xx
    have HXA := Lib.hid xa
    have HXR := Lib.hid xr
    have a3' := xa.k3
    clear ho hb xx xa xr
    by_cases hlt : k < T.nS
    · obtain ⟨b, o, c, e, h0, h1, h2, h3, hx⟩ := HX.out k hlt
      simp only [Value.slice.injEq, true_and] at e
      obtain ⟨rfl, rfl⟩ := e
      obtain ⟨ax, dx, ex⟩ := hx.shape
      rw [ex] at h0
      have EX := Lib.hid ex
      replace h0 := (HBW.out.cell (block_lt_of_cell h0)).trans h0
      replace h1 := (HBW.out.cell (block_lt_of_cell h1)).trans h1
      replace h2 := (HBW.out.cell (block_lt_of_cell h2)).trans h2
      replace h3 := (HBW.out.cell (block_lt_of_cell h3)).trans h3
      have x3 := HXX.out.k3
      have xl := HXX.out.lt
      have fz := HXX.out.fz
      clear hx ex
      go_wp2_with (at_builtin; refine wpList_app _ rfl (.tmp 27) (.tmp 37) 40 75 4 48 _ Try.underlying40 info75 rfl (by decide) (by decide) rfl B k _ (.slice va vm vc) _ [.slice ax (T.S k).n dx, .int .i64 (T.S k).dur, .int .i64 (T.S k).shift, .bool (T.S k).sync] rfl (owns_below HO.out (by exact (below_box _ _).trans ((below_box _ _).mono (by simp)))) rfl rfl (cells4 (by simp [go_sem]) (by simp [go_sem]) (by simp [go_sem]) (by simp [go_sem])) (by simp [Value.oneCell']) (by omega) (by simp; omega) ?_)
      intro v' w6 hv' hb6
      have hv6 : Below B wr w6 := (((Below.refl B wr).alloc hsz _).alloc (by simp; omega) _).trans hb6
      obtain ⟨va', vm', vc', rfl⟩ := owns_shape hv'
      have xx6 := HXX.out.far hv6 n3
      have xa6 := HXA.out.far hv6 (by omega)
      have xr6 := HXR.out.far hv6 (by omega)
      have hb6' := HBW.out.trans (hv6.mono (by omega))
      have HV6 := Lib.hid (And.intro hv' (And.intro xx6 (And.intro xa6 (And.intro xr6 (And.intro hb6' (show B ≤ w6.heap.size by have := hv6.size; omega))))))
      have x36 := xx6.k3
      have fz6 := xx6.fz
      clear hv' hb6 hv6 xx6 xa6 xr6 hb6' x3 xl fz h0 h1 h2 h3
      go_wp2_with fail
      go_roundw
      case rel =>
        refine ⟨k + 1, .slice va' vm' vc', by omega, by go_num, HV6.out.2.1.set3 _, HV6.out.2.2.1.other (by omega), HV6.out.2.2.2.1.other (by omega), ?_, HV6.out.2.2.2.2.1.setCell (by simp; omega) _, by rw [World.size_setCell]; exact HV6.out.2.2.2.2.2⟩
        have e : rowsOf (smV X T.S) (k + 1) = rowsOf (smV X T.S) k ++ [.slice ax (T.S k).n dx, .int .i64 (T.S k).dur, .int .i64 (T.S k).shift, .bool (T.S k).sync] := by
          simp only [rowsOf, smV]; rw [EX.out]
        rw [e]
        exact owns_far HV6.out.1 (by simpa using n3) _
      case measure => simp [intOf]; omega
    · obtain rfl : k = T.nS := by omega
      clear XA XR XX HB
      go_wp2_with fail
      obtain ⟨w2, hw2⟩ : ∃ x, x = wr := ⟨_, rfl⟩
      rw [← hw2] at HO HBW HXX HXA HXR hsz ⊢
      obtain ⟨sa, sm, sc, es⟩ : ∃ a m c, Value.slice va vm vc = .slice a m c := ⟨_, _, _, rfl⟩
      have SG := Lib.hid (owns_in HO.out)
      rw [es] at SG
      have SZ := Lib.hid (show B ≤ w2.heap.size from hsz)
      clear hw2 a3'
      go_loopw [6] (fun i wx => ∃ (k : Nat) (v : Value), k ≤ T.nE ∧ i = .int .i64 (k : Int) ∧ BX wx blx (.string T.h) (.int .i64 T.sc) (.slice a2 T.nC d2) (.slice sa sm sc) v ∧ BX wx bla (.string T.h) (.int .i64 T.sc) (.slice a2 T.nC d2) (.slice a3 T.nS d3) (.slice a4 T.nE d4) ∧ BX wx blr (.string { data := #[] }) (.int .i64 0) (.slice none 0 0) (.slice none 0 0) (.slice none 0 0) ∧ wx.ownsRow w2.heap.size 76 2 v k (rowsOf (edV T.E) k) ∧ wx.ownsRow B 75 4 (.slice sa sm sc) T.nS (rowsOf (smV X T.S) T.nS) ∧ Below w.heap.size w wx ∧ w2.heap.size ≤ wx.heap.size) (fun i _ => T.nE - (intOf i).toNat)
      case atStart => exact ⟨0, _, Nat.zero_le _, rfl, by rw [← es]; exact HXX.out, HXA.out, HXR.out, owns_nil _ _ _ _, by rw [← es]; exact HO.out, HBW.out, Nat.le_refl _⟩
      case round =>
        obtain ⟨k, v, hk, rfl, xx, xa, xr, ho, hos, hb, hs2⟩ := hrel
        obtain ⟨va, vm, vc, rfl⟩ := owns_shape ho
        have KO := Lib.hid ho
        have KS := Lib.hid hos
        have KBW := Lib.hid hb
        have KXX := Lib.hid xx
        have KXA := Lib.hid xa
        have KXR := Lib.hid xr
        have a4' := xa.k4
        have x4 := xx.k4
        clear ho hos hb xx xa xr HXX HXA HXR HO
        by_cases hlt : k < T.nE
        · obtain ⟨ao', c', e, hcc', H⟩ := HB4.out
          simp only [Value.slice.injEq, true_and] at e
          obtain ⟨rfl, rfl⟩ := e
          obtain ⟨b, o, rfl, h0, h1⟩ := H k hlt
          have hbs := block_lt_of_cell h0
          replace h0 := (KBW.out.cell (block_lt_of_cell h0)).trans h0
          replace h1 := (KBW.out.cell (block_lt_of_cell h1)).trans h1
          have HLT := Lib.hid hbs
          clear H hbs
          go_wp2_with fail
          refine Plan.wp_region_planz (fun w' => w'.cell? ⟨blx, 4, none⟩ = some (.slice va vm vc) ∧ w'.cell? ⟨bla, 4, none⟩ = some (.slice (some ⟨b, o, none⟩) T.nE d4) ∧ w'.cell? ⟨b, o + k * 2, none⟩ = some (.int .i64 (T.E k).dur) ∧ w'.cell? ⟨b, o + k * 2 + 1, none⟩ = some (.int .i64 (T.E k).time)) 18 (([0, 1, 2, 3, 4, 5, 6, 7, 8, 9, 10, 11, 12, 13, 14].map (·, true)) ++ (([15, 16].map (·, false)) ++ (([17].map (·, true)) ++ (([18].map (·, false)))))) (by kernel_rfl) (by kernel_rfl) (by kernel_rfl) ⟨x4, a4', h0, h1⟩ ?_
          refine' Plan.plan_seg _ [0, 1, 2, 3, 4, 5, 6, 7, 8, 9, 10, 11, 12, 13, 14] (([15, 16].map (·, false)) ++ (([17].map (·, true)) ++ (([18].map (·, false))))) (by kernel_rfl) (by kernel_rfl) rfl (by exact ⟨x4, a4', h0, h1⟩) (fun wx hS => ?_) ?_
          rotate_left
          · obtain ⟨y0, y1, y2, y3⟩ := hS
            go_light
            iterate 15 (apply Plan.seg_pick; rfl; intro K hK; go_wp)
            exact Plan.seg_nil
          have hdr : Below wr.heap.size wr (wr.alloc (.cells #[.int .i64 (T.E k).dur, .int .i64 (T.E k).time] 76)).drew := (below_box _ _).drew
          refine Plan.plan_of_effect rfl (fun K hK => ?_)
          go_wp2_with fail
          obtain ⟨wz, hwz⟩ : ∃ x, x = (wr.alloc (.cells #[.int .i64 (T.E k).dur, .int .i64 (T.E k).time] 76)).drew := ⟨_, rfl⟩
          rw [← hwz] at hdr ⊢
          have z0 : wz.cell? ⟨wr.heap.size, 0, none⟩ = some (.int .i64 (T.E k).dur) := by rw [hwz]; simp [go_sem]
          have z1 : wz.cell? ⟨wr.heap.size, 1, none⟩ = some (.int .i64 (T.E k).time) := by rw [hwz]; simp [go_sem]
          have hs3 : w2.heap.size ≤ wz.heap.size := by have := hdr.size; omega
          have HD := Lib.hid hdr
          clear hwz hdr
          refine ⟨⟨(HD.out.cell (block_lt_of_cell x4)).trans x4, (HD.out.cell (block_lt_of_cell a4')).trans a4', (HD.out.cell (block_lt_of_cell h0)).trans h0, (HD.out.cell (block_lt_of_cell h1)).trans h1⟩, ?_⟩
          refine Plan.plan_of_effect rfl (fun K hK => ?_)
          refine wpList_app wz rfl (.tmp 48) (.tmp 62) 41 76 2 16 _ Try.underlying41 info76 rfl (by decide) (by decide) rfl w2.heap.size k wr.heap.size (.slice va vm vc) _ [.int .i64 (T.E k).dur, .int .i64 (T.E k).time] (by simp [go_sem]) (owns_below KO.out HD.out) (by simp [go_sem]) rfl (cells2 z0 z1) (by simp [Value.oneCell']) (by omega) hs3 ?_
          intro v' w6 hv' hb6
          have hv6 : Below w2.heap.size wr w6 := (HD.out.mono hs2).trans hb6
          obtain ⟨va', vm', vc', rfl⟩ := owns_shape hv'
          have hB2 : B ≤ w2.heap.size := hsz
          have xx6 := KXX.out.far hv6 (by omega)
          have xa6 := KXA.out.far hv6 (by omega)
          have xr6 := KXR.out.far hv6 (by omega)
          have hb6' := KBW.out.trans (hv6.mono (by omega))
          have hos6 := owns_stay KS.out hv6 SG.out
          have HV6 := Lib.hid (And.intro hv' (And.intro xx6 (And.intro xa6 (And.intro xr6 (And.intro hb6' (And.intro hos6 (show w2.heap.size ≤ w6.heap.size by have := hv6.size; omega)))))))
          have g4 := xx6.k4
          have ga := xa6.k4
          have e0 := (hv6.cell (p := ⟨b, o + k * 2, none⟩) (by have := HLT.out; have := SZ.out; simp; omega)).trans h0
          have e1 := (hv6.cell (p := ⟨b, o + k * 2 + 1, none⟩) (by have := HLT.out; have := SZ.out; simp; omega)).trans h1
          have fz6 := xx6.fz
          clear hv' hb6 hv6 xx6 xa6 xr6 hb6' hos6 x4 a4' h0 h1 z0 z1
          go_wp2_with fail
          refine ⟨⟨g4, ga, e0, e1⟩, ?_⟩
          refine' Plan.plan_seg _ [17] (([18].map (·, false))) (by kernel_rfl) (by kernel_rfl) rfl (by exact ⟨g4, ga, e0, e1⟩) (fun wx hS => ?_) ?_
          rotate_left
          · obtain ⟨y0, y1, y2, y3⟩ := hS
            go_light
            iterate 1 (apply Plan.seg_pick; rfl; intro K hK; go_wp)
            exact Plan.seg_nil
          refine Plan.plan_of_last rfl (fun K hK => ?_)
          go_wp2_with fail
          refine Plan.plan_done ?_
          go_wp2_with fail
          go_roundw
          case rel =>
            refine ⟨k + 1, .slice va' vm' vc', by omega, by go_num, HV6.out.2.1.set4 _, HV6.out.2.2.1.other (by omega), HV6.out.2.2.2.1.other (by omega), ?_, owns_far HV6.out.2.2.2.2.2.1 (by simpa using n3) _, HV6.out.2.2.2.2.1.setCell (by simp; omega) _, by rw [World.size_setCell]; exact HV6.out.2.2.2.2.2.2⟩
            exact owns_far HV6.out.1 (by simp; omega) _
          case measure => simp [intOf]; omega
        · obtain rfl : k = T.nE := by omega
          obtain ⟨x0, x1, x2, x3, x4', xz⟩ := KXX.out
          obtain ⟨r0, r1, r2, r3, r4, rz⟩ := KXR.out
          go_wp2_with fail
          refine bodyPost_ret (results_cell rfl _ _ _ rfl (load43 (KXR.out.put5 _ _ _ _ _))) rfl ?_
          have hf := below_put5 KBW.out (show w.heap.size ≤ blr by omega) (.string T.h) (.int .i64 T.sc) (.slice a2 T.nC d2)
          refine ⟨_, _, _, _, _, rfl, hf _ _, fun w'' HC HH => ?_⟩
          exact ⟨rfl, rfl, KB2.out.ag HC, SA.of_row_ag (owns_put5 KS.out (by omega) _ _ _ _ _) (fun b cur hb h => HH b cur 75 (by omega) h (by decide)) (fun i hi => by
            obtain ⟨_, _, _, _, _, _, _, _, hx⟩ := KX.out i hi
            exact hx.ag HC), EA.of_row_ag (owns_put5 KO.out (by omega) _ _ _ _ _) (fun b cur hb h => HH b cur 76 (by have := SZ.out; omega) h (by decide))⟩


end Go.Proofs.Ytkhjkemllgjfmaa

/- The contract of the statements' given: a reference's file as the program has it. -/
namespace Go.Proofs.Ytkhjkemllgjfmaa
open Go.RowKit
set_option linter.unusedVariables false

theorem info43 : (Try.prog.info? 43).map (fun i => (i.zero, i.size, i.bytes)) = some (some (.agg #[.string { data := #[] }, .int .i64 0, .slice none 0 0, .slice none 0 0, .slice none 0 0]), 5, 96) := by kernel_rfl

/-- Block b holds two cells and may be written. -/
structure B2 (w : World) (b : Nat) (c0 c1 : Value) : Prop where
  k0 : w.cell? ⟨b, 0, none⟩ = some c0
  k1 : w.cell? ⟨b, 1, none⟩ = some c1
  fz : ∀ o, w.frozen? ⟨b, o, none⟩ = false
theorem B2.lt {w : World} {b : Nat} {c0 c1 : Value} (h : B2 w b c0 c1) : b < w.heap.size := block_lt_of_cell h.k0
theorem B2.far {w w' : World} {B b : Nat} {c0 c1 : Value} (h : B2 w b c0 c1) (hb : Below B w w') (hl : b < B) : B2 w' b c0 c1 :=
  ⟨(hb.cell hl).trans h.k0, (hb.cell hl).trans h.k1, fun o => (hb.frozen hl).trans (h.fz o)⟩
theorem B2.of_alloc (w : World) (b : Nat) (c0 c1 : Value) (t : TypeId) (h : b = w.heap.size) : B2 (w.alloc (.cells #[c0, c1] t)) b c0 c1 := by
  subst h; exact ⟨by simp [go_sem], by simp [go_sem], fun o => by simp [go_sem]⟩
theorem B2.set1 {w : World} {b : Nat} {c0 c1 : Value} (h : B2 w b c0 c1) (u : Value) : B2 (w.setCell ⟨b, 1, none⟩ u) b c0 u :=
  ⟨by simp [go_sem, h.k0], by simp [go_sem, h.k1], fun o => by rw [World.frozen?_setCell]; exact h.fz o⟩
theorem B2.other {w : World} {b : Nat} {c0 c1 : Value} (h : B2 w b c0 c1) {p : Addr} (hp : p.block ≠ b) (u : Value) : B2 (w.setCell p u) b c0 c1 :=
  ⟨by rw [World.cell?_setCell_far _ _ _ _ (by simpa using hp)]; exact h.k0, by rw [World.cell?_setCell_far _ _ _ _ (by simpa using hp)]; exact h.k1, fun o => by rw [World.frozen?_setCell]; exact h.fz o⟩

/-- The tracks of a row stay, whatever the row itself becomes. -/
def Kept (wo : World) (B : Nat) (w : World) (T : Nat → Tr) (n : Nat) (xs : List Value) : Prop := ∀ w'' : World, (∀ p : Addr, p.block < wo.heap.size → w''.cell? p = wo.cell? p) → (∀ b cur e, B ≤ b → w.heap[b]? = some (.cells cur e (0, 0)) → e ≠ 43 → w''.heap[b]? = w.heap[b]?) → TR w'' T n xs
theorem Kept.nil (wo : World) (B : Nat) (w : World) (T : Nat → Tr) : Kept wo B w T 0 [] := fun _ _ _ i hi => absurd hi (Nat.not_lt_zero i)
theorem Kept.move {wo w w' : World} {B : Nat} {T : Nat → Tr} {n : Nat} {xs : List Value} (h : Kept wo B w T n xs) (hs : ∀ b cur e, B ≤ b → w.heap[b]? = some (.cells cur e (0, 0)) → e ≠ 43 → w'.heap[b]? = w.heap[b]?) : Kept wo B w' T n xs :=
  fun w'' h1 h2 => h w'' h1 (fun b cur e hb hc hne => (h2 b cur e hb ((hs b cur e hb hc hne).trans hc) hne).trans (hs b cur e hb hc hne))
theorem Kept.step {wo w w6 w' : World} {B : Nat} {T : Nat → Tr} {n : Nat} {xs : List Value} {c0 c1 c2 c3 c4 : Value} (h : Kept wo B w' T n xs) (hl : xs.length = n * 5) (hB : B ≤ w.heap.size)
    (ht : ∀ w'' : World, (∀ p : Addr, p.block < wo.heap.size → w''.cell? p = wo.cell? p) → (∀ b cur e, w.heap.size ≤ b → w6.heap[b]? = some (.cells cur e (0, 0)) → e ≠ 43 → w''.heap[b]? = w6.heap[b]?) → TC w'' c0 c1 c2 c3 c4 (T n))
    (hs : ∀ b cur e, B ≤ b → w6.heap[b]? = some (.cells cur e (0, 0)) → e ≠ 43 → w'.heap[b]? = w6.heap[b]?) : Kept wo B w' T (n + 1) (xs ++ [c0, c1, c2, c3, c4]) :=
  fun w'' h1 h2 => (h w'' h1 h2).step hl (ht w'' h1 (fun b cur e hb hc hne => (h2 b cur e (by omega) ((hs b cur e (by omega) hc hne).trans hc) hne).trans (hs b cur e (by omega) hc hne)))
theorem B2.put2 {w : World} {b : Nat} {c0 c1 : Value} (h : B2 w b c0 c1) (u0 u1 : Value) : B2 ((w.setCell ⟨b, 0, none⟩ u0).setCell ⟨b, 1, none⟩ u1) b u0 u1 :=
  ⟨by simp [go_sem, h.k0], by simp [go_sem, h.k1], fun o => by rw [World.frozen?_setCell, World.frozen?_setCell]; exact h.fz o⟩
theorem load56 {w : World} {b : Nat} {c0 c1 : Value} (h : B2 w b c0 c1) : (loadVar 56 ⟨b, 0, none⟩).run Try.prog w = .ok (.agg #[c0, c1]) w := by
  obtain ⟨h0, h1, _⟩ := h
  simp [go_sem, h0, h1]

theorem cellsOf5 {w : World} {g : Nat} {c0 c1 c2 c3 c4 : Value} (h0 : w.cell? ⟨g, 0, none⟩ = some c0) (h1 : w.cell? ⟨g, 1, none⟩ = some c1) (h2 : w.cell? ⟨g, 2, none⟩ = some c2) (h3 : w.cell? ⟨g, 3, none⟩ = some c3) (h4 : w.cell? ⟨g, 4, none⟩ = some c4) (j : Nat) (u : Value) (hj : [c0, c1, c2, c3, c4][j]? = some u) : w.cell? ⟨g, j, none⟩ = some u := by
  match j, hj with
  | 0, hj => simp at hj; rw [← hj]; exact h0
  | 1, hj => simp at hj; rw [← hj]; exact h1
  | 2, hj => simp at hj; rw [← hj]; exact h2
  | 3, hj => simp at hj; rw [← hj]; exact h3
  | 4, hj => simp at hj; rw [← hj]; exact h4
  | j + 5, hj => simp at hj

set_option maxRecDepth 100000 in
set_option maxHeartbeats 4000000 in
theorem given_any (v : Value) (F : Fl) (w : World) (hv : FA w v F) (hm : F.nT ≤ 1000000) (hS : ∀ i, i < F.nT → (F.T i).nS ≤ 1000000 ∧ (F.T i).nE ≤ 1000000) :
    Calls Try.prog 18 #[v] w fun e w' => ∃ r, e = .returned r ∧ FA w' r F ∧ Below w.heap.size w w' := by
  obtain ⟨ts, rfl, hts⟩ := hv
  obtain ⟨ao, c, rfl⟩ := hts.shape
  have HT := Lib.hid hts
  have HS := Lib.hid hS
  clear hts hS
  go_enter Try.func18, Try.ntmps18
  go_wp2_with fail
  obtain ⟨w1, hw⟩ : ∃ x, x = ((w.alloc (.cells #[.int .i64 F.sc, .slice ao F.nT c] 37)).alloc (.cells #[.int .i64 0, .slice none 0 0] 56)).alloc (.cells #[.int .i64 F.sc, .slice none 0 0] 56) := ⟨_, rfl⟩
  rw [← hw]
  have hb1 : Below w.heap.size w w1 := by rw [hw]; go_grown
  have xf : B2 w1 w.heap.size (.int .i64 F.sc) (.slice ao F.nT c) := by
    rw [hw]; exact ((B2.of_alloc w _ _ _ 37 rfl).far (below_box _ _) (by simp)).far (below_box _ _) (by simp; omega)
  have xr : B2 w1 (w.heap.size + 1) (.int .i64 0) (.slice none 0 0) := by
    rw [hw]; exact (B2.of_alloc _ _ _ _ 56 (by simp)).far (below_box _ _) (by simp)
  have xx : B2 w1 (w.heap.size + 1 + 1) (.int .i64 F.sc) (.slice none 0 0) := by
    rw [hw]; exact B2.of_alloc _ _ _ _ 56 (by simp)
  have hsz : w1.heap.size = w.heap.size + 1 + 1 + 1 := by rw [hw]; simp
  obtain ⟨blf, hblf⟩ : ∃ z, z = w.heap.size := ⟨_, rfl⟩
  obtain ⟨blr, hblr⟩ : ∃ z, z = w.heap.size + 1 := ⟨_, rfl⟩
  obtain ⟨blx, hblx⟩ : ∃ z, z = w.heap.size + 1 + 1 := ⟨_, rfl⟩
  obtain ⟨B, hB⟩ : ∃ z, z = w1.heap.size := ⟨_, rfl⟩
  have n0 : w.heap.size ≤ blf := by omega
  have n1 : blf < blr := by omega
  have n2 : blr < blx := by omega
  have n3 : blx < B := by omega
  have n4 : B ≤ w1.heap.size := by omega
  rw [← hblx] at xx ⊢
  rw [← hblr] at xr ⊢
  rw [← hblf] at xf ⊢
  have XF := Lib.hid xf
  have XR := Lib.hid xr
  have XX := Lib.hid xx
  have HB := Lib.hid hb1
  clear hw hb1 xf xr xx hsz hblf hblr hblx hB
  go_loopw [4] (fun i wr => ∃ (k : Nat) (v : Value) (xs : List Value), k ≤ F.nT ∧ i = .int .i64 (k : Int) ∧ B2 wr blx (.int .i64 F.sc) v ∧ B2 wr blf (.int .i64 F.sc) (.slice ao F.nT c) ∧ B2 wr blr (.int .i64 0) (.slice none 0 0) ∧ wr.ownsRow B 43 5 v k xs ∧ Kept w B wr F.T k xs ∧ Below w.heap.size w wr ∧ B ≤ wr.heap.size) (fun i _ => F.nT - (intOf i).toNat)
  case atStart => exact ⟨0, _, _, Nat.zero_le _, rfl, XX.out, XF.out, XR.out, owns_nil _ _ _ _, Kept.nil _ _ _ _, HB.out, n4⟩
  case round =>
    obtain ⟨k, v, xs, hk, rfl, xx, xf, xr, ho, hkp, hb, hsz⟩ := hrel
    obtain ⟨va, vm, vc, rfl⟩ := owns_shape ho
    have HO := Lib.hid ho
    have HK := Lib.hid hkp
    have HBW := Lib.hid hb
    have HXX := Lib.hid xx
    have HXF := Lib.hid xf
    have HXR := Lib.hid xr
    have f1 := xf.k1
    have x1 := xx.k1
    clear ho hkp hb xx xf xr
    by_cases hlt : k < F.nT
    · obtain ⟨b, o, a2, d2, a3, d3, a4, d4, rfl, t0, t1, t2, t3, t4, hta⟩ := HT.out.at hlt
      replace t0 := (HBW.out.cell (block_lt_of_cell t0)).trans t0
      replace t1 := (HBW.out.cell (block_lt_of_cell t1)).trans t1
      replace t2 := (HBW.out.cell (block_lt_of_cell t2)).trans t2
      replace t3 := (HBW.out.cell (block_lt_of_cell t3)).trans t3
      replace t4 := (HBW.out.cell (block_lt_of_cell t4)).trans t4
      have HTA := Lib.hid hta
      clear hta
      go_wp2_with fail
      refine Plan.wp_region_planz (fun w' => w'.cell? ⟨blx, 1, none⟩ = some (.slice va vm vc) ∧ w'.cell? ⟨blf, 1, none⟩ = some (.slice (some ⟨b, o, none⟩) F.nT c) ∧ w'.cell? ⟨b, o + k * 5, none⟩ = some (.string (F.T k).h) ∧ w'.cell? ⟨b, o + k * 5 + 1, none⟩ = some (.int .i64 (F.T k).sc) ∧ w'.cell? ⟨b, o + k * 5 + 2, none⟩ = some (.slice a2 (F.T k).nC d2) ∧ w'.cell? ⟨b, o + k * 5 + 3, none⟩ = some (.slice a3 (F.T k).nS d3) ∧ w'.cell? ⟨b, o + k * 5 + 4, none⟩ = some (.slice a4 (F.T k).nE d4)) 11 (([0, 1, 2, 3, 4, 5, 6].map (·, true)) ++ (([7, 8, 9].map (·, false)) ++ (([10].map (·, true)) ++ (([11].map (·, false)))))) (by kernel_rfl) (by kernel_rfl) (by kernel_rfl) ⟨x1, f1, t0, t1, t2, t3, t4⟩ ?_
      refine' Plan.plan_seg _ [0, 1, 2, 3, 4, 5, 6] (([7, 8, 9].map (·, false)) ++ (([10].map (·, true)) ++ (([11].map (·, false))))) (by kernel_rfl) (by kernel_rfl) rfl (by exact ⟨x1, f1, t0, t1, t2, t3, t4⟩) (fun wx hS => ?_) ?_
      rotate_left
      · obtain ⟨z0, z1, z2, z3, z4, z5, z6⟩ := hS
        go_light
        iterate 7 (apply Plan.seg_pick; rfl; intro K hK; go_wp)
        exact Plan.seg_nil
      refine Plan.plan_of_effect rfl (fun K hK => ?_)
      go_wp2_with fail
      refine (track_far _ (F.T k) w _ HTA.out HBW.out.drew (HS.out k hlt).1 (HS.out k hlt).2).mono ?_
      rintro e w5 ⟨c0, c1, c2, c3, c4, rfl, hb5, hkp⟩
      replace hb5 : Below wr.heap.size wr w5 := (Below.refl wr.heap.size wr).drew.trans hb5
      replace x1 := (hb5.cell (block_lt_of_cell x1)).trans x1
      replace f1 := (hb5.cell (block_lt_of_cell f1)).trans f1
      replace t0 := (hb5.cell (block_lt_of_cell t0)).trans t0
      replace t1 := (hb5.cell (block_lt_of_cell t1)).trans t1
      replace t2 := (hb5.cell (block_lt_of_cell t2)).trans t2
      replace t3 := (hb5.cell (block_lt_of_cell t3)).trans t3
      replace t4 := (hb5.cell (block_lt_of_cell t4)).trans t4
      have HK5 := Lib.hid hkp
      have HB5 := Lib.hid hb5
      clear hkp hb5
      go_wp2_with fail
      refine ⟨⟨x1, f1, t0, t1, t2, t3, t4⟩, ?_⟩
      refine Plan.plan_of_effect rfl (fun K hK => ?_)
      go_wp2_with fail
      obtain ⟨w6, hw6⟩ : ∃ x, x = w5.alloc (.cells #[c0, c1, c2, c3, c4] 43) := ⟨_, rfl⟩
      rw [← hw6]
      have hb56 : Below w5.heap.size w5 w6 := by rw [hw6]; exact below_box _ _
      have p0 : w6.cell? ⟨w5.heap.size, 0, none⟩ = some c0 := by rw [hw6]; simp [go_sem]
      have p1 : w6.cell? ⟨w5.heap.size, 1, none⟩ = some c1 := by rw [hw6]; simp [go_sem]
      have p2 : w6.cell? ⟨w5.heap.size, 2, none⟩ = some c2 := by rw [hw6]; simp [go_sem]
      have p3 : w6.cell? ⟨w5.heap.size, 3, none⟩ = some c3 := by rw [hw6]; simp [go_sem]
      have p4 : w6.cell? ⟨w5.heap.size, 4, none⟩ = some c4 := by rw [hw6]; simp [go_sem]
      have hs5 := HB5.out.size
      have hs6 := hb56.size
      replace x1 := (hb56.cell (block_lt_of_cell x1)).trans x1
      replace f1 := (hb56.cell (block_lt_of_cell f1)).trans f1
      replace t0 := (hb56.cell (block_lt_of_cell t0)).trans t0
      replace t1 := (hb56.cell (block_lt_of_cell t1)).trans t1
      replace t2 := (hb56.cell (block_lt_of_cell t2)).trans t2
      replace t3 := (hb56.cell (block_lt_of_cell t3)).trans t3
      replace t4 := (hb56.cell (block_lt_of_cell t4)).trans t4
      have hb6 : Below wr.heap.size wr w6 := HB5.out.trans (hb56.mono hs5)
      have HB6 := Lib.hid hb6
      have HB56 := Lib.hid hb56
      clear hw6 hb6 hb56
      refine ⟨⟨x1, f1, t0, t1, t2, t3, t4⟩, ?_⟩
      refine Plan.plan_of_effect rfl (fun K hK => ?_)
      have h1 : ∀ u ∈ [c0, c1, c2, c3, c4], u.oneCell' = true := by
        obtain ⟨e0, e1, e2, e3, e4⟩ := HK5.out w5 (fun p hp => (HB5.out.cell (by have := HBW.out.size; omega)).trans (HBW.out.cell hp)) (fun _ _ _ _ _ _ => rfl)
        obtain ⟨_, _, e2⟩ := e2.shape
        obtain ⟨_, _, e3⟩ := e3.shape
        obtain ⟨_, _, e4⟩ := e4.shape
        simp [e0, e1, e2, e3, e4, Value.oneCell']
      refine wpList_app2 w6 rfl (.tmp 16) (.tmp 23) 54 43 5 96 _ Try.underlying54 info43 rfl (by decide) (by decide) rfl B k w5.heap.size (.slice va vm vc) xs [c0, c1, c2, c3, c4] (by simp [go_sem]) (owns_below HO.out HB6.out) (by simp [go_sem]) rfl (cellsOf5 p0 p1 p2 p3 p4) h1 (by omega) (by omega) ?_
      intro v' w7 hv' hb7 hkeep
      obtain ⟨va', vm', vc', rfl⟩ := owns_shape hv'
      have lb := block_lt_of_cell (HXX.out.k1)
      have tb : b < w.heap.size := by
        obtain ⟨_, _, _, _, _, _, _, _, e, q0, _⟩ := HT.out.at hlt
        cases e; exact block_lt_of_cell q0
      have hs7 := hb7.size
      have xx7 := (HXX.out.far HB6.out lb).far hb7 (by omega)
      have xf7 := (HXF.out.far HB6.out (by omega)).far hb7 (by omega)
      have xr7 := (HXR.out.far HB6.out (by omega)).far hb7 (by omega)
      have hb67 := (HBW.out.trans (HB6.out.mono HBW.out.size)).trans (hb7.mono (show w.heap.size ≤ B by omega))
      replace x1 := (hb7.cell (p := ⟨blx, 1, none⟩) (by simp; omega)).trans x1
      replace f1 := (hb7.cell (p := ⟨blf, 1, none⟩) (by simp; omega)).trans f1
      replace t0 := (hb7.cell (p := ⟨b, o + k * 5, none⟩) (by simp; omega)).trans t0
      replace t1 := (hb7.cell (p := ⟨b, o + k * 5 + 1, none⟩) (by simp; omega)).trans t1
      replace t2 := (hb7.cell (p := ⟨b, o + k * 5 + 2, none⟩) (by simp; omega)).trans t2
      replace t3 := (hb7.cell (p := ⟨b, o + k * 5 + 3, none⟩) (by simp; omega)).trans t3
      replace t4 := (hb7.cell (p := ⟨b, o + k * 5 + 4, none⟩) (by simp; omega)).trans t4
      have HKE := Lib.hid hkeep
      have HV7 := Lib.hid (And.intro hv' (And.intro xx7 (And.intro xf7 (And.intro xr7 hb67))))
      have fz := xx7.fz
      clear hv' hb7 hkeep xx7 xf7 xr7 hb67 p0 p1 p2 p3 p4 h1
      go_wp2_with fail
      refine' Plan.plan_seg _ [10] (([11].map (·, false))) (by kernel_rfl) (by kernel_rfl) rfl (by exact ⟨x1, f1, t0, t1, t2, t3, t4⟩) (fun wx hS => ?_) ?_
      rotate_left
      · obtain ⟨z0, z1, z2, z3, z4, z5, z6⟩ := hS
        go_light
        iterate 1 (apply Plan.seg_pick; rfl; intro K hK; go_wp)
        exact Plan.seg_nil
      refine Plan.plan_of_last rfl (fun K hK => ?_)
      go_wp2_with fail
      refine Plan.plan_done ?_
      go_wp2_with fail
      go_roundw
      case rel =>
        have hs2 : ∀ b' cur e, B ≤ b' → w5.heap[b']? = some (.cells cur e (0, 0)) → e ≠ 43 → (w7.setCell ⟨blx, 1, none⟩ (.slice va' vm' vc')).heap[b']? = w5.heap[b']? := by
          intro b' cur e hb' hc hne
          have hlt5 := (Array.getElem?_eq_some_iff.1 hc).1
          have h6 := HB56.out.block b' hlt5
          rw [Below.heap_setCell _ _ _ _ (by simp; omega), HKE.out b' cur e (h6.trans hc) hne, h6]
        have hs1 : ∀ b' cur e, B ≤ b' → wr.heap[b']? = some (.cells cur e (0, 0)) → e ≠ 43 → (w7.setCell ⟨blx, 1, none⟩ (.slice va' vm' vc')).heap[b']? = wr.heap[b']? := by
          intro b' cur e hb' hc hne
          have h5 := HB5.out.block b' (Array.getElem?_eq_some_iff.1 hc).1
          rw [hs2 b' cur e hb' (h5.trans hc) hne, h5]
        refine ⟨k + 1, .slice va' vm' vc', _, by omega, by go_num, HV7.out.2.1.set1 _, HV7.out.2.2.1.other (by simp; omega) _, HV7.out.2.2.2.1.other (by simp; omega) _, owns_far HV7.out.1 (by simpa using n3) _, (HK.out.move hs1).step (by rw [HO.out.1]) hsz HK5.out hs2, HV7.out.2.2.2.2.setCell (by simp; omega) _, by rw [World.size_setCell]; omega⟩
      case measure => simp [intOf]; omega
    · obtain rfl : k = F.nT := by omega
      obtain ⟨x0, x1, xz⟩ := HXX.out
      obtain ⟨r0, r1, rz⟩ := HXR.out
      go_wp2_with fail
      have hb := (HBW.out.setCell (p := ⟨blr, 0, none⟩) (by simp; omega) (.int .i64 F.sc)).setCell (p := ⟨blr, 1, none⟩) (by simp; omega) (.slice va vm vc)
      refine bodyPost_ret (results_cell rfl _ _ _ rfl (load56 (HXR.out.put2 _ _))) rfl ?_
      refine ⟨_, rfl, ⟨_, rfl, TSA.of_row (owns_far (owns_far HO.out (by simp; omega) _) (by simp; omega) _) (HK.out _ (fun p hp => hb.cell hp) (fun b' cur e hb' hc hne => ?_))⟩, hb⟩
      rw [Below.heap_setCell _ _ _ _ (by simp; omega), Below.heap_setCell _ _ _ _ (by simp; omega)]
end Go.Proofs.Ytkhjkemllgjfmaa

/- The contract of isomedia.Boxes. -/
namespace Go.Proofs.Ytkhjkemllgjfmaa
open Go.RowKit
set_option linter.unusedVariables false

theorem idle28 (p q : Addr) (w : World) : CallsD Try.prog 28 #[.pointer (some p), .pointer (some q)] .returning w fun e u' w' => e = .returned (.tuple #[]) ∧ u' = .returning ∧ w' = w := by
  refine callsD_of_wpS Try.func28 rfl fun c₀ cs hu => ?_
  apply wpS_seq
  apply wpS_region
  simp [wpOpsS, go_sem, recoverD, hu, Try.ntmps28, Exit.thenS]
  refine wpS_cond (t := false) (by simp [Act.eval, Array.replicate]) ?_
  simp only [Bool.false_eq_true, if_false]
  refine wpS_of_wp (wp_skip ?_)
  cases c₀
  simp_all [bodyPostS, results, Try.results28]

/-- One box appended to a row of the call's own. -/
theorem wpList_box (w : World) {ops : Array Oper} {rest : List Oper} {o : Oper} {a : Act} {Q : Exit → Act → World → Prop} (hgd : o.guard = none) (s x : Operand) (t E : TypeId) (ht : Try.prog.underlying t = some (.slice E))
    (hE : (Try.prog.info? E).map (fun i => (i.zero, i.size, i.bytes)) = some (some (.agg #[.string { data := #[] }, .int .i64 0, .int .i64 0, .int .i64 0]), 4, 40))
    (ho : o.op = .call { callee := .builtin .append, args := #[s, x], argTypes := #[t, t] }) (B k g : Nat) (v : Value) (xs : List Value) (hs : a.eval s = v) (hown : w.ownsRow B E 4 v k xs)
    (hx : a.eval x = .slice (some ⟨g, 0, none⟩) 1 1) (c0 : ByteArray) (c1 c2 c3 : Int) (h0 : w.cell? ⟨g, 0, none⟩ = some (.string c0)) (h1 : w.cell? ⟨g, 1, none⟩ = some (.int .i64 c1)) (h2 : w.cell? ⟨g, 2, none⟩ = some (.int .i64 c2)) (h3 : w.cell? ⟨g, 3, none⟩ = some (.int .i64 c3))
    (hk : k ≤ 100000000) (hB : B ≤ w.heap.size)
    (h : ∀ v' w', w'.ownsRow B E 4 v' (k + 1) (xs ++ [.string c0, .int .i64 c1, .int .i64 c2, .int .i64 c3]) → Below B w w' → wpList Try.prog ops Q rest (a.put o.dst v') w') : wpList Try.prog ops Q (o :: rest) a w := by
  obtain ⟨i0, hi, hz0, hz1, hz2⟩ := info_parts hE
  refine wpList_append_own _ hgd s x t ho B E i0 _ 4 40 ht hi hz0 hz1 hz2 rfl (by decide) v k xs hs hown ⟨g, 0, none⟩ 1 1 [.string c0, .int .i64 c1, .int .i64 c2, .int .i64 c3] hx rfl (fun j u hj => ?_) (fun u hu => ?_) (by unfold maxLen; omega) (by omega) hB (fun v' w' hown' hg hnil => ?_)
  · rw [Addr.add_lit, Nat.zero_add]
    match j, hj with
    | 0, hj => simp at hj; rw [← hj]; exact h0
    | 1, hj => simp at hj; rw [← hj]; exact h1
    | 2, hj => simp at hj; rw [← hj]; exact h2
    | 3, hj => simp at hj; rw [← hj]; exact h3
    | j + 4, hj => simp at hj
  · simp only [List.mem_cons, List.not_mem_nil, or_false] at hu
    rcases hu with rfl | rfl | rfl | rfl <;> rfl
  · refine h v' w' hown' ((Below.refl _ _).grown hg hB (fun k' h' => ?_))
    rcases hown.2 with ⟨rfl, _⟩ | ⟨g', cap, cur, rfl, hg', _⟩
    · cases h'
    · cases h'; exact hg'

set_option maxRecDepth 100000 in
set_option maxHeartbeats 1000000 in
theorem boxes_arg (v : Value) (n : Nat) (f : Nat → Int) (fr to : Int) (w : World) (hv : BA w v n f) (hn : n ≤ 100000000) (hbad : fr < 0 ∨ to < fr ∨ (n : Int) < to) :
    Calls Try.prog 10 #[v, .int .i64 fr, .int .i64 to] w (BoxesPost 31 w f n fr to) := by
  have hmf : ∀ (fn : Fn) (first cap : Array Value) (w : World), (Instr.makeFunc fn first cap).run Try.prog w = .ok (.func fn first cap) w := fun _ _ _ _ => rfl
  have HP := Lib.hid (fun (w' : World) (hb : Below w.heap.size w w') => (show BoxesPost 31 w f n fr to (.returned (.tuple #[.slice none 0 0, .int .i64 1])) w' from ⟨_, _, rfl, hb, by rw [if_pos hbad]; exact ⟨rfl, rfl⟩⟩))
  obtain ⟨ao, c, rfl, hc, _⟩ := hv
  have B0 : ∀ o1 o2, Below w.heap.size w ((w.alloc o1).alloc o2) := fun _ _ => by go_grown
  by_cases h1 : fr < 0
  · clear hbad
    go_enter_defers Try.func10, Try.ntmps10
    go_wp2_with fail
    refine leaves_cons (f := 28) (args := #[.pointer (some ⟨w.heap.size, 0, none⟩), .pointer (some ⟨w.heap.size + 1, 0, none⟩)]) (by simp) (by simp [go_sem]) ?_
    refine (idle28 _ _ _).mono ?_
    rintro e u' w'' ⟨rfl, rfl, rfl⟩
    simp [Leaves, settle, results, Try.results10, go_sem]
    exact HP.out _ (by go_grown)
  by_cases h2 : to < fr
  · clear hbad
    have h1' : 0 ≤ fr := by omega
    go_enter_defers Try.func10, Try.ntmps10
    go_wp2_with fail
    refine leaves_cons (f := 28) (args := #[.pointer (some ⟨w.heap.size, 0, none⟩), .pointer (some ⟨w.heap.size + 1, 0, none⟩)]) (by simp) (by simp [go_sem]) ?_
    refine (idle28 _ _ _).mono ?_
    rintro e u' w'' ⟨rfl, rfl, rfl⟩
    simp [Leaves, settle, results, Try.results10, go_sem]
    exact HP.out _ (by go_grown)
  have h3 : (n : Int) < to := by omega
  have h1' : 0 ≤ fr := by omega
  have h2' : fr ≤ to := by omega
  clear hbad h1 h2
  go_enter_defers Try.func10, Try.ntmps10
  go_wp2_with fail
  refine leaves_cons (f := 28) (args := #[.pointer (some ⟨w.heap.size, 0, none⟩), .pointer (some ⟨w.heap.size + 1, 0, none⟩)]) (by simp) (by simp [go_sem]) ?_
  refine (idle28 _ _ _).mono ?_
  rintro e u' w'' ⟨rfl, rfl, rfl⟩
  simp [Leaves, settle, results, Try.results10, go_sem]
  exact HP.out _ (by go_grown)

set_option maxRecDepth 100000 in
set_option maxHeartbeats 4000000 in
theorem boxes_ok (b o n c : Nat) (f : Nat → Int) (fr to : Nat) (w : World) (hn : n ≤ 100000000) (hc : n ≤ c) (h : ∀ i, i < n → w.cell? ⟨b, o + i, none⟩ = some (.int .u8 (f i))) (hb : ∀ i, i < n → 0 ≤ f i ∧ f i < 256) (h1 : fr ≤ to) (h2 : to ≤ n) :
    Calls Try.prog 10 #[.slice (some ⟨b, o, none⟩) n c, .int .i64 (fr : Int), .int .i64 (to : Int)] w (BoxesPost 31 w f n fr to) := by
  have hmf : ∀ (fn : Fn) (first cap : Array Value) (w : World), (Instr.makeFunc fn first cap).run Try.prog w = .ok (.func fn first cap) w := fun _ _ _ _ => rfl
  have HP := Lib.hid (fun (w' : World) (v : Value) (k : Nat) (hb : Below w.heap.size w w') (hw : Walked f fr to k) (hg : ¬ goOn f to (pos f fr k)) (hc : codeAt f to (pos f fr k) ≠ 0 → v = .slice none 0 0) (ho : codeAt f to (pos f fr k) = 0 → w'.ownsRow w.heap.size 31 4 v k (rowsV f fr k)) =>
    (show BoxesPost 31 w f n fr to (.returned (.tuple #[v, .int .i64 (codeAt f to (pos f fr k))])) w' from ⟨_, _, rfl, hb, by rw [if_neg (by omega)]; exact ⟨k, hw, hg, rfl, hc, ho⟩⟩))
  have HC := Lib.hid (And.intro h hb)
  clear h hb
  have h1' : (fr : Int) ≤ (to : Int) := by omega
  have h2' : (to : Int) ≤ (n : Int) := by omega
  have k1 : decide ((fr : Int) < 0) = false := by simp
  have k2 : decide (to < fr) = false := by simp; omega
  have k3 : decide (n < to) = false := by simp; omega
  go_enter_defers Try.func10, Try.ntmps10
  go_wp2_with fail
  obtain ⟨w1, hw⟩ : ∃ x, x = (w.alloc (.cells #[.slice none 0 0] 23)).alloc (.cells #[.int .i64 0] 24) := ⟨_, rfl⟩
  rw [← hw]
  have hE : Below w.heap.size w w1 := by rw [hw]; go_grown
  have CL := Lib.hid (show C1 w1 w.heap.size (.slice none 0 0) by rw [hw]; exact ⟨by simp [go_sem], by simp [go_sem]⟩)
  have CE := Lib.hid (show C1 w1 (w.heap.size + 1) (.int .i64 0) by rw [hw]; exact ⟨by simp [go_sem], by simp [go_sem]⟩)
  have HB := Lib.hid hE
  obtain ⟨bl, hbl⟩ : ∃ z, z = w.heap.size := ⟨_, rfl⟩
  obtain ⟨be, hbe⟩ : ∃ z, z = w.heap.size + 1 := ⟨_, rfl⟩
  have n0 : w.heap.size ≤ bl := by omega
  have n1 : bl < be := by omega
  have n2 : be < w1.heap.size := by have := CE.out.lt; omega
  obtain ⟨B, hBB⟩ : ∃ z, z = w1.heap.size := ⟨_, rfl⟩
  have n3 : be < B := by omega
  rw [← hbe] at CE ⊢
  rw [← hbl] at CL ⊢
  have n4 : w.heap.size ≤ B := by omega
  have n5 : B ≤ w1.heap.size := by omega
  clear hw hE hbl hbe hBB
  go_loopw [1] (fun i wr => ∃ (k : Nat) (v : Value), Walked f fr to k ∧ i = .int .i64 ((pos f fr k : Nat) : Int) ∧ C1 wr bl v ∧ C1 wr be (.int .i64 0) ∧ wr.ownsRow B 31 4 v k (rowsV f fr k) ∧ Below w.heap.size w wr ∧ B ≤ wr.heap.size) (fun i _ => to - (intOf i).toNat)
  case atStart => exact ⟨0, _, fun j hj => absurd hj (Nat.not_lt_zero j), rfl, CL.out, CE.out, owns_nil _ _ _ _, HB.out, n5⟩
  case round =>
    obtain ⟨k, v, hwk, rfl, xl, xe, ho, hbw, hsz⟩ := hrel
    obtain ⟨va, vm, vc, rfl⟩ := owns_shape ho
    have hle := hwk.le h1
    obtain ⟨q, hq⟩ : ∃ q, pos f fr k = q := ⟨_, rfl⟩
    rw [hq] at hle ⊢
    have hq1 : q ≤ to := hle.1
    have hkq : k ≤ 100000000 := by omega
    have HQ := Lib.hid hq
    have HW := Lib.hid hwk
    have HO := Lib.hid ho
    have HBW := Lib.hid hbw
    clear hq hle hwk ho hbw
    have hl0 := xl.k0
    have hlz := xl.fz
    have he0 := xe.k0
    have hez := xe.fz
    by_cases hlt : q < to
    · by_cases h8 : to < q + 8
      · have HR := Lib.hid (HP.out)
        have hlt8 : decide ((to : Int) - (q : Int) < 8) = true := by simp; omega
        go_wp2_with fail
        refine leaves_cons (f := 28) (args := #[.pointer (some ⟨bl, 0, none⟩), .pointer (some ⟨be, 0, none⟩)]) (by simp) (by simp [go_sem]) ?_
        refine (idle28 _ _ _).mono ?_
        rintro e u' w'' ⟨rfl, rfl, rfl⟩
        simp [Leaves, settle, results, Try.results10, go_sem, hl0, he0]
        have hcd : codeAt f to (pos f fr k) = 4 := by rw [HQ.out]; unfold codeAt; rw [if_neg (by omega), if_pos (by omega)]
        have hng : ¬ goOn f to (pos f fr k) := by rw [HQ.out]; unfold goOn; omega
        have key := fun W hW => HP.out W (.slice none 0 0) k hW HW.out hng (fun _ => rfl) (fun h => absurd (hcd.symm.trans h) (by decide))
        simp only [hcd] at key
        exact key _ (by have h := HBW.out; go_grown)
      · have hlt8 : decide ((to : Int) - (q : Int) < 8) = false := by simp; omega
        have hge8 : ¬ ((to : Int) - (q : Int) < 8) := by omega
        have ha : q + 4 ≤ n := by omega
        have hcells := fun i (hi : i < n) => (HBW.out.cell (p := ⟨b, o + i, none⟩) (block_lt_of_cell (HC.out.1 i hi))).trans (HC.out.1 i hi)
        have HCC := Lib.hid hcells
        clear hcells
        go_wp2_with fail
        refine (number_any b o n c q f _ hn HCC.out HC.out.2 ha).mono ?_
        rintro e w5 ⟨rfl, rfl⟩
        obtain ⟨z, hz⟩ : ∃ z, numI f q = z := ⟨_, rfl⟩
        rw [hz]
        have HZ := Lib.hid hz
        clear hz
        by_cases hz8 : z < 8
        · go_wp2_with fail
          refine leaves_cons (f := 28) (args := #[.pointer (some ⟨bl, 0, none⟩), .pointer (some ⟨be, 0, none⟩)]) (by simp) (by simp [go_sem]) ?_
          refine (idle28 _ _ _).mono ?_
          rintro e u' w'' ⟨rfl, rfl, rfl⟩
          simp [Leaves, settle, results, Try.results10, go_sem, hl0, he0]
          have hcd : codeAt f to (pos f fr k) = 3 := by rw [HQ.out]; unfold codeAt; rw [HZ.out, if_neg (by omega), if_neg (by omega), if_pos (by omega)]
          have hng : ¬ goOn f to (pos f fr k) := by rw [HQ.out]; unfold goOn; rw [HZ.out]; omega
          have key := fun W hW => HP.out W (.slice none 0 0) k hW HW.out hng (fun _ => rfl) (fun h => absurd (hcd.symm.trans h) (by decide))
          simp only [hcd] at key
          exact key _ (by have h := HBW.out; go_grown)
        · by_cases hzl : (to : Int) - (q : Int) < z
          · have hz8' : 8 ≤ z := by omega
            clear hz8
            go_wp2_with fail
            refine leaves_cons (f := 28) (args := #[.pointer (some ⟨bl, 0, none⟩), .pointer (some ⟨be, 0, none⟩)]) (by simp) (by simp [go_sem]) ?_
            refine (idle28 _ _ _).mono ?_
            rintro e u' w'' ⟨rfl, rfl, rfl⟩
            simp [Leaves, settle, results, Try.results10, go_sem, hl0, he0]
            have hcd : codeAt f to (pos f fr k) = 4 := by rw [HQ.out]; unfold codeAt; rw [HZ.out, if_neg (by omega), if_neg (by omega), if_neg (by omega)]
            have hng : ¬ goOn f to (pos f fr k) := by rw [HQ.out]; unfold goOn; rw [HZ.out]; omega
            have key := fun W hW => HP.out W (.slice none 0 0) k hW HW.out hng (fun _ => rfl) (fun h => absurd (hcd.symm.trans h) (by decide))
            simp only [hcd] at key
            exact key _ (by have h := HBW.out; go_grown)
          · have hz8' : 8 ≤ z := by omega
            have hzl' : z ≤ (to : Int) - (q : Int) := by omega
            clear hz8 hzl
            go_upto_region 14 with fail
            have hcc : ∀ w' : World, Below w.heap.size w w' → (convert 22 9 (.slice (some ⟨b, o + (q + 4), none⟩) 4 (c - (q + 4)))).run Try.prog w' = .ok (.string (strOfNums [f (q + 4), f (q + 4 + 1), f (q + 4 + 2), f (q + 4 + 3)])) w' := by
              intro w' hb'
              refine run_convert_bytes_arg w' 22 5 Try.underlying22 Try.underlying5 b (o + (q + 4)) 4 _ _ rfl (fun i hi => ?_) 9 Try.underlying9
              have hx := HC.out.1 (q + 4 + i) (by omega)
              have hy := (hb'.cell (block_lt_of_cell hx)).trans hx
              rcases (show i = 0 ∨ i = 1 ∨ i = 2 ∨ i = 3 by omega) with rfl | rfl | rfl | rfl <;> simpa [Nat.add_assoc] using hy
            have HCV := Lib.hid hcc
            clear hcc
            refine Plan.wp_region_planz (fun w' => Below w.heap.size w w' ∧ w'.cell? ⟨bl, 0, none⟩ = some (.slice va vm vc)) 15 (([0, 1, 2, 3, 4, 5, 6, 7, 8, 9, 10, 11, 12].map (·, true)) ++ (([13, 14, 15].map (·, false)))) (by kernel_rfl) (by kernel_rfl) (by kernel_rfl) ⟨HBW.out.drew.drew, hl0⟩ ?_
            refine' Plan.plan_seg _ [0, 1, 2, 3, 4, 5, 6, 7, 8, 9, 10, 11, 12] (([13, 14, 15].map (·, false))) (by kernel_rfl) (by kernel_rfl) rfl (by exact ⟨HBW.out.drew.drew, hl0⟩) (fun wx hS => ?_) ?_
            rotate_left
            · obtain ⟨x0, x1⟩ := hS
              have hcv := HCV.out wx x0
              clear x0
              go_light
              iterate 13 (apply Plan.seg_pick; rfl; intro K hK; go_wp)
              exact Plan.seg_nil
            have hdr : Below wr.heap.size wr (wr.alloc (.cells #[.string (strOfNums [f (q + 4), f (q + 4 + 1), f (q + 4 + 2), f (q + 4 + 3)]), .int .i64 (q : Int), .int .i64 ((q : Int) + 8), .int .i64 ((q : Int) + z)] 31)).drew.drew := (below_box _ _).drew.drew
            refine Plan.plan_of_effect rfl (fun K hK => ?_)
            go_wp2_with fail
            obtain ⟨wz, hwz⟩ : ∃ x, x = (wr.alloc (.cells #[.string (strOfNums [f (q + 4), f (q + 4 + 1), f (q + 4 + 2), f (q + 4 + 3)]), .int .i64 (q : Int), .int .i64 ((q : Int) + 8), .int .i64 ((q : Int) + z)] 31)).drew.drew := ⟨_, rfl⟩
            rw [← hwz] at hdr ⊢
            have z0 : wz.cell? ⟨wr.heap.size, 0, none⟩ = some (.string (strOfNums [f (q + 4), f (q + 4 + 1), f (q + 4 + 2), f (q + 4 + 3)])) := by rw [hwz]; simp [go_sem]
            have z1 : wz.cell? ⟨wr.heap.size, 1, none⟩ = some (.int .i64 (q : Int)) := by rw [hwz]; simp [go_sem]
            have z2 : wz.cell? ⟨wr.heap.size, 2, none⟩ = some (.int .i64 ((q : Int) + 8)) := by rw [hwz]; simp [go_sem]
            have z3 : wz.cell? ⟨wr.heap.size, 3, none⟩ = some (.int .i64 ((q : Int) + z)) := by rw [hwz]; simp [go_sem]
            have xl1 := xl.below hdr
            have xe1 := xe.below hdr
            have ho1 := owns_below HO.out hdr
            have hb1 := HBW.out.trans (hdr.mono HBW.out.size)
            have hs1 : B ≤ wz.heap.size := by have := hdr.size; omega
            have HZ4 := Lib.hid (And.intro z0 (And.intro z1 (And.intro z2 z3)))
            have HZW := Lib.hid (And.intro xl1 (And.intro xe1 (And.intro ho1 (And.intro hb1 hs1))))
            clear hwz z0 z1 z2 z3 hdr hl0 hlz he0 hez xl1 xe1 ho1 hb1 hs1
            refine ⟨⟨HZW.out.2.2.2.1, HZW.out.1.k0⟩, ?_⟩
            refine Plan.plan_of_effect rfl (fun K hK => ?_)
            refine wpList_box wz rfl (.tmp 43) (.tmp 56) 23 31 Try.underlying23 info31 rfl B k wr.heap.size (.slice va vm vc) _ (by simp [go_sem]) HZW.out.2.2.1 (by simp [go_sem]) _ _ _ _ HZ4.out.1 HZ4.out.2.1 HZ4.out.2.2.1 HZ4.out.2.2.2 hkq HZW.out.2.2.2.2 ?_
            intro v' w6 hv' hb6
            obtain ⟨va', vm', vc', rfl⟩ := owns_shape hv'
            have xl6 : C1 w6 bl (.slice va vm vc) := ⟨(hb6.cell (by simp; omega)).trans HZW.out.1.k0, (hb6.frozen (by simp; omega)).trans HZW.out.1.fz⟩
            have xe6 : C1 w6 be (.int .i64 0) := ⟨(hb6.cell (by simp; omega)).trans HZW.out.2.1.k0, (hb6.frozen (by simp; omega)).trans HZW.out.2.1.fz⟩
            have hb6' := HZW.out.2.2.2.1.trans (hb6.mono n4)
            have hs6 : B ≤ w6.heap.size := by have := hb6.size; have := HZW.out.2.2.2.2; omega
            have HV6 := Lib.hid (And.intro hv' (And.intro xe6 (And.intro hb6' hs6)))
            clear hv' hb6 xe6 HZW HZ4 hb6' hs6
            have hl6 := xl6.k0
            have hz6 := xl6.fz
            go_wp2_with fail
            refine ⟨⟨HV6.out.2.2.1, hl6⟩, ?_⟩
            refine Plan.plan_of_last rfl (fun K hK => ?_)
            go_wp2_with fail
            refine Plan.plan_done ?_
            go_wp2_with fail
            go_roundw
            case rel =>
              have hg : goOn f to (pos f fr k) := by rw [HQ.out]; exact ⟨by omega, by rw [HZ.out]; exact hz8', by rw [HZ.out]; exact hzl'⟩
              have hpz : ((pos f fr (k + 1) : Nat) : Int) = (q : Int) + z := by simp only [pos]; rw [HQ.out, HZ.out]; omega
              refine ⟨k + 1, .slice va' vm' vc', HW.out.step hg, by rw [hpz], ?_, ?_, ?_, ?_, ?_⟩
              · exact ⟨by simp [go_sem, hl6], by rw [World.frozen?_setCell]; exact hz6⟩
              · exact ⟨by rw [World.cell?_setCell_far _ _ _ _ (by simp; omega)]; exact HV6.out.2.1.k0, by rw [World.frozen?_setCell]; exact HV6.out.2.1.fz⟩
              · have e : rowsV f fr (k + 1) = rowsV f fr k ++ [.string (strOfNums [f (q + 4), f (q + 4 + 1), f (q + 4 + 2), f (q + 4 + 3)]), .int .i64 (q : Int), .int .i64 ((q : Int) + 8), .int .i64 ((q : Int) + z)] := by
                  simp only [rowsV, boxV]; rw [HQ.out, HZ.out]
                rw [e]
                exact owns_far HV6.out.1 (by simp; omega) _
              · exact HV6.out.2.2.1.setCell (by simpa using n0) _
              · rw [World.size_setCell]; exact HV6.out.2.2.2
            case measure => simp [intOf]; omega
    · have hge : to ≤ q := by omega
      go_wp2_with fail
      refine leaves_cons (f := 28) (args := #[.pointer (some ⟨bl, 0, none⟩), .pointer (some ⟨be, 0, none⟩)]) (by simp) (by simp [go_sem]) ?_
      refine (idle28 _ _ _).mono ?_
      rintro e u' w'' ⟨rfl, rfl, rfl⟩
      simp [Leaves, settle, results, Try.results10, go_sem, hl0, he0]
      have hcd : codeAt f to (pos f fr k) = 0 := by rw [HQ.out]; unfold codeAt; rw [if_pos (by omega)]
      have hng : ¬ goOn f to (pos f fr k) := by rw [HQ.out]; unfold goOn; omega
      have key := fun W hW hO => HP.out W (.slice va vm vc) k hW HW.out hng (fun h => absurd hcd h) (fun _ => hO)
      simp only [hcd] at key
      exact key _ (by have h := HBW.out; go_grown) (owns_mono (owns_far (owns_far HO.out (by simp; omega) _) (by simp; omega) _) n4)

end Go.Proofs.Ytkhjkemllgjfmaa

/- The contract of isomedia.Presented. -/
namespace Go.Proofs.Ytkhjkemllgjfmaa
open Go.RowKit
set_option linter.unusedVariables false

theorem info2 : (Try.prog.info? 2).map (fun i => (i.zero, i.size, i.bytes)) = some (some (.int .i64 0), 1, 8) := by kernel_rfl

/-- When samples are decoded. -/
def atT (S : Nat → Sm) : Nat → Int
  | 0 => 0
  | k + 1 => atT S k + (S k).dur
theorem atT_bd {S : Nat → Sm} {n k : Nat} (h : ∀ i, i < n → okSm (S i) = true) (hk : k ≤ n) : 0 ≤ atT S k ∧ atT S k ≤ (k : Int) * 16777216 := by
  induction k with
  | zero => simp [atT]
  | succ k ih =>
    have h1 := ih (by omega)
    have h2 := h k (by omega)
    unfold okSm at h2
    simp only [decide_eq_true_eq] at h2
    simp only [atT]
    omega
def timeV (T : Tr) (sc : Int) (i : Nat) : Int := showF T (atT T.S i + (T.S i).shift) sc
def timeL (T : Tr) (sc : Int) (i : Nat) : List Value := [.int .i64 (timeV T sc i)]

/-- What Presented leaves. -/
def PresPost (w : World) (F : Fl) (kk : Int) (e : Ending) (w' : World) : Prop :=
  ∃ v c, e = .returned (.tuple #[v, .int .i64 c]) ∧ Below w.heap.size w w' ∧
    (if okFl F = false then v = .slice none 0 0 ∧ c = 1 else if kk < 0 ∨ (F.nT : Int) ≤ kk then v = .slice none 0 0 ∧ c = 7 else
      c = 0 ∧ w'.ownsRow w.heap.size 2 1 v (F.T kk.toNat).nS (rowsOf (timeL (F.T kk.toNat) F.sc) (F.T kk.toNat).nS))

theorem idle33 (p q : Addr) (w : World) : CallsD Try.prog 33 #[.pointer (some p), .pointer (some q)] .returning w fun e u' w' => e = .returned (.tuple #[]) ∧ u' = .returning ∧ w' = w := by
  refine callsD_of_wpS Try.func33 rfl fun c₀ cs hu => ?_
  apply wpS_seq
  apply wpS_region
  simp [wpOpsS, go_sem, recoverD, hu, Try.ntmps33, Exit.thenS]
  refine wpS_cond (t := false) (by simp [Act.eval, Array.replicate]) ?_
  simp only [Bool.false_eq_true, if_false]
  refine wpS_of_wp (wp_skip ?_)
  cases c₀
  simp_all [bodyPostS, results, Try.results33]

set_option maxRecDepth 100000 in
set_option maxHeartbeats 4000000 in
theorem pres_any (v : Value) (F : Fl) (kk : Int) (w : World) (hv : FA w v F) (hm : F.nT ≤ 1000000) :
    Calls Try.prog 17 #[v, .int .i64 kk] w (PresPost w F kk) := by
  have hmf : ∀ (fn : Fn) (first cap : Array Value) (w : World), (Instr.makeFunc fn first cap).run Try.prog w = .ok (.func fn first cap) w := fun _ _ _ _ => rfl
  have hv0 := hv
  obtain ⟨ts, rfl, hts⟩ := hv
  obtain ⟨ao, c, rfl⟩ := hts.shape
  have HT := Lib.hid hts
  have HV := Lib.hid hv0
  clear hts hv0
  go_enter_defers Try.func17, Try.ntmps17
  go_wp2_with fail
  obtain ⟨w1, hw⟩ : ∃ x, x = ((w.alloc (.cells #[.int .i64 F.sc, .slice ao F.nT c] 56)).alloc (.cells #[.slice none 0 0] 51)).alloc (.cells #[.int .i64 0] 24) := ⟨_, rfl⟩
  rw [← hw]
  have hb1 : Below w.heap.size w w1 := by rw [hw]; go_grown
  have xf : B2 w1 w.heap.size (.int .i64 F.sc) (.slice ao F.nT c) := by
    rw [hw]; exact ((B2.of_alloc w _ _ _ 56 rfl).far (below_box _ _) (by simp)).far (below_box _ _) (by simp; omega)
  have CL := Lib.hid (show C1 w1 (w.heap.size + 1) (.slice none 0 0) by rw [hw]; exact ⟨by simp [go_sem], by simp [go_sem]⟩)
  have CE := Lib.hid (show C1 w1 (w.heap.size + 1 + 1) (.int .i64 0) by rw [hw]; exact ⟨by simp [go_sem], by simp [go_sem]⟩)
  have hsz : w1.heap.size = w.heap.size + 1 + 1 + 1 := by rw [hw]; simp
  obtain ⟨blf, hblf⟩ : ∃ z, z = w.heap.size := ⟨_, rfl⟩
  obtain ⟨bl, hbl⟩ : ∃ z, z = w.heap.size + 1 := ⟨_, rfl⟩
  obtain ⟨be, hbe⟩ : ∃ z, z = w.heap.size + 1 + 1 := ⟨_, rfl⟩
  have n0 : w.heap.size ≤ blf := by omega
  have n1 : blf < bl := by omega
  have n2 : bl < be := by omega
  have n3 : be < w1.heap.size := by omega
  rw [← hbe] at CE ⊢
  rw [← hbl] at CL ⊢
  rw [← hblf] at xf ⊢
  have XF := Lib.hid xf
  have HB := Lib.hid hb1
  clear hw hb1 xf hsz hblf hbl hbe
  refine (validF_any _ F w1 (HV.out.below HB.out) (by omega)).mono ?_
  rintro e w2 ⟨rfl, hb⟩
  replace XF := Lib.hid (XF.out.far hb (by omega))
  replace CL := Lib.hid (CL.out.below hb)
  replace CE := Lib.hid (CE.out.below hb)
  replace HB := Lib.hid (HB.out.trans (hb.mono HB.out.size))
  have n4 : be < w2.heap.size := by have := hb.size; omega
  have l0 := CL.out.k0
  have lz := CL.out.fz
  have e0 := CE.out.k0
  have ez := CE.out.fz
  have f0 := XF.out.k0
  have f1 := XF.out.k1
  clear hb n3
  cases hok : okFl F
  · have HP := Lib.hid hok
    go_wp2_with fail
    refine leaves_cons (f := 33) (args := #[.pointer (some ⟨bl, 0, none⟩), .pointer (some ⟨be, 0, none⟩)]) (by simp) (by simp [go_sem]) ?_
    refine (idle33 _ _ _).mono ?_
    rintro e u' w'' ⟨rfl, rfl, rfl⟩
    simp [Leaves, settle, results, Try.results17, go_sem, l0, e0]
    have h := HB.out
    exact ⟨_, _, rfl, by go_grown, by rw [if_pos HP.out]; exact ⟨rfl, rfl⟩⟩
  have HOK := Lib.hid hok
  have hnok : ¬ okFl F = false := by rw [hok]; simp
  have HN := Lib.hid hnok
  clear hok hnok
  by_cases hneg : kk < 0
  · go_wp2_with fail
    refine leaves_cons (f := 33) (args := #[.pointer (some ⟨bl, 0, none⟩), .pointer (some ⟨be, 0, none⟩)]) (by simp) (by simp [go_sem]) ?_
    refine (idle33 _ _ _).mono ?_
    rintro e u' w'' ⟨rfl, rfl, rfl⟩
    simp [Leaves, settle, results, Try.results17, go_sem, l0, e0]
    have h := HB.out
    exact ⟨_, _, rfl, by go_grown, by rw [if_neg HN.out, if_pos (by omega)]; exact ⟨rfl, rfl⟩⟩
  obtain ⟨n, rfl⟩ := Int.eq_ofNat_of_zero_le (show 0 ≤ kk by omega)
  clear hneg
  by_cases hbig : F.nT ≤ n
  · have hbd : decide (F.nT ≤ n) = true := by simpa using hbig
    go_wp2_with fail
    refine leaves_cons (f := 33) (args := #[.pointer (some ⟨bl, 0, none⟩), .pointer (some ⟨be, 0, none⟩)]) (by simp) (by simp [go_sem]) ?_
    refine (idle33 _ _ _).mono ?_
    rintro e u' w'' ⟨rfl, rfl, rfl⟩
    simp [Leaves, settle, results, Try.results17, go_sem, l0, e0]
    have h := HB.out
    exact ⟨_, _, rfl, by go_grown, by rw [if_neg HN.out, if_pos (by omega)]; exact ⟨rfl, rfl⟩⟩
  have hbd : decide (F.nT ≤ n) = false := by simpa using hbig
  have hn : n < F.nT := by omega
  obtain ⟨b, o, a2, d2, a3, d3, a4, d4, rfl, t0, t1, t2, t3, t4, hta⟩ := HT.out.at hn
  replace t0 := (HB.out.cell (block_lt_of_cell t0)).trans t0
  replace t1 := (HB.out.cell (block_lt_of_cell t1)).trans t1
  replace t2 := (HB.out.cell (block_lt_of_cell t2)).trans t2
  replace t3 := (HB.out.cell (block_lt_of_cell t3)).trans t3
  replace t4 := (HB.out.cell (block_lt_of_cell t4)).trans t4
  have HTA := Lib.hid hta
  have HFO := Lib.hid (okFl_yes HOK.out)
  have HTO := Lib.hid ((okFl_yes HOK.out).2 n hn)
  have hoe : (F.T n).nS ≤ 4096 := (okTr_yes HTO.out).1.2.2.2.2.1
  obtain ⟨T, hTe⟩ : ∃ T, T = F.T n := ⟨_, rfl⟩
  have hpost : ∀ (v : Value) (w' : World), Below w.heap.size w w' → w'.ownsRow w.heap.size 2 1 v T.nS (rowsOf (timeL T F.sc) T.nS) → PresPost w F (n : Int) (.returned (.tuple #[v, .int .i64 0])) w' := by
    intro v w' hb ho
    refine ⟨_, _, rfl, hb, ?_⟩
    rw [if_neg HN.out, if_neg (by omega)]
    rw [hTe] at ho
    exact ⟨rfl, ho⟩
  have HPO := Lib.hid hpost
  rw [← hTe] at t0 t1 t2 t3 t4 HTA HTO hoe
  clear hta hpost hTe hbig
  go_wp2_with fail
  obtain ⟨w3, hw3⟩ : ∃ x, x = w2.alloc (.cells #[.string T.h, .int .i64 T.sc, .slice a2 T.nC d2, .slice a3 T.nS d3, .slice a4 T.nE d4] 43) := ⟨_, rfl⟩
  rw [← hw3]
  have hb3 : Below w2.heap.size w2 w3 := by rw [hw3]; exact below_box _ _
  have xt : BX w3 w2.heap.size (.string T.h) (.int .i64 T.sc) (.slice a2 T.nC d2) (.slice a3 T.nS d3) (.slice a4 T.nE d4) := by
    rw [hw3]; exact BX.of_alloc _ _ _ _ _ _ _ 43 rfl
  obtain ⟨bt, hbt⟩ : ∃ z, z = w2.heap.size := ⟨_, rfl⟩
  rw [← hbt] at xt ⊢
  obtain ⟨B, hBB⟩ : ∃ z, z = w3.heap.size := ⟨_, rfl⟩
  have n5 : be < bt := by omega
  have n6 : bt < B := by have := xt.lt; omega
  have n7 : B ≤ w3.heap.size := by omega
  have n8 : w3.heap.size ≤ B := by omega
  replace XF := Lib.hid (XF.out.far hb3 (by omega))
  replace CL := Lib.hid (CL.out.below hb3)
  replace CE := Lib.hid (CE.out.below hb3)
  replace HB := Lib.hid (HB.out.trans (hb3.mono HB.out.size))
  have XT := Lib.hid xt
  have xt3 := xt.k3
  clear hw3 hb3 xt hbt hBB t0 t1 t2 t3 t4 l0 lz e0 ez f0 f1 n4
  have hnw : w.heap.size ≤ B := by omega
  go_wp2_with fail
  go_loopw [31, 7] (fun i g wr => ∃ (k : Nat) (v : Value), k ≤ T.nS ∧ i = .int .i64 (k : Int) ∧ g = .int .i64 (atT T.S k) ∧ C1 wr bl v ∧ C1 wr be (.int .i64 0) ∧ BX wr bt (.string T.h) (.int .i64 T.sc) (.slice a2 T.nC d2) (.slice a3 T.nS d3) (.slice a4 T.nE d4) ∧ B2 wr blf (.int .i64 F.sc) (.slice (some ⟨b, o, none⟩) F.nT c) ∧ wr.ownsRow B 2 1 v k (rowsOf (timeL T F.sc) k) ∧ Below w.heap.size w wr ∧ B ≤ wr.heap.size) (fun i _ _ => T.nS - (intOf i).toNat)
  case atStart => exact ⟨0, _, Nat.zero_le _, rfl, rfl, CL.out, CE.out, XT.out, XF.out, owns_nil _ _ _ _, HB.out, n7⟩
  case round =>
    obtain ⟨k, v, hk, rfl, rfl, cl, ce, xt, xf, ho, hb, hsz⟩ := hrel
    obtain ⟨va, vm, vc, rfl⟩ := owns_shape ho
    have HO := Lib.hid ho
    have HBW := Lib.hid hb
    have HCL := Lib.hid cl
    have HCE := Lib.hid ce
    have HXT := Lib.hid xt
    have HXF := Lib.hid xf
    have l0 := cl.k0
    have lz := cl.fz
    clear ho hb cl ce xt xf
    have HBB := Lib.hid HBW.out
    by_cases hlt : k < T.nS
    · obtain ⟨c0, c1, c2, c3, c4, ea, eh, es, eb2, eb3, eb4⟩ := HTA.out
      simp only [Value.agg.injEq, Array.mk.injEq, List.cons.injEq, and_true] at ea
      obtain ⟨rfl, rfl, rfl, rfl, rfl⟩ := ea
      obtain ⟨_, _, e, _, H⟩ := eb3
      simp only [Value.slice.injEq, true_and] at e
      obtain ⟨rfl, rfl⟩ := e
      obtain ⟨sb, so, x, rfl, q0, q1, q2, q3, hx⟩ := H k hlt
      obtain ⟨ax, dx, rfl⟩ := hx.shape
      have sbl : sb < w.heap.size := block_lt_of_cell q0
      have hso := (HBW.out.cell (p := ⟨sb, so + k * 4, none⟩) (by simp; omega)).trans q0
      replace q1 := (HBW.out.cell (p := ⟨sb, so + k * 4 + 1, none⟩) (by simp; omega)).trans q1
      replace q2 := (HBW.out.cell (p := ⟨sb, so + k * 4 + 2, none⟩) (by simp; omega)).trans q2
      replace q3 := (HBW.out.cell (p := ⟨sb, so + k * 4 + 3, none⟩) (by simp; omega)).trans q3
      clear q0 H eh es eb2 eb4 hx sbl
      have bd := atT_bd (okTr_yes HTO.out).2.1 (show k ≤ T.nS by omega)
      have sd := okSm_yes ((okTr_yes HTO.out).2.1 k hlt)
      obtain ⟨A, hA⟩ : ∃ A, A = atT T.S k := ⟨_, rfl⟩
      have hst : atT T.S (k + 1) = A + (T.S k).dur := by simp only [atT]; rw [← hA]
      have htv : timeL T F.sc k = [.int .i64 (showF T (A + (T.S k).shift) F.sc)] := by simp only [timeL, timeV]; rw [← hA]
      rw [← hA] at bd ⊢
      have g1 := bd.1
      have g2 : A ≤ 68719476736 := by omega
      have g3 := sd.2.1
      have g4 := sd.2.2.1
      have g5 := sd.2.2.2.1
      have g6 := sd.2.2.2.2
      have HST := Lib.hid hst
      have HTV := Lib.hid htv
      clear hst htv hA bd sd
      go_wp2_with fail
      obtain ⟨w4, hw4⟩ : ∃ x, x = wr.alloc (.cells #[.slice ax (T.S k).n dx, .int .i64 (T.S k).dur, .int .i64 (T.S k).shift, .bool (T.S k).sync] 75) := ⟨_, rfl⟩
      rw [← hw4]
      have hb4 : Below wr.heap.size wr w4 := by rw [hw4]; exact below_box _ _
      have skb : w4.heap[wr.heap.size]? = some (.cells #[.slice ax (T.S k).n dx, .int .i64 (T.S k).dur, .int .i64 (T.S k).shift, .bool (T.S k).sync] 75 (0, 0)) := by rw [hw4]; simp only [World.alloc, Array.getElem?_push_size]
      have s1 : w4.cell? ⟨wr.heap.size, 1, none⟩ = some (.int .i64 (T.S k).dur) := by rw [hw4]; simp [go_sem]
      have s2 : w4.cell? ⟨wr.heap.size, 2, none⟩ = some (.int .i64 (T.S k).shift) := by rw [hw4]; simp [go_sem]
      obtain ⟨bs, hbs⟩ : ∃ z, z = wr.heap.size := ⟨_, rfl⟩
      rw [← hbs] at skb s1 s2 ⊢
      have n9 : B ≤ bs := by omega
      have HBS := Lib.hid hbs
      clear hbs
      obtain ⟨t0, t1, t2, t3, t4, _⟩ := HXT.out
      have f0 := HXF.out.k0
      replace l0 := (hb4.cell (block_lt_of_cell l0)).trans l0
      replace f0 := (hb4.cell (block_lt_of_cell f0)).trans f0
      replace t0 := (hb4.cell (block_lt_of_cell t0)).trans t0
      replace t1 := (hb4.cell (block_lt_of_cell t1)).trans t1
      replace t2 := (hb4.cell (block_lt_of_cell t2)).trans t2
      replace t3 := (hb4.cell (block_lt_of_cell t3)).trans t3
      replace t4 := (hb4.cell (block_lt_of_cell t4)).trans t4
      have HB4 := Lib.hid hb4
      have S1 := Lib.hid s1
      have SB := Lib.hid skb
      have nbs : bs < w4.heap.size := block_lt_of_cell s1
      clear hw4 hb4 s1 skb
      refine Plan.wp_region_planz (fun w' => w'.cell? ⟨bl, 0, none⟩ = some (.slice va vm vc) ∧ w'.cell? ⟨blf, 0, none⟩ = some (.int .i64 F.sc) ∧ w'.cell? ⟨bt, 0, none⟩ = some (.string T.h) ∧ w'.cell? ⟨bt, 1, none⟩ = some (.int .i64 T.sc) ∧ w'.cell? ⟨bt, 2, none⟩ = some (.slice a2 T.nC d2) ∧ w'.cell? ⟨bt, 3, none⟩ = some (.slice (some ⟨sb, so, none⟩) T.nS d3) ∧ w'.cell? ⟨bt, 4, none⟩ = some (.slice a4 T.nE d4) ∧ w'.cell? ⟨bs, 2, none⟩ = some (.int .i64 (T.S k).shift)) 11 (([0, 1, 2, 3, 4, 5, 6, 7].map (·, true)) ++ (([8, 9, 10, 11].map (·, false)))) (by kernel_rfl) (by kernel_rfl) (by kernel_rfl) ⟨l0, f0, t0, t1, t2, t3, t4, s2⟩ ?_
      refine' Plan.plan_seg _ [0, 1, 2, 3, 4, 5, 6, 7] (([8, 9, 10, 11].map (·, false))) (by kernel_rfl) (by kernel_rfl) rfl (by exact ⟨l0, f0, t0, t1, t2, t3, t4, s2⟩) (fun wx hS => ?_) ?_
      rotate_left
      · obtain ⟨z0, z1, z2, z3, z4, z5, z6, z7⟩ := hS
        go_light
        iterate 8 (apply Plan.seg_pick; rfl; intro K hK; go_wp)
        exact Plan.seg_nil
      refine Plan.plan_of_effect rfl (fun K hK => ?_)
      go_wp2_with fail
      refine (presented_any _ T _ F.sc _ (HTA.out.below ((HBW.out.trans (HB4.out.mono HBW.out.size)).drew)) HTO.out ?_ ?_ HFO.out.1.1 HFO.out.1.2.1).mono ?_
      · omega
      · omega
      rintro e w5 ⟨rfl, hb5⟩
      replace hb5 : Below w4.heap.size w4 w5 := (Below.refl w4.heap.size w4).drew.trans hb5
      replace l0 := (hb5.cell (block_lt_of_cell l0)).trans l0
      replace f0 := (hb5.cell (block_lt_of_cell f0)).trans f0
      replace t0 := (hb5.cell (block_lt_of_cell t0)).trans t0
      replace t1 := (hb5.cell (block_lt_of_cell t1)).trans t1
      replace t2 := (hb5.cell (block_lt_of_cell t2)).trans t2
      replace t3 := (hb5.cell (block_lt_of_cell t3)).trans t3
      replace t4 := (hb5.cell (block_lt_of_cell t4)).trans t4
      replace s2 := (hb5.cell (block_lt_of_cell s2)).trans s2
      have HB5 := Lib.hid hb5
      clear hb5
      go_wp2_with fail
      refine ⟨⟨l0, f0, t0, t1, t2, t3, t4, s2⟩, ?_⟩
      refine Plan.plan_of_effect rfl (fun K hK => ?_)
      go_wp2_with fail
      obtain ⟨Z, hZ⟩ : ∃ Z, Z = showF T (A + (T.S k).shift) F.sc := ⟨_, rfl⟩
      rw [← hZ]
      obtain ⟨w6, hw6⟩ : ∃ x, x = w5.alloc (.cells #[.int .i64 Z] 2) := ⟨_, rfl⟩
      rw [← hw6]
      have hb56 : Below w5.heap.size w5 w6 := by rw [hw6]; exact below_box _ _
      have p0 : w6.cell? ⟨w5.heap.size, 0, none⟩ = some (.int .i64 Z) := by rw [hw6]; simp [go_sem]
      replace l0 := (hb56.cell (block_lt_of_cell l0)).trans l0
      replace f0 := (hb56.cell (block_lt_of_cell f0)).trans f0
      replace t0 := (hb56.cell (block_lt_of_cell t0)).trans t0
      replace t1 := (hb56.cell (block_lt_of_cell t1)).trans t1
      replace t2 := (hb56.cell (block_lt_of_cell t2)).trans t2
      replace t3 := (hb56.cell (block_lt_of_cell t3)).trans t3
      replace t4 := (hb56.cell (block_lt_of_cell t4)).trans t4
      replace s2 := (hb56.cell (block_lt_of_cell s2)).trans s2
      have hb6 : Below wr.heap.size wr w6 := HB4.out.trans ((HB5.out.trans (hb56.mono HB5.out.size)).mono HB4.out.size)
      have HB6 := Lib.hid hb6
      have SB6 := Lib.hid ((hb56.block bs (by have := HB5.out.size; omega)).trans ((HB5.out.block bs nbs).trans SB.out))
      have S16 := Lib.hid ((hb56.cell (p := ⟨bs, 1, none⟩) (by have := HB5.out.size; simp; omega)).trans ((HB5.out.cell (p := ⟨bs, 1, none⟩) (by simpa using nbs)).trans S1.out))
      have HZ := Lib.hid hZ
      have hs6 : B ≤ w6.heap.size := by have := hb6.size; omega
      clear hw6 hb6 hb56 hZ
      refine ⟨⟨l0, f0, t0, t1, t2, t3, t4, s2⟩, ?_⟩
      refine Plan.plan_of_effect rfl (fun K hK => ?_)
      refine wpList_app2 w6 rfl (.tmp 35) (.tmp 44) 51 2 1 8 _ Try.underlying51 info2 rfl (by decide) (by decide) rfl B k w5.heap.size (.slice va vm vc) _ [.int .i64 Z] (by simp [go_sem]) (owns_below HO.out HB6.out) (by simp [go_sem]) rfl (fun j u hj => by
        match j, hj with
        | 0, hj => simp at hj; rw [← hj]; exact p0
        | j + 1, hj => simp at hj) (by simp [Value.oneCell']) (by omega) hs6 ?_
      intro v' w7 hv' hb7 hkeep
      have hv7 : Below B wr w7 := (HB6.out.mono hsz).trans hb7
      obtain ⟨va', vm', vc', rfl⟩ := owns_shape hv'
      have cl7 : C1 w7 bl (.slice va vm vc) := ⟨(hv7.cell (p := ⟨bl, 0, none⟩) (by simp; omega)).trans HCL.out.k0, (hv7.frozen (p := ⟨bl, 0, none⟩) (by simp; omega)).trans HCL.out.fz⟩
      have ce7 : C1 w7 be (.int .i64 0) := ⟨(hv7.cell (p := ⟨be, 0, none⟩) (by simp; omega)).trans HCE.out.k0, (hv7.frozen (p := ⟨be, 0, none⟩) (by simp; omega)).trans HCE.out.fz⟩
      have xt7 := HXT.out.far hv7 (by omega)
      have xf7 := HXF.out.far hv7 (by omega)
      have hb37 := HBW.out.trans (hv7.mono hnw)
      have HV7 := Lib.hid (And.intro hv' (And.intro cl7 (And.intro ce7 (And.intro xt7 (And.intro xf7 hb37)))))
      have m1 := cl7.k0
      have m2 := cl7.fz
      have hkb := hkeep bs _ 75 SB6.out (by decide)
      have s17 : w7.cell? ⟨bs, 1, none⟩ = some (.int .i64 (T.S k).dur) := (World.cell?_of_block hkb).trans S16.out
      replace s2 : w7.cell? ⟨bs, 2, none⟩ = some (.int .i64 (T.S k).shift) := (World.cell?_of_block hkb).trans s2
      obtain ⟨t0, t1, t2, t3, t4, _⟩ := xt7
      have f0 := xf7.k0
      have l0 := m1
      have nbl : bl < w7.heap.size := block_lt_of_cell m1
      have hv7s : B ≤ w7.heap.size := by have := hv7.size; omega
      clear hv' hb7 hkeep cl7 ce7 xf7 hb37 hv7 p0 hkb
      go_wp2_with fail
      refine ⟨⟨l0, f0, t0, t1, t2, t3, t4, s2⟩, ?_⟩
      refine Plan.plan_of_last rfl (fun K hK => ?_)
      go_wp2_with fail
      refine Plan.plan_done ?_
      have nbb : (bs == bl) = false := by simp; omega
      clear l0 f0 t0 t1 t2 t3 t4 s2 nbl m1 m2
      have s18 : (w7.setCell ⟨bl, 0, none⟩ (.slice va' vm' vc')).cell? ⟨bs, 1, none⟩ = some (.int .i64 (T.S k).dur) := by rw [World.cell?_setCell_far _ _ _ _ (by simp; omega)]; exact s17
      clear s17
      go_wp2_with fail
      go_roundw
      case rel =>
        have e : rowsOf (timeL T F.sc) (k + 1) = rowsOf (timeL T F.sc) k ++ [.int .i64 Z] := by
          simp only [rowsOf]; rw [HTV.out, HZ.out]
        refine ⟨k + 1, .slice va' vm' vc', by omega, by go_num, by rw [HST.out], ?_, ?_, HV7.out.2.2.2.1.other (by simp; omega), HV7.out.2.2.2.2.1.other (by simp; omega) _, ?_, HV7.out.2.2.2.2.2.setCell (by simp; omega) _, by rw [World.size_setCell]; have := HV7.out.2.2.2.2.2.size; have := hv7s; omega⟩
        · exact ⟨by simp [go_sem, HV7.out.2.1.k0], by rw [World.frozen?_setCell]; exact HV7.out.2.1.fz⟩
        · exact ⟨by rw [World.cell?_setCell_far _ _ _ _ (by simp; omega)]; exact HV7.out.2.2.1.k0, by rw [World.frozen?_setCell]; exact HV7.out.2.2.1.fz⟩
        · rw [e]; exact owns_far HV7.out.1 (by simp; omega) _
      case measure => simp [intOf]; omega
    · obtain rfl : k = T.nS := by omega
      have e0 := HCE.out.k0
      have ez := HCE.out.fz
      go_wp2_with fail
      refine leaves_cons (f := 33) (args := #[.pointer (some ⟨bl, 0, none⟩), .pointer (some ⟨be, 0, none⟩)]) (by simp) (by simp [go_sem]) ?_
      refine (idle33 _ _ _).mono ?_
      rintro e u' w'' ⟨rfl, rfl, rfl⟩
      simp [Leaves, settle, results, Try.results17, go_sem, l0, e0]
      exact HPO.out _ _ (by have h := HBB.out; go_grown) (owns_mono (owns_far (owns_far HO.out (by simp; omega) _) (by simp; omega) _) hnw)
end Go.Proofs.Ytkhjkemllgjfmaa
