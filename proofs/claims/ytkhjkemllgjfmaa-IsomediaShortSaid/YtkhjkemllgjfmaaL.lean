/- The contract of the statements' track: a reference's track as the program has it. -/
import Derived.Test.YtkhjkemllgjfmaaH
namespace Go.Proofs.Ytkhjkemllgjfmaa
open Go.RowKit
set_option linter.unusedVariables false

theorem info75 : (Try.prog.info? 75).map (fun i => (i.zero, i.size, i.bytes)) = some (some (.agg #[.slice none 0 0, .int .i64 0, .int .i64 0, .bool false]), 4, 48) := by kernel_rfl
theorem info76 : (Try.prog.info? 76).map (fun i => (i.zero, i.size, i.bytes)) = some (some (.agg #[.int .i64 0, .int .i64 0]), 2, 16) := by kernel_rfl

/-- One element appended to a row of the call's own. -/
theorem wpList_app (w : World) {ops : Array Oper} {rest : List Oper} {o : Oper} {a : Act} {Q : Exit → Act → World → Prop} (hgd : o.guard = none) (s x : Operand) (t E : TypeId) (size bytes : Nat) (z : Value) (ht : Try.prog.underlying t = some (.slice E))
    (hE : (Try.prog.info? E).map (fun i => (i.zero, i.size, i.bytes)) = some (some z, size, bytes)) (hzs : z.cells.size = size) (hsz : 0 < size) (hby : bytes ≤ 1000)
    (ho : o.op = .call { callee := .builtin .append, args := #[s, x], argTypes := #[t, t] }) (B k g : Nat) (v : Value) (xs news : List Value) (hs : a.eval s = v) (hown : w.ownsRow B E size v k xs)
    (hx : a.eval x = .slice (some ⟨g, 0, none⟩) 1 1) (hl : news.length = size) (hnews : ∀ j u, news[j]? = some u → w.cell? ⟨g, j, none⟩ = some u) (h1 : ∀ u ∈ news, u.oneCell' = true)
    (hk : k ≤ 100000000) (hB : B ≤ w.heap.size)
    (h : ∀ v' w', w'.ownsRow B E size v' (k + 1) (xs ++ news) → Below B w w' → wpList Try.prog ops Q rest (a.put o.dst v') w') : wpList Try.prog ops Q (o :: rest) a w := by
  obtain ⟨i0, hi, hz0, hz1, hz2⟩ := info_parts hE
  have hb2 : (k + 1) * bytes ≤ (100000000 + 1) * 1000 := Nat.mul_le_mul (by omega) hby
  refine wpList_append_own _ hgd s x t ho B E i0 z size bytes ht hi hz0 hz1 hz2 hzs hsz v k xs hs hown ⟨g, 0, none⟩ 1 1 news hx (by omega) (fun j u hj => ?_) h1 (by unfold maxLen; omega) (by omega) hB (fun v' w' hown' hg hnil => ?_)
  · rw [Addr.add_lit, Nat.zero_add]; exact hnews j u hj
  · refine h v' w' hown' ((Below.refl _ _).grown hg hB (fun k' h' => ?_))
    rcases hown.2 with ⟨rfl, _⟩ | ⟨g', cap, cur, rfl, hg', _⟩
    · cases h'
    · cases h'; exact hg'

/-- The samples' data, as values. -/
theorem SA.pick {w : World} {v : Value} {n : Nat} {S : Nat → Sm} (h : SA w v n S) : ∃ X : Nat → Value, ∀ i, i < n → ∃ b o c, v = .slice (some ⟨b, o, none⟩) n c ∧ w.cell? ⟨b, o + i * 4, none⟩ = some (X i) ∧ w.cell? ⟨b, o + i * 4 + 1, none⟩ = some (.int .i64 (S i).dur) ∧ w.cell? ⟨b, o + i * 4 + 2, none⟩ = some (.int .i64 (S i).shift) ∧ w.cell? ⟨b, o + i * 4 + 3, none⟩ = some (.bool (S i).sync) ∧ BA w (X i) (S i).n (S i).D := by
  obtain ⟨ao, c, rfl, hc, H⟩ := h
  refine ⟨fun i => (match ao with | some a => (w.cell? ⟨a.block, a.off + i * 4, none⟩).getD (.int .i64 0) | none => .int .i64 0), fun i hi => ?_⟩
  obtain ⟨b, o, x, rfl, h0, h1, h2, h3, h4⟩ := H i hi
  refine ⟨b, o, c, rfl, ?_, h1, h2, h3, ?_⟩
  · simp [h0]
  · simpa [h0] using h4

theorem owns_stay {w w' : World} {B E size n N : Nat} {v : Value} {xs : List Value} (h : w.ownsRow B E size v n xs) (hb : Below N w w') (hg : ∀ g c, v = .slice (some ⟨g, 0, none⟩) n c → g < N) : w'.ownsRow B E size v n xs := by
  refine ⟨h.1, ?_⟩
  rcases h.2 with h1 | ⟨g, cap, cur, h', h1, h2, h3⟩
  · exact .inl h1
  · exact .inr ⟨g, cap, cur, h', h1, by rw [hb.block g (hg g cap h')]; exact h2, h3⟩
theorem owns_in {w : World} {B E size n : Nat} {v : Value} {xs : List Value} (h : w.ownsRow B E size v n xs) (g c : Nat) (e : v = .slice (some ⟨g, 0, none⟩) n c) : g < w.heap.size := by
  rcases h.2 with ⟨h1, _⟩ | ⟨g', cap, cur, h', h1, h2, h3⟩
  · rw [h1] at e; cases e
  · rw [h'] at e; cases e; exact (Array.getElem?_eq_some_iff.1 h2).1
def smV (X : Nat → Value) (S : Nat → Sm) (i : Nat) : List Value := [X i, .int .i64 (S i).dur, .int .i64 (S i).shift, .bool (S i).sync]
def edV (E : Nat → Ed) (i : Nat) : List Value := [.int .i64 (E i).dur, .int .i64 (E i).time]
def rowsOf (f : Nat → List Value) : Nat → List Value
  | 0 => []
  | k + 1 => rowsOf f k ++ f k
theorem rowsOf_length {f : Nat → List Value} {m : Nat} (hf : ∀ i, (f i).length = m) (k : Nat) : (rowsOf f k).length = k * m := by
  induction k with
  | zero => simp [rowsOf]
  | succ k ih => rw [rowsOf, List.length_append, ih, hf, Nat.add_mul]; omega
theorem rowsOf_at {f : Nat → List Value} {m : Nat} (hf : ∀ i, (f i).length = m) (k j i : Nat) (hj : j < k) (hi : i < m) : (rowsOf f k)[j * m + i]? = (f j)[i]? := by
  induction k with
  | zero => omega
  | succ k ih =>
    have hl := rowsOf_length hf k
    rw [rowsOf]
    by_cases e : j = k
    · subst e
      rw [List.getElem?_append_right (by omega), hl]
      congr 1; omega
    · have h1 : (j + 1) * m ≤ k * m := Nat.mul_le_mul_right _ (by omega)
      rw [Nat.add_mul] at h1
      rw [List.getElem?_append_left (by omega)]
      exact ih (by omega)
theorem owns_zero {w : World} {B E size : Nat} {v : Value} {xs : List Value} (h : w.ownsRow B E size v 0 xs) : ∃ a m, v = .slice a 0 m := by
  rcases h.2 with ⟨rfl, _⟩ | ⟨g, cap, cur, rfl, _⟩
  · exact ⟨_, _, rfl⟩
  · exact ⟨_, _, rfl⟩
theorem SA.of_row {w : World} {B E n : Nat} {v : Value} {X : Nat → Value} {S : Nat → Sm} (h : w.ownsRow B E 4 v n (rowsOf (smV X S) n)) (hX : ∀ i, i < n → BA w (X i) (S i).n (S i).D) : SA w v n S := by
  rcases Nat.eq_zero_or_pos n with rfl | hn
  · obtain ⟨a, m, rfl⟩ := owns_zero h
    exact ⟨a, m, rfl, Nat.zero_le _, fun i hi => absurd hi (Nat.not_lt_zero i)⟩
  · obtain ⟨g, c, rfl, hc, H⟩ := owns_open h hn
    have hf : ∀ i, (smV X S i).length = 4 := fun i => rfl
    refine ⟨_, c, rfl, hc, fun i hi => ⟨g, 0, X i, rfl, ?_, ?_, ?_, ?_, hX i hi⟩⟩
    · simpa using H (i * 4 + 0) _ (by rw [rowsOf_at hf n i 0 hi (by omega)]; rfl)
    · simpa using H (i * 4 + 1) _ (by rw [rowsOf_at hf n i 1 hi (by omega)]; rfl)
    · simpa using H (i * 4 + 2) _ (by rw [rowsOf_at hf n i 2 hi (by omega)]; rfl)
    · simpa using H (i * 4 + 3) _ (by rw [rowsOf_at hf n i 3 hi (by omega)]; rfl)
theorem EA.of_row {w : World} {B E n : Nat} {v : Value} {S : Nat → Ed} (h : w.ownsRow B E 2 v n (rowsOf (edV S) n)) : EA w v n S := by
  rcases Nat.eq_zero_or_pos n with rfl | hn
  · obtain ⟨a, m, rfl⟩ := owns_zero h
    exact ⟨a, m, rfl, Nat.zero_le _, fun i hi => absurd hi (Nat.not_lt_zero i)⟩
  · obtain ⟨g, c, rfl, hc, H⟩ := owns_open h hn
    have hf : ∀ i, (edV S i).length = 2 := fun i => rfl
    refine ⟨_, c, rfl, hc, fun i hi => ⟨g, 0, rfl, ?_, ?_⟩⟩
    · simpa using H (i * 2 + 0) _ (by rw [rowsOf_at hf n i 0 hi (by omega)]; rfl)
    · simpa using H (i * 2 + 1) _ (by rw [rowsOf_at hf n i 1 hi (by omega)]; rfl)

/-- Block b holds five cells and may be written. -/
structure BX (w : World) (b : Nat) (c0 c1 c2 c3 c4 : Value) : Prop where
  k0 : w.cell? ⟨b, 0, none⟩ = some c0
  k1 : w.cell? ⟨b, 1, none⟩ = some c1
  k2 : w.cell? ⟨b, 2, none⟩ = some c2
  k3 : w.cell? ⟨b, 3, none⟩ = some c3
  k4 : w.cell? ⟨b, 4, none⟩ = some c4
  fz : ∀ o, w.frozen? ⟨b, o, none⟩ = false
theorem BX.lt {w : World} {b : Nat} {c0 c1 c2 c3 c4 : Value} (h : BX w b c0 c1 c2 c3 c4) : b < w.heap.size := block_lt_of_cell h.k0
theorem BX.far {w w' : World} {B b : Nat} {c0 c1 c2 c3 c4 : Value} (h : BX w b c0 c1 c2 c3 c4) (hb : Below B w w') (hl : b < B) : BX w' b c0 c1 c2 c3 c4 :=
  ⟨(hb.cell hl).trans h.k0, (hb.cell hl).trans h.k1, (hb.cell hl).trans h.k2, (hb.cell hl).trans h.k3, (hb.cell hl).trans h.k4, fun o => (hb.frozen hl).trans (h.fz o)⟩
theorem BX.of_alloc (w : World) (b : Nat) (c0 c1 c2 c3 c4 : Value) (t : TypeId) (h : b = w.heap.size) : BX (w.alloc (.cells #[c0, c1, c2, c3, c4] t)) b c0 c1 c2 c3 c4 := by
  subst h; exact ⟨by simp [go_sem], by simp [go_sem], by simp [go_sem], by simp [go_sem], by simp [go_sem], fun o => by simp [go_sem]⟩
theorem BX.set3 {w : World} {b : Nat} {c0 c1 c2 c3 c4 : Value} (h : BX w b c0 c1 c2 c3 c4) (u : Value) : BX (w.setCell ⟨b, 3, none⟩ u) b c0 c1 c2 u c4 :=
  ⟨by simp [go_sem, h.k0], by simp [go_sem, h.k1], by simp [go_sem, h.k2], by simp [go_sem, h.k3], by simp [go_sem, h.k4], fun o => by rw [World.frozen?_setCell]; exact h.fz o⟩
theorem BX.set4 {w : World} {b : Nat} {c0 c1 c2 c3 c4 : Value} (h : BX w b c0 c1 c2 c3 c4) (u : Value) : BX (w.setCell ⟨b, 4, none⟩ u) b c0 c1 c2 c3 u :=
  ⟨by simp [go_sem, h.k0], by simp [go_sem, h.k1], by simp [go_sem, h.k2], by simp [go_sem, h.k3], by simp [go_sem, h.k4], fun o => by rw [World.frozen?_setCell]; exact h.fz o⟩
theorem BX.other {w : World} {b b' o : Nat} {c0 c1 c2 c3 c4 u : Value} (h : BX w b c0 c1 c2 c3 c4) (hne : b ≠ b') : BX (w.setCell ⟨b', o, none⟩ u) b c0 c1 c2 c3 c4 :=
  ⟨by rw [World.cell?_setCell_far _ _ _ _ (by simpa using hne.symm)]; exact h.k0, by rw [World.cell?_setCell_far _ _ _ _ (by simpa using hne.symm)]; exact h.k1, by rw [World.cell?_setCell_far _ _ _ _ (by simpa using hne.symm)]; exact h.k2, by rw [World.cell?_setCell_far _ _ _ _ (by simpa using hne.symm)]; exact h.k3, by rw [World.cell?_setCell_far _ _ _ _ (by simpa using hne.symm)]; exact h.k4, fun o => by rw [World.frozen?_setCell]; exact h.fz o⟩

theorem BX.put5 {w : World} {b : Nat} {x0 x1 x2 x3 x4 : Value} (h : BX w b x0 x1 x2 x3 x4) (c0 c1 c2 c3 c4 : Value) : BX (((((w.setCell ⟨b, 0, none⟩ c0).setCell ⟨b, 1, none⟩ c1).setCell ⟨b, 2, none⟩ c2).setCell ⟨b, 3, none⟩ c3).setCell ⟨b, 4, none⟩ c4) b c0 c1 c2 c3 c4 := by
  obtain ⟨h0, h1, h2, h3, h4, hz⟩ := h
  exact ⟨by simp [go_sem, h0], by simp [go_sem, h1], by simp [go_sem, h2], by simp [go_sem, h3], by simp [go_sem, h4], fun o => by simp only [World.frozen?_setCell]; exact hz o⟩
theorem owns_put5 {w : World} {b B E size n : Nat} {v : Value} {xs : List Value} (h : w.ownsRow B E size v n xs) (hb : b < B) (c0 c1 c2 c3 c4 : Value) : (((((w.setCell ⟨b, 0, none⟩ c0).setCell ⟨b, 1, none⟩ c1).setCell ⟨b, 2, none⟩ c2).setCell ⟨b, 3, none⟩ c3).setCell ⟨b, 4, none⟩ c4).ownsRow B E size v n xs :=
  owns_far (owns_far (owns_far (owns_far (owns_far h (by simpa using hb) _) (by simpa using hb) _) (by simpa using hb) _) (by simpa using hb) _) (by simpa using hb) _
theorem below_put5 {w w' : World} {b B : Nat} (h : Below B w w') (hb : B ≤ b) (c0 c1 c2 c3 c4 : Value) : Below B w (((((w'.setCell ⟨b, 0, none⟩ c0).setCell ⟨b, 1, none⟩ c1).setCell ⟨b, 2, none⟩ c2).setCell ⟨b, 3, none⟩ c3).setCell ⟨b, 4, none⟩ c4) :=
  ((((h.setCell (by simpa using hb) _).setCell (by simpa using hb) _).setCell (by simpa using hb) _).setCell (by simpa using hb) _).setCell (by simpa using hb) _
theorem results_cell {fn : Func} {c : Tmp} {ty : TypeId} (h : fn.results = #[.cell c ty]) (tmps : Array Value) (P : Program) (w : World) {p : Addr} {r : Value} (h1 : tmps.getD c undef = .pointer (some p)) (h3 : (loadVar ty p).run P w = .ok r w) :
    (results fn tmps).run P w = .ok r w := by
  rw [Array.getD_eq_getD_getElem?] at h1
  simp [results, h, h1, h3, asAddr]
theorem load43 {w : World} {b : Nat} {c0 c1 c2 c3 c4 : Value} (h : BX w b c0 c1 c2 c3 c4) : (loadVar 43 ⟨b, 0, none⟩).run Try.prog w = .ok (.agg #[c0, c1, c2, c3, c4]) w := by
  obtain ⟨h0, h1, h2, h3, h4, _⟩ := h
  simp [go_sem, h0, h1, h2, h3, h4]
theorem cells4 {w : World} {g : Nat} {c0 c1 c2 c3 : Value} (h0 : w.cell? ⟨g, 0, none⟩ = some c0) (h1 : w.cell? ⟨g, 1, none⟩ = some c1) (h2 : w.cell? ⟨g, 2, none⟩ = some c2) (h3 : w.cell? ⟨g, 3, none⟩ = some c3) (j : Nat) (u : Value) (hj : [c0, c1, c2, c3][j]? = some u) : w.cell? ⟨g, j, none⟩ = some u := by
  match j, hj with
  | 0, hj => simp at hj; rw [← hj]; exact h0
  | 1, hj => simp at hj; rw [← hj]; exact h1
  | 2, hj => simp at hj; rw [← hj]; exact h2
  | 3, hj => simp at hj; rw [← hj]; exact h3
  | j + 4, hj => simp at hj
theorem cells2 {w : World} {g : Nat} {c0 c1 : Value} (h0 : w.cell? ⟨g, 0, none⟩ = some c0) (h1 : w.cell? ⟨g, 1, none⟩ = some c1) (j : Nat) (u : Value) (hj : [c0, c1][j]? = some u) : w.cell? ⟨g, j, none⟩ = some u := by
  match j, hj with
  | 0, hj => simp at hj; rw [← hj]; exact h0
  | 1, hj => simp at hj; rw [← hj]; exact h1
  | j + 2, hj => simp at hj

set_option maxRecDepth 100000 in
set_option maxHeartbeats 4000000 in
theorem track_any (v : Value) (T : Tr) (w : World) (hv : TA w v T) (hS : T.nS ≤ 1000000) (hE : T.nE ≤ 1000000) :
    Calls Try.prog 15 #[v] w fun e w' => ∃ r, e = .returned r ∧ TA w' r T ∧ Below w.heap.size w w' := by
  obtain ⟨c0, c1, c2, c3, c4, rfl, rfl, rfl, b2, b3, b4⟩ := hv
  obtain ⟨a2, d2, rfl⟩ := b2.shape
  obtain ⟨a3, d3, rfl⟩ := b3.shape
  obtain ⟨a4, d4, rfl⟩ := b4.shape
  obtain ⟨X, hX⟩ := b3.pick
  have HX := Lib.hid hX
  have HB2 := Lib.hid b2
  have HB4 := Lib.hid b4
  clear b2 b3 b4 hX
  go_enter Try.func15, Try.ntmps15
  go_wp2_with fail
  obtain ⟨w1, hw⟩ : ∃ x, x = ((w.alloc (.cells #[.string T.h, .int .i64 T.sc, .slice a2 T.nC d2, .slice a3 T.nS d3, .slice a4 T.nE d4] 48)).alloc (.cells #[.string { data := #[] }, .int .i64 0, .slice none 0 0, .slice none 0 0, .slice none 0 0] 43)).alloc (.cells #[.string T.h, .int .i64 T.sc, .slice a2 T.nC d2, .slice none 0 0, .slice none 0 0] 43) := ⟨_, rfl⟩
  rw [← hw]
  have hb1 : Below w.heap.size w w1 := by rw [hw]; go_grown
  have xa : BX w1 w.heap.size (.string T.h) (.int .i64 T.sc) (.slice a2 T.nC d2) (.slice a3 T.nS d3) (.slice a4 T.nE d4) := by
    rw [hw]; exact ((BX.of_alloc w _ _ _ _ _ _ 48 rfl).far (below_box _ _) (by simp)).far (below_box _ _) (by simp; omega)
  have xr : BX w1 (w.heap.size + 1) (.string { data := #[] }) (.int .i64 0) (.slice none 0 0) (.slice none 0 0) (.slice none 0 0) := by
    rw [hw]; exact (BX.of_alloc _ _ _ _ _ _ _ 43 (by simp)).far (below_box _ _) (by simp)
  have xx : BX w1 (w.heap.size + 1 + 1) (.string T.h) (.int .i64 T.sc) (.slice a2 T.nC d2) (.slice none 0 0) (.slice none 0 0) := by
    rw [hw]; exact BX.of_alloc _ _ _ _ _ _ _ 43 (by simp)
  have hsz : w1.heap.size = w.heap.size + 1 + 1 + 1 := by rw [hw]; simp
  obtain ⟨bla, hbla⟩ : ∃ z, z = w.heap.size := ⟨_, rfl⟩
  obtain ⟨blr, hblr⟩ : ∃ z, z = w.heap.size + 1 := ⟨_, rfl⟩
  obtain ⟨blx, hblx⟩ : ∃ z, z = w.heap.size + 1 + 1 := ⟨_, rfl⟩
  obtain ⟨B, hB⟩ : ∃ z, z = w1.heap.size := ⟨_, rfl⟩
  have n0 : w.heap.size ≤ bla := by omega
  have n1 : bla < blr := by omega
  have n2 : blr < blx := by omega
  have n3 : blx < B := by omega
  have n4 : B ≤ w1.heap.size := by omega
  rw [← hblx] at xx ⊢
  rw [← hblr] at xr ⊢
  rw [← hbla] at xa ⊢
  have XA := Lib.hid xa
  have XR := Lib.hid xr
  have XX := Lib.hid xx
  have HB := Lib.hid hb1
  clear hw hb1 xa xr xx hsz hbla hblr hblx hB
  go_loopw [4] (fun i wr => ∃ (k : Nat) (v : Value), k ≤ T.nS ∧ i = .int .i64 (k : Int) ∧ BX wr blx (.string T.h) (.int .i64 T.sc) (.slice a2 T.nC d2) v (.slice none 0 0) ∧ BX wr bla (.string T.h) (.int .i64 T.sc) (.slice a2 T.nC d2) (.slice a3 T.nS d3) (.slice a4 T.nE d4) ∧ BX wr blr (.string { data := #[] }) (.int .i64 0) (.slice none 0 0) (.slice none 0 0) (.slice none 0 0) ∧ wr.ownsRow B 75 4 v k (rowsOf (smV X T.S) k) ∧ Below w.heap.size w wr ∧ B ≤ wr.heap.size) (fun i _ => T.nS - (intOf i).toNat)
  case atStart => exact ⟨0, _, Nat.zero_le _, rfl, XX.out, XA.out, XR.out, owns_nil _ _ _ _, HB.out, n4⟩
  case round =>
    obtain ⟨k, v, hk, rfl, xx, xa, xr, ho, hb, hsz⟩ := hrel
    obtain ⟨va, vm, vc, rfl⟩ := owns_shape ho
    have HO := Lib.hid ho
    have HBW := Lib.hid hb
    have HXX := Lib.hid xx
    have HXA := Lib.hid xa
    have HXR := Lib.hid xr
    have a3' := xa.k3
    clear ho hb xx xa xr
    by_cases hlt : k < T.nS
    · obtain ⟨b, o, c, e, h0, h1, h2, h3, hx⟩ := HX.out k hlt
      simp only [Value.slice.injEq, true_and] at e
      obtain ⟨rfl, rfl⟩ := e
      obtain ⟨ax, dx, ex⟩ := hx.shape
      rw [ex] at h0
      have EX := Lib.hid ex
      replace h0 := (HBW.out.cell (block_lt_of_cell h0)).trans h0
      replace h1 := (HBW.out.cell (block_lt_of_cell h1)).trans h1
      replace h2 := (HBW.out.cell (block_lt_of_cell h2)).trans h2
      replace h3 := (HBW.out.cell (block_lt_of_cell h3)).trans h3
      have x3 := HXX.out.k3
      have xl := HXX.out.lt
      have fz := HXX.out.fz
      clear hx ex
      go_wp2_with (at_builtin; refine wpList_app _ rfl (.tmp 27) (.tmp 37) 40 75 4 48 _ Try.underlying40 info75 rfl (by decide) (by decide) rfl B k _ (.slice va vm vc) _ [.slice ax (T.S k).n dx, .int .i64 (T.S k).dur, .int .i64 (T.S k).shift, .bool (T.S k).sync] rfl (owns_below HO.out (by exact (below_box _ _).trans ((below_box _ _).mono (by simp)))) rfl rfl (cells4 (by simp [go_sem]) (by simp [go_sem]) (by simp [go_sem]) (by simp [go_sem])) (by simp [Value.oneCell']) (by omega) (by simp; omega) ?_)
      intro v' w6 hv' hb6
      have hv6 : Below B wr w6 := (((Below.refl B wr).alloc hsz _).alloc (by simp; omega) _).trans hb6
      obtain ⟨va', vm', vc', rfl⟩ := owns_shape hv'
      have xx6 := HXX.out.far hv6 n3
      have xa6 := HXA.out.far hv6 (by omega)
      have xr6 := HXR.out.far hv6 (by omega)
      have hb6' := HBW.out.trans (hv6.mono (by omega))
      have HV6 := Lib.hid (And.intro hv' (And.intro xx6 (And.intro xa6 (And.intro xr6 (And.intro hb6' (show B ≤ w6.heap.size by have := hv6.size; omega))))))
      have x36 := xx6.k3
      have fz6 := xx6.fz
      clear hv' hb6 hv6 xx6 xa6 xr6 hb6' x3 xl fz h0 h1 h2 h3
      go_wp2_with fail
      go_roundw
      case rel =>
        refine ⟨k + 1, .slice va' vm' vc', by omega, by go_num, HV6.out.2.1.set3 _, HV6.out.2.2.1.other (by omega), HV6.out.2.2.2.1.other (by omega), ?_, HV6.out.2.2.2.2.1.setCell (by simp; omega) _, by rw [World.size_setCell]; exact HV6.out.2.2.2.2.2⟩
        have e : rowsOf (smV X T.S) (k + 1) = rowsOf (smV X T.S) k ++ [.slice ax (T.S k).n dx, .int .i64 (T.S k).dur, .int .i64 (T.S k).shift, .bool (T.S k).sync] := by
          simp only [rowsOf, smV]; rw [EX.out]
        rw [e]
        exact owns_far HV6.out.1 (by simpa using n3) _
      case measure => simp [intOf]; omega
    · obtain rfl : k = T.nS := by omega
      clear XA XR XX HB
      go_wp2_with fail
      obtain ⟨w2, hw2⟩ : ∃ x, x = wr := ⟨_, rfl⟩
      rw [← hw2] at HO HBW HXX HXA HXR hsz ⊢
      obtain ⟨sa, sm, sc, es⟩ : ∃ a m c, Value.slice va vm vc = .slice a m c := ⟨_, _, _, rfl⟩
      have SG := Lib.hid (owns_in HO.out)
      rw [es] at SG
      have SZ := Lib.hid (show B ≤ w2.heap.size from hsz)
      clear hw2 a3'
      go_loopw [6] (fun i wx => ∃ (k : Nat) (v : Value), k ≤ T.nE ∧ i = .int .i64 (k : Int) ∧ BX wx blx (.string T.h) (.int .i64 T.sc) (.slice a2 T.nC d2) (.slice sa sm sc) v ∧ BX wx bla (.string T.h) (.int .i64 T.sc) (.slice a2 T.nC d2) (.slice a3 T.nS d3) (.slice a4 T.nE d4) ∧ BX wx blr (.string { data := #[] }) (.int .i64 0) (.slice none 0 0) (.slice none 0 0) (.slice none 0 0) ∧ wx.ownsRow w2.heap.size 76 2 v k (rowsOf (edV T.E) k) ∧ wx.ownsRow B 75 4 (.slice sa sm sc) T.nS (rowsOf (smV X T.S) T.nS) ∧ Below w.heap.size w wx ∧ w2.heap.size ≤ wx.heap.size) (fun i _ => T.nE - (intOf i).toNat)
      case atStart => exact ⟨0, _, Nat.zero_le _, rfl, by rw [← es]; exact HXX.out, HXA.out, HXR.out, owns_nil _ _ _ _, by rw [← es]; exact HO.out, HBW.out, Nat.le_refl _⟩
      case round =>
        obtain ⟨k, v, hk, rfl, xx, xa, xr, ho, hos, hb, hs2⟩ := hrel
        obtain ⟨va, vm, vc, rfl⟩ := owns_shape ho
        have KO := Lib.hid ho
        have KS := Lib.hid hos
        have KBW := Lib.hid hb
        have KXX := Lib.hid xx
        have KXA := Lib.hid xa
        have KXR := Lib.hid xr
        have a4' := xa.k4
        have x4 := xx.k4
        clear ho hos hb xx xa xr HXX HXA HXR HO
        by_cases hlt : k < T.nE
        · obtain ⟨ao', c', e, hcc', H⟩ := HB4.out
          simp only [Value.slice.injEq, true_and] at e
          obtain ⟨rfl, rfl⟩ := e
          obtain ⟨b, o, rfl, h0, h1⟩ := H k hlt
          have hbs := block_lt_of_cell h0
          replace h0 := (KBW.out.cell (block_lt_of_cell h0)).trans h0
          replace h1 := (KBW.out.cell (block_lt_of_cell h1)).trans h1
          have HLT := Lib.hid hbs
          clear H hbs
          go_wp2_with fail
          refine Plan.wp_region_planz (fun w' => w'.cell? ⟨blx, 4, none⟩ = some (.slice va vm vc) ∧ w'.cell? ⟨bla, 4, none⟩ = some (.slice (some ⟨b, o, none⟩) T.nE d4) ∧ w'.cell? ⟨b, o + k * 2, none⟩ = some (.int .i64 (T.E k).dur) ∧ w'.cell? ⟨b, o + k * 2 + 1, none⟩ = some (.int .i64 (T.E k).time)) 18 (([0, 1, 2, 3, 4, 5, 6, 7, 8, 9, 10, 11, 12, 13, 14].map (·, true)) ++ (([15, 16].map (·, false)) ++ (([17].map (·, true)) ++ (([18].map (·, false)))))) (by kernel_rfl) (by kernel_rfl) (by kernel_rfl) ⟨x4, a4', h0, h1⟩ ?_
          refine' Plan.plan_seg _ [0, 1, 2, 3, 4, 5, 6, 7, 8, 9, 10, 11, 12, 13, 14] (([15, 16].map (·, false)) ++ (([17].map (·, true)) ++ (([18].map (·, false))))) (by kernel_rfl) (by kernel_rfl) rfl (by exact ⟨x4, a4', h0, h1⟩) (fun wx hS => ?_) ?_
          rotate_left
          · obtain ⟨y0, y1, y2, y3⟩ := hS
            go_light
            iterate 15 (apply Plan.seg_pick; rfl; intro K hK; go_wp)
            exact Plan.seg_nil
          have hdr : Below wr.heap.size wr (wr.alloc (.cells #[.int .i64 (T.E k).dur, .int .i64 (T.E k).time] 76)).drew := (below_box _ _).drew
          refine Plan.plan_of_effect rfl (fun K hK => ?_)
          go_wp2_with fail
          obtain ⟨wz, hwz⟩ : ∃ x, x = (wr.alloc (.cells #[.int .i64 (T.E k).dur, .int .i64 (T.E k).time] 76)).drew := ⟨_, rfl⟩
          rw [← hwz] at hdr ⊢
          have z0 : wz.cell? ⟨wr.heap.size, 0, none⟩ = some (.int .i64 (T.E k).dur) := by rw [hwz]; simp [go_sem]
          have z1 : wz.cell? ⟨wr.heap.size, 1, none⟩ = some (.int .i64 (T.E k).time) := by rw [hwz]; simp [go_sem]
          have hs3 : w2.heap.size ≤ wz.heap.size := by have := hdr.size; omega
          have HD := Lib.hid hdr
          clear hwz hdr
          refine ⟨⟨(HD.out.cell (block_lt_of_cell x4)).trans x4, (HD.out.cell (block_lt_of_cell a4')).trans a4', (HD.out.cell (block_lt_of_cell h0)).trans h0, (HD.out.cell (block_lt_of_cell h1)).trans h1⟩, ?_⟩
          refine Plan.plan_of_effect rfl (fun K hK => ?_)
          refine wpList_app wz rfl (.tmp 48) (.tmp 62) 41 76 2 16 _ Try.underlying41 info76 rfl (by decide) (by decide) rfl w2.heap.size k wr.heap.size (.slice va vm vc) _ [.int .i64 (T.E k).dur, .int .i64 (T.E k).time] (by simp [go_sem]) (owns_below KO.out HD.out) (by simp [go_sem]) rfl (cells2 z0 z1) (by simp [Value.oneCell']) (by omega) hs3 ?_
          intro v' w6 hv' hb6
          have hv6 : Below w2.heap.size wr w6 := (HD.out.mono hs2).trans hb6
          obtain ⟨va', vm', vc', rfl⟩ := owns_shape hv'
          have hB2 : B ≤ w2.heap.size := hsz
          have xx6 := KXX.out.far hv6 (by omega)
          have xa6 := KXA.out.far hv6 (by omega)
          have xr6 := KXR.out.far hv6 (by omega)
          have hb6' := KBW.out.trans (hv6.mono (by omega))
          have hos6 := owns_stay KS.out hv6 SG.out
          have HV6 := Lib.hid (And.intro hv' (And.intro xx6 (And.intro xa6 (And.intro xr6 (And.intro hb6' (And.intro hos6 (show w2.heap.size ≤ w6.heap.size by have := hv6.size; omega)))))))
          have g4 := xx6.k4
          have ga := xa6.k4
          have e0 := (hv6.cell (p := ⟨b, o + k * 2, none⟩) (by have := HLT.out; have := SZ.out; simp; omega)).trans h0
          have e1 := (hv6.cell (p := ⟨b, o + k * 2 + 1, none⟩) (by have := HLT.out; have := SZ.out; simp; omega)).trans h1
          have fz6 := xx6.fz
          clear hv' hb6 hv6 xx6 xa6 xr6 hb6' hos6 x4 a4' h0 h1 z0 z1
          go_wp2_with fail
          refine ⟨⟨g4, ga, e0, e1⟩, ?_⟩
          refine' Plan.plan_seg _ [17] (([18].map (·, false))) (by kernel_rfl) (by kernel_rfl) rfl (by exact ⟨g4, ga, e0, e1⟩) (fun wx hS => ?_) ?_
          rotate_left
          · obtain ⟨y0, y1, y2, y3⟩ := hS
            go_light
            iterate 1 (apply Plan.seg_pick; rfl; intro K hK; go_wp)
            exact Plan.seg_nil
          refine Plan.plan_of_last rfl (fun K hK => ?_)
          go_wp2_with fail
          refine Plan.plan_done ?_
          go_wp2_with fail
          go_roundw
          case rel =>
            refine ⟨k + 1, .slice va' vm' vc', by omega, by go_num, HV6.out.2.1.set4 _, HV6.out.2.2.1.other (by omega), HV6.out.2.2.2.1.other (by omega), ?_, owns_far HV6.out.2.2.2.2.2.1 (by simpa using n3) _, HV6.out.2.2.2.2.1.setCell (by simp; omega) _, by rw [World.size_setCell]; exact HV6.out.2.2.2.2.2.2⟩
            exact owns_far HV6.out.1 (by simp; omega) _
          case measure => simp [intOf]; omega
        · obtain rfl : k = T.nE := by omega
          obtain ⟨x0, x1, x2, x3, x4', xz⟩ := KXX.out
          obtain ⟨r0, r1, r2, r3, r4, rz⟩ := KXR.out
          go_wp2_with fail
          refine bodyPost_ret (results_cell rfl _ _ _ rfl (load43 (KXR.out.put5 _ _ _ _ _))) rfl ?_
          have hf := below_put5 KBW.out (show w.heap.size ≤ blr by omega) (.string T.h) (.int .i64 T.sc) (.slice a2 T.nC d2)
          refine ⟨_, rfl, ⟨_, _, _, _, _, rfl, ⟨rfl, rfl, HB2.out.below (hf _ _), SA.of_row (owns_put5 KS.out (by omega) _ _ _ _ _) (fun i hi => ?_), EA.of_row (owns_put5 KO.out (by omega) _ _ _ _ _)⟩⟩, hf _ _⟩
          obtain ⟨_, _, _, _, _, _, _, _, hx⟩ := HX.out i hi
          exact hx.below (hf _ _)

end Go.Proofs.Ytkhjkemllgjfmaa
