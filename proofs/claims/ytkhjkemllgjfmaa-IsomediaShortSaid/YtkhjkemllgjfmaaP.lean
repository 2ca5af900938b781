/- A track copied by the statements' track: its parts stay while others change. -/
import Derived.Test.YtkhjkemllgjfmaaL
namespace Go.Proofs.Ytkhjkemllgjfmaa
open Go.RowKit
set_option linter.unusedVariables false

theorem BA.ag {w w' : World} {v : Value} {n : Nat} {f : Nat → Int} (h : BA w v n f) (ha : ∀ p : Addr, p.block < w.heap.size → w'.cell? p = w.cell? p) : BA w' v n f := by
  obtain ⟨ao, c, rfl, hc, H⟩ := h
  refine ⟨ao, c, rfl, hc, fun i hi => ?_⟩
  obtain ⟨⟨b, o, he, hcell⟩, h2⟩ := H i hi
  exact ⟨⟨b, o, he, (ha ⟨b, o + i, none⟩ (block_lt_of_cell hcell)).trans hcell⟩, h2⟩
theorem owns_open_ag {w w' : World} {B E size n : Nat} {v : Value} {xs : List Value} (h : w.ownsRow B E size v n xs) (ha : ∀ b cur, B ≤ b → w.heap[b]? = some (.cells cur E (0, 0)) → w'.heap[b]? = w.heap[b]?) (hn : 0 < n) : ∃ g c, v = .slice (some ⟨g, 0, none⟩) n c ∧ n ≤ c ∧ ∀ i u, xs[i]? = some u → w'.cell? ⟨g, i, none⟩ = some u := by
  obtain ⟨g, c, e, hc, H⟩ := owns_open h hn
  rcases h.2 with ⟨h1, h0⟩ | ⟨g', cap, cur, h1, h2, h3, _⟩
  · omega
  · rw [h1] at e; cases e
    exact ⟨g, c, h1, hc, fun i u hi => (World.cell?_of_block (ha g cur h2 h3)).trans (H i u hi)⟩
theorem SA.of_row_ag {w w' : World} {B E n : Nat} {v : Value} {X : Nat → Value} {S : Nat → Sm} (h : w.ownsRow B E 4 v n (rowsOf (smV X S) n)) (ha : ∀ b cur, B ≤ b → w.heap[b]? = some (.cells cur E (0, 0)) → w'.heap[b]? = w.heap[b]?) (hX : ∀ i, i < n → BA w' (X i) (S i).n (S i).D) : SA w' v n S := by
  rcases Nat.eq_zero_or_pos n with rfl | hn
  · obtain ⟨a, m, rfl⟩ := owns_zero h
    exact ⟨a, m, rfl, Nat.zero_le _, fun i hi => absurd hi (Nat.not_lt_zero i)⟩
  · obtain ⟨g, c, rfl, hc, H⟩ := owns_open_ag h ha hn
    have hf : ∀ i, (smV X S i).length = 4 := fun i => rfl
    refine ⟨_, c, rfl, hc, fun i hi => ⟨g, 0, X i, rfl, ?_, ?_, ?_, ?_, hX i hi⟩⟩
    · simpa using H (i * 4 + 0) _ (by rw [rowsOf_at hf n i 0 hi (by omega)]; rfl)
    · simpa using H (i * 4 + 1) _ (by rw [rowsOf_at hf n i 1 hi (by omega)]; rfl)
    · simpa using H (i * 4 + 2) _ (by rw [rowsOf_at hf n i 2 hi (by omega)]; rfl)
    · simpa using H (i * 4 + 3) _ (by rw [rowsOf_at hf n i 3 hi (by omega)]; rfl)
theorem EA.of_row_ag {w w' : World} {B E n : Nat} {v : Value} {S : Nat → Ed} (h : w.ownsRow B E 2 v n (rowsOf (edV S) n)) (ha : ∀ b cur, B ≤ b → w.heap[b]? = some (.cells cur E (0, 0)) → w'.heap[b]? = w.heap[b]?) : EA w' v n S := by
  rcases Nat.eq_zero_or_pos n with rfl | hn
  · obtain ⟨a, m, rfl⟩ := owns_zero h
    exact ⟨a, m, rfl, Nat.zero_le _, fun i hi => absurd hi (Nat.not_lt_zero i)⟩
  · obtain ⟨g, c, rfl, hc, H⟩ := owns_open_ag h ha hn
    have hf : ∀ i, (edV S i).length = 2 := fun i => rfl
    refine ⟨_, c, rfl, hc, fun i hi => ⟨g, 0, rfl, ?_, ?_⟩⟩
    · simpa using H (i * 2 + 0) _ (by rw [rowsOf_at hf n i 0 hi (by omega)]; rfl)
    · simpa using H (i * 2 + 1) _ (by rw [rowsOf_at hf n i 1 hi (by omega)]; rfl)

/-- The tracks in a row's cells. -/
def TR (w : World) (T : Nat → Tr) (n : Nat) (xs : List Value) : Prop := ∀ i, i < n → ∃ c0 c1 c2 c3 c4, xs[i * 5]? = some c0 ∧ xs[i * 5 + 1]? = some c1 ∧ xs[i * 5 + 2]? = some c2 ∧ xs[i * 5 + 3]? = some c3 ∧ xs[i * 5 + 4]? = some c4 ∧ TC w c0 c1 c2 c3 c4 (T i)
theorem TR.step {w : World} {T : Nat → Tr} {n : Nat} {xs : List Value} (h : TR w T n xs) (hl : xs.length = n * 5) {c0 c1 c2 c3 c4 : Value} (hc : TC w c0 c1 c2 c3 c4 (T n)) : TR w T (n + 1) (xs ++ [c0, c1, c2, c3, c4]) := by
  intro i hi
  by_cases e : i = n
  · subst e
    refine ⟨c0, c1, c2, c3, c4, ?_, ?_, ?_, ?_, ?_, hc⟩
    all_goals (rw [List.getElem?_append_right (by omega), hl])
    · simp
    · rw [show i * 5 + 1 - i * 5 = 1 by omega]; rfl
    · rw [show i * 5 + 2 - i * 5 = 2 by omega]; rfl
    · rw [show i * 5 + 3 - i * 5 = 3 by omega]; rfl
    · rw [show i * 5 + 4 - i * 5 = 4 by omega]; rfl
  · obtain ⟨d0, d1, d2, d3, d4, h0, h1, h2, h3, h4, h5⟩ := h i (by omega)
    exact ⟨d0, d1, d2, d3, d4, by rw [List.getElem?_append_left (by omega)]; exact h0, by rw [List.getElem?_append_left (by omega)]; exact h1, by rw [List.getElem?_append_left (by omega)]; exact h2, by rw [List.getElem?_append_left (by omega)]; exact h3, by rw [List.getElem?_append_left (by omega)]; exact h4, h5⟩
theorem TSA.of_row {w : World} {B E n : Nat} {v : Value} {T : Nat → Tr} {xs : List Value} (h : w.ownsRow B E 5 v n xs) (ht : TR w T n xs) : TSA w v n T := by
  rcases Nat.eq_zero_or_pos n with rfl | hn
  · obtain ⟨a, m, rfl⟩ := owns_zero h
    exact ⟨a, m, rfl, Nat.zero_le _, fun i hi => absurd hi (Nat.not_lt_zero i)⟩
  · obtain ⟨g, c, rfl, hc, H⟩ := owns_open h hn
    refine ⟨_, c, rfl, hc, fun i hi => ?_⟩
    obtain ⟨d0, d1, d2, d3, d4, h0, h1, h2, h3, h4, h5⟩ := ht i hi
    exact ⟨g, 0, d0, d1, d2, d3, d4, rfl, by simpa using H _ _ h0, by simpa using H _ _ h1, by simpa using H _ _ h2, by simpa using H _ _ h3, by simpa using H _ _ h4, h5⟩

/-- One element appended; what other blocks hold stays. -/
theorem wpList_app2 (w : World) {ops : Array Oper} {rest : List Oper} {o : Oper} {a : Act} {Q : Exit → Act → World → Prop} (hgd : o.guard = none) (s x : Operand) (t E : TypeId) (size bytes : Nat) (z : Value) (ht : Try.prog.underlying t = some (.slice E))
    (hE : (Try.prog.info? E).map (fun i => (i.zero, i.size, i.bytes)) = some (some z, size, bytes)) (hzs : z.cells.size = size) (hsz : 0 < size) (hby : bytes ≤ 1000)
    (ho : o.op = .call { callee := .builtin .append, args := #[s, x], argTypes := #[t, t] }) (B k g : Nat) (v : Value) (xs news : List Value) (hs : a.eval s = v) (hown : w.ownsRow B E size v k xs)
    (hx : a.eval x = .slice (some ⟨g, 0, none⟩) 1 1) (hl : news.length = size) (hnews : ∀ j u, news[j]? = some u → w.cell? ⟨g, j, none⟩ = some u) (h1 : ∀ u ∈ news, u.oneCell' = true)
    (hk : k ≤ 100000000) (hB : B ≤ w.heap.size)
    (h : ∀ v' w', w'.ownsRow B E size v' (k + 1) (xs ++ news) → Below B w w' → (∀ (b : Nat) (cur : Array Value) (e : TypeId), w.heap[b]? = some (.cells cur e (0, 0)) → e ≠ E → w'.heap[b]? = w.heap[b]?) → wpList Try.prog ops Q rest (a.put o.dst v') w') : wpList Try.prog ops Q (o :: rest) a w := by
  obtain ⟨i0, hi, hz0, hz1, hz2⟩ := info_parts hE
  have hb2 : (k + 1) * bytes ≤ (100000000 + 1) * 1000 := Nat.mul_le_mul (by omega) hby
  refine wpList_append_own _ hgd s x t ho B E i0 z size bytes ht hi hz0 hz1 hz2 hzs hsz v k xs hs hown ⟨g, 0, none⟩ 1 1 news hx (by omega) (fun j u hj => ?_) h1 (by unfold maxLen; omega) (by omega) hB (fun v' w' hown' hg hnil => ?_)
  · rw [Addr.add_lit, Nat.zero_add]; exact hnews j u hj
  · refine h v' w' hown' ((Below.refl _ _).grown hg hB (fun k' h' => ?_)) (fun b cur e hb hne => ?_)
    · rcases hown.2 with ⟨rfl, _⟩ | ⟨g', cap, cur, rfl, hg', _⟩
      · cases h'
      · cases h'; exact hg'
    · refine hg.block b (Array.getElem?_eq_some_iff.1 hb).1 (fun h' => ?_)
      rcases hown.2 with ⟨rfl, _⟩ | ⟨g', cap, cur', rfl, _, hg', _⟩
      · cases h'
      · cases h'; rw [hb] at hg'; cases hg'; exact hne rfl

set_option maxRecDepth 100000 in
set_option maxHeartbeats 4000000 in
theorem track_far (v : Value) (T : Tr) (wo w : World) (hv : TA wo v T) (hbo : Below wo.heap.size wo w) (hS : T.nS ≤ 1000000) (hE : T.nE ≤ 1000000) :
    Calls Try.prog 15 #[v] w fun e w' => ∃ c0 c1 c2 c3 c4, e = .returned (.agg #[c0, c1, c2, c3, c4]) ∧ Below w.heap.size w w' ∧ ∀ w'' : World, (∀ p : Addr, p.block < wo.heap.size → w''.cell? p = wo.cell? p) → (∀ b cur e, w.heap.size ≤ b → w'.heap[b]? = some (.cells cur e (0, 0)) → e ≠ 43 → w''.heap[b]? = w'.heap[b]?) → TC w'' c0 c1 c2 c3 c4 T := by
  obtain ⟨c0, c1, c2, c3, c4, rfl, rfl, rfl, b2, b3, b4⟩ := hv
  obtain ⟨a2, d2, rfl⟩ := b2.shape
  obtain ⟨a3, d3, rfl⟩ := b3.shape
  obtain ⟨a4, d4, rfl⟩ := b4.shape
  obtain ⟨X, hX⟩ := b3.pick
  have KX := Lib.hid hX
  have HX := Lib.hid (show ∀ i, i < T.nS → ∃ b o c, Value.slice a3 T.nS d3 = .slice (some ⟨b, o, none⟩) T.nS c ∧ w.cell? ⟨b, o + i * 4, none⟩ = some (X i) ∧ w.cell? ⟨b, o + i * 4 + 1, none⟩ = some (.int .i64 (T.S i).dur) ∧ w.cell? ⟨b, o + i * 4 + 2, none⟩ = some (.int .i64 (T.S i).shift) ∧ w.cell? ⟨b, o + i * 4 + 3, none⟩ = some (.bool (T.S i).sync) ∧ BA w (X i) (T.S i).n (T.S i).D from fun i hi => by
    obtain ⟨b, o, c, e, h0, h1, h2, h3, hx⟩ := hX i hi
    exact ⟨b, o, c, e, (hbo.cell (block_lt_of_cell h0)).trans h0, (hbo.cell (block_lt_of_cell h1)).trans h1, (hbo.cell (block_lt_of_cell h2)).trans h2, (hbo.cell (block_lt_of_cell h3)).trans h3, hx.below hbo⟩)
  have KB2 := Lib.hid b2
  have HB4 := Lib.hid (b4.below hbo)
  have HBO := Lib.hid hbo
  clear b2 b3 b4 hX hbo
  go_enter Try.func15, Try.ntmps15
  go_wp2_with fail
  obtain ⟨w1, hw⟩ : ∃ x, x = ((w.alloc (.cells #[.string T.h, .int .i64 T.sc, .slice a2 T.nC d2, .slice a3 T.nS d3, .slice a4 T.nE d4] 48)).alloc (.cells #[.string { data := #[] }, .int .i64 0, .slice none 0 0, .slice none 0 0, .slice none 0 0] 43)).alloc (.cells #[.string T.h, .int .i64 T.sc, .slice a2 T.nC d2, .slice none 0 0, .slice none 0 0] 43) := ⟨_, rfl⟩
  rw [← hw]
  have hb1 : Below w.heap.size w w1 := by rw [hw]; go_grown
  have xa : BX w1 w.heap.size (.string T.h) (.int .i64 T.sc) (.slice a2 T.nC d2) (.slice a3 T.nS d3) (.slice a4 T.nE d4) := by
    rw [hw]; exact ((BX.of_alloc w _ _ _ _ _ _ 48 rfl).far (below_box _ _) (by simp)).far (below_box _ _) (by simp; omega)
  have xr : BX w1 (w.heap.size + 1) (.string { data := #[] }) (.int .i64 0) (.slice none 0 0) (.slice none 0 0) (.slice none 0 0) := by
    rw [hw]; exact (BX.of_alloc _ _ _ _ _ _ _ 43 (by simp)).far (below_box _ _) (by simp)
  have xx : BX w1 (w.heap.size + 1 + 1) (.string T.h) (.int .i64 T.sc) (.slice a2 T.nC d2) (.slice none 0 0) (.slice none 0 0) := by
    rw [hw]; exact BX.of_alloc _ _ _ _ _ _ _ 43 (by simp)
  have hsz : w1.heap.size = w.heap.size + 1 + 1 + 1 := by rw [hw]; simp
  obtain ⟨bla, hbla⟩ : ∃ z, z = w.heap.size := ⟨_, rfl⟩
  obtain ⟨blr, hblr⟩ : ∃ z, z = w.heap.size + 1 := ⟨_, rfl⟩
  obtain ⟨blx, hblx⟩ : ∃ z, z = w.heap.size + 1 + 1 := ⟨_, rfl⟩
  obtain ⟨B, hB⟩ : ∃ z, z = w1.heap.size := ⟨_, rfl⟩
  have n0 : w.heap.size ≤ bla := by omega
  have n1 : bla < blr := by omega
  have n2 : blr < blx := by omega
  have n3 : blx < B := by omega
  have n4 : B ≤ w1.heap.size := by omega
  rw [← hblx] at xx ⊢
  rw [← hblr] at xr ⊢
  rw [← hbla] at xa ⊢
  have XA := Lib.hid xa
  have XR := Lib.hid xr
  have XX := Lib.hid xx
  have HB := Lib.hid hb1
  clear hw hb1 xa xr xx hsz hbla hblr hblx hB
  go_loopw [4] (fun i wr => ∃ (k : Nat) (v : Value), k ≤ T.nS ∧ i = .int .i64 (k : Int) ∧ BX wr blx (.string T.h) (.int .i64 T.sc) (.slice a2 T.nC d2) v (.slice none 0 0) ∧ BX wr bla (.string T.h) (.int .i64 T.sc) (.slice a2 T.nC d2) (.slice a3 T.nS d3) (.slice a4 T.nE d4) ∧ BX wr blr (.string { data := #[] }) (.int .i64 0) (.slice none 0 0) (.slice none 0 0) (.slice none 0 0) ∧ wr.ownsRow B 75 4 v k (rowsOf (smV X T.S) k) ∧ Below w.heap.size w wr ∧ B ≤ wr.heap.size) (fun i _ => T.nS - (intOf i).toNat)
  case atStart => exact ⟨0, _, Nat.zero_le _, rfl, XX.out, XA.out, XR.out, owns_nil _ _ _ _, HB.out, n4⟩
  case round =>
    obtain ⟨k, v, hk, rfl, xx, xa, xr, ho, hb, hsz⟩ := hrel
    obtain ⟨va, vm, vc, rfl⟩ := owns_shape ho
    have HO := Lib.hid ho
    have HBW := Lib.hid hb
    have HXX := Lib.hid xx
    have HXA := Lib.hid xa
    have HXR := Lib.hid xr
    have a3' := xa.k3
    clear ho hb xx xa xr
    by_cases hlt : k < T.nS
    · obtain ⟨b, o, c, e, h0, h1, h2, h3, hx⟩ := HX.out k hlt
      simp only [Value.slice.injEq, true_and] at e
      obtain ⟨rfl, rfl⟩ := e
      obtain ⟨ax, dx, ex⟩ := hx.shape
      rw [ex] at h0
      have EX := Lib.hid ex
      replace h0 := (HBW.out.cell (block_lt_of_cell h0)).trans h0
      replace h1 := (HBW.out.cell (block_lt_of_cell h1)).trans h1
      replace h2 := (HBW.out.cell (block_lt_of_cell h2)).trans h2
      replace h3 := (HBW.out.cell (block_lt_of_cell h3)).trans h3
      have x3 := HXX.out.k3
      have xl := HXX.out.lt
      have fz := HXX.out.fz
      clear hx ex
      go_wp2_with (at_builtin; refine wpList_app _ rfl (.tmp 27) (.tmp 37) 40 75 4 48 _ Try.underlying40 info75 rfl (by decide) (by decide) rfl B k _ (.slice va vm vc) _ [.slice ax (T.S k).n dx, .int .i64 (T.S k).dur, .int .i64 (T.S k).shift, .bool (T.S k).sync] rfl (owns_below HO.out (by exact (below_box _ _).trans ((below_box _ _).mono (by simp)))) rfl rfl (cells4 (by simp [go_sem]) (by simp [go_sem]) (by simp [go_sem]) (by simp [go_sem])) (by simp [Value.oneCell']) (by omega) (by simp; omega) ?_)
      intro v' w6 hv' hb6
      have hv6 : Below B wr w6 := (((Below.refl B wr).alloc hsz _).alloc (by simp; omega) _).trans hb6
      obtain ⟨va', vm', vc', rfl⟩ := owns_shape hv'
      have xx6 := HXX.out.far hv6 n3
      have xa6 := HXA.out.far hv6 (by omega)
      have xr6 := HXR.out.far hv6 (by omega)
      have hb6' := HBW.out.trans (hv6.mono (by omega))
      have HV6 := Lib.hid (And.intro hv' (And.intro xx6 (And.intro xa6 (And.intro xr6 (And.intro hb6' (show B ≤ w6.heap.size by have := hv6.size; omega))))))
      have x36 := xx6.k3
      have fz6 := xx6.fz
      clear hv' hb6 hv6 xx6 xa6 xr6 hb6' x3 xl fz h0 h1 h2 h3
      go_wp2_with fail
      go_roundw
      case rel =>
        refine ⟨k + 1, .slice va' vm' vc', by omega, by go_num, HV6.out.2.1.set3 _, HV6.out.2.2.1.other (by omega), HV6.out.2.2.2.1.other (by omega), ?_, HV6.out.2.2.2.2.1.setCell (by simp; omega) _, by rw [World.size_setCell]; exact HV6.out.2.2.2.2.2⟩
        have e : rowsOf (smV X T.S) (k + 1) = rowsOf (smV X T.S) k ++ [.slice ax (T.S k).n dx, .int .i64 (T.S k).dur, .int .i64 (T.S k).shift, .bool (T.S k).sync] := by
          simp only [rowsOf, smV]; rw [EX.out]
        rw [e]
        exact owns_far HV6.out.1 (by simpa using n3) _
      case measure => simp [intOf]; omega
    · obtain rfl : k = T.nS := by omega
      clear XA XR XX HB
      go_wp2_with fail
      obtain ⟨w2, hw2⟩ : ∃ x, x = wr := ⟨_, rfl⟩
      rw [← hw2] at HO HBW HXX HXA HXR hsz ⊢
      obtain ⟨sa, sm, sc, es⟩ : ∃ a m c, Value.slice va vm vc = .slice a m c := ⟨_, _, _, rfl⟩
      have SG := Lib.hid (owns_in HO.out)
      rw [es] at SG
      have SZ := Lib.hid (show B ≤ w2.heap.size from hsz)
      clear hw2 a3'
      go_loopw [6] (fun i wx => ∃ (k : Nat) (v : Value), k ≤ T.nE ∧ i = .int .i64 (k : Int) ∧ BX wx blx (.string T.h) (.int .i64 T.sc) (.slice a2 T.nC d2) (.slice sa sm sc) v ∧ BX wx bla (.string T.h) (.int .i64 T.sc) (.slice a2 T.nC d2) (.slice a3 T.nS d3) (.slice a4 T.nE d4) ∧ BX wx blr (.string { data := #[] }) (.int .i64 0) (.slice none 0 0) (.slice none 0 0) (.slice none 0 0) ∧ wx.ownsRow w2.heap.size 76 2 v k (rowsOf (edV T.E) k) ∧ wx.ownsRow B 75 4 (.slice sa sm sc) T.nS (rowsOf (smV X T.S) T.nS) ∧ Below w.heap.size w wx ∧ w2.heap.size ≤ wx.heap.size) (fun i _ => T.nE - (intOf i).toNat)
      case atStart => exact ⟨0, _, Nat.zero_le _, rfl, by rw [← es]; exact HXX.out, HXA.out, HXR.out, owns_nil _ _ _ _, by rw [← es]; exact HO.out, HBW.out, Nat.le_refl _⟩
      case round =>
        obtain ⟨k, v, hk, rfl, xx, xa, xr, ho, hos, hb, hs2⟩ := hrel
        obtain ⟨va, vm, vc, rfl⟩ := owns_shape ho
        have KO := Lib.hid ho
        have KS := Lib.hid hos
        have KBW := Lib.hid hb
        have KXX := Lib.hid xx
        have KXA := Lib.hid xa
        have KXR := Lib.hid xr
        have a4' := xa.k4
        have x4 := xx.k4
        clear ho hos hb xx xa xr HXX HXA HXR HO
        by_cases hlt : k < T.nE
        · obtain ⟨ao', c', e, hcc', H⟩ := HB4.out
          simp only [Value.slice.injEq, true_and] at e
          obtain ⟨rfl, rfl⟩ := e
          obtain ⟨b, o, rfl, h0, h1⟩ := H k hlt
          have hbs := block_lt_of_cell h0
          replace h0 := (KBW.out.cell (block_lt_of_cell h0)).trans h0
          replace h1 := (KBW.out.cell (block_lt_of_cell h1)).trans h1
          have HLT := Lib.hid hbs
          clear H hbs
          go_wp2_with fail
          refine Plan.wp_region_planz (fun w' => w'.cell? ⟨blx, 4, none⟩ = some (.slice va vm vc) ∧ w'.cell? ⟨bla, 4, none⟩ = some (.slice (some ⟨b, o, none⟩) T.nE d4) ∧ w'.cell? ⟨b, o + k * 2, none⟩ = some (.int .i64 (T.E k).dur) ∧ w'.cell? ⟨b, o + k * 2 + 1, none⟩ = some (.int .i64 (T.E k).time)) 18 (([0, 1, 2, 3, 4, 5, 6, 7, 8, 9, 10, 11, 12, 13, 14].map (·, true)) ++ (([15, 16].map (·, false)) ++ (([17].map (·, true)) ++ (([18].map (·, false)))))) (by kernel_rfl) (by kernel_rfl) (by kernel_rfl) ⟨x4, a4', h0, h1⟩ ?_
          refine' Plan.plan_seg _ [0, 1, 2, 3, 4, 5, 6, 7, 8, 9, 10, 11, 12, 13, 14] (([15, 16].map (·, false)) ++ (([17].map (·, true)) ++ (([18].map (·, false))))) (by kernel_rfl) (by kernel_rfl) rfl (by exact ⟨x4, a4', h0, h1⟩) (fun wx hS => ?_) ?_
          rotate_left
          · obtain ⟨y0, y1, y2, y3⟩ := hS
            go_light
            iterate 15 (apply Plan.seg_pick; rfl; intro K hK; go_wp)
            exact Plan.seg_nil
          have hdr : Below wr.heap.size wr (wr.alloc (.cells #[.int .i64 (T.E k).dur, .int .i64 (T.E k).time] 76)).drew := (below_box _ _).drew
          refine Plan.plan_of_effect rfl (fun K hK => ?_)
          go_wp2_with fail
          obtain ⟨wz, hwz⟩ : ∃ x, x = (wr.alloc (.cells #[.int .i64 (T.E k).dur, .int .i64 (T.E k).time] 76)).drew := ⟨_, rfl⟩
          rw [← hwz] at hdr ⊢
          have z0 : wz.cell? ⟨wr.heap.size, 0, none⟩ = some (.int .i64 (T.E k).dur) := by rw [hwz]; simp [go_sem]
          have z1 : wz.cell? ⟨wr.heap.size, 1, none⟩ = some (.int .i64 (T.E k).time) := by rw [hwz]; simp [go_sem]
          have hs3 : w2.heap.size ≤ wz.heap.size := by have := hdr.size; omega
          have HD := Lib.hid hdr
          clear hwz hdr
          refine ⟨⟨(HD.out.cell (block_lt_of_cell x4)).trans x4, (HD.out.cell (block_lt_of_cell a4')).trans a4', (HD.out.cell (block_lt_of_cell h0)).trans h0, (HD.out.cell (block_lt_of_cell h1)).trans h1⟩, ?_⟩
          refine Plan.plan_of_effect rfl (fun K hK => ?_)
          refine wpList_app wz rfl (.tmp 48) (.tmp 62) 41 76 2 16 _ Try.underlying41 info76 rfl (by decide) (by decide) rfl w2.heap.size k wr.heap.size (.slice va vm vc) _ [.int .i64 (T.E k).dur, .int .i64 (T.E k).time] (by simp [go_sem]) (owns_below KO.out HD.out) (by simp [go_sem]) rfl (cells2 z0 z1) (by simp [Value.oneCell']) (by omega) hs3 ?_
          intro v' w6 hv' hb6
          have hv6 : Below w2.heap.size wr w6 := (HD.out.mono hs2).trans hb6
          obtain ⟨va', vm', vc', rfl⟩ := owns_shape hv'
          have hB2 : B ≤ w2.heap.size := hsz
          have xx6 := KXX.out.far hv6 (by omega)
          have xa6 := KXA.out.far hv6 (by omega)
          have xr6 := KXR.out.far hv6 (by omega)
          have hb6' := KBW.out.trans (hv6.mono (by omega))
          have hos6 := owns_stay KS.out hv6 SG.out
          have HV6 := Lib.hid (And.intro hv' (And.intro xx6 (And.intro xa6 (And.intro xr6 (And.intro hb6' (And.intro hos6 (show w2.heap.size ≤ w6.heap.size by have := hv6.size; omega)))))))
          have g4 := xx6.k4
          have ga := xa6.k4
          have e0 := (hv6.cell (p := ⟨b, o + k * 2, none⟩) (by have := HLT.out; have := SZ.out; simp; omega)).trans h0
          have e1 := (hv6.cell (p := ⟨b, o + k * 2 + 1, none⟩) (by have := HLT.out; have := SZ.out; simp; omega)).trans h1
          have fz6 := xx6.fz
          clear hv' hb6 hv6 xx6 xa6 xr6 hb6' hos6 x4 a4' h0 h1 z0 z1
          go_wp2_with fail
          refine ⟨⟨g4, ga, e0, e1⟩, ?_⟩
          refine' Plan.plan_seg _ [17] (([18].map (·, false))) (by kernel_rfl) (by kernel_rfl) rfl (by exact ⟨g4, ga, e0, e1⟩) (fun wx hS => ?_) ?_
          rotate_left
          · obtain ⟨y0, y1, y2, y3⟩ := hS
            go_light
            iterate 1 (apply Plan.seg_pick; rfl; intro K hK; go_wp)
            exact Plan.seg_nil
          refine Plan.plan_of_last rfl (fun K hK => ?_)
          go_wp2_with fail
          refine Plan.plan_done ?_
          go_wp2_with fail
          go_roundw
          case rel =>
            refine ⟨k + 1, .slice va' vm' vc', by omega, by go_num, HV6.out.2.1.set4 _, HV6.out.2.2.1.other (by omega), HV6.out.2.2.2.1.other (by omega), ?_, owns_far HV6.out.2.2.2.2.2.1 (by simpa using n3) _, HV6.out.2.2.2.2.1.setCell (by simp; omega) _, by rw [World.size_setCell]; exact HV6.out.2.2.2.2.2.2⟩
            exact owns_far HV6.out.1 (by simp; omega) _
          case measure => simp [intOf]; omega
        · obtain rfl : k = T.nE := by omega
          obtain ⟨x0, x1, x2, x3, x4', xz⟩ := KXX.out
          obtain ⟨r0, r1, r2, r3, r4, rz⟩ := KXR.out
          go_wp2_with fail
          refine bodyPost_ret (results_cell rfl _ _ _ rfl (load43 (KXR.out.put5 _ _ _ _ _))) rfl ?_
          have hf := below_put5 KBW.out (show w.heap.size ≤ blr by omega) (.string T.h) (.int .i64 T.sc) (.slice a2 T.nC d2)
          refine ⟨_, _, _, _, _, rfl, hf _ _, fun w'' HC HH => ?_⟩
          exact ⟨rfl, rfl, KB2.out.ag HC, SA.of_row_ag (owns_put5 KS.out (by omega) _ _ _ _ _) (fun b cur hb h => HH b cur 75 (by omega) h (by decide)) (fun i hi => by
            obtain ⟨_, _, _, _, _, _, _, _, hx⟩ := KX.out i hi
            exact hx.ag HC), EA.of_row_ag (owns_put5 KO.out (by omega) _ _ _ _ _) (fun b cur hb h => HH b cur 76 (by have := SZ.out; omega) h (by decide))⟩


end Go.Proofs.Ytkhjkemllgjfmaa
