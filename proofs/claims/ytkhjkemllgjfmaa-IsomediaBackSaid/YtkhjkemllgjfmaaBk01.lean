/- Texts of this claim joined: P J N Q BA D E. -/
import Derived.Maps.AppendAt
import Derived.Maps.Keyed
import Derived.Maps.OwnOps
import Derived.StringKeys
import Derived.Test.YtkhjkemllgjfmaaBk00
set_option linter.unusedVariables false
set_option linter.unusedSimpArgs false

/- A track copied by the statements' track: its parts stay while others change. -/
namespace Go.Proofs.Ytkhjkemllgjfmaa
open Go.RowKit
set_option linter.unusedVariables false

theorem BA.ag {w w' : World} {v : Value} {n : Nat} {f : Nat → Int} (h : BA w v n f) (ha : ∀ p : Addr, p.block < w.heap.size → w'.cell? p = w.cell? p) : BA w' v n f := by
  obtain ⟨ao, c, rfl, hc, H⟩ := h
  refine ⟨ao, c, rfl, hc, fun i hi => ?_⟩
  obtain ⟨⟨b, o, he, hcell⟩, h2⟩ := H i hi
  exact ⟨⟨b, o, he, (ha ⟨b, o + i, none⟩ (block_lt_of_cell hcell)).trans hcell⟩, h2⟩
theorem owns_open_ag {w w' : World} {B E size n : Nat} {v : Value} {xs : List Value} (h : w.ownsRow B E size v n xs) (ha : ∀ b cur, B ≤ b → w.heap[b]? = some (.cells cur E (0, 0)) → w'.heap[b]? = w.heap[b]?) (hn : 0 < n) : ∃ g c, v = .slice (some ⟨g, 0, none⟩) n c ∧ n ≤ c ∧ ∀ i u, xs[i]? = some u → w'.cell? ⟨g, i, none⟩ = some u := by
  obtain ⟨g, c, e, hc, H⟩ := owns_open h hn
  rcases h.2 with ⟨h1, h0⟩ | ⟨g', cap, cur, h1, h2, h3, _⟩
  · omega
  · rw [h1] at e; cases e
    exact ⟨g, c, h1, hc, fun i u hi => (World.cell?_of_block (ha g cur h2 h3)).trans (H i u hi)⟩
theorem SA.of_row_ag {w w' : World} {B E n : Nat} {v : Value} {X : Nat → Value} {S : Nat → Sm} (h : w.ownsRow B E 4 v n (rowsOf (smV X S) n)) (ha : ∀ b cur, B ≤ b → w.heap[b]? = some (.cells cur E (0, 0)) → w'.heap[b]? = w.heap[b]?) (hX : ∀ i, i < n → BA w' (X i) (S i).n (S i).D) : SA w' v n S := by
  rcases Nat.eq_zero_or_pos n with rfl | hn
  · obtain ⟨a, m, rfl⟩ := owns_zero h
    exact ⟨a, m, rfl, Nat.zero_le _, fun i hi => absurd hi (Nat.not_lt_zero i)⟩
  · obtain ⟨g, c, rfl, hc, H⟩ := owns_open_ag h ha hn
    have hf : ∀ i, (smV X S i).length = 4 := fun i => rfl
    refine ⟨_, c, rfl, hc, fun i hi => ⟨g, 0, X i, rfl, ?_, ?_, ?_, ?_, hX i hi⟩⟩
    · simpa using H (i * 4 + 0) _ (by rw [rowsOf_at hf n i 0 hi (by omega)]; rfl)
    · simpa using H (i * 4 + 1) _ (by rw [rowsOf_at hf n i 1 hi (by omega)]; rfl)
    · simpa using H (i * 4 + 2) _ (by rw [rowsOf_at hf n i 2 hi (by omega)]; rfl)
    · simpa using H (i * 4 + 3) _ (by rw [rowsOf_at hf n i 3 hi (by omega)]; rfl)
theorem EA.of_row_ag {w w' : World} {B E n : Nat} {v : Value} {S : Nat → Ed} (h : w.ownsRow B E 2 v n (rowsOf (edV S) n)) (ha : ∀ b cur, B ≤ b → w.heap[b]? = some (.cells cur E (0, 0)) → w'.heap[b]? = w.heap[b]?) : EA w' v n S := by
  rcases Nat.eq_zero_or_pos n with rfl | hn
  · obtain ⟨a, m, rfl⟩ := owns_zero h
    exact ⟨a, m, rfl, Nat.zero_le _, fun i hi => absurd hi (Nat.not_lt_zero i)⟩
  · obtain ⟨g, c, rfl, hc, H⟩ := owns_open_ag h ha hn
    have hf : ∀ i, (edV S i).length = 2 := fun i => rfl
    refine ⟨_, c, rfl, hc, fun i hi => ⟨g, 0, rfl, ?_, ?_⟩⟩
    · simpa using H (i * 2 + 0) _ (by rw [rowsOf_at hf n i 0 hi (by omega)]; rfl)
    · simpa using H (i * 2 + 1) _ (by rw [rowsOf_at hf n i 1 hi (by omega)]; rfl)

/-- The tracks in a row's cells. -/
def TR (w : World) (T : Nat → Tr) (n : Nat) (xs : List Value) : Prop := ∀ i, i < n → ∃ c0 c1 c2 c3 c4, xs[i * 5]? = some c0 ∧ xs[i * 5 + 1]? = some c1 ∧ xs[i * 5 + 2]? = some c2 ∧ xs[i * 5 + 3]? = some c3 ∧ xs[i * 5 + 4]? = some c4 ∧ TC w c0 c1 c2 c3 c4 (T i)
theorem TR.step {w : World} {T : Nat → Tr} {n : Nat} {xs : List Value} (h : TR w T n xs) (hl : xs.length = n * 5) {c0 c1 c2 c3 c4 : Value} (hc : TC w c0 c1 c2 c3 c4 (T n)) : TR w T (n + 1) (xs ++ [c0, c1, c2, c3, c4]) := by
  intro i hi
  by_cases e : i = n
  · subst e
    refine ⟨c0, c1, c2, c3, c4, ?_, ?_, ?_, ?_, ?_, hc⟩
    all_goals (rw [List.getElem?_append_right (by omega), hl])
    · simp
    · rw [show i * 5 + 1 - i * 5 = 1 by omega]; rfl
    · rw [show i * 5 + 2 - i * 5 = 2 by omega]; rfl
    · rw [show i * 5 + 3 - i * 5 = 3 by omega]; rfl
    · rw [show i * 5 + 4 - i * 5 = 4 by omega]; rfl
  · obtain ⟨d0, d1, d2, d3, d4, h0, h1, h2, h3, h4, h5⟩ := h i (by omega)
    exact ⟨d0, d1, d2, d3, d4, by rw [List.getElem?_append_left (by omega)]; exact h0, by rw [List.getElem?_append_left (by omega)]; exact h1, by rw [List.getElem?_append_left (by omega)]; exact h2, by rw [List.getElem?_append_left (by omega)]; exact h3, by rw [List.getElem?_append_left (by omega)]; exact h4, h5⟩
theorem TSA.of_row {w : World} {B E n : Nat} {v : Value} {T : Nat → Tr} {xs : List Value} (h : w.ownsRow B E 5 v n xs) (ht : TR w T n xs) : TSA w v n T := by
  rcases Nat.eq_zero_or_pos n with rfl | hn
  · obtain ⟨a, m, rfl⟩ := owns_zero h
    exact ⟨a, m, rfl, Nat.zero_le _, fun i hi => absurd hi (Nat.not_lt_zero i)⟩
  · obtain ⟨g, c, rfl, hc, H⟩ := owns_open h hn
    refine ⟨_, c, rfl, hc, fun i hi => ?_⟩
    obtain ⟨d0, d1, d2, d3, d4, h0, h1, h2, h3, h4, h5⟩ := ht i hi
    exact ⟨g, 0, d0, d1, d2, d3, d4, rfl, by simpa using H _ _ h0, by simpa using H _ _ h1, by simpa using H _ _ h2, by simpa using H _ _ h3, by simpa using H _ _ h4, h5⟩

/-- One element appended; what other blocks hold stays. -/
theorem wpList_app2 (w : World) {ops : Array Oper} {rest : List Oper} {o : Oper} {a : Act} {Q : Exit → Act → World → Prop} (hgd : o.guard = none) (s x : Operand) (t E : TypeId) (size bytes : Nat) (z : Value) (ht : Try.prog.underlying t = some (.slice E))
    (hE : (Try.prog.info? E).map (fun i => (i.zero, i.size, i.bytes)) = some (some z, size, bytes)) (hzs : z.cells.size = size) (hsz : 0 < size) (hby : bytes ≤ 1000)
    (ho : o.op = .call { callee := .builtin .append, args := #[s, x], argTypes := #[t, t] }) (B k g : Nat) (v : Value) (xs news : List Value) (hs : a.eval s = v) (hown : w.ownsRow B E size v k xs)
    (hx : a.eval x = .slice (some ⟨g, 0, none⟩) 1 1) (hl : news.length = size) (hnews : ∀ j u, news[j]? = some u → w.cell? ⟨g, j, none⟩ = some u) (h1 : ∀ u ∈ news, u.oneCell' = true)
    (hk : k ≤ 100000000) (hB : B ≤ w.heap.size)
    (h : ∀ v' w', w'.ownsRow B E size v' (k + 1) (xs ++ news) → Below B w w' → (∀ (b : Nat) (cur : Array Value) (e : TypeId), w.heap[b]? = some (.cells cur e (0, 0)) → e ≠ E → w'.heap[b]? = w.heap[b]?) → wpList Try.prog ops Q rest (a.put o.dst v') w') : wpList Try.prog ops Q (o :: rest) a w := by
  obtain ⟨i0, hi, hz0, hz1, hz2⟩ := info_parts hE
  have hb2 : (k + 1) * bytes ≤ (100000000 + 1) * 1000 := Nat.mul_le_mul (by omega) hby
  refine wpList_append_own _ hgd s x t ho B E i0 z size bytes ht hi hz0 hz1 hz2 hzs hsz v k xs hs hown ⟨g, 0, none⟩ 1 1 news hx (by omega) (fun j u hj => ?_) h1 (by unfold maxLen; omega) (by omega) hB (fun v' w' hown' hg hnil => ?_)
  · rw [Addr.add_lit, Nat.zero_add]; exact hnews j u hj
  · refine h v' w' hown' ((Below.refl _ _).grown hg hB (fun k' h' => ?_)) (fun b cur e hb hne => ?_)
    · rcases hown.2 with ⟨rfl, _⟩ | ⟨g', cap, cur, rfl, hg', _⟩
      · cases h'
      · cases h'; exact hg'
    · refine hg.block b (Array.getElem?_eq_some_iff.1 hb).1 (fun h' => ?_)
      rcases hown.2 with ⟨rfl, _⟩ | ⟨g', cap, cur', rfl, _, hg', _⟩
      · cases h'
      · cases h'; rw [hb] at hg'; cases hg'; exact hne rfl

set_option maxRecDepth 100000 in
set_option maxHeartbeats 4000000 in
theorem track_far (v : Value) (T : Tr) (wo w : World) (hv : TA wo v T) (hbo : Below wo.heap.size wo w) (hS : T.nS ≤ 1000000) (hE : T.nE ≤ 1000000) :
    Calls Try.prog 15 #[v] w fun e w' => ∃ c0 c1 c2 c3 c4, e = .returned (.agg #[c0, c1, c2, c3, c4]) ∧ Below w.heap.size w w' ∧ ∀ w'' : World, (∀ p : Addr, p.block < wo.heap.size → w''.cell? p = wo.cell? p) → (∀ b cur e, w.heap.size ≤ b → w'.heap[b]? = some (.cells cur e (0, 0)) → e ≠ 43 → w''.heap[b]? = w'.heap[b]?) → TC w'' c0 c1 c2 c3 c4 T := by
  obtain ⟨c0, c1, c2, c3, c4, rfl, rfl, rfl, b2, b3, b4⟩ := hv
  obtain ⟨a2, d2, rfl⟩ := b2.shape
  obtain ⟨a3, d3, rfl⟩ := b3.shape
  obtain ⟨a4, d4, rfl⟩ := b4.shape
  obtain ⟨X, hX⟩ := b3.pick
  have KX := Lib.hid hX
  have HX := Lib.hid (show ∀ i, i < T.nS → ∃ b o c, Value.slice a3 T.nS d3 = .slice (some ⟨b, o, none⟩) T.nS c ∧ w.cell? ⟨b, o + i * 4, none⟩ = some (X i) ∧ w.cell? ⟨b, o + i * 4 + 1, none⟩ = some (.int .i64 (T.S i).dur) ∧ w.cell? ⟨b, o + i * 4 + 2, none⟩ = some (.int .i64 (T.S i).shift) ∧ w.cell? ⟨b, o + i * 4 + 3, none⟩ = some (.bool (T.S i).sync) ∧ BA w (X i) (T.S i).n (T.S i).D from fun i hi => by
    obtain ⟨b, o, c, e, h0, h1, h2, h3, hx⟩ := hX i hi
    exact ⟨b, o, c, e, (hbo.cell (block_lt_of_cell h0)).trans h0, (hbo.cell (block_lt_of_cell h1)).trans h1, (hbo.cell (block_lt_of_cell h2)).trans h2, (hbo.cell (block_lt_of_cell h3)).trans h3, hx.below hbo⟩)
  have KB2 := Lib.hid b2
  have HB4 := Lib.hid (b4.below hbo)
  have HBO := Lib.hid hbo
  clear b2 b3 b4 hX hbo
  go_enter Try.func15, Try.ntmps15
  go_wp2_with fail
  obtain ⟨w1, hw⟩ : ∃ x, x = ((w.alloc (.cells #[.string T.h, .int .i64 T.sc, .slice a2 T.nC d2, .slice a3 T.nS d3, .slice a4 T.nE d4] 48)).alloc (.cells #[.string { data := #[] }, .int .i64 0, .slice none 0 0, .slice none 0 0, .slice none 0 0] 43)).alloc (.cells #[.string T.h, .int .i64 T.sc, .slice a2 T.nC d2, .slice none 0 0, .slice none 0 0] 43) := ⟨_, rfl⟩
  rw [← hw]
  have hb1 : Below w.heap.size w w1 := by rw [hw]; go_grown
  have xa : BX w1 w.heap.size (.string T.h) (.int .i64 T.sc) (.slice a2 T.nC d2) (.slice a3 T.nS d3) (.slice a4 T.nE d4) := by
    rw [hw]; exact ((BX.of_alloc w _ _ _ _ _ _ 48 rfl).far (below_box _ _) (by simp)).far (below_box _ _) (by simp; omega)
  have xr : BX w1 (w.heap.size + 1) (.string { data := #[] }) (.int .i64 0) (.slice none 0 0) (.slice none 0 0) (.slice none 0 0) := by
    rw [hw]; exact (BX.of_alloc _ _ _ _ _ _ _ 43 (by simp)).far (below_box _ _) (by simp)
  have xx : BX w1 (w.heap.size + 1 + 1) (.string T.h) (.int .i64 T.sc) (.slice a2 T.nC d2) (.slice none 0 0) (.slice none 0 0) := by
    rw [hw]; exact BX.of_alloc _ _ _ _ _ _ _ 43 (by simp)
  have hsz : w1.heap.size = w.heap.size + 1 + 1 + 1 := by rw [hw]; simp
  obtain ⟨bla, hbla⟩ : ∃ z, z = w.heap.size := ⟨_, rfl⟩
  obtain ⟨blr, hblr⟩ : ∃ z, z = w.heap.size + 1 := ⟨_, rfl⟩
  obtain ⟨blx, hblx⟩ : ∃ z, z = w.heap.size + 1 + 1 := ⟨_, rfl⟩
  obtain ⟨B, hB⟩ : ∃ z, z = w1.heap.size := ⟨_, rfl⟩
  have n0 : w.heap.size ≤ bla := by omega
  have n1 : bla < blr := by omega
  have n2 : blr < blx := by omega
  have n3 : blx < B := by omega
  have n4 : B ≤ w1.heap.size := by omega
  rw [← hblx] at xx ⊢
  rw [← hblr] at xr ⊢
  rw [← hbla] at xa ⊢
  have XA := Lib.hid xa
  have XR := Lib.hid xr
  have XX := Lib.hid xx
  have HB := Lib.hid hb1
  clear hw hb1 xa xr xx hsz hbla hblr hblx hB
  go_loopw [4] (fun i wr => ∃ (k : Nat) (v : Value), k ≤ T.nS ∧ i = .int .i64 (k : Int) ∧ BX wr blx (.string T.h) (.int .i64 T.sc) (.slice a2 T.nC d2) v (.slice none 0 0) ∧ BX wr bla (.string T.h) (.int .i64 T.sc) (.slice a2 T.nC d2) (.slice a3 T.nS d3) (.slice a4 T.nE d4) ∧ BX wr blr (.string { data := #[] }) (.int .i64 0) (.slice none 0 0) (.slice none 0 0) (.slice none 0 0) ∧ wr.ownsRow B 75 4 v k (rowsOf (smV X T.S) k) ∧ Below w.heap.size w wr ∧ B ≤ wr.heap.size) (fun i _ => T.nS - (intOf i).toNat)
  case atStart => exact ⟨0, _, Nat.zero_le _, rfl, XX.out, XA.out, XR.out, owns_nil _ _ _ _, HB.out, n4⟩
  case round =>
    obtain ⟨k, v, hk, rfl, xx, xa, xr, ho, hb, hsz⟩ := hrel
    obtain ⟨va, vm, vc, rfl⟩ := owns_shape ho
    have HO := Lib.hid ho
    have HBW := Lib.hid hb
    have HXX := Lib.hid xx
    have HXA := Lib.hid xa
    have HXR := Lib.hid xr
    have a3' := xa.k3
    clear ho hb xx xa xr
    by_cases hlt : k < T.nS
    · obtain ⟨b, o, c, e, h0, h1, h2, h3, hx⟩ := HX.out k hlt
      simp only [Value.slice.injEq, true_and] at e
      obtain ⟨rfl, rfl⟩ := e
      obtain ⟨ax, dx, ex⟩ := hx.shape
      rw [ex] at h0
      have EX := Lib.hid ex
      replace h0 := (HBW.out.cell (block_lt_of_cell h0)).trans h0
      replace h1 := (HBW.out.cell (block_lt_of_cell h1)).trans h1
      replace h2 := (HBW.out.cell (block_lt_of_cell h2)).trans h2
      replace h3 := (HBW.out.cell (block_lt_of_cell h3)).trans h3
      have x3 := HXX.out.k3
      have xl := HXX.out.lt
      have fz := HXX.out.fz
      clear hx ex
      go_wp2_with (at_builtin; refine wpList_app _ rfl (.tmp 27) (.tmp 37) 40 75 4 48 _ Try.underlying40 info75 rfl (by decide) (by decide) rfl B k _ (.slice va vm vc) _ [.slice ax (T.S k).n dx, .int .i64 (T.S k).dur, .int .i64 (T.S k).shift, .bool (T.S k).sync] rfl (owns_below HO.out (by exact (below_box _ _).trans ((below_box _ _).mono (by simp)))) rfl rfl (cells4 (by simp [go_sem]) (by simp [go_sem]) (by simp [go_sem]) (by simp [go_sem])) (by simp [Value.oneCell']) (by omega) (by simp; omega) ?_)
      intro v' w6 hv' hb6
      have hv6 : Below B wr w6 := (((Below.refl B wr).alloc hsz _).alloc (by simp; omega) _).trans hb6
      obtain ⟨va', vm', vc', rfl⟩ := owns_shape hv'
      have xx6 := HXX.out.far hv6 n3
      have xa6 := HXA.out.far hv6 (by omega)
      have xr6 := HXR.out.far hv6 (by omega)
      have hb6' := HBW.out.trans (hv6.mono (by omega))
      have HV6 := Lib.hid (And.intro hv' (And.intro xx6 (And.intro xa6 (And.intro xr6 (And.intro hb6' (show B ≤ w6.heap.size by have := hv6.size; omega))))))
      have x36 := xx6.k3
      have fz6 := xx6.fz
      clear hv' hb6 hv6 xx6 xa6 xr6 hb6' x3 xl fz h0 h1 h2 h3
      go_wp2_with fail
      go_roundw
      case rel =>
        refine ⟨k + 1, .slice va' vm' vc', by omega, by go_num, HV6.out.2.1.set3 _, HV6.out.2.2.1.other (by omega), HV6.out.2.2.2.1.other (by omega), ?_, HV6.out.2.2.2.2.1.setCell (by simp; omega) _, by rw [World.size_setCell]; exact HV6.out.2.2.2.2.2⟩
        have e : rowsOf (smV X T.S) (k + 1) = rowsOf (smV X T.S) k ++ [.slice ax (T.S k).n dx, .int .i64 (T.S k).dur, .int .i64 (T.S k).shift, .bool (T.S k).sync] := by
          simp only [rowsOf, smV]; rw [EX.out]
        rw [e]
        exact owns_far HV6.out.1 (by simpa using n3) _
      case measure => simp [intOf]; omega
    · obtain rfl : k = T.nS := by omega
      clear XA XR XX HB
      go_wp2_with fail
      obtain ⟨w2, hw2⟩ : ∃ x, x = wr := ⟨_, rfl⟩
      rw [← hw2] at HO HBW HXX HXA HXR hsz ⊢
      obtain ⟨sa, sm, sc, es⟩ : ∃ a m c, Value.slice va vm vc = .slice a m c := ⟨_, _, _, rfl⟩
      have SG := Lib.hid (owns_in HO.out)
      rw [es] at SG
      have SZ := Lib.hid (show B ≤ w2.heap.size from hsz)
      clear hw2 a3'
      go_loopw [6] (fun i wx => ∃ (k : Nat) (v : Value), k ≤ T.nE ∧ i = .int .i64 (k : Int) ∧ BX wx blx (.string T.h) (.int .i64 T.sc) (.slice a2 T.nC d2) (.slice sa sm sc) v ∧ BX wx bla (.string T.h) (.int .i64 T.sc) (.slice a2 T.nC d2) (.slice a3 T.nS d3) (.slice a4 T.nE d4) ∧ BX wx blr (.string { data := #[] }) (.int .i64 0) (.slice none 0 0) (.slice none 0 0) (.slice none 0 0) ∧ wx.ownsRow w2.heap.size 76 2 v k (rowsOf (edV T.E) k) ∧ wx.ownsRow B 75 4 (.slice sa sm sc) T.nS (rowsOf (smV X T.S) T.nS) ∧ Below w.heap.size w wx ∧ w2.heap.size ≤ wx.heap.size) (fun i _ => T.nE - (intOf i).toNat)
      case atStart => exact ⟨0, _, Nat.zero_le _, rfl, by rw [← es]; exact HXX.out, HXA.out, HXR.out, owns_nil _ _ _ _, by rw [← es]; exact HO.out, HBW.out, Nat.le_refl _⟩
      case round =>
        obtain ⟨k, v, hk, rfl, xx, xa, xr, ho, hos, hb, hs2⟩ := hrel
        obtain ⟨va, vm, vc, rfl⟩ := owns_shape ho
        have KO := Lib.hid ho
        have KS := Lib.hid hos
        have KBW := Lib.hid hb
        have KXX := Lib.hid xx
        have KXA := Lib.hid xa
        have KXR := Lib.hid xr
        have a4' := xa.k4
        have x4 := xx.k4
        clear ho hos hb xx xa xr HXX HXA HXR HO
        by_cases hlt : k < T.nE
        · obtain ⟨ao', c', e, hcc', H⟩ := HB4.out
          simp only [Value.slice.injEq, true_and] at e
          obtain ⟨rfl, rfl⟩ := e
          obtain ⟨b, o, rfl, h0, h1⟩ := H k hlt
          have hbs := block_lt_of_cell h0
          replace h0 := (KBW.out.cell (block_lt_of_cell h0)).trans h0
          replace h1 := (KBW.out.cell (block_lt_of_cell h1)).trans h1
          have HLT := Lib.hid hbs
          clear H hbs
          go_wp2_with fail
          refine Plan.wp_region_planz (fun w' => w'.cell? ⟨blx, 4, none⟩ = some (.slice va vm vc) ∧ w'.cell? ⟨bla, 4, none⟩ = some (.slice (some ⟨b, o, none⟩) T.nE d4) ∧ w'.cell? ⟨b, o + k * 2, none⟩ = some (.int .i64 (T.E k).dur) ∧ w'.cell? ⟨b, o + k * 2 + 1, none⟩ = some (.int .i64 (T.E k).time)) 18 (([0, 1, 2, 3, 4, 5, 6, 7, 8, 9, 10, 11, 12, 13, 14].map (·, true)) ++ (([15, 16].map (·, false)) ++ (([17].map (·, true)) ++ (([18].map (·, false)))))) (by kernel_rfl) (by kernel_rfl) (by kernel_rfl) ⟨x4, a4', h0, h1⟩ ?_
          refine' Plan.plan_seg _ [0, 1, 2, 3, 4, 5, 6, 7, 8, 9, 10, 11, 12, 13, 14] (([15, 16].map (·, false)) ++ (([17].map (·, true)) ++ (([18].map (·, false))))) (by kernel_rfl) (by kernel_rfl) rfl (by exact ⟨x4, a4', h0, h1⟩) (fun wx hS => ?_) ?_
          rotate_left
          · obtain ⟨y0, y1, y2, y3⟩ := hS
            go_light
            iterate 15 (apply Plan.seg_pick; rfl; intro K hK; go_wp)
            exact Plan.seg_nil
          have hdr : Below wr.heap.size wr (wr.alloc (.cells #[.int .i64 (T.E k).dur, .int .i64 (T.E k).time] 76)).drew := (below_box _ _).drew
          refine Plan.plan_of_effect rfl (fun K hK => ?_)
          go_wp2_with fail
          obtain ⟨wz, hwz⟩ : ∃ x, x = (wr.alloc (.cells #[.int .i64 (T.E k).dur, .int .i64 (T.E k).time] 76)).drew := ⟨_, rfl⟩
          rw [← hwz] at hdr ⊢
          have z0 : wz.cell? ⟨wr.heap.size, 0, none⟩ = some (.int .i64 (T.E k).dur) := by rw [hwz]; simp [go_sem]
          have z1 : wz.cell? ⟨wr.heap.size, 1, none⟩ = some (.int .i64 (T.E k).time) := by rw [hwz]; simp [go_sem]
          have hs3 : w2.heap.size ≤ wz.heap.size := by have := hdr.size; omega
          have HD := Lib.hid hdr
          clear hwz hdr
          refine ⟨⟨(HD.out.cell (block_lt_of_cell x4)).trans x4, (HD.out.cell (block_lt_of_cell a4')).trans a4', (HD.out.cell (block_lt_of_cell h0)).trans h0, (HD.out.cell (block_lt_of_cell h1)).trans h1⟩, ?_⟩
          refine Plan.plan_of_effect rfl (fun K hK => ?_)
          refine wpList_app wz rfl (.tmp 48) (.tmp 62) 41 76 2 16 _ Try.underlying41 info76 rfl (by decide) (by decide) rfl w2.heap.size k wr.heap.size (.slice va vm vc) _ [.int .i64 (T.E k).dur, .int .i64 (T.E k).time] (by simp [go_sem]) (owns_below KO.out HD.out) (by simp [go_sem]) rfl (cells2 z0 z1) (by simp [Value.oneCell']) (by omega) hs3 ?_
          intro v' w6 hv' hb6
          have hv6 : Below w2.heap.size wr w6 := (HD.out.mono hs2).trans hb6
          obtain ⟨va', vm', vc', rfl⟩ := owns_shape hv'
          have hB2 : B ≤ w2.heap.size := hsz
          have xx6 := KXX.out.far hv6 (by omega)
          have xa6 := KXA.out.far hv6 (by omega)
          have xr6 := KXR.out.far hv6 (by omega)
          have hb6' := KBW.out.trans (hv6.mono (by omega))
          have hos6 := owns_stay KS.out hv6 SG.out
          have HV6 := Lib.hid (And.intro hv' (And.intro xx6 (And.intro xa6 (And.intro xr6 (And.intro hb6' (And.intro hos6 (show w2.heap.size ≤ w6.heap.size by have := hv6.size; omega)))))))
          have g4 := xx6.k4
          have ga := xa6.k4
          have e0 := (hv6.cell (p := ⟨b, o + k * 2, none⟩) (by have := HLT.out; have := SZ.out; simp; omega)).trans h0
          have e1 := (hv6.cell (p := ⟨b, o + k * 2 + 1, none⟩) (by have := HLT.out; have := SZ.out; simp; omega)).trans h1
          have fz6 := xx6.fz
          clear hv' hb6 hv6 xx6 xa6 xr6 hb6' hos6 x4 a4' h0 h1 z0 z1
          go_wp2_with fail
          refine ⟨⟨g4, ga, e0, e1⟩, ?_⟩
          refine' Plan.plan_seg _ [17] (([18].map (·, false))) (by kernel_rfl) (by kernel_rfl) rfl (by exact ⟨g4, ga, e0, e1⟩) (fun wx hS => ?_) ?_
          rotate_left
          · obtain ⟨y0, y1, y2, y3⟩ := hS
            go_light
            iterate 1 (apply Plan.seg_pick; rfl; intro K hK; go_wp)
            exact Plan.seg_nil
          refine Plan.plan_of_last rfl (fun K hK => ?_)
          go_wp2_with fail
          refine Plan.plan_done ?_
          go_wp2_with fail
          go_roundw
          case rel =>
            refine ⟨k + 1, .slice va' vm' vc', by omega, by go_num, HV6.out.2.1.set4 _, HV6.out.2.2.1.other (by omega), HV6.out.2.2.2.1.other (by omega), ?_, owns_far HV6.out.2.2.2.2.2.1 (by simpa using n3) _, HV6.out.2.2.2.2.1.setCell (by simp; omega) _, by rw [World.size_setCell]; exact HV6.out.2.2.2.2.2.2⟩
            exact owns_far HV6.out.1 (by simp; omega) _
          case measure => simp [intOf]; omega
        · obtain rfl : k = T.nE := by omega
          obtain ⟨x0, x1, x2, x3, x4', xz⟩ := KXX.out
          obtain ⟨r0, r1, r2, r3, r4, rz⟩ := KXR.out
          go_wp2_with fail
          refine bodyPost_ret (results_cell rfl _ _ _ rfl (load43 (KXR.out.put5 _ _ _ _ _))) rfl ?_
          have hf := below_put5 KBW.out (show w.heap.size ≤ blr by omega) (.string T.h) (.int .i64 T.sc) (.slice a2 T.nC d2)
          refine ⟨_, _, _, _, _, rfl, hf _ _, fun w'' HC HH => ?_⟩
          exact ⟨rfl, rfl, KB2.out.ag HC, SA.of_row_ag (owns_put5 KS.out (by omega) _ _ _ _ _) (fun b cur hb h => HH b cur 75 (by omega) h (by decide)) (fun i hi => by
            obtain ⟨_, _, _, _, _, _, _, _, hx⟩ := KX.out i hi
            exact hx.ag HC), EA.of_row_ag (owns_put5 KO.out (by omega) _ _ _ _ _) (fun b cur hb h => HH b cur 76 (by have := SZ.out; omega) h (by decide))⟩


end Go.Proofs.Ytkhjkemllgjfmaa

/- The contracts of validTrack, both. -/
namespace Go.Proofs.Ytkhjkemllgjfmaa
open Go.RowKit
set_option linter.unusedVariables false

/-- n lies from lo to hi. -/
def wB (n lo hi : Int) : Bool := decide (lo ≤ n ∧ n ≤ hi)
set_option maxHeartbeats 400000 in
theorem within_any (n lo hi : Int) (w : World) : Calls Try.prog 46 #[.int .i64 n, .int .i64 lo, .int .i64 hi] w fun e w' => e = .returned (.bool (wB n lo hi)) ∧ w = w' := by
  go_enter Try.func46, Try.ntmps46
  go_wp2
  all_goals go_ret
  all_goals exact ⟨ret_bool (by unfold wB; rw [Bool.eq_iff_iff]; simp; try omega), rfl⟩
set_option maxHeartbeats 400000 in
theorem rwithin_any (n lo hi : Int) (w : World) : Calls Try.prog 36 #[.int .i64 n, .int .i64 lo, .int .i64 hi] w fun e w' => e = .returned (.bool (wB n lo hi)) ∧ w = w' := by
  go_enter Try.func36, Try.ntmps36
  go_wp2
  all_goals go_ret
  all_goals exact ⟨ret_bool (by unfold wB; rw [Bool.eq_iff_iff]; simp; try omega), rfl⟩
theorem wB_no {n lo hi : Int} (h : wB n lo hi = false) : ¬ (lo ≤ n ∧ n ≤ hi) := by simpa [wB] using h
theorem wB_yes {n lo hi : Int} (h : wB n lo hi = true) : lo ≤ n ∧ n ≤ hi := by simpa [wB] using h

theorem okTr_head {T : Tr} (h : ¬ (T.h.size = 4 ∧ 1 ≤ T.sc ∧ T.sc ≤ 16777216 ∧ T.nC ≤ 4096 ∧ T.nS ≤ 4096 ∧ T.nE ≤ 64)) : okTr T = false := by
  unfold okTr; rw [show decide (T.h.size = 4 ∧ 1 ≤ T.sc ∧ T.sc ≤ 16777216 ∧ T.nC ≤ 4096 ∧ T.nS ≤ 4096 ∧ T.nE ≤ 64) = false by simpa using h]; simp
theorem okTr_sm {T : Tr} {i : Nat} (hi : i < T.nS) (h : okSm (T.S i) = false) : okTr T = false := by
  unfold okTr; rw [all_range_no hi h]; simp
theorem okTr_ed {T : Tr} {i : Nat} (hi : i < T.nE) (h : okEd (T.E i) = false) : okTr T = false := by
  unfold okTr; rw [all_range_no hi h]; simp
theorem okSm_no {s : Sm} (h : ¬ (s.n ≤ 1048576 ∧ 0 ≤ s.dur ∧ s.dur ≤ 16777216 ∧ 0 ≤ s.shift ∧ s.shift ≤ 16777216)) : okSm s = false := by unfold okSm; simpa using h
theorem okEd_no {s : Ed} (h : ¬ (0 ≤ s.dur ∧ s.dur ≤ 2147483647 ∧ -1 ≤ s.time ∧ s.time ≤ 2147483647)) : okEd s = false := by unfold okEd; simpa using h

set_option maxRecDepth 100000 in
set_option maxHeartbeats 4000000 in
theorem valid_any (v : Value) (T : Tr) (w : World) (hv : TA w v T) :
    Calls Try.prog 31 #[v] w fun e w' => e = .returned (.bool (okTr T)) ∧ Below w.heap.size w w' := by
  obtain ⟨c0, c1, c2, c3, c4, rfl, rfl, rfl, b2, b3, b4⟩ := hv
  obtain ⟨a2, d2, rfl⟩ := b2.shape
  obtain ⟨a3, d3, rfl⟩ := b3.shape
  obtain ⟨a4, d4, rfl⟩ := b4.shape
  have HB3 := Lib.hid b3
  have HB4 := Lib.hid b4
  clear b2 b3 b4
  by_cases q1 : ¬ T.h.size = 4
  · have HL := Lib.hid (okTr_head (T := T) (by omega))
    have k1 : ((T.h.size : Int) == 4) = false := by simp; omega
    have k1' : ((T.h.size : Int) != 4) = true := by simp; omega
    go_enter Try.func31, Try.ntmps31
    go_wp2_with (go_at_call 46; refine (within_any _ _ _ _).mono ?_; rintro e w' ⟨rfl, rfl⟩)
    go_ret
    exact ⟨ret_bool HL.out.symm, below_box _ _⟩
  have q1' : T.h.size = 4 := by omega
  have k1 : ((T.h.size : Int) == 4) = true := by simp; omega
  have k1' : ((T.h.size : Int) != 4) = false := by simp; omega
  have HQ1 := Lib.hid q1'
  clear q1 q1'
  cases q2 : wB T.sc 1 16777216
  · have HL := Lib.hid (okTr_head (T := T) (by have := wB_no q2; omega))
    go_enter Try.func31, Try.ntmps31
    go_wp2_with (go_at_call 46; refine (within_any _ _ _ _).mono ?_; rintro e w' ⟨rfl, rfl⟩)
    go_ret
    exact ⟨ret_bool HL.out.symm, below_box _ _⟩
  have HQ2 := Lib.hid (wB_yes q2)
  by_cases q3 : 4096 < T.nC
  · have HL := Lib.hid (okTr_head (T := T) (by omega))
    have k3 : (4096 : Int) < (T.nC : Int) := by omega
    have k3' : decide (4096 < T.nC) = true := by simpa using q3
    go_enter Try.func31, Try.ntmps31
    go_wp2_with (go_at_call 46; refine (within_any _ _ _ _).mono ?_; rintro e w' ⟨rfl, rfl⟩)
    go_ret
    exact ⟨ret_bool HL.out.symm, below_box _ _⟩
  have k3 : ¬ (4096 : Int) < (T.nC : Int) := by omega
  have k3' : decide (4096 < T.nC) = false := by simpa using q3
  by_cases q4 : 4096 < T.nS
  · have HL := Lib.hid (okTr_head (T := T) (by omega))
    have k4 : (4096 : Int) < (T.nS : Int) := by omega
    have k4' : decide (4096 < T.nS) = true := by simpa using q4
    go_enter Try.func31, Try.ntmps31
    go_wp2_with (go_at_call 46; refine (within_any _ _ _ _).mono ?_; rintro e w' ⟨rfl, rfl⟩)
    go_ret
    exact ⟨ret_bool HL.out.symm, below_box _ _⟩
  have k4 : ¬ (4096 : Int) < (T.nS : Int) := by omega
  have k4' : decide (4096 < T.nS) = false := by simpa using q4
  by_cases q5 : 64 < T.nE
  · have HL := Lib.hid (okTr_head (T := T) (by omega))
    have k5 : (64 : Int) < (T.nE : Int) := by omega
    have k5' : decide (64 < T.nE) = true := by simpa using q5
    go_enter Try.func31, Try.ntmps31
    go_wp2_with (go_at_call 46; refine (within_any _ _ _ _).mono ?_; rintro e w' ⟨rfl, rfl⟩)
    go_ret
    exact ⟨ret_bool HL.out.symm, below_box _ _⟩
  have k5 : ¬ (64 : Int) < (T.nE : Int) := by omega
  have k5' : decide (64 < T.nE) = false := by simpa using q5
  go_enter Try.func31, Try.ntmps31
  go_wp2_with (go_at_call 46; refine (within_any _ _ _ _).mono ?_; rintro e w' ⟨rfl, rfl⟩)
  obtain ⟨w1, hw⟩ : ∃ x, x = w.alloc (.cells #[.string T.h, .int .i64 T.sc, .slice a2 T.nC d2, .slice a3 T.nS d3, .slice a4 T.nE d4] 43) := ⟨_, rfl⟩
  rw [← hw]
  have hE : Below w.heap.size w w1 := by rw [hw]; exact below_box _ _
  have y3 : w1.cell? ⟨w.heap.size, 3, none⟩ = some (.slice a3 T.nS d3) := by rw [hw]; simp [go_sem]
  have y4 : w1.cell? ⟨w.heap.size, 4, none⟩ = some (.slice a4 T.nE d4) := by rw [hw]; simp [go_sem]
  have hs1 : w.heap.size < w1.heap.size := by rw [hw]; simp
  have HB := Lib.hid hE
  clear hw hE
  go_loopw [38] (fun i wr => ∃ k : Nat, k ≤ T.nS ∧ i = .int .i64 (k : Int) ∧ Below w1.heap.size w1 wr ∧ Hid (∀ i, i < k → okSm (T.S i) = true)) (fun i _ => T.nS - (intOf i).toNat)
  case atStart => exact ⟨0, Nat.zero_le _, rfl, Below.refl _ _, Lib.hid (fun i hi => absurd hi (Nat.not_lt_zero i))⟩
  case round =>
    obtain ⟨k, hk, rfl, hb, HA⟩ := hrel
    have z3 := (hb.cell (p := ⟨w.heap.size, 3, none⟩) hs1).trans y3
    have z4 := (hb.cell (p := ⟨w.heap.size, 4, none⟩) hs1).trans y4
    have HBW := Lib.hid hb
    have hb2 := HB.out.trans (hb.mono HB.out.size)
    have HB2 := Lib.hid hb2
    clear hb
    by_cases hlt : k < T.nS
    · have hx3 := HB3.out.below hb2
      obtain ⟨ao', c', e, hcc', H⟩ := hx3
      simp only [Value.slice.injEq, true_and] at e
      obtain ⟨rfl, rfl⟩ := e
      obtain ⟨b', o', x, rfl, h0, h1, h2, h3, hx⟩ := H k hlt
      obtain ⟨ax, dx, rfl⟩ := hx.shape
      obtain ⟨s, hs⟩ : ∃ s, s = T.S k := ⟨_, rfl⟩
      rw [← hs] at h0 h1 h2 h3
      have ES := Lib.hid hs
      clear H hx hs hb2
      by_cases p1 : 1048576 < s.n
      · have HL := Lib.hid (okTr_sm hlt (by rw [← ES.out]; exact okSm_no (by omega)))
        have p1' : (1048576 : Int) < (s.n : Int) := by omega
        have p1d : decide (1048576 < s.n) = true := by simpa using p1
        go_wp2_with (go_at_call 46; refine (within_any _ _ _ _).mono ?_; rintro e w' ⟨rfl, rfl⟩)
        go_ret
        exact ⟨ret_bool HL.out.symm, HB2.out.alloc HB2.out.size _⟩
      have p1' : ¬ (1048576 : Int) < (s.n : Int) := by omega
      have p1d : decide (1048576 < s.n) = false := by simpa using p1
      cases p2 : wB s.dur 0 16777216
      · have HL := Lib.hid (okTr_sm hlt (by rw [← ES.out]; exact okSm_no (by have := wB_no p2; omega)))
        go_wp2_with (go_at_call 46; refine (within_any _ _ _ _).mono ?_; rintro e w' ⟨rfl, rfl⟩)
        go_ret
        exact ⟨ret_bool HL.out.symm, HB2.out.alloc HB2.out.size _⟩
      have HP2 := Lib.hid (wB_yes p2)
      cases p3 : wB s.shift 0 16777216
      · have HL := Lib.hid (okTr_sm hlt (by rw [← ES.out]; exact okSm_no (by have := wB_no p3; omega)))
        go_wp2_with (go_at_call 46; refine (within_any _ _ _ _).mono ?_; rintro e w' ⟨rfl, rfl⟩)
        go_ret
        exact ⟨ret_bool HL.out.symm, HB2.out.alloc HB2.out.size _⟩
      have HP3 := Lib.hid (wB_yes p3)
      have HA2 := Lib.hid (all_step (p := fun i => okSm (T.S i)) HA.out (by
        show okSm (T.S k) = true
        rw [← ES.out]; unfold okSm; simp only [decide_eq_true_eq]
        exact ⟨by omega, HP2.out.1, HP2.out.2, HP3.out.1, HP3.out.2⟩))
      go_wp2_with (go_at_call 46; refine (within_any _ _ _ _).mono ?_; rintro e w' ⟨rfl, rfl⟩)
      go_roundw
      case rel => exact ⟨k + 1, by omega, by go_num, HBW.out.alloc HBW.out.size _, HA2⟩
      case measure => simp [intOf]; omega
    · obtain rfl : k = T.nS := by omega
      have HSA := HA
      clear hb2
      go_wp2_with (go_at_call 46; refine (within_any _ _ _ _).mono ?_; rintro e w' ⟨rfl, rfl⟩)
      obtain ⟨w2, hw2⟩ : ∃ x, x = wr := ⟨_, rfl⟩
      rw [← hw2] at z4 HBW HB2 ⊢
      have hs2 : w.heap.size < w2.heap.size := by have := HBW.out.size; omega
      clear hw2 z3 HA
      go_loopw [62] (fun i wx => ∃ k : Nat, k ≤ T.nE ∧ i = .int .i64 (k : Int) ∧ Below w2.heap.size w2 wx ∧ Hid (∀ i, i < k → okEd (T.E i) = true)) (fun i _ => T.nE - (intOf i).toNat)
      case atStart => exact ⟨0, Nat.zero_le _, rfl, Below.refl _ _, Lib.hid (fun i hi => absurd hi (Nat.not_lt_zero i))⟩
      case round =>
        obtain ⟨k, hk, rfl, hb, HA⟩ := hrel
        have u4 := (hb.cell (p := ⟨w.heap.size, 4, none⟩) hs2).trans z4
        have HBX := Lib.hid (HB2.out.trans (hb.mono HB2.out.size))
        have HBX2 := Lib.hid hb
        clear hb
        by_cases hlt : k < T.nE
        · have hx4 := HB4.out.below HBX.out
          obtain ⟨ao', c', e, hcc', H⟩ := hx4
          simp only [Value.slice.injEq, true_and] at e
          obtain ⟨rfl, rfl⟩ := e
          obtain ⟨b', o', rfl, h0, h1⟩ := H k hlt
          obtain ⟨s, hs⟩ : ∃ s, s = T.E k := ⟨_, rfl⟩
          rw [← hs] at h0 h1
          have ES := Lib.hid hs
          clear H hs
          cases p2 : wB s.dur 0 2147483647
          · have HL := Lib.hid (okTr_ed hlt (by rw [← ES.out]; exact okEd_no (by have := wB_no p2; omega)))
            go_wp2_with (go_at_call 46; refine (within_any _ _ _ _).mono ?_; rintro e w' ⟨rfl, rfl⟩)
            go_ret
            exact ⟨ret_bool HL.out.symm, HBX.out.alloc HBX.out.size _⟩
          have HP2 := Lib.hid (wB_yes p2)
          cases p3 : wB s.time (-1) 2147483647
          · have HL := Lib.hid (okTr_ed hlt (by rw [← ES.out]; exact okEd_no (by have := wB_no p3; omega)))
            go_wp2_with (go_at_call 46; refine (within_any _ _ _ _).mono ?_; rintro e w' ⟨rfl, rfl⟩)
            go_ret
            exact ⟨ret_bool HL.out.symm, HBX.out.alloc HBX.out.size _⟩
          have HP3 := Lib.hid (wB_yes p3)
          have HA2 := Lib.hid (all_step (p := fun i => okEd (T.E i)) HA.out (by
            show okEd (T.E k) = true
            rw [← ES.out]; unfold okEd; simp only [decide_eq_true_eq]
            exact ⟨HP2.out.1, HP2.out.2, HP3.out.1, HP3.out.2⟩))
          go_wp2_with (go_at_call 46; refine (within_any _ _ _ _).mono ?_; rintro e w' ⟨rfl, rfl⟩)
          go_roundw
          case rel => exact ⟨k + 1, by omega, by go_num, HBX2.out.alloc HBX2.out.size _, HA2⟩
          case measure => simp [intOf]; omega
        · obtain rfl : k = T.nE := by omega
          have HL := Lib.hid (show okTr T = true by
            unfold okTr
            simp only [Bool.and_eq_true, decide_eq_true_eq, all_range]
            exact ⟨⟨⟨HQ1.out, HQ2.out.1, HQ2.out.2, by omega, by omega, by omega⟩, HSA.out⟩, HA.out⟩)
          go_wp2_with (go_at_call 46; refine (within_any _ _ _ _).mono ?_; rintro e w' ⟨rfl, rfl⟩)
          go_ret
          exact ⟨ret_bool HL.out.symm, HBX.out⟩

set_option maxRecDepth 100000 in
set_option maxHeartbeats 4000000 in
theorem rvalid_any (v : Value) (T : Tr) (w : World) (hv : TA w v T) :
    Calls Try.prog 32 #[v] w fun e w' => e = .returned (.bool (okTr T)) ∧ Below w.heap.size w w' := by
  obtain ⟨c0, c1, c2, c3, c4, rfl, rfl, rfl, b2, b3, b4⟩ := hv
  obtain ⟨a2, d2, rfl⟩ := b2.shape
  obtain ⟨a3, d3, rfl⟩ := b3.shape
  obtain ⟨a4, d4, rfl⟩ := b4.shape
  have HB3 := Lib.hid b3
  have HB4 := Lib.hid b4
  clear b2 b3 b4
  by_cases q1 : ¬ T.h.size = 4
  · have HL := Lib.hid (okTr_head (T := T) (by omega))
    have k1 : ((T.h.size : Int) == 4) = false := by simp; omega
    have k1' : ((T.h.size : Int) != 4) = true := by simp; omega
    go_enter Try.func32, Try.ntmps32
    go_wp2_with (go_at_call 36; refine (rwithin_any _ _ _ _).mono ?_; rintro e w' ⟨rfl, rfl⟩)
    go_ret
    exact ⟨ret_bool HL.out.symm, below_box _ _⟩
  have q1' : T.h.size = 4 := by omega
  have k1 : ((T.h.size : Int) == 4) = true := by simp; omega
  have k1' : ((T.h.size : Int) != 4) = false := by simp; omega
  have HQ1 := Lib.hid q1'
  clear q1 q1'
  cases q2 : wB T.sc 1 16777216
  · have HL := Lib.hid (okTr_head (T := T) (by have := wB_no q2; omega))
    go_enter Try.func32, Try.ntmps32
    go_wp2_with (go_at_call 36; refine (rwithin_any _ _ _ _).mono ?_; rintro e w' ⟨rfl, rfl⟩)
    go_ret
    exact ⟨ret_bool HL.out.symm, below_box _ _⟩
  have HQ2 := Lib.hid (wB_yes q2)
  by_cases q3 : 4096 < T.nC
  · have HL := Lib.hid (okTr_head (T := T) (by omega))
    have k3 : (4096 : Int) < (T.nC : Int) := by omega
    have k3' : decide (4096 < T.nC) = true := by simpa using q3
    go_enter Try.func32, Try.ntmps32
    go_wp2_with (go_at_call 36; refine (rwithin_any _ _ _ _).mono ?_; rintro e w' ⟨rfl, rfl⟩)
    go_ret
    exact ⟨ret_bool HL.out.symm, below_box _ _⟩
  have k3 : ¬ (4096 : Int) < (T.nC : Int) := by omega
  have k3' : decide (4096 < T.nC) = false := by simpa using q3
  by_cases q4 : 4096 < T.nS
  · have HL := Lib.hid (okTr_head (T := T) (by omega))
    have k4 : (4096 : Int) < (T.nS : Int) := by omega
    have k4' : decide (4096 < T.nS) = true := by simpa using q4
    go_enter Try.func32, Try.ntmps32
    go_wp2_with (go_at_call 36; refine (rwithin_any _ _ _ _).mono ?_; rintro e w' ⟨rfl, rfl⟩)
    go_ret
    exact ⟨ret_bool HL.out.symm, below_box _ _⟩
  have k4 : ¬ (4096 : Int) < (T.nS : Int) := by omega
  have k4' : decide (4096 < T.nS) = false := by simpa using q4
  by_cases q5 : 64 < T.nE
  · have HL := Lib.hid (okTr_head (T := T) (by omega))
    have k5 : (64 : Int) < (T.nE : Int) := by omega
    have k5' : decide (64 < T.nE) = true := by simpa using q5
    go_enter Try.func32, Try.ntmps32
    go_wp2_with (go_at_call 36; refine (rwithin_any _ _ _ _).mono ?_; rintro e w' ⟨rfl, rfl⟩)
    go_ret
    exact ⟨ret_bool HL.out.symm, below_box _ _⟩
  have k5 : ¬ (64 : Int) < (T.nE : Int) := by omega
  have k5' : decide (64 < T.nE) = false := by simpa using q5
  go_enter Try.func32, Try.ntmps32
  go_wp2_with (go_at_call 36; refine (rwithin_any _ _ _ _).mono ?_; rintro e w' ⟨rfl, rfl⟩)
  obtain ⟨w1, hw⟩ : ∃ x, x = w.alloc (.cells #[.string T.h, .int .i64 T.sc, .slice a2 T.nC d2, .slice a3 T.nS d3, .slice a4 T.nE d4] 48) := ⟨_, rfl⟩
  rw [← hw]
  have hE : Below w.heap.size w w1 := by rw [hw]; exact below_box _ _
  have y3 : w1.cell? ⟨w.heap.size, 3, none⟩ = some (.slice a3 T.nS d3) := by rw [hw]; simp [go_sem]
  have y4 : w1.cell? ⟨w.heap.size, 4, none⟩ = some (.slice a4 T.nE d4) := by rw [hw]; simp [go_sem]
  have hs1 : w.heap.size < w1.heap.size := by rw [hw]; simp
  have HB := Lib.hid hE
  clear hw hE
  go_loopw [3] (fun i wr => ∃ k : Nat, k ≤ T.nS ∧ i = .int .i64 (k : Int) ∧ Below w1.heap.size w1 wr ∧ Hid (∀ i, i < k → okSm (T.S i) = true)) (fun i _ => T.nS - (intOf i).toNat)
  case atStart => exact ⟨0, Nat.zero_le _, rfl, Below.refl _ _, Lib.hid (fun i hi => absurd hi (Nat.not_lt_zero i))⟩
  case round =>
    obtain ⟨k, hk, rfl, hb, HA⟩ := hrel
    have z3 := (hb.cell (p := ⟨w.heap.size, 3, none⟩) hs1).trans y3
    have z4 := (hb.cell (p := ⟨w.heap.size, 4, none⟩) hs1).trans y4
    have HBW := Lib.hid hb
    have hb2 := HB.out.trans (hb.mono HB.out.size)
    have HB2 := Lib.hid hb2
    clear hb
    by_cases hlt : k < T.nS
    · have hx3 := HB3.out.below hb2
      obtain ⟨ao', c', e, hcc', H⟩ := hx3
      simp only [Value.slice.injEq, true_and] at e
      obtain ⟨rfl, rfl⟩ := e
      obtain ⟨b', o', x, rfl, h0, h1, h2, h3, hx⟩ := H k hlt
      obtain ⟨ax, dx, rfl⟩ := hx.shape
      obtain ⟨s, hs⟩ : ∃ s, s = T.S k := ⟨_, rfl⟩
      rw [← hs] at h0 h1 h2 h3
      have ES := Lib.hid hs
      clear H hx hs hb2
      by_cases p1 : 1048576 < s.n
      · have HL := Lib.hid (okTr_sm hlt (by rw [← ES.out]; exact okSm_no (by omega)))
        have p1' : (1048576 : Int) < (s.n : Int) := by omega
        have p1d : decide (1048576 < s.n) = true := by simpa using p1
        go_wp2_with (go_at_call 36; refine (rwithin_any _ _ _ _).mono ?_; rintro e w' ⟨rfl, rfl⟩)
        go_ret
        exact ⟨ret_bool HL.out.symm, HB2.out.alloc HB2.out.size _⟩
      have p1' : ¬ (1048576 : Int) < (s.n : Int) := by omega
      have p1d : decide (1048576 < s.n) = false := by simpa using p1
      cases p2 : wB s.dur 0 16777216
      · have HL := Lib.hid (okTr_sm hlt (by rw [← ES.out]; exact okSm_no (by have := wB_no p2; omega)))
        go_wp2_with (go_at_call 36; refine (rwithin_any _ _ _ _).mono ?_; rintro e w' ⟨rfl, rfl⟩)
        go_ret
        exact ⟨ret_bool HL.out.symm, HB2.out.alloc HB2.out.size _⟩
      have HP2 := Lib.hid (wB_yes p2)
      cases p3 : wB s.shift 0 16777216
      · have HL := Lib.hid (okTr_sm hlt (by rw [← ES.out]; exact okSm_no (by have := wB_no p3; omega)))
        go_wp2_with (go_at_call 36; refine (rwithin_any _ _ _ _).mono ?_; rintro e w' ⟨rfl, rfl⟩)
        go_ret
        exact ⟨ret_bool HL.out.symm, HB2.out.alloc HB2.out.size _⟩
      have HP3 := Lib.hid (wB_yes p3)
      have HA2 := Lib.hid (all_step (p := fun i => okSm (T.S i)) HA.out (by
        show okSm (T.S k) = true
        rw [← ES.out]; unfold okSm; simp only [decide_eq_true_eq]
        exact ⟨by omega, HP2.out.1, HP2.out.2, HP3.out.1, HP3.out.2⟩))
      go_wp2_with (go_at_call 36; refine (rwithin_any _ _ _ _).mono ?_; rintro e w' ⟨rfl, rfl⟩)
      go_roundw
      case rel => exact ⟨k + 1, by omega, by go_num, HBW.out.alloc HBW.out.size _, HA2⟩
      case measure => simp [intOf]; omega
    · obtain rfl : k = T.nS := by omega
      have HSA := HA
      clear hb2
      go_wp2_with (go_at_call 36; refine (rwithin_any _ _ _ _).mono ?_; rintro e w' ⟨rfl, rfl⟩)
      obtain ⟨w2, hw2⟩ : ∃ x, x = wr := ⟨_, rfl⟩
      rw [← hw2] at z4 HBW HB2 ⊢
      have hs2 : w.heap.size < w2.heap.size := by have := HBW.out.size; omega
      clear hw2 z3 HA
      go_loopw [5] (fun i wx => ∃ k : Nat, k ≤ T.nE ∧ i = .int .i64 (k : Int) ∧ Below w2.heap.size w2 wx ∧ Hid (∀ i, i < k → okEd (T.E i) = true)) (fun i _ => T.nE - (intOf i).toNat)
      case atStart => exact ⟨0, Nat.zero_le _, rfl, Below.refl _ _, Lib.hid (fun i hi => absurd hi (Nat.not_lt_zero i))⟩
      case round =>
        obtain ⟨k, hk, rfl, hb, HA⟩ := hrel
        have u4 := (hb.cell (p := ⟨w.heap.size, 4, none⟩) hs2).trans z4
        have HBX := Lib.hid (HB2.out.trans (hb.mono HB2.out.size))
        have HBX2 := Lib.hid hb
        clear hb
        by_cases hlt : k < T.nE
        · have hx4 := HB4.out.below HBX.out
          obtain ⟨ao', c', e, hcc', H⟩ := hx4
          simp only [Value.slice.injEq, true_and] at e
          obtain ⟨rfl, rfl⟩ := e
          obtain ⟨b', o', rfl, h0, h1⟩ := H k hlt
          obtain ⟨s, hs⟩ : ∃ s, s = T.E k := ⟨_, rfl⟩
          rw [← hs] at h0 h1
          have ES := Lib.hid hs
          clear H hs
          cases p2 : wB s.dur 0 2147483647
          · have HL := Lib.hid (okTr_ed hlt (by rw [← ES.out]; exact okEd_no (by have := wB_no p2; omega)))
            go_wp2_with (go_at_call 36; refine (rwithin_any _ _ _ _).mono ?_; rintro e w' ⟨rfl, rfl⟩)
            go_ret
            exact ⟨ret_bool HL.out.symm, HBX.out⟩
          have HP2 := Lib.hid (wB_yes p2)
          cases p3 : wB s.time (-1) 2147483647
          · have HL := Lib.hid (okTr_ed hlt (by rw [← ES.out]; exact okEd_no (by have := wB_no p3; omega)))
            go_wp2_with (go_at_call 36; refine (rwithin_any _ _ _ _).mono ?_; rintro e w' ⟨rfl, rfl⟩)
            go_ret
            exact ⟨ret_bool HL.out.symm, HBX.out⟩
          have HP3 := Lib.hid (wB_yes p3)
          have HA2 := Lib.hid (all_step (p := fun i => okEd (T.E i)) HA.out (by
            show okEd (T.E k) = true
            rw [← ES.out]; unfold okEd; simp only [decide_eq_true_eq]
            exact ⟨HP2.out.1, HP2.out.2, HP3.out.1, HP3.out.2⟩))
          go_wp2_with (go_at_call 36; refine (rwithin_any _ _ _ _).mono ?_; rintro e w' ⟨rfl, rfl⟩)
          go_roundw
          case rel => exact ⟨k + 1, by omega, by go_num, HBX2.out, HA2⟩
          case measure => simp [intOf]; omega
        · obtain rfl : k = T.nE := by omega
          have HL := Lib.hid (show okTr T = true by
            unfold okTr
            simp only [Bool.and_eq_true, decide_eq_true_eq, all_range]
            exact ⟨⟨⟨HQ1.out, HQ2.out.1, HQ2.out.2, by omega, by omega, by omega⟩, HSA.out⟩, HA.out⟩)
          go_wp2_with (go_at_call 36; refine (rwithin_any _ _ _ _).mono ?_; rintro e w' ⟨rfl, rfl⟩)
          go_ret
          exact ⟨ret_bool HL.out.symm, HBX.out⟩

end Go.Proofs.Ytkhjkemllgjfmaa

/- The contracts of Valid, both: files. -/
namespace Go.Proofs.Ytkhjkemllgjfmaa
open Go.RowKit
set_option linter.unusedVariables false

theorem okFl_head {F : Fl} (h : ¬ (1 ≤ F.sc ∧ F.sc ≤ 16777216 ∧ F.nT ≤ 4)) : okFl F = false := by
  unfold okFl; rw [show decide (1 ≤ F.sc ∧ F.sc ≤ 16777216 ∧ F.nT ≤ 4) = false by simpa using h]; simp
theorem okFl_tr {F : Fl} {i : Nat} (hi : i < F.nT) (h : okTr (F.T i) = false) : okFl F = false := by
  unfold okFl; rw [all_range_no hi h]; simp
theorem okFl_yes {F : Fl} (h : okFl F = true) : (1 ≤ F.sc ∧ F.sc ≤ 16777216 ∧ F.nT ≤ 4) ∧ ∀ i, i < F.nT → okTr (F.T i) = true := by
  unfold okFl at h
  simp only [Bool.and_eq_true, decide_eq_true_eq, all_range] at h
  exact h
/-- A track in its place, as a value. -/
theorem TSA.at {w : World} {ao : Option Addr} {n c : Nat} {T : Nat → Tr} (h : TSA w (.slice ao n c) n T) {k : Nat} (hk : k < n) : ∃ b o a2 d2 a3 d3 a4 d4, ao = some ⟨b, o, none⟩ ∧ w.cell? ⟨b, o + k * 5, none⟩ = some (.string (T k).h) ∧ w.cell? ⟨b, o + k * 5 + 1, none⟩ = some (.int .i64 (T k).sc) ∧ w.cell? ⟨b, o + k * 5 + 2, none⟩ = some (.slice a2 (T k).nC d2) ∧ w.cell? ⟨b, o + k * 5 + 3, none⟩ = some (.slice a3 (T k).nS d3) ∧ w.cell? ⟨b, o + k * 5 + 4, none⟩ = some (.slice a4 (T k).nE d4) ∧
    TA w (.agg #[.string (T k).h, .int .i64 (T k).sc, .slice a2 (T k).nC d2, .slice a3 (T k).nS d3, .slice a4 (T k).nE d4]) (T k) := by
  obtain ⟨ao', c', e, _, H⟩ := h
  simp only [Value.slice.injEq, true_and] at e
  obtain ⟨rfl, rfl⟩ := e
  obtain ⟨b, o, c0, c1, c2, c3, c4, rfl, t0, t1, t2, t3, t4, hc⟩ := H k hk
  obtain ⟨rfl, rfl, b2, b3, b4⟩ := hc
  obtain ⟨a2, d2, rfl⟩ := b2.shape
  obtain ⟨a3, d3, rfl⟩ := b3.shape
  obtain ⟨a4, d4, rfl⟩ := b4.shape
  exact ⟨b, o, a2, d2, a3, d3, a4, d4, rfl, t0, t1, t2, t3, t4, ⟨_, _, _, _, _, rfl, ⟨rfl, rfl, b2, b3, b4⟩⟩⟩

set_option maxRecDepth 100000 in
set_option maxHeartbeats 4000000 in
theorem validF_any (v : Value) (F : Fl) (w : World) (hv : FA w v F) (hm : F.nT ≤ 9223372036854775807) :
    Calls Try.prog 23 #[v] w fun e w' => e = .returned (.bool (okFl F)) ∧ Below w.heap.size w w' := by
  obtain ⟨ts, rfl, hts⟩ := hv
  obtain ⟨ao, c, rfl⟩ := hts.shape
  have HT := Lib.hid hts
  clear hts
  cases q1 : wB F.sc 1 16777216
  · have HL := Lib.hid (okFl_head (F := F) (by have := wB_no q1; omega))
    go_enter Try.func23, Try.ntmps23
    go_wp2_with (go_at_call 46; refine (within_any _ _ _ _).mono ?_; rintro e w' ⟨rfl, rfl⟩)
    go_ret
    exact ⟨ret_bool HL.out.symm, below_box _ _⟩
  have HQ1 := Lib.hid (wB_yes q1)
  by_cases q2 : 4 < F.nT
  · have HL := Lib.hid (okFl_head (F := F) (by omega))
    have k2 : (4 : Int) < (F.nT : Int) := by omega
    have k2' : decide (4 < F.nT) = true := by simpa using q2
    go_enter Try.func23, Try.ntmps23
    go_wp2_with (go_at_call 46; refine (within_any _ _ _ _).mono ?_; rintro e w' ⟨rfl, rfl⟩)
    go_ret
    exact ⟨ret_bool HL.out.symm, below_box _ _⟩
  have k2 : ¬ (4 : Int) < (F.nT : Int) := by omega
  have k2' : decide (4 < F.nT) = false := by simpa using q2
  go_enter Try.func23, Try.ntmps23
  go_wp2_with (go_at_call 46; refine (within_any _ _ _ _).mono ?_; rintro e w' ⟨rfl, rfl⟩)
  obtain ⟨w1, hw⟩ : ∃ x, x = w.alloc (.cells #[.int .i64 F.sc, .slice ao F.nT c] 56) := ⟨_, rfl⟩
  rw [← hw]
  have hE : Below w.heap.size w w1 := by rw [hw]; exact below_box _ _
  have y1 : w1.cell? ⟨w.heap.size, 1, none⟩ = some (.slice ao F.nT c) := by rw [hw]; simp [go_sem]
  have hs1 : w.heap.size < w1.heap.size := by rw [hw]; simp
  have HB := Lib.hid hE
  clear hw hE
  go_loopw [18] (fun i wr => ∃ k : Nat, k ≤ F.nT ∧ i = .int .i64 (k : Int) ∧ Below w1.heap.size w1 wr ∧ Hid (∀ i, i < k → okTr (F.T i) = true)) (fun i _ => F.nT - (intOf i).toNat)
  case atStart => exact ⟨0, Nat.zero_le _, rfl, Below.refl _ _, Lib.hid (fun i hi => absurd hi (Nat.not_lt_zero i))⟩
  case round =>
    obtain ⟨k, hk, rfl, hb, HA⟩ := hrel
    have z1 := (hb.cell (p := ⟨w.heap.size, 1, none⟩) hs1).trans y1
    have HBW := Lib.hid hb
    have HB2 := Lib.hid (HB.out.trans (hb.mono HB.out.size))
    clear hb
    by_cases hlt : k < F.nT
    · obtain ⟨b, o, a2, d2, a3, d3, a4, d4, rfl, t0, t1, t2, t3, t4, hta⟩ := (HT.out.below HB2.out).at hlt
      have TT := Lib.hid (hta.below (below_box wr (.cells #[.string (F.T k).h, .int .i64 (F.T k).sc, .slice a2 (F.T k).nC d2, .slice a3 (F.T k).nS d3, .slice a4 (F.T k).nE d4] 43)))
      clear hta
      go_wp2_with fail
      refine (valid_any _ (F.T k) _ TT.out).mono ?_
      rintro e w3 ⟨rfl, hb3⟩
      have hb3' : Below wr.heap.size wr w3 := (below_box _ _).trans (hb3.mono (by simp))
      have HB3 := Lib.hid (HB2.out.trans (hb3'.mono HB2.out.size))
      have HBW3 := Lib.hid (HBW.out.trans (hb3'.mono HBW.out.size))
      clear hb3 hb3' t0 t1 t2 t3 t4 TT z1
      cases hok : okTr (F.T k)
      · have HL := Lib.hid (okFl_tr hlt hok)
        go_wp2_with fail
        go_ret
        exact ⟨ret_bool HL.out.symm, HB3.out⟩
      · have HA2 := Lib.hid (all_step (p := fun i => okTr (F.T i)) HA.out hok)
        go_wp2_with fail
        go_roundw
        case rel => exact ⟨k + 1, by omega, by go_num, HBW3.out, HA2⟩
        case measure => simp [intOf]; omega
    · obtain rfl : k = F.nT := by omega
      have HL := Lib.hid (show okFl F = true by
        unfold okFl
        simp only [Bool.and_eq_true, decide_eq_true_eq, all_range]
        exact ⟨⟨HQ1.out.1, HQ1.out.2, by omega⟩, HA.out⟩)
      go_wp2_with fail
      go_ret
      exact ⟨ret_bool HL.out.symm, HB2.out⟩

set_option maxRecDepth 100000 in
set_option maxHeartbeats 4000000 in
theorem rvalidF_any (v : Value) (F : Fl) (w : World) (hv : FA w v F) (hm : F.nT ≤ 9223372036854775807) :
    Calls Try.prog 20 #[v] w fun e w' => e = .returned (.bool (okFl F)) ∧ Below w.heap.size w w' := by
  obtain ⟨ts, rfl, hts⟩ := hv
  obtain ⟨ao, c, rfl⟩ := hts.shape
  have HT := Lib.hid hts
  clear hts
  cases q1 : wB F.sc 1 16777216
  · have HL := Lib.hid (okFl_head (F := F) (by have := wB_no q1; omega))
    go_enter Try.func20, Try.ntmps20
    go_wp2_with (go_at_call 36; refine (rwithin_any _ _ _ _).mono ?_; rintro e w' ⟨rfl, rfl⟩)
    go_ret
    exact ⟨ret_bool HL.out.symm, below_box _ _⟩
  have HQ1 := Lib.hid (wB_yes q1)
  by_cases q2 : 4 < F.nT
  · have HL := Lib.hid (okFl_head (F := F) (by omega))
    have k2 : (4 : Int) < (F.nT : Int) := by omega
    have k2' : decide (4 < F.nT) = true := by simpa using q2
    go_enter Try.func20, Try.ntmps20
    go_wp2_with (go_at_call 36; refine (rwithin_any _ _ _ _).mono ?_; rintro e w' ⟨rfl, rfl⟩)
    go_ret
    exact ⟨ret_bool HL.out.symm, below_box _ _⟩
  have k2 : ¬ (4 : Int) < (F.nT : Int) := by omega
  have k2' : decide (4 < F.nT) = false := by simpa using q2
  go_enter Try.func20, Try.ntmps20
  go_wp2_with (go_at_call 36; refine (rwithin_any _ _ _ _).mono ?_; rintro e w' ⟨rfl, rfl⟩)
  obtain ⟨w1, hw⟩ : ∃ x, x = w.alloc (.cells #[.int .i64 F.sc, .slice ao F.nT c] 37) := ⟨_, rfl⟩
  rw [← hw]
  have hE : Below w.heap.size w w1 := by rw [hw]; exact below_box _ _
  have y1 : w1.cell? ⟨w.heap.size, 1, none⟩ = some (.slice ao F.nT c) := by rw [hw]; simp [go_sem]
  have hs1 : w.heap.size < w1.heap.size := by rw [hw]; simp
  have HB := Lib.hid hE
  clear hw hE
  go_loopw [3] (fun i wr => ∃ k : Nat, k ≤ F.nT ∧ i = .int .i64 (k : Int) ∧ Below w1.heap.size w1 wr ∧ Hid (∀ i, i < k → okTr (F.T i) = true)) (fun i _ => F.nT - (intOf i).toNat)
  case atStart => exact ⟨0, Nat.zero_le _, rfl, Below.refl _ _, Lib.hid (fun i hi => absurd hi (Nat.not_lt_zero i))⟩
  case round =>
    obtain ⟨k, hk, rfl, hb, HA⟩ := hrel
    have z1 := (hb.cell (p := ⟨w.heap.size, 1, none⟩) hs1).trans y1
    have HBW := Lib.hid hb
    have HB2 := Lib.hid (HB.out.trans (hb.mono HB.out.size))
    clear hb
    by_cases hlt : k < F.nT
    · obtain ⟨b, o, a2, d2, a3, d3, a4, d4, rfl, t0, t1, t2, t3, t4, hta⟩ := (HT.out.below HB2.out).at hlt
      have TT := Lib.hid (hta.below (Below.refl wr.heap.size wr))
      clear hta
      go_wp2_with fail
      refine (rvalid_any _ (F.T k) _ TT.out).mono ?_
      rintro e w3 ⟨rfl, hb3⟩
      have hb3' : Below wr.heap.size wr w3 := hb3
      have HB3 := Lib.hid (HB2.out.trans (hb3'.mono HB2.out.size))
      have HBW3 := Lib.hid (HBW.out.trans (hb3'.mono HBW.out.size))
      clear hb3 hb3' t0 t1 t2 t3 t4 TT z1
      cases hok : okTr (F.T k)
      · have HL := Lib.hid (okFl_tr hlt hok)
        go_wp2_with fail
        go_ret
        exact ⟨ret_bool HL.out.symm, HB3.out⟩
      · have HA2 := Lib.hid (all_step (p := fun i => okTr (F.T i)) HA.out hok)
        go_wp2_with fail
        go_roundw
        case rel => exact ⟨k + 1, by omega, by go_num, HBW3.out, HA2⟩
        case measure => simp [intOf]; omega
    · obtain rfl : k = F.nT := by omega
      have HL := Lib.hid (show okFl F = true by
        unfold okFl
        simp only [Bool.and_eq_true, decide_eq_true_eq, all_range]
        exact ⟨⟨HQ1.out.1, HQ1.out.2, by omega⟩, HA.out⟩)
      go_wp2_with fail
      go_ret
      exact ⟨ret_bool HL.out.symm, HB2.out⟩

end Go.Proofs.Ytkhjkemllgjfmaa

/- The contract of the statements' given: a reference's file as the program has it. -/
namespace Go.Proofs.Ytkhjkemllgjfmaa
open Go.RowKit
set_option linter.unusedVariables false

theorem info43 : (Try.prog.info? 43).map (fun i => (i.zero, i.size, i.bytes)) = some (some (.agg #[.string { data := #[] }, .int .i64 0, .slice none 0 0, .slice none 0 0, .slice none 0 0]), 5, 96) := by kernel_rfl

/-- Block b holds two cells and may be written. -/
structure B2 (w : World) (b : Nat) (c0 c1 : Value) : Prop where
  k0 : w.cell? ⟨b, 0, none⟩ = some c0
  k1 : w.cell? ⟨b, 1, none⟩ = some c1
  fz : ∀ o, w.frozen? ⟨b, o, none⟩ = false
theorem B2.lt {w : World} {b : Nat} {c0 c1 : Value} (h : B2 w b c0 c1) : b < w.heap.size := block_lt_of_cell h.k0
theorem B2.far {w w' : World} {B b : Nat} {c0 c1 : Value} (h : B2 w b c0 c1) (hb : Below B w w') (hl : b < B) : B2 w' b c0 c1 :=
  ⟨(hb.cell hl).trans h.k0, (hb.cell hl).trans h.k1, fun o => (hb.frozen hl).trans (h.fz o)⟩
theorem B2.of_alloc (w : World) (b : Nat) (c0 c1 : Value) (t : TypeId) (h : b = w.heap.size) : B2 (w.alloc (.cells #[c0, c1] t)) b c0 c1 := by
  subst h; exact ⟨by simp [go_sem], by simp [go_sem], fun o => by simp [go_sem]⟩
theorem B2.set1 {w : World} {b : Nat} {c0 c1 : Value} (h : B2 w b c0 c1) (u : Value) : B2 (w.setCell ⟨b, 1, none⟩ u) b c0 u :=
  ⟨by simp [go_sem, h.k0], by simp [go_sem, h.k1], fun o => by rw [World.frozen?_setCell]; exact h.fz o⟩
theorem B2.other {w : World} {b : Nat} {c0 c1 : Value} (h : B2 w b c0 c1) {p : Addr} (hp : p.block ≠ b) (u : Value) : B2 (w.setCell p u) b c0 c1 :=
  ⟨by rw [World.cell?_setCell_far _ _ _ _ (by simpa using hp)]; exact h.k0, by rw [World.cell?_setCell_far _ _ _ _ (by simpa using hp)]; exact h.k1, fun o => by rw [World.frozen?_setCell]; exact h.fz o⟩

/-- The tracks of a row stay, whatever the row itself becomes. -/
def Kept (wo : World) (B : Nat) (w : World) (T : Nat → Tr) (n : Nat) (xs : List Value) : Prop := ∀ w'' : World, (∀ p : Addr, p.block < wo.heap.size → w''.cell? p = wo.cell? p) → (∀ b cur e, B ≤ b → w.heap[b]? = some (.cells cur e (0, 0)) → e ≠ 43 → w''.heap[b]? = w.heap[b]?) → TR w'' T n xs
theorem Kept.nil (wo : World) (B : Nat) (w : World) (T : Nat → Tr) : Kept wo B w T 0 [] := fun _ _ _ i hi => absurd hi (Nat.not_lt_zero i)
theorem Kept.move {wo w w' : World} {B : Nat} {T : Nat → Tr} {n : Nat} {xs : List Value} (h : Kept wo B w T n xs) (hs : ∀ b cur e, B ≤ b → w.heap[b]? = some (.cells cur e (0, 0)) → e ≠ 43 → w'.heap[b]? = w.heap[b]?) : Kept wo B w' T n xs :=
  fun w'' h1 h2 => h w'' h1 (fun b cur e hb hc hne => (h2 b cur e hb ((hs b cur e hb hc hne).trans hc) hne).trans (hs b cur e hb hc hne))
theorem Kept.step {wo w w6 w' : World} {B : Nat} {T : Nat → Tr} {n : Nat} {xs : List Value} {c0 c1 c2 c3 c4 : Value} (h : Kept wo B w' T n xs) (hl : xs.length = n * 5) (hB : B ≤ w.heap.size)
    (ht : ∀ w'' : World, (∀ p : Addr, p.block < wo.heap.size → w''.cell? p = wo.cell? p) → (∀ b cur e, w.heap.size ≤ b → w6.heap[b]? = some (.cells cur e (0, 0)) → e ≠ 43 → w''.heap[b]? = w6.heap[b]?) → TC w'' c0 c1 c2 c3 c4 (T n))
    (hs : ∀ b cur e, B ≤ b → w6.heap[b]? = some (.cells cur e (0, 0)) → e ≠ 43 → w'.heap[b]? = w6.heap[b]?) : Kept wo B w' T (n + 1) (xs ++ [c0, c1, c2, c3, c4]) :=
  fun w'' h1 h2 => (h w'' h1 h2).step hl (ht w'' h1 (fun b cur e hb hc hne => (h2 b cur e (by omega) ((hs b cur e (by omega) hc hne).trans hc) hne).trans (hs b cur e (by omega) hc hne)))
theorem B2.put2 {w : World} {b : Nat} {c0 c1 : Value} (h : B2 w b c0 c1) (u0 u1 : Value) : B2 ((w.setCell ⟨b, 0, none⟩ u0).setCell ⟨b, 1, none⟩ u1) b u0 u1 :=
  ⟨by simp [go_sem, h.k0], by simp [go_sem, h.k1], fun o => by rw [World.frozen?_setCell, World.frozen?_setCell]; exact h.fz o⟩
theorem load56 {w : World} {b : Nat} {c0 c1 : Value} (h : B2 w b c0 c1) : (loadVar 56 ⟨b, 0, none⟩).run Try.prog w = .ok (.agg #[c0, c1]) w := by
  obtain ⟨h0, h1, _⟩ := h
  simp [go_sem, h0, h1]

theorem cellsOf5 {w : World} {g : Nat} {c0 c1 c2 c3 c4 : Value} (h0 : w.cell? ⟨g, 0, none⟩ = some c0) (h1 : w.cell? ⟨g, 1, none⟩ = some c1) (h2 : w.cell? ⟨g, 2, none⟩ = some c2) (h3 : w.cell? ⟨g, 3, none⟩ = some c3) (h4 : w.cell? ⟨g, 4, none⟩ = some c4) (j : Nat) (u : Value) (hj : [c0, c1, c2, c3, c4][j]? = some u) : w.cell? ⟨g, j, none⟩ = some u := by
  match j, hj with
  | 0, hj => simp at hj; rw [← hj]; exact h0
  | 1, hj => simp at hj; rw [← hj]; exact h1
  | 2, hj => simp at hj; rw [← hj]; exact h2
  | 3, hj => simp at hj; rw [← hj]; exact h3
  | 4, hj => simp at hj; rw [← hj]; exact h4
  | j + 5, hj => simp at hj

set_option maxRecDepth 100000 in
set_option maxHeartbeats 4000000 in
theorem given_any (v : Value) (F : Fl) (w : World) (hv : FA w v F) (hm : F.nT ≤ 1000000) (hS : ∀ i, i < F.nT → (F.T i).nS ≤ 1000000 ∧ (F.T i).nE ≤ 1000000) :
    Calls Try.prog 18 #[v] w fun e w' => ∃ r, e = .returned r ∧ FA w' r F ∧ Below w.heap.size w w' := by
  obtain ⟨ts, rfl, hts⟩ := hv
  obtain ⟨ao, c, rfl⟩ := hts.shape
  have HT := Lib.hid hts
  have HS := Lib.hid hS
  clear hts hS
  go_enter Try.func18, Try.ntmps18
  go_wp2_with fail
  obtain ⟨w1, hw⟩ : ∃ x, x = ((w.alloc (.cells #[.int .i64 F.sc, .slice ao F.nT c] 37)).alloc (.cells #[.int .i64 0, .slice none 0 0] 56)).alloc (.cells #[.int .i64 F.sc, .slice none 0 0] 56) := ⟨_, rfl⟩
  rw [← hw]
  have hb1 : Below w.heap.size w w1 := by rw [hw]; go_grown
  have xf : B2 w1 w.heap.size (.int .i64 F.sc) (.slice ao F.nT c) := by
    rw [hw]; exact ((B2.of_alloc w _ _ _ 37 rfl).far (below_box _ _) (by simp)).far (below_box _ _) (by simp; omega)
  have xr : B2 w1 (w.heap.size + 1) (.int .i64 0) (.slice none 0 0) := by
    rw [hw]; exact (B2.of_alloc _ _ _ _ 56 (by simp)).far (below_box _ _) (by simp)
  have xx : B2 w1 (w.heap.size + 1 + 1) (.int .i64 F.sc) (.slice none 0 0) := by
    rw [hw]; exact B2.of_alloc _ _ _ _ 56 (by simp)
  have hsz : w1.heap.size = w.heap.size + 1 + 1 + 1 := by rw [hw]; simp
  obtain ⟨blf, hblf⟩ : ∃ z, z = w.heap.size := ⟨_, rfl⟩
  obtain ⟨blr, hblr⟩ : ∃ z, z = w.heap.size + 1 := ⟨_, rfl⟩
  obtain ⟨blx, hblx⟩ : ∃ z, z = w.heap.size + 1 + 1 := ⟨_, rfl⟩
  obtain ⟨B, hB⟩ : ∃ z, z = w1.heap.size := ⟨_, rfl⟩
  have n0 : w.heap.size ≤ blf := by omega
  have n1 : blf < blr := by omega
  have n2 : blr < blx := by omega
  have n3 : blx < B := by omega
  have n4 : B ≤ w1.heap.size := by omega
  rw [← hblx] at xx ⊢
  rw [← hblr] at xr ⊢
  rw [← hblf] at xf ⊢
  have XF := Lib.hid xf
  have XR := Lib.hid xr
  have XX := Lib.hid xx
  have HB := Lib.hid hb1
  clear hw hb1 xf xr xx hsz hblf hblr hblx hB
  go_loopw [4] (fun i wr => ∃ (k : Nat) (v : Value) (xs : List Value), k ≤ F.nT ∧ i = .int .i64 (k : Int) ∧ B2 wr blx (.int .i64 F.sc) v ∧ B2 wr blf (.int .i64 F.sc) (.slice ao F.nT c) ∧ B2 wr blr (.int .i64 0) (.slice none 0 0) ∧ wr.ownsRow B 43 5 v k xs ∧ Kept w B wr F.T k xs ∧ Below w.heap.size w wr ∧ B ≤ wr.heap.size) (fun i _ => F.nT - (intOf i).toNat)
  case atStart => exact ⟨0, _, _, Nat.zero_le _, rfl, XX.out, XF.out, XR.out, owns_nil _ _ _ _, Kept.nil _ _ _ _, HB.out, n4⟩
  case round =>
    obtain ⟨k, v, xs, hk, rfl, xx, xf, xr, ho, hkp, hb, hsz⟩ := hrel
    obtain ⟨va, vm, vc, rfl⟩ := owns_shape ho
    have HO := Lib.hid ho
    have HK := Lib.hid hkp
    have HBW := Lib.hid hb
    have HXX := Lib.hid xx
    have HXF := Lib.hid xf
    have HXR := Lib.hid xr
    have f1 := xf.k1
    have x1 := xx.k1
    clear ho hkp hb xx xf xr
    by_cases hlt : k < F.nT
    · obtain ⟨b, o, a2, d2, a3, d3, a4, d4, rfl, t0, t1, t2, t3, t4, hta⟩ := HT.out.at hlt
      replace t0 := (HBW.out.cell (block_lt_of_cell t0)).trans t0
      replace t1 := (HBW.out.cell (block_lt_of_cell t1)).trans t1
      replace t2 := (HBW.out.cell (block_lt_of_cell t2)).trans t2
      replace t3 := (HBW.out.cell (block_lt_of_cell t3)).trans t3
      replace t4 := (HBW.out.cell (block_lt_of_cell t4)).trans t4
      have HTA := Lib.hid hta
      clear hta
      go_wp2_with fail
      refine Plan.wp_region_planz (fun w' => w'.cell? ⟨blx, 1, none⟩ = some (.slice va vm vc) ∧ w'.cell? ⟨blf, 1, none⟩ = some (.slice (some ⟨b, o, none⟩) F.nT c) ∧ w'.cell? ⟨b, o + k * 5, none⟩ = some (.string (F.T k).h) ∧ w'.cell? ⟨b, o + k * 5 + 1, none⟩ = some (.int .i64 (F.T k).sc) ∧ w'.cell? ⟨b, o + k * 5 + 2, none⟩ = some (.slice a2 (F.T k).nC d2) ∧ w'.cell? ⟨b, o + k * 5 + 3, none⟩ = some (.slice a3 (F.T k).nS d3) ∧ w'.cell? ⟨b, o + k * 5 + 4, none⟩ = some (.slice a4 (F.T k).nE d4)) 11 (([0, 1, 2, 3, 4, 5, 6].map (·, true)) ++ (([7, 8, 9].map (·, false)) ++ (([10].map (·, true)) ++ (([11].map (·, false)))))) (by kernel_rfl) (by kernel_rfl) (by kernel_rfl) ⟨x1, f1, t0, t1, t2, t3, t4⟩ ?_
      refine' Plan.plan_seg _ [0, 1, 2, 3, 4, 5, 6] (([7, 8, 9].map (·, false)) ++ (([10].map (·, true)) ++ (([11].map (·, false))))) (by kernel_rfl) (by kernel_rfl) rfl (by exact ⟨x1, f1, t0, t1, t2, t3, t4⟩) (fun wx hS => ?_) ?_
      rotate_left
      · obtain ⟨z0, z1, z2, z3, z4, z5, z6⟩ := hS
        go_light
        iterate 7 (apply Plan.seg_pick; rfl; intro K hK; go_wp)
        exact Plan.seg_nil
      refine Plan.plan_of_effect rfl (fun K hK => ?_)
      go_wp2_with fail
      refine (track_far _ (F.T k) w _ HTA.out HBW.out.drew (HS.out k hlt).1 (HS.out k hlt).2).mono ?_
      rintro e w5 ⟨c0, c1, c2, c3, c4, rfl, hb5, hkp⟩
      replace hb5 : Below wr.heap.size wr w5 := (Below.refl wr.heap.size wr).drew.trans hb5
      replace x1 := (hb5.cell (block_lt_of_cell x1)).trans x1
      replace f1 := (hb5.cell (block_lt_of_cell f1)).trans f1
      replace t0 := (hb5.cell (block_lt_of_cell t0)).trans t0
      replace t1 := (hb5.cell (block_lt_of_cell t1)).trans t1
      replace t2 := (hb5.cell (block_lt_of_cell t2)).trans t2
      replace t3 := (hb5.cell (block_lt_of_cell t3)).trans t3
      replace t4 := (hb5.cell (block_lt_of_cell t4)).trans t4
      have HK5 := Lib.hid hkp
      have HB5 := Lib.hid hb5
      clear hkp hb5
      go_wp2_with fail
      refine ⟨⟨x1, f1, t0, t1, t2, t3, t4⟩, ?_⟩
      refine Plan.plan_of_effect rfl (fun K hK => ?_)
      go_wp2_with fail
      obtain ⟨w6, hw6⟩ : ∃ x, x = w5.alloc (.cells #[c0, c1, c2, c3, c4] 43) := ⟨_, rfl⟩
      rw [← hw6]
      have hb56 : Below w5.heap.size w5 w6 := by rw [hw6]; exact below_box _ _
      have p0 : w6.cell? ⟨w5.heap.size, 0, none⟩ = some c0 := by rw [hw6]; simp [go_sem]
      have p1 : w6.cell? ⟨w5.heap.size, 1, none⟩ = some c1 := by rw [hw6]; simp [go_sem]
      have p2 : w6.cell? ⟨w5.heap.size, 2, none⟩ = some c2 := by rw [hw6]; simp [go_sem]
      have p3 : w6.cell? ⟨w5.heap.size, 3, none⟩ = some c3 := by rw [hw6]; simp [go_sem]
      have p4 : w6.cell? ⟨w5.heap.size, 4, none⟩ = some c4 := by rw [hw6]; simp [go_sem]
      have hs5 := HB5.out.size
      have hs6 := hb56.size
      replace x1 := (hb56.cell (block_lt_of_cell x1)).trans x1
      replace f1 := (hb56.cell (block_lt_of_cell f1)).trans f1
      replace t0 := (hb56.cell (block_lt_of_cell t0)).trans t0
      replace t1 := (hb56.cell (block_lt_of_cell t1)).trans t1
      replace t2 := (hb56.cell (block_lt_of_cell t2)).trans t2
      replace t3 := (hb56.cell (block_lt_of_cell t3)).trans t3
      replace t4 := (hb56.cell (block_lt_of_cell t4)).trans t4
      have hb6 : Below wr.heap.size wr w6 := HB5.out.trans (hb56.mono hs5)
      have HB6 := Lib.hid hb6
      have HB56 := Lib.hid hb56
      clear hw6 hb6 hb56
      refine ⟨⟨x1, f1, t0, t1, t2, t3, t4⟩, ?_⟩
      refine Plan.plan_of_effect rfl (fun K hK => ?_)
      have h1 : ∀ u ∈ [c0, c1, c2, c3, c4], u.oneCell' = true := by
        obtain ⟨e0, e1, e2, e3, e4⟩ := HK5.out w5 (fun p hp => (HB5.out.cell (by have := HBW.out.size; omega)).trans (HBW.out.cell hp)) (fun _ _ _ _ _ _ => rfl)
        obtain ⟨_, _, e2⟩ := e2.shape
        obtain ⟨_, _, e3⟩ := e3.shape
        obtain ⟨_, _, e4⟩ := e4.shape
        simp [e0, e1, e2, e3, e4, Value.oneCell']
      refine wpList_app2 w6 rfl (.tmp 16) (.tmp 23) 54 43 5 96 _ Try.underlying54 info43 rfl (by decide) (by decide) rfl B k w5.heap.size (.slice va vm vc) xs [c0, c1, c2, c3, c4] (by simp [go_sem]) (owns_below HO.out HB6.out) (by simp [go_sem]) rfl (cellsOf5 p0 p1 p2 p3 p4) h1 (by omega) (by omega) ?_
      intro v' w7 hv' hb7 hkeep
      obtain ⟨va', vm', vc', rfl⟩ := owns_shape hv'
      have lb := block_lt_of_cell (HXX.out.k1)
      have tb : b < w.heap.size := by
        obtain ⟨_, _, _, _, _, _, _, _, e, q0, _⟩ := HT.out.at hlt
        cases e; exact block_lt_of_cell q0
      have hs7 := hb7.size
      have xx7 := (HXX.out.far HB6.out lb).far hb7 (by omega)
      have xf7 := (HXF.out.far HB6.out (by omega)).far hb7 (by omega)
      have xr7 := (HXR.out.far HB6.out (by omega)).far hb7 (by omega)
      have hb67 := (HBW.out.trans (HB6.out.mono HBW.out.size)).trans (hb7.mono (show w.heap.size ≤ B by omega))
      replace x1 := (hb7.cell (p := ⟨blx, 1, none⟩) (by simp; omega)).trans x1
      replace f1 := (hb7.cell (p := ⟨blf, 1, none⟩) (by simp; omega)).trans f1
      replace t0 := (hb7.cell (p := ⟨b, o + k * 5, none⟩) (by simp; omega)).trans t0
      replace t1 := (hb7.cell (p := ⟨b, o + k * 5 + 1, none⟩) (by simp; omega)).trans t1
      replace t2 := (hb7.cell (p := ⟨b, o + k * 5 + 2, none⟩) (by simp; omega)).trans t2
      replace t3 := (hb7.cell (p := ⟨b, o + k * 5 + 3, none⟩) (by simp; omega)).trans t3
      replace t4 := (hb7.cell (p := ⟨b, o + k * 5 + 4, none⟩) (by simp; omega)).trans t4
      have HKE := Lib.hid hkeep
      have HV7 := Lib.hid (And.intro hv' (And.intro xx7 (And.intro xf7 (And.intro xr7 hb67))))
      have fz := xx7.fz
      clear hv' hb7 hkeep xx7 xf7 xr7 hb67 p0 p1 p2 p3 p4 h1
      go_wp2_with fail
      refine' Plan.plan_seg _ [10] (([11].map (·, false))) (by kernel_rfl) (by kernel_rfl) rfl (by exact ⟨x1, f1, t0, t1, t2, t3, t4⟩) (fun wx hS => ?_) ?_
      rotate_left
      · obtain ⟨z0, z1, z2, z3, z4, z5, z6⟩ := hS
        go_light
        iterate 1 (apply Plan.seg_pick; rfl; intro K hK; go_wp)
        exact Plan.seg_nil
      refine Plan.plan_of_last rfl (fun K hK => ?_)
      go_wp2_with fail
      refine Plan.plan_done ?_
      go_wp2_with fail
      go_roundw
      case rel =>
        have hs2 : ∀ b' cur e, B ≤ b' → w5.heap[b']? = some (.cells cur e (0, 0)) → e ≠ 43 → (w7.setCell ⟨blx, 1, none⟩ (.slice va' vm' vc')).heap[b']? = w5.heap[b']? := by
          intro b' cur e hb' hc hne
          have hlt5 := (Array.getElem?_eq_some_iff.1 hc).1
          have h6 := HB56.out.block b' hlt5
          rw [Below.heap_setCell _ _ _ _ (by simp; omega), HKE.out b' cur e (h6.trans hc) hne, h6]
        have hs1 : ∀ b' cur e, B ≤ b' → wr.heap[b']? = some (.cells cur e (0, 0)) → e ≠ 43 → (w7.setCell ⟨blx, 1, none⟩ (.slice va' vm' vc')).heap[b']? = wr.heap[b']? := by
          intro b' cur e hb' hc hne
          have h5 := HB5.out.block b' (Array.getElem?_eq_some_iff.1 hc).1
          rw [hs2 b' cur e hb' (h5.trans hc) hne, h5]
        refine ⟨k + 1, .slice va' vm' vc', _, by omega, by go_num, HV7.out.2.1.set1 _, HV7.out.2.2.1.other (by simp; omega) _, HV7.out.2.2.2.1.other (by simp; omega) _, owns_far HV7.out.1 (by simpa using n3) _, (HK.out.move hs1).step (by rw [HO.out.1]) hsz HK5.out hs2, HV7.out.2.2.2.2.setCell (by simp; omega) _, by rw [World.size_setCell]; omega⟩
      case measure => simp [intOf]; omega
    · obtain rfl : k = F.nT := by omega
      obtain ⟨x0, x1, xz⟩ := HXX.out
      obtain ⟨r0, r1, rz⟩ := HXR.out
      go_wp2_with fail
      have hb := (HBW.out.setCell (p := ⟨blr, 0, none⟩) (by simp; omega) (.int .i64 F.sc)).setCell (p := ⟨blr, 1, none⟩) (by simp; omega) (.slice va vm vc)
      refine bodyPost_ret (results_cell rfl _ _ _ rfl (load56 (HXR.out.put2 _ _))) rfl ?_
      refine ⟨_, rfl, ⟨_, rfl, TSA.of_row (owns_far (owns_far HO.out (by simp; omega) _) (by simp; omega) _) (HK.out _ (fun p hp => hb.cell hp) (fun b' cur e hb' hc hne => ?_))⟩, hb⟩
      rw [Below.heap_setCell _ _ _ _ (by simp; omega), Below.heap_setCell _ _ _ _ (by simp; omega)]
end Go.Proofs.Ytkhjkemllgjfmaa

/- Boxes as data; rows of boxes; the map from names to rows of boxes. -/
namespace Go.Proofs.Ytkhjkemllgjfmaa
open Go.RowKit
set_option linter.unusedVariables false
set_option linter.unusedSimpArgs false
/-- A box of a file: its name, where it begins, how long it is. -/
structure Bx where
  nm : ByteArray
  p : Nat
  sz : Nat
def bxC (b : Bx) : List Value := [.string b.nm, .int .i64 (b.p : Int), .int .i64 ((b.p : Int) + 8), .int .i64 ((b.p : Int) + (b.sz : Int))]
def bxs (l : List Bx) : List Value := l.flatMap bxC
theorem bxs_length (l : List Bx) : (bxs l).length = l.length * 4 := by
  induction l with
  | nil => rfl
  | cons b l ih => show (bxC b ++ bxs l).length = _; rw [List.length_append, ih, List.length_cons]; simp [bxC]; omega
theorem bxs_append (l m : List Bx) : bxs (l ++ m) = bxs l ++ bxs m := by simp [bxs]
theorem bxs_at {l : List Bx} {i : Nat} {b : Bx} (h : l[i]? = some b) {j : Nat} (hj : j < 4) : (bxs l)[i * 4 + j]? = (bxC b)[j]? := by
  induction l generalizing i with
  | nil => simp at h
  | cons d l ih =>
    show (bxC d ++ bxs l)[i * 4 + j]? = _
    cases i with
    | zero =>
      simp only [List.getElem?_cons_zero, Option.some.injEq] at h
      subst h
      rw [Nat.zero_mul, Nat.zero_add, List.getElem?_append_left (by simpa [bxC] using hj)]
    | succ i =>
      simp only [List.getElem?_cons_succ] at h
      have e : (bxC d).length = 4 := rfl
      rw [List.getElem?_append_right (by rw [e]; omega), e, show (i + 1) * 4 + j - 4 = i * 4 + j by omega]
      exact ih h
/-- The call's own row of the boxes l. -/
def RowB (w : World) (B : Nat) (v : Value) (l : List Bx) : Prop := w.ownsRow B 31 4 v l.length (bxs l)
theorem RowB.below {w w' : World} {B : Nat} {v : Value} {l : List Bx} (h : RowB w B v l) (hb : Below w.heap.size w w') : RowB w' B v l := owns_below h hb
theorem RowB.shape {w : World} {B : Nat} {v : Value} {l : List Bx} (h : RowB w B v l) : ∃ a c, v = .slice a l.length c := by
  rcases h.2 with ⟨rfl, h0⟩ | ⟨g, cap, cur, rfl, _⟩
  · rw [h0]; exact ⟨_, _, rfl⟩
  · exact ⟨_, _, rfl⟩
theorem RowB.nil (w : World) (B : Nat) : RowB w B (.slice none 0 0) [] := owns_nil _ _ _ _
theorem RowB.cells {w : World} {B : Nat} {v : Value} {l : List Bx} (h : RowB w B v l) {i : Nat} {b : Bx} (hi : l[i]? = some b) :
    ∃ g c, v = .slice (some ⟨g, 0, none⟩) l.length c ∧ l.length ≤ c ∧ w.cell? ⟨g, i * 4, none⟩ = some (.string b.nm) ∧ w.cell? ⟨g, i * 4 + 1, none⟩ = some (.int .i64 (b.p : Int)) ∧
      w.cell? ⟨g, i * 4 + 2, none⟩ = some (.int .i64 ((b.p : Int) + 8)) ∧ w.cell? ⟨g, i * 4 + 3, none⟩ = some (.int .i64 ((b.p : Int) + (b.sz : Int))) := by
  obtain ⟨g, c, e, hc, hx⟩ := owns_open h (by have := (List.getElem?_eq_some_iff.1 hi).1; omega)
  exact ⟨g, c, e, hc, hx _ _ ((bxs_at hi (j := 0) (by decide)).trans rfl), hx _ _ ((bxs_at hi (j := 1) (by decide)).trans rfl), hx _ _ ((bxs_at hi (j := 2) (by decide)).trans rfl), hx _ _ ((bxs_at hi (j := 3) (by decide)).trans rfl)⟩
/-- The boxes of a name. -/
def pick (nm : ByteArray) (l : List Bx) : List Bx := l.filter fun b => decide (b.nm = nm)
theorem pick_snoc (nm : ByteArray) (l : List Bx) (b : Bx) : pick nm (l ++ [b]) = if b.nm = nm then pick nm l ++ [b] else pick nm l := by
  unfold pick
  rw [List.filter_append]
  by_cases h : b.nm = nm
  · simp [h]
  · simp [h]
theorem pick_le (nm : ByteArray) (l : List Bx) : (pick nm l).length ≤ l.length := List.length_filter_le _ _
/-- Block mb is the map of the boxes l: at each name the boxes of this name, each name's in a row of its own. -/
def DirA (w : World) (B mb : Nat) (l : List Bx) : Prop :=
  ∃ es clock, w.heap[mb]? = some (.map es clock) ∧
    (∀ e ∈ es.toList, ∃ nm : ByteArray, e.key = .string nm ∧ nm.size ≤ maxLen ∧ pick nm l ≠ [] ∧ RowB w B e.val (pick nm l) ∧ e.val.ownBlock ≠ some mb) ∧
    (∀ nm : ByteArray, (∀ e ∈ es.toList, e.key ≠ .string nm) → pick nm l = []) ∧
    (∀ e ∈ es.toList, ∀ e' ∈ es.toList, e.key ≠ e'.key → e.val.ownBlock ≠ e'.val.ownBlock) ∧ es.size ≤ l.length ∧
    (∀ (i j : Nat) (e e' : MapEntry), es.toList[i]? = some e → es.toList[j]? = some e' → e.key = e'.key → i = j)
theorem DirA.lt {w : World} {B mb : Nat} {l : List Bx} (h : DirA w B mb l) : mb < w.heap.size := by
  obtain ⟨es, clock, hb, _⟩ := h
  exact (Array.getElem?_eq_some_iff.1 hb).1
theorem DirA.below {w w' : World} {B mb : Nat} {l : List Bx} (h : DirA w B mb l) (hb : Below w.heap.size w w') : DirA w' B mb l := by
  have hl := h.lt
  obtain ⟨es, clock, hm, H1, H2, H3, H4, H5⟩ := h
  refine ⟨es, clock, (hb.block mb hl).trans hm, fun e he => ?_, H2, H3, H4, H5⟩
  obtain ⟨nm, h1, h2, h3, h4, h5⟩ := H1 e he
  exact ⟨nm, h1, h2, h3, h4.below hb, h5⟩
theorem DirA.made (w : World) (B : Nat) : DirA (w.alloc (.map #[] 0)) B w.heap.size [] :=
  ⟨#[], 0, (MapKept.heap_alloc w _).1, fun e he => by simp at he, fun nm _ => rfl, fun e he => by simp at he, Nat.zero_le _, fun i j e e' hi => by simp at hi⟩
theorem law9 : WideMaps.KeyLaw Try.prog 9 := WideMaps.string_law Try.underlying9
theorem key9 {nm : ByteArray} (h : nm.size ≤ maxLen) : keyOf Try.prog 9 (.string nm) = some (.string nm.data.toList) := WideMaps.keyOf_string_mk Try.underlying9 h
theorem DirA.keys {w : World} {B : Nat} {l : List Bx} {mb : Nat} {es : Array MapEntry} (H1 : ∀ e ∈ es.toList, ∃ nm : ByteArray, e.key = .string nm ∧ nm.size ≤ maxLen ∧ pick nm l ≠ [] ∧ RowB w B e.val (pick nm l) ∧ e.val.ownBlock ≠ some mb) :
    ∀ e ∈ es.toList, ∃ q, keyOf Try.prog 9 e.key = some q := fun e he => by
  obtain ⟨nm, h1, h2, _⟩ := H1 e he
  exact ⟨_, by rw [h1]; exact key9 h2⟩
/-- The value at a name: it lies in the map, or there is none. -/
theorem DirA.look {w : World} {B mb : Nat} {l : List Bx} (h : DirA w B mb l) (nm : ByteArray) (hn : nm.size ≤ maxLen) :
    ∃ r, (∀ w' : World, w'.heap[mb]? = w.heap[mb]? → (Instr.lookup 94 (.map (some mb)) (.string nm) false).run Try.prog w' = .ok r w') ∧ RowB w B r (pick nm l) ∧ r.ownBlock ≠ some mb ∧
      ∀ es clock, w.heap[mb]? = some (.map es clock) → ∀ e ∈ es.toList, e.key ≠ .string nm → e.val.ownBlock ≠ r.ownBlock := by
  have hne : ∀ (l' : List Bx) (v : Value), RowB w B v l' → l' ≠ [] → ∃ k, v.ownBlock = some k := fun l' v hr hl => by
    rcases hr.2 with ⟨_, h0⟩ | ⟨g, cap, cur, rfl, _⟩
    · exact absurd (List.length_eq_zero_iff.1 h0) hl
    · exact ⟨g, rfl⟩
  obtain ⟨es, clock, hb, H1, H2, H3, H4, H5⟩ := h
  have hz : ∀ w' : World, (zeroValue 23).run Try.prog w' = .ok (.slice none 0 0) w' := fun w' => by kernel_rfl
  rcases law9.find w (key9 hn) es.toList (DirA.keys H1) with ⟨f1, f2⟩ | ⟨j, e0, f1, f2, f3⟩
  · refine ⟨.slice none 0 0, fun w' hw => ?_, by rw [H2 nm f2]; exact RowB.nil w B, by simp [Value.ownBlock], fun es' clock' hb' e he _ => by
      rw [hb] at hb'
      simp only [Option.some.injEq, Obj.map.injEq] at hb'
      obtain ⟨rfl, rfl⟩ := hb'
      obtain ⟨nm', _, _, h3, h4, _⟩ := H1 e he
      obtain ⟨k, hk⟩ := hne _ _ h4 h3
      rw [hk]
      simp [Value.ownBlock]⟩
    rcases law9.find w' (key9 hn) es.toList (DirA.keys H1) with ⟨g1, g2⟩ | ⟨j, e0, g1, g2, g3⟩
    · simp [Instr.lookup, run_underlying Try.underlying94, MapKept.run_getObj_map (hw.trans hb), law9.check w' _ (key9 hn), g1, hz, Result.andThen]
    · exact absurd g3 (f2 e0 (List.mem_of_getElem? g2))
  · obtain ⟨nm', h1, h2, h3, h4, h5⟩ := H1 e0 (List.mem_of_getElem? f2)
    have e : nm' = nm := by rw [h1] at f3; simpa using f3
    subst e
    refine ⟨e0.val, fun w' hw => ?_, h4, h5, fun es' clock' hb' e he hk => by
      rw [hb] at hb'
      simp only [Option.some.injEq, Obj.map.injEq] at hb'
      obtain ⟨rfl, rfl⟩ := hb'
      exact H3 e he e0 (List.mem_of_getElem? f2) (by rw [f3]; exact hk)⟩
    rcases law9.find w' (key9 hn) es.toList (DirA.keys H1) with ⟨g1, g2⟩ | ⟨j2, e2, g1, g2, g3⟩
    · exact absurd f3 (g2 e0 (List.mem_of_getElem? f2))
    · have hij := H5 j j2 e0 e2 f2 g2 (f3.trans g3.symm)
      subst hij
      have he : e0 = e2 := Option.some.inj (f2.symm.trans g2)
      subst he
      simp [Instr.lookup, run_underlying Try.underlying94, MapKept.run_getObj_map (hw.trans hb), law9.check w' _ (key9 hn), g1, Result.andThen]
theorem RowB.kept {w w' : World} {B : Nat} {v : Value} {l : List Bx} {row : Option Nat} (h : RowB w B v l) (hg : w.grownBy w' row) (hne : v.ownBlock ≠ row) : RowB w' B v l := World.ownsRow.kept h hg (.inr hne)
theorem RowB.own {w : World} {B : Nat} {v : Value} {l : List Bx} (h : RowB w B v l) (hl : l ≠ []) : ∃ k, v.ownBlock = some k ∧ B ≤ k ∧ k < w.heap.size := by
  rcases h.2 with ⟨_, h0⟩ | ⟨g, cap, cur, rfl, hB, hg, _⟩
  · exact absurd (List.length_eq_zero_iff.1 h0) hl
  · exact ⟨g, rfl, hB, (Array.getElem?_eq_some_iff.1 hg).1⟩
/-- A box more: its name's row has grown, and is stored at the name. -/
theorem DirA.put {w w1 : World} {B mb : Nat} {l : List Bx} (h : DirA w B mb l) (b : Bx) (hn : b.nm.size ≤ maxLen) (v v' : Value) (hv : v.ownBlock ≠ some mb)
    (hat : ∀ es clock, w.heap[mb]? = some (.map es clock) → ∀ e ∈ es.toList, e.key ≠ .string b.nm → e.val.ownBlock ≠ v.ownBlock)
    (hg : w.grownBy w1 v.ownBlock) (hr : RowB w1 B v' (pick b.nm l ++ [b])) (ho : v'.ownBlock = v.ownBlock ∨ ∃ k, v'.ownBlock = some k ∧ w.heap.size ≤ k) :
    ∃ w', (Instr.mapUpdate 94 (.map (some mb)) (.string b.nm) v').run Try.prog w1 = .ok () w' ∧ DirA w' B mb (l ++ [b]) ∧ w1.grownBy w' (some mb) := by
  have hlt := h.lt
  obtain ⟨es, clock, hb, H1, H2, H3, H4, H5⟩ := h
  have hat' := hat es clock hb
  have hb1 : w1.heap[mb]? = some (.map es clock) := (hg.block mb hlt (fun e => hv e.symm)).trans hb
  have hv' : v'.ownBlock ≠ some mb := by
    rcases ho with e | ⟨k, e, hk⟩
    · rw [e]; exact hv
    · rw [e]; intro h; cases h; omega
  have step : ∀ (o : Obj), w1.grownBy (ChangeMaps.setBlock w1 mb o) (some mb) := fun o =>
    ⟨rfl, rfl, rfl, by simp [ChangeMaps.setBlock], fun k hk hn => ChangeMaps.heap_setBlock_other hb1 _ (by simpa using hn)⟩
  have old : ∀ (o : Obj), ∀ e ∈ es.toList, e.key ≠ .string b.nm → (∃ nm : ByteArray, e.key = .string nm ∧ nm.size ≤ maxLen ∧ pick nm (l ++ [b]) ≠ [] ∧ RowB (ChangeMaps.setBlock w1 mb o) B e.val (pick nm (l ++ [b])) ∧ e.val.ownBlock ≠ some mb) ∧ v'.ownBlock ≠ e.val.ownBlock := fun o e he hk => by
    obtain ⟨nm, h1, h2, h3, h4, h5⟩ := H1 e he
    have hne : ¬ b.nm = nm := fun e' => hk (by rw [h1, e'])
    refine ⟨⟨nm, h1, h2, by rw [pick_snoc, if_neg hne]; exact h3, by rw [pick_snoc, if_neg hne]; exact (h4.kept hg (hat' e he hk)).kept (step o) h5, h5⟩, ?_⟩
    rcases ho with e' | ⟨k, e', hk'⟩
    · rw [e']; exact fun h => hat' e he hk h.symm
    · obtain ⟨q, hq, _, hq2⟩ := h4.own h3
      rw [e', hq]
      intro h; cases h; omega
  have hself : pick b.nm (l ++ [b]) = pick b.nm l ++ [b] := by rw [pick_snoc, if_pos rfl]
  rcases law9.find w1 (key9 hn) es.toList (DirA.keys H1) with ⟨f1, f2⟩ | ⟨j, e0, f1, f2, f3⟩
  · refine ⟨ChangeMaps.setBlock w1 mb (.map (es.push ⟨.string b.nm, v', clock⟩) (clock + 1)), ?_, ⟨_, _, ChangeMaps.heap_setBlock_same hb1 _, ?_, ?_, ?_, ?_, ?_⟩, step _⟩
    · simp [Instr.mapUpdate, run_underlying Try.underlying94, MapKept.run_getObj_map hb1, law9.check w1 false (key9 hn), f1, MapKept.run_setObj_map _ hb1, Result.andThen, ChangeMaps.setBlock]
    · intro e he
      simp only [Array.toList_push, List.mem_append, List.mem_singleton] at he
      rcases he with he | rfl
      · exact (old _ e he (f2 e he)).1
      · exact ⟨b.nm, rfl, hn, by rw [hself]; simp, by rw [hself]; exact hr.kept (step _) hv', hv'⟩
    · intro nm hne
      have h1 := H2 nm (fun e he => hne e (by simp [he]))
      have h2 : (Value.string b.nm) ≠ .string nm := hne ⟨.string b.nm, v', clock⟩ (by simp)
      rw [pick_snoc, if_neg (fun e => h2 (by rw [e])), h1]
    · intro e he e' he' hk
      simp only [Array.toList_push, List.mem_append, List.mem_singleton] at he he'
      rcases he with he | rfl <;> rcases he' with he' | rfl
      · exact H3 e he e' he' hk
      · exact fun h => (old (.map #[] 0) e he (f2 e he)).2 h.symm
      · exact (old (.map #[] 0) e' he' (f2 e' he')).2
      · exact absurd rfl hk
    · simp only [Array.size_push, List.length_append, List.length_singleton]; omega
    · intro i j' e e' hi hj hk
      simp only [Array.toList_push] at hi hj
      rw [List.getElem?_append] at hi hj
      split at hi <;> split at hj
      · exact H5 i j' e e' hi hj hk
      · rename_i a1 a2
        have := List.mem_of_getElem? hj
        simp only [List.mem_singleton] at this
        subst this
        exact absurd hk (f2 e (List.mem_of_getElem? hi))
      · rename_i a1 a2
        have := List.mem_of_getElem? hi
        simp only [List.mem_singleton] at this
        subst this
        exact absurd hk.symm (f2 e' (List.mem_of_getElem? hj))
      · have h1 := (List.getElem?_eq_some_iff.1 hi).1
        have h2 := (List.getElem?_eq_some_iff.1 hj).1
        simp only [List.length_singleton] at h1 h2
        omega
  · have hj : es[j]? = some e0 := by simpa using f2
    have hjl : j < es.toList.length := (List.getElem?_eq_some_iff.1 f2).1
    have hmod : (es.modify j (fun e' => { e' with key := .string b.nm, val := v' })).toList = es.toList.set j { e0 with key := .string b.nm, val := v' } := by
      rw [Array.toList_modify, ChangeMaps.modify_eq_set _ _ _ _ f2]
    have key : ∀ (i : Nat) (e : MapEntry), (es.toList.set j { e0 with key := .string b.nm, val := v' })[i]? = some e → (i = j ∧ e = { e0 with key := .string b.nm, val := v' }) ∨ (i ≠ j ∧ es.toList[i]? = some e ∧ e.key ≠ .string b.nm) := by
      intro i e hi
      by_cases hij : i = j
      · subst hij
        rw [List.getElem?_set_self hjl] at hi
        exact .inl ⟨rfl, (Option.some.inj hi).symm⟩
      · rw [List.getElem?_set_ne (Ne.symm hij)] at hi
        exact .inr ⟨hij, hi, fun hk => hij (H5 i j e e0 hi f2 (hk.trans f3.symm))⟩
    refine ⟨ChangeMaps.setBlock w1 mb (.map (es.modify j (fun e' => { e' with key := .string b.nm, val := v' })) clock), ?_, ⟨_, _, ChangeMaps.heap_setBlock_same hb1 _, ?_, ?_, ?_, ?_, ?_⟩, step _⟩
    · simp [Instr.mapUpdate, run_underlying Try.underlying94, MapKept.run_getObj_map hb1, law9.check w1 false (key9 hn), f1, hj, f3, law9.stays w1 (key9 hn), MapKept.run_setObj_map _ hb1, Result.andThen, ChangeMaps.setBlock]
    · intro e he
      rw [hmod] at he
      obtain ⟨i, hi⟩ := List.mem_iff_getElem?.1 he
      rcases key i e hi with ⟨_, rfl⟩ | ⟨_, hi', hk⟩
      · exact ⟨b.nm, rfl, hn, by rw [hself]; simp, by rw [hself]; exact hr.kept (step _) hv', hv'⟩
      · exact (old _ e (List.mem_of_getElem? hi') hk).1
    · intro nm hne
      by_cases hb2 : b.nm = nm
      · subst hb2
        exact absurd rfl (hne { e0 with key := .string b.nm, val := v' } (by rw [hmod]; exact List.mem_iff_getElem?.2 ⟨j, List.getElem?_set_self hjl⟩))
      · rw [pick_snoc, if_neg hb2]
        refine H2 nm (fun e he hk => ?_)
        obtain ⟨i, hi⟩ := List.mem_iff_getElem?.1 he
        by_cases hij : i = j
        · subst hij
          have : e = e0 := Option.some.inj (hi.symm.trans f2)
          rw [this, f3] at hk
          exact hb2 (by simpa using hk)
        · exact hne e (by rw [hmod]; exact List.mem_iff_getElem?.2 ⟨i, by rw [List.getElem?_set_ne (Ne.symm hij)]; exact hi⟩) hk
    · intro e he e' he' hk
      rw [hmod] at he he'
      obtain ⟨i, hi⟩ := List.mem_iff_getElem?.1 he
      obtain ⟨i', hi'⟩ := List.mem_iff_getElem?.1 he'
      rcases key i e hi with ⟨_, rfl⟩ | ⟨_, h1, k1⟩ <;> rcases key i' e' hi' with ⟨_, rfl⟩ | ⟨_, h2, k2⟩
      · exact absurd rfl hk
      · exact (old (.map #[] 0) e' (List.mem_of_getElem? h2) k2).2
      · exact fun h => (old (.map #[] 0) e (List.mem_of_getElem? h1) k1).2 h.symm
      · exact H3 e (List.mem_of_getElem? h1) e' (List.mem_of_getElem? h2) hk
    · simp only [Array.size_modify, List.length_append, List.length_singleton]; omega
    · intro i i' e e' hi hi' hk
      rw [hmod] at hi hi'
      rcases key i e hi with ⟨q1, rfl⟩ | ⟨q1, h1, k1⟩ <;> rcases key i' e' hi' with ⟨q2, rfl⟩ | ⟨q2, h2, k2⟩
      · omega
      · exact absurd hk.symm k2
      · exact absurd hk k1
      · exact H5 i i' e e' h1 h2 hk
end Go.Proofs.Ytkhjkemllgjfmaa

/- The contract of isomedia.Boxes. -/
namespace Go.Proofs.Ytkhjkemllgjfmaa
open Go.RowKit
set_option linter.unusedVariables false

theorem idle28 (p q : Addr) (w : World) : CallsD Try.prog 28 #[.pointer (some p), .pointer (some q)] .returning w fun e u' w' => e = .returned (.tuple #[]) ∧ u' = .returning ∧ w' = w := by
  refine callsD_of_wpS Try.func28 rfl fun c₀ cs hu => ?_
  apply wpS_seq
  apply wpS_region
  simp [wpOpsS, go_sem, recoverD, hu, Try.ntmps28, Exit.thenS]
  refine wpS_cond (t := false) (by simp [Act.eval, Array.replicate]) ?_
  simp only [Bool.false_eq_true, if_false]
  refine wpS_of_wp (wp_skip ?_)
  cases c₀
  simp_all [bodyPostS, results, Try.results28]

/-- One box appended to a row of the call's own. -/
theorem wpList_box (w : World) {ops : Array Oper} {rest : List Oper} {o : Oper} {a : Act} {Q : Exit → Act → World → Prop} (hgd : o.guard = none) (s x : Operand) (t E : TypeId) (ht : Try.prog.underlying t = some (.slice E))
    (hE : (Try.prog.info? E).map (fun i => (i.zero, i.size, i.bytes)) = some (some (.agg #[.string { data := #[] }, .int .i64 0, .int .i64 0, .int .i64 0]), 4, 40))
    (ho : o.op = .call { callee := .builtin .append, args := #[s, x], argTypes := #[t, t] }) (B k g : Nat) (v : Value) (xs : List Value) (hs : a.eval s = v) (hown : w.ownsRow B E 4 v k xs)
    (hx : a.eval x = .slice (some ⟨g, 0, none⟩) 1 1) (c0 : ByteArray) (c1 c2 c3 : Int) (h0 : w.cell? ⟨g, 0, none⟩ = some (.string c0)) (h1 : w.cell? ⟨g, 1, none⟩ = some (.int .i64 c1)) (h2 : w.cell? ⟨g, 2, none⟩ = some (.int .i64 c2)) (h3 : w.cell? ⟨g, 3, none⟩ = some (.int .i64 c3))
    (hk : k ≤ 100000000) (hB : B ≤ w.heap.size)
    (h : ∀ v' w', w'.ownsRow B E 4 v' (k + 1) (xs ++ [.string c0, .int .i64 c1, .int .i64 c2, .int .i64 c3]) → Below B w w' → wpList Try.prog ops Q rest (a.put o.dst v') w') : wpList Try.prog ops Q (o :: rest) a w := by
  obtain ⟨i0, hi, hz0, hz1, hz2⟩ := info_parts hE
  refine wpList_append_own _ hgd s x t ho B E i0 _ 4 40 ht hi hz0 hz1 hz2 rfl (by decide) v k xs hs hown ⟨g, 0, none⟩ 1 1 [.string c0, .int .i64 c1, .int .i64 c2, .int .i64 c3] hx rfl (fun j u hj => ?_) (fun u hu => ?_) (by unfold maxLen; omega) (by omega) hB (fun v' w' hown' hg hnil => ?_)
  · rw [Addr.add_lit, Nat.zero_add]
    match j, hj with
    | 0, hj => simp at hj; rw [← hj]; exact h0
    | 1, hj => simp at hj; rw [← hj]; exact h1
    | 2, hj => simp at hj; rw [← hj]; exact h2
    | 3, hj => simp at hj; rw [← hj]; exact h3
    | j + 4, hj => simp at hj
  · simp only [List.mem_cons, List.not_mem_nil, or_false] at hu
    rcases hu with rfl | rfl | rfl | rfl <;> rfl
  · refine h v' w' hown' ((Below.refl _ _).grown hg hB (fun k' h' => ?_))
    rcases hown.2 with ⟨rfl, _⟩ | ⟨g', cap, cur, rfl, hg', _⟩
    · cases h'
    · cases h'; exact hg'

set_option maxRecDepth 100000 in
set_option maxHeartbeats 1000000 in
theorem boxes_arg (v : Value) (n : Nat) (f : Nat → Int) (fr to : Int) (w : World) (hv : BA w v n f) (hn : n ≤ 100000000) (hbad : fr < 0 ∨ to < fr ∨ (n : Int) < to) :
    Calls Try.prog 10 #[v, .int .i64 fr, .int .i64 to] w (BoxesPost 31 w f n fr to) := by
  have hmf : ∀ (fn : Fn) (first cap : Array Value) (w : World), (Instr.makeFunc fn first cap).run Try.prog w = .ok (.func fn first cap) w := fun _ _ _ _ => rfl
  have HP := Lib.hid (fun (w' : World) (hb : Below w.heap.size w w') => (show BoxesPost 31 w f n fr to (.returned (.tuple #[.slice none 0 0, .int .i64 1])) w' from ⟨_, _, rfl, hb, by rw [if_pos hbad]; exact ⟨rfl, rfl⟩⟩))
  obtain ⟨ao, c, rfl, hc, _⟩ := hv
  have B0 : ∀ o1 o2, Below w.heap.size w ((w.alloc o1).alloc o2) := fun _ _ => by go_grown
  by_cases h1 : fr < 0
  · clear hbad
    go_enter_defers Try.func10, Try.ntmps10
    go_wp2_with fail
    refine leaves_cons (f := 28) (args := #[.pointer (some ⟨w.heap.size, 0, none⟩), .pointer (some ⟨w.heap.size + 1, 0, none⟩)]) (by simp) (by simp [go_sem]) ?_
    refine (idle28 _ _ _).mono ?_
    rintro e u' w'' ⟨rfl, rfl, rfl⟩
    simp [Leaves, settle, results, Try.results10, go_sem]
    exact HP.out _ (by go_grown)
  by_cases h2 : to < fr
  · clear hbad
    have h1' : 0 ≤ fr := by omega
    go_enter_defers Try.func10, Try.ntmps10
    go_wp2_with fail
    refine leaves_cons (f := 28) (args := #[.pointer (some ⟨w.heap.size, 0, none⟩), .pointer (some ⟨w.heap.size + 1, 0, none⟩)]) (by simp) (by simp [go_sem]) ?_
    refine (idle28 _ _ _).mono ?_
    rintro e u' w'' ⟨rfl, rfl, rfl⟩
    simp [Leaves, settle, results, Try.results10, go_sem]
    exact HP.out _ (by go_grown)
  have h3 : (n : Int) < to := by omega
  have h1' : 0 ≤ fr := by omega
  have h2' : fr ≤ to := by omega
  clear hbad h1 h2
  go_enter_defers Try.func10, Try.ntmps10
  go_wp2_with fail
  refine leaves_cons (f := 28) (args := #[.pointer (some ⟨w.heap.size, 0, none⟩), .pointer (some ⟨w.heap.size + 1, 0, none⟩)]) (by simp) (by simp [go_sem]) ?_
  refine (idle28 _ _ _).mono ?_
  rintro e u' w'' ⟨rfl, rfl, rfl⟩
  simp [Leaves, settle, results, Try.results10, go_sem]
  exact HP.out _ (by go_grown)

set_option maxRecDepth 100000 in
set_option maxHeartbeats 4000000 in
theorem boxes_ok (b o n c : Nat) (f : Nat → Int) (fr to : Nat) (w : World) (hn : n ≤ 100000000) (hc : n ≤ c) (h : ∀ i, i < n → w.cell? ⟨b, o + i, none⟩ = some (.int .u8 (f i))) (hb : ∀ i, i < n → 0 ≤ f i ∧ f i < 256) (h1 : fr ≤ to) (h2 : to ≤ n) :
    Calls Try.prog 10 #[.slice (some ⟨b, o, none⟩) n c, .int .i64 (fr : Int), .int .i64 (to : Int)] w (BoxesPost 31 w f n fr to) := by
  have hmf : ∀ (fn : Fn) (first cap : Array Value) (w : World), (Instr.makeFunc fn first cap).run Try.prog w = .ok (.func fn first cap) w := fun _ _ _ _ => rfl
  have HP := Lib.hid (fun (w' : World) (v : Value) (k : Nat) (hb : Below w.heap.size w w') (hw : Walked f fr to k) (hg : ¬ goOn f to (pos f fr k)) (hc : codeAt f to (pos f fr k) ≠ 0 → v = .slice none 0 0) (ho : codeAt f to (pos f fr k) = 0 → w'.ownsRow w.heap.size 31 4 v k (rowsV f fr k)) =>
    (show BoxesPost 31 w f n fr to (.returned (.tuple #[v, .int .i64 (codeAt f to (pos f fr k))])) w' from ⟨_, _, rfl, hb, by rw [if_neg (by omega)]; exact ⟨k, hw, hg, rfl, hc, ho⟩⟩))
  have HC := Lib.hid (And.intro h hb)
  clear h hb
  have h1' : (fr : Int) ≤ (to : Int) := by omega
  have h2' : (to : Int) ≤ (n : Int) := by omega
  have k1 : decide ((fr : Int) < 0) = false := by simp
  have k2 : decide (to < fr) = false := by simp; omega
  have k3 : decide (n < to) = false := by simp; omega
  go_enter_defers Try.func10, Try.ntmps10
  go_wp2_with fail
  obtain ⟨w1, hw⟩ : ∃ x, x = (w.alloc (.cells #[.slice none 0 0] 23)).alloc (.cells #[.int .i64 0] 24) := ⟨_, rfl⟩
  rw [← hw]
  have hE : Below w.heap.size w w1 := by rw [hw]; go_grown
  have CL := Lib.hid (show C1 w1 w.heap.size (.slice none 0 0) by rw [hw]; exact ⟨by simp [go_sem], by simp [go_sem]⟩)
  have CE := Lib.hid (show C1 w1 (w.heap.size + 1) (.int .i64 0) by rw [hw]; exact ⟨by simp [go_sem], by simp [go_sem]⟩)
  have HB := Lib.hid hE
  obtain ⟨bl, hbl⟩ : ∃ z, z = w.heap.size := ⟨_, rfl⟩
  obtain ⟨be, hbe⟩ : ∃ z, z = w.heap.size + 1 := ⟨_, rfl⟩
  have n0 : w.heap.size ≤ bl := by omega
  have n1 : bl < be := by omega
  have n2 : be < w1.heap.size := by have := CE.out.lt; omega
  obtain ⟨B, hBB⟩ : ∃ z, z = w1.heap.size := ⟨_, rfl⟩
  have n3 : be < B := by omega
  rw [← hbe] at CE ⊢
  rw [← hbl] at CL ⊢
  have n4 : w.heap.size ≤ B := by omega
  have n5 : B ≤ w1.heap.size := by omega
  clear hw hE hbl hbe hBB
  go_loopw [1] (fun i wr => ∃ (k : Nat) (v : Value), Walked f fr to k ∧ i = .int .i64 ((pos f fr k : Nat) : Int) ∧ C1 wr bl v ∧ C1 wr be (.int .i64 0) ∧ wr.ownsRow B 31 4 v k (rowsV f fr k) ∧ Below w.heap.size w wr ∧ B ≤ wr.heap.size) (fun i _ => to - (intOf i).toNat)
  case atStart => exact ⟨0, _, fun j hj => absurd hj (Nat.not_lt_zero j), rfl, CL.out, CE.out, owns_nil _ _ _ _, HB.out, n5⟩
  case round =>
    obtain ⟨k, v, hwk, rfl, xl, xe, ho, hbw, hsz⟩ := hrel
    obtain ⟨va, vm, vc, rfl⟩ := owns_shape ho
    have hle := hwk.le h1
    obtain ⟨q, hq⟩ : ∃ q, pos f fr k = q := ⟨_, rfl⟩
    rw [hq] at hle ⊢
    have hq1 : q ≤ to := hle.1
    have hkq : k ≤ 100000000 := by omega
    have HQ := Lib.hid hq
    have HW := Lib.hid hwk
    have HO := Lib.hid ho
    have HBW := Lib.hid hbw
    clear hq hle hwk ho hbw
    have hl0 := xl.k0
    have hlz := xl.fz
    have he0 := xe.k0
    have hez := xe.fz
    by_cases hlt : q < to
    · by_cases h8 : to < q + 8
      · have HR := Lib.hid (HP.out)
        have hlt8 : decide ((to : Int) - (q : Int) < 8) = true := by simp; omega
        go_wp2_with fail
        refine leaves_cons (f := 28) (args := #[.pointer (some ⟨bl, 0, none⟩), .pointer (some ⟨be, 0, none⟩)]) (by simp) (by simp [go_sem]) ?_
        refine (idle28 _ _ _).mono ?_
        rintro e u' w'' ⟨rfl, rfl, rfl⟩
        simp [Leaves, settle, results, Try.results10, go_sem, hl0, he0]
        have hcd : codeAt f to (pos f fr k) = 4 := by rw [HQ.out]; unfold codeAt; rw [if_neg (by omega), if_pos (by omega)]
        have hng : ¬ goOn f to (pos f fr k) := by rw [HQ.out]; unfold goOn; omega
        have key := fun W hW => HP.out W (.slice none 0 0) k hW HW.out hng (fun _ => rfl) (fun h => absurd (hcd.symm.trans h) (by decide))
        simp only [hcd] at key
        exact key _ (by have h := HBW.out; go_grown)
      · have hlt8 : decide ((to : Int) - (q : Int) < 8) = false := by simp; omega
        have hge8 : ¬ ((to : Int) - (q : Int) < 8) := by omega
        have ha : q + 4 ≤ n := by omega
        have hcells := fun i (hi : i < n) => (HBW.out.cell (p := ⟨b, o + i, none⟩) (block_lt_of_cell (HC.out.1 i hi))).trans (HC.out.1 i hi)
        have HCC := Lib.hid hcells
        clear hcells
        go_wp2_with fail
        refine (number_any b o n c q f _ hn HCC.out HC.out.2 ha).mono ?_
        rintro e w5 ⟨rfl, rfl⟩
        obtain ⟨z, hz⟩ : ∃ z, numI f q = z := ⟨_, rfl⟩
        rw [hz]
        have HZ := Lib.hid hz
        clear hz
        by_cases hz8 : z < 8
        · go_wp2_with fail
          refine leaves_cons (f := 28) (args := #[.pointer (some ⟨bl, 0, none⟩), .pointer (some ⟨be, 0, none⟩)]) (by simp) (by simp [go_sem]) ?_
          refine (idle28 _ _ _).mono ?_
          rintro e u' w'' ⟨rfl, rfl, rfl⟩
          simp [Leaves, settle, results, Try.results10, go_sem, hl0, he0]
          have hcd : codeAt f to (pos f fr k) = 3 := by rw [HQ.out]; unfold codeAt; rw [HZ.out, if_neg (by omega), if_neg (by omega), if_pos (by omega)]
          have hng : ¬ goOn f to (pos f fr k) := by rw [HQ.out]; unfold goOn; rw [HZ.out]; omega
          have key := fun W hW => HP.out W (.slice none 0 0) k hW HW.out hng (fun _ => rfl) (fun h => absurd (hcd.symm.trans h) (by decide))
          simp only [hcd] at key
          exact key _ (by have h := HBW.out; go_grown)
        · by_cases hzl : (to : Int) - (q : Int) < z
          · have hz8' : 8 ≤ z := by omega
            clear hz8
            go_wp2_with fail
            refine leaves_cons (f := 28) (args := #[.pointer (some ⟨bl, 0, none⟩), .pointer (some ⟨be, 0, none⟩)]) (by simp) (by simp [go_sem]) ?_
            refine (idle28 _ _ _).mono ?_
            rintro e u' w'' ⟨rfl, rfl, rfl⟩
            simp [Leaves, settle, results, Try.results10, go_sem, hl0, he0]
            have hcd : codeAt f to (pos f fr k) = 4 := by rw [HQ.out]; unfold codeAt; rw [HZ.out, if_neg (by omega), if_neg (by omega), if_neg (by omega)]
            have hng : ¬ goOn f to (pos f fr k) := by rw [HQ.out]; unfold goOn; rw [HZ.out]; omega
            have key := fun W hW => HP.out W (.slice none 0 0) k hW HW.out hng (fun _ => rfl) (fun h => absurd (hcd.symm.trans h) (by decide))
            simp only [hcd] at key
            exact key _ (by have h := HBW.out; go_grown)
          · have hz8' : 8 ≤ z := by omega
            have hzl' : z ≤ (to : Int) - (q : Int) := by omega
            clear hz8 hzl
            go_upto_region 14 with fail
            have hcc : ∀ w' : World, Below w.heap.size w w' → (convert 22 9 (.slice (some ⟨b, o + (q + 4), none⟩) 4 (c - (q + 4)))).run Try.prog w' = .ok (.string (strOfNums [f (q + 4), f (q + 4 + 1), f (q + 4 + 2), f (q + 4 + 3)])) w' := by
              intro w' hb'
              refine run_convert_bytes_arg w' 22 5 Try.underlying22 Try.underlying5 b (o + (q + 4)) 4 _ _ rfl (fun i hi => ?_) 9 Try.underlying9
              have hx := HC.out.1 (q + 4 + i) (by omega)
              have hy := (hb'.cell (block_lt_of_cell hx)).trans hx
              rcases (show i = 0 ∨ i = 1 ∨ i = 2 ∨ i = 3 by omega) with rfl | rfl | rfl | rfl <;> simpa [Nat.add_assoc] using hy
            have HCV := Lib.hid hcc
            clear hcc
            refine Plan.wp_region_planz (fun w' => Below w.heap.size w w' ∧ w'.cell? ⟨bl, 0, none⟩ = some (.slice va vm vc)) 15 (([0, 1, 2, 3, 4, 5, 6, 7, 8, 9, 10, 11, 12].map (·, true)) ++ (([13, 14, 15].map (·, false)))) (by kernel_rfl) (by kernel_rfl) (by kernel_rfl) ⟨HBW.out.drew.drew, hl0⟩ ?_
            refine' Plan.plan_seg _ [0, 1, 2, 3, 4, 5, 6, 7, 8, 9, 10, 11, 12] (([13, 14, 15].map (·, false))) (by kernel_rfl) (by kernel_rfl) rfl (by exact ⟨HBW.out.drew.drew, hl0⟩) (fun wx hS => ?_) ?_
            rotate_left
            · obtain ⟨x0, x1⟩ := hS
              have hcv := HCV.out wx x0
              clear x0
              go_light
              iterate 13 (apply Plan.seg_pick; rfl; intro K hK; go_wp)
              exact Plan.seg_nil
            have hdr : Below wr.heap.size wr (wr.alloc (.cells #[.string (strOfNums [f (q + 4), f (q + 4 + 1), f (q + 4 + 2), f (q + 4 + 3)]), .int .i64 (q : Int), .int .i64 ((q : Int) + 8), .int .i64 ((q : Int) + z)] 31)).drew.drew := (below_box _ _).drew.drew
            refine Plan.plan_of_effect rfl (fun K hK => ?_)
            go_wp2_with fail
            obtain ⟨wz, hwz⟩ : ∃ x, x = (wr.alloc (.cells #[.string (strOfNums [f (q + 4), f (q + 4 + 1), f (q + 4 + 2), f (q + 4 + 3)]), .int .i64 (q : Int), .int .i64 ((q : Int) + 8), .int .i64 ((q : Int) + z)] 31)).drew.drew := ⟨_, rfl⟩
            rw [← hwz] at hdr ⊢
            have z0 : wz.cell? ⟨wr.heap.size, 0, none⟩ = some (.string (strOfNums [f (q + 4), f (q + 4 + 1), f (q + 4 + 2), f (q + 4 + 3)])) := by rw [hwz]; simp [go_sem]
            have z1 : wz.cell? ⟨wr.heap.size, 1, none⟩ = some (.int .i64 (q : Int)) := by rw [hwz]; simp [go_sem]
            have z2 : wz.cell? ⟨wr.heap.size, 2, none⟩ = some (.int .i64 ((q : Int) + 8)) := by rw [hwz]; simp [go_sem]
            have z3 : wz.cell? ⟨wr.heap.size, 3, none⟩ = some (.int .i64 ((q : Int) + z)) := by rw [hwz]; simp [go_sem]
            have xl1 := xl.below hdr
            have xe1 := xe.below hdr
            have ho1 := owns_below HO.out hdr
            have hb1 := HBW.out.trans (hdr.mono HBW.out.size)
            have hs1 : B ≤ wz.heap.size := by have := hdr.size; omega
            have HZ4 := Lib.hid (And.intro z0 (And.intro z1 (And.intro z2 z3)))
            have HZW := Lib.hid (And.intro xl1 (And.intro xe1 (And.intro ho1 (And.intro hb1 hs1))))
            clear hwz z0 z1 z2 z3 hdr hl0 hlz he0 hez xl1 xe1 ho1 hb1 hs1
            refine ⟨⟨HZW.out.2.2.2.1, HZW.out.1.k0⟩, ?_⟩
            refine Plan.plan_of_effect rfl (fun K hK => ?_)
            refine wpList_box wz rfl (.tmp 43) (.tmp 56) 23 31 Try.underlying23 info31 rfl B k wr.heap.size (.slice va vm vc) _ (by simp [go_sem]) HZW.out.2.2.1 (by simp [go_sem]) _ _ _ _ HZ4.out.1 HZ4.out.2.1 HZ4.out.2.2.1 HZ4.out.2.2.2 hkq HZW.out.2.2.2.2 ?_
            intro v' w6 hv' hb6
            obtain ⟨va', vm', vc', rfl⟩ := owns_shape hv'
            have xl6 : C1 w6 bl (.slice va vm vc) := ⟨(hb6.cell (by simp; omega)).trans HZW.out.1.k0, (hb6.frozen (by simp; omega)).trans HZW.out.1.fz⟩
            have xe6 : C1 w6 be (.int .i64 0) := ⟨(hb6.cell (by simp; omega)).trans HZW.out.2.1.k0, (hb6.frozen (by simp; omega)).trans HZW.out.2.1.fz⟩
            have hb6' := HZW.out.2.2.2.1.trans (hb6.mono n4)
            have hs6 : B ≤ w6.heap.size := by have := hb6.size; have := HZW.out.2.2.2.2; omega
            have HV6 := Lib.hid (And.intro hv' (And.intro xe6 (And.intro hb6' hs6)))
            clear hv' hb6 xe6 HZW HZ4 hb6' hs6
            have hl6 := xl6.k0
            have hz6 := xl6.fz
            go_wp2_with fail
            refine ⟨⟨HV6.out.2.2.1, hl6⟩, ?_⟩
            refine Plan.plan_of_last rfl (fun K hK => ?_)
            go_wp2_with fail
            refine Plan.plan_done ?_
            go_wp2_with fail
            go_roundw
            case rel =>
              have hg : goOn f to (pos f fr k) := by rw [HQ.out]; exact ⟨by omega, by rw [HZ.out]; exact hz8', by rw [HZ.out]; exact hzl'⟩
              have hpz : ((pos f fr (k + 1) : Nat) : Int) = (q : Int) + z := by simp only [pos]; rw [HQ.out, HZ.out]; omega
              refine ⟨k + 1, .slice va' vm' vc', HW.out.step hg, by rw [hpz], ?_, ?_, ?_, ?_, ?_⟩
              · exact ⟨by simp [go_sem, hl6], by rw [World.frozen?_setCell]; exact hz6⟩
              · exact ⟨by rw [World.cell?_setCell_far _ _ _ _ (by simp; omega)]; exact HV6.out.2.1.k0, by rw [World.frozen?_setCell]; exact HV6.out.2.1.fz⟩
              · have e : rowsV f fr (k + 1) = rowsV f fr k ++ [.string (strOfNums [f (q + 4), f (q + 4 + 1), f (q + 4 + 2), f (q + 4 + 3)]), .int .i64 (q : Int), .int .i64 ((q : Int) + 8), .int .i64 ((q : Int) + z)] := by
                  simp only [rowsV, boxV]; rw [HQ.out, HZ.out]
                rw [e]
                exact owns_far HV6.out.1 (by simp; omega) _
              · exact HV6.out.2.2.1.setCell (by simpa using n0) _
              · rw [World.size_setCell]; exact HV6.out.2.2.2
            case measure => simp [intOf]; omega
    · have hge : to ≤ q := by omega
      go_wp2_with fail
      refine leaves_cons (f := 28) (args := #[.pointer (some ⟨bl, 0, none⟩), .pointer (some ⟨be, 0, none⟩)]) (by simp) (by simp [go_sem]) ?_
      refine (idle28 _ _ _).mono ?_
      rintro e u' w'' ⟨rfl, rfl, rfl⟩
      simp [Leaves, settle, results, Try.results10, go_sem, hl0, he0]
      have hcd : codeAt f to (pos f fr k) = 0 := by rw [HQ.out]; unfold codeAt; rw [if_pos (by omega)]
      have hng : ¬ goOn f to (pos f fr k) := by rw [HQ.out]; unfold goOn; omega
      have key := fun W hW hO => HP.out W (.slice va vm vc) k hW HW.out hng (fun h => absurd hcd h) (fun _ => hO)
      simp only [hcd] at key
      exact key _ (by have h := HBW.out; go_grown) (owns_mono (owns_far (owns_far HO.out (by simp; omega) _) (by simp; omega) _) n4)

end Go.Proofs.Ytkhjkemllgjfmaa

/- The contract of cutroomref18.Boxes; both at any slice. -/
namespace Go.Proofs.Ytkhjkemllgjfmaa
open Go.RowKit
set_option linter.unusedVariables false

set_option maxRecDepth 100000 in
set_option maxHeartbeats 1000000 in
theorem boxes_zero (ao : Option Addr) (c : Nat) (f : Nat → Int) (w : World) :
    Calls Try.prog 10 #[.slice ao 0 c, .int .i64 0, .int .i64 0] w (BoxesPost 31 w f 0 0 0) := by
  have hmf : ∀ (fn : Fn) (first cap : Array Value) (w : World), (Instr.makeFunc fn first cap).run Try.prog w = .ok (.func fn first cap) w := fun _ _ _ _ => rfl
  have HP := Lib.hid (fun (w' : World) (hb : Below w.heap.size w w') => (show BoxesPost 31 w f 0 0 0 (.returned (.tuple #[.slice none 0 0, .int .i64 0])) w' from ⟨_, _, rfl, hb, by rw [if_neg (by omega)]; exact ⟨0, fun j hj => absurd hj (Nat.not_lt_zero j), fun h => absurd h.1 (by simp), rfl, fun _ => rfl, fun _ => owns_nil _ _ _ _⟩⟩))
  go_enter_defers Try.func10, Try.ntmps10
  go_wp2_with fail
  refine wp_loop_rounds 1 ?_
  rw [rounds_succ]
  go_wp2_with fail
  refine leaves_cons (f := 28) (args := #[.pointer (some ⟨w.heap.size, 0, none⟩), .pointer (some ⟨w.heap.size + 1, 0, none⟩)]) (by simp) (by simp [go_sem]) ?_
  refine (idle28 _ _ _).mono ?_
  rintro e u' w'' ⟨rfl, rfl, rfl⟩
  simp [Leaves, settle, results, Try.results10, go_sem]
  exact HP.out _ (by go_grown)

theorem boxes_any (v : Value) (n : Nat) (f : Nat → Int) (fr to : Int) (w : World) (hv : BA w v n f) (hn : n ≤ 100000000) : Calls Try.prog 10 #[v, .int .i64 fr, .int .i64 to] w (BoxesPost 31 w f n fr to) := by
  by_cases hbad : fr < 0 ∨ to < fr ∨ (n : Int) < to
  · exact boxes_arg v n f fr to w hv hn hbad
  · obtain ⟨a, rfl⟩ := Int.eq_ofNat_of_zero_le (show 0 ≤ fr by omega)
    obtain ⟨t, rfl⟩ := Int.eq_ofNat_of_zero_le (show 0 ≤ to by omega)
    rcases Nat.eq_zero_or_pos n with rfl | h0
    · obtain ⟨ao, c, rfl, _, _⟩ := hv
      obtain rfl : a = 0 := by omega
      obtain rfl : t = 0 := by omega
      exact boxes_zero ao c f w
    · obtain ⟨b, o, c, rfl, hc, h1, h2⟩ := hv.open h0
      exact boxes_ok b o n c f a t w hn hc h1 h2 (by omega) (by omega)

set_option maxRecDepth 100000 in
set_option maxHeartbeats 1000000 in
theorem rboxes_arg (v : Value) (n : Nat) (f : Nat → Int) (fr to : Int) (w : World) (hv : BA w v n f) (hn : n ≤ 100000000) (hbad : fr < 0 ∨ to < fr ∨ (n : Int) < to) :
    Calls Try.prog 11 #[v, .int .i64 fr, .int .i64 to] w (BoxesPost 32 w f n fr to) := by
  have HP := Lib.hid (fun (w' : World) (hb : Below w.heap.size w w') => (show BoxesPost 32 w f n fr to (.returned (.tuple #[.slice none 0 0, .int .i64 1])) w' from ⟨_, _, rfl, hb, by rw [if_pos hbad]; exact ⟨rfl, rfl⟩⟩))
  obtain ⟨ao, c, rfl, hc, _⟩ := hv
  by_cases h1 : fr < 0
  · clear hbad
    go_enter Try.func11, Try.ntmps11
    go_wp2_with fail
    go_ret2
    exact HP.out _ (Below.refl _ _)
  by_cases h2 : to < fr
  · clear hbad
    have h1' : 0 ≤ fr := by omega
    go_enter Try.func11, Try.ntmps11
    go_wp2_with fail
    go_ret2
    exact HP.out _ (Below.refl _ _)
  have h3 : (n : Int) < to := by omega
  have h1' : 0 ≤ fr := by omega
  have h2' : fr ≤ to := by omega
  clear hbad h1 h2
  go_enter Try.func11, Try.ntmps11
  go_wp2_with fail
  go_ret2
  exact HP.out _ (Below.refl _ _)

set_option maxRecDepth 100000 in
set_option maxHeartbeats 1000000 in
theorem rboxes_zero (ao : Option Addr) (c : Nat) (f : Nat → Int) (w : World) :
    Calls Try.prog 11 #[.slice ao 0 c, .int .i64 0, .int .i64 0] w (BoxesPost 32 w f 0 0 0) := by
  have HP := Lib.hid (fun (w' : World) (hb : Below w.heap.size w w') => (show BoxesPost 32 w f 0 0 0 (.returned (.tuple #[.slice none 0 0, .int .i64 0])) w' from ⟨_, _, rfl, hb, by rw [if_neg (by omega)]; exact ⟨0, fun j hj => absurd hj (Nat.not_lt_zero j), fun h => absurd h.1 (by simp), rfl, fun _ => rfl, fun _ => owns_nil _ _ _ _⟩⟩))
  go_enter Try.func11, Try.ntmps11
  go_wp2_with fail
  refine wp_loop_rounds 1 ?_
  rw [rounds_succ]
  go_wp2_with fail
  go_ret2
  exact HP.out _ (Below.refl _ _)

set_option maxRecDepth 100000 in
set_option maxHeartbeats 4000000 in
theorem rboxes_ok (b o n c : Nat) (f : Nat → Int) (fr to : Nat) (w : World) (hn : n ≤ 100000000) (hc : n ≤ c) (h : ∀ i, i < n → w.cell? ⟨b, o + i, none⟩ = some (.int .u8 (f i))) (hb : ∀ i, i < n → 0 ≤ f i ∧ f i < 256) (h1 : fr ≤ to) (h2 : to ≤ n) :
    Calls Try.prog 11 #[.slice (some ⟨b, o, none⟩) n c, .int .i64 (fr : Int), .int .i64 (to : Int)] w (BoxesPost 32 w f n fr to) := by
  have HP := Lib.hid (fun (w' : World) (v : Value) (k : Nat) (hb : Below w.heap.size w w') (hw : Walked f fr to k) (hg : ¬ goOn f to (pos f fr k)) (hc : codeAt f to (pos f fr k) ≠ 0 → v = .slice none 0 0) (ho : codeAt f to (pos f fr k) = 0 → w'.ownsRow w.heap.size 32 4 v k (rowsV f fr k)) =>
    (show BoxesPost 32 w f n fr to (.returned (.tuple #[v, .int .i64 (codeAt f to (pos f fr k))])) w' from ⟨_, _, rfl, hb, by rw [if_neg (by omega)]; exact ⟨k, hw, hg, rfl, hc, ho⟩⟩))
  have HC := Lib.hid (And.intro h hb)
  clear h hb
  have h1' : (fr : Int) ≤ (to : Int) := by omega
  have h2' : (to : Int) ≤ (n : Int) := by omega
  have k1 : decide ((fr : Int) < 0) = false := by simp
  have k2 : decide (to < fr) = false := by simp; omega
  have k3 : decide (n < to) = false := by simp; omega
  go_enter Try.func11, Try.ntmps11
  go_wp2_with fail
  go_loopw [9, 8] (fun i v wr => ∃ (k : Nat), Walked f fr to k ∧ i = .int .i64 ((pos f fr k : Nat) : Int) ∧ wr.ownsRow w.heap.size 32 4 v k (rowsV f fr k) ∧ Below w.heap.size w wr) (fun i _ _ => to - (intOf i).toNat)
  case atStart => exact ⟨0, fun j hj => absurd hj (Nat.not_lt_zero j), rfl, owns_nil _ _ _ _, Below.refl _ _⟩
  case round =>
    obtain ⟨k, hwk, rfl, ho, hbw⟩ := hrel
    obtain ⟨va, vm, vc, rfl⟩ := owns_shape ho
    have hle := hwk.le h1
    obtain ⟨q, hq⟩ : ∃ q, pos f fr k = q := ⟨_, rfl⟩
    rw [hq] at hle ⊢
    have hq1 : q ≤ to := hle.1
    have hkq : k ≤ 100000000 := by omega
    have HQ := Lib.hid hq
    have HW := Lib.hid hwk
    have HO := Lib.hid ho
    have HBW := Lib.hid hbw
    clear hq hle hwk ho hbw
    by_cases hlt : q < to
    · by_cases h8 : to < q + 8
      · have hlt8 : decide ((to : Int) - (q : Int) < 8) = true := by simp; omega
        go_wp2_with fail
        go_ret2
        have hcd : codeAt f to (pos f fr k) = 4 := by rw [HQ.out]; unfold codeAt; rw [if_neg (by omega), if_pos (by omega)]
        have hng : ¬ goOn f to (pos f fr k) := by rw [HQ.out]; unfold goOn; omega
        have key := fun W hW => HP.out W (.slice none 0 0) k hW HW.out hng (fun _ => rfl) (fun h => absurd (hcd.symm.trans h) (by decide))
        simp only [hcd] at key
        exact key _ (by have h := HBW.out; go_grown)
      · have hlt8 : decide ((to : Int) - (q : Int) < 8) = false := by simp; omega
        have hge8 : ¬ ((to : Int) - (q : Int) < 8) := by omega
        have ha : q + 4 ≤ n := by omega
        have hcells := fun i (hi : i < n) => (HBW.out.cell (p := ⟨b, o + i, none⟩) (block_lt_of_cell (HC.out.1 i hi))).trans (HC.out.1 i hi)
        have HCC := Lib.hid hcells
        clear hcells
        go_wp2_with fail
        refine (rnumber_any b o n c q f _ hn HCC.out HC.out.2 ha).mono ?_
        rintro e w5 ⟨rfl, rfl⟩
        obtain ⟨z, hz⟩ : ∃ z, numI f q = z := ⟨_, rfl⟩
        rw [hz]
        have HZ := Lib.hid hz
        clear hz
        by_cases hz8 : z < 8
        · go_wp2_with fail
          go_ret2
          have hcd : codeAt f to (pos f fr k) = 3 := by rw [HQ.out]; unfold codeAt; rw [HZ.out, if_neg (by omega), if_neg (by omega), if_pos (by omega)]
          have hng : ¬ goOn f to (pos f fr k) := by rw [HQ.out]; unfold goOn; rw [HZ.out]; omega
          have key := fun W hW => HP.out W (.slice none 0 0) k hW HW.out hng (fun _ => rfl) (fun h => absurd (hcd.symm.trans h) (by decide))
          simp only [hcd] at key
          exact key _ (by have h := HBW.out; go_grown)
        · by_cases hzl : (to : Int) - (q : Int) < z
          · have hz8' : 8 ≤ z := by omega
            clear hz8
            go_wp2_with fail
            go_ret2
            have hcd : codeAt f to (pos f fr k) = 4 := by rw [HQ.out]; unfold codeAt; rw [HZ.out, if_neg (by omega), if_neg (by omega), if_neg (by omega)]
            have hng : ¬ goOn f to (pos f fr k) := by rw [HQ.out]; unfold goOn; rw [HZ.out]; omega
            have key := fun W hW => HP.out W (.slice none 0 0) k hW HW.out hng (fun _ => rfl) (fun h => absurd (hcd.symm.trans h) (by decide))
            simp only [hcd] at key
            exact key _ (by have h := HBW.out; go_grown)
          · have hz8' : 8 ≤ z := by omega
            have hzl' : z ≤ (to : Int) - (q : Int) := by omega
            clear hz8 hzl
            have hcc : ∀ w' : World, Below w.heap.size w w' → (convert 22 9 (.slice (some ⟨b, o + (q + 4), none⟩) 4 (c - (q + 4)))).run Try.prog w' = .ok (.string (strOfNums [f (q + 4), f (q + 4 + 1), f (q + 4 + 2), f (q + 4 + 3)])) w' := by
              intro w' hb'
              refine run_convert_bytes_arg w' 22 5 Try.underlying22 Try.underlying5 b (o + (q + 4)) 4 _ _ rfl (fun i hi => ?_) 9 Try.underlying9
              have hx := HC.out.1 (q + 4 + i) (by omega)
              have hy := (hb'.cell (block_lt_of_cell hx)).trans hx
              rcases (show i = 0 ∨ i = 1 ∨ i = 2 ∨ i = 3 by omega) with rfl | rfl | rfl | rfl <;> simpa [Nat.add_assoc] using hy
            have hcv := hcc wr.drew HBW.out.drew
            have hcv2 := hcc wr HBW.out
            have hcv3 := hcc wr.drew.drew HBW.out.drew.drew
            clear hcc
            have hsz := HBW.out.size
            go_wp2_with (at_builtin; refine wpList_box _ rfl (.tmp 42) (.tmp 57) 27 32 Try.underlying27 info32 rfl w.heap.size k wr.heap.size (.slice va vm vc) _ rfl (owns_below HO.out (by exact (below_box _ _).drew)) rfl (strOfNums [f (q + 4), f (q + 4 + 1), f (q + 4 + 2), f (q + 4 + 3)]) (q : Int) ((q : Int) + 8) ((q : Int) + z) (by simp [go_sem]) (by simp [go_sem]) (by simp [go_sem]) (by simp [go_sem]) hkq (by simp; omega) ?_)
            intro v' w6 hv' hb6
            obtain ⟨va', vm', vc', rfl⟩ := owns_shape hv'
            have hb6' : Below w.heap.size w w6 := HBW.out.trans (((Below.refl _ _).alloc (by omega) _).drew.trans hb6)
            have HV6 := Lib.hid (And.intro hv' hb6')
            clear hv' hb6 hb6' hcv hcv2 hcv3
            go_wp2_with fail
            go_roundw
            case rel =>
              have hg : goOn f to (pos f fr k) := by rw [HQ.out]; exact ⟨by omega, by rw [HZ.out]; exact hz8', by rw [HZ.out]; exact hzl'⟩
              have hpz : ((pos f fr (k + 1) : Nat) : Int) = (q : Int) + z := by simp only [pos]; rw [HQ.out, HZ.out]; omega
              refine ⟨k + 1, HW.out.step hg, by rw [hpz], ?_, HV6.out.2⟩
              have e : rowsV f fr (k + 1) = rowsV f fr k ++ [.string (strOfNums [f (q + 4), f (q + 4 + 1), f (q + 4 + 2), f (q + 4 + 3)]), .int .i64 (q : Int), .int .i64 ((q : Int) + 8), .int .i64 ((q : Int) + z)] := by
                simp only [rowsV, boxV]; rw [HQ.out, HZ.out]
              rw [e]
              exact HV6.out.1
            case measure => simp [intOf]; omega
    · have hge : to ≤ q := by omega
      go_wp2_with fail
      go_ret2
      have hcd : codeAt f to (pos f fr k) = 0 := by rw [HQ.out]; unfold codeAt; rw [if_pos (by omega)]
      have hng : ¬ goOn f to (pos f fr k) := by rw [HQ.out]; unfold goOn; omega
      have key := fun W hW hO => HP.out W (.slice va vm vc) k hW HW.out hng (fun h => absurd hcd h) (fun _ => hO)
      simp only [hcd] at key
      exact key _ (by have h := HBW.out; go_grown) HO.out

theorem rboxes_any (v : Value) (n : Nat) (f : Nat → Int) (fr to : Int) (w : World) (hv : BA w v n f) (hn : n ≤ 100000000) : Calls Try.prog 11 #[v, .int .i64 fr, .int .i64 to] w (BoxesPost 32 w f n fr to) := by
  by_cases hbad : fr < 0 ∨ to < fr ∨ (n : Int) < to
  · exact rboxes_arg v n f fr to w hv hn hbad
  · obtain ⟨a, rfl⟩ := Int.eq_ofNat_of_zero_le (show 0 ≤ fr by omega)
    obtain ⟨t, rfl⟩ := Int.eq_ofNat_of_zero_le (show 0 ≤ to by omega)
    rcases Nat.eq_zero_or_pos n with rfl | h0
    · obtain ⟨ao, c, rfl, _, _⟩ := hv
      obtain rfl : a = 0 := by omega
      obtain rfl : t = 0 := by omega
      exact rboxes_zero ao c f w
    · obtain ⟨b, o, c, rfl, hc, h1, h2⟩ := hv.open h0
      exact rboxes_ok b o n c f a t w hn hc h1 h2 (by omega) (by omega)

end Go.Proofs.Ytkhjkemllgjfmaa
