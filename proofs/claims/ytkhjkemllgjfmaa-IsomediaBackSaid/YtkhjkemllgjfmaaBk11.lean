/- Texts of this claim joined: BY BZ YZ CA. -/
import Derived.Test.YtkhjkemllgjfmaaBk01
import Derived.Test.YtkhjkemllgjfmaaBk02
import Derived.Test.YtkhjkemllgjfmaaBk04
import Derived.Test.YtkhjkemllgjfmaaBk06
import Derived.Test.YtkhjkemllgjfmaaBk07
import Derived.Test.YtkhjkemllgjfmaaBk10
set_option linter.unusedVariables false
set_option linter.unusedSimpArgs false

/- The contract of the statements' told: the program's file as the reference has it. -/
namespace Go.Proofs.Ytkhjkemllgjfmaa
open Go.RowKit
set_option linter.unusedVariables false
set_option linter.unusedSimpArgs false
theorem info73 : (Try.prog.info? 73).map (fun i => (i.zero, i.size, i.bytes)) = some (some (.agg #[.slice none 0 0, .int .i64 0, .int .i64 0, .bool false]), 4, 48) := by kernel_rfl
theorem wpList_appG (w : World) {ops : Array Oper} {rest : List Oper} {o : Oper} {a : Act} {Q : Exit → Act → World → Prop} (hgd : o.guard = none) (s x : Operand) (t E : TypeId) (size bytes : Nat) (z : Value) (ht : Try.prog.underlying t = some (.slice E))
    (hE : (Try.prog.info? E).map (fun i => (i.zero, i.size, i.bytes)) = some (some z, size, bytes)) (hzs : z.cells.size = size) (hsz : 0 < size) (hby : bytes ≤ 1000)
    (ho : o.op = .call { callee := .builtin .append, args := #[s, x], argTypes := #[t, t] }) (B k g m : Nat) (v : Value) (xs news : List Value) (hs : a.eval s = v) (hown : w.ownsRow B E size v k xs)
    (hx : a.eval x = .slice (some ⟨g, 0, none⟩) 1 m) (hl : news.length = size) (hnews : ∀ j u, news[j]? = some u → w.cell? ⟨g, j, none⟩ = some u) (h1 : ∀ u ∈ news, u.oneCell' = true)
    (hk : k ≤ 100000000) (hB : B ≤ w.heap.size)
    (h : ∀ v' w', w'.ownsRow B E size v' (k + 1) (xs ++ news) → w.grownBy w' v.ownBlock → (v'.ownBlock = v.ownBlock ∨ v'.ownBlock = some w.heap.size) → (∃ ga m c, v' = .slice ga m c) → wpList Try.prog ops Q rest (a.put o.dst v') w') : wpList Try.prog ops Q (o :: rest) a w := by
  obtain ⟨i0, hi, hz0, hz1, hz2⟩ := info_parts hE
  have hb2 : (k + 1) * bytes ≤ (100000000 + 1) * 1000 := Nat.mul_le_mul (by omega) hby
  refine wpList_append_own_at w hgd s x t ho B E i0 z size bytes ht hi hz0 hz1 hz2 hzs hsz v k xs hs hown ⟨g, 0, none⟩ 1 m news hx (by omega) (fun j u hj => ?_) h1 (by unfold maxLen; omega) (by omega) hB ?_
  · rw [Addr.add_lit, Nat.zero_add]; exact hnews j u hj
  · intro v' w' q1 q2 _ q4
    refine h v' w' q1 q2 q4 ?_
    rcases q1.2 with ⟨rfl, _⟩ | ⟨g, cap, cur, rfl, _⟩
    · exact ⟨_, _, _, rfl⟩
    · exact ⟨_, _, _, rfl⟩
/-- A track's cells that say T for as long as the blocks from lo to hi, and the old ones, stay. -/
def KP (w0 w : World) (lo hi : Nat) (T : Tr) (c : List Value) : Prop := ∃ c0 c1 c2 c3 c4, c = [c0, c1, c2, c3, c4] ∧ (∀ u ∈ c, u.oneCell' = true) ∧
  ∀ w' : World, (∀ b, b < w0.heap.size → w'.heap[b]? = w0.heap[b]?) → (∀ b, lo ≤ b → b < hi → w'.heap[b]? = w.heap[b]?) → TC w' c0 c1 c2 c3 c4 T
theorem KP.move {w0 w w' : World} {lo hi : Nat} {T : Tr} {c : List Value} (h : KP w0 w lo hi T c) (hb : ∀ b, lo ≤ b → b < hi → w'.heap[b]? = w.heap[b]?) : KP w0 w' lo hi T c := by
  obtain ⟨c0, c1, c2, c3, c4, e, h1, H⟩ := h
  exact ⟨c0, c1, c2, c3, c4, e, h1, fun w'' k1 k2 => H w'' k1 (fun b a d => (k2 b a d).trans (hb b a d))⟩
structure TM (w0 w : World) (B n : Nat) (tv : Value) (T : Nat → Tr) (LO HI : Nat → Nat) (CS : Nat → List Value) : Prop where
  row : w.ownsRow B 48 5 tv n (rowsOf CS n)
  kp : ∀ k, k < n → KP w0 w (LO k) (HI k) (T k) (CS k)
  tl : ∀ k, k < n → B ≤ LO k ∧ HI k ≤ w.heap.size
  rb : ∀ r, tv.ownBlock = some r → ∀ k, k < n → r < LO k ∨ HI k ≤ r
theorem TM.nil (w0 w : World) (B : Nat) (T : Nat → Tr) (LO HI : Nat → Nat) (CS : Nat → List Value) : TM w0 w B 0 (.slice none 0 0) T LO HI CS :=
  ⟨owns_nil _ _ _ _, fun k hk => absurd hk (Nat.not_lt_zero k), fun k hk => absurd hk (Nat.not_lt_zero k), fun _ _ k hk => absurd hk (Nat.not_lt_zero k)⟩
theorem TM.below {w0 w w' : World} {B n : Nat} {tv : Value} {T : Nat → Tr} {LO HI : Nat → Nat} {CS : Nat → List Value} (h : TM w0 w B n tv T LO HI CS) (hb : Below w.heap.size w w') : TM w0 w' B n tv T LO HI CS :=
  ⟨owns_below h.row hb, fun k hk => (h.kp k hk).move (fun b _ hi => hb.block b (Nat.lt_of_lt_of_le hi (h.tl k hk).2)), fun k hk => ⟨(h.tl k hk).1, Nat.le_trans (h.tl k hk).2 hb.size⟩, h.rb⟩
theorem TM.far {w0 w : World} {B n : Nat} {tv : Value} {T : Nat → Tr} {LO HI : Nat → Nat} {CS : Nat → List Value} (h : TM w0 w B n tv T LO HI CS) {b o : Nat} (hb : b < B) (u : Value) : TM w0 (w.setCell ⟨b, o, none⟩ u) B n tv T LO HI CS :=
  ⟨owns_far h.row hb u, fun k hk => (h.kp k hk).move (fun b' h1 _ => Below.heap_setCell _ _ _ _ (by have := (h.tl k hk).1; simp; omega)), fun k hk => ⟨(h.tl k hk).1, by rw [World.size_setCell]; exact (h.tl k hk).2⟩, h.rb⟩
def updT {α : Type} (f : Nat → α) (n : Nat) (x : α) : Nat → α := fun k => if k = n then x else f k
theorem updT_here {α : Type} (f : Nat → α) (n : Nat) (x : α) : updT f n x n = x := by simp [updT]
theorem updT_far {α : Type} (f : Nat → α) {n k : Nat} (x : α) (h : k ≠ n) : updT f n x k = f k := by simp [updT, h]
theorem rowsOf_congr {f g : Nat → List Value} : ∀ n, (∀ k, k < n → f k = g k) → rowsOf f n = rowsOf g n
  | 0, _ => rfl
  | n + 1, h => by rw [rowsOf, rowsOf, rowsOf_congr n (fun k hk => h k (by omega)), h n (by omega)]
theorem TM.step {w0 w w1 w2 : World} {B n lo hi : Nat} {tv tv' : Value} {T : Nat → Tr} {LO HI : Nat → Nat} {CS : Nat → List Value} {c : List Value} (h : TM w0 w B n tv T LO HI CS) (hb : Below w.heap.size w w1)
    (hk : KP w0 w1 lo hi (T n) c) (hlo : w.heap.size ≤ lo) (hB : B ≤ w.heap.size) (hhi : hi ≤ w1.heap.size)
    (hg : w1.grownBy w2 tv.ownBlock) (hr : w2.ownsRow B 48 5 tv' (n + 1) (rowsOf CS n ++ c)) (ho : tv'.ownBlock = tv.ownBlock ∨ tv'.ownBlock = some w1.heap.size) :
    TM w0 w2 B (n + 1) tv' T (updT LO n lo) (updT HI n hi) (updT CS n c) := by
  have h1 := h.below hb
  have hrow := fun r (e : tv.ownBlock = some r) => (World.ownsRow.lt h.row r e).2
  refine ⟨?_, fun k hk' => ?_, fun k hk' => ?_, fun r hr' k hk' => ?_⟩
  · rw [rowsOf, updT_here, rowsOf_congr n (g := CS) (fun k hk => updT_far _ _ (by omega))]
    exact hr
  · by_cases e : k = n
    · subst e
      simp only [updT_here]
      exact hk.move (fun b a d => hg.block b (by omega) (fun e => by have := hrow b e.symm; omega))
    · rw [updT_far _ _ e, updT_far _ _ e, updT_far _ _ e]
      exact (h1.kp k (by omega)).move (fun b a d => hg.block b (by have := (h1.tl k (by omega)).2; omega) (fun e' => by have := h.rb b e'.symm k (by omega); omega))
  · by_cases e : k = n
    · subst e; simp only [updT_here]; exact ⟨Nat.le_trans hB hlo, Nat.le_trans hhi hg.size⟩
    · rw [updT_far _ _ e, updT_far _ _ e]; exact ⟨(h1.tl k (by omega)).1, Nat.le_trans (h1.tl k (by omega)).2 hg.size⟩
  · rcases ho with e' | e'
    · rw [e'] at hr'
      by_cases e : k = n
      · subst e; rw [updT_here, updT_here]; exact Or.inl (Nat.lt_of_lt_of_le (hrow r hr') hlo)
      · rw [updT_far _ _ e, updT_far _ _ e]; exact h.rb r hr' k (by omega)
    · rw [e'] at hr'
      cases hr'
      by_cases e : k = n
      · subst e; rw [updT_here, updT_here]; exact Or.inr hhi
      · rw [updT_far _ _ e, updT_far _ _ e]; exact Or.inr (h1.tl k (by omega)).2
theorem TM.tsa {w0 w : World} {B n : Nat} {tv : Value} {T : Nat → Tr} {LO HI : Nat → Nat} {CS : Nat → List Value} (h : TM w0 w B n tv T LO HI CS) (hb : Below w0.heap.size w0 w) : TSA w tv n T := by
  refine TSA.of_row h.row (fun i hi => ?_)
  obtain ⟨c0, c1, c2, c3, c4, e, _, H⟩ := h.kp i hi
  have hf : ∀ (cs : Nat → List Value), (∀ k, k < n → (cs k).length = 5) → ∀ m, m ≤ n → (rowsOf cs m).length = m * 5 ∧ ∀ k j, k < m → j < 5 → (rowsOf cs m)[k * 5 + j]? = (cs k)[j]? := by
    intro cs hc m
    induction m with
    | zero => intro _; exact ⟨rfl, fun k j hk => absurd hk (Nat.not_lt_zero k)⟩
    | succ m ih =>
      intro hm
      obtain ⟨h1, h2⟩ := ih (by omega)
      refine ⟨by rw [rowsOf, List.length_append, h1, hc m (by omega)]; omega, fun k j hk hj => ?_⟩
      rw [rowsOf]
      by_cases e : k = m
      · subst e; rw [List.getElem?_append_right (by omega), h1, show k * 5 + j - k * 5 = j by omega]
      · rw [List.getElem?_append_left (by omega)]; exact h2 k j (by omega) hj
  have h5 : ∀ k, k < n → (CS k).length = 5 := fun k hk => by obtain ⟨_, _, _, _, _, e, _⟩ := h.kp k hk; rw [e]; rfl
  have H5 := (hf CS h5 n (Nat.le_refl _)).2
  refine ⟨c0, c1, c2, c3, c4, ?_, ?_, ?_, ?_, ?_, H w (fun b hb' => hb.block b hb') (fun _ _ _ => rfl)⟩
  · rw [show i * 5 = i * 5 + 0 by omega, H5 i 0 hi (by decide), e]; rfl
  · rw [H5 i 1 hi (by decide), e]; rfl
  · rw [H5 i 2 hi (by decide), e]; rfl
  · rw [H5 i 3 hi (by decide), e]; rfl
  · rw [H5 i 4 hi (by decide), e]; rfl
/-- A track of rows of its own. -/
theorem KP.of {w0 w : World} {lo hi B C : Nat} {T : Tr} {X : Nat → Value} {c2 c3 c4 : Value} (h2 : BA w0 c2 T.nC T.C) (hX : ∀ i, i < T.nS → BA w0 (X i) (T.S i).n (T.S i).D) (h3 : w.ownsRow B 73 4 c3 T.nS (rowsOf (smV X T.S) T.nS)) (h4 : w.ownsRow C 61 2 c4 T.nE (rowsOf (edV T.E) T.nE))
    (hB : lo ≤ B) (hC : lo ≤ C) (k3 : ∀ r, c3.ownBlock = some r → r < hi) (k4 : ∀ r, c4.ownBlock = some r → r < hi) : KP w0 w lo hi T [.string T.h, .int .i64 T.sc, c2, c3, c4] := by
  obtain ⟨a2, d2, rfl⟩ := h2.shape
  obtain ⟨a3, m3, d3, rfl⟩ := owns_shape h3
  obtain ⟨a4, m4, d4, rfl⟩ := owns_shape h4
  refine ⟨_, _, _, _, _, rfl, by simp [Value.oneCell'], fun w' q1 q2 => ?_⟩
  have hag : ∀ p : Addr, p.block < w0.heap.size → w'.cell? p = w0.cell? p := fun p hp => World.cell?_of_block (q1 p.block hp)
  have hst : ∀ {E size n : Nat} {D : Nat} {v : Value} {xs : List Value}, w.ownsRow D E size v n xs → lo ≤ D → (∀ r, v.ownBlock = some r → r < hi) → w'.ownsRow D E size v n xs := fun {E size n D v xs} h hD hr => by
    refine ⟨h.1, ?_⟩
    rcases h.2 with h1 | ⟨g, cap, cur, h', h1, h2, h3⟩
    · exact .inl h1
    · exact .inr ⟨g, cap, cur, h', h1, by rw [q2 g (by omega) (hr g (by rw [h']; rfl))]; exact h2, h3⟩
  exact ⟨rfl, rfl, h2.ag hag, SA.of_row (hst h3 hB k3) (fun i hi => (hX i hi).ag hag), EA.of_row (hst h4 hC k4)⟩
theorem built_tr48 (h : ByteArray) (sc : Int) (c2 c3 c4 : Value) : Try.prog.builtSlice 48 1 [(0, .agg #[.string h, .int .i64 sc, c2, c3, c4])] = some #[.string h, .int .i64 sc, c2, c3, c4] := by kernel_rfl
theorem cells5k {w : World} {g : Nat} {c0 c1 c2 c3 c4 : Value} (h0 : w.cell? ⟨g, 0, none⟩ = some c0) (h1 : w.cell? ⟨g, 1, none⟩ = some c1) (h2 : w.cell? ⟨g, 2, none⟩ = some c2) (h3 : w.cell? ⟨g, 3, none⟩ = some c3) (h4 : w.cell? ⟨g, 4, none⟩ = some c4) (j : Nat) (u : Value) (hj : [c0, c1, c2, c3, c4][j]? = some u) : w.cell? ⟨g, j, none⟩ = some u := by
  match j, hj with
  | 0, hj => simp at hj; rw [← hj]; exact h0
  | 1, hj => simp at hj; rw [← hj]; exact h1
  | 2, hj => simp at hj; rw [← hj]; exact h2
  | 3, hj => simp at hj; rw [← hj]; exact h3
  | 4, hj => simp at hj; rw [← hj]; exact h4
  | j + 5, hj => simp at hj
theorem load37 {w : World} {b : Nat} {c0 c1 : Value} (h : B2 w b c0 c1) : (loadVar 37 ⟨b, 0, none⟩).run Try.prog w = .ok (.agg #[c0, c1]) w := by
  obtain ⟨h0, h1, _⟩ := h
  simp [go_sem, h0, h1]
set_option maxRecDepth 100000 in
set_option maxHeartbeats 8000000 in
theorem told_any (v : Value) (F : Fl) (w : World) (hv : FA w v F) (hm : F.nT ≤ 1000000) (hS : ∀ i, i < F.nT → (F.T i).nS ≤ 1000000 ∧ (F.T i).nE ≤ 1000000) :
    Calls Try.prog 27 #[v] w fun e w' => ∃ r, e = .returned r ∧ FA w' r F ∧ Below w.heap.size w w' := by
  obtain ⟨ts, rfl, hts⟩ := hv
  obtain ⟨ao, c, rfl⟩ := hts.shape
  have HT := Lib.hid hts
  have HS := Lib.hid hS
  clear hts hS
  go_enter Try.func27, Try.ntmps27
  go_wp2_with fail
  obtain ⟨w1, hw⟩ : ∃ x, x = ((w.alloc (.cells #[.int .i64 F.sc, .slice ao F.nT c] 56)).alloc (.cells #[.int .i64 0, .slice none 0 0] 37)).alloc (.cells #[.int .i64 F.sc, .slice none 0 0] 37) := ⟨_, rfl⟩
  rw [← hw]
  have hb1 : Below w.heap.size w w1 := by rw [hw]; go_grown
  have xf : B2 w1 w.heap.size (.int .i64 F.sc) (.slice ao F.nT c) := by
    rw [hw]; exact ((B2.of_alloc w _ _ _ 56 rfl).far (below_box _ _) (by simp)).far (below_box _ _) (by simp; omega)
  have xr : B2 w1 (w.heap.size + 1) (.int .i64 0) (.slice none 0 0) := by
    rw [hw]; exact (B2.of_alloc _ _ _ _ 37 (by simp)).far (below_box _ _) (by simp)
  have xx : B2 w1 (w.heap.size + 1 + 1) (.int .i64 F.sc) (.slice none 0 0) := by
    rw [hw]; exact B2.of_alloc _ _ _ _ 37 (by simp)
  have hsz : w1.heap.size = w.heap.size + 1 + 1 + 1 := by rw [hw]; simp
  obtain ⟨blf, hblf⟩ : ∃ z, z = w.heap.size := ⟨_, rfl⟩
  obtain ⟨blr, hblr⟩ : ∃ z, z = w.heap.size + 1 := ⟨_, rfl⟩
  obtain ⟨blx, hblx⟩ : ∃ z, z = w.heap.size + 1 + 1 := ⟨_, rfl⟩
  obtain ⟨B, hB⟩ : ∃ z, z = w1.heap.size := ⟨_, rfl⟩
  have n0 : w.heap.size ≤ blf := by omega
  have n1 : blf < blr := by omega
  have n2 : blr < blx := by omega
  have n3 : blx < B := by omega
  have n4 : B ≤ w1.heap.size := by omega
  rw [← hblx] at xx ⊢
  rw [← hblr] at xr ⊢
  rw [← hblf] at xf ⊢
  have XF := Lib.hid xf
  have XR := Lib.hid xr
  have XX := Lib.hid xx
  have HB := Lib.hid hb1
  have N3 := Lib.hid n3
  have N12 := Lib.hid (show w.heap.size ≤ blf ∧ blf < blr ∧ blr < blx from ⟨n0, n1, n2⟩)
  clear hw hb1 xf xr xx hsz hblf hblr hblx hB
  go_loopw [4] (fun i wr => ∃ (k : Nat) (v : Value) (LO HI : Nat → Nat) (CS : Nat → List Value), k ≤ F.nT ∧ i = .int .i64 (k : Int) ∧ B2 wr blx (.int .i64 F.sc) v ∧ B2 wr blf (.int .i64 F.sc) (.slice ao F.nT c) ∧ B2 wr blr (.int .i64 0) (.slice none 0 0) ∧ TM w wr B k v F.T LO HI CS ∧ Below w.heap.size w wr ∧ B ≤ wr.heap.size) (fun i _ => F.nT - (intOf i).toNat)
  case atStart => exact ⟨0, _, fun _ => 0, fun _ => 0, fun _ => [], Nat.zero_le _, rfl, XX.out, XF.out, XR.out, TM.nil _ _ _ _ _ _ _, HB.out, n4⟩
  case round =>
    obtain ⟨k, v, LO, HI, CS, hk, rfl, xx, xf, xr, htm, hb, hsz⟩ := hrel
    obtain ⟨va, vm, vc, rfl⟩ := owns_shape htm.row
    have HTM := Lib.hid htm
    have HBW := Lib.hid hb
    have HXX := Lib.hid xx
    have HXF := Lib.hid xf
    have HXR := Lib.hid xr
    have f1 := xf.k1
    clear htm hb xx xf xr
    by_cases hlt : k < F.nT
    · obtain ⟨b, o, a2, d2, a3, d3, a4, d4, rfl, t0, t1, t2, t3, t4, hta⟩ := HT.out.at hlt
      replace t0 := (HBW.out.cell (block_lt_of_cell t0)).trans t0
      replace t1 := (HBW.out.cell (block_lt_of_cell t1)).trans t1
      replace t2 := (HBW.out.cell (block_lt_of_cell t2)).trans t2
      replace t3 := (HBW.out.cell (block_lt_of_cell t3)).trans t3
      replace t4 := (HBW.out.cell (block_lt_of_cell t4)).trans t4
      obtain ⟨c0', c1', c2', c3', c4', e, hc⟩ := hta
      simp only [Value.agg.injEq, Array.mk.injEq, List.cons.injEq, and_true] at e
      obtain ⟨rfl, rfl, rfl, rfl, rfl⟩ := e
      obtain ⟨X, hX⟩ := hc.k3.pick
      have HX := Lib.hid hX
      have HC2 := Lib.hid hc.k2
      have HE4 := Lib.hid hc.k4
      obtain ⟨hnS, hnE⟩ := HS.out k hlt
      clear hc hX
      obtain ⟨T, hT⟩ : ∃ T, T = F.T k := ⟨_, rfl⟩
      rw [← hT] at t0 t1 t2 t3 t4 HX HC2 HE4 hnS hnE
      have HTT := Lib.hid hT
      clear hT
      go_upto_region 7 with fail
      obtain ⟨w2, hw2⟩ : ∃ y, y = ((wr.alloc (.cells #[.string T.h, .int .i64 T.sc, .slice a2 T.nC d2, .slice a3 T.nS d3, .slice a4 T.nE d4] 43)).alloc (.cells #[.string T.h, .int .i64 T.sc, .slice a2 T.nC d2, .slice none 0 0, .slice none 0 0] 48)) := ⟨_, rfl⟩
      rw [← hw2]
      have hb2 : Below wr.heap.size wr w2 := by rw [hw2]; exact (below_box _ _).trans ((below_box _ _).mono (by simp))
      have x5 : BX w2 wr.heap.size (.string T.h) (.int .i64 T.sc) (.slice a2 T.nC d2) (.slice a3 T.nS d3) (.slice a4 T.nE d4) := by
        rw [hw2]; exact (BX.of_alloc wr _ _ _ _ _ _ 43 rfl).far (below_box _ _) (by simp)
      have x6 : BX w2 (wr.heap.size + 1) (.string T.h) (.int .i64 T.sc) (.slice a2 T.nC d2) (.slice none 0 0) (.slice none 0 0) := by
        rw [hw2]; exact BX.of_alloc _ _ _ _ _ _ _ 48 (by simp)
      have hsz2 : w2.heap.size = wr.heap.size + 1 + 1 := by rw [hw2]; simp
      obtain ⟨b5, hb5⟩ : ∃ z, z = wr.heap.size := ⟨_, rfl⟩
      obtain ⟨b6, hb6⟩ : ∃ z, z = wr.heap.size + 1 := ⟨_, rfl⟩
      obtain ⟨C, hC⟩ : ∃ z, z = w2.heap.size := ⟨_, rfl⟩
      have m1 : wr.heap.size ≤ b5 := by omega
      have m2 : b5 < b6 := by omega
      have m3 : b6 < C := by omega
      have m4 : C ≤ w2.heap.size := by omega
      have m0 : w.heap.size ≤ wr.heap.size := HBW.out.size
      rw [← hb6] at x6 ⊢
      rw [← hb5] at x5 ⊢
      have X5 := Lib.hid x5
      have X6 := Lib.hid x6
      have HB2 := Lib.hid hb2
      have M1 := Lib.hid m1
      have M2 := Lib.hid m2
      have M3 := Lib.hid m3
      have M0 := Lib.hid m0
      have MB := Lib.hid hsz
      clear hw2 hb2 x5 x6 hsz2 hb5 hb6 hC t0 t1 t2 t3 t4 f1
      have n0' := n0
      clear m0 m1 hsz n0 n1 n2 n3
      go_upto_region 8 with fail
      go_loopw [7] (fun ii wq => ∃ (i : Nat) (v : Value), i ≤ T.nS ∧ ii = .int .i64 (i : Int) ∧ BX wq b6 (.string T.h) (.int .i64 T.sc) (.slice a2 T.nC d2) v (.slice none 0 0) ∧ wq.ownsRow C 73 4 v i (rowsOf (smV X T.S) i) ∧ Below b6 w2 wq ∧ C ≤ wq.heap.size) (fun ii _ => T.nS - (intOf ii).toNat)
      case atStart => exact ⟨0, _, Nat.zero_le _, rfl, X6.out, owns_nil _ _ _ _, Below.refl _ _, m4⟩
      case round =>
        obtain ⟨i, v, hi, rfl, xx, ho, hb, hsz⟩ := hrel
        obtain ⟨sa, sm, sc, rfl⟩ := owns_shape ho
        have HO := Lib.hid ho
        have HBQ := Lib.hid hb
        have HX6 := Lib.hid xx
        have HX5 := Lib.hid (X5.out.far hb m2)
        have HBX := Lib.hid ((HBW.out.trans (HB2.out.mono HBW.out.size)).trans (hb.mono (by have := M0.out; have := M1.out; omega)))
        have a53 := HX5.out.k3
        clear ho hb xx
        by_cases hlti : i < T.nS
        · obtain ⟨b', o', c', e, h0, h1, h2, h3, hx⟩ := HX.out i hlti
          simp only [Value.slice.injEq, true_and] at e
          obtain ⟨rfl, rfl⟩ := e
          obtain ⟨ax, dx, ex⟩ := hx.shape
          rw [ex] at h0
          have EX := Lib.hid ex
          replace h0 := (HBX.out.cell (block_lt_of_cell h0)).trans h0
          replace h1 := (HBX.out.cell (block_lt_of_cell h1)).trans h1
          replace h2 := (HBX.out.cell (block_lt_of_cell h2)).trans h2
          replace h3 := (HBX.out.cell (block_lt_of_cell h3)).trans h3
          have x3 := HX6.out.k3
          have xl := HX6.out.lt
          have fz := HX6.out.fz
          clear hx ex
          go_wp2_with (at_builtin; refine wpList_app _ rfl (.tmp 45) (.tmp 55) 45 73 4 48 _ Try.underlying45 info73 rfl (by decide) (by decide) rfl C i _ (.slice sa sm sc) _ [.slice ax (T.S i).n dx, .int .i64 (T.S i).dur, .int .i64 (T.S i).shift, .bool (T.S i).sync] rfl (owns_below HO.out (by exact (below_box _ _).trans ((below_box _ _).mono (by simp)))) rfl rfl (cells4 (by simp [go_sem]) (by simp [go_sem]) (by simp [go_sem]) (by simp [go_sem])) (by simp [Value.oneCell']) (by omega) (by simp; omega) ?_)
          intro v' w6 hv' hb6
          have hv6 : Below C wr w6 := (((Below.refl C wr).alloc hsz _).alloc (by simp; omega) _).trans hb6
          obtain ⟨va', vm', vc', rfl⟩ := owns_shape hv'
          have xx6 := HX6.out.far hv6 m3
          have HV6 := Lib.hid (And.intro hv' (And.intro xx6 (And.intro (HBQ.out.trans (hv6.mono (Nat.le_of_lt m3))) (show C ≤ w6.heap.size by have := hv6.size; omega))))
          have x36 := xx6.k3
          have fz6 := xx6.fz
          clear hv' hb6 hv6 xx6 x3 xl fz h0 h1 h2 h3
          go_wp2_with fail
          go_roundw
          case rel =>
            refine ⟨i + 1, .slice va' vm' vc', by omega, by go_num, HV6.out.2.1.set3 _, ?_, HV6.out.2.2.1.setCell (by simp) _, by rw [World.size_setCell]; exact HV6.out.2.2.2⟩
            have e : rowsOf (smV X T.S) (i + 1) = rowsOf (smV X T.S) i ++ [.slice ax (T.S i).n dx, .int .i64 (T.S i).dur, .int .i64 (T.S i).shift, .bool (T.S i).sync] := by
              simp only [rowsOf, smV]; rw [EX.out]
            rw [e]
            exact owns_far HV6.out.1 (by simpa using m3) _
          case measure => simp [intOf]; omega
        · obtain rfl : i = T.nS := by omega
          go_upto_region 13 with fail
          clear a53
          obtain ⟨w3, hw3⟩ : ∃ x, x = wr := ⟨_, rfl⟩
          rw [← hw3] at HO HBQ HX6 HX5 HBX hsz ⊢
          obtain ⟨sa', sm', sc', es⟩ : ∃ a m c, Value.slice sa sm sc = .slice a m c := ⟨_, _, _, rfl⟩
          have SG := Lib.hid (owns_in HO.out)
          have HO3 := Lib.hid HO.out
          have HX63 := Lib.hid HX6.out
          rw [es] at SG HO3 HX63
          have SZ := Lib.hid (show C ≤ w3.heap.size from hsz)
          clear hw3 es HO HX6
          go_loopw [9] (fun jj wx => ∃ (j : Nat) (v : Value), j ≤ T.nE ∧ jj = .int .i64 (j : Int) ∧ BX wx b6 (.string T.h) (.int .i64 T.sc) (.slice a2 T.nC d2) (.slice sa' sm' sc') v ∧ wx.ownsRow w3.heap.size 61 2 v j (rowsOf (edV T.E) j) ∧ wx.ownsRow C 73 4 (.slice sa' sm' sc') T.nS (rowsOf (smV X T.S) T.nS) ∧ Below b6 w2 wx ∧ w3.heap.size ≤ wx.heap.size) (fun jj _ => T.nE - (intOf jj).toNat)
          case atStart => exact ⟨0, _, Nat.zero_le _, rfl, HX63.out, owns_nil _ _ _ _, HO3.out, HBQ.out, Nat.le_refl _⟩
          case round =>
            obtain ⟨j, v, hj, rfl, xx, ho, hos, hb, hs2⟩ := hrel
            obtain ⟨va', vm', vc', rfl⟩ := owns_shape ho
            have KO := Lib.hid ho
            have KS := Lib.hid hos
            have KB := Lib.hid hb
            have KX := Lib.hid xx
            have K5 := Lib.hid (X5.out.far hb m2)
            have KBW := Lib.hid ((HBW.out.trans (HB2.out.mono HBW.out.size)).trans (hb.mono (by have := M0.out; have := M1.out; omega)))
            have a54 := K5.out.k4
            have x64 := xx.k4
            clear ho hos hb xx
            by_cases hltj : j < T.nE
            · obtain ⟨ao', c', e, hcc', H⟩ := HE4.out
              simp only [Value.slice.injEq, true_and] at e
              obtain ⟨rfl, rfl⟩ := e
              obtain ⟨b', o', rfl, h0, h1⟩ := H j hltj
              have hbs := block_lt_of_cell h0
              replace h0 := (KBW.out.cell (block_lt_of_cell h0)).trans h0
              replace h1 := (KBW.out.cell (block_lt_of_cell h1)).trans h1
              have HLT := Lib.hid (show b' < w.heap.size from hbs)
              clear H hbs
              go_wp2_with fail
              refine Plan.wp_region_planz (fun w' => w'.cell? ⟨b6, 4, none⟩ = some (.slice va' vm' vc') ∧ w'.cell? ⟨b5, 4, none⟩ = some (.slice (some ⟨b', o', none⟩) T.nE d4) ∧ w'.cell? ⟨b', o' + j * 2, none⟩ = some (.int .i64 (T.E j).dur) ∧ w'.cell? ⟨b', o' + j * 2 + 1, none⟩ = some (.int .i64 (T.E j).time)) 18 (([0, 1, 2, 3, 4, 5, 6, 7, 8, 9, 10, 11, 12, 13, 14].map (·, true)) ++ (([15, 16].map (·, false)) ++ (([17].map (·, true)) ++ (([18].map (·, false)))))) (by kernel_rfl) (by kernel_rfl) (by kernel_rfl) ⟨x64, a54, h0, h1⟩ ?_
              refine' Plan.plan_seg _ [0, 1, 2, 3, 4, 5, 6, 7, 8, 9, 10, 11, 12, 13, 14] (([15, 16].map (·, false)) ++ (([17].map (·, true)) ++ (([18].map (·, false))))) (by kernel_rfl) (by kernel_rfl) rfl (by exact ⟨x64, a54, h0, h1⟩) (fun wx hS => ?_) ?_
              rotate_left
              · obtain ⟨y0, y1, y2, y3⟩ := hS
                go_light
                iterate 15 (apply Plan.seg_pick; rfl; intro K hK; go_wp)
                exact Plan.seg_nil
              have hdr : Below wr.heap.size wr (wr.alloc (.cells #[.int .i64 (T.E j).dur, .int .i64 (T.E j).time] 61)).drew := (below_box _ _).drew
              refine Plan.plan_of_effect rfl (fun K hK => ?_)
              go_wp2_with fail
              obtain ⟨wz, hwz⟩ : ∃ x, x = (wr.alloc (.cells #[.int .i64 (T.E j).dur, .int .i64 (T.E j).time] 61)).drew := ⟨_, rfl⟩
              rw [← hwz] at hdr ⊢
              have z0 : wz.cell? ⟨wr.heap.size, 0, none⟩ = some (.int .i64 (T.E j).dur) := by rw [hwz]; simp [go_sem]
              have z1 : wz.cell? ⟨wr.heap.size, 1, none⟩ = some (.int .i64 (T.E j).time) := by rw [hwz]; simp [go_sem]
              have hs3 : w3.heap.size ≤ wz.heap.size := by have := hdr.size; omega
              have HD := Lib.hid hdr
              clear hwz hdr
              refine ⟨⟨(HD.out.cell (block_lt_of_cell x64)).trans x64, (HD.out.cell (block_lt_of_cell a54)).trans a54, (HD.out.cell (block_lt_of_cell h0)).trans h0, (HD.out.cell (block_lt_of_cell h1)).trans h1⟩, ?_⟩
              refine Plan.plan_of_effect rfl (fun K hK => ?_)
              refine wpList_app wz rfl (.tmp 66) (.tmp 80) 46 61 2 16 _ Try.underlying46 info61 rfl (by decide) (by decide) rfl w3.heap.size j wr.heap.size (.slice va' vm' vc') _ [.int .i64 (T.E j).dur, .int .i64 (T.E j).time] (by simp [go_sem]) (owns_below KO.out HD.out) (by simp [go_sem]) rfl (cells2 z0 z1) (by simp [Value.oneCell']) (by omega) hs3 ?_
              intro v' w6 hv' hb6
              have hv6 : Below w3.heap.size wr w6 := (HD.out.mono hs2).trans hb6
              obtain ⟨va2, vm2, vc2, rfl⟩ := owns_shape hv'
              have hB2 : C ≤ w3.heap.size := SZ.out
              have xx6 := KX.out.far hv6 (by omega)
              have x56 := K5.out.far hv6 (by omega)
              have hb6' := KB.out.trans (hv6.mono (by omega))
              have hos6 := owns_stay KS.out hv6 SG.out
              have HV6 := Lib.hid (And.intro hv' (And.intro xx6 (And.intro hb6' (And.intro hos6 (show w3.heap.size ≤ w6.heap.size by have := hv6.size; omega)))))
              have g4 := xx6.k4
              have ga := x56.k4
              have e0 := (hv6.cell (p := ⟨b', o' + j * 2, none⟩) (by have := HLT.out; have := SZ.out; have := M0.out; have := M1.out; simp; omega)).trans h0
              have e1 := (hv6.cell (p := ⟨b', o' + j * 2 + 1, none⟩) (by have := HLT.out; have := SZ.out; have := M0.out; have := M1.out; simp; omega)).trans h1
              have fz6 := xx6.fz
              clear hv' hb6 hv6 xx6 x56 hb6' hos6 x64 a54 h0 h1 z0 z1
              go_wp2_with fail
              refine ⟨⟨g4, ga, e0, e1⟩, ?_⟩
              refine' Plan.plan_seg _ [17] (([18].map (·, false))) (by kernel_rfl) (by kernel_rfl) rfl (by exact ⟨g4, ga, e0, e1⟩) (fun wx hS => ?_) ?_
              rotate_left
              · obtain ⟨y0, y1, y2, y3⟩ := hS
                go_light
                iterate 1 (apply Plan.seg_pick; rfl; intro K hK; go_wp)
                exact Plan.seg_nil
              refine Plan.plan_of_last rfl (fun K hK => ?_)
              go_wp2_with fail
              refine Plan.plan_done ?_
              go_wp2_with fail
              go_roundw
              case rel =>
                refine ⟨j + 1, .slice va2 vm2 vc2, by omega, by go_num, HV6.out.2.1.set4 _, ?_, owns_far HV6.out.2.2.2.1 (by simpa using m3) _, HV6.out.2.2.1.setCell (by simp) _, by rw [World.size_setCell]; exact HV6.out.2.2.2.2⟩
                exact owns_far HV6.out.1 (by have := SZ.out; simp; omega) _
              case measure => simp [intOf]; omega
            · obtain rfl : j = T.nE := by omega
              go_upto_region 16 with fail
              clear a54 x64
              have HBO := Lib.hid (HB2.out.trans (KB.out.mono (show _ ≤ b6 by have := M1.out; omega)))
              have HXN := Lib.hid (HXX.out.below HBO.out)
              have HFN := Lib.hid (HXF.out.below HBO.out)
              have HRN := Lib.hid (HXR.out.below HBO.out)
              have HKP := Lib.hid (KP.of (w0 := w) (lo := b5) (hi := wr.heap.size) HC2.out (fun i hi => by obtain ⟨_, _, _, _, _, _, _, _, hx⟩ := HX.out i hi; exact hx) KS.out KO.out (by omega) (by have := SZ.out; omega) (fun r hr => (World.ownsRow.lt KS.out r hr).2) (fun r hr => (World.ownsRow.lt KO.out r hr).2))
              have x1 := HXN.out.k1
              have q0 := KX.out.k0
              have q1 := KX.out.k1
              have q2 := KX.out.k2
              have q3 := KX.out.k3
              have q4 := KX.out.k4
              apply wp_region_lit
              iterate 9 go_step
              refine Great.wpList_buildSliceTo rfl 35 48 1 #[(0, .tmp 85)] rfl wr.heap.size rfl (some 86) rfl Try.underlying35 #[.string T.h, .int .i64 T.sc, .slice a2 T.nC d2, .slice sa' sm' sc', .slice va' vm' vc'] ?_ ?_
              · simp only [List.map_toArray, List.map_cons, List.map_nil, List.toList_toArray]
                exact built_tr48 _ _ _ _ _
              obtain ⟨we, hwe⟩ : ∃ y, y = wr.alloc (.cells #[.string T.h, .int .i64 T.sc, .slice a2 T.nC d2, .slice sa' sm' sc', .slice va' vm' vc'] 48) := ⟨_, rfl⟩
              have hb := below_box wr (.cells #[.string T.h, .int .i64 T.sc, .slice a2 T.nC d2, .slice sa' sm' sc', .slice va' vm' vc'] 48)
              rw [← hwe] at hb ⊢
              obtain ⟨qe, hqe⟩ : ∃ y, y = wr.heap.size := ⟨_, rfl⟩
              have hcl := cells5k (w := we) (g := qe) (c0 := .string T.h) (c1 := .int .i64 T.sc) (c2 := .slice a2 T.nC d2) (c3 := .slice sa' sm' sc') (c4 := .slice va' vm' vc') (by rw [hwe, hqe]; simp [go_sem]) (by rw [hwe, hqe]; simp [go_sem]) (by rw [hwe, hqe]; simp [go_sem]) (by rw [hwe, hqe]; simp [go_sem]) (by rw [hwe, hqe]; simp [go_sem])
              rw [← hqe] at ⊢
              have HBE := Lib.hid (HBO.out.trans (hb.mono (HBO.out.size)))
              have HKE := Lib.hid (HKP.out.move (w' := we) (fun b _ hb' => hb.block b hb'))
              have HXE := Lib.hid (HXN.out.below hb)
              have HFE := Lib.hid (HFN.out.below hb)
              have HRE := Lib.hid (HRN.out.below hb)
              have HQE := Lib.hid (show wr.heap.size ≤ we.heap.size from hb.size)
              have HBB := Lib.hid (Nat.le_trans MB.out HBE.out.size)
              clear hwe hqe hb x1 q0 q1 q2 q3 q4 HBO HXN HFN HRN HKP
              simp only [Act.put, List.setIfInBounds_toArray, List.set_cons_succ, List.set_cons_zero]
              refine wpList_appG we rfl (.tmp 84) (.tmp 86) 35 48 5 96 _ Try.underlying35 info48 rfl (by decide) (by decide) rfl B k qe 1 (.slice va vm vc) _ [.string T.h, .int .i64 T.sc, .slice a2 T.nC d2, .slice sa' sm' sc', .slice va' vm' vc'] rfl (HTM.out.below HBE.out).row rfl rfl hcl (by simp [Value.oneCell']) (by omega) HBB.out ?_
              intro v' wf hr hg ho ⟨ga', gm', gc', hv'⟩
              subst hv'
              have hrow := World.ownsRow.lt (HTM.out.below HBE.out).row
              have hne : ∀ b, b < B → wf.heap[b]? = we.heap[b]? := fun b hb => hg.block b (by have := HBB.out; omega) (fun e => by have := (hrow b e.symm).1; omega)
              have hkp := HKE.out
              rw [HTT.out] at hkp
              have HTMF := Lib.hid (HTM.out.step HBE.out hkp M1.out MB.out (by exact HQE.out) hg (by rw [← HTT.out]; exact hr) ho)
              have HXG := Lib.hid (HXE.out.block (hne blx N3.out))
              have HFG := Lib.hid (HFE.out.block (hne blf (by have := N3.out; have := N12.out; omega)))
              have HRG := Lib.hid (HRE.out.block (hne blr (by have := N3.out; have := N12.out; omega)))
              have HBG := Lib.hid (show Below w.heap.size w wf from growB (HBW.out.trans (HBE.out.mono HBW.out.size)) (Nat.le_refl _) hg (fun r e => by have h1 := (hrow r e).1; have h2 := N3.out; have h3 := N12.out; omega))
              have HSG := Lib.hid (show B ≤ wf.heap.size from Nat.le_trans HBB.out hg.size)
              have x1 := HXG.out.k1
              have xz := HXG.out.fz
              clear hr hg ho hrow hne hkp hcl HBE HKE HXE HFE HRE HQE HBB
              simp only [Act.put, List.setIfInBounds_toArray, List.set_cons_succ, List.set_cons_zero]
              go_upto_region 4 with fail
              go_wp2_with fail
              go_roundw
              case rel =>
                exact ⟨k + 1, .slice ga' gm' gc', _, _, _, by omega, by go_num, HXG.out.set1 _, HFG.out.other (by have := N12.out; simp; omega) _, HRG.out.other (by have := N12.out; simp; omega) _, HTMF.out.far N3.out _, HBG.out.setCell (by have := N12.out; simp; omega) _, by rw [World.size_setCell]; exact HSG.out⟩
              case measure => simp [intOf]; omega
    · obtain rfl : k = F.nT := by omega
      obtain ⟨x0, x1, xz⟩ := HXX.out
      obtain ⟨r0, r1, rz⟩ := HXR.out
      go_wp2_with fail
      have hb := (HBW.out.setCell (p := ⟨blr, 0, none⟩) (by have := N12.out; simp; omega) (.int .i64 F.sc)).setCell (p := ⟨blr, 1, none⟩) (by have := N12.out; simp; omega) (.slice va vm vc)
      refine bodyPost_ret (results_cell rfl _ _ _ rfl (load37 (HXR.out.put2 _ _))) rfl ?_
      refine ⟨_, rfl, ⟨_, rfl, TM.tsa ((HTM.out.far (by have := N12.out; have := N3.out; omega) _).far (by have := N12.out; have := N3.out; omega) _) hb⟩, hb⟩
end Go.Proofs.Ytkhjkemllgjfmaa

/- SameTrack and Same at equal data. -/
namespace Go.Proofs.Ytkhjkemllgjfmaa
open Go.RowKit
set_option linter.unusedVariables false
set_option linter.unusedSimpArgs false
theorem BA.bl2 {w : World} {v : Value} {n : Nat} {f : Nat → Int} (h : BA w v n f) : BL w v ((List.range n).map f) := BA.bl (s := ⟨n, f, 0, 0, false⟩) h
/-- A fresh block of a sample. -/
def GZ (B : Nat) (i lo hi : Nat) (v : Value) (w : World) : Prop := v = .pointer (some ⟨lo, 0, none⟩) ∧ B ≤ lo ∧ lo < hi ∧ hi ≤ w.heap.size ∧ w.cell? ⟨lo, 0, none⟩ = some (.slice none 0 0) ∧ w.cell? ⟨lo, 1, none⟩ = some (.int .i64 0) ∧ w.cell? ⟨lo, 2, none⟩ = some (.int .i64 0) ∧ w.cell? ⟨lo, 3, none⟩ = some (.bool false) ∧ ∀ o, w.frozen? ⟨lo, o, none⟩ = false
theorem GZ.ext {B i lo hi : Nat} {v : Value} {w w' : World} (h : GZ B i lo hi v w) (hb : Plan.Ext w w') : GZ B i lo hi v w' := by
  obtain ⟨h1, h2, h3, h4, c0, c1, c2, c3, f⟩ := h
  have hl : lo < w.heap.size := by omega
  exact ⟨h1, h2, h3, Nat.le_trans h4 hb.size, (hb.cell (p := ⟨lo, 0, none⟩) hl).trans c0, (hb.cell (p := ⟨lo, 1, none⟩) hl).trans c1, (hb.cell (p := ⟨lo, 2, none⟩) hl).trans c2, (hb.cell (p := ⟨lo, 3, none⟩) hl).trans c3, fun o => (hb.frozen (p := ⟨lo, o, none⟩) hl).trans (f o)⟩
set_option maxRecDepth 100000 in
set_option maxHeartbeats 8000000 in
theorem sametrack_any (u v : Value) (T : Tr) (w : World) (hu : TA w u T) (hv : TA w v T) (hS : T.nS ≤ 1000000) (hE : T.nE ≤ 1000000) :
    Calls Try.prog 51 #[u, v] w fun e w' => e = .returned (.bool true) ∧ Below w.heap.size w w' := by
  obtain ⟨_, _, c2, c3, c4, rfl, rfl, rfl, b2, b3, b4⟩ := hu
  obtain ⟨_, _, d2, d3, d4, rfl, rfl, rfl, e2, e3, e4⟩ := hv
  have HC := Lib.hid (fun (w' : World) (hb : Below w.heap.size w w') => same_any c2 d2 ((List.range T.nC).map T.C) w' (b2.bl2.below hb) (e2.bl2.below hb))
  obtain ⟨a2, n2, rfl⟩ := b2.shape
  obtain ⟨a3, n3, rfl⟩ := b3.shape
  obtain ⟨a4, n4, rfl⟩ := b4.shape
  obtain ⟨x2, m2, rfl⟩ := e2.shape
  obtain ⟨x3, m3, rfl⟩ := e3.shape
  obtain ⟨x4, m4, rfl⟩ := e4.shape
  obtain ⟨X, hX⟩ := b3.pick
  obtain ⟨Y, hY⟩ := e3.pick
  have HX := Lib.hid hX
  have HY := Lib.hid hY
  have HE1 := Lib.hid b4
  have HE2 := Lib.hid e4
  have HSA := Lib.hid (fun (w' : World) (hb : Below w.heap.size w w') (i : Nat) (hi : i < T.nS) => show Calls Try.prog 24 #[X i, Y i] w' fun e w'' => e = .returned (.bool true) ∧ Below w'.heap.size w' w'' from by
    obtain ⟨_, _, _, _, _, _, _, _, h1⟩ := hX i hi
    obtain ⟨_, _, _, _, _, _, _, _, h2⟩ := hY i hi
    exact same_any _ _ _ w' (h1.bl.below hb) (h2.bl.below hb))
  clear b2 b3 b4 e2 e3 e4 hX hY
  go_enter Try.func51, Try.ntmps51
  go_upto_region 1 with fail
  obtain ⟨w1, hw1⟩ : ∃ y, y = (w.alloc (.cells #[.string T.h, .int .i64 T.sc, .slice a2 T.nC n2, .slice a3 T.nS n3, .slice a4 T.nE n4] 48)).alloc (.cells #[.string T.h, .int .i64 T.sc, .slice x2 T.nC m2, .slice x3 T.nS m3, .slice x4 T.nE m4] 48) := ⟨_, rfl⟩
  rw [← hw1]
  have hb1 : Below w.heap.size w w1 := by rw [hw1]; go_grown
  have xa : BX w1 w.heap.size (.string T.h) (.int .i64 T.sc) (.slice a2 T.nC n2) (.slice a3 T.nS n3) (.slice a4 T.nE n4) := by
    rw [hw1]; exact (BX.of_alloc w _ _ _ _ _ _ 48 rfl).far (below_box _ _) (by simp)
  have xb : BX w1 (w.heap.size + 1) (.string T.h) (.int .i64 T.sc) (.slice x2 T.nC m2) (.slice x3 T.nS m3) (.slice x4 T.nE m4) := by
    rw [hw1]; exact BX.of_alloc _ _ _ _ _ _ _ 48 (by simp)
  obtain ⟨ba, hba⟩ : ∃ z, z = w.heap.size := ⟨_, rfl⟩
  obtain ⟨bb, hbb⟩ : ∃ z, z = w.heap.size + 1 := ⟨_, rfl⟩
  rw [← hbb] at xb ⊢
  rw [← hba] at xa ⊢
  have XA := Lib.hid xa
  have XB := Lib.hid xb
  have HB := Lib.hid hb1
  have q0 := xa.k0
  have q1 := xa.k1
  have q2 := xa.k2
  have q3 := xa.k3
  have q4 := xa.k4
  have r0 := xb.k0
  have r1 := xb.k1
  have r2 := xb.k2
  have r3 := xb.k3
  have r4 := xb.k4
  clear hw1 hb1 xa xb hba hbb
  go_wp2_with fail
  refine (HC.out w1 HB.out).mono ?_
  rintro e w2 ⟨rfl, hb⟩
  have XA2 := Lib.hid (XA.out.far hb XA.out.lt)
  have XB2 := Lib.hid (XB.out.far hb XB.out.lt)
  have HB2 := Lib.hid (HB.out.trans (hb.mono HB.out.size))
  clear hb q0 q1 q2 q3 q4 r0 r1 r2 r3 r4
  have q3 := XA2.out.k3
  have r3 := XB2.out.k3
  have q4 := XA2.out.k4
  have r4 := XB2.out.k4
  go_upto_region 3 with fail
  clear q3 r3 q4 r4 XA XB HB
  go_upto_region 4 with fail
  go_loopw [5] (fun i wr => ∃ k : Nat, k ≤ T.nS ∧ i = .int .i64 (k : Int) ∧ Below w2.heap.size w2 wr) (fun i _ => T.nS - (intOf i).toNat)
  case atStart => exact ⟨0, Nat.zero_le _, rfl, Below.refl _ _⟩
  case round =>
    obtain ⟨k, hk, rfl, hb⟩ := hrel
    have HBK := Lib.hid hb
    have HBW := Lib.hid (HB2.out.trans (hb.mono HB2.out.size))
    have q3 := (XA2.out.far hb XA2.out.lt).k3
    have r3 := (XB2.out.far hb XB2.out.lt).k3
    clear hb
    by_cases hlt : k < T.nS
    · have hlt' : (k : Int) < (T.nS : Int) := by omega
      obtain ⟨p, po, c, e, h0, h1, h2, h3, hx⟩ := HX.out k hlt
      simp only [Value.slice.injEq, true_and] at e
      obtain ⟨rfl, rfl⟩ := e
      obtain ⟨q, qo, c, e, g0, g1, g2, g3, hy⟩ := HY.out k hlt
      simp only [Value.slice.injEq, true_and] at e
      obtain ⟨rfl, rfl⟩ := e
      obtain ⟨ax, dx, ex⟩ := hx.shape
      obtain ⟨ay, dy, ey⟩ := hy.shape
      have HSK := Lib.hid (fun (w' : World) (hb : Below w.heap.size w w') => HSA.out w' hb k hlt)
      rw [ex, ey] at HSK
      rw [ex] at h0
      rw [ey] at g0
      have HH := Lib.hid (And.intro h0 (And.intro h1 (And.intro h2 h3)))
      have HG := Lib.hid (And.intro g0 (And.intro g1 (And.intro g2 g3)))
      obtain ⟨S, hS'⟩ : ∃ S, S = T.S k := ⟨_, rfl⟩
      rw [← hS'] at HH HG HSK ex ey
      have HQ := Lib.hid (And.intro q3 r3)
      clear hx hy ex ey h0 h1 h2 h3 g0 g1 g2 g3 hS' 
      go_upto_region 6 with fail
      have hSext : ∀ wa wb : World, Below wr.heap.size wr wa → Plan.Ext wa wb → Below wr.heap.size wr wb := fun wa wb ha hb => ha.trans (hb.mono ha.size)
      refine Plan.wp_region_fresh (fun w' => Below wr.heap.size wr w') 13 (GZ wr.heap.size) (([0, 1, 2, 3, 4, 5, 6, 7, 8, 9].map (·, true)) ++ []) [(10, 6), (11, 7)] ([12, 13].map (·, false)) 109 (by kernel_rfl) (by kernel_rfl) (by kernel_rfl) (Below.refl _ _).drew hSext (fun i lo hi v wa wb hG hE => hG.ext hE) ?_
      refine' Plan.plan_seg _ [0, 1, 2, 3, 4, 5, 6, 7, 8, 9] [] (by kernel_rfl) (by kernel_rfl) rfl (by exact (Below.refl _ _).drew) (fun wx hS => ?_) ?_
      rotate_left
      · have s3 := (hS.cell (block_lt_of_cell HQ.out.1)).trans HQ.out.1
        have t3 := (hS.cell (block_lt_of_cell HQ.out.2)).trans HQ.out.2
        have hbx := HBW.out.trans (hS.mono HBW.out.size)
        have h0 := (hbx.cell (block_lt_of_cell HH.out.1)).trans HH.out.1
        have h1 := (hbx.cell (block_lt_of_cell HH.out.2.1)).trans HH.out.2.1
        have h2 := (hbx.cell (block_lt_of_cell HH.out.2.2.1)).trans HH.out.2.2.1
        have h3 := (hbx.cell (block_lt_of_cell HH.out.2.2.2)).trans HH.out.2.2.2
        have g0 := (hbx.cell (block_lt_of_cell HG.out.1)).trans HG.out.1
        have g1 := (hbx.cell (block_lt_of_cell HG.out.2.1)).trans HG.out.2.1
        have g2 := (hbx.cell (block_lt_of_cell HG.out.2.2.1)).trans HG.out.2.2.1
        have g3 := (hbx.cell (block_lt_of_cell HG.out.2.2.2)).trans HG.out.2.2.2
        clear hS hbx
        go_light
        iterate 10 (apply Plan.seg_pick; rfl; intro K hK; go_wp)
        exact Plan.seg_nil
      refine Plan.plan_nil (Plan.fresh_at rfl ?_ ?_)
      · intro p hp o ho vs wx lo hi hS hE hG K hK
        have hB : wr.heap.size ≤ wx.heap.size := hS.size
        simp only [List.mem_cons, List.not_mem_nil, or_false] at hp
        rcases hp with rfl | rfl
        all_goals obtain rfl := Option.some.inj ho
        all_goals clear hG
        all_goals go_wp2
        all_goals exact hK _ _ ⟨rfl, hB, by simp, by simp, by simp [go_sem], by simp [go_sem], by simp [go_sem], by simp [go_sem], fun o => by simp [go_sem]⟩ (by go_grown)
      · intro vs lo hi wx hS hE hG hap
        obtain ⟨⟨v6, l6, m6, n6, a0, a1, a2', a3', af⟩, -⟩ := hG (10, 6) (by simp)
        obtain ⟨⟨v7, l7, m7, n7, b0, b1, b2', b3', bf⟩, -⟩ := hG (11, 7) (by simp)
        have hne := hap (10, 6) (by simp) (11, 7) (by simp) (by decide)
        simp only at v6 l6 m6 n6 a0 a1 a2' a3' af v7 l7 m7 n7 b0 b1 b2' b3' bf hne
        have hne2 : lo 10 ≠ lo 11 := by omega
        generalize lo 10 = z6 at *
        generalize lo 11 = z7 at *
        have hne3 := hne2.symm
        have HSX := Lib.hid hS
        have HL := Lib.hid (And.intro l6 l7)
        clear hG hap hE hS hSext m6 n6 m7 n7 hne l6 l7
        simp only [Plan.puts, v6, v7]
        clear v6 v7
        refine Plan.plan_of_effect rfl (fun K hK => ?_)
        go_wp2_with fail
        obtain ⟨w3, hw3⟩ : ∃ y, y = (((wx.setCell ⟨z6, 0, none⟩ (.slice ax S.n dx)).setCell ⟨z6, 1, none⟩ (.int .i64 S.dur)).setCell ⟨z6, 2, none⟩ (.int .i64 S.shift)).setCell ⟨z6, 3, none⟩ (.bool S.sync) := ⟨_, rfl⟩
        rw [← hw3]
        have hb3 : Below wr.heap.size wr w3 := by rw [hw3]; exact (((HSX.out.setCell HL.out.1 _).setCell HL.out.1 _).setCell HL.out.1 _).setCell HL.out.1 _
        have hfar : ∀ b, b ≠ z6 → w3.heap[b]? = wx.heap[b]? := fun b hb => by rw [hw3]; rw [Below.heap_setCell _ _ _ _ hb, Below.heap_setCell _ _ _ _ hb, Below.heap_setCell _ _ _ _ hb, Below.heap_setCell _ _ _ _ hb]
        have A0 : w3.cell? ⟨z6, 0, none⟩ = some (.slice ax S.n dx) := by rw [hw3]; simp [go_sem, a0]
        have A1 : w3.cell? ⟨z6, 1, none⟩ = some (.int .i64 S.dur) := by rw [hw3]; simp [go_sem, a1]
        have A2 : w3.cell? ⟨z6, 2, none⟩ = some (.int .i64 S.shift) := by rw [hw3]; simp [go_sem, a2']
        have A3 : w3.cell? ⟨z6, 3, none⟩ = some (.bool S.sync) := by rw [hw3]; simp [go_sem, a3']
        replace b0 := (World.cell?_of_block (a := ⟨z7, 0, none⟩) (hfar z7 hne3)).trans b0
        replace b1 := (World.cell?_of_block (a := ⟨z7, 1, none⟩) (hfar z7 hne3)).trans b1
        replace b2' := (World.cell?_of_block (a := ⟨z7, 2, none⟩) (hfar z7 hne3)).trans b2'
        replace b3' := (World.cell?_of_block (a := ⟨z7, 3, none⟩) (hfar z7 hne3)).trans b3'
        have bf2 := fun o => (World.frozen?_of_block (a := ⟨z7, o, none⟩) (hfar z7 hne3)).trans (bf o)
        have HB3 := Lib.hid hb3
        have HA := Lib.hid (And.intro A0 (And.intro A1 (And.intro A2 A3)))
        clear hw3 hfar a0 a1 a2' a3' af bf hb3 A0 A1 A2 A3
        refine ⟨HB3.out, ?_⟩
        refine Plan.plan_of_last rfl (fun K hK => ?_)
        go_wp2_with fail
        obtain ⟨w4, hw4⟩ : ∃ y, y = (((w3.setCell ⟨z7, 0, none⟩ (.slice ay S.n dy)).setCell ⟨z7, 1, none⟩ (.int .i64 S.dur)).setCell ⟨z7, 2, none⟩ (.int .i64 S.shift)).setCell ⟨z7, 3, none⟩ (.bool S.sync) := ⟨_, rfl⟩
        rw [← hw4]
        have hfar : ∀ b, b ≠ z7 → w4.heap[b]? = w3.heap[b]? := fun b hb => by rw [hw4]; rw [Below.heap_setCell _ _ _ _ hb, Below.heap_setCell _ _ _ _ hb, Below.heap_setCell _ _ _ _ hb, Below.heap_setCell _ _ _ _ hb]
        have HB4 := Lib.hid (show Below wr.heap.size wr w4 by rw [hw4]; exact (((HB3.out.setCell HL.out.2 _).setCell HL.out.2 _).setCell HL.out.2 _).setCell HL.out.2 _)
        have B0 : w4.cell? ⟨z7, 0, none⟩ = some (.slice ay S.n dy) := by rw [hw4]; simp [go_sem, b0]
        have B1 : w4.cell? ⟨z7, 1, none⟩ = some (.int .i64 S.dur) := by rw [hw4]; simp [go_sem, b1]
        have B2' : w4.cell? ⟨z7, 2, none⟩ = some (.int .i64 S.shift) := by rw [hw4]; simp [go_sem, b2']
        have B3 : w4.cell? ⟨z7, 3, none⟩ = some (.bool S.sync) := by rw [hw4]; simp [go_sem, b3']
        have A0 := (World.cell?_of_block (a := ⟨z6, 0, none⟩) (hfar z6 hne2)).trans HA.out.1
        have A1 := (World.cell?_of_block (a := ⟨z6, 1, none⟩) (hfar z6 hne2)).trans HA.out.2.1
        have A2 := (World.cell?_of_block (a := ⟨z6, 2, none⟩) (hfar z6 hne2)).trans HA.out.2.2.1
        have A3 := (World.cell?_of_block (a := ⟨z6, 3, none⟩) (hfar z6 hne2)).trans HA.out.2.2.2
        clear hw4 hfar b0 b1 b2' b3' bf2 HA HB3 HSX HL hne2 hne3
        refine Plan.plan_done ?_
        go_wp2_with fail
        refine (HSK.out w4 (HBW.out.trans (HB4.out.mono HBW.out.size))).mono ?_
        rintro e w5 ⟨rfl, hb⟩
        have HB5 := Lib.hid (show Below w2.heap.size w2 w5 from (HBK.out.trans (HB4.out.mono HBK.out.size)).trans (hb.mono (Nat.le_trans HBK.out.size HB4.out.size)))
        clear hb A0 A1 A2 A3 B0 B1 B2' B3 q3 r3
        go_wp2_with fail
        go_roundw
        case rel => exact ⟨k + 1, by omega, by simp, HB5.out⟩
        case measure =>
          simp [intOf]
          omega
    · have hkn : k = T.nS := by omega
      subst hkn
      go_upto_region 9 with fail
      go_upto_region 10 with fail
      clear q3 r3
      go_loopw [8] (fun i wx => ∃ k : Nat, k ≤ T.nE ∧ i = .int .i64 (k : Int) ∧ Below w2.heap.size w2 wx) (fun i _ => T.nE - (intOf i).toNat)
      case atStart => exact ⟨0, Nat.zero_le _, rfl, HBK.out⟩
      case round =>
        obtain ⟨k, hk, rfl, hb⟩ := hrel
        have HBJ := Lib.hid hb
        have HBX := Lib.hid (HB2.out.trans (hb.mono HB2.out.size))
        have q4 := (XA2.out.far hb XA2.out.lt).k4
        have r4 := (XB2.out.far hb XB2.out.lt).k4
        clear hb
        by_cases hlt : k < T.nE
        · have hlt' : (k : Int) < (T.nE : Int) := by omega
          obtain ⟨_, _, e, _, H1⟩ := HE1.out
          simp only [Value.slice.injEq, true_and] at e
          obtain ⟨rfl, rfl⟩ := e
          obtain ⟨p, po, rfl, h0, h1⟩ := H1 k hlt
          obtain ⟨_, _, e, _, H2⟩ := HE2.out
          simp only [Value.slice.injEq, true_and] at e
          obtain ⟨rfl, rfl⟩ := e
          obtain ⟨q, qo, rfl, g0, g1⟩ := H2 k hlt
          replace h0 := (HBX.out.cell (block_lt_of_cell h0)).trans h0
          replace h1 := (HBX.out.cell (block_lt_of_cell h1)).trans h1
          replace g0 := (HBX.out.cell (block_lt_of_cell g0)).trans g0
          replace g1 := (HBX.out.cell (block_lt_of_cell g1)).trans g1
          obtain ⟨E, hE'⟩ : ∃ E, E = T.E k := ⟨_, rfl⟩
          rw [← hE'] at h0 h1 g0 g1
          clear H1 H2 hE'
          go_upto_region 12 with fail
          refine Plan.wp_region_plan (fun w' => w'.cell? ⟨ba, 4, none⟩ = some (.slice (some ⟨p, po, none⟩) T.nE n4) ∧ w'.cell? ⟨bb, 4, none⟩ = some (.slice (some ⟨q, qo, none⟩) T.nE m4) ∧ w'.cell? ⟨p, po + k * 2, none⟩ = some (.int .i64 E.dur) ∧ w'.cell? ⟨p, po + k * 2 + 1, none⟩ = some (.int .i64 E.time) ∧ w'.cell? ⟨q, qo + k * 2, none⟩ = some (.int .i64 E.dur) ∧ w'.cell? ⟨q, qo + k * 2 + 1, none⟩ = some (.int .i64 E.time)) (([0, 1, 2, 3, 4, 5, 6, 7, 8, 9, 10].map (·, true)) ++ []) (by kernel_rfl) (by kernel_rfl) (by kernel_rfl) ⟨q4, r4, h0, h1, g0, g1⟩ ?_
          refine' Plan.plan_seg _ [0, 1, 2, 3, 4, 5, 6, 7, 8, 9, 10] [] (by kernel_rfl) (by kernel_rfl) rfl (by exact ⟨q4, r4, h0, h1, g0, g1⟩) (fun wx hS => ?_) ?_
          rotate_left
          · obtain ⟨s0, s1, s2, s3, s4, s5⟩ := hS
            go_light
            iterate 11 (apply Plan.seg_pick; rfl; intro K hK; go_wp)
            exact Plan.seg_nil
          refine Plan.plan_done ?_
          go_wp2_with fail
          go_roundw
          case rel => exact ⟨k + 1, by omega, by simp, HBJ.out.drew⟩
          case measure =>
            simp [intOf]
            omega
        · have hkn : k = T.nE := by omega
          subst hkn
          go_wp2_with fail
          go_ret
          exact ⟨rfl, HBX.out⟩
set_option maxRecDepth 100000 in
set_option maxHeartbeats 8000000 in
theorem samefile_any (u v : Value) (F : Fl) (w : World) (hu : FA w u F) (hv : FA w v F) (hm : F.nT ≤ 1000000) (hS : ∀ i, i < F.nT → (F.T i).nS ≤ 1000000 ∧ (F.T i).nE ≤ 1000000) :
    Calls Try.prog 26 #[u, v] w fun e w' => e = .returned (.bool true) ∧ Below w.heap.size w w' := by
  obtain ⟨us, rfl, hus⟩ := hu
  obtain ⟨vs, rfl, hvs⟩ := hv
  obtain ⟨ao, c, rfl⟩ := hus.shape
  obtain ⟨bo, d, rfl⟩ := hvs.shape
  have HU := Lib.hid hus
  have HV := Lib.hid hvs
  have HS := Lib.hid hS
  clear hus hvs hS
  go_enter Try.func26, Try.ntmps26
  go_upto_region 1 with fail
  obtain ⟨w1, hw1⟩ : ∃ y, y = (w.alloc (.cells #[.int .i64 F.sc, .slice ao F.nT c] 37)).alloc (.cells #[.int .i64 F.sc, .slice bo F.nT d] 37) := ⟨_, rfl⟩
  rw [← hw1]
  have hb1 : Below w.heap.size w w1 := by rw [hw1]; go_grown
  obtain ⟨ba, hba⟩ : ∃ z, z = w.heap.size := ⟨_, rfl⟩
  obtain ⟨bb, hbb⟩ : ∃ z, z = w.heap.size + 1 := ⟨_, rfl⟩
  have p0 : w1.cell? ⟨ba, 0, none⟩ = some (.int .i64 F.sc) := by rw [hw1, hba]; simp [go_sem]
  have p1 : w1.cell? ⟨ba, 1, none⟩ = some (.slice ao F.nT c) := by rw [hw1, hba]; simp [go_sem]
  have q0 : w1.cell? ⟨bb, 0, none⟩ = some (.int .i64 F.sc) := by rw [hw1, hbb]; simp [go_sem]
  have q1 : w1.cell? ⟨bb, 1, none⟩ = some (.slice bo F.nT d) := by rw [hw1, hbb]; simp [go_sem]
  rw [← hbb, ← hba]
  have HB := Lib.hid hb1
  have HP := Lib.hid (And.intro p1 q1)
  clear hw1 hb1 hba hbb
  go_upto_region 4 with fail
  clear p0 p1 q0 q1
  go_loopw [5] (fun i wr => ∃ k : Nat, k ≤ F.nT ∧ i = .int .i64 (k : Int) ∧ Below w1.heap.size w1 wr) (fun i _ => F.nT - (intOf i).toNat)
  case atStart => exact ⟨0, Nat.zero_le _, rfl, Below.refl _ _⟩
  case round =>
    obtain ⟨k, hk, rfl, hb⟩ := hrel
    have HBK := Lib.hid hb
    have HBW := Lib.hid (HB.out.trans (hb.mono HB.out.size))
    have p1 := (hb.cell (block_lt_of_cell HP.out.1)).trans HP.out.1
    have q1 := (hb.cell (block_lt_of_cell HP.out.2)).trans HP.out.2
    clear hb
    by_cases hlt : k < F.nT
    · have hlt' : (k : Int) < (F.nT : Int) := by omega
      obtain ⟨p, po, a2, d2, a3, d3, a4, d4, rfl, t0, t1, t2, t3, t4, hta⟩ := HU.out.at hlt
      obtain ⟨q, qo, b2, e2, b3, e3, b4, e4, rfl, s0, s1, s2, s3, s4, hsa⟩ := HV.out.at hlt
      have HCALL := Lib.hid (fun (w' : World) (hb : Below w.heap.size w w') => sametrack_any _ _ (F.T k) w' (hta.below hb) (hsa.below hb) (HS.out k hlt).1 (HS.out k hlt).2)
      replace t0 := (HBW.out.cell (block_lt_of_cell t0)).trans t0
      replace t1 := (HBW.out.cell (block_lt_of_cell t1)).trans t1
      replace t2 := (HBW.out.cell (block_lt_of_cell t2)).trans t2
      replace t3 := (HBW.out.cell (block_lt_of_cell t3)).trans t3
      replace t4 := (HBW.out.cell (block_lt_of_cell t4)).trans t4
      replace s0 := (HBW.out.cell (block_lt_of_cell s0)).trans s0
      replace s1 := (HBW.out.cell (block_lt_of_cell s1)).trans s1
      replace s2 := (HBW.out.cell (block_lt_of_cell s2)).trans s2
      replace s3 := (HBW.out.cell (block_lt_of_cell s3)).trans s3
      replace s4 := (HBW.out.cell (block_lt_of_cell s4)).trans s4
      clear hta hsa
      go_upto_region 6 with fail
      refine Plan.wp_region_plan (fun w' => w'.cell? ⟨ba, 1, none⟩ = some (.slice (some ⟨p, po, none⟩) F.nT c) ∧ w'.cell? ⟨bb, 1, none⟩ = some (.slice (some ⟨q, qo, none⟩) F.nT d) ∧ w'.cell? ⟨p, po + k * 5, none⟩ = some (.string (F.T k).h) ∧ w'.cell? ⟨p, po + k * 5 + 1, none⟩ = some (.int .i64 (F.T k).sc) ∧ w'.cell? ⟨p, po + k * 5 + 2, none⟩ = some (.slice a2 (F.T k).nC d2) ∧ w'.cell? ⟨p, po + k * 5 + 3, none⟩ = some (.slice a3 (F.T k).nS d3) ∧ w'.cell? ⟨p, po + k * 5 + 4, none⟩ = some (.slice a4 (F.T k).nE d4) ∧ w'.cell? ⟨q, qo + k * 5, none⟩ = some (.string (F.T k).h) ∧ w'.cell? ⟨q, qo + k * 5 + 1, none⟩ = some (.int .i64 (F.T k).sc) ∧ w'.cell? ⟨q, qo + k * 5 + 2, none⟩ = some (.slice b2 (F.T k).nC e2) ∧ w'.cell? ⟨q, qo + k * 5 + 3, none⟩ = some (.slice b3 (F.T k).nS e3) ∧ w'.cell? ⟨q, qo + k * 5 + 4, none⟩ = some (.slice b4 (F.T k).nE e4)) (([0, 1, 2, 3, 4, 5, 6, 7, 8, 9].map (·, true)) ++ (([10].map (·, false)) ++ (([11].map (·, true)) ++ []))) (by kernel_rfl) (by kernel_rfl) (by kernel_rfl) ⟨p1, q1, t0, t1, t2, t3, t4, s0, s1, s2, s3, s4⟩ ?_
      refine' Plan.plan_seg _ [0, 1, 2, 3, 4, 5, 6, 7, 8, 9] (([10].map (·, false)) ++ (([11].map (·, true)) ++ [])) (by kernel_rfl) (by kernel_rfl) rfl (by exact ⟨p1, q1, t0, t1, t2, t3, t4, s0, s1, s2, s3, s4⟩) (fun wx hS => ?_) ?_
      rotate_left
      · obtain ⟨y0, y1, y2, y3, y4, y5, y6, z2, z3, z4, z5, z6⟩ := hS
        go_light
        iterate 10 (apply Plan.seg_pick; rfl; intro K hK; go_wp)
        exact Plan.seg_nil
      refine Plan.plan_of_effect rfl (fun K hK => ?_)
      go_wp2_with fail
      refine (HCALL.out wr.drew HBW.out.drew).mono ?_
      rintro e w2 ⟨rfl, hb⟩
      replace hb : Below wr.heap.size wr w2 := (Below.refl wr.heap.size wr).drew.trans hb
      have HB2 := Lib.hid (HBK.out.trans (hb.mono HBK.out.size))
      replace p1 := (hb.cell (block_lt_of_cell p1)).trans p1
      replace q1 := (hb.cell (block_lt_of_cell q1)).trans q1
      replace t0 := (hb.cell (block_lt_of_cell t0)).trans t0
      replace t1 := (hb.cell (block_lt_of_cell t1)).trans t1
      replace t2 := (hb.cell (block_lt_of_cell t2)).trans t2
      replace t3 := (hb.cell (block_lt_of_cell t3)).trans t3
      replace t4 := (hb.cell (block_lt_of_cell t4)).trans t4
      replace s0 := (hb.cell (block_lt_of_cell s0)).trans s0
      replace s1 := (hb.cell (block_lt_of_cell s1)).trans s1
      replace s2 := (hb.cell (block_lt_of_cell s2)).trans s2
      replace s3 := (hb.cell (block_lt_of_cell s3)).trans s3
      replace s4 := (hb.cell (block_lt_of_cell s4)).trans s4
      clear hb
      go_wp2_with fail
      refine ⟨⟨p1, q1, t0, t1, t2, t3, t4, s0, s1, s2, s3, s4⟩, ?_⟩
      refine' Plan.plan_seg _ [11] [] (by kernel_rfl) (by kernel_rfl) rfl (by exact ⟨p1, q1, t0, t1, t2, t3, t4, s0, s1, s2, s3, s4⟩) (fun wx hS => ?_) ?_
      rotate_left
      · clear hS
        go_light
        iterate 1 (apply Plan.seg_pick; rfl; intro K hK; go_wp)
        exact Plan.seg_nil
      refine Plan.plan_done ?_
      go_wp2_with fail
      go_roundw
      case rel => exact ⟨k + 1, by omega, by simp, HB2.out⟩
      case measure =>
        simp [intOf]
        omega
    · have hkn : k = F.nT := by omega
      go_wp2_with fail
      go_ret
      exact ⟨rfl, HBW.out⟩
end Go.Proofs.Ytkhjkemllgjfmaa

/- The contract of cutroomlaw18.IsomediaShort: it answers true. -/
namespace Go.Proofs.Ytkhjkemllgjfmaa
open Go.RowKit
set_option linter.unusedVariables false
set_option linter.unusedSimpArgs false

theorem lt_light {F : Fl} (h : lightF F = true) {k : Nat} (hk : k < F.nT) : LT (F.T k) := by
  unfold lightF at h
  simp only [Bool.and_eq_true, decide_eq_true_eq, all_range] at h
  have h1 := h.2 k hk
  unfold lightT at h1
  simp only [Bool.and_eq_true, decide_eq_true_eq, all_range] at h1
  have h2 := sizeN_le (S := (F.T k).S) (n := (F.T k).nS) (m := 500) h1.2
  have h3 : (F.T k).nS * 500 ≤ 40 * 500 := Nat.mul_le_mul_right _ h1.1.1.2
  exact ⟨h1.1.1.2, h1.1.1.1.2, h1.1.2, h1.1.1.1.1, by omega⟩
theorem light_six {F : Fl} (h : lightF F = true) : F.nT ≤ 6 := by
  unfold lightF at h
  simp only [Bool.and_eq_true, decide_eq_true_eq] at h
  exact h.1
theorem bytT_of {w : World} {v : Value} {F : Fl} (h : FA w v F) : ∀ i, i < F.nT → BytT (F.T i) := by
  intro i hi
  obtain ⟨c, rfl, ao, cc, rfl, hc, H⟩ := h
  obtain ⟨b, o, c0, c1, c2, c3, c4, e, _, _, _, _, _, k⟩ := H i hi
  refine ⟨fun j hj => ?_, fun j hj x hx => ?_⟩
  · obtain ⟨a, c', _, _, K⟩ := k.k2
    exact (K j hj).2
  · obtain ⟨a, c', _, _, K⟩ := k.k3
    obtain ⟨_, _, y, _, _, _, _, _, hy⟩ := K j hj
    obtain ⟨_, _, _, _, M⟩ := hy
    exact (M x hx).2
theorem putL_shape (F : Fl) : ∃ A B C : List Int, putL F = A ++ B ++ C ∧ A.length = 20 ∧ (∃ d, A = boxP nFtyp d) ∧ (∃ d, B = boxP nMoov d) ∧ (C = boxP nMdat (dataL F.T F.nT)) ∧ B = bytesT (moovT F (firstOf F)) :=
  ⟨ftypB, bytesT (moovT F (firstOf F)), boxP nMdat (dataL F.T F.nT), rfl, ftypB_length, ⟨_, rfl⟩, ⟨_, rfl⟩, rfl, rfl⟩
/-- The bytes less the last seven or fewer: what Boxes says of them. -/
theorem put_cut {F : Fl} (hn : F.nT ≤ 6) (hL : ∀ i, i < F.nT → LT (F.T i)) {m : Nat} (h1 : m < (putL F).length) (h2 : (putL F).length ≤ m + 7) (k : Nat) (hw : Walked (fun i => (putL F).getD i 0) 0 m k) (hg : ¬ goOn (fun i => (putL F).getD i 0) m (pos (fun i => (putL F).getD i 0) 0 k)) : codeAt (fun i => (putL F).getD i 0) m (pos (fun i => (putL F).getD i 0) 0 k) = 4 := by
  obtain ⟨A, B, C, e, hA, ⟨da, ha⟩, ⟨db, hb⟩, hc, hB⟩ := putL_shape F
  have hlb : B.length ≤ 70000 := by rw [hB]; exact moov_len hn hL _
  have hlc : C.length = 8 + (dataL F.T F.nT).length := by rw [hc, boxP_length]; rfl
  have hld : (dataL F.T F.nT).length ≤ F.nT * 20000 := by rw [dataL_length]; exact offN_le hL _ (Nat.le_refl _)
  have hln : (putL F).length = A.length + B.length + C.length := by rw [e, List.length_append, List.length_append]
  exact short_three ha hb hc ⟨rfl, rfl, rfl⟩ (by omega) m (by omega) (by omega) (fun i _ => by rw [e]) k hw hg
theorem put_len {F : Fl} (hn : F.nT ≤ 6) (hL : ∀ i, i < F.nT → LT (F.T i)) : 28 ≤ (putL F).length ∧ (putL F).length ≤ 1000000 := by
  obtain ⟨A, B, C, e, hA, ⟨da, ha⟩, ⟨db, hb⟩, hc, hB⟩ := putL_shape F
  have hlb : B.length ≤ 70000 := by rw [hB]; exact moov_len hn hL _
  have hlc : C.length = 8 + (dataL F.T F.nT).length := by rw [hc, boxP_length]; rfl
  have hld : (dataL F.T F.nT).length ≤ F.nT * 20000 := by rw [dataL_length]; exact offN_le hL _ (Nat.le_refl _)
  have hln : (putL F).length = A.length + B.length + C.length := by rw [e, List.length_append, List.length_append]
  omega

set_option maxRecDepth 100000 in
set_option maxHeartbeats 4000000 in
theorem law_short (v : Value) (F : Fl) (kk : Int) (w : World) (hv : FA w v F) (hm : F.nT ≤ 9223372036854775807) :
    Calls Try.prog 9 #[v, .int .i64 kk] w fun e w' => e = .returned (.bool true) ∧ Below w.heap.size w w' := by
  have hv0 := hv
  obtain ⟨ts, rfl, hts⟩ := hv
  obtain ⟨ao, c, rfl⟩ := hts.shape
  have HV0 := Lib.hid hv0
  clear hts hv0
  go_enter Try.func9, Try.ntmps9
  go_wp2_with fail
  obtain ⟨w1, hw⟩ : ∃ x, x = w.alloc (.cells #[.int .i64 F.sc, .slice ao F.nT c] 37) := ⟨_, rfl⟩
  rw [← hw]
  have hb1 : Below w.heap.size w w1 := by rw [hw]; exact below_box _ _
  have xf : B2 w1 w.heap.size (.int .i64 F.sc) (.slice ao F.nT c) := by
    rw [hw]; exact B2.of_alloc w _ _ _ 37 rfl
  obtain ⟨blf, hblf⟩ : ∃ z, z = w.heap.size := ⟨_, rfl⟩
  rw [← hblf] at xf ⊢
  have XF := Lib.hid xf
  have HB := Lib.hid hb1
  clear hw hb1 xf hblf
  refine (light_any _ F _ (HV0.out.below HB.out) hm).mono ?_
  rintro e w2 ⟨rfl, hb⟩
  replace XF := Lib.hid (XF.out.far hb XF.out.lt)
  replace HB := Lib.hid (HB.out.trans (hb.mono HB.out.size))
  have y0 := XF.out.k0
  have y1 := XF.out.k1
  clear hb
  cases hl : lightF F
  · go_wp2_with fail
    refine (awake_any _).mono ?_
    rintro e wz ⟨rfl, hb5⟩
    have HB5 := Lib.hid hb5
    clear hb5
    go_wp2_with fail
    go_ret
    exact ⟨rfl, HB.out.trans (HB5.out.mono HB.out.size)⟩
  have HL := Lib.hid hl
  go_wp2_with fail
  refine (rvalidF_any _ F w2 (HV0.out.below HB.out) (by omega)).mono ?_
  rintro e w3 ⟨rfl, hb⟩
  replace XF := Lib.hid (XF.out.far hb XF.out.lt)
  replace HB := Lib.hid (HB.out.trans (hb.mono HB.out.size))
  replace y0 := XF.out.k0
  replace y1 := XF.out.k1
  clear hb hl
  cases hok : okFl F
  · go_wp2_with fail
    refine (awake_any _).mono ?_
    rintro e wz ⟨rfl, hb5⟩
    have HB5 := Lib.hid hb5
    clear hb5
    go_wp2_with fail
    go_ret
    exact ⟨rfl, HB.out.trans (HB5.out.mono HB.out.size)⟩
  have HOK := Lib.hid hok
  clear hok
  by_cases hneg : kk < 0
  · go_wp2_with fail
    refine (awake_any _).mono ?_
    rintro e wz ⟨rfl, hb5⟩
    have HB5 := Lib.hid hb5
    clear hb5
    go_wp2_with fail
    go_ret
    exact ⟨rfl, HB.out.trans (HB5.out.mono HB.out.size)⟩
  obtain ⟨k, rfl⟩ := Int.eq_ofNat_of_zero_le (show 0 ≤ kk by omega)
  clear hneg
  have hn6 := light_six HL.out
  have HLT := Lib.hid (fun i hi => lt_light HL.out (k := i) hi)
  have HV := Lib.hid (HV0.out.below HB.out)
  go_wp2_with fail
  refine (given_any _ F w3 HV.out (by omega) (fun i hi => by have := (HLT.out i hi).s; have := (HLT.out i hi).e; omega)).mono ?_
  rintro e w4 ⟨r, rfl, hv4, hb⟩
  replace HB := Lib.hid (HB.out.trans (hb.mono HB.out.size))
  have HV4 := Lib.hid hv4
  clear hb hv4 y0 y1 XF
  go_wp2_with fail
  refine (put_any r F w4 HV4.out HOK.out hn6 HLT.out).mono ?_
  rintro e w5 ⟨r5, rfl, hbl, hb⟩
  replace HB := Lib.hid (HB.out.trans (hb.mono HB.out.size))
  clear hb
  have HBY := Lib.hid (Byt.put (bytT_of HV0.out))
  have HPL := Lib.hid (fun m h1 h2 => put_cut hn6 HLT.out (m := m) h1 h2)
  have hlen := put_len hn6 HLT.out
  obtain ⟨L, hL⟩ : ∃ L, L = putL F := ⟨_, rfl⟩
  rw [← hL] at hbl HBY HPL hlen
  clear hL
  obtain ⟨ra, rc, rfl, hrc, hcell⟩ := hbl
  have hxL : L[0]? = some L[0] := List.getElem?_eq_getElem (by omega)
  obtain ⟨rb, ro, rfl, _⟩ := hcell 0 _ hxL
  have HC5 := Lib.hid hcell
  clear hcell hxL
  obtain ⟨N, hN⟩ : ∃ N, N = L.length := ⟨_, rfl⟩
  rw [← hN] at hlen hrc HPL ⊢
  have HN := Lib.hid hN
  clear hN
  have hd20 : decide (N < 20) = false := by simp; omega
  go_wp2_with fail
  have hcb : BA w5 (.slice (some ⟨rb, ro, none⟩) (N - 1 - k % 7) rc) (N - 1 - k % 7) (fun i => L.getD i 0) := by
    refine ⟨_, rc, rfl, by omega, fun i hi => ?_⟩
    have hil : i < L.length := by have := HN.out; omega
    have hx : L[i]? = some L[i] := List.getElem?_eq_getElem hil
    have hy : L.getD i 0 = L[i] := by rw [List.getD_eq_getElem?_getD, hx]; rfl
    obtain ⟨b, o, e, h⟩ := HC5.out i _ hx
    refine ⟨⟨b, o, e, by show _ = some (Value.int .u8 (L.getD i 0)); rw [hy]; exact h⟩, ?_⟩
    show 0 ≤ L.getD i 0 ∧ L.getD i 0 < 256
    rw [hy]
    exact HBY.out _ (List.getElem_mem _)
  refine (take_short _ (N - 1 - k % 7) (fun i => L.getD i 0) w5 hcb (by omega) (HPL.out _ (by omega) (by omega))).mono ?_
  rintro e w6 ⟨rfl, hb⟩
  replace HB := Lib.hid (HB.out.trans (hb.mono HB.out.size))
  clear hb hcb HPL HBY HC5 HN
  go_wp2_with fail
  have hb7 : Below w.heap.size w (w6.alloc (.cells #[.int .i64 0, .slice none 0 0] 56)) := HB.out.trans ((below_box _ _).mono HB.out.size)
  refine (awake_any _).mono ?_
  rintro e w7 ⟨rfl, hb⟩
  have HB7 := Lib.hid (hb7.trans (hb.mono hb7.size))
  clear hb hb7
  go_wp2_with fail
  go_ret
  exact ⟨rfl, HB7.out⟩
end Go.Proofs.Ytkhjkemllgjfmaa

/- The contract of cutroomlaw18.IsomediaBack: it answers true. -/
namespace Go.Proofs.Ytkhjkemllgjfmaa
open Go.RowKit
set_option linter.unusedVariables false
set_option linter.unusedSimpArgs false
set_option maxRecDepth 100000 in
set_option maxHeartbeats 8000000 in
theorem law_back (v : Value) (F : Fl) (w : World) (hv : FA w v F) (hm : F.nT ≤ 9223372036854775807) :
    Calls Try.prog 8 #[v] w fun e w' => e = .returned (.bool true) ∧ Below w.heap.size w w' := by
  have hv0 := hv
  obtain ⟨ts, rfl, hts⟩ := hv
  obtain ⟨ao, c, rfl⟩ := hts.shape
  have HV0 := Lib.hid hv0
  clear hts hv0
  go_enter Try.func8, Try.ntmps8
  go_wp2_with fail
  obtain ⟨w1, hw⟩ : ∃ x, x = w.alloc (.cells #[.int .i64 F.sc, .slice ao F.nT c] 37) := ⟨_, rfl⟩
  rw [← hw]
  have hb1 : Below w.heap.size w w1 := by rw [hw]; exact below_box _ _
  have xf : B2 w1 w.heap.size (.int .i64 F.sc) (.slice ao F.nT c) := by
    rw [hw]; exact B2.of_alloc w _ _ _ 37 rfl
  obtain ⟨blf, hblf⟩ : ∃ z, z = w.heap.size := ⟨_, rfl⟩
  rw [← hblf] at xf ⊢
  have XF := Lib.hid xf
  have HB := Lib.hid hb1
  clear hw hb1 xf hblf
  refine (light_any _ F _ (HV0.out.below HB.out) hm).mono ?_
  rintro e w2 ⟨rfl, hb⟩
  replace XF := Lib.hid (XF.out.far hb XF.out.lt)
  replace HB := Lib.hid (HB.out.trans (hb.mono HB.out.size))
  have y0 := XF.out.k0
  have y1 := XF.out.k1
  clear hb
  cases hl : lightF F
  · go_wp2_with fail
    refine (awake_any _).mono ?_
    rintro e wz ⟨rfl, hb5⟩
    have HB5 := Lib.hid hb5
    clear hb5
    go_wp2_with fail
    go_ret
    exact ⟨rfl, HB.out.trans (HB5.out.mono HB.out.size)⟩
  have HL := Lib.hid hl
  go_wp2_with fail
  refine (rvalidF_any _ F w2 (HV0.out.below HB.out) (by omega)).mono ?_
  rintro e w3 ⟨rfl, hb⟩
  replace XF := Lib.hid (XF.out.far hb XF.out.lt)
  replace HB := Lib.hid (HB.out.trans (hb.mono HB.out.size))
  replace y0 := XF.out.k0
  replace y1 := XF.out.k1
  clear hb hl
  cases hok : okFl F
  · go_wp2_with fail
    refine (awake_any _).mono ?_
    rintro e wz ⟨rfl, hb5⟩
    have HB5 := Lib.hid hb5
    clear hb5
    go_wp2_with fail
    go_ret
    exact ⟨rfl, HB.out.trans (HB5.out.mono HB.out.size)⟩
  have HOK := Lib.hid hok
  clear hok
  have hn6 := light_six HL.out
  have HLT := Lib.hid (fun i hi => lt_light HL.out (k := i) hi)
  have HV := Lib.hid (HV0.out.below HB.out)
  go_wp2_with fail
  refine (given_any _ F w3 HV.out (by omega) (fun i hi => by have := (HLT.out i hi).s; have := (HLT.out i hi).e; omega)).mono ?_
  rintro e w4 ⟨r, rfl, hv4, hb⟩
  replace HB := Lib.hid (HB.out.trans (hb.mono HB.out.size))
  have HV4 := Lib.hid hv4
  replace XF := Lib.hid (XF.out.below hb)
  clear hb hv4 y0 y1
  go_wp2_with fail
  refine (put_any r F w4 HV4.out HOK.out hn6 HLT.out).mono ?_
  rintro e w5 ⟨r5, rfl, hbl, hb⟩
  replace XF := Lib.hid (XF.out.below hb)
  replace HB := Lib.hid (HB.out.trans (hb.mono HB.out.size))
  clear hb
  have HBY := Lib.hid (Byt.put (bytT_of HV0.out))
  have hlen := put_len hn6 HLT.out
  have HTK := Lib.hid (fun (vb vo vc : Nat) (w : World) (hv : BY w (.slice (some ⟨vb, vo, none⟩) (putL F).length vc) (putL F)) => take_any F vb vo vc w hv HOK.out (bytT_of HV0.out) (by omega))
  obtain ⟨L, hL⟩ : ∃ L, L = putL F := ⟨_, rfl⟩
  rw [← hL] at hbl HBY hlen HTK
  clear hL
  obtain ⟨ra, rc, rfl, hrc, hcell⟩ := hbl
  have hxL : L[0]? = some L[0] := List.getElem?_eq_getElem (by omega)
  obtain ⟨rb, ro, rfl, _⟩ := hcell 0 _ hxL
  have HC5 := Lib.hid hcell
  clear hcell hxL
  obtain ⟨N, hN⟩ : ∃ N, N = L.length := ⟨_, rfl⟩
  rw [← hN] at hlen hrc HTK ⊢
  have HN := Lib.hid hN
  clear hN
  have hcb : BY w5 (.slice (some ⟨rb, ro, none⟩) N rc) L := by
    refine ⟨_, rc, by rw [HN.out], by rw [← HN.out]; exact hrc, fun i hi => ?_⟩
    have hx : L[i]? = some L[i] := List.getElem?_eq_getElem hi
    have hy : L.getD i 0 = L[i] := by rw [List.getD_eq_getElem?_getD, hx]; rfl
    obtain ⟨b, o, e, h⟩ := HC5.out i _ hx
    refine ⟨⟨b, o, e, by show _ = some (Value.int .u8 (L.getD i 0)); rw [hy]; exact h⟩, ?_⟩
    show 0 ≤ L.getD i 0 ∧ L.getD i 0 < 256
    rw [hy]
    exact HBY.out _ (List.getElem_mem _)
  have HCB := Lib.hid hcb
  clear hcb HC5 HBY HN
  go_wp2_with fail
  refine (HTK.out rb ro rc w5 HCB.out).mono ?_
  rintro e w6 ⟨r6, rfl, hfa, hb⟩
  obtain ⟨tv, rfl, hts⟩ := hfa
  obtain ⟨ta, tc, rfl⟩ := hts.shape
  have HFA := Lib.hid (show FA w6 (.agg #[.int .i64 F.sc, .slice ta F.nT tc]) F from ⟨_, rfl, hts⟩)
  replace HB := Lib.hid (HB.out.trans (hb.mono HB.out.size))
  replace XF := Lib.hid (XF.out.below hb)
  clear hb hts HTK HCB
  go_upto_region 5 with fail
  obtain ⟨w7, hw7⟩ : ∃ y, y = w6.alloc (.cells #[.int .i64 F.sc, .slice ta F.nT tc] 56) := ⟨_, rfl⟩
  rw [← hw7]
  obtain ⟨g5, hg5⟩ : ∃ y, y = w6.heap.size := ⟨_, rfl⟩
  rw [← hg5]
  have hb : Below w6.heap.size w6 w7 := by rw [hw7]; exact below_box _ _
  have HG := Lib.hid (show B2 w7 g5 (.int .i64 F.sc) (.slice ta F.nT tc) by rw [hw7]; exact B2.of_alloc w6 _ _ _ 56 hg5)
  replace HB := Lib.hid (HB.out.trans (hb.mono HB.out.size))
  replace XF := Lib.hid (XF.out.below hb)
  replace HFA := Lib.hid (HFA.out.below hb)
  have k0 := HG.out.k0
  have k1 := HG.out.k1
  have y0 := XF.out.k0
  have y1 := XF.out.k1
  clear hw7 hg5 hb
  refine Plan.wp_region_plan (fun w' => w'.cell? ⟨g5, 0, none⟩ = some (.int .i64 F.sc) ∧ w'.cell? ⟨g5, 1, none⟩ = some (.slice ta F.nT tc) ∧ w'.cell? ⟨blf, 0, none⟩ = some (.int .i64 F.sc) ∧ w'.cell? ⟨blf, 1, none⟩ = some (.slice ao F.nT c)) (([0].map (·, false)) ++ (([1, 2, 3, 4, 5, 6, 7, 8, 9, 10, 12].map (·, true)) ++ (([11, 13].map (·, false)) ++ (([14, 15].map (·, true)) ++ [])))) (by kernel_rfl) (by kernel_rfl) (by kernel_rfl) ⟨k0, k1, y0, y1⟩ ?_
  refine Plan.plan_of_effect rfl (fun K hK => ?_)
  go_wp2_with fail
  refine (awake_any _).mono ?_
  rintro e w8 ⟨rfl, hb⟩
  replace hb : Below w7.heap.size w7 w8 := (Below.refl w7.heap.size w7).drew.trans hb
  replace HB := Lib.hid (HB.out.trans (hb.mono HB.out.size))
  replace HFA := Lib.hid (HFA.out.below hb)
  replace k0 := (hb.cell (block_lt_of_cell k0)).trans k0
  replace k1 := (hb.cell (block_lt_of_cell k1)).trans k1
  replace y0 := (hb.cell (block_lt_of_cell y0)).trans y0
  replace y1 := (hb.cell (block_lt_of_cell y1)).trans y1
  clear hb XF HG
  go_wp2_with fail
  refine ⟨⟨k0, k1, y0, y1⟩, ?_⟩
  refine' Plan.plan_seg _ [1, 2, 3, 4, 5, 6, 7, 8, 9, 10, 12] (([11, 13].map (·, false)) ++ (([14, 15].map (·, true)) ++ [])) (by kernel_rfl) (by kernel_rfl) rfl (by exact ⟨k0, k1, y0, y1⟩) (fun wx hS => ?_) ?_
  rotate_left
  · obtain ⟨s0, s1, s2, s3⟩ := hS
    go_light
    iterate 11 (apply Plan.seg_pick; rfl; intro K hK; go_wp)
    exact Plan.seg_nil
  refine Plan.plan_of_effect rfl (fun K hK => ?_)
  go_wp2_with fail
  refine (told_any _ F w8 HFA.out (by omega) (fun i hi => by have := (HLT.out i hi).s; have := (HLT.out i hi).e; omega)).mono ?_
  rintro e w9 ⟨r9, rfl, hfa, hb⟩
  obtain ⟨tv, rfl, hts⟩ := hfa
  obtain ⟨ta9, tc9, rfl⟩ := hts.shape
  have HFA9 := Lib.hid (show FA w9 (.agg #[.int .i64 F.sc, .slice ta9 F.nT tc9]) F from ⟨_, rfl, hts⟩)
  replace HB := Lib.hid (HB.out.trans (hb.mono HB.out.size))
  replace k0 := (hb.cell (block_lt_of_cell k0)).trans k0
  replace k1 := (hb.cell (block_lt_of_cell k1)).trans k1
  replace y0 := (hb.cell (block_lt_of_cell y0)).trans y0
  replace y1 := (hb.cell (block_lt_of_cell y1)).trans y1
  clear hb hts HFA
  go_wp2_with fail
  refine ⟨⟨k0, k1, y0, y1⟩, ?_⟩
  refine Plan.plan_of_effect rfl (fun K hK => ?_)
  go_wp2_with fail
  refine (samefile_any _ _ F w9 HFA9.out (HV0.out.below HB.out) (by omega) (fun i hi => by have := (HLT.out i hi).s; have := (HLT.out i hi).e; omega)).mono ?_
  rintro e w10 ⟨rfl, hb⟩
  replace HB := Lib.hid (HB.out.trans (hb.mono HB.out.size))
  replace k0 := (hb.cell (block_lt_of_cell k0)).trans k0
  replace k1 := (hb.cell (block_lt_of_cell k1)).trans k1
  replace y0 := (hb.cell (block_lt_of_cell y0)).trans y0
  replace y1 := (hb.cell (block_lt_of_cell y1)).trans y1
  clear hb HFA9
  go_wp2_with fail
  refine ⟨⟨k0, k1, y0, y1⟩, ?_⟩
  refine' Plan.plan_seg _ [14, 15] [] (by kernel_rfl) (by kernel_rfl) rfl (by exact ⟨k0, k1, y0, y1⟩) (fun wx hS => ?_) ?_
  rotate_left
  · clear hS
    go_light
    iterate 2 (apply Plan.seg_pick; rfl; intro K hK; go_wp)
    exact Plan.seg_nil
  refine Plan.plan_done ?_
  go_wp2_with fail
  go_ret
  exact ⟨rfl, HB.out⟩
end Go.Proofs.Ytkhjkemllgjfmaa
