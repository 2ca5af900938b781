/- Texts of this claim joined: WP XA YA YB YC AA AB. -/
import Derived.BigQuiet
import Derived.Test.YtnmkcpgcdjhdjaaVa12
set_option linter.unusedVariables false
set_option linter.unusedSimpArgs false

/- Aid for the laws of edits that name a clip: the answers of Apply, and what is known of the frames. -/
namespace Go.Proofs.Ytnmkcpgcdjhdjaa
open Go.RowKit
set_option linter.unusedVariables false
set_option linter.unusedSimpArgs false
theorem wrap_in (n : Int) (h : -9223372036854775808 ≤ n ∧ n ≤ 9223372036854775807) : wrap64 n = n := by unfold wrap64; omega
/-- What is known of the track and the code that Apply answers at an edit that names a clip of a made track. -/
def CR (w : World) (B : Nat) (t : List Trk.Clip) (k : Int) (c : Nat) (d : Int) (vu : Value) (code : Int) : Prop :=
  (code = 0 ∧ d ≠ 0 ∧ Trk.adjCode t k c d 0 0 = 0 ∧ OT w B vu (Trk.nf (Trk.adjL t k c d 0 0)) ∧ AdjOf t (Trk.nf (Trk.adjL t k c d 0 0)) (Trk.fromL t k c d) (Trk.toL t k c d) (Trk.undK k d)) ∨
  (code ≠ 0 ∧ -1000 ≤ code ∧ code ≤ 1000 ∧ (d = 0 ∨ Trk.adjCode t k c d 0 0 ≠ 0) ∧ vu = .slice none 0 0)
theorem CR.below {w w' : World} {B : Nat} {t : List Trk.Clip} {k : Int} {c : Nat} {d : Int} {vu : Value} {code : Int} (h : CR w B t k c d vu code) (hb : Below w.heap.size w w') : CR w' B t k c d vu code := by
  rcases h with ⟨r1, r2, r3, r4, r5⟩ | h
  · exact .inl ⟨r1, r2, r3, r4.below hb, r5⟩
  · exact .inr h
theorem CR.good {w : World} {B : Nat} {t : List Trk.Clip} {k : Int} {c : Nat} {d : Int} {vu : Value} {code : Int} (h : CR w B t k c d vu code) (hg : d ≠ 0 ∧ Trk.adjCode t k c d 0 0 = 0) : code = 0 ∧ OT w B vu (Trk.nf (Trk.adjL t k c d 0 0)) := by
  rcases h with ⟨r1, r2, r3, r4, r5⟩ | ⟨_, _, _, h, _⟩
  · exact ⟨r1, r4⟩
  · rcases h with h | h
    · exact absurd h hg.1
    · exact absurd hg.2 h
theorem CR.bad {w : World} {B : Nat} {t : List Trk.Clip} {k : Int} {c : Nat} {d : Int} {vu : Value} {code : Int} (h : CR w B t k c d vu code) (hg : d = 0 ∨ Trk.adjCode t k c d 0 0 ≠ 0) : code ≠ 0 := by
  rcases h with ⟨r1, r2, r3, r4, r5⟩ | h
  · rcases hg with hg | hg
    · exact absurd hg r2
    · exact absurd r3 hg
  · exact h.1
theorem CR.bd {w : World} {B : Nat} {t : List Trk.Clip} {k : Int} {c : Nat} {d : Int} {vu : Value} {code : Int} (h : CR w B t k c d vu code) : -1000 ≤ code ∧ code ≤ 1000 := by
  rcases h with ⟨r1, _⟩ | ⟨_, h1, h2, _⟩
  · omega
  · exact ⟨h1, h2⟩
/-- What Apply answers at an edit that names a clip of a made track. -/
def ClipRes (w : World) (t : List Trk.Clip) (k : Int) (c : Nat) (d : Int) (e : Ending) (w' : World) : Prop :=
  ∃ vu x1 x2 x3 ra rl rc code, e = .returned (.tuple #[vu, .agg (edC x1 x2 x3 0 0 0 0 (.slice ra rl rc)), .int .i64 code]) ∧ Below w.heap.size w w' ∧ CR w' w.heap.size t k c d vu code
theorem VT.mono {L M : Int} {l : List Trk.Clip} (h : VT L l) (hl : L ≤ M) : VT M l := ⟨h.v.mono hl, h.n, h.t⟩
theorem Made.big {t : List Trk.Clip} (h : Made t) : VT bigM t := h.vt.mono (by unfold bigM; decide)
theorem starts_next (v : Value) (l : List Trk.Clip) (K : Nat) (w : World) (h : Tk w v l) (hM : Made l) (hK : K + 1 ≤ l.length) :
    Calls Try.prog 29 #[v, .int .i64 ((K : Int) + 1)] w fun e w' => e = .returned (.int .i64 (Trk.total (l.take (K + 1)))) ∧ Below w.heap.size w w' :=
  starts_any v l (K + 1) w h hM.v.good (by have := hM.tt; omega) (by have := hM.l; omega) hK
theorem starts_at (v : Value) (l : List Trk.Clip) (K : Nat) (w : World) (h : Tk w v l) (hM : Made l) (hK : K ≤ l.length) :
    Calls Try.prog 29 #[v, .int .i64 (K : Int)] w fun e w' => e = .returned (.int .i64 (Trk.total (l.take K))) ∧ Below w.heap.size w w' :=
  starts_any v l K w h hM.v.good (by have := hM.tt; omega) (by have := hM.l; omega) hK
theorem apply_made (v : Value) (t : List Trk.Clip) (k : Int) (c : Nat) (d : Int) (w : World) (h : Tk w v t) (hM : Made t) (hk : 5 ≤ k ∧ k ≤ 9) (hc : c ≤ 1048576) (hd : -1000 ≤ d ∧ d ≤ 1000) :
    Calls Try.prog 20 #[v, edV k 0 0 (c : Int) d 0 0 (.slice none 0 0)] w (ClipRes w t k c d) := by
  have h1 := apply_c (L := 1000000) v t k c d 0 none w h hM.vt (by decide) (by rw [hM.nf]; have := hM.l; omega) hk hc (by decide) (by omega)
  rw [hM.nf] at h1
  refine h1.mono ?_
  rintro e w' (⟨ho, h0, v', vr, rfl, hou, hor, hb⟩ | ⟨ho, rfl, hb⟩)
  · have ho2 := of_decide_eq_true ho
    obtain ⟨ra, rc, rfl, -⟩ := hor.tk
    exact ⟨_, _, _, _, _, _, _, _, rfl, hb, .inl ⟨rfl, ho2.1, h0, hou, (adj_of hM (by omega) (fun _ => ho2.1) (by omega) (fun h => by omega) h0).1⟩⟩
  · have hcb := code_bd t k c d 0 0
    refine ⟨_, _, _, _, _, _, _, _, rfl, hb, .inr ⟨?_, ?_, ?_, ?_, rfl⟩⟩
    · split
      · rename_i h2
        rcases ho with ho | ho
        · rw [h2] at ho; cases ho
        · exact ho
      · decide
    · split
      · exact hcb.1
      · decide
    · split
      · exact hcb.2
      · decide
    · rcases ho with ho | ho
      · have := of_decide_eq_false ho
        exact .inl (by omega)
      · exact .inr ho
theorem index_of (a : Int) (N : Nat) (h1 : 1 ≤ N) (h2 : N ≤ 1000) : ∃ c : Nat, (wrap64 (a.tmod (N : Int) + (N : Int))).tmod (N : Int) = (c : Int) ∧ c < N := by
  have b := Int.tmod_lt_of_pos a (show (0 : Int) < (N : Int) by omega)
  have b2 := Int.lt_tmod_of_pos a (show (0 : Int) < (N : Int) by omega)
  obtain ⟨r, hr⟩ : ∃ r, r = a.tmod (N : Int) := ⟨_, rfl⟩
  rw [← hr] at b b2 ⊢
  rw [wrap_in _ (by omega)]
  obtain ⟨q, hq⟩ : ∃ q : Nat, r + (N : Int) = (q : Int) := ⟨(r + N).toNat, by omega⟩
  rw [hq]
  exact ⟨q % N, (Int.ofNat_tmod q N).symm, Nat.mod_lt _ (by omega)⟩
theorem tmod12 (m : Int) : -11 ≤ m.tmod 12 ∧ m.tmod 12 ≤ 11 := by
  have b := Int.tmod_lt_of_pos m (show (0 : Int) < 12 by decide)
  have b2 := Int.lt_tmod_of_pos m (show (0 : Int) < 12 by decide)
  omega
theorem beg_ge {t : List Trk.Clip} (h : Trk.GoodL t) (c : Nat) : 0 ≤ Trk.total (t.take c) := Trk.total_nonneg (fun x hx => h x (List.mem_of_mem_take hx))
/-- A ripple of a made track. -/
structure RipOf (t u : List Trk.Clip) (s e d n : Int) (y : Trk.Clip) : Prop where
  v : VT bigM u
  lo : ∀ i, 0 ≤ i → i < e + min 0 d → Trk.fr u (0 + i) = Trk.fr t (0 + i)
  hi : ∀ i, 0 ≤ i → Trk.fr u (e + d + i) = Trk.fr t (e + i)
  own : ∀ i, 0 ≤ i → i < n → Trk.fr u (s + i) = Trk.fr [y] (0 + i)
  y : VT bigM [y]
theorem rip_of {t : List Trk.Clip} (h : Made t) {c : Nat} {x : Trk.Clip} {d : Int} (hx : t[c]? = some x) (hd : d ≠ 0) (hd2 : -100 ≤ d ∧ d ≤ 100) (h0 : Trk.adjCode t 5 c d 0 0 = 0) :
    RipOf t (Trk.nf (Trk.adjL t 5 c d 0 0)) (Trk.total (t.take c)) (Trk.total (t.take (c + 1))) d (x.len + d) (Trk.lenBy d x) := by
  obtain ⟨ha, -, -, -, hV, hT⟩ := adj_of h (k := 5) (by decide) (fun _ => hd) (by omega) (fun h => by omega) h0
  have hl := len_of_made h hx
  have hg := h.v.good
  have hf : Trk.fromL t 5 c d = min (Trk.total (t.take (c + 1))) (Trk.total (t.take (c + 1)) + d) := by simp [Trk.fromL, Trk.endL]
  have ht : Trk.toL t 5 c d = max (Trk.total (t.take (c + 1))) (Trk.total (t.take (c + 1)) + d) := by simp [Trk.toL, Trk.endL]
  rw [hf, ht] at ha
  obtain ⟨v, u, b⟩ := ha
  have h2 := beg_ge hg c
  refine ⟨v, fun i i0 i1 => u.lo (0 + i) (by omega) (by omega), fun i i0 => ?_, fun i i0 i1 => ?_, ?_⟩
  · have a0 := u.a0
    by_cases d0 : 0 < d
    · rw [u.two (by simp [Trk.undK, d0]) _ (by omega)]; congr 1; omega
    · rw [u.one (by simp [Trk.undK, d0]) _ (by omega)]; congr 1; omega
  · rw [Trk.nf_fr hV.good (by omega)]
    obtain ⟨P, Q, rfl, rfl⟩ := Trk.split_at hx
    have e1 : Trk.adjL (P ++ x :: Q) 5 P.length d 0 0 = P ++ Trk.lenBy d x :: Q := by
      simp only [Trk.adjL]
      rw [if_pos trivial, Trk.upd_at]
    obtain ⟨gP, gx, gQ⟩ := Trk.good_mid hg
    rw [e1, Trk.take_total, Trk.fr_append_ge _ gP (by omega), Trk.fr_lt (by rw [Trk.lenBy_len]; omega), Trk.fr_lt (by rw [Trk.lenBy_len]; omega)]
    congr 1; omega
  · have hm : Trk.lenBy d x ∈ Trk.adjL t 5 c d 0 0 := by
      obtain ⟨P, Q, rfl, rfl⟩ := Trk.split_at hx
      simp only [Trk.adjL]
      rw [if_pos trivial, Trk.upd_at]
      simp
    have hy := hV _ hm
    have hy2 := hy.l.2.1
    exact ⟨Trk.VL.cons hy Trk.VL.nil, by simp, by rw [Trk.total_one]; omega⟩
/-- A change of a clip's beginning. -/
structure HeadOf (t u : List Trk.Clip) (s d : Int) : Prop where
  v : VT bigM u
  lo : ∀ i, 0 ≤ i → i < s → Trk.fr u (0 + i) = Trk.fr t (0 + i)
  hi : ∀ i, 0 ≤ i → Trk.fr u (s + max 0 (-d) + i) = Trk.fr t (s + max 0 d + i)
theorem head_of {t : List Trk.Clip} (h : Made t) {c : Nat} {x : Trk.Clip} {d : Int} (hx : t[c]? = some x) (hd : d ≠ 0) (hd2 : -100 ≤ d ∧ d ≤ 100) (h0 : Trk.adjCode t 6 c d 0 0 = 0) :
    HeadOf t (Trk.nf (Trk.adjL t 6 c d 0 0)) (Trk.total (t.take c)) d := by
  obtain ⟨ha, -, -, -, hV, hT⟩ := adj_of h (k := 6) (by decide) (fun _ => hd) (by omega) (fun h => by omega) h0
  have hl := len_of_made h hx
  have hf : Trk.fromL t 6 c d = Trk.total (t.take c) := by simp [Trk.fromL, Trk.begL]
  have ht : Trk.toL t 6 c d = Trk.total (t.take c) + max d (-d) := by simp [Trk.toL, Trk.begL]
  rw [hf, ht] at ha
  obtain ⟨v, u, b⟩ := ha
  refine ⟨v, fun i i0 i1 => u.lo (0 + i) (by omega) (by omega), fun i i0 => ?_⟩
  by_cases d0 : d < 0
  · rw [u.two (by simp [Trk.undK, d0]) _ (by omega)]; congr 1; omega
  · rw [u.one (by simp [Trk.undK, d0]) _ (by omega)]; congr 1; omega
/-- A roll. -/
structure RollOf (t u : List Trk.Clip) (b d n m : Int) : Prop where
  v : VT bigM u
  lo : ∀ i, 0 ≤ i → i < min b (b + d) → Trk.fr u (0 + i) = Trk.fr t (0 + i)
  hi : ∀ i, 0 ≤ i → Trk.fr u (max b (b + d) + i) = Trk.fr t (max b (b + d) + i)
  n : 1 ≤ n + d
  m : 1 ≤ m - d
theorem roll_of {t : List Trk.Clip} (h : Made t) {c : Nat} {x y : Trk.Clip} {d : Int} (hx : t[c]? = some x) (hy : t[c + 1]? = some y) (hd : d ≠ 0) (hd2 : -100 ≤ d ∧ d ≤ 100) (h0 : Trk.adjCode t 7 c d 0 0 = 0) :
    RollOf t (Trk.nf (Trk.adjL t 7 c d 0 0)) (Trk.total (t.take (c + 1))) d x.len y.len := by
  obtain ⟨ha, -, -, -, hV, hT⟩ := adj_of h (k := 7) (by decide) (fun _ => hd) (by omega) (fun h => by omega) h0
  have hf : Trk.fromL t 7 c d = min (Trk.total (t.take (c + 1))) (Trk.total (t.take (c + 1)) + d) := by simp [Trk.fromL, Trk.endL]
  have ht : Trk.toL t 7 c d = max (Trk.total (t.take (c + 1))) (Trk.total (t.take (c + 1)) + d) := by simp [Trk.toL, Trk.endL]
  rw [hf, ht] at ha
  obtain ⟨v, u, b⟩ := ha
  obtain ⟨P, Q, rfl, rfl⟩ := Trk.split_two hx hy
  have e : Trk.adjL (P ++ x :: y :: Q) 7 P.length d 0 0 = P ++ [Trk.lenBy d x, Trk.later d y] ++ Q := by
    simp only [Trk.adjL]
    rw [if_neg (by decide), if_neg (by decide), if_pos trivial, Trk.upd_next]
  have h1 := (hV (Trk.lenBy d x) (by rw [e]; simp)).l.1
  have h2 := (hV (Trk.later d y) (by rw [e]; simp)).l.1
  rw [Trk.lenBy_len] at h1
  rw [Trk.later_len] at h2
  have a0 := u.a0
  exact ⟨v, fun i i0 i1 => u.lo (0 + i) (by omega) (by omega), fun i i0 => u.three rfl _ (by omega), h1, h2⟩
/-- A slide. -/
structure SlideOf (t u : List Trk.Clip) (s e d n : Int) : Prop where
  v : VT bigM u
  lo : ∀ i, 0 ≤ i → i < min s (s + d) → Trk.fr u (0 + i) = Trk.fr t (0 + i)
  hi : ∀ i, 0 ≤ i → Trk.fr u (max e (e + d) + i) = Trk.fr t (max e (e + d) + i)
  own : ∀ i, 0 ≤ i → i < n → Trk.fr u (s + d + i) = Trk.fr t (s + i)
  sd : 0 ≤ s + d
theorem slide_of {t : List Trk.Clip} (h : Made t) {c : Nat} {x : Trk.Clip} {d : Int} (hx : t[c]? = some x) (hc : 0 < c) (hc2 : c + 1 < t.length) (hd : d ≠ 0) (hd2 : -100 ≤ d ∧ d ≤ 100) (h0 : Trk.adjCode t 9 c d 0 0 = 0) :
    SlideOf t (Trk.nf (Trk.adjL t 9 c d 0 0)) (Trk.total (t.take c)) (Trk.total (t.take (c + 1))) d x.len := by
  obtain ⟨ha, -, -, -, hV, hT⟩ := adj_of h (k := 9) (by decide) (fun _ => hd) (by omega) (fun h => by omega) h0
  have hf : Trk.fromL t 9 c d = min (Trk.total (t.take c)) (Trk.total (t.take c) + d) := by simp [Trk.fromL, Trk.begL]
  have ht : Trk.toL t 9 c d = max (Trk.total (t.take (c + 1))) (Trk.total (t.take (c + 1)) + d) := by simp [Trk.toL, Trk.endL]
  rw [hf, ht] at ha
  obtain ⟨v, u, b⟩ := ha
  have a0 := u.a0
  have hl := len_of_made h hx
  obtain ⟨j, rfl⟩ : ∃ j, c = j + 1 := ⟨c - 1, by omega⟩
  obtain ⟨q, hq⟩ : ∃ q, t[j]? = some q := ⟨_, List.getElem?_eq_getElem (by omega)⟩
  obtain ⟨y, hy⟩ : ∃ y, t[j + 2]? = some y := ⟨_, List.getElem?_eq_getElem (by omega)⟩
  refine ⟨v, fun i i0 i1 => u.lo (0 + i) (by omega) (by omega), fun i i0 => u.three rfl _ (by omega), fun i i0 i1 => ?_, by omega⟩
  rw [Trk.nf_fr hV.good (by omega)]
  obtain ⟨P, Q, rfl, rfl⟩ := Trk.split_three hq hx hy
  have e : Trk.adjL (P ++ q :: x :: y :: Q) 9 (P.length + 1) d 0 0 = P ++ [Trk.lenBy d q, x, Trk.later d y] ++ Q := by
    simp only [Trk.adjL]
    rw [if_neg (by decide), if_neg (by decide), if_neg (by decide), if_neg (by decide), if_pos trivial, Nat.add_sub_cancel, Trk.upd_two]
  have es : Trk.total ((P ++ q :: x :: y :: Q).take (P.length + 1)) = Trk.total P + q.len := Trk.end_of P _ q
  have hg := h.v.good
  obtain ⟨gP, gq, gR⟩ := Trk.good_mid hg
  have gV := hV.good
  rw [e] at gV
  have gq' := gV (Trk.lenBy d q) (by simp)
  have lq := gq'.l
  rw [Trk.lenBy_len] at lq
  have nP := Trk.total_nonneg gP
  have lq2 := gq.l
  have lq3 : (Trk.lenBy d q).len = q.len + d := rfl
  rw [e, es, List.append_assoc, Trk.fr_append_ge _ gP (by omega), Trk.fr_append_ge (l := P) _ gP (by omega)]
  show Trk.fr (Trk.lenBy d q :: x :: Trk.later d y :: Q) _ = Trk.fr (q :: x :: y :: Q) _
  rw [Trk.fr_ge (c := Trk.lenBy d q) (by omega), Trk.fr_ge (c := q) (by omega), Trk.fr_lt (c := x) (l := Trk.later d y :: Q) (by omega), Trk.fr_lt (c := x) (l := y :: Q) (by omega), lq3]
  congr 1; omega
end Go.Proofs.Ytnmkcpgcdjhdjaa

/- Aid for the laws of edits that name frames: lengths, frames, Apply at a made track and clips of the tape. -/
namespace Go.Trk
set_option linter.unusedVariables false
theorem cutRaw_none (l : List Clip) (f : Int) {n : Int} (hn : n ≤ 0) : cutRaw l f n = [] := by
  cases l with
  | nil => unfold cutRaw; rw [if_neg (by omega)]
  | cons c l => unfold cutRaw; rw [if_pos hn]
theorem cutRaw_len2 : ∀ {l : List Clip} {f n : Int}, GoodL l → 0 ≤ f → f + n ≤ total l → (cutRaw l f n).length ≤ l.length
  | [], f, n, _, hf, h => by
    have : total ([] : List Clip) = 0 := rfl
    rw [cutRaw_none _ _ (by omega)]
    simp
  | c :: l, f, n, g, hf, h => by
    have c1 := g.head.l
    have t1 := total_nonneg g.tail
    rw [total_cons] at h
    unfold cutRaw
    split
    · simp
    split
    · have := cutRaw_len2 (l := l) (f := f - c.len) (n := n) g.tail (by omega) (by omega)
      simp only [List.length_cons]
      omega
    · have := cutRaw_len2 (l := l) (f := 0) (n := n - min (c.len - f) n) g.tail (by omega) (by omega)
      simp only [List.length_cons]
      omega
theorem cutRaw_both : ∀ {l : List Clip} {a b n : Int}, GoodL l → 0 ≤ a → a ≤ b → a ≤ total l → b + n ≤ total l → (cutRaw l 0 a).length + (cutRaw l b n).length ≤ l.length + 1
  | [], a, b, n, _, ha, hb, ht, h => by
    have : total ([] : List Clip) = 0 := rfl
    rw [cutRaw_none _ _ (show a ≤ 0 by omega)]
    have := cutRaw_length [] b n
    simpa using this
  | c :: l, a, b, n, g, ha, hb, ht, h => by
    have c1 := g.head.l
    by_cases h0 : a ≤ 0
    · rw [cutRaw_none _ _ h0]
      have := cutRaw_length (c :: l) b n
      simpa using this
    · by_cases h1 : a ≤ c.len
      · have e : cutRaw (c :: l) 0 a = [withLen (shift c 0) (min (c.len - 0) a)] := by
          show (if a ≤ 0 then [] else if c.len ≤ 0 then cutRaw l (0 - c.len) a else withLen (shift c 0) (min (c.len - 0) a) :: cutRaw l 0 (a - min (c.len - 0) a)) = _
          rw [if_neg h0, if_neg (by omega), cutRaw_none _ _ (by omega)]
        have := cutRaw_len2 (l := c :: l) (f := b) (n := n) g (by omega) h
        rw [e]
        simp only [List.length_cons, List.length_nil] at this ⊢
        omega
      · have e : cutRaw (c :: l) 0 a = withLen (shift c 0) (min (c.len - 0) a) :: cutRaw l 0 (a - min (c.len - 0) a) := by
          show (if a ≤ 0 then [] else if c.len ≤ 0 then cutRaw l (0 - c.len) a else withLen (shift c 0) (min (c.len - 0) a) :: cutRaw l 0 (a - min (c.len - 0) a)) = _
          rw [if_neg h0, if_neg (by omega)]
        rw [total_cons] at ht h
        have e2 : min (c.len - 0) a = c.len := by omega
        by_cases hn : n ≤ 0
        · rw [cutRaw_none _ _ hn]
          have := cutRaw_len2 (l := c :: l) (f := 0) (n := a) g (Int.le_refl 0) (by rw [total_cons]; omega)
          simp only [List.length_nil]
          omega
        have e3 : cutRaw (c :: l) b n = cutRaw l (b - c.len) n := by
          show (if n ≤ 0 then [] else if c.len ≤ b then cutRaw l (b - c.len) n else withLen (shift c b) (min (c.len - b) n) :: cutRaw l 0 (n - min (c.len - b) n)) = _
          rw [if_neg hn, if_pos (by omega)]
        have ih := cutRaw_both (l := l) (a := a - c.len) (b := b - c.len) (n := n) g.tail (by omega) (by omega) (by omega) (by omega)
        rw [e, e2, e3]
        simp only [List.length_cons]
        omega
theorem exL_length {n ins : List Clip} {p rem : Int} (gn : GoodL n) (hp : 0 ≤ p) (hr : 0 ≤ rem) : (exL n p rem ins).length ≤ n.length + 2 + ins.length := by
  have tn := total_nonneg gn
  have lg := gapL_len (p - total n)
  have hb := (pk_of (cutRaw_spec (l := n) (f := 0) (n := min p (total n) - 0) gn (Int.le_refl 0) (by omega)).1).n
  have hb' : (cut n 0 (min p (total n))).length ≤ (cutRaw n 0 (min p (total n))).length := by
    have e : min p (total n) - 0 = min p (total n) := by omega
    unfold cut
    rw [e] at hb ⊢
    exact hb
  have ha : (cut n 0 (min p (total n))).length + (aft n (p + rem)).length ≤ n.length + 1 := by
    unfold aft
    split
    · rename_i h
      have h2 := (pk_of (cutRaw_spec (l := n) (f := p + rem) (n := total n - (p + rem)) gn (by omega) (by omega)).1).n
      have h3 := cutRaw_both (l := n) (a := min p (total n)) (b := p + rem) (n := total n - (p + rem)) gn (by omega) (by omega) (by omega) (by omega)
      have h4 : (cut n (p + rem) (total n)).length ≤ (cutRaw n (p + rem) (total n - (p + rem))).length := h2
      omega
    · have h3 := cutRaw_length n 0 (min p (total n))
      simp only [List.length_nil]
      omega
  unfold exL
  simp only [List.length_append]
  omega
end Go.Trk
namespace Go.Proofs.Ytnmkcpgcdjhdjaa
open Go.RowKit
set_option linter.unusedVariables false
set_option linter.unusedSimpArgs false
/-- What an edit of frames makes of a track t. -/
structure ExF (t u put : List Trk.Clip) (p rem : Int) : Prop where
  v : VT 1000000 u
  n : Trk.Norm u
  l : u.length ≤ t.length + 2 + put.length
  tt : Trk.total u ≤ max p (Trk.total t) + Trk.total put
  f : ∀ i, 0 ≤ i → Trk.fr u i = if i < p then Trk.fr t i else if i < p + Trk.total put then Trk.fr put (i - p) else Trk.fr t (i - Trk.total put + rem)
theorem exch_of {t : List Trk.Clip} (hV : VT 1000000 t) {e : Trk.Ed} (hE : ExV 1000000 e) (hl : t.length + 2 + e.put.length ≤ 64) (hee : (if e.k = 1 then max e.p (Trk.total t) else e.p) + e.T ≤ 2147483647) :
    ExF t (Trk.nf (e.exl t)) e.put e.p e.rem := by
  have hx := hE.x
  have o := hx.of hV.v.good
  have q := exl_vl hV hE hee
  have ln : (e.exl t).length ≤ t.length + 2 + e.put.length := Trk.exL_length hV.v.good hx.p hx.rem_nonneg
  have hln := Nat.le_trans (Trk.nf_length q.1.good) ln
  have hr := hx.rem_nonneg
  refine ⟨⟨Trk.nf_vl q.1 q.2.1, by omega, Int.le_trans (Trk.nf_total q.1.good) q.2.1⟩, Trk.nf_norm q.1.good, hln, ?_, fun i i0 => ?_⟩
  · refine Int.le_trans (Trk.nf_total q.1.good) ?_
    rw [o.t]
    omega
  · rw [Trk.nf_fr q.1.good i0]
    exact o.f i i0
/-- What Apply answers at an edit of frames. -/
def ExRes (w : World) (u : List Trk.Clip) (e : Ending) (w' : World) : Prop :=
  ∃ vu x1 x2 x3 ra rl rc, e = .returned (.tuple #[vu, .agg (edC x1 x2 x3 0 0 0 0 (.slice ra rl rc)), .int .i64 0]) ∧ OT w' w.heap.size vu u ∧ Below w.heap.size w w'
theorem apply_f (v u : Value) (t : List Trk.Clip) (e : Trk.Ed) (w : World) (h : Tk w v t) (hu : Tk w u e.ins) (hV : VT 1000000 t) (hN : Trk.Norm t) (hE : ExV 1000000 e) (hl : t.length + 2 + e.put.length ≤ 63)
    (hee : (if e.k = 1 then max e.p (Trk.total t) else e.p) + e.T ≤ 2147483647) : Calls Try.prog 20 #[v, EdV e u] w (ExRes w (Trk.nf (e.exl t))) := by
  have hx := exch_of hV hE (by omega) hee
  have h1 := apply_x (L := 1000000) v u t e w h hu hV hE (by decide) (by rw [hN.nf]; omega) (by rw [hN.nf]; exact hee) (by rw [hN.nf]; have := hx.l; omega)
  rw [hN.nf] at h1
  refine h1.mono ?_
  rintro ev w' ⟨v', vr, rfl, hou, hor, hb⟩
  obtain ⟨ra, rc, rfl, -⟩ := hor.tk
  exact ⟨_, _, _, _, _, _, _, rfl, hou, hb⟩
theorem OT.tape {w w' : World} {B B' p k : Nat} {v : Value} {l : List Trk.Clip} (h : OT w B v l) (hn : l ≠ []) (ht : TP w B' p k) (hT : Turn p w w') : OT w' B v l := by
  refine h.blocks (fun g kk cap e => hT.o g (h.blk e).2 (fun hg => ?_))
  subst hg
  obtain ⟨g', cap', e', _, _, hc⟩ := h.first hn
  rw [e'] at e
  simp only [Value.slice.injEq, Option.some.injEq, Addr.mk.injEq, and_true] at e
  obtain ⟨rfl, -, -⟩ := e
  obtain ⟨_, _, ao, n, c, hp, _⟩ := ht
  cases l with
  | nil => exact hn rfl
  | cons x l =>
    have := (hc 0 x rfl).k0
    simp only [Nat.zero_mul, Nat.zero_add, Nat.add_zero] at this
    rw [hp] at this
    cases this
/-- Clips of the tape's kind, at most m of them. -/
structure ClipsOK (l : List Trk.Clip) (m : Nat) : Prop where
  v : VT 1000000 l
  n : l.length ≤ m
  t1 : 1 ≤ Trk.total l
  t2 : Trk.total l ≤ 9 * (m : Int)
theorem clipsOK_snoc {l : List Trk.Clip} {z : Trk.Clip} {m : Nat} (h : ShortL l) (hl : l.length ≤ m) (hz : TapeC z) (hm : m ≤ 40) : ClipsOK (l ++ [z]) (m + 1) := by
  have hs := h.snoc hz.short
  have ht := short_total hs
  have hv : Trk.VL 1000000 (l ++ [z]) := fun x hx => (hs x hx).1
  have hlen : (l ++ [z]).length ≤ m + 1 := by simp; omega
  have h1 := Trk.total_nonneg (l := l) (fun x hx => (h x hx).1.good)
  have h2 := hz.l0
  refine ⟨⟨hv, by omega, by omega⟩, hlen, ?_, by omega⟩
  rw [Trk.total_append, Trk.total_one]
  omega
end Go.Proofs.Ytnmkcpgcdjhdjaa

/- The contracts of the reference's Gcd, Black, Base, within. -/
namespace Go.Proofs.Ytnmkcpgcdjhdjaa
open Go.RowKit
set_option linter.unusedVariables false
set_option linter.unusedSimpArgs false
set_option maxHeartbeats 2000000 in
theorem rgcd_nat (x y : Nat) (w : World) (hx : x < 9223372036854775808) (hy : y < 9223372036854775808) :
    Calls Try.prog 57 #[.int .i64 (x : Int), .int .i64 (y : Int)] w fun e w' => e = .returned (.int .i64 ((Nat.gcd x y : Nat) : Int)) ∧ ∃ m, w' = w.drewN m := by
  obtain ⟨g, hg⟩ : ∃ g, g = Nat.gcd x y := ⟨_, rfl⟩
  rw [← hg]
  replace hg := Lib.hid hg
  go_enter Try.func57, Try.ntmps57
  go_wp2
  go_loopw [0, 1] (fun i j wr => ∃ a b : Nat, i = .int .i64 (a : Int) ∧ j = .int .i64 (b : Int) ∧ a < 9223372036854775808 ∧ b < 9223372036854775808 ∧ Hid (g = Nat.gcd a b) ∧ ∃ m, wr = w.drewN m) (fun i j _ => (intOf j).toNat)
  case atStart => exact ⟨x, y, rfl, rfl, hx, hy, hg, 0, rfl⟩
  case round =>
    obtain ⟨a, b, rfl, rfl, ha, hb, hG, m, rfl⟩ := hrel
    by_cases h0 : b = 0
    · subst h0
      go_wp2
      go_ret
      exact ⟨by rw [hG.out]; simp, m, rfl⟩
    · have e1 : ¬ (b : Int) = 0 := by omega
      have hm := Nat.mod_lt a (Nat.pos_of_ne_zero h0)
      go_wp2
      go_quiet (fail)
      go_wp2
      go_round
      case rel => exact ⟨b, a % b, rfl, by simp, hb, by omega, Lib.hid (by rw [hG.out, gcd_step h0]), m + _, World.drewN_drewN _ _ _⟩
      case measure => simp [intOf]; omega
set_option maxHeartbeats 2000000 in
theorem rgcd_any (x : Int) (y : Nat) (w : World) (h0 : -9223372036854775808 < x) (h1 : x < 9223372036854775808) (hy : y < 9223372036854775808) :
    Calls Try.prog 57 #[.int .i64 x, .int .i64 (y : Int)] w fun e w' => e = .returned (.int .i64 ((Nat.gcd x.natAbs y : Nat) : Int)) ∧ ∃ m, w' = w.drewN m := by
  by_cases hn : x < 0
  · obtain ⟨n, hn2⟩ : ∃ n : Nat, n = x.natAbs := ⟨_, rfl⟩
    have hx : x = -(n : Int) := by omega
    rw [← hn2]
    have hn3 : n < 9223372036854775808 := by omega
    subst hx
    have hn4 : 0 < n := by omega
    clear hn2 h0 h1 hn
    obtain ⟨g, hg⟩ : ∃ g, g = Nat.gcd n y := ⟨_, rfl⟩
    rw [← hg]
    replace hg := Lib.hid hg
    go_enter Try.func57, Try.ntmps57
    go_wp2
    go_loopw [0, 1] (fun i j wr => ∃ a b : Nat, i = .int .i64 (a : Int) ∧ j = .int .i64 (b : Int) ∧ a < 9223372036854775808 ∧ b < 9223372036854775808 ∧ Hid (g = Nat.gcd a b) ∧ ∃ m, wr = w.drewN m) (fun i j _ => (intOf j).toNat)
    case atStart => exact ⟨n, y, rfl, rfl, hn3, hy, hg, 0, rfl⟩
    case round =>
      obtain ⟨a, b, rfl, rfl, ha, hb, hG, m, rfl⟩ := hrel
      by_cases h0 : b = 0
      · subst h0
        go_wp2
        go_ret
        exact ⟨by rw [hG.out]; simp, m, rfl⟩
      · have e1 : ¬ (b : Int) = 0 := by omega
        have hm := Nat.mod_lt a (Nat.pos_of_ne_zero h0)
        go_wp2
        go_quiet (fail)
        go_wp2
        go_round
        case rel => exact ⟨b, a % b, rfl, by simp, hb, by omega, Lib.hid (by rw [hG.out, gcd_step h0]), m + _, World.drewN_drewN _ _ _⟩
        case measure => simp [intOf]; omega
  · obtain ⟨n, rfl⟩ : ∃ n : Nat, x = n := ⟨x.toNat, by omega⟩
    rw [Int.natAbs_natCast]
    exact rgcd_nat n y w (by omega) hy
/-- The common base of two denominators, as the reference computes it. -/
def baseN (a b : Nat) : Nat := if 4294967296 < a ∨ 4294967296 < b then 0 else if 4294967296 / b < a / Nat.gcd a b then 0 else a / Nat.gcd a b * b
set_option maxRecDepth 100000 in
set_option maxHeartbeats 4000000 in
theorem base_any (k : Int) (nm : ByteArray) (an sn : Int) (a b : Nat) (sm : Bool) (w : World) (a0 : 1 ≤ a) (b0 : 1 ≤ b) (a1 : a < 9223372036854775808) (b1 : b < 9223372036854775808) :
    Calls Try.prog 56 #[.agg #[.int .i64 k, .string nm, .int .i64 an, .int .i64 (a : Int), .int .i64 sn, .int .i64 (b : Int), .bool sm]] w fun e w' => e = .returned (.int .i64 (baseN a b : Int)) ∧ Below w.heap.size w w' := by
  obtain ⟨B, hB⟩ : ∃ B, B = baseN a b := ⟨_, rfl⟩
  rw [← hB]
  have HBB := Lib.hid hB
  clear hB
  go_enter Try.func56, Try.ntmps56
  by_cases h1 : 4294967296 < a
  · have g1 : decide ((a : Int) > 4294967296) = true := decide_eq_true (by omega)
    go_wp2_with fail
    go_ret
    refine ⟨?_, below_box w _⟩
    rw [HBB.out]
    simp [baseN, h1]
  have g1 : decide ((a : Int) > 4294967296) = false := decide_eq_false (by omega)
  by_cases h2 : 4294967296 < b
  · have g2 : decide ((b : Int) > 4294967296) = true := decide_eq_true (by omega)
    go_wp2_with fail
    go_ret
    refine ⟨?_, below_box w _⟩
    rw [HBB.out]
    simp [baseN, h2]
  have g2 : decide ((b : Int) > 4294967296) = false := decide_eq_false (by omega)
  have HG := Lib.hid (fun w => rgcd_any (a : Int) b w (by omega) (by omega) (by omega))
  rw [Int.natAbs_natCast] at HG
  obtain ⟨g, hg⟩ : ∃ g, g = Nat.gcd a b := ⟨_, rfl⟩
  rw [← hg] at HG
  have hg0 : 0 < g := by rw [hg]; exact Nat.gcd_pos_of_pos_left _ a0
  have hg1 : g ≤ a := by rw [hg]; exact Nat.gcd_le_left _ a0
  have hgi : ¬ (g : Int) = 0 := by omega
  have hbi : ¬ (b : Int) = 0 := by omega
  have HGG := Lib.hid hg
  clear hg
  go_upto_region 3 with fail
  go_quiet (first | (go_at_call 57; exact Calls.quiet_of (HG.out _)))
  go_upto_region 4 with fail
  obtain ⟨q, hq⟩ : ∃ q, q = a / g := ⟨_, rfl⟩
  have hqi : (a : Int) / (g : Int) = (q : Int) := by rw [hq]; exact (Int.natCast_ediv a g).symm
  have hq1 : q ≤ 4294967296 := by rw [hq]; exact Nat.le_trans (Nat.div_le_self _ _) (by omega)
  rw [hqi, show wrap64 (q : Int) = (q : Int) from wrap_in _ (by omega)]
  obtain ⟨r, hr⟩ : ∃ r, r = 4294967296 / b := ⟨_, rfl⟩
  have hri : (4294967296 : Int) / (b : Int) = (r : Int) := by rw [hr]; exact (Int.natCast_ediv 4294967296 b).symm
  have hrt : (4294967296 : Int).tdiv (b : Int) = (r : Int) := by rw [Int.tdiv_eq_ediv_of_nonneg (by decide)]; exact hri
  have hrb : r * b ≤ 4294967296 := by rw [hr]; exact Nat.div_mul_le_self _ _
  have HQ := Lib.hid hq
  have HR := Lib.hid hr
  have HB2 : B = if r < q then 0 else q * b := by
    rw [HBB.out]
    unfold baseN
    rw [if_neg (by omega), ← HGG.out, ← HQ.out, ← HR.out]
  have HBB2 := Lib.hid HB2
  clear hq hqi hr HB2
  have hrw : wrap64 (r : Int) = (r : Int) := wrap_in _ (by have : r ≤ 4294967296 := Nat.le_trans (Nat.le_mul_of_pos_right r b0) hrb; omega)
  by_cases h3 : r < q
  · have g3 : decide ((q : Int) > (r : Int)) = true := decide_eq_true (by omega)
    go_wp2_with fail
    go_ret
    refine ⟨?_, below_drewN (below_box w _) _⟩
    rw [HBB2.out, if_pos h3]
    rfl
  · have g3 : decide ((q : Int) > (r : Int)) = false := decide_eq_false (by omega)
    have hm : q * b ≤ 4294967296 := Nat.le_trans (Nat.mul_le_mul_right b (by omega)) hrb
    have g4 : decide ((4294967296 : Int) / (b : Int) < (q : Int)) = false := by rw [hri]; exact g3
    have HM := Lib.hid hm
    clear hm hrb hrw hri hrt g3
    go_wp2_with fail
    go_ret
    refine ⟨?_, below_drewN (below_box w _) _⟩
    rw [HBB2.out, if_neg h3]
    have hm := HM.out
    rw [← Int.natCast_mul, show wrap64 ((q * b : Nat) : Int) = ((q * b : Nat) : Int) from wrap_in _ (by omega)]
    rfl
/-- The reference's within: the magnitude n / d is at most m. -/
def withinN (n d m : Nat) : Bool := decide (n / d < m) || (decide (n / d = m) && decide (n % d = 0))
set_option maxRecDepth 100000 in
set_option maxHeartbeats 4000000 in
theorem rwithin_any (x : Int) (d m : Nat) (w : World) (h0 : -9223372036854775808 < x) (h1 : x < 9223372036854775808) (d0 : 1 ≤ d) (d1 : d < 9223372036854775808) (m1 : m < 9223372036854775808) :
    Calls Try.prog 58 #[.agg #[.int .i64 x, .int .i64 (d : Int)], .int .i64 (m : Int)] w fun e w' => e = .returned (.bool (withinN x.natAbs d m)) ∧ Below w.heap.size w w' := by
  obtain ⟨n, hn⟩ : ∃ n : Nat, n = x.natAbs := ⟨_, rfl⟩
  rw [← hn]
  have hn1 : n < 9223372036854775808 := by omega
  have hx : x = n ∨ x = -(n : Int) ∧ 0 < n := by omega
  obtain ⟨r, hr⟩ : ∃ r, r = withinN n d m := ⟨_, rfl⟩
  rw [← hr]
  have HR := Lib.hid hr
  have HX := Lib.hid hx
  obtain ⟨q, hq⟩ : ∃ q, q = n / d := ⟨_, rfl⟩
  have hqi : (n : Int) / (d : Int) = (q : Int) := by rw [hq]; exact (Int.natCast_ediv n d).symm
  have hq1 : q ≤ n := by rw [hq]; exact Nat.div_le_self _ _
  obtain ⟨t, ht⟩ : ∃ t, t = n % d := ⟨_, rfl⟩
  have hti : (n : Int) % (d : Int) = (t : Int) := by rw [ht]; rfl
  have ht1 : t ≤ n := by rw [ht]; exact Nat.mod_le _ _
  have HRV : Hid (r = (decide (q < m) || (decide (q = m) && decide (t = 0)))) := Lib.hid (by rw [hr, hq, ht]; rfl)
  have hdi : ¬ (d : Int) = 0 := by omega
  clear hn hr hx hq ht HR
  rcases HX.out with rfl | ⟨rfl, hp⟩
  all_goals
    clear HX h0 h1
    by_cases c1 : q < m
    · have g1 : decide ((q : Int) < (m : Int)) = true := decide_eq_true (by omega)
      have hr2 : r = true := by rw [HRV.out]; simp [c1]
      rw [hr2]
      go_enter Try.func58, Try.ntmps58
      go_wp2_with fail
      go_ret
      exact ⟨rfl, below_box w _⟩
    have g1 : decide ((q : Int) < (m : Int)) = false := decide_eq_false (by omega)
    by_cases c2 : q = m
    · have g2 : ((q : Int) == (m : Int)) = true := by simp [c2]
      have hr2 : r = ((t : Int) == 0) := by rw [HRV.out, Bool.eq_iff_iff]; simp [c2]
      rw [hr2]
      clear c2
      go_enter Try.func58, Try.ntmps58
      go_wp2_with fail
      go_ret
      exact ⟨rfl, below_box w _⟩
    · have g2 : ((q : Int) == (m : Int)) = false := by simp; omega
      have hr2 : r = false := by rw [HRV.out]; simp [c1, c2]
      rw [hr2]
      go_enter Try.func58, Try.ntmps58
      go_wp2_with fail
      go_ret
      exact ⟨rfl, below_box w _⟩
end Go.Proofs.Ytnmkcpgcdjhdjaa

/- What the reference's Moved computes. -/
namespace Go.Trk
set_option linter.unusedVariables false
theorem mk_base {n d : Int} {b : Nat} (hb : 1 ≤ b) (h0 : 1 ≤ d) (hd : d ∣ (b : Int)) : mkRat n d.toNat = ((n * ((b : Int) / d) : Int) : Rat) / (b : Nat) := by
  obtain ⟨k, hk⟩ := hd
  have hk0 : 0 < k := by
    rcases Int.lt_or_le 0 k with h | h
    · exact h
    · have := Int.mul_nonpos_of_nonneg_of_nonpos (show 0 ≤ d by omega) h; omega
  have e : (b : Int) / d = k := by rw [hk]; exact Int.mul_ediv_cancel_left _ (by omega)
  rw [e]
  obtain ⟨D, rfl⟩ := Int.eq_ofNat_of_zero_le (show 0 ≤ d by omega)
  obtain ⟨K, rfl⟩ := Int.eq_ofNat_of_zero_le (show 0 ≤ k by omega)
  have hN : D * K = b := by exact_mod_cast hk.symm
  have h1 : mkRat n D = mkRat (n * K) (D * K) := (Rat.mkRat_mul_right (by omega)).symm
  rw [Int.toNat_natCast, h1, hN, Rat.mkRat_eq_div]
/-- The numerator over the common base. -/
def numB (s : Src) (n : Int) (b : Nat) : Int := s.an * ((b : Int) / s.ad) + n * s.sn * ((b : Int) / s.sd)
theorem moved_by {s : Src} (h : Good s) (n : Int) {b : Nat} (hb : 1 ≤ b) (ha : s.ad ∣ (b : Int)) (hs : s.sd ∣ (b : Int)) :
    moved s n = { s with an := numB s n b / ((Nat.gcd b (numB s n b).natAbs : Nat) : Int), ad := ((b / Nat.gcd b (numB s n b).natAbs : Nat) : Int) } := by
  have ea : s.at' = ((s.an * ((b : Int) / s.ad) : Int) : Rat) / (b : Nat) := mk_base hb h.a0 ha
  have es : s.sp = ((s.sn * ((b : Int) / s.sd) : Int) : Rat) / (b : Nat) := mk_base hb h.s0 hs
  have er : s.at' + n * s.sp = mkRat (numB s n b) b := by
    rw [ea, es, Rat.mkRat_eq_div]
    unfold numB
    rw [Rat.intCast_add, show n * s.sn * ((b : Int) / s.sd) = n * (s.sn * ((b : Int) / s.sd)) from Int.mul_assoc _ _ _, Rat.intCast_mul n, Rat.div_def, Rat.div_def, Rat.div_def, Rat.add_mul, Rat.mul_assoc]
  unfold moved
  rw [if_neg h.ne, er, Rat.num_mkRat, Rat.den_mkRat, if_neg (by omega), if_neg (by omega)]
theorem dvd_base {a d : Nat} (ha : 1 ≤ a) (hd : 1 ≤ d) : a ∣ a / Nat.gcd a d * d ∧ d ∣ a / Nat.gcd a d * d := by
  refine ⟨?_, Nat.dvd_mul_left _ _⟩
  obtain ⟨k, hk⟩ := Nat.gcd_dvd_right a d
  have h1 : a / Nat.gcd a d * Nat.gcd a d = a := Nat.div_mul_cancel (Nat.gcd_dvd_left a d)
  refine ⟨k, ?_⟩
  calc a / Nat.gcd a d * d = a / Nat.gcd a d * (Nat.gcd a d * k) := by rw [← hk]
    _ = a / Nat.gcd a d * Nat.gcd a d * k := (Nat.mul_assoc _ _ _).symm
    _ = a * k := by rw [h1]
end Go.Trk

/- The contracts of the reference's Black and Moved. -/
namespace Go.Proofs.Ytnmkcpgcdjhdjaa
open Go.RowKit
set_option linter.unusedVariables false
set_option linter.unusedSimpArgs false
set_option maxRecDepth 100000 in
set_option maxHeartbeats 4000000 in
theorem rblack_any (s : Trk.Src) (w : World) : Calls Try.prog 30 #[srcV s] w fun e w' => e = .returned (.bool (decide (s = Trk.black))) ∧ Below w.heap.size w w' := by
  have HQ := fun w => run_eq_src s Trk.black w
  obtain ⟨r, hr⟩ : ∃ r, r = decide (s = Trk.black) := ⟨_, rfl⟩
  rw [← hr] at HQ ⊢
  clear hr
  simp only [Trk.black, show (ByteArray.empty : ByteArray) = ⟨#[]⟩ from rfl] at HQ
  show Calls Try.prog 30 #[.agg #[.int .i64 s.kind, .string s.name, .int .i64 s.an, .int .i64 s.ad, .int .i64 s.sn, .int .i64 s.sd, .bool s.smooth]] w _
  go_enter Try.func30, Try.ntmps30
  go_wp2_with fail
  go_ret
  exact ⟨rfl, below_box w _⟩
theorem SVar.below {w w' : World} {g : Nat} {s : Trk.Src} (h : SVar w g s) (hb : Below w.heap.size w w') : SVar w' g s :=
  ⟨fun j v hj => (hb.cell h.lt).trans (h.c j v hj), fun o => (hb.frozen (p := ⟨g, o, none⟩) h.lt).trans (h.f o)⟩
theorem SVar.setAt {w : World} {g : Nat} {s : Trk.Src} (h : SVar w g s) (n d : Int) : SVar ((w.setCell ⟨g, 2, none⟩ (.int .i64 n)).setCell ⟨g, 3, none⟩ (.int .i64 d)) g { s with an := n, ad := d } := by
  obtain ⟨x0, x1, x2, x3, x4, x5, x6⟩ := h.at0
  refine SVar.of ?_ ?_ ?_ ?_ ?_ ?_ ?_ (fun o => by rw [World.frozen?_setCell, World.frozen?_setCell]; exact h.f o) <;> simp [go_sem, x0, x1, x2, x3, x4, x5, x6]
theorem SVar.far {w : World} {g : Nat} {s : Trk.Src} (h : SVar w g s) {g2 : Nat} (hn : g ≠ g2) (o : Nat) (v : Value) : SVar (w.setCell ⟨g2, o, none⟩ v) g s := by
  have hs : (w.setCell ⟨g2, o, none⟩ v).heap[g]? = w.heap[g]? := by simp [World.setCell, Array.getElem?_modify, hn.symm]
  exact ⟨fun j v hj => (World.cell?_of_block (a := ⟨g, 0 + j, none⟩) hs).trans (h.c j v hj), fun o => (World.frozen?_of_block (a := ⟨g, o, none⟩) hs).trans (h.f o)⟩
theorem results_src2 {fn : Func} {tmps : Array Value} {w : World} {t r : Tmp} {g : Nat} {s : Trk.Src} {x : Value} (hr : fn.results = #[.cell t 51, .tmp r]) (ht : tmps.getD t undef = .pointer (some ⟨g, 0, none⟩)) (hx : tmps.getD r undef = x) (hc : SVar w g s) :
    (results fn tmps).run Try.prog w = .ok (.tuple #[srcV s, x]) w := by
  have h := run_loadVar_mid (P := Try.prog) w g 0 51 (srcC s) _ hc.c Try.underlying51 rfl (by kernel_rfl)
  obtain ⟨C, hC⟩ : ∃ C, C = (srcC s).toArray := ⟨_, rfl⟩
  unfold srcV
  rw [← hC] at h ⊢
  unfold results
  rw [hr]
  have ht2 : tmps[t]?.getD undef = .pointer (some ⟨g, 0, none⟩) := by rw [← Array.getD_eq_getD_getElem?]; exact ht
  have hx2 : tmps[r]?.getD undef = x := by rw [← Array.getD_eq_getD_getElem?]; exact hx
  simp [ht2, hx2, asAddr, h]
set_option maxRecDepth 100000 in
set_option maxHeartbeats 8000000 in
theorem rmoved_core (k : Int) (nm : ByteArray) (an sn : Int) (a d : Nat) (sm : Bool) (n : Int) (w : World) (hne : (⟨k, nm, an, (a : Int), sn, (d : Int), sm⟩ : Trk.Src) ≠ Trk.black) (a0 : 1 ≤ a) (d0 : 1 ≤ d) (a1 : a ≤ 6006) (d1 : d ≤ 6006) (b : Nat) (hb : b = baseN a d) (b0 : 1 ≤ b) (b1 : b ≤ 40000000)
    (e1 e2 : Nat) (he1 : (b : Int) / (a : Int) = (e1 : Int)) (he2 : (b : Int) / (d : Int) = (e2 : Int)) (X1 X2 X3 : Int) (h1 : an * (e1 : Int) = X1) (h2 : n * sn = X2) (h3 : X2 * (e2 : Int) = X3)
    (b3 : -1000000000000000 ≤ X1 ∧ X1 ≤ 1000000000000000) (b4 : -1000000000 ≤ X2 ∧ X2 ≤ 1000000000) (b5 : -1000000000000000 ≤ X3 ∧ X3 ≤ 1000000000000000) (b6 : an.natAbs ≤ 1000000000000) (b7 : n.natAbs ≤ 100000) (b8 : sn.natAbs ≤ 100000) (b9 : e1 ≤ 40000000) (b10 : e2 ≤ 40000000)
    (g : Nat) (hg : g = Nat.gcd (X1 + X3).natAbs b) (g0 : 1 ≤ g) (g1 : g ≤ b) (N' : Int) (D' : Nat) (hN : (X1 + X3).tdiv (g : Int) = N') (hD : (b : Int) / (g : Int) = (D' : Int)) (D0 : 1 ≤ D') (D1 : D' ≤ 40000000) (N0 : N'.natAbs ≤ 4000000000000000) (hw : withinN N'.natAbs D' 1099511627776 = true) :
    Calls Try.prog 32 #[srcV ⟨k, nm, an, (a : Int), sn, (d : Int), sm⟩, .int .i64 n] w fun e w' => e = .returned (.tuple #[srcV ⟨k, nm, N', (D' : Int), sn, (d : Int), sm⟩, .bool true]) ∧ Below w.heap.size w w' := by
  obtain ⟨s, hs⟩ : ∃ s : Trk.Src, s = ⟨k, nm, an, (a : Int), sn, (d : Int), sm⟩ := ⟨_, rfl⟩
  have HBL := Lib.hid (fun w => rblack_any ⟨k, nm, an, (a : Int), sn, (d : Int), sm⟩ w)
  rw [decide_eq_false hne] at HBL
  have HBA := Lib.hid (fun w => base_any k nm an sn a d sm w a0 d0 (by omega) (by omega))
  rw [← hb] at HBA
  have HGC := Lib.hid (fun w => rgcd_any (X1 + X3) b w (by omega) (by omega) (by omega))
  rw [← hg] at HGC
  have HWI := Lib.hid (fun w => rwithin_any N' D' 1099511627776 w (by omega) (by omega) D0 (by omega) (by decide))
  rw [hw] at HWI
  replace HBL : Hid (∀ w, Calls Try.prog 30 #[.agg #[.int .i64 k, .string nm, .int .i64 an, .int .i64 (a : Int), .int .i64 sn, .int .i64 (d : Int), .bool sm]] w fun e w' => e = .returned (.bool false) ∧ Below w.heap.size w w') := HBL
  show Calls Try.prog 32 #[.agg #[.int .i64 k, .string nm, .int .i64 an, .int .i64 (a : Int), .int .i64 sn, .int .i64 (d : Int), .bool sm], .int .i64 n] w _
  clear hb hg hw hne hs
  go_enter Try.func32, Try.ntmps32
  go_upto_region 1 with fail
  obtain ⟨w1, hw1⟩ : ∃ y, y = (w.alloc (.cells #[.int .i64 k, .string nm, .int .i64 an, .int .i64 (a : Int), .int .i64 sn, .int .i64 (d : Int), .bool sm] 51)).alloc (.cells #[.int .i64 0, .string ⟨#[]⟩, .int .i64 0, .int .i64 0, .int .i64 0, .int .i64 0, .bool false] 51) := ⟨_, rfl⟩
  rw [← hw1]
  have HS := Lib.hid (show SVar w1 w.heap.size ⟨k, nm, an, (a : Int), sn, (d : Int), sm⟩ by
    rw [hw1]
    exact (SVar.box w ⟨k, nm, an, (a : Int), sn, (d : Int), sm⟩ 51).below (below_box _ _))
  have HZ := Lib.hid (show SVar w1 (w.heap.size + 1) Trk.black by
    have h2 := SVar.box (w.alloc (.cells #[.int .i64 k, .string nm, .int .i64 an, .int .i64 (a : Int), .int .i64 sn, .int .i64 (d : Int), .bool sm] 51)) Trk.black 51
    rw [show (w.alloc (.cells #[.int .i64 k, .string nm, .int .i64 an, .int .i64 (a : Int), .int .i64 sn, .int .i64 (d : Int), .bool sm] 51)).heap.size = w.heap.size + 1 by simp] at h2
    rw [hw1]
    exact h2)
  have HB := Lib.hid (show Below w.heap.size w w1 by rw [hw1]; exact ((Below.refl _ _).alloc (Nat.le_refl _) _).alloc (by simp) _)
  obtain ⟨g1, hg1⟩ : ∃ g, g = w.heap.size := ⟨_, rfl⟩
  obtain ⟨g2, hg2⟩ : ∃ g, g = w.heap.size + 1 := ⟨_, rfl⟩
  rw [← hg2] at HZ ⊢
  rw [← hg1] at HS ⊢
  have HG := Lib.hid (show w.heap.size ≤ g1 ∧ w.heap.size ≤ g2 ∧ g1 ≠ g2 by omega)
  clear hw1 hg1 hg2
  obtain ⟨x0, x1, x2, x3, x4, x5, x6⟩ := HS.out.at0
  go_wp2_with fail
  refine (HBL.out _).mono ?_
  rintro e w2 ⟨rfl, hb⟩
  replace HS := Lib.hid (HS.out.below hb)
  replace HZ := Lib.hid (HZ.out.below hb)
  replace HB := Lib.hid (HB.out.trans (hb.mono HB.out.size))
  clear hb x0 x1 x2 x3 x4 x5 x6
  obtain ⟨x0, x1, x2, x3, x4, x5, x6⟩ := HS.out.at0
  go_wp2_with fail
  refine (HBA.out _).mono ?_
  rintro e w3 ⟨rfl, hb⟩
  replace HS := Lib.hid (HS.out.below hb)
  replace HZ := Lib.hid (HZ.out.below hb)
  replace HB := Lib.hid (HB.out.trans (hb.mono HB.out.size))
  clear hb x0 x1 x2 x3 x4 x5 x6
  obtain ⟨x0, x1, x2, x3, x4, x5, x6⟩ := HS.out.at0
  have hai : ¬ (a : Int) = 0 := by omega
  have hdi : ¬ (d : Int) = 0 := by omega
  go_upto_region 4 with fail
  go_quiet (fail)
  go_upto_region 5 with fail
  obtain ⟨w4, hw4⟩ : ∃ q, q = w3.drewN nq := ⟨_, rfl⟩
  rw [← hw4]
  have hb : Below w3.heap.size w3 w4 := by rw [hw4]; exact below_drewN (Below.refl _ _) _
  replace HS := Lib.hid (HS.out.below hb)
  replace HZ := Lib.hid (HZ.out.below hb)
  replace HB := Lib.hid (HB.out.trans (hb.mono HB.out.size))
  clear hb hw4 x0 x1 x2 x3 x4 x5 x6 h1 h2 h3 he1 he2
  go_wp2_with fail
  refine (HGC.out _).mono ?_
  rintro e w5 ⟨rfl, nn, hnn⟩
  have hb : Below w4.heap.size w4 w5 := by rw [hnn]; exact below_drewN (Below.refl _ _) _
  replace HS := Lib.hid (HS.out.below hb)
  replace HZ := Lib.hid (HZ.out.below hb)
  replace HB := Lib.hid (HB.out.trans (hb.mono HB.out.size))
  clear hb hnn
  have hgi : ¬ (g : Int) = 0 := by omega
  go_upto_region 6 with fail
  refine Plan.wp_region_plan (fun w' => SVar w' g2 Trk.black) (([0, 1, 2, 3, 4, 5, 6, 7].map (·, true)) ++ ([8].map (·, false))) (by kernel_rfl) (by kernel_rfl) (by kernel_rfl) (HZ.out.below (Below.refl _ _).drew) ?_
  refine' Plan.plan_seg _ [0, 1, 2, 3, 4, 5, 6, 7] ([8].map (·, false)) (by kernel_rfl) (by kernel_rfl) rfl (by exact HZ.out.below (Below.refl _ _).drew) (fun wx hS => ?_) ?_
  rotate_left
  · clear hS
    go_light
    iterate 8 (apply Plan.seg_pick; rfl; intro K hK; go_wp)
    exact Plan.seg_nil
  obtain ⟨w6, hw6⟩ : ∃ q, q = w5.drew := ⟨_, rfl⟩
  rw [← hw6]
  have hb : Below w5.heap.size w5 w6 := by rw [hw6]; exact (Below.refl _ _).drew
  replace HS := Lib.hid (HS.out.below hb)
  replace HZ := Lib.hid (HZ.out.below hb)
  replace HB := Lib.hid (HB.out.trans (hb.mono HB.out.size))
  clear hb hw6
  obtain ⟨x0, x1, x2, x3, x4, x5, x6⟩ := HS.out.at0
  have f2 := HS.out.f 2
  have f3 := HS.out.f 3
  refine Plan.plan_of_effect rfl (fun K hK => ?_)
  go_wp2_with fail
  refine ⟨(HZ.out.far HG.out.2.2.symm 2 (.int .i64 N')).far HG.out.2.2.symm 3 (.int .i64 (D' : Int)), ?_⟩
  refine Plan.plan_done ?_
  replace HS := Lib.hid (HS.out.setAt N' (D' : Int))
  replace HZ := Lib.hid ((HZ.out.far HG.out.2.2.symm 2 (.int .i64 N')).far HG.out.2.2.symm 3 (.int .i64 (D' : Int)))
  replace HB := Lib.hid ((HB.out.setCell (p := ⟨g1, 2, none⟩) HG.out.1 (.int .i64 N')).setCell (p := ⟨g1, 3, none⟩) HG.out.1 (.int .i64 (D' : Int)))
  obtain ⟨w7, hw7⟩ : ∃ q, q = (w6.setCell ⟨g1, 2, none⟩ (.int .i64 N')).setCell ⟨g1, 3, none⟩ (.int .i64 (D' : Int)) := ⟨_, rfl⟩
  rw [← hw7] at HS HZ HB ⊢
  clear hw7 x0 x1 x2 x3 x4 x5 x6 f2 f3
  go_upto_region 7 with fail
  refine Plan.wp_region_plan (fun w' => SVar w' g1 ⟨k, nm, N', (D' : Int), sn, (d : Int), sm⟩) (([0, 1, 2].map (·, true)) ++ (([3, 4].map (·, false)) ++ ([5].map (·, true)))) (by kernel_rfl) (by kernel_rfl) (by kernel_rfl) (HS.out.below (Below.refl _ _).drew) ?_
  refine' Plan.plan_seg _ [0, 1, 2] (([3, 4].map (·, false)) ++ ([5].map (·, true))) (by kernel_rfl) (by kernel_rfl) rfl (by exact HS.out.below (Below.refl _ _).drew) (fun wx hS => ?_) ?_
  rotate_left
  · have HS2 := Lib.hid hS
    obtain ⟨x0, x1, x2, x3, x4, x5, x6⟩ := hS.at0
    clear hS
    go_light
    (apply Plan.seg_pick; rfl; intro K hK)
    refine wpl_loadS _ rfl HS2.out.c rfl rfl rfl ?_
    go_wp
    iterate 2 (apply Plan.seg_pick; rfl; intro K hK; go_wp)
    exact Plan.seg_nil
  obtain ⟨w8, hw8⟩ : ∃ q, q = w7.drew := ⟨_, rfl⟩
  rw [← hw8]
  have hb : Below w7.heap.size w7 w8 := by rw [hw8]; exact (Below.refl _ _).drew
  replace HS := Lib.hid (HS.out.below hb)
  replace HZ := Lib.hid (HZ.out.below hb)
  replace HB := Lib.hid (HB.out.trans (hb.mono HB.out.size))
  clear hb hw8
  refine Plan.plan_of_effect rfl (fun K hK => ?_)
  go_wp2_with fail
  refine (HWI.out _).mono ?_
  rintro e w9 ⟨rfl, hb⟩
  replace HS := Lib.hid (HS.out.below hb)
  replace HZ := Lib.hid (HZ.out.below hb)
  replace HB := Lib.hid (HB.out.trans (hb.mono HB.out.size))
  clear hb
  go_wp2_with fail
  refine ⟨HS.out, ?_⟩
  refine Plan.plan_of_effect rfl (fun K hK => ?_)
  refine wpl_storeS ⟨k, nm, N', (D' : Int), sn, (d : Int), sm⟩ none rfl HZ.out.there rfl rfl rfl rfl ?_
  have hput := HZ.out.put ⟨k, nm, N', (D' : Int), sn, (d : Int), sm⟩
  have hsta : SVar (w9.setCells g2 0 (srcC ⟨k, nm, N', (D' : Int), sn, (d : Int), sm⟩)) g1 ⟨k, nm, N', (D' : Int), sn, (d : Int), sm⟩ := by
    have hs : (w9.setCells g2 0 (srcC ⟨k, nm, N', (D' : Int), sn, (d : Int), sm⟩)).heap[g1]? = w9.heap[g1]? := setCells_other g2 g1 HG.out.2.2 _ _ _
    exact ⟨fun j v hj => (World.cell?_of_block (a := ⟨g1, 0 + j, none⟩) hs).trans (HS.out.c j v hj), fun o => (World.frozen?_of_block (a := ⟨g1, o, none⟩) hs).trans (HS.out.f o)⟩
  have hbel := below_setCells g2 HG.out.2.1 (srcC ⟨k, nm, N', (D' : Int), sn, (d : Int), sm⟩) 0 _ HB.out
  have HP := Lib.hid (And.intro hput hbel)
  have HT := Lib.hid hsta
  obtain ⟨w10, hw10⟩ : ∃ q, q = w9.setCells g2 0 (srcC ⟨k, nm, N', (D' : Int), sn, (d : Int), sm⟩) := ⟨_, rfl⟩
  rw [← hw10] at HP HT ⊢
  clear hw10 hput hbel hsta
  go_wp2_with fail
  refine ⟨HT.out, ?_⟩
  refine' Plan.plan_seg _ [5] [] (by kernel_rfl) (by kernel_rfl) rfl (by exact HT.out) (fun wx hS => ?_) ?_
  rotate_left
  · clear hS
    go_light
    iterate 1 (apply Plan.seg_pick; rfl; intro K hK; go_wp)
    exact Plan.seg_nil
  refine Plan.plan_done ?_
  iterate 3 go_step
  refine bodyPost_ret (v := .tuple #[srcV ⟨k, nm, N', (D' : Int), sn, (d : Int), sm⟩, .bool true]) (results_src2 Try.results32 rfl rfl HP.out.1) rfl ⟨rfl, HP.out.2⟩
theorem baseN_of {a d : Nat} (a0 : 1 ≤ a) (a1 : a ≤ 6006) (d0 : 1 ≤ d) (d1 : d ≤ 6006) : baseN a d = a / Nat.gcd a d * d := by
  unfold baseN
  have h1 : 715112 ≤ 4294967296 / d := (Nat.le_div_iff_mul_le d0).2 (by omega)
  have h2 : a / Nat.gcd a d ≤ a := Nat.div_le_self _ _
  rw [if_neg (by omega), if_neg (by omega)]
theorem rmoved_any (s : Trk.Src) (n : Int) (w : World) (h : Trk.Lat s) (ha : s.an.natAbs ≤ 1000000) (hs : s.sn.natAbs ≤ 18018) (hn : n.natAbs ≤ 1000) :
    Calls Try.prog 32 #[srcV s, .int .i64 n] w fun e w' => e = .returned (.tuple #[srcV (Trk.moved s n), .bool true]) ∧ Below w.heap.size w w' := by
  obtain ⟨hg, hda, hds⟩ := h
  have hne := hg.ne
  have hmv := fun b h1 h2 h3 => Trk.moved_by hg n (b := b) h1 h2 h3
  obtain ⟨k, nm, an, ad, sn, sd, sm⟩ := s
  have hA0 : 1 ≤ ad := hg.a0
  have hD0 : 1 ≤ sd := hg.s0
  have hA1 : ad ≤ 6006 := Int.le_of_dvd (by decide) hda
  have hD1 : sd ≤ 6006 := Int.le_of_dvd (by decide) hds
  obtain ⟨a, rfl⟩ := Int.eq_ofNat_of_zero_le (show 0 ≤ ad by omega)
  obtain ⟨d, rfl⟩ := Int.eq_ofNat_of_zero_le (show 0 ≤ sd by omega)
  clear hg hda hds
  simp only at ha hs
  have a0 : 1 ≤ a := by omega
  have d0 : 1 ≤ d := by omega
  have a1 : a ≤ 6006 := by omega
  have d1 : d ≤ 6006 := by omega
  obtain ⟨b, hb⟩ : ∃ b, b = baseN a d := ⟨_, rfl⟩
  have hb2 := hb
  rw [baseN_of a0 a1 d0 d1] at hb2
  have hdv := Trk.dvd_base a0 d0
  rw [← hb2] at hdv
  have hq0 : 1 ≤ a / Nat.gcd a d := Nat.div_pos (Nat.gcd_le_left _ a0) (Nat.gcd_pos_of_pos_left _ a0)
  have hq1 : a / Nat.gcd a d ≤ 6006 := Nat.le_trans (Nat.div_le_self _ _) a1
  have b0 : 1 ≤ b := by rw [hb2]; exact Nat.mul_pos hq0 d0
  have b1 : b ≤ 6006 * 6006 := by rw [hb2]; exact Nat.mul_le_mul hq1 d1
  obtain ⟨e1, he1⟩ : ∃ e, e = b / a := ⟨_, rfl⟩
  obtain ⟨e2, he2⟩ : ∃ e, e = b / d := ⟨_, rfl⟩
  have e10 : e1 ≤ b := by rw [he1]; exact Nat.div_le_self _ _
  have e20 : e2 ≤ b := by rw [he2]; exact Nat.div_le_self _ _
  have i1 : (b : Int) / (a : Int) = (e1 : Int) := by rw [he1]; exact (Int.natCast_ediv b a).symm
  have i2 : (b : Int) / (d : Int) = (e2 : Int) := by rw [he2]; exact (Int.natCast_ediv b d).symm
  have hm := hmv b b0 (Int.ofNat_dvd.2 hdv.1) (Int.ofNat_dvd.2 hdv.2)
  unfold Trk.numB at hm
  simp only [i1, i2] at hm
  obtain ⟨X1, hX1⟩ : ∃ X, X = an * (e1 : Int) := ⟨_, rfl⟩
  obtain ⟨X2, hX2⟩ : ∃ X, X = n * sn := ⟨_, rfl⟩
  obtain ⟨X3, hX3⟩ : ∃ X, X = X2 * (e2 : Int) := ⟨_, rfl⟩
  rw [← hX2, ← hX1, ← hX3] at hm
  have m1 : X1.natAbs ≤ 1000000 * b := by rw [hX1, Int.natAbs_mul, Int.natAbs_natCast]; exact Nat.mul_le_mul ha e10
  have m2 : X2.natAbs ≤ 18018000 := by rw [hX2, Int.natAbs_mul]; exact Nat.mul_le_mul hn hs
  have m3 : X3.natAbs ≤ 18018000 * b := by rw [hX3, Int.natAbs_mul, Int.natAbs_natCast]; exact Nat.mul_le_mul m2 e20
  obtain ⟨N, hN⟩ : ∃ N, N = X1 + X3 := ⟨_, rfl⟩
  have m4 : N.natAbs ≤ 20000000 * b := by omega
  rw [← hN] at hm
  obtain ⟨g, hg⟩ : ∃ g, g = Nat.gcd N.natAbs b := ⟨_, rfl⟩
  rw [Nat.gcd_comm b, ← hg] at hm
  have g0 : 1 ≤ g := by rw [hg]; exact Nat.gcd_pos_of_pos_right _ b0
  have g1 : g ≤ b := by rw [hg]; exact Nat.gcd_le_right _ b0
  have gN : (g : Int) ∣ N := Int.ofNat_dvd_left.2 (by rw [hg]; exact Nat.gcd_dvd_left _ _)
  have gb : g ∣ b := by rw [hg]; exact Nat.gcd_dvd_right _ _
  obtain ⟨D, hD⟩ : ∃ D, D = b / g := ⟨_, rfl⟩
  obtain ⟨M, hM⟩ : ∃ M, M = N / (g : Int) := ⟨_, rfl⟩
  rw [← hD, ← hM] at hm
  have hDg : D * g = b := by rw [hD]; exact Nat.div_mul_cancel gb
  have hMg : M * (g : Int) = N := by rw [hM]; exact Int.ediv_mul_cancel gN
  have D0 : 1 ≤ D := by rw [hD]; exact Nat.div_pos g1 g0
  have D1 : D ≤ b := by rw [hD]; exact Nat.div_le_self _ _
  have hM1 : M.natAbs * g = N.natAbs := by rw [← hMg, Int.natAbs_mul, Int.natAbs_natCast]
  have hM2 : M.natAbs ≤ 20000000 * D := by
    refine Nat.le_of_mul_le_mul_right (c := g) ?_ g0
    rw [hM1, Nat.mul_assoc, hDg]
    exact m4
  have hw : withinN M.natAbs D 1099511627776 = true := by
    have h1 : M.natAbs / D < 1099511627776 := by
      refine Nat.lt_of_le_of_lt (Nat.div_le_of_le_mul (k := D) (n := 20000000) (by rw [Nat.mul_comm]; exact hM2)) (by decide)
    simp [withinN, h1]
  have ht : N.tdiv (g : Int) = M := by rw [hM]; exact Int.tdiv_eq_ediv_of_dvd gN
  have hDi : (b : Int) / (g : Int) = (D : Int) := by rw [hD]; exact (Int.natCast_ediv b g).symm
  rw [hm]
  exact rmoved_core k nm an sn a d sm n w hne a0 d0 a1 d1 b hb b0 (by omega) e1 e2 i1 i2 X1 X2 X3 hX1.symm hX2.symm hX3.symm (by omega) (by omega) (by omega) (by omega) (by omega) (by omega) (by omega) (by omega) g (by rw [← hN]; exact hg) g0 g1 M D (by rw [← hN]; exact ht) hDi D0 (by omega) (by omega) hw
end Go.Proofs.Ytnmkcpgcdjhdjaa

/- Names and lines of any text: the program and the reference alike. -/
namespace Go.Proofs.Ytnmkcpgcdjhdjaa
open Go.RowKit
set_option linter.unusedVariables false
set_option linter.unusedSimpArgs false
def NC (c : Nat) : Prop := (97 ≤ c ∧ c ≤ 122) ∨ (48 ≤ c ∧ c ≤ 57) ∨ c = 45 ∨ c = 95 ∨ c = 46
def LC (c : Nat) : Prop := 32 ≤ c ∧ c ≤ 126
/-- A text of 1 to m bytes, each of which is of a kind P. -/
structure TextP (P : Nat → Prop) (m : Nat) (s : ByteArray) : Prop where
  l : 1 ≤ s.size
  m : s.size ≤ m
  c : ∀ i (hi : i < s.size), P (s[i].toNat)
open Classical in
noncomputable def nameB (s : ByteArray) : Bool := decide (TextP NC 32 s)
open Classical in
noncomputable def lineB (s : ByteArray) : Bool := decide (TextP LC 64 s)
open Classical in
theorem nameB_yes {s : ByteArray} (h : TextP NC 32 s) : nameB s = true := decide_eq_true h
open Classical in
theorem nameB_no {s : ByteArray} (h : ¬ TextP NC 32 s) : nameB s = false := decide_eq_false h
open Classical in
theorem lineB_yes {s : ByteArray} (h : TextP LC 64 s) : lineB s = true := decide_eq_true h
open Classical in
theorem lineB_no {s : ByteArray} (h : ¬ TextP LC 64 s) : lineB s = false := decide_eq_false h
set_option maxRecDepth 100000 in
set_option maxHeartbeats 8000000 in
theorem line_all (s : ByteArray) (w : World) (hs : s.size < 9223372036854775808) : Calls Try.prog 89 #[.string s] w fun e w' => e = .returned (.bool (lineB s)) ∧ w = w' := by
  go_enter Try.func89, Try.ntmps89
  by_cases h1 : s.size < 1
  · have g1 : decide ((s.size : Int) < 1) = true := decide_eq_true (by omega)
    have hr := lineB_no (s := s) (fun h => by have := h.l; omega)
    rw [hr]
    go_wp2_with fail
    go_ret
    exact ⟨rfl, rfl⟩
  have g1 : decide ((s.size : Int) < 1) = false := decide_eq_false (by omega)
  by_cases h2 : 64 < s.size
  · have g2 : decide ((s.size : Int) > 64) = true := decide_eq_true (by omega)
    have hr := lineB_no (s := s) (fun h => by have := h.m; omega)
    rw [hr]
    go_wp2_with fail
    go_ret
    exact ⟨rfl, rfl⟩
  have g2 : decide ((s.size : Int) > 64) = false := decide_eq_false (by omega)
  go_wp2_with fail
  go_loop [14] (fun i => ∃ k : Nat, k ≤ s.size ∧ i = .int .i64 (k : Int) ∧ ∀ j (hj : j < s.size), j < k → LC (s[j].toNat)) (fun i => s.size - (intOf i).toNat)
  case atStart => exact ⟨0, Nat.zero_le _, rfl, fun j _ h => absurd h (Nat.not_lt_zero j)⟩
  case round =>
    obtain ⟨k, hk, rfl, hL⟩ := hrel
    have HL := Lib.hid hL
    clear hL
    by_cases hlt : k < s.size
    · have hlt' : (k : Int) < (s.size : Int) := by omega
      go_wp2_with fail
      all_goals first
        | (exfalso; omega)
        | (go_ret
           have hr := lineB_no (s := s) (fun h => by have h3 := h.c k hlt; unfold LC at h3; omega)
           exact ⟨by rw [hr]; rfl, rfl⟩)
        | exact ⟨⟨k + 1, by omega, by simp, fun j hj hk2 => by
            rcases Nat.lt_or_ge j k with h | h
            · exact HL.out j hj h
            · have e : j = k := by omega
              subst e
              unfold LC
              omega⟩, by simp [intOf]; omega⟩
        | skip
    · have hkl : k = s.size := by omega
      have hr := lineB_yes (s := s) ⟨by omega, by omega, fun i hi => HL.out i hi (by omega)⟩
      clear hkl
      have HRR := Lib.hid hr
      clear hr
      go_wp2_with fail
      go_ret
      exact ⟨by rw [HRR.out]; rfl, rfl⟩
set_option maxRecDepth 100000 in
set_option maxHeartbeats 8000000 in
theorem name_all (s : ByteArray) (w : World) (hs : s.size < 9223372036854775808) : Calls Try.prog 97 #[.string s] w fun e w' => e = .returned (.bool (nameB s)) ∧ w = w' := by
  go_enter Try.func97, Try.ntmps97
  by_cases h1 : s.size < 1
  · have g1 : decide ((s.size : Int) < 1) = true := decide_eq_true (by omega)
    have hr := nameB_no (s := s) (fun h => by have := h.l; omega)
    rw [hr]
    go_wp2_with fail
    go_ret
    exact ⟨rfl, rfl⟩
  have g1 : decide ((s.size : Int) < 1) = false := decide_eq_false (by omega)
  by_cases h2 : 32 < s.size
  · have g2 : decide ((s.size : Int) > 32) = true := decide_eq_true (by omega)
    have hr := nameB_no (s := s) (fun h => by have := h.m; omega)
    rw [hr]
    go_wp2_with fail
    go_ret
    exact ⟨rfl, rfl⟩
  have g2 : decide ((s.size : Int) > 32) = false := decide_eq_false (by omega)
  go_wp2_with fail
  go_loop [15] (fun i => ∃ k : Nat, k ≤ s.size ∧ i = .int .i64 (k : Int) ∧ ∀ j (hj : j < s.size), j < k → NC (s[j].toNat)) (fun i => s.size - (intOf i).toNat)
  case atStart => exact ⟨0, Nat.zero_le _, rfl, fun j _ h => absurd h (Nat.not_lt_zero j)⟩
  case round =>
    obtain ⟨k, hk, rfl, hL⟩ := hrel
    have HL := Lib.hid hL
    clear hL
    by_cases hlt : k < s.size
    · have hlt' : (k : Int) < (s.size : Int) := by omega
      go_wp2_with fail
      all_goals try simp only [bne_iff_ne, ne_eq, bne_eq_false_iff_eq] at *
      all_goals first
        | (exfalso; omega)
        | (go_ret
           have hr := nameB_no (s := s) (fun h => by have h3 := h.c k hlt; unfold NC at h3; omega)
           exact ⟨by rw [hr]; rfl, rfl⟩)
        | exact ⟨⟨k + 1, by omega, by simp, fun j hj hk2 => by
            rcases Nat.lt_or_ge j k with h | h
            · exact HL.out j hj h
            · have e : j = k := by omega
              subst e
              unfold NC
              omega⟩, by simp [intOf]; omega⟩
        | skip
    · have hkl : k = s.size := by omega
      have hr := nameB_yes (s := s) ⟨by omega, by omega, fun i hi => HL.out i hi (by omega)⟩
      clear hkl
      have HRR := Lib.hid hr
      clear hr
      go_wp2_with fail
      go_ret
      exact ⟨by rw [HRR.out]; rfl, rfl⟩
set_option maxRecDepth 100000 in
set_option maxHeartbeats 8000000 in
theorem rline_all (s : ByteArray) (w : World) (hs : s.size < 9223372036854775808) : Calls Try.prog 86 #[.string s] w fun e w' => e = .returned (.bool (lineB s)) ∧ w = w' := by
  go_enter Try.func86, Try.ntmps86
  go_wp2_with fail
  go_loop [3] (fun i => ∃ k : Nat, k ≤ s.size ∧ i = .int .i64 (k : Int) ∧ ∀ j (hj : j < s.size), j < k → LC (s[j].toNat)) (fun i => s.size - (intOf i).toNat)
  case atStart => exact ⟨0, Nat.zero_le _, rfl, fun j _ h => absurd h (Nat.not_lt_zero j)⟩
  case round =>
    obtain ⟨k, hk, rfl, hL⟩ := hrel
    have HL := Lib.hid hL
    clear hL
    by_cases hlt : k < s.size
    · have hlt' : (k : Int) < (s.size : Int) := by omega
      go_wp2_with fail
      all_goals try simp only [bne_iff_ne, ne_eq, bne_eq_false_iff_eq] at *
      all_goals first
        | (exfalso; omega)
        | (go_ret
           have hr := lineB_no (s := s) (fun h => by have h3 := h.c k hlt; unfold LC at h3; omega)
           exact ⟨by rw [hr]; rfl, rfl⟩)
        | exact ⟨⟨k + 1, by omega, by simp, fun j hj hk2 => by
            rcases Nat.lt_or_ge j k with h | h
            · exact HL.out j hj h
            · have e : j = k := by omega
              subst e
              unfold LC
              omega⟩, by simp [intOf]; omega⟩
        | skip
    · have hkl : k = s.size := by omega
      by_cases h1 : 1 ≤ s.size
      · have g1 : decide ((s.size : Int) ≥ 1) = true := decide_eq_true (by omega)
        by_cases h2 : s.size ≤ 64
        · have g2 : decide ((s.size : Int) ≤ 64) = true := decide_eq_true (by omega)
          have HRR := Lib.hid (lineB_yes (s := s) ⟨h1, h2, fun i hi => HL.out i hi (by omega)⟩)
          clear hkl
          go_wp2_with fail
          go_ret
          exact ⟨by rw [HRR.out]; rfl, rfl⟩
        · have g2 : decide ((s.size : Int) ≤ 64) = false := decide_eq_false (by omega)
          have HRR := Lib.hid (lineB_no (s := s) (fun h => by have := h.m; omega))
          clear hkl
          go_wp2_with fail
          go_ret
          exact ⟨by rw [HRR.out]; rfl, rfl⟩
      · have g1 : decide ((s.size : Int) ≥ 1) = false := decide_eq_false (by omega)
        have HRR := Lib.hid (lineB_no (s := s) (fun h => by have := h.l; omega))
        clear hkl
        go_wp2_with fail
        go_ret
        exact ⟨by rw [HRR.out]; rfl, rfl⟩
set_option maxRecDepth 100000 in
set_option maxHeartbeats 8000000 in
theorem rname_all (s : ByteArray) (w : World) (hs : s.size < 9223372036854775808) : Calls Try.prog 96 #[.string s] w fun e w' => e = .returned (.bool (nameB s)) ∧ w = w' := by
  go_enter Try.func96, Try.ntmps96
  go_wp2_with fail
  go_loop [3] (fun i => ∃ k : Nat, k ≤ s.size ∧ i = .int .i64 (k : Int) ∧ ∀ j (hj : j < s.size), j < k → NC (s[j].toNat)) (fun i => s.size - (intOf i).toNat)
  case atStart => exact ⟨0, Nat.zero_le _, rfl, fun j _ h => absurd h (Nat.not_lt_zero j)⟩
  case round =>
    obtain ⟨k, hk, rfl, hL⟩ := hrel
    have HL := Lib.hid hL
    clear hL
    by_cases hlt : k < s.size
    · have hlt' : (k : Int) < (s.size : Int) := by omega
      go_wp2_with fail
      all_goals try simp only [bne_iff_ne, ne_eq, bne_eq_false_iff_eq] at *
      all_goals first
        | (exfalso; omega)
        | (go_ret
           have hr := nameB_no (s := s) (fun h => by have h3 := h.c k hlt; unfold NC at h3; omega)
           exact ⟨by rw [hr]; rfl, rfl⟩)
        | exact ⟨⟨k + 1, by omega, by simp, fun j hj hk2 => by
            rcases Nat.lt_or_ge j k with h | h
            · exact HL.out j hj h
            · have e : j = k := by omega
              subst e
              unfold NC
              omega⟩, by simp [intOf]; omega⟩
        | skip
    · have hkl : k = s.size := by omega
      by_cases h1 : 1 ≤ s.size
      · have g1 : decide ((s.size : Int) ≥ 1) = true := decide_eq_true (by omega)
        by_cases h2 : s.size ≤ 32
        · have g2 : decide ((s.size : Int) ≤ 32) = true := decide_eq_true (by omega)
          have HRR := Lib.hid (nameB_yes (s := s) ⟨h1, h2, fun i hi => HL.out i hi (by omega)⟩)
          clear hkl
          go_wp2_with fail
          go_ret
          exact ⟨by rw [HRR.out]; rfl, rfl⟩
        · have g2 : decide ((s.size : Int) ≤ 32) = false := decide_eq_false (by omega)
          have HRR := Lib.hid (nameB_no (s := s) (fun h => by have := h.m; omega))
          clear hkl
          go_wp2_with fail
          go_ret
          exact ⟨by rw [HRR.out]; rfl, rfl⟩
      · have g1 : decide ((s.size : Int) ≥ 1) = false := decide_eq_false (by omega)
        have HRR := Lib.hid (nameB_no (s := s) (fun h => by have := h.l; omega))
        clear hkl
        go_wp2_with fail
        go_ret
        exact ⟨by rw [HRR.out]; rfl, rfl⟩
end Go.Proofs.Ytnmkcpgcdjhdjaa

/- Rational numbers of any kind: ValidRat of the reference, bounded of the program. -/
namespace Go.Proofs.Ytnmkcpgcdjhdjaa
open Go.RowKit
set_option linter.unusedVariables false
set_option linter.unusedSimpArgs false
set_option maxHeartbeats 4000000 in
theorem rvalid_all (n d : Int) (w : World) (n0 : -9223372036854775808 ≤ n) (n1 : n ≤ 9223372036854775807) (d0 : -9223372036854775808 ≤ d) (d1 : d ≤ 9223372036854775807) :
    Calls Try.prog 41 #[.agg #[.int .i64 n, .int .i64 d]] w fun e w' => e = .returned (.bool (validR n d)) ∧ Below w.heap.size w w' := by
  by_cases h1 : 1 ≤ d
  · have e1 : decide (d ≥ 1) = true := decide_eq_true h1
    by_cases h2 : -9223372036854775808 < n
    · have e2 : decide (n > -9223372036854775808) = true := decide_eq_true h2
      have HO := Lib.hid (validR_yes h1 h2)
      obtain ⟨y, rfl⟩ : ∃ y : Nat, d = y := ⟨d.toNat, by omega⟩
      have HG := Lib.hid (fun w => rgcd_any n y w h2 (by omega) (by omega))
      go_enter Try.func41, Try.ntmps41
      go_wp2_with fail
      refine (HG.out _).mono ?_
      rintro e w2 ⟨rfl, m, hm⟩
      go_wp2_with fail
      go_ret
      refine ⟨ret_bool ?_, by first | exact below_drewN (below_box w _) _ | (rw [hm]; exact below_drewN (below_box w _) _)⟩
      rw [HO.out, Bool.eq_iff_iff, Int.toNat_natCast]
      simp
      omega
    · have e2 : decide (n > -9223372036854775808) = false := decide_eq_false h2
      have HO := Lib.hid (validR_no (n := n) (d := d) (by omega))
      go_enter Try.func41, Try.ntmps41
      go_wp2_with fail
      go_ret
      exact ⟨ret_bool HO.out.symm, below_box w _⟩
  · have e1 : decide (d ≥ 1) = false := decide_eq_false h1
    have HO := Lib.hid (validR_no (n := n) (d := d) (by omega))
    go_enter Try.func41, Try.ntmps41
    go_wp2_with fail
    go_ret
    exact ⟨ret_bool HO.out.symm, below_box w _⟩
/-- What bounded tells. -/
def bndB (n d M : Int) : Bool := validR n d && (decide (d ≤ 65536) && (decide (-(M * d) ≤ n) && decide (n ≤ M * d)))
set_option maxHeartbeats 4000000 in
theorem bounded_all (n d M : Int) (w : World) (n0 : -9223372036854775808 ≤ n) (n1 : n ≤ 9223372036854775807) (d0 : -9223372036854775808 ≤ d) (d1 : d ≤ 9223372036854775807) (M0 : 1 ≤ M) (M1 : M ≤ 1099511627776) :
    Calls Try.prog 94 #[.agg #[.int .i64 n, .int .i64 d], .int .i64 M] w fun e w' => e = .returned (.bool (bndB n d M)) ∧ Below w.heap.size w w' := by
  have HV := Lib.hid (fun w => valid_any n d w n0 n1 d0 d1)
  obtain ⟨v, hv⟩ : ∃ v, v = validR n d := ⟨_, rfl⟩
  rw [← hv] at HV
  have HVV := Lib.hid hv
  clear hv
  cases v with
  | false =>
    have HR := Lib.hid (show bndB n d M = false by unfold bndB; rw [← HVV.out]; rfl)
    go_enter Try.func94, Try.ntmps94
    go_wp2_with fail
    refine (HV.out _).mono ?_
    rintro e w2 ⟨rfl, hb⟩
    have HB := Lib.hid ((below_box w _).trans (hb.mono (by simp)))
    clear hb
    go_wp2_with fail
    go_ret
    exact ⟨ret_bool HR.out.symm, HB.out⟩
  | true =>
    by_cases h2 : d ≤ 65536
    · have e2 : decide (d ≤ 65536) = true := decide_eq_true h2
      have h1 : 1 ≤ d := by
        rcases Int.lt_or_le d 1 with h | h
        · have h3 := HVV.out; rw [validR_no (by omega)] at h3; cases h3
        · exact h
      obtain ⟨X, hX⟩ : ∃ X, X = M * d := ⟨_, rfl⟩
      have X0 : 1 ≤ X := by rw [hX]; have := Int.mul_le_mul M0 h1 (by omega) (by omega); omega
      have X1 : X ≤ 1099511627776 * 65536 := by rw [hX]; exact Int.mul_le_mul M1 h2 (by omega) (by decide)
      have HR := Lib.hid (show bndB n d M = (decide (-X ≤ n) && decide (n ≤ X)) by unfold bndB; rw [← HVV.out, ← hX, e2]; rfl)
      have hXn : -M * d = -X := by rw [Int.neg_mul, hX]
      have hX2 : M * d = X := hX.symm
      clear hX
      go_enter Try.func94, Try.ntmps94
      go_wp2_with fail
      refine (HV.out _).mono ?_
      rintro e w2 ⟨rfl, hb⟩
      have HB := Lib.hid ((below_box w _).trans (hb.mono (by simp)))
      have k0 : w2.cell? ⟨w.heap.size, 0, none⟩ = some (.int .i64 n) := (hb.cell (by simp)).trans (by simp [go_sem])
      have k1 : w2.cell? ⟨w.heap.size, 1, none⟩ = some (.int .i64 d) := (hb.cell (by simp)).trans (by simp [go_sem])
      clear hb
      by_cases h3 : -X ≤ n
      · have e3 : decide (n ≥ -X) = true := decide_eq_true h3
        have HR2 := Lib.hid (show bndB n d M = decide (n ≤ X) by rw [HR.out, decide_eq_true h3]; rfl)
        go_wp2_with fail
        go_ret
        exact ⟨ret_bool HR2.out.symm, HB.out⟩
      · have e3 : decide (n ≥ -X) = false := decide_eq_false h3
        have HR2 := Lib.hid (show bndB n d M = false by rw [HR.out, decide_eq_false h3]; rfl)
        go_wp2_with fail
        go_ret
        exact ⟨ret_bool HR2.out.symm, HB.out⟩
    · have e2 : decide (d ≤ 65536) = false := decide_eq_false h2
      have HR := Lib.hid (show bndB n d M = false by unfold bndB; rw [← HVV.out, e2]; rfl)
      go_enter Try.func94, Try.ntmps94
      go_wp2_with fail
      refine (HV.out _).mono ?_
      rintro e w2 ⟨rfl, hb⟩
      have HB := Lib.hid ((below_box w _).trans (hb.mono (by simp)))
      have k1 : w2.cell? ⟨w.heap.size, 1, none⟩ = some (.int .i64 d) := (hb.cell (by simp)).trans (by simp [go_sem])
      clear hb
      go_wp2_with fail
      go_ret
      exact ⟨ret_bool HR.out.symm, HB.out⟩
end Go.Proofs.Ytnmkcpgcdjhdjaa
