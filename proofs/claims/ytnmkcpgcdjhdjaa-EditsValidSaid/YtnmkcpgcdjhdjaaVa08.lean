/- Texts of this claim joined: TI TJ VR VS VT PlanH VU VV VW. -/
import Derived.Deep.CutBlock
import Derived.Test.YtnmkcpgcdjhdjaaVa00
import Derived.Test.YtnmkcpgcdjhdjaaVa07
set_option linter.unusedVariables false
set_option linter.unusedSimpArgs false

/- The frames of a track after an edit, and the edit that undoes it. -/
namespace Go.Trk
set_option linter.unusedVariables false
theorem fr_cons3 {P mid Q : List Clip} (gP : GoodL P) (gm : GoodL mid) {i : Int} (hi : 0 ≤ i) :
    fr (P ++ mid ++ Q) i = if i < total P then fr P i else if i < total P + total mid then fr mid (i - total P) else fr Q (i - total P - total mid) := by
  have tP := total_nonneg gP
  have tm := total_nonneg gm
  by_cases h1 : i < total P
  · rw [if_pos h1, List.append_assoc, fr_append_lt _ gP hi h1]
  · rw [if_neg h1]
    by_cases h2 : i < total P + total mid
    · rw [if_pos h2, fr_append_lt _ (gP.append gm) hi (by rw [total_append]; exact h2), fr_append_ge _ gP (by omega)]
    · rw [if_neg h2, fr_append_ge _ (gP.append gm) (by rw [total_append]; omega), total_append]
      congr 1
      omega
/-- What is known of the frames of a track l that an edit made of n: the edit that undoes it is of kind uk and names the frames from .. to. -/
structure UndoOf (n l : List Clip) (a b uk : Int) : Prop where
  lo : ∀ i, 0 ≤ i → i < a → fr l i = fr n i
  two : uk = 2 → ∀ i, b ≤ i → fr l i = fr n (i - (b - a))
  one : uk = 1 → ∀ i, a ≤ i → fr l i = fr n (i + (b - a))
  three : uk = 3 → ∀ i, b ≤ i → fr l i = fr n i
  k : uk = 1 ∨ uk = 2 ∨ uk = 3
  a0 : 0 ≤ a
  ab : a < b
theorem total_one (c : Clip) : total [c] = c.len := by show c.len + 0 = _; omega
theorem fr_one {c : Clip} {i : Int} (h : i < c.len) : fr [c] i = one c i := fr_lt h
theorem take_total (P Q : List Clip) : total ((P ++ Q).take P.length) = total P := by rw [List.take_left']; rfl
theorem beg_of (P Q : List Clip) (x : Clip) : begL (P ++ x :: Q) P.length = total P := by unfold begL; exact take_total P _
theorem end_of (P Q : List Clip) (x : Clip) : endL (P ++ x :: Q) P.length = total P + x.len := by
  unfold endL
  have h := take_total (P ++ [x]) Q
  rw [List.append_assoc] at h
  simp only [List.length_append, List.length_cons, List.length_nil, Nat.zero_add, List.singleton_append] at h
  rw [h, total_append, total_one]
theorem lenBy_len (d : Int) (c : Clip) : (lenBy d c).len = c.len + d := rfl
theorem later_len (d : Int) (c : Clip) : (later d c).len = c.len - d := rfl
theorem one_lenBy (d : Int) (c : Clip) (i : Int) : one (lenBy d c) i = one c i := rfl
theorem one_later {c : Clip} (h : GoodC c) (d i : Int) : one (later d c) i = one c (d + i) := by
  unfold later
  rw [one_withLen, one_shift h.a h.b]
/-- A list of which the middle is turned. -/
theorem undo3 {P mid mid' Q : List Clip} (gP : GoodL P) (gm : GoodL mid) (gm' : GoodL mid') (ht : total mid' = total mid) (a b : Int) (a0 : 0 ≤ a) (ab : a < b) (h0 : total P ≤ a) (h1 : b ≤ total P + total mid)
    (lo : ∀ j, 0 ≤ j → j < a - total P → fr mid' j = fr mid j) (hi : ∀ j, b - total P ≤ j → j < total mid → fr mid' j = fr mid j) : UndoOf (P ++ mid ++ Q) (P ++ mid' ++ Q) a b 3 := by
  refine ⟨fun i i0 ia => ?_, fun h => absurd h (by decide), fun h => absurd h (by decide), fun _ i ib => ?_, .inr (.inr rfl), a0, ab⟩
  · rw [fr_cons3 gP gm' i0, fr_cons3 gP gm i0, ht]
    by_cases c1 : i < total P
    · rw [if_pos c1, if_pos c1]
    · rw [if_neg c1, if_neg c1]
      rw [if_pos (by omega), if_pos (by omega)]
      exact lo _ (by omega) (by omega)
  · rw [fr_cons3 gP gm' (by omega), fr_cons3 gP gm (by omega), ht]
    by_cases c1 : i < total P
    · rw [if_pos c1, if_pos c1]
    · rw [if_neg c1, if_neg c1]
      by_cases c2 : i < total P + total mid
      · rw [if_pos c2, if_pos c2]
        exact hi _ (by omega) (by omega)
      · rw [if_neg c2, if_neg c2]
theorem undo5 {P Q : List Clip} {x : Clip} {d : Int} (gP : GoodL P) (gx : GoodC x) (gx' : GoodC (lenBy d x)) (hd : d ≠ 0) :
    UndoOf (P ++ x :: Q) (P ++ lenBy d x :: Q) (min (total P + x.len) (total P + x.len + d)) (max (total P + x.len) (total P + x.len + d)) (undK 5 d) := by
  have tP := total_nonneg gP
  have l0 := gx.l
  have l1 := gx'.l
  rw [lenBy_len] at l1
  have e1 : P ++ x :: Q = P ++ [x] ++ Q := by simp
  have e2 : P ++ lenBy d x :: Q = P ++ [lenBy d x] ++ Q := by simp
  have g1 : GoodL [x] := GoodL.cons gx GoodL.nil
  have g2 : GoodL [lenBy d x] := GoodL.cons gx' GoodL.nil
  rw [e1, e2]
  have uk : undK 5 d = if 0 < d then 2 else 1 := by unfold undK; rw [if_pos rfl]
  refine ⟨fun i i0 ia => ?_, fun h i ib => ?_, fun h i ib => ?_, fun h => ?_, ?_, by omega, by omega⟩
  · rw [fr_cons3 gP g2 i0, fr_cons3 gP g1 i0, total_one, total_one, lenBy_len]
    by_cases c1 : i < total P
    · rw [if_pos c1, if_pos c1]
    · rw [if_neg c1, if_neg c1, if_pos (by omega), if_pos (by omega), fr_one (by rw [lenBy_len]; omega), fr_one (by omega), one_lenBy]
  · rw [uk] at h
    have d0 : 0 < d := by
      by_cases d0 : 0 < d
      · exact d0
      · rw [if_neg d0] at h; omega
    rw [fr_cons3 gP g2 (by omega), fr_cons3 gP g1 (by omega), total_one, total_one, lenBy_len]
    rw [if_neg (by omega), if_neg (by omega), if_neg (by omega), if_neg (by omega)]
    congr 1
    omega
  · rw [uk] at h
    have d0 : d < 0 := by
      by_cases d0 : 0 < d
      · rw [if_pos d0] at h; omega
      · omega
    rw [fr_cons3 gP g2 (by omega), fr_cons3 gP g1 (by omega), total_one, total_one, lenBy_len]
    rw [if_neg (by omega), if_neg (by omega), if_neg (by omega), if_neg (by omega)]
    congr 1
    omega
  · rw [uk] at h; split at h <;> omega
  · rw [uk]; split <;> omega
theorem undo6 {P Q : List Clip} {x : Clip} {d : Int} (gP : GoodL P) (gx : GoodC x) (gx' : GoodC (later d x)) (hd : d ≠ 0) :
    UndoOf (P ++ x :: Q) (P ++ later d x :: Q) (total P) (total P + max d (-d)) (undK 6 d) := by
  have tP := total_nonneg gP
  have l0 := gx.l
  have l1 := gx'.l
  rw [later_len] at l1
  have e1 : P ++ x :: Q = P ++ [x] ++ Q := by simp
  have e2 : P ++ later d x :: Q = P ++ [later d x] ++ Q := by simp
  have g1 : GoodL [x] := GoodL.cons gx GoodL.nil
  have g2 : GoodL [later d x] := GoodL.cons gx' GoodL.nil
  rw [e1, e2]
  have uk : undK 6 d = if d < 0 then 2 else 1 := by unfold undK; rw [if_neg (by decide), if_pos rfl]
  refine ⟨fun i i0 ia => ?_, fun h i ib => ?_, fun h i ib => ?_, fun h => ?_, ?_, by omega, by omega⟩
  · rw [fr_cons3 gP g2 i0, fr_cons3 gP g1 i0]
    rw [if_pos ia, if_pos ia]
  · rw [uk] at h
    have d0 : d < 0 := by
      by_cases d0 : d < 0
      · exact d0
      · rw [if_neg d0] at h; omega
    rw [fr_cons3 gP g2 (by omega), fr_cons3 gP g1 (by omega), total_one, total_one, later_len]
    by_cases c2 : i < total P + (x.len - d)
    · rw [if_neg (by omega), if_pos c2, if_neg (by omega), if_pos (by omega), fr_one (by rw [later_len]; omega), fr_one (by omega), one_later gx]
      congr 1
      omega
    · rw [if_neg (by omega), if_neg c2, if_neg (by omega), if_neg (by omega)]
      congr 1
      omega
  · rw [uk] at h
    have d0 : 0 < d := by
      by_cases d0 : d < 0
      · rw [if_pos d0] at h; omega
      · omega
    rw [fr_cons3 gP g2 (by omega), fr_cons3 gP g1 (by omega), total_one, total_one, later_len]
    by_cases c2 : i < total P + (x.len - d)
    · rw [if_neg (by omega), if_pos c2, if_neg (by omega), if_pos (by omega), fr_one (by rw [later_len]; omega), fr_one (by omega), one_later gx]
      congr 1
      omega
    · rw [if_neg (by omega), if_neg c2, if_neg (by omega), if_neg (by omega)]
      congr 1
      omega
  · rw [uk] at h; split at h <;> omega
  · rw [uk]; split <;> omega
theorem fr_two {x y : Clip} {i : Int} : fr [x, y] i = if i < x.len then one x i else if i - x.len < y.len then one y (i - x.len) else gap 1 := by
  show (if i < x.len then one x i else fr [y] (i - x.len)) = _
  split
  · rfl
  · rfl
theorem fr_three {x y z : Clip} {i : Int} : fr [x, y, z] i = if i < x.len then one x i else if i - x.len < y.len then one y (i - x.len) else if i - x.len - y.len < z.len then one z (i - x.len - y.len) else gap 1 := rfl
theorem undo7 {P Q : List Clip} {x y : Clip} {d : Int} (gP : GoodL P) (gx : GoodC x) (gy : GoodC y) (gx' : GoodC (lenBy d x)) (gy' : GoodC (later d y)) (hd : d ≠ 0) :
    UndoOf (P ++ [x, y] ++ Q) (P ++ [lenBy d x, later d y] ++ Q) (min (total P + x.len) (total P + x.len + d)) (max (total P + x.len) (total P + x.len + d)) 3 := by
  have tP := total_nonneg gP
  have l0 := gx.l
  have l1 := gx'.l
  have l2 := gy.l
  have l3 := gy'.l
  rw [lenBy_len] at l1
  rw [later_len] at l3
  have t1 : total [x, y] = x.len + y.len := by show x.len + (y.len + 0) = _; omega
  have t2 : total [lenBy d x, later d y] = x.len + y.len := by show x.len + d + (y.len - d + 0) = _; omega
  refine undo3 gP (GoodL.cons gx (GoodL.cons gy GoodL.nil)) (GoodL.cons gx' (GoodL.cons gy' GoodL.nil)) (by rw [t1, t2]) _ _ (by omega) (by omega) (by omega) (by rw [t1]; omega) (fun j j0 j1 => ?_) (fun j j0 j1 => ?_)
  · rw [fr_two, fr_two, lenBy_len, if_pos (by omega), if_pos (by omega), one_lenBy]
  · rw [t1] at j1
    rw [fr_two, fr_two, lenBy_len, later_len, if_neg (by omega), if_pos (by omega), if_neg (by omega), if_pos (by omega), one_later gy]
    congr 1
    omega
theorem undo9 {P Q : List Clip} {y x z : Clip} {d : Int} (gP : GoodL P) (gy : GoodC y) (gx : GoodC x) (gz : GoodC z) (gy' : GoodC (lenBy d y)) (gz' : GoodC (later d z)) (hd : d ≠ 0) :
    UndoOf (P ++ [y, x, z] ++ Q) (P ++ [lenBy d y, x, later d z] ++ Q) (min (total P + y.len) (total P + y.len + d)) (max (total P + y.len + x.len) (total P + y.len + x.len + d)) 3 ∧
    ∀ j, 0 ≤ j → j < x.len → fr (P ++ [lenBy d y, x, later d z] ++ Q) (total P + y.len + d + j) = fr (P ++ [y, x, z] ++ Q) (total P + y.len + j) := by
  have tP := total_nonneg gP
  have l0 := gy.l
  have l1 := gy'.l
  have l2 := gz.l
  have l3 := gz'.l
  have l4 := gx.l
  rw [lenBy_len] at l1
  rw [later_len] at l3
  have t1 : total [y, x, z] = y.len + x.len + z.len := by show y.len + (x.len + (z.len + 0)) = _; omega
  have t2 : total [lenBy d y, x, later d z] = y.len + x.len + z.len := by show y.len + d + (x.len + (z.len - d + 0)) = _; omega
  have g1 : GoodL [y, x, z] := GoodL.cons gy (GoodL.cons gx (GoodL.cons gz GoodL.nil))
  have g2 : GoodL [lenBy d y, x, later d z] := GoodL.cons gy' (GoodL.cons gx (GoodL.cons gz' GoodL.nil))
  refine ⟨undo3 gP g1 g2 (by rw [t1, t2]) _ _ (by omega) (by omega) (by omega) (by rw [t1]; omega) (fun j j0 j1 => ?_) (fun j j0 j1 => ?_), fun j j0 j1 => ?_⟩
  · rw [fr_three, fr_three, lenBy_len, if_pos (by omega), if_pos (by omega), one_lenBy]
  · rw [t1] at j1
    rw [fr_three, fr_three, lenBy_len, later_len, if_neg (by omega), if_neg (by omega), if_pos (by omega), if_neg (by omega), if_neg (by omega), if_pos (by omega), one_later gz]
    congr 1
    omega
  · rw [fr_cons3 gP g2 (by omega), fr_cons3 gP g1 (by omega), t1, t2, if_neg (by omega), if_pos (by omega), if_neg (by omega), if_pos (by omega), fr_three, fr_three, lenBy_len]
    rw [if_neg (by omega), if_pos (by omega), if_neg (by omega), if_pos (by omega)]
    congr 1
    omega
/-- One clip is turned and keeps its length. -/
theorem undo8 {P Q : List Clip} {x x' : Clip} (gP : GoodL P) (gx : GoodC x) (gx' : GoodC x') (hl : x'.len = x.len) : UndoOf (P ++ x :: Q) (P ++ x' :: Q) (total P) (total P + x.len) 3 := by
  have tP := total_nonneg gP
  have l0 := gx.l
  have e1 : P ++ x :: Q = P ++ [x] ++ Q := by simp
  have e2 : P ++ x' :: Q = P ++ [x'] ++ Q := by simp
  rw [e1, e2]
  exact undo3 gP (GoodL.cons gx GoodL.nil) (GoodL.cons gx' GoodL.nil) (by rw [total_one, total_one, hl]) _ _ (by omega) (by omega) (Int.le_refl _) (by rw [total_one]; exact Int.le_refl _) (fun j j0 j1 => by omega)
    (fun j j0 j1 => by rw [total_one] at j1; omega)
theorem fr_mid {P Q : List Clip} {x : Clip} (gP : GoodL P) (gx : GoodC x) {j : Int} (h0 : 0 ≤ j) (h1 : j < x.len) : fr (P ++ x :: Q) (total P + j) = one x j := by
  have tP := total_nonneg gP
  have e1 : P ++ x :: Q = P ++ [x] ++ Q := by simp
  rw [e1, fr_cons3 gP (GoodL.cons gx GoodL.nil) (by omega), total_one, if_neg (by omega), if_pos (by omega), fr_one (by omega)]
  congr 1
  omega
end Go.Trk

/- An edit as data, what it makes of a track, and what its undoing makes. -/
namespace Go.Trk
set_option linter.unusedVariables false
/-- The numbers and the clips of an edit. -/
structure Ed where
  k : Int
  p : Int
  m : Int
  c : Int
  d : Int
  sn : Int
  sd : Int
  ins : List Clip
def Ed.T (e : Ed) : Int := if e.k = 1 ∨ e.k = 3 then total e.ins else e.m
def Ed.rem (e : Ed) : Int := if e.k = 1 then 0 else e.T
def Ed.put (e : Ed) : List Clip := if e.k = 4 then [gap e.m] else e.ins
def Ed.exl (e : Ed) (n : List Clip) : List Clip := exL n e.p e.rem e.put
def undoK (k : Int) : Int := if k = 1 then 2 else if k = 2 then 1 else 3
/-- An edit that names frames. -/
structure Ed.Ex (e : Ed) : Prop where
  k : e.k = 1 ∨ e.k = 2 ∨ e.k = 3 ∨ e.k = 4
  p : 0 ≤ e.p
  g : GoodL e.ins
  i : e.k = 2 ∨ e.k = 4 → e.ins = []
  t : 1 ≤ e.T
theorem Ed.Ex.put_good {e : Ed} (h : e.Ex) : GoodL e.put := by
  have ht := h.t
  unfold Ed.put
  split
  · rename_i h4
    unfold Ed.T at ht
    rw [if_neg (by omega)] at ht
    exact GoodL.cons (gap_good ht) GoodL.nil
  · exact h.g
theorem Ed.Ex.put_total {e : Ed} (h : e.Ex) : total e.put = if e.k = 2 then 0 else e.T := by
  unfold Ed.put Ed.T
  rcases h.k with h1 | h1 | h1 | h1
  · rw [if_neg (by omega), if_neg (by omega), if_pos (by omega)]
  · rw [if_neg (by omega), if_pos h1, h.i (.inl h1)]; rfl
  · rw [if_neg (by omega), if_neg (by omega), if_pos (by omega)]
  · rw [if_pos h1, if_neg (by omega), if_neg (by omega)]
    show e.m + 0 = _
    omega
theorem Ed.Ex.rem_nonneg {e : Ed} (h : e.Ex) : 0 ≤ e.rem := by
  have := h.t
  unfold Ed.rem
  split <;> omega
theorem Ed.Ex.of {e : Ed} (h : e.Ex) {n : List Clip} (gn : GoodL n) : ExOf n e.p e.rem e.put (e.exl n) := ex_of gn h.put_good h.p h.rem_nonneg
theorem Ed.Ex.undo {e : Ed} (h : e.Ex) {n : List Clip} (gn : GoodL n) : UndoOf n (e.exl n) e.p (e.p + e.T) (undoK e.k) := by
  have o := h.of gn
  have t := h.t
  have pt := h.put_total
  have h0 := h.p
  refine ⟨fun i i0 ia => ?_, fun hk i ib => ?_, fun hk i ib => ?_, fun hk i ib => ?_, ?_, h0, by omega⟩
  · rw [o.f i i0, if_pos ia]
  · have hk1 : e.k = 1 := by unfold undoK at hk; split at hk; assumption; split at hk <;> omega
    have er : e.rem = 0 := by unfold Ed.rem; rw [if_pos hk1]
    rw [if_neg (by omega)] at pt
    rw [o.f i (by omega), if_neg (by omega), if_neg (by omega), pt, er]
    congr 1
    omega
  · have hk2 : e.k = 2 := by unfold undoK at hk; split at hk; omega; split at hk; assumption; omega
    have er : e.rem = e.T := by unfold Ed.rem; rw [if_neg (by omega)]
    rw [if_pos hk2] at pt
    rw [o.f i (by omega), if_neg (by omega), if_neg (by omega), pt, er]
    congr 1
    omega
  · have hk3 : e.k ≠ 1 ∧ e.k ≠ 2 := by unfold undoK at hk; split at hk; omega; split at hk; omega; exact ⟨by assumption, by assumption⟩
    have er : e.rem = e.T := by unfold Ed.rem; rw [if_neg hk3.1]
    rw [if_neg hk3.2] at pt
    rw [o.f i (by omega), if_neg (by omega), if_neg (by omega), pt, er]
    congr 1
    omega
  · unfold undoK
    by_cases h1 : e.k = 1
    · rw [if_pos h1]; exact .inr (.inl rfl)
    · rw [if_neg h1]
      by_cases h2 : e.k = 2
      · rw [if_pos h2]; exact .inl rfl
      · rw [if_neg h2]; exact .inr (.inr rfl)
/-- The edit that undoes. -/
def backOf (n : List Clip) (a b uk : Int) : Ed := ⟨uk, a, if uk = 2 then b - a else 0, 0, 0, 0, 0, if uk = 2 then [] else cut n a b⟩
theorem backOf_T {n : List Clip} (gn : GoodL n) {a b uk : Int} (a0 : 0 ≤ a) (ab : a ≤ b) (hk : uk = 1 ∨ uk = 2 ∨ uk = 3) : (backOf n a b uk).T = b - a := by
  unfold Ed.T backOf
  dsimp only
  rcases hk with rfl | rfl | rfl
  · rw [if_pos (.inl rfl), if_neg (by decide), (cut_of gn a0 ab).t]
  · rw [if_neg (by decide), if_pos rfl]
  · rw [if_pos (.inr rfl), if_neg (by decide), (cut_of gn a0 ab).t]
theorem backOf_ex {n l : List Clip} (gn : GoodL n) {a b uk : Int} (h : UndoOf n l a b uk) : (backOf n a b uk).Ex := by
  refine ⟨?_, h.a0, ?_, fun hk => ?_, ?_⟩
  · rcases h.k with e | e | e
    · exact .inl e
    · exact .inr (.inl e)
    · exact .inr (.inr (.inl e))
  · show GoodL (if uk = 2 then [] else cut n a b)
    split
    · exact GoodL.nil
    · exact (cut_of gn h.a0 (Int.le_of_lt h.ab)).g
  · show (if uk = 2 then [] else cut n a b) = []
    rcases hk with e | e
    · have e' : uk = 2 := e
      rw [if_pos e']
    · have e' : uk = 4 := e
      rcases h.k with k | k | k <;> omega
  · rw [backOf_T gn h.a0 (Int.le_of_lt h.ab) h.k]
    have := h.ab
    omega
theorem back_fr {n l : List Clip} (gn : GoodL n) (gl : GoodL l) {a b uk : Int} (h : UndoOf n l a b uk) {i : Int} (i0 : 0 ≤ i) : fr ((backOf n a b uk).exl (nf l)) i = fr n i := by
  have hx := backOf_ex gn h
  have gf : GoodL (nf l) := (nf_norm gl).g
  have o := hx.of gf
  have pt := hx.put_total
  have hT := backOf_T gn h.a0 (Int.le_of_lt h.ab) h.k
  have c := cut_of gn h.a0 (Int.le_of_lt h.ab)
  have a0 := h.a0
  have ab := h.ab
  have ep : (backOf n a b uk).p = a := rfl
  have ek : (backOf n a b uk).k = uk := rfl
  rw [o.f i i0, ep, pt, ek, hT]
  by_cases c1 : i < a
  · rw [if_pos c1, nf_fr gl i0, h.lo i i0 c1]
  · rw [if_neg c1]
    by_cases k2 : uk = 2
    · rw [if_pos k2, if_neg (by omega)]
      have er : (backOf n a b uk).rem = b - a := by unfold Ed.rem; rw [ek, if_neg (by omega), hT]
      rw [er, nf_fr gl (by omega), h.two k2 _ (by omega)]
      congr 1
      omega
    · rw [if_neg k2]
      by_cases c2 : i < a + (b - a)
      · rw [if_pos c2]
        have epu : (backOf n a b uk).put = cut n a b := by
          unfold Ed.put
          rw [ek, if_neg (by rcases h.k with k | k | k <;> omega)]
          show (if uk = 2 then [] else cut n a b) = _
          rw [if_neg k2]
        rw [epu, c.f _ (by omega) (by omega)]
        congr 1
        omega
      · rw [if_neg c2]
        rcases h.k with k | k | k
        · have er : (backOf n a b uk).rem = 0 := by unfold Ed.rem; rw [ek, if_pos k]
          rw [er, nf_fr gl (by omega), h.one k _ (by omega)]
          congr 1
          omega
        · exact absurd k k2
        · have er : (backOf n a b uk).rem = b - a := by unfold Ed.rem; rw [ek, if_neg (by omega), hT]
          rw [er, nf_fr gl (by omega), h.three k _ (by omega)]
          congr 1
          omega
end Go.Trk

/- Aid for exchange: edits in memory. -/
namespace Go.Proofs.Ytnmkcpgcdjhdjaa
open Go.RowKit
set_option linter.unusedVariables false
set_option linter.unusedSimpArgs false
/-- An edit as a value. -/
def EdV (e : Trk.Ed) (u : Value) : Value := edV e.k e.p e.m e.c e.d e.sn e.sd u
/-- A successful edit's results: a list l, and the edit that undoes it. -/
def EdPost (w : World) (n l : List Trk.Clip) (a b uk : Int) (e : Ending) (w' : World) : Prop :=
  ∃ v' vr, e = .returned (.tuple #[v', EdV (Trk.backOf n a b uk) vr, .int .i64 0]) ∧ OT w' w.heap.size v' l ∧ OT w' w.heap.size vr (Trk.backOf n a b uk).ins ∧ Below w.heap.size w w'
/-- The two edits in memory: the argument and the result. -/
structure E2 (w : World) (g1 g2 : Nat) (k p m c d sn sd : Int) (u : Value) : Prop where
  a : ED w g1 k p m c d sn sd u
  r : ED w g2 0 0 0 0 0 0 0 (.slice none 0 0)
theorem E2.below {w w' : World} {g1 g2 : Nat} {k p m c d sn sd : Int} {u : Value} (h : E2 w g1 g2 k p m c d sn sd u) (hb : Below w.heap.size w w') : E2 w' g1 g2 k p m c d sn sd u := ⟨h.a.below hb, h.r.below hb⟩
/-- What the four kinds put, and the edits that undo them. -/
structure UK (n ins put rl : List Trk.Clip) (k uk p T rem mm : Int) : Prop where
  a : k = 1 → uk = 2 ∧ mm = T ∧ rl = [] ∧ put = ins
  b : k = 2 → uk = 1 ∧ mm = 0 ∧ rl = Trk.cut n p (p + rem) ∧ put = []
  c : k = 3 → uk = 3 ∧ mm = 0 ∧ rl = Trk.cut n p (p + rem) ∧ put = ins
  d : k = 4 → uk = 3 ∧ mm = 0 ∧ rl = Trk.cut n p (p + rem) ∧ put = Trk.gapL T
theorem UK.of {n ins put rl : List Trk.Clip} {k uk p T rem mm m : Int} (huk : uk = Trk.undoK k) (hmm : mm = if uk = 2 then p + T - p else 0) (hrl : rl = if uk = 2 then [] else Trk.cut n p (p + T)) (hr : rem = if k = 1 then 0 else T)
    (hp : put = if k = 4 then [Trk.gap m] else ins) (hm : k = 2 ∨ k = 4 → T = m ∧ ins = []) (ht : 1 ≤ T) : UK n ins put rl k uk p T rem mm := by
  unfold Trk.undoK at huk
  constructor
  · rintro rfl
    have hu : uk = 2 := huk
    subst hu
    exact ⟨rfl, by rw [hmm, if_pos rfl]; omega, by rw [hrl, if_pos rfl], by rw [hp, if_neg (by decide)]⟩
  · rintro rfl
    have hu : uk = 1 := huk
    subst hu
    rw [if_neg (by decide)] at hr hmm hrl hp
    exact ⟨rfl, hmm, by rw [hrl, hr], by rw [hp, (hm (.inl rfl)).2]⟩
  · rintro rfl
    have hu : uk = 3 := huk
    subst hu
    rw [if_neg (by decide)] at hr hmm hrl hp
    exact ⟨rfl, hmm, by rw [hrl, hr], hp⟩
  · rintro rfl
    have hu : uk = 3 := huk
    subst hu
    rw [if_neg (by decide)] at hr hmm hrl
    rw [if_pos rfl] at hp
    refine ⟨rfl, hmm, by rw [hrl, hr], ?_⟩
    rw [hp, ← (hm (.inr rfl)).1]
    unfold Trk.gapL
    rw [if_pos (by omega)]
theorem OT.edApart {w : World} {B b : Nat} {v : Value} {l : List Trk.Clip} (h : OT w B v l) (hb : ∀ g kk cap, v = .slice (some ⟨g, 0, none⟩) kk cap → b ≠ g) (k p n c d sn sd : Int) (u : Value) : OT (edPut w b k p n c d sn sd u) B v l := by
  unfold edPut
  exact (((((((((((((((h.apart (p := ⟨b, 0, none⟩) hb _)).apart (p := ⟨b, 1, none⟩) hb _)).apart (p := ⟨b, 2, none⟩) hb _)).apart (p := ⟨b, 3, none⟩) hb _)).apart (p := ⟨b, 4, none⟩) hb _)).apart (p := ⟨b, 5, none⟩) hb _)).apart (p := ⟨b, 6, none⟩) hb _)).apart (p := ⟨b, 7, none⟩) hb _)
/-- A block that holds edits. -/
def T26 (w : World) (b : Nat) : Prop := ∃ cs p, w.heap[b]? = some (.cells cs 26 p)
theorem T26.set {w : World} {b : Nat} (h : T26 w b) (p : Addr) (u : Value) : T26 (w.setCell p u) b := by
  obtain ⟨cs, q, hc⟩ := h
  by_cases hb : p.block = b
  · subst hb
    simp only [T26, World.setCell, Array.getElem?_modify, hc, if_true, Option.map_some]
    exact ⟨_, _, rfl⟩
  · refine ⟨cs, q, ?_⟩
    simp [World.setCell, Array.getElem?_modify, hb, hc]
theorem T26.put {w : World} {b : Nat} (h : T26 w b) (g : Nat) (k p n c d sn sd : Int) (u : Value) : T26 (edPut w g k p n c d sn sd u) b := by
  unfold edPut
  exact (((((((h.set _ _).set _ _).set _ _).set _ _).set _ _).set _ _).set _ _).set _ _
theorem T26.same {w w' : World} {b : Nat} (h : T26 w b) (hs : w'.heap[b]? = w.heap[b]?) : T26 w' b := by
  obtain ⟨cs, q, hc⟩ := h
  exact ⟨cs, q, hs.trans hc⟩
theorem T26.ne {w : World} {b B : Nat} {v : Value} {l : List Trk.Clip} (h : T26 w b) (ho : OT w B v l) : ∀ g kk cap, v = .slice (some ⟨g, 0, none⟩) kk cap → b ≠ g := by
  intro g kk cap e hbg
  subst hbg
  subst e
  obtain ⟨cs, q, hc⟩ := h
  rcases ho with ⟨e, _⟩ | ⟨g', cap', cur, e, hB, hg, _⟩
  · simp at e
  · simp only [Value.slice.injEq, Option.some.injEq, Addr.mk.injEq, and_true, true_and] at e
    obtain ⟨rfl, rfl, rfl⟩ := e
    rw [hc] at hg
    simp at hg
theorem ED.range {w : World} {b : Nat} {k p n c d sn sd : Int} {v : Value} (h : ED w b k p n c d sn sd v) : w.rangeAt b 0 (edC k p n c d sn sd v).toList := by
  intro j u hj
  have hl : j < 8 := (List.getElem?_eq_some_iff.1 hj).1
  rcases (show j = 0 ∨ j = 1 ∨ j = 2 ∨ j = 3 ∨ j = 4 ∨ j = 5 ∨ j = 6 ∨ j = 7 by omega) with rfl | rfl | rfl | rfl | rfl | rfl | rfl | rfl
  all_goals simp only [edC, List.getElem?_cons_zero, List.getElem?_cons_succ, Option.some.injEq] at hj; subst hj
  · exact h.k0
  · exact h.k1
  · exact h.k2
  · exact h.k3
  · exact h.k4
  · exact h.k5
  · exact h.k6
  · exact h.k7
theorem results_ed {fn : Func} {tmps : Array Value} {w : World} {s t r : Tmp} {b : Nat} {k p n c d sn sd : Int} {v x y : Value} (hr : fn.results = #[.tmp s, .cell t 26, .tmp r]) (hs : tmps.getD s undef = x) (ht : tmps.getD t undef = .pointer (some ⟨b, 0, none⟩)) (hy : tmps.getD r undef = y)
    (hc : ED w b k p n c d sn sd v) (hv : (∃ ao m cp, v = .slice ao m cp)) : (results fn tmps).run Try.prog w = .ok (.tuple #[x, edV k p n c d sn sd v, y]) w := by
  obtain ⟨ao, m, cp, rfl⟩ := hv
  have h := run_loadVar_mid (P := Try.prog) w b 0 26 (edC k p n c d sn sd (.slice ao m cp)).toList _ hc.range Try.underlying26 rfl (by kernel_rfl)
  obtain ⟨C, hC⟩ : ∃ C, C = (edC k p n c d sn sd (.slice ao m cp)).toList.toArray := ⟨_, rfl⟩
  rw [← hC] at h
  unfold results
  rw [hr]
  have ht2 : tmps[t]?.getD undef = .pointer (some ⟨b, 0, none⟩) := by rw [← Array.getD_eq_getD_getElem?]; exact ht
  have hs2 : tmps[s]?.getD undef = x := by rw [← Array.getD_eq_getD_getElem?]; exact hs
  have hy2 : tmps[r]?.getD undef = y := by rw [← Array.getD_eq_getD_getElem?]; exact hy
  simp [ht2, hs2, hy2, asAddr, h]
  rw [hC]
  rfl
theorem OT.blocks {w w' : World} {B : Nat} {v : Value} {l : List Trk.Clip} (h : OT w B v l) (hs : ∀ g kk cap, v = .slice (some ⟨g, 0, none⟩) kk cap → w'.heap[g]? = w.heap[g]?) : OT w' B v l := by
  obtain ⟨rfl, rfl⟩ | ⟨g, cap, rfl⟩ := h.shape
  · exact OT.nil _ _
  · exact h.same (hs g _ _ rfl)
theorem setCells_other (b b2 : Nat) (hn : b2 ≠ b) : ∀ (vs : List Value) (o : Nat) (w : World), (w.setCells b o vs).heap[b2]? = w.heap[b2]?
  | [], _, _ => rfl
  | v :: r, o, w => by
    rw [World.setCells, setCells_other b b2 hn r (o + 1)]
    simp [World.setCell, Array.getElem?_modify, hn.symm]
theorem size_setCells (b : Nat) : ∀ (vs : List Value) (o : Nat) (w : World), (w.setCells b o vs).heap.size = w.heap.size
  | [], _, _ => rfl
  | v :: r, o, w => by rw [World.setCells, size_setCells b r (o + 1), World.size_setCell]
theorem T26.cells {b : Nat} : ∀ (vs : List Value) (o g : Nat) (w : World), T26 w b → T26 (w.setCells g o vs) b
  | [], _, _, _, h => h
  | v :: r, o, g, w, h => by rw [World.setCells]; exact T26.cells r (o + 1) g _ (h.set _ _)
theorem ED.there {w : World} {b : Nat} {k p n c d sn sd : Int} {v : Value} (h : ED w b k p n c d sn sd v) : w.there b 0 8 := fun j hj => ⟨by
  have hj' : j < (edC k p n c d sn sd v).toList.length := hj
  rw [h.range j _ (List.getElem?_eq_getElem hj')]; rfl, h.fz _⟩
theorem ED.ofRange {w : World} {b : Nat} {k p n c d sn sd : Int} {v : Value} (h : w.rangeAt b 0 (edC k p n c d sn sd v).toList) (hf : ∀ o, w.frozen? ⟨b, o, none⟩ = false) : ED w b k p n c d sn sd v :=
  ⟨h 0 _ rfl, h 1 _ rfl, h 2 _ rfl, h 3 _ rfl, h 4 _ rfl, h 5 _ rfl, h 6 _ rfl, h 7 _ rfl, hf⟩
/-- append of a list of clips, the destination named. -/
theorem wpList_appTo (w : World) {ops : Array Oper} {rest : List Oper} {op : Oper} {a : Act} {Q : Exit → Act → World → Prop} (T1 T2 : TypeId) (dst : Option Tmp) (hd : op.dst = dst) (h1 : Try.prog.underlying T1 = some (.slice 53)) (h2 : Try.prog.underlying T2 = some (.slice 53)) (hg : op.guard = none) (s x : Operand)
    (hop : op.op = .call { callee := .builtin .append, args := #[s, x], argTypes := #[T1, T2] }) (B : Nat) (v u : Value) (l m : List Trk.Clip) (hs : a.eval s = v) (hx : a.eval x = u) (h : OT w B v l) (hB : B ≤ w.heap.size) (hm : Tk w u m) (hl : l.length + m.length ≤ 1048576)
    (hK : ∀ v' w', OT w' B v' (l ++ m) → Below B w w' → (∀ b, b < w.heap.size → (∀ g cap, v = .slice (some ⟨g, 0, none⟩) l.length cap → b ≠ g) → w'.heap[b]? = w.heap[b]?) → w.heap.size ≤ w'.heap.size → wpList Try.prog ops Q rest (a.put dst v') w') : wpList Try.prog ops Q (op :: rest) a w := by
  subst hd
  exact wpList_appM w T1 T2 h1 h2 hg s x hop B v u l m hs hx h hB hm hl hK
/-- A whole edit loaded. -/
theorem wpl_loadE {ops : Array Oper} {rest : List Oper} {op : Oper} {a : Act} {w : World} {Q : Exit → Act → World → Prop} {b : Nat} {k p n c d sn sd : Int} {ao : Option Addr} {m cp : Nat} {x : Operand} (hE : ED w b k p n c d sn sd (.slice ao m cp)) (hgd : op.guard = none) (ho : op.op = .load 26 x)
    (hx : a.eval x = .pointer (some ⟨b, 0, none⟩)) (h : wpList Try.prog ops Q rest (a.put op.dst (.agg (edC k p n c d sn sd (.slice ao m cp)))) w) : wpList Try.prog ops Q (op :: rest) a w :=
  wpList_load_mid hgd 26 x ho b 0 hx (edC k p n c d sn sd (.slice ao m cp)).toList _ hE.range Try.underlying26 rfl (by kernel_rfl) h
/-- A whole edit stored. -/
theorem wpl_storeE {ops : Array Oper} {rest : List Oper} {op : Oper} {a : Act} {w : World} {Q : Exit → Act → World → Prop} {b : Nat} {k p n c d sn sd : Int} {v : Value} (k' p' n' c' d' sn' sd' : Int) (ao : Option Addr) (m cp : Nat) {x y : Operand}
    (hE : ED w b k p n c d sn sd v) (hgd : op.guard = none) (ho : op.op = .store 26 x y) (hx : a.eval x = .pointer (some ⟨b, 0, none⟩)) (hy : a.eval y = .agg (edC k' p' n' c' d' sn' sd' (.slice ao m cp)))
    (h : ∀ w', ED w' b k' p' n' c' d' sn' sd' (.slice ao m cp) → (∀ b2, b2 ≠ b → w'.heap[b2]? = w.heap[b2]?) → w'.heap.size = w.heap.size → (∀ n w0, n ≤ b → Below n w0 w → Below n w0 w') → (T26 w b → T26 w' b) → wpList Try.prog ops Q rest (a.put op.dst undef) w') : wpList Try.prog ops Q (op :: rest) a w :=
  wpList_store_mid hgd 26 x y ho b 0 (edC k' p' n' c' d' sn' sd' (.slice ao m cp)) hx hy hE.there (by kernel_rfl) (by simp [edC, Value.oneCell'])
    (h _ (ED.ofRange (fun j u hj => World.rangeAt_setCells_same w b 0 (edC k' p' n' c' d' sn' sd' (.slice ao m cp)).toList hE.there j u hj) (fun o => (World.frozen?_setCells b _ _ w _).trans (hE.fz o)))
      (fun b2 hn => setCells_other b b2 hn _ _ _) (size_setCells b _ _ _) (fun n w0 hn hb => below_setCells b hn _ _ _ hb) (fun ht => T26.cells _ _ _ _ ht))
end Go.Proofs.Ytnmkcpgcdjhdjaa

/- The contract of exchange, where it succeeds. -/
namespace Go.Proofs.Ytnmkcpgcdjhdjaa
open Go.RowKit
set_option linter.unusedVariables false
set_option linter.unusedSimpArgs false
set_option maxRecDepth 100000 in
set_option maxHeartbeats 16000000 in
theorem ex_any {L : Int} (v u : Value) (n : List Trk.Clip) (e : Trk.Ed) (w : World) (h : Tk w v n) (hu : Tk w u e.ins) (hV : VT L n) (hI : VT L e.ins) (hL : L ≤ 140737488355328) (hn : n.length ≤ 63) (hx : e.Ex)
    (hee : (if e.k = 1 then max e.p (Trk.total n) else e.p) + e.T ≤ 2147483647) :
    Calls Try.prog 45 #[v, EdV e u] w (EdPost w n (e.exl n) e.p (e.p + e.T) (Trk.undoK e.k)) := by
  unfold EdV edV edC
  have HT := Lib.hid h
  have HU := Lib.hid hu
  have tn0 := Trk.total_nonneg hV.v.good
  have tn1 := hV.t
  have hk := hx.k
  have hTp := hx.t
  have hp0 := hx.p
  have hTi : (e.k = 1 ∨ e.k = 3) → e.T = Trk.total e.ins := fun h => by unfold Trk.Ed.T; rw [if_pos h]
  have hTm : (e.k = 2 ∨ e.k = 4) → e.T = e.m ∧ e.ins = [] := fun h => ⟨by unfold Trk.Ed.T; rw [if_neg (by omega)], hx.i h⟩
  have hrr : e.rem = if e.k = 1 then 0 else e.T := rfl
  have hr0 : 0 ≤ e.rem := hx.rem_nonneg
  have hpT : e.p + e.T ≤ 2147483647 := by split at hee <;> omega
  have hrT : e.rem ≤ e.T := by rw [hrr]; split <;> omega
  have hcl : ∀ a b, 0 ≤ a → a ≤ b → (Trk.cut n a b).length ≤ 64 := fun a b h0 h1 => by
    have := Trk.cut_length (l := n) hV.v.good h0 h1
    omega
  have hcl2 : ∀ a b, 0 ≤ a → (Trk.cut n a b).length ≤ 64 := fun a b h0 => by
    by_cases h1 : a ≤ b
    · exact hcl a b h0 h1
    · unfold Trk.cut
      rw [cutRaw_np _ _ (by omega)]
      simp [Trk.pk]
  have HTO := Lib.hid (fun w (h : Tk w v n) => etotal_any v n w h hV.v.good (by omega) (by omega))
  have HTI := Lib.hid (fun w (h : Tk w u e.ins) => etotal_any u e.ins w h hI.v.good (by have := hI.t; omega) (by have := hI.n; omega))
  have HC1 := Lib.hid (fun w (h : Tk w v n) => cut_any v n 0 (min e.p (Trk.total n)) w h hV hL (Int.le_refl 0) (by omega) (by omega) (hcl _ _ (Int.le_refl 0) (by omega)))
  have HC2 := Lib.hid (fun w (h : Tk w v n) => cut_any v n e.p (e.p + e.rem) w h hV hL hp0 (by omega) (by omega) (hcl _ _ hp0 (by omega)))
  have HRS := Lib.hid (fun w (h : Tk w v n) => rest_any v n (e.p + e.rem) w h hV hL (by omega) (by omega) (hcl2 _ _ (by omega)))
  have hil := hI.n
  have HCL := Lib.hid hcl
  have HEX := Lib.hid (show e.exl n = Trk.cut n 0 (min e.p (Trk.total n)) ++ Trk.gapL (e.p - Trk.total n) ++ e.put ++ Trk.aft n (e.p + e.rem) from rfl)
  have HPUT := Lib.hid (show e.put = if e.k = 4 then [Trk.gap e.m] else e.ins from rfl)
  unfold EdPost CutPost EdV Trk.backOf at *
  obtain ⟨k, p, m, c, d, sn, sd, ins⟩ := e
  dsimp only at *
  generalize hT : Trk.Ed.T _ = T at *
  generalize hR : Trk.Ed.rem _ = rem at *
  generalize hP : Trk.Ed.put _ = put at *
  generalize hEX : Trk.Ed.exl _ _ = exl at *
  have HPU := Lib.hid hP
  obtain ⟨uk, huk⟩ : ∃ uk, uk = Trk.undoK k := ⟨_, rfl⟩
  rw [← huk]
  obtain ⟨mm, hmm⟩ : ∃ mm, mm = (if uk = 2 then p + T - p else 0) := ⟨_, rfl⟩
  rw [← hmm]
  obtain ⟨rl, hrl⟩ : ∃ rl, rl = (if uk = 2 then [] else Trk.cut n p (p + T)) := ⟨_, rfl⟩
  rw [← hrl]
  have HUK := Lib.hid (show UK n ins put rl k uk p T rem mm from UK.of huk hmm hrl hrr HPUT.out hTm hTp)
  clear huk hmm hrl HPU
  obtain ⟨N, hN⟩ : ∃ N, N = Trk.total n := ⟨_, rfl⟩
  rw [← hN] at tn0 tn1 hee HTO HC1 HRS HEX
  obtain ⟨AF, hAF⟩ : ∃ AF, AF = (if p + rem < N then Trk.cut n (p + rem) N else []) := ⟨_, rfl⟩
  have HAL := Lib.hid (show AF.length ≤ 64 by rw [hAF]; split; exact hcl2 _ _ (by omega); simp)
  have HPL := Lib.hid (show put.length ≤ 64 by rw [HPUT.out]; split; simp; exact hil)
  have haft : Trk.aft n (p + rem) = AF := by rw [hAF]; unfold Trk.aft; rw [← hN]
  rw [haft] at HEX
  rw [← hAF] at HRS
  clear haft hAF
  clear hT hR hP hEX hx hcl hcl2
  have HTOT := Lib.hid hN
  clear hN h
  obtain ⟨ao, cap, rfl, hc1, hc2, _⟩ := hu
  have hI0 : (k = 1 ∨ k = 3) → 0 < ins.length := fun h => by
    have := hTi h
    cases ins with
    | nil => have e : Trk.total ([] : List Trk.Clip) = 0 := rfl; omega
    | cons a l => simp
  have hI1 : (k = 2 ∨ k = 4) → ins.length = 0 := fun h => by rw [(hTm h).2]; rfl
  obtain ⟨I, hI9⟩ : ∃ I, I = ins.length := ⟨_, rfl⟩
  rw [← hI9] at hil hc1 hI0 hI1 HTI HU ⊢
  have HIL := Lib.hid hI9
  have HTI2 := Lib.hid hTi
  have HTM2 := Lib.hid hTm
  have HK := Lib.hid hk
  have HRR := Lib.hid hrr
  have HEE := Lib.hid hee
  clear hI9 hI hTi hTm hV hk hrr hee
  go_enter Try.func45, Try.ntmps45
  go_upto_region 1 with fail
  obtain ⟨w1, hw1⟩ : ∃ x, x = (w.alloc (.cells (edC k p m c d sn sd (.slice ao I cap)) 26)).alloc (.cells (edC 0 0 0 0 0 0 0 (.slice none 0 0)) 26) := ⟨_, rfl⟩
  have hw1' := hw1
  unfold edC at hw1'
  rw [← hw1']
  clear hw1'
  have hE1 : Below w.heap.size w w1 := by rw [hw1]; go_grown
  obtain ⟨g1, hg1⟩ : ∃ g, g = w.heap.size := ⟨_, rfl⟩
  obtain ⟨g2, hg2⟩ : ∃ g, g = w.heap.size + 1 := ⟨_, rfl⟩
  have h2 : E2 w1 g1 g2 k p m c d sn sd (.slice ao I cap) := by
    rw [hw1, hg1, hg2]
    refine ⟨(ED.box w k p m c d sn sd _ rfl 26).below (below_box _ _), ?_⟩
    have h2 := ED.box (w.alloc (.cells (edC k p m c d sn sd (.slice ao I cap)) 26)) 0 0 0 0 0 0 0 (.slice none 0 0) rfl 26
    rw [show (w.alloc (.cells (edC k p m c d sn sd (.slice ao I cap)) 26)).heap.size = w.heap.size + 1 by simp] at h2
    exact h2
  rw [← hg2, ← hg1]
  have hn1 : w.heap.size ≤ g1 := by omega
  have hn2 : w.heap.size ≤ g2 := by omega
  have h12 : g1 < g2 := by omega
  have HE := Lib.hid h2
  have HB := Lib.hid hE1
  have HSZ := Lib.hid (show g2 + 1 ≤ w1.heap.size by rw [hw1, hg2]; simp [go_sem])
  clear hw1 hE1 hg1 hg2 h2
  obtain ⟨_, _, e2, _, _, _, _, e7, _⟩ := HE.out.a
  go_upto_if 22 with fail
  go_cut [7, 22] from 23 (fun v7 v22 wx => v7 = .int .i64 T ∧ E2 wx g1 g2 k p m c d sn sd (.slice ao I cap) ∧ Below w.heap.size w wx ∧ g2 + 1 ≤ wx.heap.size)
  case first =>
    by_cases hi0 : 0 < I
    · have hk13 : k = 1 ∨ k = 3 := by
        rcases HK.out with h | h | h | h
        · exact .inl h
        · have := hI1 (.inl h); omega
        · exact .inr h
        · have := hI1 (.inr h); omega
      have hTe := Lib.hid (HTI2.out hk13)
      go_wp2_with fail
      refine (HTI.out _ (HU.out.below HB.out)).mono ?_
      rintro e w2 ⟨rfl, hb⟩
      replace HE := Lib.hid (HE.out.below hb)
      replace HSZ := Lib.hid (Nat.le_trans HSZ.out hb.size)
      replace HB := Lib.hid (HB.out.trans (hb.mono HB.out.size))
      clear hb
      go_wp2_with fail
      go_meet
      case rel => exact ⟨by rw [hTe.out], HE.out, HB.out, HSZ.out⟩
    · have hk24 : k = 2 ∨ k = 4 := by
        rcases HK.out with h | h | h | h
        · have := hI0 (.inl h); omega
        · exact .inl h
        · have := hI0 (.inr h); omega
        · exact .inr h
      have hTe := Lib.hid (HTM2.out hk24)
      go_wp2_with fail
      go_meet
      case rel => exact ⟨by rw [hTe.out.1], HE.out, HB.out, HSZ.out⟩
  clear HE HB HSZ e2 e7
  obtain ⟨rfl, he, hb, hsz⟩ := hcut
  have HE := Lib.hid he
  have HB := Lib.hid hb
  have HSZ := Lib.hid hsz
  clear he hb hsz
  obtain ⟨e0, e1, _, _, _, _, _, _, _⟩ := HE.out.a
  go_upto_if 33 with fail
  go_cut [8, 9, 33] from 34 (fun v8 v9 v33 wx => v8 = .int .i64 rem ∧ v9 = .int .i64 ((if k = 1 then max p N else p) + T) ∧ E2 wx g1 g2 k p m c d sn sd (.slice ao I cap) ∧ Below w.heap.size w wx ∧ g2 + 1 ≤ wx.heap.size)
  case first J K' h1 h2 =>
    by_cases hk1 : k = 1
    · have hk1' : (k == 1) = true := by simpa using hk1
      have hrem : Hid (rem = 0) := Lib.hid (by rw [HRR.out, if_pos hk1])
      have hmx : max p N + T ≤ 2147483647 := by have hee := HEE.out; rw [if_pos hk1] at hee; exact hee
      have HME := Lib.hid (show (if k = 1 then max p N else p) + T = max p N + T by rw [if_pos hk1])
      clear hk1
      go_upto_region 8 with fail
      refine Plan.wp_region_plan (fun w' => w'.cell? ⟨g1, 1, none⟩ = some (.int .i64 p)) (([0, 1, 2, 5].map (·, true)) ++ (([3].map (·, false)) ++ ([4, 6, 7].map (·, true)))) (by kernel_rfl) (by kernel_rfl) (by kernel_rfl) (HE.out.below (Below.refl _ _).drew).a.k1 ?_
      refine' Plan.plan_seg _ [0, 1, 2, 5] (([3].map (·, false)) ++ ([4, 6, 7].map (·, true))) (by kernel_rfl) (by kernel_rfl) rfl (by exact (HE.out.below (Below.refl _ _).drew).a.k1) (fun wx hS => ?_) ?_
      rotate_left
      · go_light
        iterate 4 (apply Plan.seg_pick; rfl; intro K hK; go_wp)
        exact Plan.seg_nil
      obtain ⟨w2, hw2⟩ : ∃ x, x = wc.drew := ⟨_, rfl⟩
      rw [← hw2]
      have hb : Below wc.heap.size wc w2 := by rw [hw2]; exact (Below.refl _ _).drew
      replace HE := Lib.hid (HE.out.below hb)
      replace HSZ := Lib.hid (Nat.le_trans HSZ.out hb.size)
      replace HB := Lib.hid (HB.out.trans (hb.mono HB.out.size))
      clear hb hw2
      refine Plan.plan_of_effect rfl (fun K hK => ?_)
      go_wp2_with fail
      refine (HTO.out _ (HT.out.below HB.out)).mono ?_
      rintro e w3 ⟨rfl, hb⟩
      replace HE := Lib.hid (HE.out.below hb)
      replace HSZ := Lib.hid (Nat.le_trans HSZ.out hb.size)
      replace HB := Lib.hid (HB.out.trans (hb.mono HB.out.size))
      clear hb
      go_wp2_with fail
      refine ⟨HE.out.a.k1, ?_⟩
      refine' Plan.plan_seg _ [4, 6, 7] [] (by kernel_rfl) (by kernel_rfl) rfl (by exact HE.out.a.k1) (fun wx hS => ?_) ?_
      rotate_left
      · clear hS
        go_light
        iterate 3 (apply Plan.seg_pick; rfl; intro K hK; go_wp)
        exact Plan.seg_nil
      refine Plan.plan_done ?_
      refine h2 _ _ (Met.intro (h1 _ _ ?_))
      (repeat apply Exists.intro)
      exact ⟨⟨by rw [hrem.out], by rw [HME.out], HE.out, HB.out, HSZ.out⟩, rfl⟩
    · have hk1' : (k == 1) = false := by simpa using hk1
      have hrem : Hid (rem = T) := Lib.hid (by rw [HRR.out, if_neg hk1])
      have HME := Lib.hid (show (if k = 1 then max p N else p) + T = p + T by rw [if_neg hk1])
      go_wp2_with fail
      refine Met.intro (h1 _ _ ?_)
      (repeat apply Exists.intro)
      exact ⟨⟨by rw [hrem.out], by rw [HME.out], HE.out, HB.out, HSZ.out⟩, rfl⟩
  clear HE HB HSZ e0 e1
  obtain ⟨rfl, rfl, he, hb, hsz⟩ := hcut
  have HE := Lib.hid he
  have HB := Lib.hid hb
  have HSZ := Lib.hid hsz
  clear he hb hsz
  have hmx : (if k = 1 then max p N else p) + T ≤ 2147483647 := HEE.out
  obtain ⟨Z, hZ⟩ : ∃ Z, Z = (if k = 1 then max p N else p) + T := ⟨_, rfl⟩
  rw [← hZ] at hmx ⊢
  clear hZ HEE
  have e1 := HE.out.a.k1
  go_upto_region 11 with fail
  refine Plan.wp_region_plan (fun w' => w'.cell? ⟨g1, 1, none⟩ = some (.int .i64 p)) (([0, 1, 2, 3].map (·, true)) ++ (([4].map (·, false)) ++ (([5].map (·, true)) ++ (([6].map (·, false)) ++ ([7, 8, 9, 10, 11].map (·, true)))))) (by kernel_rfl) (by kernel_rfl) (by kernel_rfl) (HE.out.below (Below.refl _ _).drew).a.k1 ?_
  refine' Plan.plan_seg _ [0, 1, 2, 3] (([4].map (·, false)) ++ (([5].map (·, true)) ++ (([6].map (·, false)) ++ ([7, 8, 9, 10, 11].map (·, true))))) (by kernel_rfl) (by kernel_rfl) rfl (by exact (HE.out.below (Below.refl _ _).drew).a.k1) (fun wx hS => ?_) ?_
  rotate_left
  · go_light
    iterate 4 (apply Plan.seg_pick; rfl; intro K hK; go_wp)
    exact Plan.seg_nil
  obtain ⟨w2, hw2⟩ : ∃ x, x = wc.drew := ⟨_, rfl⟩
  rw [← hw2]
  have hb : Below wc.heap.size wc w2 := by rw [hw2]; exact (Below.refl _ _).drew
  replace HE := Lib.hid (HE.out.below hb)
  replace HSZ := Lib.hid (Nat.le_trans HSZ.out hb.size)
  replace HB := Lib.hid (HB.out.trans (hb.mono HB.out.size))
  clear hb hw2 e1
  refine Plan.plan_of_effect rfl (fun K hK => ?_)
  go_wp2_with fail
  refine (HTO.out _ (HT.out.below HB.out)).mono ?_
  rintro e w3 ⟨rfl, hb⟩
  replace HE := Lib.hid (HE.out.below hb)
  replace HSZ := Lib.hid (Nat.le_trans HSZ.out hb.size)
  replace HB := Lib.hid (HB.out.trans (hb.mono HB.out.size))
  clear hb
  go_wp2_with fail
  refine ⟨HE.out.a.k1, ?_⟩
  refine' Plan.plan_seg (S := (fun w' => w'.cell? ⟨g1, 1, none⟩ = some (.int .i64 p))) _ [5] (([6].map (·, false)) ++ ([7, 8, 9, 10, 11].map (·, true))) (by kernel_rfl) (by kernel_rfl) rfl (by exact HE.out.a.k1) (fun wx hS => ?_) ?_
  rotate_left
  · clear hS
    go_light
    iterate 1 (apply Plan.seg_pick; rfl; intro K hK; go_wp)
    exact Plan.seg_nil
  refine Plan.plan_of_effect rfl (fun K hK => ?_)
  go_wp2_with fail
  refine (HC1.out _ (HT.out.below HB.out)).mono ?_
  rintro e w4 ⟨v10, rfl, ho, hb⟩
  replace HE := Lib.hid (HE.out.below hb)
  have HO10 := Lib.hid (ho.lower HB.out.size)
  have HSZ3 := Lib.hid (Nat.le_trans HSZ.out hb.size)
  replace HB := Lib.hid (HB.out.trans (hb.mono HB.out.size))
  clear hb ho HSZ
  go_wp2_with fail
  refine ⟨HE.out.a.k1, ?_⟩
  refine' Plan.plan_seg (S := (fun w' => w'.cell? ⟨g1, 1, none⟩ = some (.int .i64 p))) _ [7, 8, 9, 10, 11] [] (by kernel_rfl) (by kernel_rfl) rfl (by exact HE.out.a.k1) (fun wx hS => ?_) ?_
  rotate_left
  · clear hS
    go_light
    iterate 5 (apply Plan.seg_pick; rfl; intro K hK; go_wp)
    exact Plan.seg_nil
  refine Plan.plan_done ?_
  have HSZ := HSZ3
  clear HSZ3
  have e1 := HE.out.a.k1
  have hpr : p + rem ≤ 2147483647 := by omega
  go_wp2_with fail
  refine (HC2.out _ (HT.out.below HB.out)).mono ?_
  rintro e w5 ⟨v12, rfl, ho, hb⟩
  replace HE := Lib.hid (HE.out.below hb)
  have HG12 := Lib.hid (show ∀ g kk cp, v12 = .slice (some ⟨g, 0, none⟩) kk cp → g ≠ g2 from fun g kk cp e => by have := (ho.blk e).1; have := HSZ.out; omega)
  have HO12 := Lib.hid (ho.lower HB.out.size)
  replace HO10 := Lib.hid (HO10.out.below hb)
  replace HSZ := Lib.hid (Nat.le_trans HSZ.out hb.size)
  replace HB := Lib.hid (HB.out.trans (hb.mono HB.out.size))
  clear hb ho e1
  have e1 := HE.out.a.k1
  go_wp2_with fail
  refine (HRS.out _ (HT.out.below HB.out)).mono ?_
  rintro e w6 ⟨v14, rfl, ho, hb⟩
  replace HE := Lib.hid (HE.out.below hb)
  have HO14 := Lib.hid (ho.lower HB.out.size)
  replace HO10 := Lib.hid (HO10.out.below hb)
  replace HO12 := Lib.hid (HO12.out.below hb)
  replace HSZ := Lib.hid (Nat.le_trans HSZ.out hb.size)
  replace HB := Lib.hid (HB.out.trans (hb.mono HB.out.size))
  clear hb ho e1
  go_upto_region 20 with fail
  obtain ⟨a10, c10, rfl, -⟩ := HO10.out.tk
  have HL10 := Lib.hid (HCL.out 0 (min p N) (Int.le_refl 0) (by omega))
  refine Plan.wp_region_plan (fun w' => w'.cell? ⟨g1, 1, none⟩ = some (.int .i64 p)) (([0, 1, 2, 3].map (·, true)) ++ (([4].map (·, false)) ++ (([5].map (·, true)) ++ (([6, 7, 8].map (·, false)) ++ ([9].map (·, true)))))) (by kernel_rfl) (by kernel_rfl) (by kernel_rfl) (HE.out.below (Below.refl _ _).drew).a.k1 ?_
  refine' Plan.plan_seg _ [0, 1, 2, 3] (([4].map (·, false)) ++ (([5].map (·, true)) ++ (([6, 7, 8].map (·, false)) ++ ([9].map (·, true))))) (by kernel_rfl) (by kernel_rfl) rfl (by exact (HE.out.below (Below.refl _ _).drew).a.k1) (fun wx hS => ?_) ?_
  rotate_left
  · go_light
    iterate 4 (apply Plan.seg_pick; rfl; intro K hK; go_wp)
    exact Plan.seg_nil
  obtain ⟨w7, hw7⟩ : ∃ x, x = w6.drew := ⟨_, rfl⟩
  rw [← hw7]
  have hb : Below w6.heap.size w6 w7 := by rw [hw7]; exact (Below.refl _ _).drew
  replace HE := Lib.hid (HE.out.below hb)
  replace HO10 := Lib.hid (HO10.out.below hb)
  replace HO12 := Lib.hid (HO12.out.below hb)
  replace HO14 := Lib.hid (HO14.out.below hb)
  replace HSZ := Lib.hid (Nat.le_trans HSZ.out hb.size)
  replace HB := Lib.hid (HB.out.trans (hb.mono HB.out.size))
  clear hb hw7
  refine Plan.plan_of_effect rfl (fun K hK => ?_)
  go_wp2_with fail
  refine (HTO.out _ (HT.out.below HB.out)).mono ?_
  rintro e w8 ⟨rfl, hb⟩
  replace HE := Lib.hid (HE.out.below hb)
  replace HO10 := Lib.hid (HO10.out.below hb)
  replace HO12 := Lib.hid (HO12.out.below hb)
  replace HO14 := Lib.hid (HO14.out.below hb)
  replace HSZ := Lib.hid (Nat.le_trans HSZ.out hb.size)
  replace HB := Lib.hid (HB.out.trans (hb.mono HB.out.size))
  clear hb
  go_wp2_with fail
  refine ⟨HE.out.a.k1, ?_⟩
  refine' Plan.plan_seg (S := (fun w' => w'.cell? ⟨g1, 1, none⟩ = some (.int .i64 p))) _ [5] (([6, 7, 8].map (·, false)) ++ ([9].map (·, true))) (by kernel_rfl) (by kernel_rfl) rfl (by exact HE.out.a.k1) (fun wx hS => ?_) ?_
  rotate_left
  · clear hS
    go_light
    iterate 1 (apply Plan.seg_pick; rfl; intro K hK; go_wp)
    exact Plan.seg_nil
  refine Plan.plan_of_effect rfl (fun K hK => ?_)
  go_wp2_with fail
  refine (gap_any (p - N) _).mono ?_
  rintro e w9 ⟨vg, rfl, ho, hb⟩
  have ho2 : OT w9 w8.heap.size vg (Trk.gapL (p - N)) := ho
  clear ho
  obtain ⟨ag, cg, rfl, -⟩ := ho2.tk
  replace HE := Lib.hid (HE.out.below hb)
  replace HO10 := Lib.hid (HO10.out.below hb)
  replace HO12 := Lib.hid (HO12.out.below hb)
  replace HO14 := Lib.hid (HO14.out.below hb)
  have HOG := Lib.hid ho2
  replace HSZ := Lib.hid (Nat.le_trans HSZ.out hb.size)
  replace HB := Lib.hid (HB.out.trans (hb.mono HB.out.size))
  clear hb ho2
  go_wp2_with fail
  refine ⟨HE.out.a.k1, ?_⟩
  refine Plan.plan_of_effect rfl (fun K hK => ?_)
  refine Great.wpList_buildSliceTo rfl 111 35 2 #[(0, .tmp 92), (1, .tmp 98)] rfl w9.heap.size rfl (some 99) rfl Try.underlying111 #[.slice a10 (Trk.cut n 0 (min p N)).length c10, .slice ag (Trk.gapL (p - N)).length cg] ?_ ?_
  · simp only [List.map_toArray, List.map_cons, List.map_nil, List.toList_toArray]
    kernel_rfl
  have hb := below_box w9 (.cells #[.slice a10 (Trk.cut n 0 (min p N)).length c10, .slice ag (Trk.gapL (p - N)).length cg] 35)
  have hx1 : (w9.alloc (.cells #[.slice a10 (Trk.cut n 0 (min p N)).length c10, .slice ag (Trk.gapL (p - N)).length cg] 35)).cell? ⟨w9.heap.size, 0, none⟩ = some (.slice a10 (Trk.cut n 0 (min p N)).length c10) := by simp [go_sem]
  have hx2 : (w9.alloc (.cells #[.slice a10 (Trk.cut n 0 (min p N)).length c10, .slice ag (Trk.gapL (p - N)).length cg] 35)).cell? ⟨w9.heap.size, 0 + 1, none⟩ = some (.slice ag (Trk.gapL (p - N)).length cg) := by simp [go_sem]
  obtain ⟨w10, hw10⟩ : ∃ x, x = w9.alloc (.cells #[.slice a10 (Trk.cut n 0 (min p N)).length c10, .slice ag (Trk.gapL (p - N)).length cg] 35) := ⟨_, rfl⟩
  rw [← hw10] at hb hx1 hx2 ⊢
  obtain ⟨g5, hg5⟩ : ∃ x, x = w9.heap.size := ⟨_, rfl⟩
  rw [← hg5] at hx1 hx2 ⊢
  have HTA := Lib.hid (HO10.out.tk.below hb)
  have HTB := Lib.hid (HOG.out.tk.below hb)
  have HX12 := Lib.hid (And.intro hx1 hx2)
  replace HE := Lib.hid (HE.out.below hb)
  replace HO12 := Lib.hid (HO12.out.below hb)
  replace HO14 := Lib.hid (HO14.out.below hb)
  replace HSZ := Lib.hid (Nat.le_trans HSZ.out hb.size)
  replace HB := Lib.hid (HB.out.trans (hb.mono HB.out.size))
  clear hb hx1 hx2 hw10 hg5 HO10 HOG
  go_wp2_with fail
  refine ⟨HE.out.a.k1, ?_⟩
  refine Plan.plan_of_effect rfl (fun K hK => ?_)
  go_wp2_with fail
  refine (concat_two g5 0 2 _ _ _ _ _ HX12.out.1 HX12.out.2 HTA.out HTB.out (Nat.le_refl _) (by have := HL10.out; have := Trk.gapL_len (p - N); omega)).mono ?_
  rintro e w11 ⟨v15, rfl, ho, hb⟩
  obtain ⟨B, hB⟩ : ∃ B, B = w10.heap.size := ⟨_, rfl⟩
  rw [← hB] at ho
  have HO15 := Lib.hid ho
  have HBL := Lib.hid (show w.heap.size ≤ B ∧ g2 + 1 ≤ B ∧ B ≤ w11.heap.size from ⟨by rw [hB]; exact HB.out.size, by rw [hB]; exact HSZ.out, by rw [hB]; exact hb.size⟩)
  have HF12 := Lib.hid (show ∀ g k cap, v12 = .slice (some ⟨g, 0, none⟩) k cap → g < B from fun g k cap e => by rw [hB]; exact (HO12.out.blk e).2)
  have HF14 := Lib.hid (show ∀ g k cap, v14 = .slice (some ⟨g, 0, none⟩) k cap → g < B from fun g k cap e => by rw [hB]; exact (HO14.out.blk e).2)
  replace HE := Lib.hid (HE.out.below hb)
  replace HO12 := Lib.hid (HO12.out.below hb)
  replace HO14 := Lib.hid (HO14.out.below hb)
  replace HB := Lib.hid (HB.out.trans (hb.mono HB.out.size))
  clear hb ho hB HX12 HTA HTB HSZ
  go_wp2_with fail
  refine ⟨HE.out.a.k1, ?_⟩
  refine' Plan.plan_seg (S := (fun w' => w'.cell? ⟨g1, 1, none⟩ = some (.int .i64 p))) _ [9] [] (by kernel_rfl) (by kernel_rfl) rfl (by exact HE.out.a.k1) (fun wx hS => ?_) ?_
  rotate_left
  · clear hS
    go_light
    iterate 1 (apply Plan.seg_pick; rfl; intro K hK; go_wp)
    exact Plan.seg_nil
  refine Plan.plan_done ?_
  go_upto_region 22 with fail
  obtain ⟨w12, hw12⟩ : ∃ x, x = w11.alloc (.cells (edC 0 0 0 0 0 0 0 (.slice none 0 0)) 26) := ⟨_, rfl⟩
  have hw12' := hw12
  unfold edC at hw12'
  rw [← hw12']
  clear hw12'
  obtain ⟨g3, hg3⟩ : ∃ g, g = w11.heap.size := ⟨_, rfl⟩
  have hb : Below w11.heap.size w11 w12 := by rw [hw12]; exact below_box _ _
  have hv : ED w12 g3 0 0 0 0 0 0 0 (.slice none 0 0) := by rw [hw12, hg3]; exact ED.box w11 0 0 0 0 0 0 0 (.slice none 0 0) rfl 26
  rw [← hg3]
  have HV := Lib.hid hv
  have HV26 := Lib.hid (show T26 w12 g3 by rw [hw12, hg3]; exact ⟨_, _, (MapKept.heap_alloc w11 _).1⟩)
  have HG3 := Lib.hid (show B ≤ g3 ∧ g3 < w12.heap.size ∧ B ≤ w12.heap.size from ⟨by rw [hg3]; exact HBL.out.2.2, hv.lt, Nat.le_trans HBL.out.2.2 hb.size⟩)
  have HN15 := Lib.hid (show ∀ g kk cp, v15 = .slice (some ⟨g, 0, none⟩) kk cp → g3 ≠ g from fun g kk cp e => by have := (HO15.out.blk e).2; omega)
  replace HE := Lib.hid (HE.out.below hb)
  replace HO12 := Lib.hid (HO12.out.below hb)
  replace HO14 := Lib.hid (HO14.out.below hb)
  replace HO15 := Lib.hid (HO15.out.below hb)
  replace HB := Lib.hid (HB.out.trans (hb.mono HB.out.size))
  clear hb hv hg3 hw12
  have e0 := HE.out.a.k0
  go_upto_block 0 with fail
  clear e0
  have HS12 := Lib.hid (show ∃ ao m cp, v12 = .slice ao m cp by obtain ⟨ao, cp, e, _⟩ := HO12.out.tk; exact ⟨_, _, _, e⟩)
  obtain ⟨a12, m12, c12, rfl⟩ := HS12.out
  clear HS12
  go_cut [15] from 103 (fun v15' wx => OT wx B v15' (Trk.cut n 0 (min p N) ++ Trk.gapL (p - N) ++ put) ∧ (∃ vr, ED wx g3 uk p mm 0 0 0 0 vr ∧ OT wx w.heap.size vr rl ∧ (∀ g kk cp, vr = .slice (some ⟨g, 0, none⟩) kk cp → g < B) ∧ (∃ ao m cp, vr = .slice ao m cp) ∧ (∀ g kk cp, vr = .slice (some ⟨g, 0, none⟩) kk cp → g ≠ g2)) ∧ ED wx g2 0 0 0 0 0 0 0 (.slice none 0 0) ∧ OT wx w.heap.size v14 AF ∧ Below w.heap.size w wx ∧ B ≤ wx.heap.size ∧ T26 wx g3)
  case first J K' h1 h2 =>
    have HLN := Lib.hid (show (Trk.cut n 0 (min p N) ++ Trk.gapL (p - N)).length ≤ 65 by have := HL10.out; have := Trk.gapL_len (p - N); rw [List.length_append]; omega)
    rcases HK.out with hk1 | hk2 | hk3 | hk4
    · have HKK := Lib.hid hk1
      have t1 : (k == 1) = true := by have := HKK.out; simp; omega
      have HQ := Lib.hid (HUK.out.a hk1)
      clear hk1
      obtain ⟨_, _, _, _, _, _, _, e7, _⟩ := HE.out.a
      go_upto_region 24 with fail
      apply wp_region_lit
      iterate 9 go_step
      refine wpList_appM _ 35 24 Try.underlying35 Try.underlying24 rfl (.tmp 105) (.tmp 107) rfl B v15 (.slice ao I cap) _ ins rfl rfl HO15.out HG3.out.2.2 (HU.out.below HB.out) (by have := HLN.out; have := hil; have := HIL.out; omega) ?_
      intro v16 w13 q1 q2 q3 q4
      simp only [Act.put, List.setIfInBounds_toArray, List.set_cons_succ, List.set_cons_zero]
      have q5 := q3 g3 HG3.out.2.1 (fun g cp e => HN15.out g _ cp e)
      replace HV := Lib.hid (HV.out.same q5)
      replace HV26 := Lib.hid (HV26.out.same q5)
      replace HO15 := Lib.hid q1
      replace HO12 := Lib.hid (HO12.out.lim HF12.out q2)
      replace HO14 := Lib.hid (HO14.out.lim HF14.out q2)
      replace HE := Lib.hid (show E2 w13 g1 g2 k p m c d sn sd (.slice ao I cap) from ⟨HE.out.a.lim q2 (by have := HBL.out.2.1; omega), HE.out.r.lim q2 (by have := HBL.out.2.1; omega)⟩)
      replace HB := Lib.hid (HB.out.trans (q2.mono HBL.out.1))
      have HS := Lib.hid (Nat.le_trans HG3.out.2.2 q4)
      clear q1 q2 q3 q4 q5
      clear e7
      have e1 := HE.out.a.k1
      go_upto_region 25 with fail
      apply wp_region_lit
      iterate 12 go_step
      refine wpl_storeE 2 p T 0 0 0 0 none 0 0 HV.out rfl rfl rfl rfl ?_
      intro w14 q1 q2 q3 q4 q5
      simp only [Act.put, List.setIfInBounds_toArray, List.set_cons_succ, List.set_cons_zero]
      have HV4 := Lib.hid q1
      have HQ4 := Lib.hid (And.intro q2 (And.intro q3 (And.intro (q4 _ _ (show w.heap.size ≤ g3 by have := HBL.out.1; have := HG3.out.1; omega) HB.out) (q5 HV26.out))))
      clear q1 q2 q3 q4 q5 e1
      go_wp2_with fail
      refine Met.intro (h1 _ _ ?_)
      (repeat apply Exists.intro)
      refine ⟨⟨?_, ⟨(.slice none 0 0), ?_, ?_, ?_, ?_, ?_⟩, ?_, ?_, ?_, ?_, ?_⟩, rfl⟩
      · rw [HQ.out.2.2.2]
        exact HO15.out.blocks (fun g kk cp e => HQ4.out.1 g (fun h => HV26.out.ne HO15.out g kk cp e h.symm))
      · rw [HQ.out.1, HQ.out.2.1]
        exact HV4.out
      · rw [HQ.out.2.2.1]
        exact OT.nil _ _
      · exact fun g kk cp e => by simp at e
      · exact ⟨_, _, _, rfl⟩
      · exact fun g kk cp e => by simp at e
      · exact HE.out.r.same (HQ4.out.1 _ (by have := HG3.out.1; have := HBL.out.2.1; omega))
      · exact HO14.out.blocks (fun g kk cp e => HQ4.out.1 g (by have := HF14.out g kk cp e; have := HG3.out.1; omega))
      · exact HQ4.out.2.2.1
      · rw [HQ4.out.2.1]; exact HS.out
      · exact HQ4.out.2.2.2
    · have HKK := Lib.hid hk2
      have t1 : (k == 1) = false := by have := HKK.out; simp; omega
      have t2 : (k == 2) = true := by have := HKK.out; simp; omega
      have HQ := Lib.hid (HUK.out.b hk2)
      clear hk2
      have HS := Lib.hid HG3.out.2.2
      have e1 := HE.out.a.k1
      go_upto_region 27 with fail
      apply wp_region_lit
      iterate 12 go_step
      refine wpl_storeE 1 p 0 0 0 0 0 a12 m12 c12 HV.out rfl rfl rfl rfl ?_
      intro w14 q1 q2 q3 q4 q5
      simp only [Act.put, List.setIfInBounds_toArray, List.set_cons_succ, List.set_cons_zero]
      have HV4 := Lib.hid q1
      have HQ4 := Lib.hid (And.intro q2 (And.intro q3 (And.intro (q4 _ _ (show w.heap.size ≤ g3 by have := HBL.out.1; have := HG3.out.1; omega) HB.out) (q5 HV26.out))))
      clear q1 q2 q3 q4 q5 e1
      go_wp2_with fail
      refine Met.intro (h1 _ _ ?_)
      (repeat apply Exists.intro)
      refine ⟨⟨?_, ⟨(.slice a12 m12 c12), ?_, ?_, ?_, ?_, ?_⟩, ?_, ?_, ?_, ?_, ?_⟩, rfl⟩
      · rw [HQ.out.2.2.2]
        rw [List.append_nil]
        exact HO15.out.blocks (fun g kk cp e => HQ4.out.1 g (fun h => HV26.out.ne HO15.out g kk cp e h.symm))
      · rw [HQ.out.1, HQ.out.2.1]
        exact HV4.out
      · rw [HQ.out.2.2.1]
        exact HO12.out.blocks (fun g kk cp e => HQ4.out.1 g (by have := HF12.out g kk cp e; have := HG3.out.1; omega))
      · exact HF12.out
      · exact ⟨_, _, _, rfl⟩
      · exact HG12.out
      · exact HE.out.r.same (HQ4.out.1 _ (by have := HG3.out.1; have := HBL.out.2.1; omega))
      · exact HO14.out.blocks (fun g kk cp e => HQ4.out.1 g (by have := HF14.out g kk cp e; have := HG3.out.1; omega))
      · exact HQ4.out.2.2.1
      · rw [HQ4.out.2.1]; exact HS.out
      · exact HQ4.out.2.2.2
    · have HKK := Lib.hid hk3
      have t1 : (k == 1) = false := by have := HKK.out; simp; omega
      have t2 : (k == 2) = false := by have := HKK.out; simp; omega
      have t3 : (k == 3) = true := by have := HKK.out; simp; omega
      have HQ := Lib.hid (HUK.out.c hk3)
      clear hk3
      obtain ⟨_, _, _, _, _, _, _, e7, _⟩ := HE.out.a
      go_upto_region 29 with fail
      apply wp_region_lit
      iterate 9 go_step
      refine wpList_appM _ 35 24 Try.underlying35 Try.underlying24 rfl (.tmp 121) (.tmp 123) rfl B v15 (.slice ao I cap) _ ins rfl rfl HO15.out HG3.out.2.2 (HU.out.below HB.out) (by have := HLN.out; have := hil; have := HIL.out; omega) ?_
      intro v16 w13 q1 q2 q3 q4
      simp only [Act.put, List.setIfInBounds_toArray, List.set_cons_succ, List.set_cons_zero]
      have q5 := q3 g3 HG3.out.2.1 (fun g cp e => HN15.out g _ cp e)
      replace HV := Lib.hid (HV.out.same q5)
      replace HV26 := Lib.hid (HV26.out.same q5)
      replace HO15 := Lib.hid q1
      replace HO12 := Lib.hid (HO12.out.lim HF12.out q2)
      replace HO14 := Lib.hid (HO14.out.lim HF14.out q2)
      replace HE := Lib.hid (show E2 w13 g1 g2 k p m c d sn sd (.slice ao I cap) from ⟨HE.out.a.lim q2 (by have := HBL.out.2.1; omega), HE.out.r.lim q2 (by have := HBL.out.2.1; omega)⟩)
      replace HB := Lib.hid (HB.out.trans (q2.mono HBL.out.1))
      have HS := Lib.hid (Nat.le_trans HG3.out.2.2 q4)
      clear q1 q2 q3 q4 q5
      clear e7
      have e1 := HE.out.a.k1
      go_upto_region 30 with fail
      apply wp_region_lit
      iterate 12 go_step
      refine wpl_storeE 3 p 0 0 0 0 0 a12 m12 c12 HV.out rfl rfl rfl rfl ?_
      intro w14 q1 q2 q3 q4 q5
      simp only [Act.put, List.setIfInBounds_toArray, List.set_cons_succ, List.set_cons_zero]
      have HV4 := Lib.hid q1
      have HQ4 := Lib.hid (And.intro q2 (And.intro q3 (And.intro (q4 _ _ (show w.heap.size ≤ g3 by have := HBL.out.1; have := HG3.out.1; omega) HB.out) (q5 HV26.out))))
      clear q1 q2 q3 q4 q5 e1
      go_wp2_with fail
      refine Met.intro (h1 _ _ ?_)
      (repeat apply Exists.intro)
      refine ⟨⟨?_, ⟨(.slice a12 m12 c12), ?_, ?_, ?_, ?_, ?_⟩, ?_, ?_, ?_, ?_, ?_⟩, rfl⟩
      · rw [HQ.out.2.2.2]
        exact HO15.out.blocks (fun g kk cp e => HQ4.out.1 g (fun h => HV26.out.ne HO15.out g kk cp e h.symm))
      · rw [HQ.out.1, HQ.out.2.1]
        exact HV4.out
      · rw [HQ.out.2.2.1]
        exact HO12.out.blocks (fun g kk cp e => HQ4.out.1 g (by have := HF12.out g kk cp e; have := HG3.out.1; omega))
      · exact HF12.out
      · exact ⟨_, _, _, rfl⟩
      · exact HG12.out
      · exact HE.out.r.same (HQ4.out.1 _ (by have := HG3.out.1; have := HBL.out.2.1; omega))
      · exact HO14.out.blocks (fun g kk cp e => HQ4.out.1 g (by have := HF14.out g kk cp e; have := HG3.out.1; omega))
      · exact HQ4.out.2.2.1
      · rw [HQ4.out.2.1]; exact HS.out
      · exact HQ4.out.2.2.2
    · have HKK := Lib.hid hk4
      have t1 : (k == 1) = false := by have := HKK.out; simp; omega
      have t2 : (k == 2) = false := by have := HKK.out; simp; omega
      have t3 : (k == 3) = false := by have := HKK.out; simp; omega
      have t4 : (k == 4) = true := by have := HKK.out; simp; omega
      have HQ := Lib.hid (HUK.out.d hk4)
      clear hk4
      go_upto_region 32 with fail
      apply wp_region_lit
      iterate 8 go_step
      refine (gap_any T _).mono ?_
      rintro e w12' ⟨vg, rfl, ho, hb⟩
      have ho2 : OT w12' w12.heap.size vg (Trk.gapL T) := ho
      replace HE := Lib.hid (HE.out.below hb)
      replace HV := Lib.hid (HV.out.below hb)
      replace HV26 := Lib.hid (HV26.out.same (hb.block g3 HG3.out.2.1))
      replace HO12 := Lib.hid (HO12.out.below hb)
      replace HO14 := Lib.hid (HO14.out.below hb)
      replace HO15 := Lib.hid (HO15.out.below hb)
      replace HG3 := Lib.hid (show B ≤ g3 ∧ g3 < w12'.heap.size ∧ B ≤ w12'.heap.size from ⟨HG3.out.1, Nat.lt_of_lt_of_le HG3.out.2.1 hb.size, Nat.le_trans HG3.out.2.2 hb.size⟩)
      replace HB := Lib.hid (HB.out.trans (hb.mono HB.out.size))
      have HOG := Lib.hid ho2.tk
      clear ho ho2 hb
      dsimp only
      go_step
      refine wpList_appM _ 35 24 Try.underlying35 Try.underlying24 rfl (.tmp 131) (.tmp 133) rfl B v15 vg _ (Trk.gapL T) rfl rfl HO15.out HG3.out.2.2 HOG.out (by have := HLN.out; have := Trk.gapL_len T; omega) ?_
      intro v16 w13 q1 q2 q3 q4
      simp only [Act.put, List.setIfInBounds_toArray, List.set_cons_succ, List.set_cons_zero]
      have q5 := q3 g3 HG3.out.2.1 (fun g cp e => HN15.out g _ cp e)
      replace HV := Lib.hid (HV.out.same q5)
      replace HV26 := Lib.hid (HV26.out.same q5)
      replace HO15 := Lib.hid q1
      replace HO12 := Lib.hid (HO12.out.lim HF12.out q2)
      replace HO14 := Lib.hid (HO14.out.lim HF14.out q2)
      replace HE := Lib.hid (show E2 w13 g1 g2 k p m c d sn sd (.slice ao I cap) from ⟨HE.out.a.lim q2 (by have := HBL.out.2.1; omega), HE.out.r.lim q2 (by have := HBL.out.2.1; omega)⟩)
      replace HB := Lib.hid (HB.out.trans (q2.mono HBL.out.1))
      have HS := Lib.hid (Nat.le_trans HG3.out.2.2 q4)
      clear q1 q2 q3 q4 q5
      have e1 := HE.out.a.k1
      go_upto_region 33 with fail
      apply wp_region_lit
      iterate 12 go_step
      refine wpl_storeE 3 p 0 0 0 0 0 a12 m12 c12 HV.out rfl rfl rfl rfl ?_
      intro w14 q1 q2 q3 q4 q5
      simp only [Act.put, List.setIfInBounds_toArray, List.set_cons_succ, List.set_cons_zero]
      have HV4 := Lib.hid q1
      have HQ4 := Lib.hid (And.intro q2 (And.intro q3 (And.intro (q4 _ _ (show w.heap.size ≤ g3 by have := HBL.out.1; have := HG3.out.1; omega) HB.out) (q5 HV26.out))))
      clear q1 q2 q3 q4 q5 e1
      go_wp2_with fail
      refine Met.intro (h1 _ _ ?_)
      (repeat apply Exists.intro)
      refine ⟨⟨?_, ⟨(.slice a12 m12 c12), ?_, ?_, ?_, ?_, ?_⟩, ?_, ?_, ?_, ?_, ?_⟩, rfl⟩
      · rw [HQ.out.2.2.2]
        exact HO15.out.blocks (fun g kk cp e => HQ4.out.1 g (fun h => HV26.out.ne HO15.out g kk cp e h.symm))
      · rw [HQ.out.1, HQ.out.2.1]
        exact HV4.out
      · rw [HQ.out.2.2.1]
        exact HO12.out.blocks (fun g kk cp e => HQ4.out.1 g (by have := HF12.out g kk cp e; have := HG3.out.1; omega))
      · exact HF12.out
      · exact ⟨_, _, _, rfl⟩
      · exact HG12.out
      · exact HE.out.r.same (HQ4.out.1 _ (by have := HG3.out.1; have := HBL.out.2.1; omega))
      · exact HO14.out.blocks (fun g kk cp e => HQ4.out.1 g (by have := HF14.out g kk cp e; have := HG3.out.1; omega))
      · exact HQ4.out.2.2.1
      · rw [HQ4.out.2.1]; exact HS.out
      · exact HQ4.out.2.2.2
  clear HE HB HO15 HO12 HO14 HV HV26 HN15 HF12 HG12
  obtain ⟨ho15, ⟨vr, hv, hor, hfr, hsr, hgr⟩, hr, ho14, hb, hs, h26⟩ := hcut
  have HO15 := Lib.hid ho15
  have HV := Lib.hid hv
  have HOR := Lib.hid hor
  have HFR := Lib.hid hfr
  have HSR := Lib.hid hsr
  have HGR := Lib.hid hgr
  have HR := Lib.hid hr
  have HO14 := Lib.hid ho14
  have HB := Lib.hid hb
  have HS := Lib.hid hs
  have HV26 := Lib.hid h26
  clear ho15 hv hor hfr hsr hgr hr ho14 hb hs h26
  obtain ⟨ar, mr, cr, rfl⟩ := HSR.out
  go_upto_region 34 with fail
  refine Plan.wp_region_plan (fun w' => ED w' g3 uk p mm 0 0 0 0 (.slice ar mr cr)) (([0, 1, 3].map (·, true)) ++ (([2].map (·, false)) ++ (([4].map (·, true)) ++ (([5].map (·, false)) ++ ([6].map (·, true)))))) (by kernel_rfl) (by kernel_rfl) (by kernel_rfl) (HV.out.below (Below.refl _ _).drew) ?_
  refine' Plan.plan_seg _ [0, 1, 3] (([2].map (·, false)) ++ (([4].map (·, true)) ++ (([5].map (·, false)) ++ ([6].map (·, true))))) (by kernel_rfl) (by kernel_rfl) rfl (by exact HV.out.below (Below.refl _ _).drew) (fun wx hS => ?_) ?_
  rotate_left
  · go_light
    iterate 2 (apply Plan.seg_pick; rfl; intro K hK; go_wp)
    (apply Plan.seg_pick; rfl; intro K hK)
    refine wpl_loadE hS rfl rfl rfl ?_
    go_wp
    exact Plan.seg_nil
  obtain ⟨w15, hw15⟩ : ∃ x, x = wc.drew := ⟨_, rfl⟩
  rw [← hw15]
  have hb : Below wc.heap.size wc w15 := by rw [hw15]; exact (Below.refl _ _).drew
  replace HV26 := Lib.hid (HV26.out.same (hb.block g3 HV.out.lt))
  replace HV := Lib.hid (HV.out.below hb)
  replace HO15 := Lib.hid (HO15.out.below hb)
  replace HOR := Lib.hid (HOR.out.below hb)
  replace HR := Lib.hid (HR.out.below hb)
  replace HO14 := Lib.hid (HO14.out.below hb)
  replace HS := Lib.hid (Nat.le_trans HS.out hb.size)
  replace HB := Lib.hid (HB.out.trans (hb.mono HB.out.size))
  clear hb hw15
  refine Plan.plan_of_effect rfl (fun K hK => ?_)
  refine wpList_appTo _ 35 35 (some 141) rfl Try.underlying35 Try.underlying35 rfl (.tmp 139) (.tmp 140) rfl B u15 v14 _ AF rfl rfl HO15.out HS.out HO14.out.tk (by have h1 := HL10.out; have h2 := Trk.gapL_len (p - N); have h3 := HPL.out; have h4 := HAL.out; rw [List.length_append, List.length_append]; omega) ?_
  intro v4 w16 q1 q2 q3 q4
  simp only [Act.put, List.setIfInBounds_toArray, List.set_cons_succ, List.set_cons_zero]
  have q5 := q3 g3 HV.out.lt (fun g cp e => HV26.out.ne HO15.out g _ cp e)
  replace HV := Lib.hid (HV.out.same q5)
  have HO4 := Lib.hid (q1.lower HBL.out.1)
  replace HOR := Lib.hid (HOR.out.lim HFR.out q2)
  replace HR := Lib.hid (HR.out.lim q2 (by have := HBL.out.2.1; omega))
  replace HB := Lib.hid (HB.out.trans (q2.mono HBL.out.1))
  have HN4 := Lib.hid (show ∀ g kk cp, v4 = .slice (some ⟨g, 0, none⟩) kk cp → B ≤ g from fun g kk cp e => (q1.blk e).1)
  clear q1 q2 q3 q4 q5 HO15 HO14 HV26
  go_wp2_with fail
  refine ⟨HV.out, ?_⟩
  refine' Plan.plan_seg (S := (fun w' => ED w' g3 uk p mm 0 0 0 0 (.slice ar mr cr))) _ [4] (([5].map (·, false)) ++ ([6].map (·, true))) (by kernel_rfl) (by kernel_rfl) rfl (by exact HV.out) (fun wx hS => ?_) ?_
  rotate_left
  · clear hS
    go_light
    iterate 1 (apply Plan.seg_pick; rfl; intro K hK; go_wp)
    exact Plan.seg_nil
  refine Plan.plan_of_effect rfl (fun K hK => ?_)
  refine wpl_storeE uk p mm 0 0 0 0 ar mr cr HR.out rfl rfl rfl rfl ?_
  intro w17 q1 q2 q3 q4 q5
  simp only [Act.put, List.setIfInBounds_toArray, List.set_cons_succ, List.set_cons_zero]
  replace HR := Lib.hid q1
  have hne23 : g3 ≠ g2 := by have := HG3.out.1; have := HBL.out.2.1; omega
  replace HV := Lib.hid (HV.out.same (q2 g3 hne23))
  replace HO4 := Lib.hid (HO4.out.blocks (fun g kk cp e => q2 g (by have := HN4.out g kk cp e; have := HBL.out.2.1; omega)))
  have HORN := Lib.hid (show OT w17 w.heap.size (.slice ar mr cr) rl from HOR.out.blocks (fun g kk cp e => q2 g (HGR.out g kk cp e)))
  replace HB := Lib.hid (q4 _ _ hn2 HB.out)
  clear q1 q2 q3 q4 q5
  go_wp2_with fail
  refine ⟨HV.out, ?_⟩
  refine' Plan.plan_seg (S := (fun w' => ED w' g3 uk p mm 0 0 0 0 (.slice ar mr cr))) _ [6] [] (by kernel_rfl) (by kernel_rfl) rfl (by exact HV.out) (fun wx hS => ?_) ?_
  rotate_left
  · clear hS
    go_light
    iterate 1 (apply Plan.seg_pick; rfl; intro K hK; go_wp)
    exact Plan.seg_nil
  refine Plan.plan_done ?_
  iterate 3 go_step
  refine bodyPost_ret (v := .tuple #[v4, edV uk p mm 0 0 0 0 (.slice ar mr cr), .int .i64 0]) (results_ed Try.results45 rfl rfl rfl HR.out ⟨_, _, _, rfl⟩) rfl ?_
  exact ⟨_, _, rfl, by rw [HEX.out]; exact HO4.out, HORN.out, HB.out⟩
end Go.Proofs.Ytnmkcpgcdjhdjaa

/- One clip of the call's own list turned in place; the closure that lengthens. -/
namespace Go.Proofs.Ytnmkcpgcdjhdjaa
open Go.RowKit
set_option linter.unusedVariables false
set_option linter.unusedSimpArgs false
theorem cells_range : ∀ {l : List Trk.Clip} {i : Nat} {x x' : Trk.Clip} {j : Nat} {vs : List Value}, l[i]? = some x → j + vs.length ≤ 22 → clipC x' = (clipC x).take j ++ vs ++ (clipC x).drop (j + vs.length) →
    (cells l).take (i * 22 + j) ++ vs ++ (cells l).drop (i * 22 + j + vs.length) = cells (l.set i x')
  | [], i, x, x', j, vs, h, _, _ => by simp at h
  | c :: l, 0, x, x', j, vs, h, hj, e => by
    simp only [List.getElem?_cons_zero, Option.some.injEq] at h
    subst h
    show (clipC c ++ cells l).take (0 * 22 + j) ++ vs ++ (clipC c ++ cells l).drop (0 * 22 + j + vs.length) = clipC x' ++ cells l
    rw [Nat.zero_mul, Nat.zero_add, e, List.take_append_of_le_length (by rw [clipC_length]; omega), List.drop_append_of_le_length (by rw [clipC_length]; omega)]
    simp [List.append_assoc]
  | c :: l, i + 1, x, x', j, vs, h, hj, e => by
    simp only [List.getElem?_cons_succ] at h
    have ih := cells_range (l := l) h hj e
    show (clipC c ++ cells l).take ((i + 1) * 22 + j) ++ vs ++ (clipC c ++ cells l).drop ((i + 1) * 22 + j + vs.length) = clipC c ++ cells (l.set i x')
    have e1 : (i + 1) * 22 + j = (clipC c).length + (i * 22 + j) := by rw [clipC_length]; omega
    have e2 : (i + 1) * 22 + j + vs.length = (clipC c).length + (i * 22 + j + vs.length) := by rw [clipC_length]; omega
    rw [e1, List.take_length_add_append, ← e1, e2, List.drop_length_add_append, ← ih]
    simp [List.append_assoc]
theorem OT.range {w : World} {B g cap kk : Nat} {l : List Trk.Clip} {i j : Nat} {x x' : Trk.Clip} {vs : List Value} (h : OT w B (.slice (some ⟨g, 0, none⟩) kk cap) l) (hx : l[i]? = some x) (hj : j + vs.length ≤ 22)
    (e : clipC x' = (clipC x).take j ++ vs ++ (clipC x).drop (j + vs.length)) : OT (w.setCells g (i * 22 + j) vs) B (.slice (some ⟨g, 0, none⟩) kk cap) (l.set i x') := by
  have hk := h.own.2.2.1
  subst hk
  unfold OT at h ⊢
  have hi := (List.getElem?_eq_some_iff.1 hx).1
  have h2 := RowX.setCells vs (o := i * 22 + j) h (by rw [cells_length]; omega)
  rw [cells_range hx hj e] at h2
  rw [List.length_set]
  exact h2
/-- Only block g is turned; more blocks may be there. -/
structure Turn (g : Nat) (w w' : World) : Prop where
  s : w.heap.size ≤ w'.heap.size
  o : ∀ b, b < w.heap.size → b ≠ g → w'.heap[b]? = w.heap[b]?
  b : ∀ n w0, n ≤ g → Below n w0 w → Below n w0 w'
theorem Turn.refl (g : Nat) (w : World) : Turn g w w := ⟨Nat.le_refl _, fun _ _ _ => rfl, fun _ _ _ h => h⟩
theorem Turn.trans {g : Nat} {a b c : World} (h : Turn g a b) (k : Turn g b c) : Turn g a c :=
  ⟨Nat.le_trans h.s k.s, fun x hx hn => (k.o x (Nat.lt_of_lt_of_le hx h.s) hn).trans (h.o x hx hn), fun n w0 hn hb => k.b n w0 hn (h.b n w0 hn hb)⟩
theorem Turn.cells (g o : Nat) (vs : List Value) (w : World) : Turn g w (w.setCells g o vs) :=
  ⟨Nat.le_of_eq (size_setCells g vs o w).symm, fun b _ hn => setCells_other g b hn vs o w, fun n w0 hn hb => below_setCells g hn _ _ _ hb⟩
theorem Turn.cell (g o : Nat) (u : Value) (w : World) : Turn g w (w.setCell ⟨g, o, none⟩ u) := Turn.cells g o [u] w
theorem Turn.of {g : Nat} {w w' : World} (hg : g ≤ w.heap.size) (h : Below w.heap.size w w') : Turn g w w' :=
  ⟨h.size, fun b hb _ => h.block b hb, fun n w0 hn hb => hb.trans (h.mono (Nat.le_trans hn hg))⟩
theorem Turn.get {g : Nat} {w w' : World} (h : Turn g w w') {b o : Nat} {u : Value} (hn : b ≠ g) (hc : w.cell? ⟨b, o, none⟩ = some u) : w'.cell? ⟨b, o, none⟩ = some u :=
  (World.cell?_of_block (a := ⟨b, o, none⟩) (h.o b (block_lt_of_cell hc) hn)).trans hc
theorem Turn.ed {g : Nat} {w w' : World} (h : Turn g w w') {b : Nat} {k p n c d sn sd : Int} {v : Value} (hn : b ≠ g) (hc : ED w b k p n c d sn sd v) : ED w' b k p n c d sn sd v := hc.same (h.o b hc.lt hn)
/-- What the closures see: the variable that holds the list, the edit, the list itself. -/
structure Seen (w : World) (b8 b3 g N cap : Nat) (d : Int) (l : List Trk.Clip) (B : Nat) : Prop where
  v : w.cell? ⟨b8, 0, none⟩ = some (.slice (some ⟨g, 0, none⟩) N cap)
  d : w.cell? ⟨b3, 4, none⟩ = some (.int .i64 d)
  l : OT w B (.slice (some ⟨g, 0, none⟩) N cap) l
  n8 : b8 ≠ g
  n3 : b3 ≠ g
theorem Seen.below {w w' : World} {b8 b3 g N cap : Nat} {d : Int} {l : List Trk.Clip} {B : Nat} (h : Seen w b8 b3 g N cap d l B) (hb : Below w.heap.size w w') : Seen w' b8 b3 g N cap d l B :=
  ⟨(hb.cell (block_lt_of_cell h.v)).trans h.v, (hb.cell (block_lt_of_cell h.d)).trans h.d, h.l.below hb, h.n8, h.n3⟩
theorem Seen.cells {w : World} {b8 b3 g N cap : Nat} {d : Int} {l : List Trk.Clip} {B : Nat} (h : Seen w b8 b3 g N cap d l B) {i j : Nat} {x x' : Trk.Clip} {vs : List Value} (hx : l[i]? = some x) (hj : j + vs.length ≤ 22)
    (e : clipC x' = (clipC x).take j ++ vs ++ (clipC x).drop (j + vs.length)) : Seen (w.setCells g (i * 22 + j) vs) b8 b3 g N cap d (l.set i x') B :=
  ⟨(Turn.cells g (i * 22 + j) vs w).get h.n8 h.v, (Turn.cells g (i * 22 + j) vs w).get h.n3 h.d, h.l.range hx hj e, h.n8, h.n3⟩
theorem upd_set {l : List Trk.Clip} {i : Nat} {x : Trk.Clip} (h : l[i]? = some x) (f : Trk.Clip → Trk.Clip) : Trk.upd l i f = l.set i (f x) := by unfold Trk.upd; rw [h]
theorem Seen.room {w : World} {b8 b3 g N cap : Nat} {d : Int} {l : List Trk.Clip} {B : Nat} (h : Seen w b8 b3 g N cap d l B) : N = l.length ∧ N ≤ cap := by
  obtain ⟨ao, c', e, h1, h2, _⟩ := h.l.tk
  simp only [Value.slice.injEq] at e
  exact ⟨h.l.own.2.2.1, by omega⟩
def ClosPost (w : World) (b8 b3 g N cap : Nat) (d : Int) (l : List Trk.Clip) (B : Nat) (e : Ending) (w' : World) : Prop := e = .returned (.tuple #[]) ∧ Seen w' b8 b3 g N cap d l B ∧ Turn g w w'
/-- The two cells that every closure reads. -/
structure C82 (w : World) (b8 b3 g N cap : Nat) (d : Int) : Prop where
  v : w.cell? ⟨b8, 0, none⟩ = some (.slice (some ⟨g, 0, none⟩) N cap)
  d : w.cell? ⟨b3, 4, none⟩ = some (.int .i64 d)
theorem C82.below {w w' : World} {b8 b3 g N cap : Nat} {d : Int} (h : C82 w b8 b3 g N cap d) (hb : Below w.heap.size w w') : C82 w' b8 b3 g N cap d :=
  ⟨(hb.cell (block_lt_of_cell h.v)).trans h.v, (hb.cell (block_lt_of_cell h.d)).trans h.d⟩
theorem Seen.c82 {w : World} {b8 b3 g N cap : Nat} {d : Int} {l : List Trk.Clip} {B : Nat} (h : Seen w b8 b3 g N cap d l B) : C82 w b8 b3 g N cap d := ⟨h.v, h.d⟩
theorem Seen.at' {w : World} {b8 b3 g N cap : Nat} {d : Int} {l : List Trk.Clip} {B : Nat} (h : Seen w b8 b3 g N cap d l B) {i : Nat} {x : Trk.Clip} (hx : l[i]? = some x) : CA w g (i * 22) x := h.l.own.2.2.2 i x hx
theorem CA.src_a {w : World} {b o : Nat} {c : Trk.Clip} (h : CA w b o c) : w.rangeAt b (o + 2) (srcC c.a) := by
  intro j u hj
  have hl : j < 7 := (List.getElem?_eq_some_iff.1 hj).1
  have h2 := h.get (2 + j) u (by
    rcases (show j = 0 ∨ j = 1 ∨ j = 2 ∨ j = 3 ∨ j = 4 ∨ j = 5 ∨ j = 6 by omega) with rfl | rfl | rfl | rfl | rfl | rfl | rfl <;> simpa [srcC, clipC] using hj)
  rw [Nat.add_assoc]
  exact h2
theorem CA.src_b {w : World} {b o : Nat} {c : Trk.Clip} (h : CA w b o c) : w.rangeAt b (o + 9) (srcC c.b) := by
  intro j u hj
  have hl : j < 7 := (List.getElem?_eq_some_iff.1 hj).1
  have h2 := h.get (9 + j) u (by
    rcases (show j = 0 ∨ j = 1 ∨ j = 2 ∨ j = 3 ∨ j = 4 ∨ j = 5 ∨ j = 6 by omega) with rfl | rfl | rfl | rfl | rfl | rfl | rfl <;> simpa [srcC, clipC] using hj)
  rw [Nat.add_assoc]
  exact h2
theorem wpl_loadS {ops : Array Oper} {rest : List Oper} {op : Oper} {a : Act} {w : World} {Q : Exit → Act → World → Prop} {b o : Nat} {s : Trk.Src} (dst : Option Tmp) (hd : op.dst = dst) {x : Operand} (hc : w.rangeAt b o (srcC s)) (hgd : op.guard = none) (ho : op.op = .load 51 x)
    (hx : a.eval x = .pointer (some ⟨b, o, none⟩)) (h : wpList Try.prog ops Q rest (a.put dst (.agg (srcC s).toArray)) w) : wpList Try.prog ops Q (op :: rest) a w := by
  subst hd
  exact wpList_load_mid hgd 51 x ho b o hx (srcC s) _ hc Try.underlying51 rfl (by kernel_rfl) h
theorem src_oneCell (s : Trk.Src) : (srcC s).toArray.all (·.oneCell') = true := by simp [srcC, Value.oneCell']
theorem wpl_storeS {ops : Array Oper} {rest : List Oper} {op : Oper} {a : Act} {w : World} {Q : Exit → Act → World → Prop} {b o : Nat} (s : Trk.Src) (dst : Option Tmp) (hd : op.dst = dst) {x y : Operand} (ht : w.there b o 7) (hgd : op.guard = none) (ho : op.op = .store 51 x y)
    (hx : a.eval x = .pointer (some ⟨b, o, none⟩)) (hy : a.eval y = .agg (srcC s).toArray) (h : wpList Try.prog ops Q rest (a.put dst undef) (w.setCells b o (srcC s))) : wpList Try.prog ops Q (op :: rest) a w := by
  subst hd
  exact wpList_store_mid hgd 51 x y ho b o (srcC s).toArray hx hy ht (by kernel_rfl) (src_oneCell s) h
set_option maxRecDepth 100000 in
set_option maxHeartbeats 8000000 in
theorem lengthen_any (i : Nat) (x : Trk.Clip) (b8 b3 g N cap : Nat) (d : Int) (l : List Trk.Clip) (B : Nat) (w : World) (h : Seen w b8 b3 g N cap d l B) (hx : l[i]? = some x) (hN : N ≤ 64) (hl : x.len.natAbs ≤ 1099511627776) (hd : d.natAbs ≤ 1099511627776) :
    Calls Try.prog 69 #[.int .i64 (i : Int), .pointer (some ⟨b8, 0, none⟩), .pointer (some ⟨b3, 0, none⟩)] w (ClosPost w b8 b3 g N cap d (Trk.upd l i (Trk.lenBy d)) B) := by
  have hr := h.room
  have hi := (List.getElem?_eq_some_iff.1 hx).1
  have hiN : i < N := by omega
  have hiN' : (i : Int) < (N : Int) := by omega
  have hcap := hr.2
  have HS := Lib.hid h
  have HX := Lib.hid (upd_set hx (Trk.lenBy d))
  have HXX := Lib.hid hx
  have HC := Lib.hid h.c82
  clear hr hi hx h
  go_enter Try.func69, Try.ntmps69
  go_upto_region 0 with fail
  refine Plan.wp_region_plan (fun w' => C82 w' b8 b3 g N cap d) (([0, 1, 2, 3, 5, 6].map (·, true)) ++ (([4].map (·, false)) ++ (([7, 8, 9].map (·, true)) ++ ([10].map (·, false))))) (by kernel_rfl) (by kernel_rfl) (by kernel_rfl) (HC.out.below (Below.refl _ _).drew) ?_
  refine' Plan.plan_seg _ [0, 1, 2, 3, 5, 6] (([4].map (·, false)) ++ (([7, 8, 9].map (·, true)) ++ ([10].map (·, false)))) (by kernel_rfl) (by kernel_rfl) rfl (by exact HC.out.below (Below.refl _ _).drew) (fun wx hS => ?_) ?_
  rotate_left
  · obtain ⟨y1, y2⟩ := hS
    go_light
    iterate 6 (apply Plan.seg_pick; rfl; intro K hK; go_wp)
    exact Plan.seg_nil
  obtain ⟨w1, hw1⟩ : ∃ x, x = w.drew := ⟨_, rfl⟩
  rw [← hw1]
  have hb : Below w.heap.size w w1 := by rw [hw1]; exact (Below.refl _ _).drew
  have HT := Lib.hid (Turn.of (g := g) (Nat.le_of_lt (HS.out.l.own.2.1)) hb)
  replace HS := Lib.hid (HS.out.below hb)
  replace HC := Lib.hid (HC.out.below hb)
  have z := (HS.out.at' HXX.out).k0
  have zf := HS.out.l.frozen (i * 22)
  clear hb hw1
  refine Plan.plan_of_effect rfl (fun K hK => ?_)
  go_wp2_with fail
  refine ⟨HS.out.c82, ?_⟩
  refine' Plan.plan_seg (S := (fun w' => C82 w' b8 b3 g N cap d)) _ [7, 8, 9] ([10].map (·, false)) (by kernel_rfl) (by kernel_rfl) rfl (by exact HS.out.c82) (fun wx hS => ?_) ?_
  rotate_left
  · clear hS
    go_light
    iterate 3 (apply Plan.seg_pick; rfl; intro K hK; go_wp)
    exact Plan.seg_nil
  refine Plan.plan_of_effect rfl (fun K hK => ?_)
  go_wp2_with fail
  clear z zf
  have HS2 := Lib.hid (HS.out.cells (j := 0) (vs := [.int .i64 (x.len + d)]) (x' := Trk.lenBy d x) HXX.out (by simp) rfl)
  have HT2 := Lib.hid (HT.out.trans (Turn.cells g (i * 22 + 0) [.int .i64 (x.len + d)] w1))
  refine ⟨HS2.out.c82, ?_⟩
  refine Plan.plan_done ?_
  refine bodyPost_end (results_none Try.results69 _ _ _) rfl ?_
  unfold ClosPost
  rw [HX.out]
  exact ⟨rfl, HS2.out, HT2.out⟩
end Go.Proofs.Ytnmkcpgcdjhdjaa

/- A plan whose last operation waits for all others, perhaps through others: behind it the condition need not hold. -/
namespace Go.Plan
open Go
section
variable {P : Program} {ops : Array Oper} {Q : Exit → Act → World → Prop} {S : World → Prop} {z : Nat} {C : Act → World → Prop}
/-- Operation j waits for operation i, perhaps through others. -/
def waitsFor (ops : Array Oper) : Nat → Nat → Nat → Bool
  | 0, _, _ => false
  | f + 1, j, i => match ops[j]? with
    | some o => o.after.any fun e => Region.binds .any e && (e.on == i || waitsFor ops f e.on i)
    | none => false
def lastOK2 (ops : Array Oper) (z : Nat) : Bool :=
  match ops[z]? with
  | some _ => (List.range ops.size).all fun i => i == z || waitsFor ops 4 z i
  | none => true
/-- What is listed waits for nothing any more. -/
def Closed (ops : Array Oper) (listed : Array Bool) : Prop := ∀ (j : Nat) (o : Oper), ops[j]? = some o → listed.getD j false = true → ∀ e ∈ o.after, Region.binds .any e = true → listed.getD e.on false = true
theorem waits_spec {listed : Array Bool} (hc : Closed ops listed) : ∀ (f j i : Nat), (∀ o, ops[j]? = some o → ∀ e ∈ o.after, Region.binds .any e = true → listed.getD e.on false = true) → waitsFor ops f j i = true → listed.getD i false = true
  | 0, j, i, _, h => by simp [waitsFor] at h
  | f + 1, j, i, hj, h => by
    unfold waitsFor at h
    split at h
    · rename_i o ho
      obtain ⟨e, he, hb⟩ := Array.any_eq_true'.1 h
      simp only [Bool.and_eq_true, Bool.or_eq_true, beq_iff_eq] at hb
      have hl := hj o ho e he hb.1
      rcases hb.2 with h2 | h2
      · rw [← h2]; exact hl
      · exact waits_spec hc f e.on i (fun o' ho' e' he' hb' => hc e.on o' ho' hl e' he' hb') h2
    · cases h
theorem Closed.set {listed : Array Bool} (hc : Closed ops listed) {j : Nat} (hj : j ∈ Region.ready .any ops listed) : Closed ops (listed.setIfInBounds j true) := by
  intro k o ho hk e he hb
  obtain ⟨hjun, oj, hoj, hall⟩ := mem_ready.1 hj
  have hmono : ∀ m, listed.getD m false = true → (listed.setIfInBounds j true).getD m false = true := fun m hm => by
    by_cases hjm : j = m
    · subst hjm
      have hlt : j < listed.size := by
        by_cases hlt : j < listed.size
        · exact hlt
        · simp [Array.getElem?_eq_none (Nat.le_of_not_lt hlt)] at hm
      simp [hlt]
    · rw [getD_set_ne false hjm]; exact hm
  by_cases hjk : j = k
  · subst hjk
    rw [hoj] at ho
    obtain rfl := Option.some.inj ho
    exact hmono _ (hall e he hb)
  · rw [getD_set_ne false hjk] at hk
    exact hmono _ (hc k o ho hk e he hb)
theorem anyS_take2 {i : Nat} {oi : Oper} {v : Value} (hi : ops[i]? = some oi) (hs : Region.noSelect ops = true) (hz : lastOK2 ops z = true) (hQ : ∀ c a w, Q (.panic c) (a.put oi.dst v) w → Q (.panic c) a w) :
    ∀ (fuel : Nat) (listed : Array Bool) (a : Act) (w : World), Closed ops listed → Region.free .any ops listed i = true → i ∈ Region.ready .any ops listed → YieldsIf P ops S oi v a → S w →
      anyS P ops Q S z fuel (listed.setIfInBounds i true) (a.put oi.dst v) w → anyS P ops Q S z (fuel + 1) listed a w := by
  have hsel := Region.noSelect_spec hs
  have hilt := (Array.getElem?_eq_some_iff.1 hi).1
  have key : ∀ (fuel : Nat) (listed : Array Bool) (a : Act) (w : World), Closed ops listed →
      (∀ j oj, ops[j]? = some oj → j ≠ i → listed.getD j true = false → (∀ e ∈ oj.after, Region.binds .any e = true → e.on ≠ i) → oi.apart ops oj = true) →
      i ∈ Region.ready .any ops listed → YieldsIf P ops S oi v a → S w → anyS P ops Q S z fuel (listed.setIfInBounds i true) (a.put oi.dst v) w → anyS P ops Q S z (fuel + 1) listed a w := by
    intro fuel
    induction fuel with
    | zero =>
      intro listed a w _ _ hr hy hS H
      refine ⟨fun h => absurd (h ▸ hr) (by simp), fun j hj => ?_⟩
      by_cases hji : j = i
      · subst hji; exact hy.wpOp hi hS ⟨fun _ => hS, H⟩
      · have := ready_mono hj hji
        rw [H.1] at this
        cases this
    | succ fuel ih =>
      intro listed a w hcl hfree hr hy hS H
      refine ⟨fun h => absurd (h ▸ hr) (by simp), fun j hj => ?_⟩
      by_cases hji : j = i
      · subst hji; exact hy.wpOp hi hS ⟨fun _ => hS, H⟩
      · have h1 := H.2 j (ready_mono hj hji)
        obtain ⟨hjun, oj, hoj, hall⟩ := mem_ready.1 hj
        have hnot : ∀ e ∈ oj.after, Region.binds .any e = true → e.on ≠ i := fun e he hb heq => by
          have h3 := hall e he hb
          have h0 := (mem_ready.1 hr).1
          rw [heq] at h3
          by_cases hlt : i < listed.size
          · simp [hlt] at h0 h3; rw [h0] at h3; cases h3
          · simp [Array.getElem?_eq_none (Nat.le_of_not_lt hlt)] at h3
        have hjz : j ≠ z := by
          rintro rfl
          have hz2 := hz
          simp only [lastOK2, hoj, List.all_eq_true, List.mem_range] at hz2
          have h4 := hz2 i hilt
          simp only [Bool.or_eq_true, beq_iff_eq, Ne.symm hji, false_or] at h4
          have h3 := waits_spec hcl 4 j i (fun o ho e he hb => by
            rw [hoj] at ho
            obtain rfl := Option.some.inj ho
            exact hall e he hb) h4
          have h0 := (mem_ready.1 hr).1
          by_cases hlt : i < listed.size
          · simp [hlt] at h0 h3; rw [h0] at h3; cases h3
          · simp [Array.getElem?_eq_none (Nat.le_of_not_lt hlt)] at h3
        have h2 := wpOp_putIf hoj (hfree j oj hoj hji hjun hnot) (fun cs b => hsel i oi cs b hi) (fun cs b => hsel j oj cs b hoj) hQ hy h1
        refine wpOp_mono (fun a' w' h3 => ?_) h2
        obtain ⟨hy', himp, hrest⟩ := h3
        have hr' : i ∈ Region.ready .any ops (listed.setIfInBounds j true) := ready_mono hr (Ne.symm hji)
        have hS' : S w' := himp hjz
        refine ⟨fun _ => hS', ih (listed.setIfInBounds j true) a' w' (hcl.set hj) (fun k ok hk hki hun hno => ?_) hr' hy' hS' ?_⟩
        · refine hfree k ok hk hki ?_ hno
          by_cases hjk : j = k
          · subst hjk; exact hjun
          · rw [getD_set_ne true hjk] at hun; exact hun
        · rw [Array.setIfInBounds_comm _ _ hji]
          exact hrest
  intro fuel listed a w hcl hf hr hy hS H
  exact key fuel listed a w hcl (Region.free_spec hi hf) hr hy hS H
theorem held_of_plan2 (hs : Region.noSelect ops = true) (hz : lastOK2 ops z = true) (hQ : ∀ c a d v w, Q (.panic c) (a.put d v) w → Q (.panic c) a w) (listed' : Array Bool) (fuel : Nat)
    (hC : ∀ a w, (¬ listed'.getD z false = true → S w) → C a w → anyS P ops Q S z fuel listed' a w) :
    ∀ (plan : List (Nat × Bool)) (listed : Array Bool) (a : Act) (w : World), Closed ops listed → planGo ops z listed plan = some listed' → listed.size = ops.size → (¬ listed.getD z false = true → S w) → wpPlan P ops Q S z C plan a w →
      anyS P ops Q S z (fuel + plan.length) listed a w
  | [], listed, a, w, _, hp, _, hS, h => by
    simp only [planGo, Option.some.injEq] at hp
    subst hp
    exact hC a w hS h
  | (i, true) :: r, listed, a, w, hcl, hp, hl, hS, h => by
    simp only [planGo] at hp
    split at hp
    · rename_i hc
      simp only [Bool.and_eq_true, List.contains_eq_mem, decide_eq_true_eq, Bool.not_eq_true'] at hc
      obtain ⟨o, ho, v, hy, hr⟩ := h
      have hSw : S w := hS (by rw [hc.2]; simp)
      exact anyS_take2 ho hs hz (fun c a w => hQ c a _ _ w) _ _ _ _ hcl hc.1.1 hc.1.2 hy hSw (held_of_plan2 hs hz hQ listed' fuel hC r _ _ _ (hcl.set hc.1.2) hp (by simp [hl]) (fun _ => hSw) hr)
    · cases hp
  | (i, false) :: r, listed, a, w, hcl, hp, hl, hS, h => by
    simp only [planGo] at hp
    split at hp
    · rename_i hc
      simp only [beq_iff_eq] at hc
      refine ⟨fun h0 => by rw [hc] at h0; simp at h0, fun j hj => ?_⟩
      have hj2 := hj
      rw [hc] at hj
      obtain rfl := List.mem_singleton.1 hj
      refine wpOp_mono (fun a' w' h' => ⟨h'.1, held_of_plan2 hs hz hQ listed' fuel hC r _ _ _ (hcl.set hj2) hp (by simp [hl]) (fun hnz => h'.1 (fun e => hnz ?_)) h'.2⟩) h
      subst e
      have hmem : j ∈ Region.ready .any ops listed := by rw [hc]; simp
      obtain ⟨_, o, ho, _⟩ := mem_ready.1 hmem
      have : j < listed.size := by rw [hl]; exact (Array.getElem?_eq_some_iff.1 ho).1
      simp [this]
    · cases hp
theorem closed_none (n : Nat) : Closed ops (Array.replicate n false) := by
  intro j o ho hj
  have e : (Array.replicate n false).getD j false = false := by
    by_cases h : j < n
    · simp [h]
    · simp [Array.getD, h]
  rw [e] at hj
  cases hj
theorem wp_region_planw {id : Nat} {l : List Oper} {a : Act} {w : World} (S : World → Prop) (z : Nat) (plan : List (Nat × Bool)) (hm : P.follows .mixedOrders = true)
    (hs : Region.noSelect l.toArray = true) (hp : (lastOK2 l.toArray z && planOK l.toArray z (Array.replicate l.toArray.size false) plan && decide (plan.length = l.toArray.size)) = true)
    (hS : S w.drew) (h : wpPlan P l.toArray (NoPanic Q) S z (NoPanic Q .normal) plan a w.drew) : (Code.region id l.toArray true).wp P Q a w := by
  simp only [Bool.and_eq_true, decide_eq_true_eq, planOK] at hp
  split at hp
  · rename_i l' hl'
    refine wp_region_noPanic (wp_region_any hm (any_of_anyS (S := S) (z := z) _ _ _ _ ?_))
    have := held_of_plan2 (P := P) (Q := NoPanic Q) (S := S) (C := NoPanic Q .normal) hs hp.1.1 (fun c a d v w h => h.elim) l' 0 (fun a w _ h => anyS_done (by simpa using hp.1.2) h 0) plan _ a w.drew (closed_none _) hl' (by simp) (fun _ => hS) h
    rw [Nat.zero_add, hp.2] at this
    exact this
  · simp at hp
end
end Go.Plan

/- The closures that slip a clip and begin it later. -/
namespace Go.Proofs.Ytnmkcpgcdjhdjaa
open Go.RowKit
set_option linter.unusedVariables false
set_option linter.unusedSimpArgs false
theorem slip_cells (d : Int) (x : Trk.Clip) : clipC { x with a := Trk.moved x.a d } = (clipC x).take 2 ++ srcC (Trk.moved x.a d) ++ (clipC x).drop (2 + (srcC (Trk.moved x.a d)).length) := rfl
theorem slip_cells2 (d : Int) (x : Trk.Clip) : clipC (Trk.slipBy d x) = (clipC { x with a := Trk.moved x.a d }).take 9 ++ srcC (Trk.moved x.b d) ++ (clipC { x with a := Trk.moved x.a d }).drop (9 + (srcC (Trk.moved x.b d)).length) := rfl
structure CB2 (w : World) (b8 b3 g N cap i : Nat) (d : Int) (s : Trk.Src) : Prop where
  v : w.cell? ⟨b8, 0, none⟩ = some (.slice (some ⟨g, 0, none⟩) N cap)
  d : w.cell? ⟨b3, 4, none⟩ = some (.int .i64 d)
  b : w.rangeAt g (i * 22 + 9) (srcC s)
theorem CB2.below {w w' : World} {b8 b3 g N cap i : Nat} {d : Int} {s : Trk.Src} (h : CB2 w b8 b3 g N cap i d s) (hb : Below w.heap.size w w') : CB2 w' b8 b3 g N cap i d s :=
  ⟨(hb.cell (block_lt_of_cell h.v)).trans h.v, (hb.cell (block_lt_of_cell h.d)).trans h.d, fun j u hj => (hb.cell (block_lt_of_cell (h.b j u hj))).trans (h.b j u hj)⟩
theorem Seen.cb {w : World} {b8 b3 g N cap : Nat} {d : Int} {l : List Trk.Clip} {B : Nat} (h : Seen w b8 b3 g N cap d l B) {i : Nat} {x : Trk.Clip} (hx : l[i]? = some x) : CB2 w b8 b3 g N cap i d x.b := ⟨h.v, h.d, (h.at' hx).src_b⟩
theorem OT.thereS {w : World} {B g cap k : Nat} {l : List Trk.Clip} (h : OT w B (.slice (some ⟨g, 0, none⟩) k cap) l) {i : Nat} (hi : i < l.length) (j : Nat) (hj : j + 7 ≤ 22) : w.there g (i * 22 + j) 7 := fun q hq => by
  have := h.there hi (j + q) (by omega)
  rw [← Nat.add_assoc] at this
  exact this
set_option maxRecDepth 100000 in
set_option maxHeartbeats 8000000 in
theorem slip_any (i : Nat) (x : Trk.Clip) (b8 b3 g N cap : Nat) (d : Int) (l : List Trk.Clip) (B : Nat) (w : World) (h : Seen w b8 b3 g N cap d l B) (hx : l[i]? = some x) (hN : N ≤ 64) (ha : OkS x.a) (hb : OkS x.b) (hd : d.natAbs ≤ 4294967296) :
    Calls Try.prog 70 #[.int .i64 (i : Int), .pointer (some ⟨b8, 0, none⟩), .pointer (some ⟨b3, 0, none⟩)] w (ClosPost w b8 b3 g N cap d (Trk.upd l i (Trk.slipBy d)) B) := by
  have hr := h.room
  have hi := (List.getElem?_eq_some_iff.1 hx).1
  have hiN : i < N := by omega
  have hiN' : (i : Int) < (N : Int) := by omega
  have hcap := hr.2
  have HS := Lib.hid h
  have HX := Lib.hid (upd_set hx (Trk.slipBy d))
  have HXX := Lib.hid hx
  have HC := Lib.hid (show CB2 w b8 b3 g N cap i d x.b from h.cb hx)
  have HMA := Lib.hid (fun w => emoved_any x.a d w ha hd)
  have HMB := Lib.hid (fun w => emoved_any x.b d w hb hd)
  unfold srcV at HMA HMB
  obtain ⟨SA, hSA⟩ : ∃ S, S = (srcC x.a).toArray := ⟨_, rfl⟩
  obtain ⟨SB, hSB⟩ : ∃ S, S = (srcC x.b).toArray := ⟨_, rfl⟩
  obtain ⟨MA, hMA⟩ : ∃ S, S = (srcC (Trk.moved x.a d)).toArray := ⟨_, rfl⟩
  obtain ⟨MB, hMB⟩ : ∃ S, S = (srcC (Trk.moved x.b d)).toArray := ⟨_, rfl⟩
  rw [← hSA, ← hMA] at HMA
  rw [← hSB, ← hMB] at HMB
  have HSA := Lib.hid hSA
  have HSB := Lib.hid hSB
  have HRA := Lib.hid hMA
  have HRB := Lib.hid hMB
  clear hr hi hx h hSA hSB hMA hMB
  go_enter Try.func70, Try.ntmps70
  go_upto_region 0 with fail
  refine Plan.wp_region_planw (fun w' => CB2 w' b8 b3 g N cap i d x.b) 25 (([0, 1, 2, 3, 4, 5, 6, 7, 9, 10, 12, 13, 14, 15, 16, 17, 18].map (·, true)) ++ (([8, 11, 19].map (·, false)) ++ (([20, 21].map (·, true)) ++ (([22].map (·, false)) ++ (([23, 24].map (·, true)) ++ ([25].map (·, false))))))) (by kernel_rfl) (by kernel_rfl) (by kernel_rfl) (HC.out.below (Below.refl _ _).drew) ?_
  refine' Plan.plan_seg _ [0, 1, 2, 3, 4, 5, 6, 7, 9, 10, 12, 13, 14, 15, 16, 17, 18] (([8, 11, 19].map (·, false)) ++ (([20, 21].map (·, true)) ++ (([22].map (·, false)) ++ (([23, 24].map (·, true)) ++ ([25].map (·, false)))))) (by kernel_rfl) (by kernel_rfl) rfl (by exact HC.out.below (Below.refl _ _).drew) (fun wx hS => ?_) ?_
  rotate_left
  · obtain ⟨y1, y2, y3⟩ := hS
    have Y3 := Lib.hid y3
    clear y3
    go_light
    iterate 14 (apply Plan.seg_pick; rfl; intro K hK; go_wp)
    (apply Plan.seg_pick; rfl; intro K hK)
    refine wpl_loadS (some 20) rfl Y3.out rfl rfl rfl ?_
    rw [← HSB.out]
    go_wp
    iterate 2 (apply Plan.seg_pick; rfl; intro K hK; go_wp)
    exact Plan.seg_nil
  obtain ⟨w1, hw1⟩ : ∃ x, x = w.drew := ⟨_, rfl⟩
  rw [← hw1]
  have hb : Below w.heap.size w w1 := by rw [hw1]; exact (Below.refl _ _).drew
  have HT := Lib.hid (Turn.of (g := g) (Nat.le_of_lt (HS.out.l.own.2.1)) hb)
  replace HS := Lib.hid (HS.out.below hb)
  clear hb hw1 HC
  refine Plan.plan_of_effect rfl (fun K hK => ?_)
  refine wpl_loadS (some 12) rfl (HS.out.at' HXX.out).src_a rfl rfl rfl ?_
  rw [← HSA.out]
  simp only [Act.put, List.setIfInBounds_toArray, List.set_cons_succ, List.set_cons_zero]
  go_wp2_with fail
  refine ⟨(HS.out.cb HXX.out), ?_⟩
  refine Plan.plan_of_effect rfl (fun K hK => ?_)
  go_wp2_with fail
  refine (HMA.out _).mono ?_
  rintro e w2 ⟨rfl, hb⟩
  replace HT := Lib.hid (HT.out.trans (Turn.of (g := g) (Nat.le_of_lt (HS.out.l.own.2.1)) hb))
  replace HS := Lib.hid (HS.out.below hb)
  clear hb
  go_wp2_with fail
  refine ⟨(HS.out.cb HXX.out), ?_⟩
  refine Plan.plan_of_effect rfl (fun K hK => ?_)
  go_wp2_with fail
  refine (HMB.out _).mono ?_
  rintro e w3 ⟨rfl, hb⟩
  replace HT := Lib.hid (HT.out.trans (Turn.of (g := g) (Nat.le_of_lt (HS.out.l.own.2.1)) hb))
  replace HS := Lib.hid (HS.out.below hb)
  clear hb
  go_wp2_with fail
  refine ⟨(HS.out.cb HXX.out), ?_⟩
  refine' Plan.plan_seg (S := (fun w' => CB2 w' b8 b3 g N cap i d x.b)) _ [20, 21] (([22].map (·, false)) ++ (([23, 24].map (·, true)) ++ ([25].map (·, false)))) (by kernel_rfl) (by kernel_rfl) rfl (by exact (HS.out.cb HXX.out)) (fun wx hS => ?_) ?_
  rotate_left
  · clear hS
    go_light
    iterate 2 (apply Plan.seg_pick; rfl; intro K hK; go_wp)
    exact Plan.seg_nil
  refine Plan.plan_of_effect rfl (fun K hK => ?_)
  refine wpl_storeS (Trk.moved x.a d) none rfl (HS.out.l.thereS (List.getElem?_eq_some_iff.1 HXX.out).1 2 (by decide)) rfl rfl rfl (by rw [← HRA.out]; rfl) ?_
  have HT2 := Lib.hid (HT.out.trans (Turn.cells g (i * 22 + 2) (srcC (Trk.moved x.a d)) w3))
  have HS2 := Lib.hid (HS.out.cells HXX.out (by show 2 + 7 ≤ 22; decide) (slip_cells d x))
  have HX2 := Lib.hid (show (l.set i { x with a := Trk.moved x.a d })[i]? = some { x with a := Trk.moved x.a d } by simp [(List.getElem?_eq_some_iff.1 HXX.out).1])
  obtain ⟨w4, hw4⟩ : ∃ y, y = w3.setCells g (i * 22 + 2) (srcC (Trk.moved x.a d)) := ⟨_, rfl⟩
  rw [← hw4] at HT2 HS2 ⊢
  have hcb2 := HS2.out.cb HX2.out
  have HCB2 := Lib.hid (show CB2 w4 b8 b3 g N cap i d x.b from hcb2)
  clear hcb2
  clear hw4 HS HT
  simp only [Act.put, List.setIfInBounds_toArray, List.set_cons_succ, List.set_cons_zero]
  go_wp2_with fail
  refine ⟨HCB2.out, ?_⟩
  refine' Plan.plan_seg (S := (fun w' => CB2 w' b8 b3 g N cap i d x.b)) _ [23, 24] ([25].map (·, false)) (by kernel_rfl) (by kernel_rfl) rfl (by exact HCB2.out) (fun wx hS => ?_) ?_
  rotate_left
  · clear hS
    go_light
    iterate 2 (apply Plan.seg_pick; rfl; intro K hK; go_wp)
    exact Plan.seg_nil
  refine Plan.plan_of_last rfl (fun K hK => ?_)
  refine wpl_storeS (Trk.moved x.b d) none rfl (HS2.out.l.thereS (List.getElem?_eq_some_iff.1 HX2.out).1 9 (by decide)) rfl rfl rfl (by rw [← HRB.out]; rfl) ?_
  have HT3 := Lib.hid (HT2.out.trans (Turn.cells g (i * 22 + 9) (srcC (Trk.moved x.b d)) w4))
  have HS3 := Lib.hid (HS2.out.cells HX2.out (by show 9 + 7 ≤ 22; decide) (slip_cells2 d x))
  obtain ⟨w5, hw5⟩ : ∃ y, y = w4.setCells g (i * 22 + 9) (srcC (Trk.moved x.b d)) := ⟨_, rfl⟩
  rw [← hw5] at HT3 HS3 ⊢
  clear hw5 HS2 HT2
  simp only [Act.put, List.setIfInBounds_toArray, List.set_cons_succ, List.set_cons_zero]
  go_wp2_with fail
  refine Plan.plan_done ?_
  refine bodyPost_end (results_none Try.results70 _ _ _) rfl ?_
  unfold ClosPost
  rw [HX.out]
  refine ⟨rfl, ?_, HT3.out⟩
  have e : (l.set i { x with a := Trk.moved x.a d }).set i (Trk.slipBy d x) = l.set i (Trk.slipBy d x) := by rw [List.set_set]
  rw [← e]
  exact HS3.out
end Go.Proofs.Ytnmkcpgcdjhdjaa

/- The closure that begins a clip later. -/
namespace Go.Proofs.Ytnmkcpgcdjhdjaa
open Go.RowKit
set_option linter.unusedVariables false
set_option linter.unusedSimpArgs false
theorem get_set {l : List Trk.Clip} {i : Nat} {x : Trk.Clip} (h : l[i]? = some x) (y : Trk.Clip) : (l.set i y)[i]? = some y := by simp [(List.getElem?_eq_some_iff.1 h).1]
set_option maxRecDepth 100000 in
set_option maxHeartbeats 8000000 in
theorem later_any (i : Nat) (x : Trk.Clip) (b10 b8 b3 g N cap : Nat) (d : Int) (l : List Trk.Clip) (B : Nat) (w : World) (h : Seen w b8 b3 g N cap d l B) (hx : l[i]? = some x) (hN : N ≤ 64) (ha : OkS x.a) (hb : OkS x.b) (hd : d.natAbs ≤ 4294967296)
    (hl : x.len.natAbs ≤ 1099511627776) (ho : x.off.natAbs ≤ 1099511627776) (hc : w.cell? ⟨b10, 0, none⟩ = some (.func (.func 70) #[] #[.pointer (some ⟨b8, 0, none⟩), .pointer (some ⟨b3, 0, none⟩)])) :
    Calls Try.prog 72 #[.int .i64 (i : Int), .pointer (some ⟨b10, 0, none⟩), .pointer (some ⟨b8, 0, none⟩), .pointer (some ⟨b3, 0, none⟩)] w (ClosPost w b8 b3 g N cap d (Trk.upd l i (Trk.later d)) B) := by
  have hr := h.room
  have hi := (List.getElem?_eq_some_iff.1 hx).1
  have hiN : i < N := by omega
  have hiN' : (i : Int) < (N : Int) := by omega
  have hcap := hr.2
  have HS := Lib.hid h
  have HX := Lib.hid (upd_set hx (Trk.later d))
  have HSX := Lib.hid (upd_set hx (Trk.slipBy d))
  have HXX := Lib.hid hx
  have HSL := Lib.hid (slip_any i x b8 b3 g N cap d l B w h hx hN ha hb hd)
  clear hr hi hx h ha hb
  go_enter Try.func72, Try.ntmps72
  go_wp2_with fail
  refine HSL.out.mono ?_
  rintro e w1 ⟨rfl, hs, ht⟩
  rw [HSX.out] at hs
  replace HS := Lib.hid hs
  have HT := Lib.hid ht
  have HX1 := Lib.hid (get_set HXX.out (Trk.slipBy d x))
  clear hs ht hc HSL HSX
  go_upto_region 1 with fail
  refine Plan.wp_region_plan (fun w' => C82 w' b8 b3 g N cap d) (([0, 1, 2, 3, 5, 6].map (·, true)) ++ (([4].map (·, false)) ++ (([7, 8, 9].map (·, true)) ++ ([10].map (·, false))))) (by kernel_rfl) (by kernel_rfl) (by kernel_rfl) (HS.out.c82.below (Below.refl _ _).drew) ?_
  refine' Plan.plan_seg _ [0, 1, 2, 3, 5, 6] (([4].map (·, false)) ++ (([7, 8, 9].map (·, true)) ++ ([10].map (·, false)))) (by kernel_rfl) (by kernel_rfl) rfl (by exact HS.out.c82.below (Below.refl _ _).drew) (fun wx hS => ?_) ?_
  rotate_left
  · obtain ⟨y1, y2⟩ := hS
    go_light
    iterate 6 (apply Plan.seg_pick; rfl; intro K hK; go_wp)
    exact Plan.seg_nil
  obtain ⟨wd, hwd⟩ : ∃ y, y = World.drew w1 := ⟨_, rfl⟩
  rw [← hwd]
  have hb : Below (World.heap w1).size w1 wd := by rw [hwd]; exact (Below.refl _ _).drew
  replace HT := Lib.hid (HT.out.trans (Turn.of (g := g) (Nat.le_of_lt (HS.out.l.own.2.1)) hb))
  replace HS := Lib.hid (HS.out.below hb)
  have z : wd.cell? ⟨g, i * 22, none⟩ = some (.int .i64 x.len) := (HS.out.at' HX1.out).k0
  have zf := HS.out.l.frozen (i * 22)
  clear hb hwd
  refine Plan.plan_of_effect rfl (fun K hK => ?_)
  go_wp2_with fail
  refine ⟨HS.out.c82, ?_⟩
  refine' Plan.plan_seg (S := (fun w' => C82 w' b8 b3 g N cap d)) _ [7, 8, 9] ([10].map (·, false)) (by kernel_rfl) (by kernel_rfl) rfl (by exact HS.out.c82) (fun wx hS => ?_) ?_
  rotate_left
  · clear hS
    go_light
    iterate 3 (apply Plan.seg_pick; rfl; intro K hK; go_wp)
    exact Plan.seg_nil
  refine Plan.plan_of_effect rfl (fun K hK => ?_)
  go_wp2_with fail
  clear z zf
  replace HT := Lib.hid (HT.out.trans (Turn.cells g (i * 22 + 0) [.int .i64 (x.len - d)] wd))
  replace HS := Lib.hid (HS.out.cells (j := 0) (vs := [.int .i64 (x.len - d)]) (x' := { Trk.slipBy d x with len := x.len - d }) HX1.out (by simp) rfl)
  have hw : wd.setCells g (i * 22 + 0) [.int .i64 (x.len - d)] = wd.setCell ⟨g, i * 22, none⟩ (.int .i64 (x.len - d)) := rfl
  rw [hw] at HT HS
  obtain ⟨w2, hwn⟩ : ∃ y, y = wd.setCell ⟨g, i * 22, none⟩ (.int .i64 (x.len - d)) := ⟨_, rfl⟩
  rw [← hwn] at HT HS ⊢
  clear hw hwn
  refine ⟨HS.out.c82, ?_⟩
  refine Plan.plan_done ?_
  have HX2 := Lib.hid (get_set HX1.out { Trk.slipBy d x with len := x.len - d })
  have z1 : w2.cell? ⟨g, i * 22 + 1, none⟩ = some (.int .i64 x.kind) := (HS.out.at' HX2.out).k1
  have y1 := HS.out.v
  by_cases hsh : x.kind = 2 ∨ x.kind = 3
  · have HSH := Lib.hid (show Trk.shares x.kind = true by unfold Trk.shares; rcases hsh with h | h <;> simp [h])
    have HLT := Lib.hid (show Trk.later d x = { Trk.slipBy d x with len := x.len - d, off := x.off + d } by unfold Trk.later Trk.shift Trk.withLen Trk.slipBy; rw [HSH.out]; rfl)
    obtain ⟨kk, hkk⟩ : ∃ kk, kk = x.kind := ⟨_, rfl⟩
    rw [← hkk] at z1 hsh
    have HGO := Lib.hid hsh
    clear hsh hkk
    by_cases h2 : kk = 2
    · have b2 : (kk == 2) = true := by simpa using h2
      clear h2
      go_upto_region 3 with fail
      clear z1 y1
      refine Plan.wp_region_plan (fun w' => C82 w' b8 b3 g N cap d) (([0, 1, 2, 3, 5, 6].map (·, true)) ++ (([4].map (·, false)) ++ (([7, 8, 9].map (·, true)) ++ ([10].map (·, false))))) (by kernel_rfl) (by kernel_rfl) (by kernel_rfl) (HS.out.c82.below (Below.refl _ _).drew) ?_
      refine' Plan.plan_seg _ [0, 1, 2, 3, 5, 6] (([4].map (·, false)) ++ (([7, 8, 9].map (·, true)) ++ ([10].map (·, false)))) (by kernel_rfl) (by kernel_rfl) rfl (by exact HS.out.c82.below (Below.refl _ _).drew) (fun wx hS => ?_) ?_
      rotate_left
      · obtain ⟨y1, y2⟩ := hS
        go_light
        iterate 6 (apply Plan.seg_pick; rfl; intro K hK; go_wp)
        exact Plan.seg_nil
      obtain ⟨wd, hwd⟩ : ∃ y, y = World.drew w2 := ⟨_, rfl⟩
      rw [← hwd]
      have hb : Below (World.heap w2).size w2 wd := by rw [hwd]; exact (Below.refl _ _).drew
      replace HT := Lib.hid (HT.out.trans (Turn.of (g := g) (Nat.le_of_lt (HS.out.l.own.2.1)) hb))
      replace HS := Lib.hid (HS.out.below hb)
      have z : wd.cell? ⟨g, i * 22 + 16, none⟩ = some (.int .i64 x.off) := (HS.out.at' HX2.out).k16
      have zf := HS.out.l.frozen (i * 22 + 16)
      clear hb hwd
      refine Plan.plan_of_effect rfl (fun K hK => ?_)
      go_wp2_with fail
      refine ⟨HS.out.c82, ?_⟩
      refine' Plan.plan_seg (S := (fun w' => C82 w' b8 b3 g N cap d)) _ [7, 8, 9] ([10].map (·, false)) (by kernel_rfl) (by kernel_rfl) rfl (by exact HS.out.c82) (fun wx hS => ?_) ?_
      rotate_left
      · clear hS
        go_light
        iterate 3 (apply Plan.seg_pick; rfl; intro K hK; go_wp)
        exact Plan.seg_nil
      refine Plan.plan_of_effect rfl (fun K hK => ?_)
      go_wp2_with fail
      clear z zf
      replace HT := Lib.hid (HT.out.trans (Turn.cells g (i * 22 + 16) [.int .i64 (x.off + d)] wd))
      replace HS := Lib.hid (HS.out.cells (j := 16) (vs := [.int .i64 (x.off + d)]) (x' := { Trk.slipBy d x with len := x.len - d, off := x.off + d }) HX2.out (by simp) rfl)
      have hw : wd.setCells g (i * 22 + 16) [.int .i64 (x.off + d)] = wd.setCell ⟨g, i * 22 + 16, none⟩ (.int .i64 (x.off + d)) := rfl
      rw [hw] at HT HS
      obtain ⟨w3, hwn⟩ : ∃ y, y = wd.setCell ⟨g, i * 22 + 16, none⟩ (.int .i64 (x.off + d)) := ⟨_, rfl⟩
      rw [← hwn] at HT HS ⊢
      clear hw hwn
      refine ⟨HS.out.c82, ?_⟩
      refine Plan.plan_done ?_

      iterate 0 go_step
      refine bodyPost_end (results_none Try.results72 _ _ _) rfl ?_
      unfold ClosPost
      rw [HX.out, HLT.out]
      refine ⟨rfl, ?_, HT.out⟩
      have h := HS.out
      rw [List.set_set, List.set_set] at h
      exact h
    · have b2 : (kk == 2) = false := by simpa using h2
      have b3' : (kk == 3) = true := by have := HGO.out; simp; omega
      clear h2
      go_upto_region 3 with fail
      clear z1 y1
      refine Plan.wp_region_plan (fun w' => C82 w' b8 b3 g N cap d) (([0, 1, 2, 3, 5, 6].map (·, true)) ++ (([4].map (·, false)) ++ (([7, 8, 9].map (·, true)) ++ ([10].map (·, false))))) (by kernel_rfl) (by kernel_rfl) (by kernel_rfl) (HS.out.c82.below (Below.refl _ _).drew) ?_
      refine' Plan.plan_seg _ [0, 1, 2, 3, 5, 6] (([4].map (·, false)) ++ (([7, 8, 9].map (·, true)) ++ ([10].map (·, false)))) (by kernel_rfl) (by kernel_rfl) rfl (by exact HS.out.c82.below (Below.refl _ _).drew) (fun wx hS => ?_) ?_
      rotate_left
      · obtain ⟨y1, y2⟩ := hS
        go_light
        iterate 6 (apply Plan.seg_pick; rfl; intro K hK; go_wp)
        exact Plan.seg_nil
      obtain ⟨wd, hwd⟩ : ∃ y, y = World.drew w2 := ⟨_, rfl⟩
      rw [← hwd]
      have hb : Below (World.heap w2).size w2 wd := by rw [hwd]; exact (Below.refl _ _).drew
      replace HT := Lib.hid (HT.out.trans (Turn.of (g := g) (Nat.le_of_lt (HS.out.l.own.2.1)) hb))
      replace HS := Lib.hid (HS.out.below hb)
      have z : wd.cell? ⟨g, i * 22 + 16, none⟩ = some (.int .i64 x.off) := (HS.out.at' HX2.out).k16
      have zf := HS.out.l.frozen (i * 22 + 16)
      clear hb hwd
      refine Plan.plan_of_effect rfl (fun K hK => ?_)
      go_wp2_with fail
      refine ⟨HS.out.c82, ?_⟩
      refine' Plan.plan_seg (S := (fun w' => C82 w' b8 b3 g N cap d)) _ [7, 8, 9] ([10].map (·, false)) (by kernel_rfl) (by kernel_rfl) rfl (by exact HS.out.c82) (fun wx hS => ?_) ?_
      rotate_left
      · clear hS
        go_light
        iterate 3 (apply Plan.seg_pick; rfl; intro K hK; go_wp)
        exact Plan.seg_nil
      refine Plan.plan_of_effect rfl (fun K hK => ?_)
      go_wp2_with fail
      clear z zf
      replace HT := Lib.hid (HT.out.trans (Turn.cells g (i * 22 + 16) [.int .i64 (x.off + d)] wd))
      replace HS := Lib.hid (HS.out.cells (j := 16) (vs := [.int .i64 (x.off + d)]) (x' := { Trk.slipBy d x with len := x.len - d, off := x.off + d }) HX2.out (by simp) rfl)
      have hw : wd.setCells g (i * 22 + 16) [.int .i64 (x.off + d)] = wd.setCell ⟨g, i * 22 + 16, none⟩ (.int .i64 (x.off + d)) := rfl
      rw [hw] at HT HS
      obtain ⟨w3, hwn⟩ : ∃ y, y = wd.setCell ⟨g, i * 22 + 16, none⟩ (.int .i64 (x.off + d)) := ⟨_, rfl⟩
      rw [← hwn] at HT HS ⊢
      clear hw hwn
      refine ⟨HS.out.c82, ?_⟩
      refine Plan.plan_done ?_

      iterate 0 go_step
      refine bodyPost_end (results_none Try.results72 _ _ _) rfl ?_
      unfold ClosPost
      rw [HX.out, HLT.out]
      refine ⟨rfl, ?_, HT.out⟩
      have h := HS.out
      rw [List.set_set, List.set_set] at h
      exact h
  · have HSH := Lib.hid (show Trk.shares x.kind = false by unfold Trk.shares; simp; omega)
    have HLT := Lib.hid (show Trk.later d x = { Trk.slipBy d x with len := x.len - d } by unfold Trk.later Trk.shift Trk.withLen Trk.slipBy; rw [HSH.out]; rfl)
    obtain ⟨kk, hkk⟩ : ∃ kk, kk = x.kind := ⟨_, rfl⟩
    rw [← hkk] at z1 hsh
    have b2 : (kk == 2) = false := by simp; omega
    have b3' : (kk == 3) = false := by simp; omega
    clear hsh hkk
    go_wp2_with fail
    clear z1 y1
    refine bodyPost_end (results_none Try.results72 _ _ _) rfl ?_
    unfold ClosPost
    rw [HX.out, HLT.out]
    refine ⟨rfl, ?_, HT.out⟩
    have h := HS.out
    rw [List.set_set] at h
    exact h
end Go.Proofs.Ytnmkcpgcdjhdjaa

/- The contracts of missing, restoring, ContainsFunc, and total at any lengths. -/
namespace Go.Proofs.Ytnmkcpgcdjhdjaa
open Go.RowKit
set_option linter.unusedVariables false
set_option linter.unusedSimpArgs false
set_option maxRecDepth 100000 in
set_option maxHeartbeats 2000000 in
theorem restoring_any (t : Bool) (w : World) : Calls Try.prog 73 #[.bool t] w fun e w' => e = .returned (.int .i64 (if t = true then 2 else 1)) ∧ w' = w := by
  cases t
  · go_enter Try.func73, Try.ntmps73
    go_wp2_with fail
    go_ret
    exact ⟨rfl, rfl⟩
  · go_enter Try.func73, Try.ntmps73
    go_wp2_with fail
    go_ret
    exact ⟨rfl, rfl⟩
set_option maxRecDepth 100000 in
set_option maxHeartbeats 8000000 in
theorem missing_any (v : Value) (l : List Trk.Clip) (k p m : Int) (c : Nat) (d sn sd : Int) (u : Value) (w : World) (h : Tk w v l) (hl : l.length ≤ 64) (hc : c ≤ 1048576) (hu : u.oneCell' = true) :
    Calls Try.prog 67 #[v, edV k p m (c : Int) d sn sd u] w fun e w' => e = .returned (.bool (Trk.missingL l k c)) ∧ Below w.heap.size w w' := by
  obtain ⟨ao, cap, rfl, hc1, hc2, hT⟩ := h
  obtain ⟨r, hr⟩ : ∃ r, r = Trk.missingL l k c := ⟨_, rfl⟩
  unfold Trk.missingL at hr
  rw [← show r = Trk.missingL l k c from hr]
  obtain ⟨N, hN⟩ : ∃ N, N = l.length := ⟨_, rfl⟩
  rw [← hN] at hl hr ⊢
  have HR := Lib.hid hr
  unfold edV
  clear hT hc1 hc2 hN hr
  go_enter Try.func67, Try.ntmps67
  go_upto_region 1 with fail
  obtain ⟨w1, hw1⟩ : ∃ x, x = w.alloc (.cells (edC k p m (c : Int) d sn sd u) 26) := ⟨_, rfl⟩
  rw [← hw1]
  obtain ⟨g, hg⟩ : ∃ g, g = w.heap.size := ⟨_, rfl⟩
  have HE := Lib.hid (show ED w1 g k p m c d sn sd u by rw [hw1, hg]; exact ED.box w k p m c d sn sd u hu 26)
  have HB := Lib.hid (show Below w.heap.size w w1 by rw [hw1]; exact below_box _ _)
  rw [← hg]
  clear hw1 hg
  refine Plan.wp_region_plan (fun w' => w'.cell? ⟨g, 3, none⟩ = some (.int .i64 (c : Int))) ([0, 1, 2, 3, 4, 5].map (·, true)) (by kernel_rfl) (by kernel_rfl) (by kernel_rfl) (HE.out.below (Below.refl _ _).drew).k3 ?_
  refine' Plan.plan_seg _ [0, 1, 2, 3, 4, 5] [] (by kernel_rfl) (by kernel_rfl) rfl (by exact (HE.out.below (Below.refl _ _).drew).k3) (fun wx hS => ?_) ?_
  rotate_left
  · go_light
    iterate 6 (apply Plan.seg_pick; rfl; intro K hK; go_wp)
    exact Plan.seg_nil
  refine Plan.plan_done ?_
  obtain ⟨w2, hw2⟩ : ∃ x, x = w1.drew := ⟨_, rfl⟩
  rw [← hw2]
  have hb : Below w1.heap.size w1 w2 := by rw [hw2]; exact (Below.refl _ _).drew
  replace HE := Lib.hid (HE.out.below hb)
  replace HB := Lib.hid (HB.out.trans (hb.mono HB.out.size))
  clear hb hw2
  have e0 := HE.out.k0
  have e3 := HE.out.k3
  by_cases k7 : k = 7
  · have b7 : (k == 7) = true := by simpa using k7
    have b9 : (k == 9) = false := by simp; omega
    have d7 : decide (k = 7) = true := decide_eq_true k7
    have d9 : decide (k = 9) = false := decide_eq_false (by omega)
    clear k7
    by_cases h1 : N ≤ c
    · have h1' : (N : Int) ≤ (c : Int) := by omega
      have hr := HR.out
      rw [decide_eq_true h1, Bool.true_or, Bool.true_or] at hr
      have HR2 := Lib.hid hr
      clear hr d7 d9
      go_wp2_with fail
      go_ret
      exact ⟨by rw [HR2.out]; first | rfl | exact ret_bool (by simp; omega), HB.out⟩
    · have h1' : (c : Int) < (N : Int) := by omega
      have hr := HR.out
      rw [decide_eq_false h1, d7, d9, Bool.false_or, Bool.false_and, Bool.true_or, Bool.true_and, Bool.false_or] at hr
      by_cases h2 : N ≤ c + 1
      · have h2' : (N : Int) ≤ (c : Int) + 1 := by omega
        rw [decide_eq_true h2] at hr
        have HR2 := Lib.hid hr
        clear hr d7 d9 h1 h2
        go_wp2_with fail
        go_ret
        exact ⟨by rw [HR2.out]; first | rfl | exact ret_bool (by simp; omega), HB.out⟩
      · have h2' : (c : Int) + 1 < (N : Int) := by omega
        rw [decide_eq_false h2] at hr
        have HR2 := Lib.hid hr
        clear hr d7 d9 h1 h2
        go_wp2_with fail
        go_ret
        exact ⟨by rw [HR2.out]; first | rfl | exact ret_bool (by simp; omega), HB.out⟩
  · by_cases k9 : k = 9
    · have b7 : (k == 7) = false := by simp; omega
      have b9 : (k == 9) = true := by simpa using k9
      have d7 : decide (k = 7) = false := decide_eq_false k7
      have d9 : decide (k = 9) = true := decide_eq_true k9
      clear k7 k9
      by_cases h1 : N ≤ c
      · have h1' : (N : Int) ≤ (c : Int) := by omega
        have hr := HR.out
        rw [decide_eq_true h1, Bool.true_or, Bool.true_or] at hr
        have HR2 := Lib.hid hr
        clear hr d7 d9
        go_wp2_with fail
        go_ret
        exact ⟨by rw [HR2.out]; first | rfl | exact ret_bool (by simp; omega), HB.out⟩
      · have h1' : (c : Int) < (N : Int) := by omega
        have hr := HR.out
        rw [decide_eq_false h1, d7, d9, Bool.false_or, Bool.true_and, Bool.or_true, Bool.true_and] at hr
        by_cases h0 : c = 0
        · have h0' : (c : Int) - 1 < 0 := by omega
          rw [decide_eq_true h0, Bool.true_or] at hr
          have HR2 := Lib.hid hr
          clear hr d7 d9 h1 h0
          go_wp2_with fail
          go_ret
          exact ⟨by rw [HR2.out]; first | rfl | exact ret_bool (by simp; omega), HB.out⟩
        · have h0' : 0 ≤ (c : Int) - 1 := by omega
          rw [decide_eq_false h0, Bool.false_or] at hr
          by_cases h2 : N ≤ c + 1
          · have h2' : (N : Int) ≤ (c : Int) + 1 := by omega
            rw [decide_eq_true h2] at hr
            have HR2 := Lib.hid hr
            clear hr d7 d9 h1 h2 h0
            go_wp2_with fail
            go_ret
            exact ⟨by rw [HR2.out]; first | rfl | exact ret_bool (by simp; omega), HB.out⟩
          · have h2' : (c : Int) + 1 < (N : Int) := by omega
            rw [decide_eq_false h2] at hr
            have HR2 := Lib.hid hr
            clear hr d7 d9 h1 h2 h0
            go_wp2_with fail
            go_ret
            exact ⟨by rw [HR2.out]; first | rfl | exact ret_bool (by simp; omega), HB.out⟩
    · have b7 : (k == 7) = false := by simpa using k7
      have b9 : (k == 9) = false := by simpa using k9
      have d7 : decide (k = 7) = false := decide_eq_false k7
      have d9 : decide (k = 9) = false := decide_eq_false k9
      clear k7 k9
      have hr := HR.out
      rw [d7, d9, Bool.false_and, Bool.or_false, Bool.false_or, Bool.false_and, Bool.or_false] at hr
      clear d7 d9
      by_cases h1 : N ≤ c
      · have h1' : (N : Int) ≤ (c : Int) := by omega
        rw [decide_eq_true h1] at hr
        have HR2 := Lib.hid hr
        clear hr h1
        go_wp2_with fail
        go_ret
        exact ⟨by rw [HR2.out]; first | rfl | exact ret_bool (by simp; omega), HB.out⟩
      · have h1' : (c : Int) < (N : Int) := by omega
        rw [decide_eq_false h1] at hr
        have HR2 := Lib.hid hr
        clear hr h1
        go_wp2_with fail
        go_ret
        exact ⟨by rw [HR2.out]; first | rfl | exact ret_bool (by simp; omega), HB.out⟩
end Go.Proofs.Ytnmkcpgcdjhdjaa
