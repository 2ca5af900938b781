/- Texts of this claim joined: TG TH TI TK. -/
import Derived.Test.YtfoohocgdcgbcaaGreatBs17
set_option linter.unusedVariables false
set_option linter.unusedSimpArgs false
namespace Go.Trk
def lenBy (d : Int) (c : Clip) : Clip := withLen c (c.len + d)
def slipBy (d : Int) (c : Clip) : Clip := { c with a := moved c.a d, b := moved c.b d }
def speedy (sn sd : Int) (c : Clip) : Clip := { c with a := { c.a with sn := sn, sd := sd } }
def upd (l : List Clip) (i : Nat) (f : Clip → Clip) : List Clip :=
 match l[i]? with
 | some x => l.set i (f x)
 | none => l
theorem upd_at (P Q : List Clip) (x : Clip) (f : Clip → Clip) : upd (P ++ x :: Q) P.length f = P ++ f x :: Q := by
 unfold upd
 simp
theorem upd_length (l : List Clip) (i : Nat) (f : Clip → Clip) : (upd l i f).length = l.length := by
 unfold upd
 split <;> simp
theorem upd_other {l : List Clip} {i j : Nat} (hn : i ≠ j) (f : Clip → Clip) : (upd l i f)[j]? = l[j]? := by
 unfold upd
 split
 ·rw [List.getElem?_set_ne hn]
 ·rfl
theorem split_at {l : List Clip} {i : Nat} {x : Clip} (h : l[i]? = some x) : ∃ P Q, l = P ++ x :: Q ∧ P.length = i := by
 have hl := (List.getElem?_eq_some_iff.1 h).1
 refine ⟨l.take i, l.drop (i + 1), ?_, by simp; omega⟩
 have e : l[i] = x := by rw [List.getElem?_eq_getElem hl] at h; exact Option.some.inj h
 rw [← e, List.getElem_cons_drop, List.take_append_drop]
def adjL (n : List Clip) (k : Int) (c : Nat) (d sn sd : Int) : List Clip :=
 if k = 5 then upd n c (lenBy d) else
 if k = 6 then upd n c (later d) else
 if k = 7 then upd (upd n c (lenBy d)) (c + 1) (later d) else
 if k = 8 then upd n c (slipBy d) else
 if k = 9 then upd (upd n (c - 1) (lenBy d)) (c + 1) (later d) else
 upd n c (speedy sn sd)
def begL (n : List Clip) (c : Nat) : Int := total (n.take c)
def endL (n : List Clip) (c : Nat) : Int := total (n.take (c + 1))
def fromL (n : List Clip) (k : Int) (c : Nat) (d : Int) : Int :=
 if k = 5 ∨ k = 7 then min (endL n c) (endL n c + d) else if k = 9 then min (begL n c) (begL n c + d) else begL n c
def toL (n : List Clip) (k : Int) (c : Nat) (d : Int) : Int :=
 if k = 5 ∨ k = 7 ∨ k = 9 then max (endL n c) (endL n c + d) else if k = 6 then begL n c + max d (-d) else endL n c
def undK (k d : Int) : Int := if k = 5 then (if 0 < d then 2 else 1) else if k = 6 then (if d < 0 then 2 else 1) else 3
def missingL (n : List Clip) (k : Int) (c : Nat) : Bool :=
 decide (n.length ≤ c) || (decide (k = 9) && decide (c = 0)) || ((decide (k = 7) || decide (k = 9)) && decide (n.length ≤ c + 1))
def adjCode (n : List Clip) (k : Int) (c : Nat) (d sn sd : Int) : Int :=
 if missingL n k c then 7 else
 if k = 10 ∧ (n[c]?.map (·.a)) = some black then 13 else
 if 2147483647 < total (adjL n k c d sn sd) ∨ ¬ ∀ x ∈ adjL n k c d sn sd, okLen x then 2 else 0
theorem adjL_length (n : List Clip) (k : Int) (c : Nat) (d sn sd : Int) : (adjL n k c d sn sd).length = n.length := by
 unfold adjL
 split
 ·simp [upd_length]
 split
 ·simp [upd_length]
 split
 ·simp [upd_length]
 split
 ·simp [upd_length]
 split <;> simp [upd_length]
theorem SrcIn.lenBy {L n d D : Int} {s : Src} (h : SrcIn L n s) (h0 : -D ≤ d) (h1 : d ≤ D) : SrcIn (L + D * 18018) (n + d) s := by
 rcases h with rfl | h
 ·exact .inl rfl
 ·have b := mul_bound h0 h1 h.v0 h.v1
  have hD : 0 ≤ D * 18018 := by omega
  have e : (n + d) * svel s = n * svel s + d * svel s := Int.add_mul _ _ _
  have q0 := h.q0
  have q1 := h.q1
  have p0 := h.p0
  have p1 := h.p1
  exact .inr ⟨h.lat, h.k, h.nm, h.v0, h.v1, by omega, by omega, by rw [e]; omega, by rw [e]; omega⟩
theorem SrcIn.slip {L n d D : Int} {s : Src} (h : SrcIn L n s) (h0 : -D ≤ d) (h1 : d ≤ D) : SrcIn (L + D * 18018) n (moved s d) := by
 rcases h with rfl | h
 ·rw [moved_black]; exact .inl rfl
 ·obtain ⟨m1, m2, m3⟩ := moved_lat h.lat d
  have b := mul_bound h0 h1 h.v0 h.v1
  have q0 := h.q0
  have q1 := h.q1
  have p0 := h.p0
  have p1 := h.p1
  have hk : (moved s d).kind = s.kind := moved_kind s d
  have hnm : (moved s d).name = s.name := by unfold moved; split <;> rfl
  exact .inr ⟨m1, by rw [hk]; exact h.k, by rw [hnm]; exact h.nm, by rw [m3]; exact h.v0, by rw [m3]; exact h.v1, by rw [m2]; omega, by rw [m2]; omega, by rw [m2, m3]; omega, by rw [m2, m3]; omega⟩
theorem Cls.lenBy {L d D : Int} {c : Clip} (h : Cls L c) (h0 : -D ≤ d) (h1 : d ≤ D) : Cls (L + D * 18018) (lenBy d c) :=
 ⟨h.a.lenBy h0 h1, h.b.lenBy h0 h1, h.ch, h.gn, h.kd.len _⟩
theorem KindOK.slip {c : Clip} (h : KindOK c) (d : Int) : KindOK (slipBy d c) := by
 unfold KindOK slipBy at *
 simp only
 rcases h with ⟨h0, h1, h2, h⟩ | ⟨h0, h2, h⟩ | h | h | h | ⟨h0, h2, h⟩
 ·exact .inl ⟨h0, by rw [h1, moved_black], by rw [h2, moved_black], h⟩
 ·exact .inr (.inl ⟨h0, by rw [h2, moved_black], h⟩)
 ·exact .inr (.inr (.inl h))
 ·exact .inr (.inr (.inr (.inl h)))
 ·exact .inr (.inr (.inr (.inr (.inl h))))
 ·exact .inr (.inr (.inr (.inr (.inr ⟨h0, by rw [h2, moved_black], h⟩))))
theorem Cls.slip {L d D : Int} {c : Clip} (h : Cls L c) (h0 : -D ≤ d) (h1 : d ≤ D) : Cls (L + D * 18018) (slipBy d c) :=
 ⟨h.a.slip h0 h1, h.b.slip h0 h1, h.ch, h.gn, h.kd.slip d⟩
theorem Cls.speedy {L M sn sd : Int} {c : Clip} (h : Cls L c) (hs : SpeedOK sn sd) (hb : c.a ≠ black) (hl0 : -M ≤ c.len) (hl1 : c.len ≤ M) : Cls (L + M * 18018) (speedy sn sd c) := by
 have hM : 0 ≤ M * 18018 := by omega
 refine ⟨?_, h.b.mono (by omega), h.ch, h.gn, ?_⟩
 ·rcases h.a with e | k
  ·exact absurd e hb
  ·have p0 := k.p0
   have p1 := k.p1
   have b := mul_bound hl0 hl1 hs.v0 hs.v1
   have ev : svel { c.a with sn := sn, sd := sd } = sn * (6006 / sd) := rfl
   have ep : spos { c.a with sn := sn, sd := sd } = spos c.a := rfl
   have g := k.lat.g
   refine .inr ⟨⟨?_, k.lat.a, hs.d⟩, k.k, k.nm, hs.v0, hs.v1, by show _ ≤ spos c.a; omega, by show spos c.a ≤ _; omega, ?_, ?_⟩
   ·exact ⟨g.k, g.a0, g.a1, hs.d0, hs.g⟩
   ·show -(L + M * 18018) ≤ spos c.a + c.len * (sn * (6006 / sd)); omega
   ·show spos c.a + c.len * (sn * (6006 / sd)) ≤ L + M * 18018; omega
 ·have k := h.kd
  unfold KindOK Trk.speedy at *
  simp only
  rcases k with ⟨h0, h1, h⟩ | h | h | h | h | h
  ·exact absurd h1 hb
  ·exact .inr (.inl h)
  ·exact .inr (.inr (.inl h))
  ·exact .inr (.inr (.inr (.inl h)))
  ·exact .inr (.inr (.inr (.inr (.inl h))))
  ·exact .inr (.inr (.inr (.inr (.inr h))))
theorem mem_upd {l : List Clip} {i : Nat} {f : Clip → Clip} {y : Clip} (h : y ∈ upd l i f) : y ∈ l ∨ ∃ x ∈ l, y = f x := by
 unfold upd at h
 split at h
 ·rename_i x hx
  rcases List.mem_or_eq_of_mem_set h with h | h
  ·exact .inl h
  ·exact .inr ⟨x, List.mem_of_getElem? hx, h⟩
 ·exact .inl h
theorem ClsL.upd {L M : Int} {l : List Clip} (h : ClsL L l) (hl : L ≤ M) {f : Clip → Clip} (hf : ∀ x ∈ l, Cls M (f x)) (i : Nat) : ClsL M (upd l i f) := fun y hy => by
 rcases mem_upd hy with hy | ⟨x, hx, rfl⟩
 ·exact (h y hy).mono hl
 ·exact hf x hx
theorem adj_cls {L D M : Int} {n : List Clip} {k d sn sd : Int} {c : Nat} (h : ClsL L n) (h0 : -D ≤ d) (h1 : d ≤ D) (hl : ∀ x ∈ n, -M ≤ x.len ∧ x.len ≤ M) (hM : 0 ≤ M)
  (hs : k = 5 ∨ k = 6 ∨ k = 7 ∨ k = 8 ∨ k = 9 ∨ (SpeedOK sn sd ∧ (n[c]?.map (·.a)) ≠ some black)) : ClsL (L + D * 18018 + D * 18018 + M * 18018) (adjL n k c d sn sd) := by
 have hD : 0 ≤ D * 18018 := by omega
 have hM' : 0 ≤ M * 18018 := by omega
 have A : ∀ i, ClsL (L + D * 18018) (Trk.upd n i (Trk.lenBy d)) := fun i => h.upd (by omega) (fun x hx => (h x hx).lenBy h0 h1) i
 have B : ∀ i j, ClsL (L + D * 18018 + D * 18018) (Trk.upd (Trk.upd n i (Trk.lenBy d)) j (Trk.later d)) := fun i j => (A i).upd (by omega) (fun x hx => (A i x hx).later h0 h1) j
 unfold adjL
 split
 ·exact (A c).mono (by omega)
 rename_i n5
 split
 ·exact (h.upd (M := L + D * 18018) (by omega) (fun x hx => (h x hx).later h0 h1) c).mono (by omega)
 rename_i n6
 split
 ·exact (B _ _).mono (by omega)
 rename_i n7
 split
 ·exact (h.upd (M := L + D * 18018) (by omega) (fun x hx => (h x hx).slip h0 h1) c).mono (by omega)
 rename_i n8
 split
 ·exact (B _ _).mono (by omega)
 rename_i n9
 obtain ⟨hs, ha⟩ : SpeedOK sn sd ∧ (n[c]?.map (·.a)) ≠ some black := by
  rcases hs with e | e | e | e | e | e
  ·exact absurd e n5
  ·exact absurd e n6
  ·exact absurd e n7
  ·exact absurd e n8
  ·exact absurd e n9
  ·exact e
 intro y hy
 unfold Trk.upd at hy
 split at hy
 ·rename_i x hx
  rcases List.mem_or_eq_of_mem_set hy with hy | rfl
  ·exact (h y hy).mono (by omega)
  ·have hm := List.mem_of_getElem? hx
   refine ((h x hm).speedy hs ?_ (hl x hm).1 (hl x hm).2).mono (by omega)
   intro e
   rw [hx] at ha
   exact ha (by simp [e])
 ·exact (h y hy).mono (by omega)
theorem fr_cons3 {P mid Q : List Clip} (gP : GoodL P) (gm : GoodL mid) {i : Int} (hi : 0 ≤ i) :
  fr (P ++ mid ++ Q) i = if i < total P then fr P i else if i < total P + total mid then fr mid (i - total P) else fr Q (i - total P - total mid) := by
 have tP := total_nonneg gP
 have tm := total_nonneg gm
 by_cases h1 : i < total P
 ·rw [if_pos h1, List.append_assoc, fr_append_lt _ gP hi h1]
 ·rw [if_neg h1]
  by_cases h2 : i < total P + total mid
  ·rw [if_pos h2, fr_append_lt _ (gP.append gm) hi (by rw [total_append]; exact h2), fr_append_ge _ gP (by omega)]
  ·rw [if_neg h2, fr_append_ge _ (gP.append gm) (by rw [total_append]; omega), total_append]
   congr 1
   omega
theorem fr_one {c : Clip} {i : Int} (h : i < c.len) : fr [c] i = one c i := fr_lt h
theorem take_total (P Q : List Clip) : total ((P ++ Q).take P.length) = total P := by rw [List.take_left']; rfl
theorem beg_of (P Q : List Clip) (x : Clip) : begL (P ++ x :: Q) P.length = total P := by unfold begL; exact take_total P _
theorem end_of (P Q : List Clip) (x : Clip) : endL (P ++ x :: Q) P.length = total P + x.len := by
 unfold endL
 have h := take_total (P ++ [x]) Q
 rw [List.append_assoc] at h
 simp only [List.length_append, List.length_cons, List.length_nil, Nat.zero_add, List.singleton_append] at h
 rw [h, total_append, total_one]
theorem lenBy_len (d : Int) (c : Clip) : (lenBy d c).len = c.len + d := rfl
theorem later_len (d : Int) (c : Clip) : (later d c).len = c.len - d := rfl
theorem one_lenBy (d : Int) (c : Clip) (i : Int) : one (lenBy d c) i = one c i := rfl
theorem one_later {c : Clip} (h : GoodC c) (d i : Int) : one (later d c) i = one c (d + i) := by
 unfold later
 rw [one_withLen, one_shift h.a h.b]
theorem undo3 {P mid mid' Q : List Clip} (gP : GoodL P) (gm : GoodL mid) (gm' : GoodL mid') (ht : total mid' = total mid) (a b : Int) (a0 : 0 ≤ a) (ab : a < b) (h0 : total P ≤ a) (h1 : b ≤ total P + total mid)
  (lo : ∀ j, 0 ≤ j → j < a - total P → fr mid' j = fr mid j) (hi : ∀ j, b - total P ≤ j → j < total mid → fr mid' j = fr mid j) : UndoOf (P ++ mid ++ Q) (P ++ mid' ++ Q) a b 3 := by
 refine ⟨fun i i0 ia => ?_, fun h => absurd h (by decide), fun h => absurd h (by decide), fun _ i ib => ?_, .inr (.inr rfl), a0, ab⟩
 ·rw [fr_cons3 gP gm' i0, fr_cons3 gP gm i0, ht]
  by_cases c1 : i < total P
  ·rw [if_pos c1, if_pos c1]
  ·rw [if_neg c1, if_neg c1]
   rw [if_pos (by omega), if_pos (by omega)]
   exact lo _ (by omega) (by omega)
 ·rw [fr_cons3 gP gm' (by omega), fr_cons3 gP gm (by omega), ht]
  by_cases c1 : i < total P
  ·rw [if_pos c1, if_pos c1]
  ·rw [if_neg c1, if_neg c1]
   by_cases c2 : i < total P + total mid
   ·rw [if_pos c2, if_pos c2]
    exact hi _ (by omega) (by omega)
   ·rw [if_neg c2, if_neg c2]
theorem undo5 {P Q : List Clip} {x : Clip} {d : Int} (gP : GoodL P) (gx : GoodC x) (gx' : GoodC (lenBy d x)) (hd : d ≠ 0) :
  UndoOf (P ++ x :: Q) (P ++ lenBy d x :: Q) (min (total P + x.len) (total P + x.len + d)) (max (total P + x.len) (total P + x.len + d)) (undK 5 d) := by
 have tP := total_nonneg gP
 have l0 := gx.l
 have l1 := gx'.l
 rw [lenBy_len] at l1
 have e1 : P ++ x :: Q = P ++ [x] ++ Q := by simp
 have e2 : P ++ lenBy d x :: Q = P ++ [lenBy d x] ++ Q := by simp
 have g1 : GoodL [x] := GoodL.cons gx GoodL.nil
 have g2 : GoodL [lenBy d x] := GoodL.cons gx' GoodL.nil
 rw [e1, e2]
 have uk : undK 5 d = if 0 < d then 2 else 1 := by unfold undK; rw [if_pos rfl]
 refine ⟨fun i i0 ia => ?_, fun h i ib => ?_, fun h i ib => ?_, fun h => ?_, ?_, by omega, by omega⟩
 ·rw [fr_cons3 gP g2 i0, fr_cons3 gP g1 i0, total_one, total_one, lenBy_len]
  by_cases c1 : i < total P
  ·rw [if_pos c1, if_pos c1]
  ·rw [if_neg c1, if_neg c1, if_pos (by omega), if_pos (by omega), fr_one (by rw [lenBy_len]; omega), fr_one (by omega), one_lenBy]
 ·rw [uk] at h
  have d0 : 0 < d := by
   by_cases d0 : 0 < d
   ·exact d0
   ·rw [if_neg d0] at h; omega
  rw [fr_cons3 gP g2 (by omega), fr_cons3 gP g1 (by omega), total_one, total_one, lenBy_len]
  rw [if_neg (by omega), if_neg (by omega), if_neg (by omega), if_neg (by omega)]
  congr 1
  omega
 ·rw [uk] at h
  have d0 : d < 0 := by
   by_cases d0 : 0 < d
   ·rw [if_pos d0] at h; omega
   ·omega
  rw [fr_cons3 gP g2 (by omega), fr_cons3 gP g1 (by omega), total_one, total_one, lenBy_len]
  rw [if_neg (by omega), if_neg (by omega), if_neg (by omega), if_neg (by omega)]
  congr 1
  omega
 ·rw [uk] at h; split at h <;> omega
 ·rw [uk]; split <;> omega
theorem undo6 {P Q : List Clip} {x : Clip} {d : Int} (gP : GoodL P) (gx : GoodC x) (gx' : GoodC (later d x)) (hd : d ≠ 0) :
  UndoOf (P ++ x :: Q) (P ++ later d x :: Q) (total P) (total P + max d (-d)) (undK 6 d) := by
 have tP := total_nonneg gP
 have l0 := gx.l
 have l1 := gx'.l
 rw [later_len] at l1
 have e1 : P ++ x :: Q = P ++ [x] ++ Q := by simp
 have e2 : P ++ later d x :: Q = P ++ [later d x] ++ Q := by simp
 have g1 : GoodL [x] := GoodL.cons gx GoodL.nil
 have g2 : GoodL [later d x] := GoodL.cons gx' GoodL.nil
 rw [e1, e2]
 have uk : undK 6 d = if d < 0 then 2 else 1 := by unfold undK; rw [if_neg (by decide), if_pos rfl]
 refine ⟨fun i i0 ia => ?_, fun h i ib => ?_, fun h i ib => ?_, fun h => ?_, ?_, by omega, by omega⟩
 ·rw [fr_cons3 gP g2 i0, fr_cons3 gP g1 i0]
  rw [if_pos ia, if_pos ia]
 ·rw [uk] at h
  have d0 : d < 0 := by
   by_cases d0 : d < 0
   ·exact d0
   ·rw [if_neg d0] at h; omega
  rw [fr_cons3 gP g2 (by omega), fr_cons3 gP g1 (by omega), total_one, total_one, later_len]
  by_cases c2 : i < total P + (x.len - d)
  ·rw [if_neg (by omega), if_pos c2, if_neg (by omega), if_pos (by omega), fr_one (by rw [later_len]; omega), fr_one (by omega), one_later gx]
   congr 1
   omega
  ·rw [if_neg (by omega), if_neg c2, if_neg (by omega), if_neg (by omega)]
   congr 1
   omega
 ·rw [uk] at h
  have d0 : 0 < d := by
   by_cases d0 : d < 0
   ·rw [if_pos d0] at h; omega
   ·omega
  rw [fr_cons3 gP g2 (by omega), fr_cons3 gP g1 (by omega), total_one, total_one, later_len]
  by_cases c2 : i < total P + (x.len - d)
  ·rw [if_neg (by omega), if_pos c2, if_neg (by omega), if_pos (by omega), fr_one (by rw [later_len]; omega), fr_one (by omega), one_later gx]
   congr 1
   omega
  ·rw [if_neg (by omega), if_neg c2, if_neg (by omega), if_neg (by omega)]
   congr 1
   omega
 ·rw [uk] at h; split at h <;> omega
 ·rw [uk]; split <;> omega
theorem fr_two {x y : Clip} {i : Int} : fr [x, y] i = if i < x.len then one x i else if i - x.len < y.len then one y (i - x.len) else gap 1 := by
 show (if i < x.len then one x i else fr [y] (i - x.len)) = _
 split
 ·rfl
 ·rfl
theorem fr_three {x y z : Clip} {i : Int} : fr [x, y, z] i = if i < x.len then one x i else if i - x.len < y.len then one y (i - x.len) else if i - x.len - y.len < z.len then one z (i - x.len - y.len) else gap 1 := rfl
theorem undo7 {P Q : List Clip} {x y : Clip} {d : Int} (gP : GoodL P) (gx : GoodC x) (gy : GoodC y) (gx' : GoodC (lenBy d x)) (gy' : GoodC (later d y)) (hd : d ≠ 0) :
  UndoOf (P ++ [x, y] ++ Q) (P ++ [lenBy d x, later d y] ++ Q) (min (total P + x.len) (total P + x.len + d)) (max (total P + x.len) (total P + x.len + d)) 3 := by
 have tP := total_nonneg gP
 have l0 := gx.l
 have l1 := gx'.l
 have l2 := gy.l
 have l3 := gy'.l
 rw [lenBy_len] at l1
 rw [later_len] at l3
 have t1 : total [x, y] = x.len + y.len := by show x.len + (y.len + 0) = _; omega
 have t2 : total [lenBy d x, later d y] = x.len + y.len := by show x.len + d + (y.len - d + 0) = _; omega
 refine undo3 gP (GoodL.cons gx (GoodL.cons gy GoodL.nil)) (GoodL.cons gx' (GoodL.cons gy' GoodL.nil)) (by rw [t1, t2]) _ _ (by omega) (by omega) (by omega) (by rw [t1]; omega) (fun j j0 j1 => ?_) (fun j j0 j1 => ?_)
 ·rw [fr_two, fr_two, lenBy_len, if_pos (by omega), if_pos (by omega), one_lenBy]
 ·rw [t1] at j1
  rw [fr_two, fr_two, lenBy_len, later_len, if_neg (by omega), if_pos (by omega), if_neg (by omega), if_pos (by omega), one_later gy]
  congr 1
  omega
theorem undo9 {P Q : List Clip} {y x z : Clip} {d : Int} (gP : GoodL P) (gy : GoodC y) (gx : GoodC x) (gz : GoodC z) (gy' : GoodC (lenBy d y)) (gz' : GoodC (later d z)) (hd : d ≠ 0) :
  UndoOf (P ++ [y, x, z] ++ Q) (P ++ [lenBy d y, x, later d z] ++ Q) (min (total P + y.len) (total P + y.len + d)) (max (total P + y.len + x.len) (total P + y.len + x.len + d)) 3 ∧
  ∀ j, 0 ≤ j → j < x.len → fr (P ++ [lenBy d y, x, later d z] ++ Q) (total P + y.len + d + j) = fr (P ++ [y, x, z] ++ Q) (total P + y.len + j) := by
 have tP := total_nonneg gP
 have l0 := gy.l
 have l1 := gy'.l
 have l2 := gz.l
 have l3 := gz'.l
 have l4 := gx.l
 rw [lenBy_len] at l1
 rw [later_len] at l3
 have t1 : total [y, x, z] = y.len + x.len + z.len := by show y.len + (x.len + (z.len + 0)) = _; omega
 have t2 : total [lenBy d y, x, later d z] = y.len + x.len + z.len := by show y.len + d + (x.len + (z.len - d + 0)) = _; omega
 have g1 : GoodL [y, x, z] := GoodL.cons gy (GoodL.cons gx (GoodL.cons gz GoodL.nil))
 have g2 : GoodL [lenBy d y, x, later d z] := GoodL.cons gy' (GoodL.cons gx (GoodL.cons gz' GoodL.nil))
 refine ⟨undo3 gP g1 g2 (by rw [t1, t2]) _ _ (by omega) (by omega) (by omega) (by rw [t1]; omega) (fun j j0 j1 => ?_) (fun j j0 j1 => ?_), fun j j0 j1 => ?_⟩
 ·rw [fr_three, fr_three, lenBy_len, if_pos (by omega), if_pos (by omega), one_lenBy]
 ·rw [t1] at j1
  rw [fr_three, fr_three, lenBy_len, later_len, if_neg (by omega), if_neg (by omega), if_pos (by omega), if_neg (by omega), if_neg (by omega), if_pos (by omega), one_later gz]
  congr 1
  omega
 ·rw [fr_cons3 gP g2 (by omega), fr_cons3 gP g1 (by omega), t1, t2, if_neg (by omega), if_pos (by omega), if_neg (by omega), if_pos (by omega), fr_three, fr_three, lenBy_len]
  rw [if_neg (by omega), if_pos (by omega), if_neg (by omega), if_pos (by omega)]
  congr 1
  omega
theorem undo8 {P Q : List Clip} {x x' : Clip} (gP : GoodL P) (gx : GoodC x) (gx' : GoodC x') (hl : x'.len = x.len) : UndoOf (P ++ x :: Q) (P ++ x' :: Q) (total P) (total P + x.len) 3 := by
 have tP := total_nonneg gP
 have l0 := gx.l
 have e1 : P ++ x :: Q = P ++ [x] ++ Q := by simp
 have e2 : P ++ x' :: Q = P ++ [x'] ++ Q := by simp
 rw [e1, e2]
 exact undo3 gP (GoodL.cons gx GoodL.nil) (GoodL.cons gx' GoodL.nil) (by rw [total_one, total_one, hl]) _ _ (by omega) (by omega) (Int.le_refl _) (by rw [total_one]; exact Int.le_refl _) (fun j j0 j1 => by omega)
  (fun j j0 j1 => by rw [total_one] at j1; omega)
theorem total_split (P Q : List Clip) (x : Clip) : total (P ++ x :: Q) = total P + x.len + total Q := by rw [total_append, total_cons]; omega
theorem good_mid {P Q : List Clip} {x : Clip} (h : GoodL (P ++ x :: Q)) : GoodL P ∧ GoodC x ∧ GoodL Q :=
 ⟨fun y hy => h y (List.mem_append_left _ hy), h x (by simp), fun y hy => h y (by simp [hy])⟩
theorem upd_next (P Q : List Clip) (x y : Clip) (f g : Clip → Clip) : upd (upd (P ++ x :: y :: Q) P.length f) (P.length + 1) g = P ++ [f x, g y] ++ Q := by
 rw [upd_at]
 have h := upd_at (P ++ [f x]) Q y g
 simp only [List.length_append, List.length_cons, List.length_nil, Nat.zero_add, List.append_assoc, List.singleton_append] at h
 rw [h]
 simp
theorem upd_two (P Q : List Clip) (q x y : Clip) (f g : Clip → Clip) : upd (upd (P ++ q :: x :: y :: Q) P.length f) (P.length + 2) g = P ++ [f q, x, g y] ++ Q := by
 rw [upd_at]
 have h := upd_at (P ++ [f q, x]) Q y g
 simp only [List.length_append, List.length_cons, List.length_nil, Nat.zero_add, List.append_assoc, List.cons_append, List.nil_append, Nat.reduceAdd] at h
 rw [h]
 simp
theorem split_two {l : List Clip} {i : Nat} {x y : Clip} (hx : l[i]? = some x) (hy : l[i + 1]? = some y) : ∃ P Q, l = P ++ x :: y :: Q ∧ P.length = i := by
 obtain ⟨P, R, rfl, hP⟩ := split_at hx
 subst hP
 rw [List.getElem?_append_right (by omega), show P.length + 1 - P.length = 1 by omega] at hy
 simp only [List.getElem?_cons_succ] at hy
 cases R with
 | nil => simp at hy
 | cons z R =>
  simp only [List.getElem?_cons_zero, Option.some.injEq] at hy
  subst hy
  exact ⟨P, R, rfl, rfl⟩
theorem split_three {l : List Clip} {i : Nat} {q x y : Clip} (hq : l[i]? = some q) (hx : l[i + 1]? = some x) (hy : l[i + 2]? = some y) : ∃ P Q, l = P ++ q :: x :: y :: Q ∧ P.length = i := by
 obtain ⟨P, R, rfl, hP⟩ := split_two hq hx
 subst hP
 rw [List.getElem?_append_right (by omega), show P.length + 2 - P.length = 2 by omega] at hy
 simp only [List.getElem?_cons_succ] at hy
 cases R with
 | nil => simp at hy
 | cons z R =>
  simp only [List.getElem?_cons_zero, Option.some.injEq] at hy
  subst hy
  exact ⟨P, R, rfl, rfl⟩
theorem adj_undo {n : List Clip} {k : Int} {c : Nat} {d sn sd : Int} (hn : GoodL n) (hk : 5 ≤ k ∧ k ≤ 10) (hc : c < n.length) (h9 : k = 9 → 0 < c) (h7 : k = 7 ∨ k = 9 → c + 1 < n.length) (hd : k ≤ 9 → d ≠ 0) (hg : GoodL (adjL n k c d sn sd)) :
  UndoOf n (adjL n k c d sn sd) (fromL n k c d) (toL n k c d) (undK k d) ∧ (undK k d ≠ 2 → toL n k c d ≤ total n) := by
 have hk6 : k = 5 ∨ k = 6 ∨ k = 7 ∨ k = 8 ∨ k = 9 ∨ k = 10 := by omega
 obtain ⟨x, hx⟩ : ∃ x, n[c]? = some x := ⟨_, List.getElem?_eq_getElem hc⟩
 rcases hk6 with rfl | rfl | rfl | rfl | rfl | rfl
 ·have hd' := hd (by decide)
  obtain ⟨P, Q, rfl, rfl⟩ := split_at hx
  obtain ⟨gP, gx, gQ⟩ := good_mid hn
  have e : adjL (P ++ x :: Q) 5 P.length d sn sd = P ++ lenBy d x :: Q := by simp only [adjL]; rw [if_pos trivial, upd_at]
  rw [e] at hg ⊢
  have gx' := (good_mid hg).2.1
  have tQ := total_nonneg gQ
  have ef : fromL (P ++ x :: Q) 5 P.length d = min (total P + x.len) (total P + x.len + d) := by simp only [fromL, end_of]; simp
  have et : toL (P ++ x :: Q) 5 P.length d = max (total P + x.len) (total P + x.len + d) := by simp only [toL, end_of]; simp
  rw [ef, et, total_split]
  refine ⟨undo5 gP gx gx' hd', fun h => ?_⟩
  have : ¬ 0 < d := fun h2 => h (by simp [undK, h2])
  omega
 ·have hd' := hd (by decide)
  obtain ⟨P, Q, rfl, rfl⟩ := split_at hx
  obtain ⟨gP, gx, gQ⟩ := good_mid hn
  have e : adjL (P ++ x :: Q) 6 P.length d sn sd = P ++ later d x :: Q := by simp only [adjL]; rw [if_neg (by decide), if_pos trivial, upd_at]
  rw [e] at hg ⊢
  have gx' := (good_mid hg).2.1
  have tQ := total_nonneg gQ
  have l1 := gx'.l
  rw [later_len] at l1
  have ef : fromL (P ++ x :: Q) 6 P.length d = total P := by simp only [fromL, beg_of]; simp
  have et : toL (P ++ x :: Q) 6 P.length d = total P + max d (-d) := by simp only [toL, beg_of]; simp
  rw [ef, et, total_split]
  refine ⟨undo6 gP gx gx' hd', fun h => ?_⟩
  have : ¬ d < 0 := fun h2 => h (by simp [undK, h2])
  omega
 ·have hd' := hd (by decide)
  obtain ⟨y, hy⟩ : ∃ y, n[c + 1]? = some y := ⟨_, List.getElem?_eq_getElem (h7 (.inl rfl))⟩
  obtain ⟨P, Q, rfl, rfl⟩ := split_two hx hy
  obtain ⟨gP, gx, gyQ⟩ := good_mid hn
  have gy := gyQ.head
  have gQ := gyQ.tail
  have e : adjL (P ++ x :: y :: Q) 7 P.length d sn sd = P ++ [lenBy d x, later d y] ++ Q := by simp only [adjL]; rw [if_neg (by decide), if_neg (by decide), if_pos trivial, upd_next]
  rw [e] at hg ⊢
  have gx' : GoodC (lenBy d x) := hg _ (by simp)
  have gy' : GoodC (later d y) := hg _ (by simp)
  have tQ := total_nonneg gQ
  have l1 := gy'.l
  rw [later_len] at l1
  have ly := gy.l
  have ef : fromL (P ++ x :: y :: Q) 7 P.length d = min (total P + x.len) (total P + x.len + d) := by simp only [fromL, end_of]; simp
  have et : toL (P ++ x :: y :: Q) 7 P.length d = max (total P + x.len) (total P + x.len + d) := by simp only [toL, end_of]; simp
  rw [ef, et, total_split, total_cons]
  have e2 : P ++ x :: y :: Q = P ++ [x, y] ++ Q := by simp
  rw [e2]
  exact ⟨undo7 gP gx gy gx' gy' hd', fun h => by omega⟩
 ·obtain ⟨P, Q, rfl, rfl⟩ := split_at hx
  obtain ⟨gP, gx, gQ⟩ := good_mid hn
  have e : adjL (P ++ x :: Q) 8 P.length d sn sd = P ++ slipBy d x :: Q := by simp only [adjL]; rw [if_neg (by decide), if_neg (by decide), if_neg (by decide), if_pos trivial, upd_at]
  rw [e] at hg ⊢
  have gx' := (good_mid hg).2.1
  have tQ := total_nonneg gQ
  have ef : fromL (P ++ x :: Q) 8 P.length d = total P := by simp only [fromL, beg_of]; simp
  have et : toL (P ++ x :: Q) 8 P.length d = total P + x.len := by simp only [toL, end_of]; simp
  rw [ef, et, total_split]
  exact ⟨undo8 gP gx gx' rfl, fun h => by omega⟩
 ·have hd' := hd (by decide)
  have hc0 := h9 rfl
  obtain ⟨c, rfl⟩ : ∃ j, c = j + 1 := ⟨c - 1, by omega⟩
  obtain ⟨y, hy⟩ : ∃ y, n[c + 1 + 1]? = some y := ⟨_, List.getElem?_eq_getElem (h7 (.inr rfl))⟩
  obtain ⟨q, hq⟩ : ∃ q, n[c]? = some q := ⟨_, List.getElem?_eq_getElem (by omega)⟩
  obtain ⟨P, Q, rfl, rfl⟩ := split_three hq hx hy
  obtain ⟨gP, gq, gR⟩ := good_mid hn
  have gx := gR.head
  have gy := gR.tail.head
  have gQ := gR.tail.tail
  have e : adjL (P ++ q :: x :: y :: Q) 9 (P.length + 1) d sn sd = P ++ [lenBy d q, x, later d y] ++ Q := by
   simp only [adjL]
   rw [if_neg (by decide), if_neg (by decide), if_neg (by decide), if_neg (by decide), if_pos trivial, Nat.add_sub_cancel, upd_two]
  rw [e] at hg ⊢
  have gq' : GoodC (lenBy d q) := hg _ (by simp)
  have gy' : GoodC (later d y) := hg _ (by simp)
  have tQ := total_nonneg gQ
  have l1 := gy'.l
  rw [later_len] at l1
  have ly := gy.l
  have eb : begL (P ++ q :: x :: y :: Q) (P.length + 1) = total P + q.len := end_of P _ q
  have ee : endL (P ++ q :: x :: y :: Q) (P.length + 1) = total P + q.len + x.len := by
   have h := end_of (P ++ [q]) (y :: Q) x
   simp only [List.length_append, List.length_cons, List.length_nil, Nat.zero_add, List.append_assoc, List.singleton_append] at h
   rw [h, total_append, total_one]
  have ef : fromL (P ++ q :: x :: y :: Q) 9 (P.length + 1) d = min (total P + q.len) (total P + q.len + d) := by simp only [fromL, eb]; simp
  have et : toL (P ++ q :: x :: y :: Q) 9 (P.length + 1) d = max (total P + q.len + x.len) (total P + q.len + x.len + d) := by simp only [toL, ee]; simp
  rw [ef, et, total_split, total_cons, total_cons]
  have e2 : P ++ q :: x :: y :: Q = P ++ [q, x, y] ++ Q := by simp
  rw [e2]
  exact ⟨(undo9 gP gq gx gy gq' gy' hd').1, fun h => by omega⟩
 ·obtain ⟨P, Q, rfl, rfl⟩ := split_at hx
  obtain ⟨gP, gx, gQ⟩ := good_mid hn
  have e : adjL (P ++ x :: Q) 10 P.length d sn sd = P ++ speedy sn sd x :: Q := by
   simp only [adjL]
   rw [if_neg (by decide), if_neg (by decide), if_neg (by decide), if_neg (by decide), if_neg (by decide), upd_at]
  rw [e] at hg ⊢
  have gx' := (good_mid hg).2.1
  have tQ := total_nonneg gQ
  have ef : fromL (P ++ x :: Q) 10 P.length d = total P := by simp only [fromL, beg_of]; simp
  have et : toL (P ++ x :: Q) 10 P.length d = total P + x.len := by simp only [toL, end_of]; simp
  rw [ef, et, total_split]
  exact ⟨undo8 gP gx gx' rfl, fun h => by omega⟩
theorem bd_upd {M K : Int} {l : List Clip} (h : ∀ c ∈ l, Bd M c) (hk : M ≤ K) {f : Clip → Clip} (hf : ∀ c, Bd M c → Bd K (f c)) (i : Nat) : ∀ c ∈ upd l i f, Bd K c := fun y hy => by
 rcases mem_upd hy with hy | ⟨x, hx, rfl⟩
 ·exact (h y hy).mono hk
 ·exact hf x (h x hx)
theorem bd_lenBy {M d D : Int} (h0 : -D ≤ d) (h1 : d ≤ D) (c : Clip) (h : Bd M c) : Bd (M + D) (lenBy d c) := by
 obtain ⟨a1, a2, a3, a4, a5, a6⟩ := h
 exact ⟨by show _ ≤ c.len + d; omega, by show c.len + d ≤ _; omega, by show _ ≤ c.off; omega, by show c.off ≤ _; omega, by show _ ≤ c.total; omega, by show c.total ≤ _; omega⟩
theorem bd_later {M d D : Int} (h0 : -D ≤ d) (h1 : d ≤ D) (c : Clip) (h : Bd M c) : Bd (M + D) (later d c) := by
 obtain ⟨a1, a2, a3, a4, a5, a6⟩ := h
 have e : (later d c).off = if shares c.kind = true then c.off + d else c.off := rfl
 refine ⟨by show _ ≤ c.len - d; omega, by show c.len - d ≤ _; omega, ?_, ?_, by show _ ≤ c.total; omega, by show c.total ≤ _; omega⟩
 ·rw [e]; split <;> omega
 ·rw [e]; split <;> omega
theorem adj_bd {M D : Int} {n : List Clip} {k : Int} {c : Nat} {d sn sd : Int} (h : ∀ x ∈ n, Bd M x) (h0 : -D ≤ d) (h1 : d ≤ D) : ∀ y ∈ adjL n k c d sn sd, Bd (M + D + D) y := by
 have hD : 0 ≤ D := by omega
 have A := fun i => bd_upd h (show M ≤ M + D by omega) (bd_lenBy h0 h1) i
 have B := fun i j => bd_upd (A i) (show M + D ≤ M + D + D by omega) (bd_later h0 h1) j
 unfold adjL
 split
 ·exact fun y hy => (A c y hy).mono (by omega)
 split
 ·exact fun y hy => (bd_upd h (show M ≤ M + D by omega) (bd_later h0 h1) c y hy).mono (by omega)
 split
 ·exact B _ _
 split
 ·exact bd_upd h (by omega) (fun x hx => by
   obtain ⟨a1, a2, a3, a4, a5, a6⟩ := hx.mono (show M ≤ M + D + D by omega)
   exact ⟨a1, a2, a3, a4, a5, a6⟩) c
 split
 ·exact B _ _
 ·exact bd_upd h (by omega) (fun x hx => by
   obtain ⟨a1, a2, a3, a4, a5, a6⟩ := hx.mono (show M ≤ M + D + D by omega)
   exact ⟨a1, a2, a3, a4, a5, a6⟩) c
theorem total_bd {M : Int} (hM : 0 ≤ M) : ∀ {l : List Clip}, (∀ c ∈ l, Bd M c) → -(M * l.length) ≤ total l ∧ total l ≤ M * l.length
 | [], _ => ⟨by show -(M * 0) ≤ 0; omega, by show (0 : Int) ≤ M * 0; omega⟩
 | c :: l, h => by
  have ih := total_bd hM (l := l) fun x hx => h x (List.mem_cons_of_mem _ hx)
  have hc := h c List.mem_cons_self
  rw [total_cons, List.length_cons]
  have e : M * ((l.length + 1 : Nat) : Int) = M * l.length + M := by rw [Int.natCast_add, Int.mul_add]; simp
  rw [e]
  obtain ⟨a1, a2, _⟩ := hc
  omega
end Go.Trk
