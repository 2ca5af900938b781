/- Texts of this claim joined: TL TM MA MB MC MD ME TN. -/
import Derived.Handy
import Derived.OwnWalk
import Derived.Deep.CutRange
import Derived.Test.YtfoohocgdcgbcaaGreatSd01
import Derived.Test.YtfoohocgdcgbcaaGreatSd05
import Derived.Test.YtfoohocgdcgbcaaGreatSd06
import Derived.Test.YtfoohocgdcgbcaaGreatSd12
set_option linter.unusedVariables false
set_option linter.unusedSimpArgs false

/- The frames at the beginning and at the end of two tracks that agree: what a walk along both lists of clips knows. -/
namespace Go.Trk
set_option linter.unusedVariables false

theorem fr_at : ∀ {l : List Clip} {i : Nat} {c : Clip} {x : Int}, GoodL l → l[i]? = some c → 0 ≤ x → x < c.len → fr l (total (l.take i) + x) = one c x
  | [], i, c, x, g, h, _, _ => by simp at h
  | d :: l, 0, c, x, g, h, h0, h1 => by
    simp only [List.getElem?_cons_zero, Option.some.injEq] at h
    subst h
    show fr (d :: l) (0 + x) = _
    rw [Int.zero_add, fr_lt h1]
  | d :: l, i + 1, c, x, g, h, h0, h1 => by
    simp only [List.getElem?_cons_succ] at h
    have hd := g.head.l
    have ht : 0 ≤ total (l.take i) := total_nonneg fun y hy => g.tail y (List.mem_of_mem_take hy)
    show fr (d :: l) (d.len + total (l.take i) + x) = _
    rw [fr_ge (by omega), show d.len + total (l.take i) + x - d.len = total (l.take i) + x by omega]
    exact fr_at g.tail h h0 h1
theorem one_step {c d : Clip} {a b : Int} (hc : GoodC c) (hd : GoodC d) (h : one c a = one d b) (t : Int) : one c (a + t) = one d (b + t) := by
  have e1 : one (one c a) t = one c (a + t) := by
    show one (withLen (shift c a) 1) t = _
    rw [one_withLen, one_shift hc.a hc.b]
  have e2 : one (one d b) t = one d (b + t) := by
    show one (withLen (shift d b) 1) t = _
    rw [one_withLen, one_shift hd.a hd.b]
  rw [← e1, ← e2, h]
theorem total_take {l : List Clip} {i : Nat} {c : Clip} (h : l[i]? = some c) : total (l.take (i + 1)) = total (l.take i) + c.len := by
  have e : l.take (i + 1) = l.take i ++ [c] := by rw [List.take_add_one, h]; rfl
  rw [e, total_append]
  show _ + (c.len + 0) = _
  omega
theorem total_drop {l : List Clip} {i : Nat} {c : Clip} (h : l[i]? = some c) : total (l.drop i) = c.len + total (l.drop (i + 1)) := by
  have hlt := (List.getElem?_eq_some_iff.1 h).1
  rw [List.drop_eq_getElem_cons hlt, (List.getElem?_eq_some_iff.1 h).2]
  rfl
theorem take_drop_total (l : List Clip) (i : Nat) : total (l.take i) + total (l.drop i) = total l := by
  rw [← total_append, List.take_append_drop]
theorem GoodL.take {l : List Clip} (g : GoodL l) (i : Nat) : GoodL (l.take i) := fun y hy => g y (List.mem_of_mem_take hy)
theorem GoodL.drop {l : List Clip} (g : GoodL l) (i : Nat) : GoodL (l.drop i) := fun y hy => g y (List.mem_of_mem_drop hy)
theorem total_take_le {l : List Clip} (g : GoodL l) (i : Nat) : total (l.take i) ≤ total l := by
  have h1 := take_drop_total l i
  have h2 := total_nonneg (g.drop i)
  omega
/-- Frames of one clip, seen from the track's end. -/
theorem fr_end {l : List Clip} {i : Nat} {c : Clip} {y : Int} (g : GoodL l) (h : l[i]? = some c) (h0 : 0 ≤ y) (h1 : y < c.len) : fr l (total l - 1 - (total (l.drop (i + 1)) + y)) = one c (c.len - 1 - y) := by
  have e1 := take_drop_total l i
  have e2 := total_drop h
  rw [show total l - 1 - (total (l.drop (i + 1)) + y) = total (l.take i) + (c.len - 1 - y) by omega]
  exact fr_at g h (by omega) (by omega)
/-- The first p frames agree, and no more. -/
structure Pre (n m : List Clip) (p : Int) : Prop where
  h0 : 0 ≤ p
  h1 : p ≤ total n
  h2 : p ≤ total m
  f : ∀ i, 0 ≤ i → i < p → fr n i = fr m i
  x : p < total n → p < total m → fr n p ≠ fr m p
/-- The last s frames agree, and no more up to lim. -/
structure Suf (n m : List Clip) (lim s : Int) : Prop where
  h0 : 0 ≤ s
  h1 : s ≤ lim
  f : ∀ i, 0 ≤ i → i < s → fr n (total n - 1 - i) = fr m (total m - 1 - i)
  x : s < lim → fr n (total n - 1 - s) ≠ fr m (total m - 1 - s)
/-- The place of frame p: frame b of clip i, or the end. -/
structure At (n : List Clip) (i : Nat) (b p : Int) : Prop where
  e : p = total (n.take i) + b
  b0 : 0 ≤ b
  il : i ≤ n.length
  b1 : ∀ c, n[i]? = some c → b < c.len
  z : i = n.length → b = 0
theorem At.zero {n : List Clip} (g : GoodL n) : At n 0 0 0 :=
  ⟨rfl, Int.le_refl 0, Nat.zero_le _, fun c hc => by have := (g c (List.mem_of_getElem? hc)).l; omega, fun _ => rfl⟩
theorem At.le {n : List Clip} {i : Nat} {b p : Int} (g : GoodL n) (h : At n i b p) : 0 ≤ p ∧ p ≤ total n := by
  have h0 := total_nonneg (g.take i)
  have h1 := h.e
  have h2 := h.b0
  refine ⟨by omega, ?_⟩
  rcases Nat.lt_or_ge i n.length with hi | hi
  · obtain ⟨c, hc⟩ : ∃ c, n[i]? = some c := ⟨_, List.getElem?_eq_getElem hi⟩
    have := h.b1 c hc
    have h3 := total_take hc
    have h4 := total_take_le g (i + 1)
    omega
  · have := h.z (by have := h.il; omega)
    have h4 := total_take_le g i
    omega
theorem At.end_ {n : List Clip} {b p : Int} (h : At n n.length b p) : p = total n := by
  have h1 := h.e
  have h2 := h.z rfl
  rw [List.take_length] at h1
  omega
theorem At.fr {n : List Clip} {i : Nat} {b p : Int} (g : GoodL n) (h : At n i b p) {c : Clip} (hc : n[i]? = some c) : fr n p = one c b := by
  rw [h.e]; exact fr_at g hc h.b0 (h.b1 c hc)
theorem At.next {n : List Clip} {i : Nat} {b p : Int} (g : GoodL n) (h : At n i b p) {c : Clip} (hc : n[i]? = some c) : At n (i + 1) 0 (p + (c.len - b)) := by
  refine ⟨by rw [total_take hc, h.e]; omega, Int.le_refl 0, (List.getElem?_eq_some_iff.1 hc).1, fun d hd => ?_, fun _ => rfl⟩
  have := (g d (List.mem_of_getElem? hd)).l
  omega
theorem At.on {n : List Clip} {i : Nat} {b p t : Int} (h : At n i b p) {c : Clip} (hc : n[i]? = some c) (h0 : 0 ≤ t) (h1 : b + t < c.len) : At n i (b + t) (p + t) := by
  refine ⟨by rw [h.e]; omega, by have := h.b0; omega, h.il, fun d hd => ?_, fun e => ?_⟩
  · rw [hc] at hd; cases hd; exact h1
  · have := (List.getElem?_eq_some_iff.1 hc).1; omega
/-- The frames compared so far agree. -/
structure PreAt (n m : List Clip) (i j : Nat) (b s p : Int) : Prop where
  a : At n i b p
  c : At m j s p
  f : ∀ k, 0 ≤ k → k < p → fr n k = fr m k
theorem PreAt.zero {n m : List Clip} (g : GoodL n) (k : GoodL m) : PreAt n m 0 0 0 0 0 := ⟨At.zero g, At.zero k, fun k h h2 => by omega⟩
theorem PreAt.more {n m : List Clip} {i j : Nat} {b s p : Int} (gn : GoodL n) (gm : GoodL m) (h : PreAt n m i j b s p) {c d : Clip} (hc : n[i]? = some c) (hd : m[j]? = some d) (e : one c b = one d s) {t : Int} (t1 : t ≤ c.len - b) (t2 : t ≤ d.len - s) :
    ∀ k, 0 ≤ k → k < p + t → fr n k = fr m k := by
  intro k k0 k1
  by_cases hk : k < p
  · exact h.f k k0 hk
  · have gc := gn c (List.mem_of_getElem? hc)
    have gd := gm d (List.mem_of_getElem? hd)
    have e1 := fr_at (x := b + (k - p)) gn hc (by have := h.a.b0; omega) (by omega)
    have e2 := fr_at (x := s + (k - p)) gm hd (by have := h.c.b0; omega) (by omega)
    rw [show total (n.take i) + (b + (k - p)) = k by have := h.a.e; omega] at e1
    rw [show total (m.take j) + (s + (k - p)) = k by have := h.c.e; omega] at e2
    rw [e1, e2, one_step gc gd e (k - p)]
theorem PreAt.step {n m : List Clip} {i j : Nat} {b s p : Int} (gn : GoodL n) (gm : GoodL m) (h : PreAt n m i j b s p) {c d : Clip} (hc : n[i]? = some c) (hd : m[j]? = some d) (e : one c b = one d s) {t : Int} (ht : t = min (c.len - b) (d.len - s)) :
    PreAt n m (if b + t = c.len then i + 1 else i) (if s + t = d.len then j + 1 else j) (if b + t = c.len then 0 else b + t) (if s + t = d.len then 0 else s + t) (p + t) := by
  have b1 := h.a.b1 c hc
  have s1 := h.c.b1 d hd
  refine ⟨?_, ?_, h.more gn gm hc hd e (by omega) (by omega)⟩
  · split
    · have := h.a.next gn hc
      rw [show c.len - b = t by omega] at this
      exact this
    · exact h.a.on hc (by omega) (by omega)
  · split
    · have := h.c.next gm hd
      rw [show d.len - s = t by omega] at this
      exact this
    · exact h.c.on hd (by omega) (by omega)
theorem PreAt.done {n m : List Clip} {i j : Nat} {b s p : Int} (gn : GoodL n) (gm : GoodL m) (h : PreAt n m i j b s p) (hx : i = n.length ∨ j = m.length ∨ ∃ c d, n[i]? = some c ∧ m[j]? = some d ∧ one c b ≠ one d s) : Pre n m p := by
  have h1 := h.a.le gn
  have h2 := h.c.le gm
  refine ⟨h1.1, h1.2, h2.2, h.f, fun k1 k2 => ?_⟩
  rcases hx with rfl | rfl | ⟨c, d, hc, hd, hne⟩
  · have := h.a.end_; omega
  · have := h.c.end_; omega
  · rw [h.a.fr gn hc, h.c.fr gm hd]; exact hne
/-- The place of frame p, counted from the end: i clips are left, b frames of the last of them are behind. -/
structure Af (n : List Clip) (i : Nat) (b p : Int) : Prop where
  e : p = total (n.drop i) + b
  b0 : 0 ≤ b
  il : i ≤ n.length
  b1 : ∀ k c, i = k + 1 → n[k]? = some c → b < c.len
  z : i = 0 → b = 0
theorem Af.zero {n : List Clip} (g : GoodL n) : Af n n.length 0 0 :=
  ⟨by rw [List.drop_length]; rfl, Int.le_refl 0, Nat.le_refl _, fun k c _ hc => by have := (g c (List.mem_of_getElem? hc)).l; omega, fun _ => rfl⟩
theorem Af.end_ {n : List Clip} {b p : Int} (h : Af n 0 b p) : p = total n := by
  have h1 := h.e
  have h2 := h.z rfl
  rw [List.drop_zero] at h1
  omega
theorem Af.nonneg {n : List Clip} {i : Nat} {b p : Int} (g : GoodL n) (h : Af n i b p) : 0 ≤ p := by
  have h0 := total_nonneg (g.drop i)
  have h1 := h.e
  have h2 := h.b0
  omega
theorem Af.fr {n : List Clip} {k : Nat} {b p : Int} (g : GoodL n) (h : Af n (k + 1) b p) {c : Clip} (hc : n[k]? = some c) : fr n (total n - 1 - p) = one c (c.len - 1 - b) := by
  rw [h.e]; exact fr_end g hc h.b0 (h.b1 k c rfl hc)
theorem Af.next {n : List Clip} {k : Nat} {b p : Int} (g : GoodL n) (h : Af n (k + 1) b p) {c : Clip} (hc : n[k]? = some c) : Af n k 0 (p + (c.len - b)) := by
  refine ⟨by rw [total_drop hc, h.e]; omega, Int.le_refl 0, by have := h.il; omega, fun i d _ hd => ?_, fun _ => rfl⟩
  have := (g d (List.mem_of_getElem? hd)).l
  omega
theorem Af.on {n : List Clip} {k : Nat} {b p t : Int} (h : Af n (k + 1) b p) {c : Clip} (hc : n[k]? = some c) (h0 : 0 ≤ t) (h1 : b + t < c.len) : Af n (k + 1) (b + t) (p + t) := by
  refine ⟨by rw [h.e]; omega, by have := h.b0; omega, h.il, fun i d e hd => ?_, fun e => by omega⟩
  have : i = k := by omega
  subst this
  rw [hc] at hd; cases hd; exact h1
structure SufAt (n m : List Clip) (i j : Nat) (b s p : Int) : Prop where
  a : Af n i b p
  c : Af m j s p
  f : ∀ k, 0 ≤ k → k < p → fr n (total n - 1 - k) = fr m (total m - 1 - k)
theorem SufAt.zero {n m : List Clip} (g : GoodL n) (k : GoodL m) : SufAt n m n.length m.length 0 0 0 := ⟨Af.zero g, Af.zero k, fun k h h2 => by omega⟩
theorem SufAt.more {n m : List Clip} {i j : Nat} {b s p : Int} (gn : GoodL n) (gm : GoodL m) (h : SufAt n m (i + 1) (j + 1) b s p) {c d : Clip} (hc : n[i]? = some c) (hd : m[j]? = some d) (e : one c (c.len - 1 - b) = one d (d.len - 1 - s)) {t : Int} (t1 : t ≤ c.len - b) (t2 : t ≤ d.len - s) :
    ∀ k, 0 ≤ k → k < p + t → fr n (total n - 1 - k) = fr m (total m - 1 - k) := by
  intro k k0 k1
  by_cases hk : k < p
  · exact h.f k k0 hk
  · have gc := gn c (List.mem_of_getElem? hc)
    have gd := gm d (List.mem_of_getElem? hd)
    have e1 := fr_end (y := b + (k - p)) gn hc (by have := h.a.b0; omega) (by omega)
    have e2 := fr_end (y := s + (k - p)) gm hd (by have := h.c.b0; omega) (by omega)
    rw [show total (n.drop (i + 1)) + (b + (k - p)) = k by have := h.a.e; omega] at e1
    rw [show total (m.drop (j + 1)) + (s + (k - p)) = k by have := h.c.e; omega] at e2
    have e3 := one_step gc gd e (p - k)
    rw [show c.len - 1 - b + (p - k) = c.len - 1 - (b + (k - p)) by omega, show d.len - 1 - s + (p - k) = d.len - 1 - (s + (k - p)) by omega] at e3
    rw [e1, e2, e3]
theorem SufAt.step {n m : List Clip} {i j : Nat} {b s p : Int} (gn : GoodL n) (gm : GoodL m) (h : SufAt n m (i + 1) (j + 1) b s p) {c d : Clip} (hc : n[i]? = some c) (hd : m[j]? = some d) (e : one c (c.len - 1 - b) = one d (d.len - 1 - s)) {t : Int} (ht : t = min (c.len - b) (d.len - s)) :
    SufAt n m (if b + t = c.len then i else i + 1) (if s + t = d.len then j else j + 1) (if b + t = c.len then 0 else b + t) (if s + t = d.len then 0 else s + t) (p + t) := by
  have b1 := h.a.b1 i c rfl hc
  have s1 := h.c.b1 j d rfl hd
  refine ⟨?_, ?_, h.more gn gm hc hd e (by omega) (by omega)⟩
  · split
    · have := h.a.next gn hc
      rw [show c.len - b = t by omega] at this
      exact this
    · exact h.a.on hc (by omega) (by omega)
  · split
    · have := h.c.next gm hd
      rw [show d.len - s = t by omega] at this
      exact this
    · exact h.c.on hd (by omega) (by omega)
theorem SufAt.done {n m : List Clip} {i j : Nat} {b s p lim : Int} (gn : GoodL n) (gm : GoodL m) (h : SufAt n m i j b s p) (l0 : 0 ≤ lim) (l1 : lim ≤ total n) (l2 : lim ≤ total m)
    (hx : lim ≤ p ∨ i = 0 ∨ j = 0 ∨ ∃ i' j' c d, i = i' + 1 ∧ j = j' + 1 ∧ n[i']? = some c ∧ m[j']? = some d ∧ one c (c.len - 1 - b) ≠ one d (d.len - 1 - s)) : Suf n m lim (min p lim) := by
  have h0 := h.a.nonneg gn
  refine ⟨by omega, by omega, fun k k0 k1 => h.f k k0 (by omega), fun hl => ?_⟩
  rcases hx with hx | rfl | rfl | ⟨i', j', c, d, rfl, rfl, hc, hd, hne⟩
  · omega
  · have := h.a.end_; omega
  · have := h.c.end_; omega
  · rw [show min p lim = p by omega, h.a.fr gn hc, h.c.fr gm hd]; exact hne
/-- What Change and Merge know of two tracks: x stands in m where n has the frames from p to q-1. -/
structure Diff (n m : List Clip) (p q : Int) (x : List Clip) : Prop where
  pre : Pre n m p
  suf : Suf n m (min (total n) (total m) - p) (total n - q)
  x : x = if p = total m - (total n - q) then [] else cut m p (total m - (total n - q))
theorem Diff.le {n m x : List Clip} {p q : Int} (h : Diff n m p q x) : 0 ≤ p ∧ p ≤ q ∧ q ≤ total n ∧ p ≤ total m - (total n - q) ∧ 0 ≤ total n - q := by
  have h1 := h.pre.h0
  have h2 := h.suf.h0
  have h3 := h.suf.h1
  refine ⟨h1, ?_, ?_, ?_, h2⟩ <;> omega
theorem Diff.cut {n m x : List Clip} {p q : Int} (h : Diff n m p q x) (g : GoodL m) : CutOf m p (total m - (total n - q)) x := by
  obtain ⟨h0, h1, h2, h3, h4⟩ := h.le
  rw [h.x]
  split
  · rename_i e
    rw [← e]
    exact ⟨GoodL.nil, trivial, by show (0 : Int) = _; omega, fun i h0 h1 => by omega⟩
  · exact cut_of g h0 h3
end Go.Trk

/- The position of a frame in its source, as it is computed over the common base. -/
namespace Go.Trk
set_option linter.unusedVariables false

theorem base_nat {A D : Nat} (hA : 0 < A) (hD : 0 < D) : A / A.gcd D * D = A * (D / A.gcd D) ∧ A / A.gcd D * D / A = D / A.gcd D ∧ A / A.gcd D * D / D = A / A.gcd D ∧ 0 < A / A.gcd D * D := by
  have g0 : 0 < A.gcd D := Nat.gcd_pos_of_pos_left _ hA
  have ga : A.gcd D ∣ A := Nat.gcd_dvd_left _ _
  have gd : A.gcd D ∣ D := Nat.gcd_dvd_right _ _
  have e : A / A.gcd D * D = A * (D / A.gcd D) := by
    rw [← Nat.mul_div_assoc _ gd, Nat.div_mul_right_comm ga]
  refine ⟨e, ?_, Nat.mul_div_cancel _ hD, Nat.mul_pos (Nat.div_pos (Nat.le_of_dvd hA ga) g0) hD⟩
  rw [e]
  exact Nat.mul_div_cancel_left _ hA
/-- The base of a source's numbers. -/
def baseN (s : Src) : Nat := s.ad.toNat / s.ad.toNat.gcd s.sd.toNat * s.sd.toNat
/-- The number of parts of the base where frame k lies. -/
def posN (s : Src) (k : Int) : Int := s.an * ((s.sd.toNat / s.ad.toNat.gcd s.sd.toNat : Nat) : Int) + k * s.sn * ((s.ad.toNat / s.ad.toNat.gcd s.sd.toNat : Nat) : Int)
theorem pos_rat {s : Src} (h : Good s) (k : Int) : s.at' + k * s.sp = mkRat (posN s k) (baseN s) := by
  obtain ⟨A, hA⟩ := Int.eq_ofNat_of_zero_le (show 0 ≤ s.ad by have := h.a0; omega)
  obtain ⟨D, hD⟩ := Int.eq_ofNat_of_zero_le (show 0 ≤ s.sd by have := h.s0; omega)
  have a0 : 0 < A := by have := h.a0; omega
  have d0 : 0 < D := by have := h.s0; omega
  obtain ⟨b1, b2, b3, b4⟩ := base_nat a0 d0
  have g0 : 0 < A.gcd D := Nat.gcd_pos_of_pos_left _ a0
  have ga : A / A.gcd D * A.gcd D = A := Nat.div_mul_cancel (Nat.gcd_dvd_left _ _)
  have gd : D / A.gcd D * A.gcd D = D := Nat.div_mul_cancel (Nat.gcd_dvd_right _ _)
  unfold Src.at' Src.sp posN baseN
  rw [hA, hD, Int.toNat_natCast, Int.toNat_natCast]
  obtain ⟨g, eg⟩ : ∃ g, g = A.gcd D := ⟨_, rfl⟩
  rw [← eg] at g0 ga gd ⊢
  obtain ⟨a, ea⟩ : ∃ a, a = A / g := ⟨_, rfl⟩
  obtain ⟨d, ed⟩ : ∃ d, d = D / g := ⟨_, rfl⟩
  rw [← ea, ← ed]
  rw [← ea] at ga
  rw [← ed] at gd
  have ek : (k : Rat) = mkRat k 1 := by rw [Rat.mkRat_one]
  rw [ek, Rat.mkRat_mul_mkRat, Nat.one_mul, Rat.mkRat_add_mkRat _ _ (by omega) (by omega)]
  have e1 : s.an * (D : Int) + k * s.sn * (A : Int) = (s.an * (d : Int) + k * s.sn * (a : Int)) * (g : Int) := by
    have e1 : (D : Int) = (d : Int) * (g : Int) := by exact_mod_cast gd.symm
    have e2 : (A : Int) = (a : Int) * (g : Int) := by exact_mod_cast ga.symm
    rw [e1, e2, Int.add_mul, ← Int.mul_assoc, ← Int.mul_assoc]
  have e2 : A * D = (a * D) * g := by
    rw [← ga, Nat.mul_right_comm]
  rw [e1, e2]
  exact Rat.mkRat_mul_right (by omega)
theorem base_pos {s : Src} (h : Good s) : 0 < baseN s := by
  have a0 := h.a0
  have d0 := h.s0
  exact (base_nat (A := s.ad.toNat) (D := s.sd.toNat) (by omega) (by omega)).2.2.2
theorem moved_num {s : Src} (h : Good s) (k : Int) : (moved s k).an = posN s k / (((posN s k).natAbs.gcd (baseN s) : Nat) : Int) ∧ (moved s k).ad = (baseN s : Int) / (((posN s k).natAbs.gcd (baseN s) : Nat) : Int) := by
  have em : moved s k = { s with an := (s.at' + k * s.sp).num, ad := (s.at' + k * s.sp).den } := by unfold moved; rw [if_neg h.ne]
  have hb := base_pos h
  rw [em, pos_rat h k]
  refine ⟨?_, ?_⟩
  · show (mkRat _ _).num = _
    rw [Rat.num_mkRat, if_neg (by omega), Nat.gcd_comm]
  · show ((mkRat _ _).den : Int) = _
    rw [Rat.den_mkRat, if_neg (by omega), Nat.gcd_comm, Int.natCast_ediv]
theorem moved_name (s : Src) (n : Int) : (moved s n).name = s.name := by unfold moved; split <;> rfl
theorem moved_sn (s : Src) (n : Int) : (moved s n).sn = s.sn ∧ (moved s n).sd = s.sd ∧ (moved s n).smooth = s.smooth := by unfold moved; split <;> exact ⟨rfl, rfl, rfl⟩
/-- Two frames of two sources are the same. -/
theorem moved_eq {a b : Src} (j k : Int) : moved a j = moved b k ↔ ((moved a j).an = (moved b k).an ∧ (moved a j).ad = (moved b k).ad) ∧ a.kind = b.kind ∧ a.name = b.name ∧ a.sn = b.sn ∧ a.sd = b.sd ∧ a.smooth = b.smooth := by
  constructor
  · intro h
    refine ⟨⟨by rw [h], by rw [h]⟩, ?_, ?_, ?_, ?_, ?_⟩
    · have := congrArg Src.kind h; rwa [moved_kind, moved_kind] at this
    · have := congrArg Src.name h; rwa [moved_name, moved_name] at this
    · have := congrArg Src.sn h; rwa [(moved_sn a j).1, (moved_sn b k).1] at this
    · have := congrArg Src.sd h; rwa [(moved_sn a j).2.1, (moved_sn b k).2.1] at this
    · have := congrArg Src.smooth h; rwa [(moved_sn a j).2.2, (moved_sn b k).2.2] at this
  · rintro ⟨⟨h1, h2⟩, h3, h4, h5, h6, h7⟩
    refine Src.ext2 ?_ ?_ h1 h2 ?_ ?_ ?_
    · rw [moved_kind, moved_kind, h3]
    · rw [moved_name, moved_name, h4]
    · rw [(moved_sn a j).1, (moved_sn b k).1, h5]
    · rw [(moved_sn a j).2.1, (moved_sn b k).2.1, h6]
    · rw [(moved_sn a j).2.2, (moved_sn b k).2.2, h7]
/-- Two frames are the same. -/
theorem one_eq {c d : Clip} (j k : Int) (hc : shares c.kind = false → c.off = 0) (hd : shares d.kind = false → d.off = 0) :
    one c j = one d k ↔ (c.kind = d.kind ∧ c.total = d.total ∧ c.param = d.param ∧ c.text = d.text ∧ c.gain = d.gain ∧ c.chan = d.chan) ∧ (shares c.kind = true → c.off + j = d.off + k) ∧ moved c.a j = moved d.a k ∧ moved c.b j = moved d.b k := by
  constructor
  · intro h
    have hk : (one c j).kind = (one d k).kind := by rw [h]
    have h1 : (one c j).total = (one d k).total := by rw [h]
    have h2 : (one c j).param = (one d k).param := by rw [h]
    have h3 : (one c j).text = (one d k).text := by rw [h]
    have h4 : (one c j).gain = (one d k).gain := by rw [h]
    have h5 : (one c j).chan = (one d k).chan := by rw [h]
    have h6 : (one c j).a = (one d k).a := by rw [h]
    have h7 : (one c j).b = (one d k).b := by rw [h]
    have ho : (one c j).off = (one d k).off := by rw [h]
    replace hk : c.kind = d.kind := hk
    refine ⟨⟨hk, h1, h2, h3, h4, h5⟩, fun hs => ?_, h6, h7⟩
    replace ho : (if shares c.kind = true then c.off + j else c.off) = (if shares d.kind = true then d.off + k else d.off) := ho
    rw [← hk, if_pos hs, if_pos hs] at ho
    exact ho
  · rintro ⟨⟨h1, h2, h3, h4, h5, h6⟩, ho, ha, hb⟩
    refine Clip.ext2 rfl h1 ha hb ?_ h2 h3 h4 h5 h6
    show (if shares c.kind = true then c.off + j else c.off) = (if shares d.kind = true then d.off + k else d.off)
    rw [← h1]
    by_cases hs : shares c.kind = true
    · rw [if_pos hs, if_pos hs]; exact ho hs
    · rw [if_neg hs, if_neg hs]
      have hs' : shares c.kind = false := by simpa using hs
      rw [hc hs', hd (by rw [← h1]; exact hs')]
theorem Okay.kind {s : Src} (h : Okay s) : s = black ↔ s.kind = 0 := by
  constructor
  · rintro rfl; rfl
  · intro hk
    rcases h with h | h
    · exact h
    · exact absurd hk h.k
end Go.Trk

/- The contracts of divisor and position. -/
namespace Go.Proofs.YtfoohocgdcgbcaaGreat
open Go.RowKit
set_option linter.unusedVariables false
set_option linter.unusedSimpArgs false
theorem gcd_tmod {a b : Int} (h : a ≠ 0) : (b.tmod a).natAbs.gcd a.natAbs = a.natAbs.gcd b.natAbs := by
  rw [Int.natAbs_tmod, Nat.gcd_rec a.natAbs b.natAbs]
theorem tmod_small {a b : Int} (h : a ≠ 0) : (b.tmod a).natAbs < a.natAbs := by
  rw [Int.natAbs_tmod]
  exact Nat.mod_lt _ (by omega)
set_option maxHeartbeats 2000000 in
theorem bdivisor_any (x y : Int) (w : World) (x0 : -4611686018427387904 ≤ x) (x1 : x ≤ 4611686018427387904) (y0 : -4611686018427387904 ≤ y) (y1 : y ≤ 4611686018427387904) :
    Calls Tryz.prog 179 #[.int .i64 x, .int .i64 y] w fun e w' => e = .returned (.int .i64 ((x.natAbs.gcd y.natAbs : Nat) : Int)) ∧ ∃ m, w' = w.drewN m := by
  obtain ⟨g, hg⟩ : ∃ g, g = x.natAbs.gcd y.natAbs := ⟨_, rfl⟩
  rw [← hg]
  replace hg := Lib.hid hg
  go_enter Tryz.func179, Tryz.ntmps179
  go_wp2
  go_loopw [0, 1] (fun i j wr => ∃ a b : Int, i = .int .i64 a ∧ j = .int .i64 b ∧ (-4611686018427387904 ≤ a ∧ a ≤ 4611686018427387904) ∧ (-4611686018427387904 ≤ b ∧ b ≤ 4611686018427387904) ∧ Hid (g = a.natAbs.gcd b.natAbs) ∧ ∃ m, wr = w.drewN m) (fun i j _ => (intOf i).natAbs)
  case atStart => exact ⟨x, y, rfl, rfl, ⟨x0, x1⟩, ⟨y0, y1⟩, hg, 0, rfl⟩
  case round =>
    obtain ⟨a, b, rfl, rfl, ⟨a0, a1⟩, ⟨b0, b1⟩, hG, m, rfl⟩ := hrel
    by_cases h0 : a = 0
    · subst h0
      go_wp2
      all_goals
        go_ret
        refine ⟨ret_int ?_, m, rfl⟩
        rw [hG.out]
        simp only [Int.natAbs_zero, Nat.gcd_zero_left]
        omega
    · have hm := tmod_small (b := b) h0
      have hG2 := Lib.hid (show g = (b.tmod a).natAbs.gcd a.natAbs by rw [hG.out, gcd_tmod h0])
      go_wp2
      go_roundw
      case rel => exact ⟨b.tmod a, a, rfl, rfl, ⟨by omega, by omega⟩, ⟨a0, a1⟩, hG2, m, rfl⟩
      case measure => exact hm
theorem results_rat {fn : Func} {tmps : Array Value} {w : World} {t : Tmp} {g : Nat} {n d : Int} (hr : fn.results = #[.cell t 38]) (ht : tmps.getD t undef = .pointer (some ⟨g, 0, none⟩)) (h0 : w.cell? ⟨g, 0, none⟩ = some (.int .i64 n)) (h1 : w.cell? ⟨g, 1, none⟩ = some (.int .i64 d)) :
    (results fn tmps).run Tryz.prog w = .ok (.agg #[.int .i64 n, .int .i64 d]) w := by
  have hc : w.rangeAt g 0 [.int .i64 n, .int .i64 d] := by
    intro j u hj
    have hl : j < 2 := (List.getElem?_eq_some_iff.1 hj).1
    rcases (show j = 0 ∨ j = 1 by omega) with rfl | rfl
    · simp only [List.getElem?_cons_zero, Option.some.injEq] at hj
      rw [← hj]; exact h0
    · simp only [List.getElem?_cons_succ, List.getElem?_cons_zero, Option.some.injEq] at hj
      rw [← hj]; exact h1
  have h := run_loadVar_mid (P := Tryz.prog) w g 0 38 [.int .i64 n, .int .i64 d] _ hc Tryz.underlying38 rfl (by kernel_rfl)
  unfold results
  rw [hr]
  have ht2 : tmps[t]?.getD undef = .pointer (some ⟨g, 0, none⟩) := by rw [← Array.getD_eq_getD_getElem?]; exact ht
  simp [ht2, asAddr, h]
set_option maxRecDepth 100000 in
set_option maxHeartbeats 4000000 in
theorem pos_core (kd : Int) (nm : ByteArray) (an ad sn sd : Int) (sm : Bool) (k g a d base num t1 t2 t3 c : Int) (w : World) (hk : (kd == 0) = false)
    (hg : g = ((ad.natAbs.gcd sd.natAbs : Nat) : Int)) (hc : c = ((num.natAbs.gcd base.natAbs : Nat) : Int)) (g1 : 1 ≤ g) (c1 : 1 ≤ c)
    (a1 : 1 ≤ ad) (a2 : ad ≤ 65536) (s1 : 1 ≤ sd) (s2 : sd ≤ 65536) (b1 : 1 ≤ base) (b2 : base ≤ 65536)
    (q1 : ad.tdiv g = a) (p1 : a * sd = base) (q2 : base.tdiv ad = d) (p2 : an * d = t1) (p3 : k * sn = t2) (q3 : base.tdiv sd = a) (p4 : t2 * a = t3) (p5 : t1 + t3 = num) 
    (a3 : 0 ≤ a) (a4 : a ≤ 65536) (d3 : 0 ≤ d) (d4 : d ≤ 65536) (x1 : -1152921504606846976 ≤ num.tdiv c) (x2 : num.tdiv c ≤ 1152921504606846976) (y1 : 0 ≤ base.tdiv c) (y2 : base.tdiv c ≤ 65536) (m1 : -1152921504606846976 ≤ t1 ∧ t1 ≤ 1152921504606846976) (m2 : -1152921504606846976 ≤ t2 ∧ t2 ≤ 1152921504606846976) (m3 : -1152921504606846976 ≤ t3 ∧ t3 ≤ 1152921504606846976) :
    Calls Tryz.prog 173 #[.agg #[.int .i64 kd, .string nm, .int .i64 an, .int .i64 ad, .int .i64 sn, .int .i64 sd, .bool sm], .int .i64 k] w fun e w' => e = .returned (.agg #[.int .i64 (num.tdiv c), .int .i64 (base.tdiv c)]) ∧ Below w.heap.size w w' := by
  have D1 := Lib.hid (fun w => hg ▸ bdivisor_any ad sd w (by omega) (by omega) (by omega) (by omega))
  have D2 := Lib.hid (fun w => hc ▸ bdivisor_any num base w (by omega) (by omega) (by omega) (by omega))
  clear hg hc
  go_enter Tryz.func173, Tryz.ntmps173
  go_upto_region 1 with fail
  obtain ⟨w1, hw1⟩ : ∃ z, z = (w.alloc (.cells #[.int .i64 kd, .string nm, .int .i64 an, .int .i64 ad, .int .i64 sn, .int .i64 sd, .bool sm] 46)).alloc (.cells #[.int .i64 0, .int .i64 0] 38) := ⟨_, rfl⟩
  have hb1 : Below w.heap.size w w1 := by rw [hw1]; go_grown
  have u0 : w1.cell? ⟨w.heap.size, 0, none⟩ = some (.int .i64 kd) := by rw [hw1]; simp [go_sem]
  have u2 : w1.cell? ⟨w.heap.size, 2, none⟩ = some (.int .i64 an) := by rw [hw1]; simp [go_sem]
  have u3 : w1.cell? ⟨w.heap.size, 3, none⟩ = some (.int .i64 ad) := by rw [hw1]; simp [go_sem]
  have u4 : w1.cell? ⟨w.heap.size, 4, none⟩ = some (.int .i64 sn) := by rw [hw1]; simp [go_sem]
  have u5 : w1.cell? ⟨w.heap.size, 5, none⟩ = some (.int .i64 sd) := by rw [hw1]; simp [go_sem]
  have v0 : w1.cell? ⟨w.heap.size + 1, 0, none⟩ = some (.int .i64 0) := by rw [hw1]; simp [go_sem]
  have v1 : w1.cell? ⟨w.heap.size + 1, 1, none⟩ = some (.int .i64 0) := by rw [hw1]; simp [go_sem]
  have z0 : w1.frozen? ⟨w.heap.size + 1, 0, none⟩ = false := by rw [hw1]; simp [go_sem]
  have z1 : w1.frozen? ⟨w.heap.size + 1, 1, none⟩ = false := by rw [hw1]; simp [go_sem]
  rw [← hw1]
  have HB := Lib.hid hb1
  obtain ⟨p, hp⟩ : ∃ p, p = w.heap.size := ⟨_, rfl⟩
  obtain ⟨r, hr⟩ : ∃ r, r = w.heap.size + 1 := ⟨_, rfl⟩
  rw [← hr] at v0 v1 z0 z1 ⊢
  rw [← hp] at u0 u2 u3 u4 u5 ⊢
  have HR := Lib.hid (show w.heap.size ≤ r by omega)
  clear hw1 hb1 hp hr
  go_wp2_with fail
  go_quiet (first | (go_at_call 179; refine Calls.quiet_of (D1.out _)))
  have e1 : wrap64 a = a := by simp only [wrap64]; omega
  go_upto_region 4 with fail
  go_quiet (fail)
  go_wp2_with fail
  refine (D2.out _).mono ?_
  rintro e w2 ⟨rfl, m, rfl⟩
  go_upto_region 6 with fail
  go_region
  go_wp2_with fail
  refine bodyPost_ret (results_rat (g := r) Tryz.results173 rfl (by simp [go_sem, v0, z0]) (by simp [go_sem, v1, z1])) rfl ⟨rfl, ?_⟩
  exact ((below_drewN HB.out _).setCell (p := ⟨r, 0, none⟩) HR.out _).setCell (p := ⟨r, 1, none⟩) HR.out _
/-- The numbers of a source and of a frame are small enough to find its position. -/
structure PosB (s : Trk.Src) (k : Int) : Prop where
  a : s.ad ≤ 65536
  d : s.sd ≤ 65536
  b : Trk.baseN s ≤ 65536
  n0 : -(1099511627776 * s.ad) ≤ s.an
  n1 : s.an ≤ 1099511627776 * s.ad
  v0 : -(1024 * s.sd) ≤ s.sn
  v1 : s.sn ≤ 1024 * s.sd
  k0 : -4294967296 ≤ k
  k1 : k ≤ 4294967296
theorem abs_mul {x y X Y : Int} (h0 : -X ≤ x) (h1 : x ≤ X) (k0 : -Y ≤ y) (k1 : y ≤ Y) : -(X * Y) ≤ x * y ∧ x * y ≤ X * Y := by
  have hx : x.natAbs ≤ X.natAbs := by omega
  have hy : y.natAbs ≤ Y.natAbs := by omega
  have h := Nat.mul_le_mul hx hy
  rw [← Int.natAbs_mul, ← Int.natAbs_mul] at h
  have hX : 0 ≤ X := by omega
  have hY : 0 ≤ Y := by omega
  have hp := Int.mul_nonneg hX hY
  omega
theorem position_good (s : Trk.Src) (k : Int) (w : World) (h : Trk.Good s) (hb : PosB s k) :
    Calls Tryz.prog 173 #[.agg (srcC s).toArray, .int .i64 k] w fun e w' => e = .returned (.agg #[.int .i64 (Trk.moved s k).an, .int .i64 (Trk.moved s k).ad]) ∧ Below w.heap.size w w' := by
  obtain ⟨m1, m2⟩ := Trk.moved_num h k
  have hB := Trk.base_pos h
  obtain ⟨A, hA⟩ := Int.eq_ofNat_of_zero_le (show 0 ≤ s.ad by have := h.a0; omega)
  obtain ⟨D, hD⟩ := Int.eq_ofNat_of_zero_le (show 0 ≤ s.sd by have := h.s0; omega)
  have a0 : 0 < A := by have := h.a0; omega
  have d0 : 0 < D := by have := h.s0; omega
  obtain ⟨b1, b2, b3, b4⟩ := Trk.base_nat a0 d0
  have hbase : Trk.baseN s = A / A.gcd D * D := by unfold Trk.baseN; rw [hA, hD, Int.toNat_natCast, Int.toNat_natCast]
  have hpos : Trk.posN s k = s.an * ((D / A.gcd D : Nat) : Int) + k * s.sn * ((A / A.gcd D : Nat) : Int) := by unfold Trk.posN; rw [hA, hD, Int.toNat_natCast, Int.toNat_natCast]
  have g0 : 0 < A.gcd D := Nat.gcd_pos_of_pos_left _ a0
  have la : A / A.gcd D ≤ A := Nat.div_le_self _ _
  have ld : D / A.gcd D ≤ D := Nat.div_le_self _ _
  have ha := hb.a
  have hd := hb.d
  have hbb := hb.b
  rw [hA] at ha
  rw [hD] at hd
  have n0 := hb.n0
  have n1 := hb.n1
  have v0 := hb.v0
  have v1 := hb.v1
  have k0 := hb.k0
  have k1 := hb.k1
  rw [hA] at n0 n1
  rw [hD] at v0 v1
  obtain ⟨B, eB⟩ : ∃ B, B = Trk.baseN s := ⟨_, rfl⟩
  obtain ⟨N, eN⟩ : ∃ N, N = Trk.posN s k := ⟨_, rfl⟩
  rw [← eB] at m1 m2 hB hbase hbb
  rw [← eN] at m1 m2 hpos
  obtain ⟨G, eG⟩ : ∃ G, G = A.gcd D := ⟨_, rfl⟩
  rw [← eG] at b1 b2 b3 b4 hbase hpos g0 la ld
  obtain ⟨a, ea⟩ : ∃ a, a = A / G := ⟨_, rfl⟩
  obtain ⟨d, ed⟩ : ∃ d, d = D / G := ⟨_, rfl⟩
  rw [← ea] at b1 b2 b3 b4 hbase hpos la
  rw [← ed] at b1 b2 hpos ld
  rw [← hbase] at b1 b2 b3 b4
  have c0 : 0 < N.natAbs.gcd B := Nat.gcd_pos_of_pos_right _ hB
  have cN : ((N.natAbs.gcd B : Nat) : Int) ∣ N := Int.ofNat_dvd_left.2 (Nat.gcd_dvd_left _ _)
  have cB : ((N.natAbs.gcd B : Nat) : Int) ∣ (B : Int) := by exact_mod_cast Nat.gcd_dvd_right _ _
  obtain ⟨c, ec⟩ : ∃ c, c = N.natAbs.gcd B := ⟨_, rfl⟩
  rw [← ec] at c0 cN cB m1 m2
  -- bounds
  have t1 := abs_mul n0 n1 (show -(d : Int) ≤ (d : Int) by omega) (Int.le_refl _)
  have e1 : 1099511627776 * (A : Int) * (d : Int) = 1099511627776 * (B : Int) := by
    rw [Int.mul_assoc]; congr 1; rw [b1]; simp
  rw [e1] at t1
  have t2 := abs_mul (show -(4294967296 : Int) ≤ k by omega) k1 v0 v1
  have t3 := abs_mul t2.1 t2.2 (show -(a : Int) ≤ (a : Int) by omega) (Int.le_refl _)
  have e3 : 4294967296 * (1024 * (D : Int)) * (a : Int) = 4398046511104 * (B : Int) := by
    rw [← Int.mul_assoc, show (4294967296 * 1024 : Int) = 4398046511104 from rfl, Int.mul_assoc]; congr 1; rw [hbase, Int.mul_comm]; simp
  rw [e3] at t3
  have xN : (N.tdiv (c : Int)).natAbs ≤ N.natAbs := by rw [Int.natAbs_tdiv]; exact Nat.div_le_self _ _
  obtain ⟨q, eq⟩ : ∃ q, q = B / c := ⟨_, rfl⟩
  have xB : ((B : Int).tdiv (c : Int)) = (q : Int) := by rw [eq]; simp
  have lB : q ≤ B := by rw [eq]; exact Nat.div_le_self _ _
  have key := pos_core s.kind s.name s.an (A : Int) s.sn (D : Int) s.smooth k (G : Int) (a : Int) (d : Int) (B : Int) N (s.an * (d : Int)) (k * s.sn) (k * s.sn * (a : Int)) (c : Int) w (by simpa using h.k)
    (by rw [eG]; simp) (by rw [ec]; simp) (by omega) (by omega) (by omega) (by omega) (by omega) (by omega) (by omega) (by omega)
    (by rw [ea]; simp) (by rw [hbase]; simp) (by rw [← b2]; simp) rfl rfl (by rw [← b3]; simp) rfl hpos.symm
    (by omega) (by omega) (by omega) (by omega) (by omega) (by omega) (by rw [xB]; omega) (by rw [xB]; omega) (by omega) (by omega) (by omega)
  rw [m1, m2, ← Int.tdiv_eq_ediv_of_dvd cN, ← Int.tdiv_eq_ediv_of_dvd cB]
  unfold srcC
  rw [hA, hD]
  exact key
set_option maxRecDepth 100000 in
set_option maxHeartbeats 4000000 in
theorem position_black (k : Int) (w : World) :
    Calls Tryz.prog 173 #[.agg (srcC Trk.black).toArray, .int .i64 k] w fun e w' => e = .returned (.agg #[.int .i64 0, .int .i64 0]) ∧ Below w.heap.size w w' := by
  unfold srcC Trk.black
  go_enter Tryz.func173, Tryz.ntmps173
  go_wp2_with fail
  exact bodyPost_ret (results_rat (g := w.heap.size + 1) Tryz.results173 rfl (by simp [go_sem]) (by simp [go_sem])) rfl ⟨rfl, by go_grown⟩
theorem position_any (s : Trk.Src) (k : Int) (w : World) (h : Trk.Okay s) (hb : s = Trk.black ∨ PosB s k) :
    Calls Tryz.prog 173 #[.agg (srcC s).toArray, .int .i64 k] w fun e w' => e = .returned (.agg #[.int .i64 (Trk.moved s k).an, .int .i64 (Trk.moved s k).ad]) ∧ Below w.heap.size w w' := by
  by_cases e : s = Trk.black
  · subst e
    rw [Trk.moved_black]
    exact position_black k w
  · exact position_good s k w (h.resolve_left e) (hb.resolve_left e)
end Go.Proofs.YtfoohocgdcgbcaaGreat

/- The contract of sameSource. -/
namespace Go.Proofs.YtfoohocgdcgbcaaGreat
open Go.RowKit
set_option linter.unusedVariables false
set_option linter.unusedSimpArgs false
def srcN (s : Trk.Src) : Trk.Src := { s with an := 0, ad := 0 }
def ratV (n d : Int) : Value := .agg #[.int .i64 n, .int .i64 d]
def ssG (x y : Value) (i lo hi : Nat) (v : Value) (w : World) : Prop := v = if i = 2 then x else y
theorem ssG.ext {x y : Value} (i lo hi : Nat) (v : Value) (w w' : World) (h : ssG x y i lo hi v w) (hb : Plan.Ext w w') : ssG x y i lo hi v w' := h
def ssS : List (Nat × Tmp) := [(2, 11), (5, 14)]
theorem ratV_eq (n d n' d' : Int) (w : World) : (Op.equalIn 10000 38 (.agg #[.int .i64 n, .int .i64 d]) (.agg #[.int .i64 n', .int .i64 d'])).run Tryz.prog w = .ok (decide (n = n' ∧ d = d')) w := by
  simp [go_sem]
  by_cases h1 : n = n' <;> by_cases h2 : d = d' <;> simp [h1, h2]
theorem srcN_eq (a b : Trk.Src) : srcN a = srcN b ↔ a.kind = b.kind ∧ a.name = b.name ∧ a.sn = b.sn ∧ a.sd = b.sd ∧ a.smooth = b.smooth := by
  constructor
  · intro h
    have h1 : (srcN a).kind = (srcN b).kind := by rw [h]
    have h2 : (srcN a).name = (srcN b).name := by rw [h]
    have h3 : (srcN a).sn = (srcN b).sn := by rw [h]
    have h4 : (srcN a).sd = (srcN b).sd := by rw [h]
    have h5 : (srcN a).smooth = (srcN b).smooth := by rw [h]
    exact ⟨h1, h2, h3, h4, h5⟩
  · rintro ⟨h1, h2, h3, h4, h5⟩
    exact Trk.Src.ext2 h1 h2 rfl rfl h3 h4 h5
set_option maxRecDepth 100000 in
set_option maxHeartbeats 8000000 in
theorem samesource_any (a b : Trk.Src) (j k : Int) (w : World) (ha : Trk.Okay a) (hb : Trk.Okay b) (Ba : a = Trk.black ∨ PosB a j) (Bb : b = Trk.black ∨ PosB b k) :
    Calls Tryz.prog 159 #[.agg (srcC a).toArray, .int .i64 j, .agg (srcC b).toArray, .int .i64 k] w fun e w' => e = .returned (.bool (decide (Trk.moved a j = Trk.moved b k))) ∧ Below w.heap.size w w' := by
  have P1 := Lib.hid (fun w => position_any a j w ha Ba)
  have P2 := Lib.hid (fun w => position_any b k w hb Bb)
  have HE := Lib.hid (Trk.moved_eq (a := a) (b := b) j k)
  clear ha hb Ba Bb
  obtain ⟨D, hD⟩ : ∃ D, D = decide (Trk.moved a j = Trk.moved b k) := ⟨_, rfl⟩
  rw [← hD]
  have HD := Lib.hid hD
  clear hD
  obtain ⟨xn, hxn⟩ : ∃ x, x = (Trk.moved a j).an := ⟨_, rfl⟩
  obtain ⟨xd, hxd⟩ : ∃ x, x = (Trk.moved a j).ad := ⟨_, rfl⟩
  obtain ⟨yn, hyn⟩ : ∃ x, x = (Trk.moved b k).an := ⟨_, rfl⟩
  obtain ⟨yd, hyd⟩ : ∃ x, x = (Trk.moved b k).ad := ⟨_, rfl⟩
  rw [← hxn, ← hxd] at P1
  rw [← hyn, ← hyd] at P2
  rw [← hxn, ← hxd, ← hyn, ← hyd] at HE
  clear hxn hxd hyn hyd
  have HQ := Lib.hid (fun w => run_eq_src (srcN a) (srcN b) w)
  obtain ⟨c1, hc1⟩ : ∃ c, c = decide (srcN a = srcN b) := ⟨_, rfl⟩
  have HC1 := Lib.hid hc1
  rw [← hc1] at HQ
  clear hc1
  unfold srcC at P1 P2 ⊢
  go_enter Tryz.func159, Tryz.ntmps159
  go_upto_region 1 with fail
  obtain ⟨w1, hw1⟩ : ∃ z, z = (w.alloc (.cells #[.int .i64 a.kind, .string a.name, .int .i64 a.an, .int .i64 a.ad, .int .i64 a.sn, .int .i64 a.sd, .bool a.smooth] 46)).alloc (.cells #[.int .i64 b.kind, .string b.name, .int .i64 b.an, .int .i64 b.ad, .int .i64 b.sn, .int .i64 b.sd, .bool b.smooth] 46) := ⟨_, rfl⟩
  have hb1 : Below w.heap.size w w1 := by rw [hw1]; go_grown
  obtain ⟨p, hp⟩ : ∃ p, p = w.heap.size := ⟨_, rfl⟩
  obtain ⟨r, hr⟩ : ∃ r, r = w.heap.size + 1 := ⟨_, rfl⟩
  have x : C7 w1 p 0 (.int .i64 a.kind) (.string a.name) (.int .i64 a.an) (.int .i64 a.ad) (.int .i64 a.sn) (.int .i64 a.sd) (.bool a.smooth) := by rw [hw1, hp]; constructor <;> simp [go_sem]
  have y : C7 w1 r 0 (.int .i64 b.kind) (.string b.name) (.int .i64 b.an) (.int .i64 b.ad) (.int .i64 b.sn) (.int .i64 b.sd) (.bool b.smooth) := by rw [hw1, hr]; constructor <;> simp [go_sem]
  have f : (∀ o, w1.frozen? ⟨p, o, none⟩ = false) ∧ ∀ o, w1.frozen? ⟨r, o, none⟩ = false := by rw [hw1, hp, hr]; exact ⟨fun o => by simp [go_sem], fun o => by simp [go_sem]⟩
  rw [← hw1, ← hr, ← hp]
  have HX := Lib.hid x
  have HY := Lib.hid y
  have HF := Lib.hid f
  have HB := Lib.hid hb1
  have HP := Lib.hid (show w.heap.size ≤ p ∧ w.heap.size ≤ r ∧ p ≠ r by omega)
  clear hw1 hp hr hb1 x y f
  refine Plan.wp_region_fresh (fun w' => Below w1.heap.size w1 w') 7 (ssG (ratV xn xd) (ratV yn yd)) ([0, 1, 3, 4].map (·, true)) ssS ([6].map (·, true)) 23 (by kernel_rfl) (by kernel_rfl) (by kernel_rfl) (Below.refl _ _).drew (fun wa wb ha hb => ha.trans (hb.mono ha.size)) ssG.ext ?_
  refine' Plan.plan_seg _ [0, 1, 3, 4] [] (by kernel_rfl) (by kernel_rfl) rfl (by exact (Below.refl _ _).drew) (fun wx hS => ?_) ?_
  rotate_left
  · obtain ⟨x0, x1, x2, x3, x4, x5, x6⟩ := HX.out.below hS
    obtain ⟨y0, y1, y2, y3, y4, y5, y6⟩ := HY.out.below hS
    simp only [Nat.zero_add] at x1 x2 x3 x4 x5 x6 y1 y2 y3 y4 y5 y6
    clear hS
    go_light
    iterate 4 (apply Plan.seg_pick; rfl; intro K hK; go_wp)
    exact Plan.seg_nil
  refine Plan.plan_nil ?_
  refine Plan.fresh_at_gen (fun A => A.tmps.size = 23 ∧ A.tmps[9]? = some (.agg (srcC a).toArray) ∧ A.tmps[10]? = some (.int .i64 j) ∧ A.tmps[12]? = some (.agg (srcC b).toArray) ∧ A.tmps[13]? = some (.int .i64 k)) ⟨rfl, rfl, rfl, rfl, rfl⟩ rfl (fun Aq hA => ?_) ?_
  · obtain ⟨hsz, e9, e10, e12, e13⟩ := hA
    intro p' hp o ho vs wx lo hi hS hE hG K hK
    simp only [ssS, List.mem_cons, List.not_mem_nil, or_false] at hp
    rcases hp with rfl | rfl
    all_goals obtain rfl := Option.some.inj ho
    · have t9 : (Plan.puts vs ssS Aq).eval (.tmp 9) = .agg (srcC a).toArray := by rw [Plan.eval_out (by decide)]; simp [Act.eval, Array.getD_eq_getD_getElem?, e9]
      have t10 : (Plan.puts vs ssS Aq).eval (.tmp 10) = .int .i64 j := by rw [Plan.eval_out (by decide)]; simp [Act.eval, Array.getD_eq_getD_getElem?, e10]
      refine Plan.one_call rfl 173 Tryz.func173 (by kernel_rfl) (by kernel_rfl) #[.tmp 9, .tmp 10] #[46, 2] rfl #[.agg (srcC a).toArray, .int .i64 j] (by simp only [List.map_toArray, List.map_cons, List.map_nil, t9, t10]) (fun r w' => r = ratV xn xd ∧ Below wx.heap.size wx w') ?_ (fun r w' hR => hK _ _ hR.1 hR.2)
      refine (P1.out wx).mono ?_
      rintro e w' ⟨rfl, hb⟩
      exact ⟨_, rfl, rfl, hb⟩
    · have t9 : (Plan.puts vs ssS Aq).eval (.tmp 12) = .agg (srcC b).toArray := by rw [Plan.eval_out (by decide)]; simp [Act.eval, Array.getD_eq_getD_getElem?, e12]
      have t10 : (Plan.puts vs ssS Aq).eval (.tmp 13) = .int .i64 k := by rw [Plan.eval_out (by decide)]; simp [Act.eval, Array.getD_eq_getD_getElem?, e13]
      refine Plan.one_call rfl 173 Tryz.func173 (by kernel_rfl) (by kernel_rfl) #[.tmp 12, .tmp 13] #[46, 2] rfl #[.agg (srcC b).toArray, .int .i64 k] (by simp only [List.map_toArray, List.map_cons, List.map_nil, t9, t10]) (fun r w' => r = ratV yn yd ∧ Below wx.heap.size wx w') ?_ (fun r w' hR => hK _ _ hR.1 hR.2)
      refine (P2.out wx).mono ?_
      rintro e w' ⟨rfl, hb⟩
      exact ⟨_, rfl, rfl, hb⟩
  · intro vs lo hi wx hS hE hall hap
    have h2 : vs 2 = ratV xn xd := (hall (2, 11) (by decide)).1
    have h5 : vs 5 = ratV yn yd := (hall (5, 14) (by decide)).1
    have HF2 := Lib.hid (show (∀ o, wx.frozen? ⟨p, o, none⟩ = false) ∧ ∀ o, wx.frozen? ⟨r, o, none⟩ = false from ⟨fun o => (hS.frozen (p := ⟨p, o, none⟩) HX.out.lt).trans (HF.out.1 o), fun o => (hS.frozen (p := ⟨r, o, none⟩) HY.out.lt).trans (HF.out.2 o)⟩)
    replace HX := Lib.hid (HX.out.below hS)
    replace HY := Lib.hid (HY.out.below hS)
    replace HB := Lib.hid (HB.out.trans (hS.mono HB.out.size))
    have hSk := Lib.hid hS
    simp only [ssS, Plan.puts, h2, h5, ratV]
    clear hall hap hE hS h2 h5 HF
    have heq := fun w => ratV_eq xn xd yn yd w
    refine' Plan.plan_seg _ [6] [] (by kernel_rfl) (by kernel_rfl) rfl (by exact hSk.out) (fun wy hS => ?_) ?_
    rotate_left
    · clear hS
      go_light
      iterate 1 (apply Plan.seg_pick; rfl; intro K hK; go_wp)
      exact Plan.seg_nil
    refine Plan.plan_done ?_
    clear heq
    by_cases hpe : xn = yn ∧ xd = yd
    · have hpd : (!decide (xn = yn) || !decide (xd = yd)) = false := by simp [hpe.1, hpe.2]
      rw [hpd]
      have HN := Lib.hid hpe
      clear hpe hpd
      obtain ⟨x0, x1, x2, x3, x4, x5, x6⟩ := HX.out
      obtain ⟨y0, y1, y2, y3, y4, y5, y6⟩ := HY.out
      simp only [Nat.zero_add] at x1 x2 x3 x4 x5 x6 y1 y2 y3 y4 y5 y6
      obtain ⟨f, g⟩ := HF2.out
      have hne := HP.out.2.2
      have hne2 := Ne.symm hne
      have hq := HQ.out
      simp only [srcN] at hq
      go_wp2_with fail
      go_ret
      refine ⟨ret_bool ?_, ?_⟩
      · rw [HC1.out, HD.out]
        have h1 := HE.out
        have h2 := srcN_eq a b
        simp only [HN.out.1, HN.out.2, and_self, true_and] at h1
        exact decide_eq_decide.2 (h2.trans h1.symm)
      · have hp := HP.out.1
        have hr := HP.out.2.1
        have hbx := HB.out
        exact (((hbx.setCell (p := ⟨p, 2, none⟩) hp _).setCell (p := ⟨p, 3, none⟩) hp _).setCell (p := ⟨r, 2, none⟩) hr _).setCell (p := ⟨r, 3, none⟩) hr _
    · have hpd : (!decide (xn = yn) || !decide (xd = yd)) = true := by
        by_cases h1 : xn = yn
        · have h2 : xd ≠ yd := fun h => hpe ⟨h1, h⟩
          simp [h2]
        · simp [h1]
      rw [hpd]
      have HN := Lib.hid hpe
      clear hpe hpd
      go_wp2_with fail
      go_ret
      refine ⟨ret_bool ?_, HB.out⟩
      rw [HD.out]
      exact (decide_eq_false fun h => HN.out (HE.out.1 h).1).symm
end Go.Proofs.YtfoohocgdcgbcaaGreat

/- The contract of sameFrame. -/
namespace Go.Proofs.YtfoohocgdcgbcaaGreat
open Go.RowKit
set_option linter.unusedVariables false
set_option linter.unusedSimpArgs false
/-- What is asked of a clip whose frame k is compared. -/
structure FrB (c : Trk.Clip) (k : Int) : Prop where
  a : Trk.Okay c.a
  b : Trk.Okay c.b
  pa : c.a = Trk.black ∨ PosB c.a k
  pb : c.b = Trk.black ∨ PosB c.b k
  z : Trk.shares c.kind = false → c.off = 0
  o0 : 0 ≤ c.off
  o1 : c.off ≤ 2147483647
  k0 : -4294967296 ≤ k
  k1 : k ≤ 4294967296
set_option maxRecDepth 100000 in
set_option maxHeartbeats 40000000 in
theorem sameframe_any (c d : Trk.Clip) (j k : Int) (w : World) (hc : c.chan = []) (hd : d.chan = []) (fc : FrB c j) (fd : FrB d k) :
    Calls Tryz.prog 136 #[clipV c, .int .i64 j, clipV d, .int .i64 k] w fun e w' => e = .returned (.bool (decide (Trk.one c j = Trk.one d k))) ∧ Below w.heap.size w w' := by
  have HCH := Lib.hid (hc.trans hd.symm)
  have S1 := Lib.hid (fun w => samesource_any c.a d.a j k w fc.a fd.a fc.pa fd.pa)
  have S2 := Lib.hid (fun w => samesource_any c.b d.b j k w fc.b fd.b fc.pb fd.pb)
  have HE := Lib.hid (Trk.one_eq (c := c) (d := d) j k fc.z fd.z)
  have o0 := fc.o0
  have o1 := fc.o1
  have o2 := fd.o0
  have o3 := fd.o1
  have j0 := fc.k0
  have j1 := fc.k1
  have k0 := fd.k0
  have k1 := fd.k1
  clear hc hd fc fd
  obtain ⟨D, hD⟩ : ∃ D, D = decide (Trk.one c j = Trk.one d k) := ⟨_, rfl⟩
  rw [← hD]
  have HD := Lib.hid hD
  clear hD
  obtain ⟨sa, hsa⟩ : ∃ s, s = decide (Trk.moved c.a j = Trk.moved d.a k) := ⟨_, rfl⟩
  obtain ⟨sb, hsb⟩ : ∃ s, s = decide (Trk.moved c.b j = Trk.moved d.b k) := ⟨_, rfl⟩
  rw [← hsa] at S1
  rw [← hsb] at S2
  have HSA := Lib.hid hsa
  have HSB := Lib.hid hsb
  clear hsa hsb
  unfold clipV
  obtain ⟨C, hC⟩ : ∃ C, C = (clipC c).toArray := ⟨_, rfl⟩
  obtain ⟨DD, hDD⟩ : ∃ DD, DD = (clipC d).toArray := ⟨_, rfl⟩
  rw [← hC, ← hDD]
  have HCC := Lib.hid hC
  have HDD := Lib.hid hDD
  clear hC hDD
  go_enter Tryz.func136, Tryz.ntmps136
  go_upto_region 1 with fail
  obtain ⟨w1, hw1⟩ : ∃ x, x = (w.alloc (.cells C 48)).alloc (.cells DD 48) := ⟨_, rfl⟩
  rw [← hw1]
  rw [HCC.out, HDD.out] at hw1
  obtain ⟨hx, hy, hb1⟩ := box2_facts hw1
  obtain ⟨g1, hg1⟩ : ∃ g, g = w.heap.size := ⟨_, rfl⟩
  obtain ⟨g2, hg2⟩ : ∃ g, g = w.heap.size + 1 := ⟨_, rfl⟩
  rw [← hg2] at hy ⊢
  rw [← hg1] at hx ⊢
  have HB := Lib.hid hb1
  have HX := Lib.hid hx
  have HY := Lib.hid hy
  clear hw1 hb1 hg1 hg2
  obtain ⟨x0, x1, x2, x3, x4, x5, x6, x7, x8, x9, x10, x11, x12, x13, x14, x15, x16, x17, x18, x19, x20, x21⟩ := hx.at0
  obtain ⟨y0, y1, y2, y3, y4, y5, y6, y7, y8, y9, y10, y11, y12, y13, y14, y15, y16, y17, y18, y19, y20, y21⟩ := hy.at0
  clear hx hy x0 y0
  have HNO : ¬ (Trk.one c j = Trk.one d k) → false = D := fun h => by rw [HD.out]; exact (decide_eq_false h).symm
  replace HNO := Lib.hid HNO
  go_upto_region 3 with (go_at_call 107; refine (equal_nil _).mono ?_; rintro e w' ⟨rfl, rfl⟩)
  all_goals try
    go_ret
    refine ⟨ret_bool (HNO.out fun h => ?_), HB.out⟩
    obtain ⟨⟨h1, h2, h3, h4, h5, h6⟩, h7, h8, h9⟩ := HE.out.1 h
    first
    | contradiction
    | exact absurd (congrArg ByteArray.toList h4) (by assumption)
    | (exfalso; simp_all; done)
  rename_i hk ht hp htx hg K1 a1 K2 a2
  have HEQ := Lib.hid (show (Trk.shares c.kind = true → c.off + j = d.off + k) → D = (sa && sb) from fun hs => by
    have h := HE.out
    rw [HD.out, HSA.out, HSB.out, ← Bool.decide_and]
    exact decide_eq_decide.2 (h.trans ⟨fun h => h.2.2, fun h2 => ⟨⟨hk, ht, hp, bytes_inj2 htx, hg, HCH.out⟩, hs, h2.1, h2.2⟩⟩))
  clear ht hp htx hg x17 x18 x19 x20 x21 y17 y18 y19 y20 y21
  have HK := Lib.hid hk
  unfold srcC at S1 S2
  go_upto_region 5 with fail
  all_goals try
    go_ret
    refine ⟨ret_bool (HNO.out fun h => ?_), HB.out⟩
    obtain ⟨⟨h1, h2, h3, h4, h5, h6⟩, h7, h8, h9⟩ := HE.out.1 h
    first
    | contradiction
    | (exact absurd (h7 (by rw [h1]; simp_all [Trk.shares])) (by assumption))
    | (exfalso; simp_all [Trk.shares]; done)
  all_goals
    have hd : D = (sa && sb) := HEQ.out fun hs => by
      rw [hk] at hs
      first
      | (simp_all [Trk.shares]; done)
      | (have h2 : (c.off + j != d.off + k) = false := by assumption
         simpa using h2)
    have HDS := Lib.hid hd
    clear hd hk
    clear y1 x1 x16 y16
    go_wp2_with fail
    refine (S1.out _).mono ?_
    rintro e w2 ⟨rfl, hb⟩
    replace HX := Lib.hid (HX.out.below hb)
    replace HY := Lib.hid (HY.out.below hb)
    replace HB := Lib.hid (HB.out.trans (hb.mono HB.out.size))
    clear hb x2 x3 x4 x5 x6 x7 x8 x9 x10 x11 x12 x13 x14 x15 y2 y3 y4 y5 y6 y7 y8 y9 y10 y11 y12 y13 y14 y15
    obtain ⟨x0, x1, x2, x3, x4, x5, x6, x7, x8, x9, x10, x11, x12, x13, x14, x15, x16, x17, x18, x19, x20, x21⟩ := HX.out.at0
    obtain ⟨y0, y1, y2, y3, y4, y5, y6, y7, y8, y9, y10, y11, y12, y13, y14, y15, y16, y17, y18, y19, y20, y21⟩ := HY.out.at0
    cases sa
    · go_wp2_with fail
      go_ret
      exact ⟨ret_bool (by rw [HDS.out]; rfl), HB.out⟩
    · go_wp2_with fail
      refine (S2.out _).mono ?_
      rintro e w3 ⟨rfl, hb⟩
      replace HB := Lib.hid (HB.out.trans (hb.mono HB.out.size))
      clear hb
      go_wp2_with fail
      go_ret
      exact ⟨ret_bool (by rw [HDS.out]; rfl), HB.out⟩
end Go.Proofs.YtfoohocgdcgbcaaGreat

/- The contract of prefix. -/
namespace Go.Proofs.YtfoohocgdcgbcaaGreat
open Go.RowKit
set_option linter.unusedVariables false
set_option linter.unusedSimpArgs false
theorem base_lat {s : Trk.Src} (h : Trk.Lat s) : Trk.baseN s ≤ 6006 := by
  have a0 := h.g.a0
  have d0 := h.g.s0
  obtain ⟨A, hA⟩ := Int.eq_ofNat_of_zero_le (show 0 ≤ s.ad by omega)
  obtain ⟨D, hD⟩ := Int.eq_ofNat_of_zero_le (show 0 ≤ s.sd by omega)
  have ha : A ∣ 6006 := by have := h.a; rw [hA] at this; exact Int.ofNat_dvd.1 this
  have hd : D ∣ 6006 := by have := h.s; rw [hD] at this; exact Int.ofNat_dvd.1 this
  have e : Trk.baseN s = A.lcm D := by
    unfold Trk.baseN Nat.lcm
    rw [hA, hD, Int.toNat_natCast, Int.toNat_natCast, Nat.div_mul_right_comm (Nat.gcd_dvd_left _ _)]
  rw [e]
  exact Nat.le_of_dvd (by decide) (Nat.lcm_dvd ha hd)
theorem posB_of {L n : Int} {s : Trk.Src} (h : Trk.SrcP L n s) (hL : L ≤ 140737488355328) {k : Int} (k0 : -4294967296 ≤ k) (k1 : k ≤ 4294967296) : PosB s k := by
  obtain ⟨a0, a1, d0, d1, n0, n1, v0, v1⟩ := h.nums
  have hf := h.far hL
  have hb := base_lat h.lat
  exact ⟨by omega, by omega, by omega, by omega, by omega, by omega, by omega, k0, k1⟩
theorem frB_of {L : Int} {c : Trk.Clip} (h : Trk.VC L c) (hL : L ≤ 140737488355328) {k : Int} (k0 : -4294967296 ≤ k) (k1 : k ≤ 4294967296) : FrB c k := by
  have ho := off_le h
  refine ⟨h.c.a.okay, h.c.b.okay, h.c.a.imp id fun h => posB_of h hL k0 k1, h.c.b.imp id fun h => posB_of h hL k0 k1, fun hs => ?_, ho.1, ho.2.1, k0, k1⟩
  rcases h.c.kd with ⟨-, -, -, e, -⟩ | ⟨-, -, e, -⟩ | ⟨e, -⟩ | ⟨e, -⟩ | ⟨-, e, -⟩ | ⟨-, -, e, -⟩
  · exact e
  · exact e
  · rw [e] at hs; simp [Trk.shares] at hs
  · rw [e] at hs; simp [Trk.shares] at hs
  · exact e
  · exact e
theorem VT.good {L : Int} {l : List Trk.Clip} (h : VT L l) : Trk.GoodL l := h.v.good
set_option maxRecDepth 100000 in
set_option maxHeartbeats 16000000 in
theorem prefix_any {L : Int} (v u : Value) (n m : List Trk.Clip) (w : World) (h : Tk w v n) (h' : Tk w u m) (Vn : VT L n) (Vm : VT L m) (hL : L ≤ 140737488355328) :
    Calls Tryz.prog 92 #[v, u] w fun e w' => ∃ p, e = .returned (.int .i64 p) ∧ Trk.Pre n m p ∧ Below w.heap.size w w' := by
  have HT := Lib.hid h
  have HU := Lib.hid h'
  obtain ⟨ao, cap, rfl, hc1, hc2, -⟩ := h
  obtain ⟨bo, dap, rfl, hd1, hd2, -⟩ := h'
  have HGN := Lib.hid Vn.good
  have HGM := Lib.hid Vm.good
  have tn := Vn.t
  have tm := Vm.t
  have HSF := Lib.hid (fun (c d : Trk.Clip) (hc : c ∈ n) (hd : d ∈ m) (j k : Int) (j0 : -4294967296 ≤ j) (j1 : j ≤ 4294967296) (k0 : -4294967296 ≤ k) (k1 : k ≤ 4294967296) (w : World) =>
    sameframe_any c d j k w (Vn.v c hc).c.ch (Vm.v d hd).c.ch (frB_of (Vn.v c hc) hL j0 j1) (frB_of (Vm.v d hd) hL k0 k1))
  have HLN := Lib.hid (fun (c : Trk.Clip) (hc : c ∈ n) => And.intro (Vn.v c hc).l.1 (Vn.v c hc).l.2.1)
  have HLM := Lib.hid (fun (c : Trk.Clip) (hc : c ∈ m) => And.intro (Vm.v c hc).l.1 (Vm.v c hc).l.2.1)
  have nn := Vn.n
  have nm := Vm.n
  obtain ⟨N, hN⟩ : ∃ N, N = n.length := ⟨_, rfl⟩
  obtain ⟨M, hM⟩ : ∃ M, M = m.length := ⟨_, rfl⟩
  rw [← hN] at HT nn hc1 ⊢
  rw [← hM] at HU nm hd1 ⊢
  have HN := Lib.hid hN
  have HM := Lib.hid hM
  have TT := Lib.hid (And.intro tn tm)
  clear Vn Vm hN hM hc1 hc2 hd1 hd2 tn tm
  go_enter Tryz.func92, Tryz.ntmps92
  go_upto_region 4 with fail
  go_loopw [5, 6, 7, 8, 9] (fun v5 v6 v7 v8 v9 wr => ∃ (i j : Nat) (b s p : Int), v5 = .int .i64 p ∧ v6 = .int .i64 (i : Int) ∧ v7 = .int .i64 (j : Int) ∧ v8 = .int .i64 b ∧ v9 = .int .i64 s ∧ Trk.PreAt n m i j b s p ∧ Below w.heap.size w wr) (fun _ i j _ _ _ => (N - (intOf i).toNat) + (M - (intOf j).toNat))
  case atStart => exact ⟨0, 0, 0, 0, 0, rfl, rfl, rfl, rfl, rfl, Trk.PreAt.zero HGN.out HGM.out, Below.refl _ _⟩
  case round =>
    obtain ⟨i, j, b, s, p, rfl, rfl, rfl, rfl, rfl, hp, hb⟩ := hrel
    have HP := Lib.hid hp
    have HB := Lib.hid hb
    have li : i ≤ N := by have := hp.a.il; have := HN.out; omega
    have lj : j ≤ M := by have := hp.c.il; have := HM.out; omega
    have pb := hp.a.le HGN.out
    have pb2 : 0 ≤ p ∧ p ≤ 2147483647 := ⟨pb.1, Int.le_trans pb.2 TT.out.1⟩
    clear hp hb pb
    by_cases hi : i < N
    rotate_left
    · have d1 : decide ((i : Int) < (N : Int)) = false := decide_eq_false (by omega)
      have hiN : i = N := by omega
      go_upto_region 4 with fail
      go_quiet (fail)
      go_wp2_with fail
      go_ret
      exact ⟨p, rfl, HP.out.done HGN.out HGM.out (.inl (hiN.trans HN.out)), below_drewN HB.out _⟩
    have d1 : decide ((i : Int) < (N : Int)) = true := decide_eq_true (by omega)
    by_cases hj : j < M
    rotate_left
    · have d2 : decide ((j : Int) < (M : Int)) = false := decide_eq_false (by omega)
      have hjM : j = M := by omega
      go_upto_region 4 with fail
      go_quiet (fail)
      go_wp2_with fail
      go_ret
      exact ⟨p, rfl, HP.out.done HGN.out HGM.out (.inr (.inl (hjM.trans HM.out))), below_drewN HB.out _⟩
    have d2 : decide ((j : Int) < (M : Int)) = true := decide_eq_true (by omega)
    obtain ⟨c, hc⟩ : ∃ c, n[i]? = some c := ⟨_, List.getElem?_eq_getElem (by have := HN.out; omega)⟩
    obtain ⟨d, hd⟩ : ∃ d, m[j]? = some d := ⟨_, List.getElem?_eq_getElem (by have := HM.out; omega)⟩
    obtain ⟨ao', cap', e, _, _, hT⟩ := HT.out.below HB.out
    have e1 := HN.out
    simp only [Value.slice.injEq] at e
    obtain ⟨rfl, -, rfl⟩ := e
    obtain ⟨b1, o1, rfl, hA⟩ := hT i c hc
    obtain ⟨bo', dap', e, _, _, hU⟩ := HU.out.below HB.out
    simp only [Value.slice.injEq] at e
    obtain ⟨rfl, -, rfl⟩ := e
    obtain ⟨b2, o2, rfl, hA2⟩ := hU j d hd
    have HA := Lib.hid hA
    have HA2 := Lib.hid hA2
    have HQ := Lib.hid (And.intro hc hd)
    have cl := HLN.out c (List.mem_of_getElem? hc)
    have dl := HLM.out d (List.mem_of_getElem? hd)
    have b0 := HP.out.a.b0
    have b01 := HP.out.a.b1 c hc
    have s0 := HP.out.c.b0
    have s01 := HP.out.c.b1 d hd
    have HSC := Lib.hid (HSF.out c d (List.mem_of_getElem? hc) (List.mem_of_getElem? hd) b s (by omega) (by omega) (by omega) (by omega))
    unfold clipV at HSC
    clear hT hU hA hA2 hc hd e1
    obtain ⟨C, hC⟩ : ∃ C, C = (clipC c).toArray := ⟨_, rfl⟩
    obtain ⟨D, hD⟩ : ∃ D, D = (clipC d).toArray := ⟨_, rfl⟩
    rw [← hC, ← hD] at HSC
    have HC := Lib.hid hC
    have HD := Lib.hid hD
    clear hC hD
    have i1 : (i : Int) < (N : Int) := by omega
    have j1 : (j : Int) < (M : Int) := by omega
    go_upto_region 4 with fail
    refine Plan.wp_region_plan (fun w' => CA w' b1 (o1 + i * 22) c ∧ CA w' b2 (o2 + j * 22) d) (([0, 1, 2, 3, 4, 5, 6, 7, 8, 9, 10, 11, 12, 13, 14, 15, 16, 17, 18, 19, 20].map (·, true)) ++ (([21].map (·, false)) ++ ([22].map (·, true)))) (by kernel_rfl) (by kernel_rfl) (by kernel_rfl) ⟨HA.out.below (Below.refl _ _).drew, HA2.out.below (Below.refl _ _).drew⟩ ?_
    refine' Plan.plan_seg _ [0, 1, 2, 3, 4, 5, 6, 7, 8, 9, 10, 11, 12, 13, 14, 15, 16, 17, 18, 19, 20] (([21].map (·, false)) ++ ([22].map (·, true))) (by kernel_rfl) (by kernel_rfl) rfl (by exact ⟨HA.out.below (Below.refl _ _).drew, HA2.out.below (Below.refl _ _).drew⟩) (fun wx hS => ?_) ?_
    rotate_left
    · obtain ⟨S1, S2⟩ := hS
      have HS1 := Lib.hid S1
      have HS2 := Lib.hid S2
      clear S1 S2
      go_light
      iterate 14 (apply Plan.seg_pick; rfl; intro K hK; go_wp)
      (apply Plan.seg_pick; rfl; intro K hK)
      go_guarded
      refine wp_load_mid 48 _ rfl b1 (o1 + i * 22) rfl (clipC c) _ HS1.out.range Tryz.underlying48 rfl (by kernel_rfl) ?_
      rw [← HC.out]
      go_wp
      iterate 4 (apply Plan.seg_pick; rfl; intro K hK; go_wp)
      (apply Plan.seg_pick; rfl; intro K hK)
      go_guarded
      refine wp_load_mid 48 _ rfl b2 (o2 + j * 22) rfl (clipC d) _ HS2.out.range Tryz.underlying48 rfl (by kernel_rfl) ?_
      rw [← HD.out]
      go_wp
      iterate 1 (apply Plan.seg_pick; rfl; intro K hK; go_wp)
      exact Plan.seg_nil
    obtain ⟨w4, hw4⟩ : ∃ x, x = wr.drew := ⟨_, rfl⟩
    rw [← hw4]
    have hb : Below wr.heap.size wr w4 := by rw [hw4]; exact (Below.refl _ _).drew
    replace HA := Lib.hid (HA.out.below hb)
    replace HA2 := Lib.hid (HA2.out.below hb)
    replace HB := Lib.hid (HB.out.trans (hb.mono HB.out.size))
    clear hb hw4
    obtain ⟨r, hr⟩ : ∃ r, r = decide (Trk.one c b = Trk.one d s) := ⟨_, rfl⟩
    rw [← hr] at HSC
    have HR := Lib.hid hr
    clear hr
    refine Plan.plan_of_effect rfl (fun K hK => ?_)
    go_wp2_with fail
    refine (HSC.out _).mono ?_
    rintro e w5 ⟨rfl, hb⟩
    replace HA := Lib.hid (HA.out.below hb)
    replace HA2 := Lib.hid (HA2.out.below hb)
    replace HB := Lib.hid (HB.out.trans (hb.mono HB.out.size))
    clear hb HSC
    go_wp2_with fail
    refine ⟨⟨HA.out, HA2.out⟩, ?_⟩
    refine' Plan.plan_seg _ [22] [] (by kernel_rfl) (by kernel_rfl) rfl (by exact ⟨HA.out, HA2.out⟩) (fun wx hS => ?_) ?_
    rotate_left
    · clear hS
      go_light
      iterate 1 (apply Plan.seg_pick; rfl; intro K hK; go_wp)
      exact Plan.seg_nil
    refine Plan.plan_done ?_
    cases r with
    | false =>
      go_wp2_with fail
      go_ret
      exact ⟨p, rfl, HP.out.done HGN.out HGM.out (.inr (.inr ⟨c, d, HQ.out.1, HQ.out.2, of_decide_eq_false HR.out.symm⟩)), HB.out⟩
    | true =>
      obtain ⟨t, ht⟩ : ∃ t, t = min (c.len - b) (d.len - s) := ⟨_, rfl⟩
      have HN2 := Lib.hid (HP.out.step HGN.out HGM.out HQ.out.1 HQ.out.2 (of_decide_eq_true HR.out.symm) ht)
      have pt := HN2.out.a.le HGN.out
      have pt2 : p + t ≤ 2147483647 := Int.le_trans pt.2 TT.out.1
      have x0 := HA.out.k0
      have y0 := HA2.out.k0
      have t1 : 1 ≤ t := by omega
      have t2 : t ≤ c.len - b := by omega
      have t3 : t ≤ d.len - s := by omega
      have HBT := Lib.hid (show b + t = c.len ∨ s + t = d.len by omega)
      obtain ⟨x, hx⟩ : ∃ x, x = c.len - b := ⟨_, rfl⟩
      obtain ⟨y, hy⟩ : ∃ y, y = d.len - s := ⟨_, rfl⟩
      have e1 : c.len - b = x := hx.symm
      have e2 : d.len - s = y := hy.symm
      have HM1 := Lib.hid (show (x ≤ y ∧ t = x) ∨ (y < x ∧ t = y) by omega)
      have x1 : x ≤ 2147483647 := by omega
      have y1 : y ≤ 2147483647 := by omega
      have x2 : 1 ≤ x := by omega
      have y2 : 1 ≤ y := by omega
      clear pt ht hx hy
      go_upto_region 5 with fail
      go_cut [10] from 34 to 75 (fun v10 wx => v10 = .int .i64 (min x y) ∧ ∃ k, wx = w5.drewN k)
      case first J K' h1 h2 =>
        go_quiet (fail)
        refine h2 _ _ (Met.intro (h1 _ _ ?_))
        (repeat apply Exists.intro)
        exact ⟨⟨rfl, _, rfl⟩, rfl⟩
      case rest =>
      obtain ⟨rfl, k5, rfl⟩ := hcut
      have hc1 : min x y = t := by have := HM1.out; omega
      rw [hc1]
      clear e1 e2 x1 x2 y1 y2 hc1
      by_cases h1 : b + t = c.len
      · have z1 : (b + t == c.len) = true := by simpa using h1
        by_cases h2 : s + t = d.len
        · have z2 : (s + t == d.len) = true := by simpa using h2
          have HN3 := HN2.out
          rw [if_pos h1, if_pos h2, if_pos h1, if_pos h2] at HN3
          replace HN2 := Lib.hid HN3
          clear HN3 h1 h2
          go_wp2_with fail
          go_roundw
          case rel => exact ⟨i + 1, j + 1, 0, 0, p + t, rfl, by simp, by simp, rfl, rfl, HN2.out, below_drewN HB.out _⟩
          case measure => simp [intOf]; omega
        · have z2 : (s + t == d.len) = false := by simpa using h2
          have HN3 := HN2.out
          rw [if_pos h1, if_neg h2, if_pos h1, if_neg h2] at HN3
          replace HN2 := Lib.hid HN3
          clear HN3 h1 h2
          go_wp2_with fail
          go_roundw
          case rel => exact ⟨i + 1, j, 0, s + t, p + t, rfl, by simp, by simp, rfl, rfl, HN2.out, below_drewN HB.out _⟩
          case measure => simp [intOf]; omega
      · have z1 : (b + t == c.len) = false := by simpa using h1
        by_cases h2 : s + t = d.len
        · have z2 : (s + t == d.len) = true := by simpa using h2
          have HN3 := HN2.out
          rw [if_neg h1, if_pos h2, if_neg h1, if_pos h2] at HN3
          replace HN2 := Lib.hid HN3
          clear HN3 h1 h2
          go_wp2_with fail
          go_roundw
          case rel => exact ⟨i, j + 1, b + t, 0, p + t, rfl, by simp, by simp, rfl, rfl, HN2.out, below_drewN HB.out _⟩
          case measure => simp [intOf]; omega
        · exfalso
          exact HBT.out.elim h1 h2
end Go.Proofs.YtfoohocgdcgbcaaGreat

/- The contract of suffix. -/
namespace Go.Proofs.YtfoohocgdcgbcaaGreat
open Go.RowKit
set_option linter.unusedVariables false
set_option linter.unusedSimpArgs false
set_option maxRecDepth 100000 in
set_option maxHeartbeats 32000000 in
theorem suffix_any {L : Int} (v u : Value) (n m : List Trk.Clip) (lim : Int) (w : World) (h : Tk w v n) (h' : Tk w u m) (Vn : VT L n) (Vm : VT L m) (hL : L ≤ 140737488355328) (l0 : 0 ≤ lim) (l1 : lim ≤ Trk.total n) (l2 : lim ≤ Trk.total m) :
    Calls Tryz.prog 93 #[v, u, .int .i64 lim] w fun e w' => ∃ s, e = .returned (.int .i64 s) ∧ Trk.Suf n m lim s ∧ Below w.heap.size w w' := by
  have HT := Lib.hid h
  have HU := Lib.hid h'
  obtain ⟨ao, cap, rfl, hc1, hc2, -⟩ := h
  obtain ⟨bo, dap, rfl, hd1, hd2, -⟩ := h'
  have HGN := Lib.hid Vn.good
  have HGM := Lib.hid Vm.good
  have tn := Vn.t
  have tm := Vm.t
  have HSF := Lib.hid (fun (c d : Trk.Clip) (hc : c ∈ n) (hd : d ∈ m) (j k : Int) (j0 : -4294967296 ≤ j) (j1 : j ≤ 4294967296) (k0 : -4294967296 ≤ k) (k1 : k ≤ 4294967296) (w : World) =>
    sameframe_any c d j k w (Vn.v c hc).c.ch (Vm.v d hd).c.ch (frB_of (Vn.v c hc) hL j0 j1) (frB_of (Vm.v d hd) hL k0 k1))
  have HLN := Lib.hid (fun (c : Trk.Clip) (hc : c ∈ n) => And.intro (Vn.v c hc).l.1 (Vn.v c hc).l.2.1)
  have HLM := Lib.hid (fun (c : Trk.Clip) (hc : c ∈ m) => And.intro (Vm.v c hc).l.1 (Vm.v c hc).l.2.1)
  have nn := Vn.n
  have nm := Vm.n
  have lb : lim ≤ 2147483647 := by omega
  obtain ⟨N, hN⟩ : ∃ N, N = n.length := ⟨_, rfl⟩
  obtain ⟨M, hM⟩ : ∃ M, M = m.length := ⟨_, rfl⟩
  rw [← hN] at HT nn hc1 ⊢
  rw [← hM] at HU nm hd1 ⊢
  have HN := Lib.hid hN
  have HM := Lib.hid hM
  have TT := Lib.hid (And.intro l1 l2)
  have HL0 := Lib.hid l0
  have HZ := Lib.hid (show Trk.SufAt n m N M 0 0 0 by rw [hN, hM]; exact Trk.SufAt.zero Vn.good Vm.good)
  clear Vn Vm hN hM hc1 hc2 hd1 hd2 tn tm l1 l2
  go_enter Tryz.func93, Tryz.ntmps93
  go_upto_region 4 with fail
  go_loopw [7, 8, 9, 10, 11] (fun v7 v8 v9 v10 v11 wr => ∃ (i j : Nat) (b s p : Int), v7 = .int .i64 p ∧ v8 = .int .i64 ((i : Int) - 1) ∧ v9 = .int .i64 ((j : Int) - 1) ∧ v10 = .int .i64 b ∧ v11 = .int .i64 s ∧ Trk.SufAt n m i j b s p ∧ Below w.heap.size w wr) (fun _ i j _ _ _ => (intOf i + 1).toNat + (intOf j + 1).toNat)
  case atStart => exact ⟨N, M, 0, 0, 0, rfl, rfl, rfl, rfl, rfl, HZ.out, Below.refl _ _⟩
  case round =>
    obtain ⟨i, j, b, s, p, rfl, rfl, rfl, rfl, rfl, hp, hb⟩ := hrel
    have HP := Lib.hid hp
    have HB := Lib.hid hb
    have li : i ≤ N := by have := hp.a.il; have := HN.out; omega
    have lj : j ≤ M := by have := hp.c.il; have := HM.out; omega
    have p0 := hp.a.nonneg HGN.out
    have HDN := Lib.hid (fun hx => hp.done HGN.out HGM.out HL0.out TT.out.1 TT.out.2 hx)
    clear hp hb
    by_cases hpl : p < lim
    rotate_left
    · have d1 : decide (p < lim) = false := decide_eq_false hpl
      have HD := Lib.hid (HDN.out (.inl (by omega)))
      clear hpl
      go_upto_region 4 with fail
      go_quiet (fail)
      go_wp2_with fail
      all_goals
        go_ret
        exact ⟨min p lim, ret_int (by omega), HD.out, below_drewN HB.out _⟩
    have d1 : decide (p < lim) = true := decide_eq_true hpl
    cases i with
    | zero =>
      have HD := Lib.hid (HDN.out (.inr (.inl rfl)))
      have ei : (((0 : Nat) : Int) - 1) = -1 := by omega
      rw [ei]
      clear ei
      have d2 : decide ((0 : Int) ≤ -1) = false := rfl
      go_upto_region 4 with fail
      go_quiet (fail)
      go_wp2_with fail
      all_goals
        go_ret
        exact ⟨min p lim, ret_int (by omega), HD.out, below_drewN HB.out _⟩
    | succ i =>
    cases j with
    | zero =>
      have HD := Lib.hid (HDN.out (.inr (.inr (.inl rfl))))
      have ei : (((0 : Nat) : Int) - 1) = -1 := by omega
      have ej : (((i + 1 : Nat) : Int) - 1) = (i : Int) := by omega
      rw [ei, ej]
      clear ei ej
      have d2 : decide ((0 : Int) ≤ (i : Int)) = true := decide_eq_true (by omega)
      have d3 : decide ((0 : Int) ≤ -1) = false := rfl
      go_upto_region 4 with fail
      go_quiet (fail)
      go_wp2_with fail
      all_goals
        go_ret
        exact ⟨min p lim, ret_int (by omega), HD.out, below_drewN HB.out _⟩
    | succ j =>
    have ei : (((i + 1 : Nat) : Int) - 1) = (i : Int) := by omega
    have ej : (((j + 1 : Nat) : Int) - 1) = (j : Int) := by omega
    rw [ei, ej]
    clear ei ej
    obtain ⟨c, hc⟩ : ∃ c, n[i]? = some c := ⟨_, List.getElem?_eq_getElem (by have := HN.out; omega)⟩
    obtain ⟨d, hd⟩ : ∃ d, m[j]? = some d := ⟨_, List.getElem?_eq_getElem (by have := HM.out; omega)⟩
    obtain ⟨ao', cap', e, _, _, hT⟩ := HT.out.below HB.out
    have e1 := HN.out
    simp only [Value.slice.injEq] at e
    obtain ⟨rfl, -, rfl⟩ := e
    obtain ⟨b1, o1, rfl, hA⟩ := hT i c hc
    obtain ⟨bo', dap', e, _, _, hU⟩ := HU.out.below HB.out
    simp only [Value.slice.injEq] at e
    obtain ⟨rfl, -, rfl⟩ := e
    obtain ⟨b2, o2, rfl, hA2⟩ := hU j d hd
    have HA := Lib.hid hA
    have HA2 := Lib.hid hA2
    have HQ := Lib.hid (And.intro hc hd)
    have cl := HLN.out c (List.mem_of_getElem? hc)
    have dl := HLM.out d (List.mem_of_getElem? hd)
    have b0 := HP.out.a.b0
    have b01 := HP.out.a.b1 i c rfl hc
    have s0 := HP.out.c.b0
    have s01 := HP.out.c.b1 j d rfl hd
    have HSC := Lib.hid (HSF.out c d (List.mem_of_getElem? hc) (List.mem_of_getElem? hd) (c.len - 1 - b) (d.len - 1 - s) (by omega) (by omega) (by omega) (by omega))
    unfold clipV at HSC
    clear hT hU hA hA2 hc hd e1
    obtain ⟨C, hC⟩ : ∃ C, C = (clipC c).toArray := ⟨_, rfl⟩
    obtain ⟨D, hD⟩ : ∃ D, D = (clipC d).toArray := ⟨_, rfl⟩
    rw [← hC, ← hD] at HSC
    have HC := Lib.hid hC
    have HD := Lib.hid hD
    clear hC hD
    have i1 : (i : Int) < (N : Int) := by omega
    have j1 : (j : Int) < (M : Int) := by omega
    have d2 : decide ((0 : Int) ≤ (i : Int)) = true := decide_eq_true (by omega)
    have d3 : decide ((0 : Int) ≤ (j : Int)) = true := decide_eq_true (by omega)
    go_upto_region 4 with fail
    refine Plan.wp_region_plan (fun w' => CA w' b1 (o1 + i * 22) c ∧ CA w' b2 (o2 + j * 22) d) (([0, 1, 2, 3, 4, 5, 6, 7, 8, 9, 10, 11, 12, 13, 14, 15, 16, 17, 18, 19, 20, 21, 22, 23, 24, 25, 26, 27, 28, 29, 30, 31, 32, 33, 34, 35].map (·, true)) ++ (([36].map (·, false)) ++ ([37].map (·, true)))) (by kernel_rfl) (by kernel_rfl) (by kernel_rfl) ⟨HA.out.below (Below.refl _ _).drew, HA2.out.below (Below.refl _ _).drew⟩ ?_
    refine' Plan.plan_seg _ [0, 1, 2, 3, 4, 5, 6, 7, 8, 9, 10, 11, 12, 13, 14, 15, 16, 17, 18, 19, 20, 21, 22, 23, 24, 25, 26, 27, 28, 29, 30, 31, 32, 33, 34, 35] (([36].map (·, false)) ++ ([37].map (·, true))) (by kernel_rfl) (by kernel_rfl) rfl (by exact ⟨HA.out.below (Below.refl _ _).drew, HA2.out.below (Below.refl _ _).drew⟩) (fun wx hS => ?_) ?_
    rotate_left
    · obtain ⟨S1, S2⟩ := hS
      have HS1 := Lib.hid S1
      have HS2 := Lib.hid S2
      have x0 := S1.k0
      have y0 := S2.k0
      clear S1 S2
      go_light
      iterate 15 (apply Plan.seg_pick; rfl; intro K hK; go_wp)
      (apply Plan.seg_pick; rfl; intro K hK)
      go_guarded
      refine wp_load_mid 48 _ rfl b1 (o1 + i * 22) rfl (clipC c) _ HS1.out.range Tryz.underlying48 rfl (by kernel_rfl) ?_
      rw [← HC.out]
      go_wp
      iterate 11 (apply Plan.seg_pick; rfl; intro K hK; go_wp)
      (apply Plan.seg_pick; rfl; intro K hK)
      go_guarded
      refine wp_load_mid 48 _ rfl b2 (o2 + j * 22) rfl (clipC d) _ HS2.out.range Tryz.underlying48 rfl (by kernel_rfl) ?_
      rw [← HD.out]
      go_wp
      iterate 8 (apply Plan.seg_pick; rfl; intro K hK; go_wp)
      exact Plan.seg_nil
    obtain ⟨w4, hw4⟩ : ∃ x, x = wr.drew := ⟨_, rfl⟩
    rw [← hw4]
    have hb : Below wr.heap.size wr w4 := by rw [hw4]; exact (Below.refl _ _).drew
    replace HA := Lib.hid (HA.out.below hb)
    replace HA2 := Lib.hid (HA2.out.below hb)
    replace HB := Lib.hid (HB.out.trans (hb.mono HB.out.size))
    clear hb hw4
    obtain ⟨r, hr⟩ : ∃ r, r = decide (Trk.one c (c.len - 1 - b) = Trk.one d (d.len - 1 - s)) := ⟨_, rfl⟩
    rw [← hr] at HSC
    have HR := Lib.hid hr
    clear hr
    refine Plan.plan_of_effect rfl (fun K hK => ?_)
    go_wp2_with fail
    refine (HSC.out _).mono ?_
    rintro e w5 ⟨rfl, hb⟩
    replace HA := Lib.hid (HA.out.below hb)
    replace HA2 := Lib.hid (HA2.out.below hb)
    replace HB := Lib.hid (HB.out.trans (hb.mono HB.out.size))
    clear hb HSC
    go_wp2_with fail
    refine ⟨⟨HA.out, HA2.out⟩, ?_⟩
    refine' Plan.plan_seg _ [37] [] (by kernel_rfl) (by kernel_rfl) rfl (by exact ⟨HA.out, HA2.out⟩) (fun wx hS => ?_) ?_
    rotate_left
    · clear hS
      go_light
      iterate 1 (apply Plan.seg_pick; rfl; intro K hK; go_wp)
      exact Plan.seg_nil
    refine Plan.plan_done ?_
    cases r with
    | false =>
      have HD := Lib.hid (HDN.out (.inr (.inr (.inr ⟨i, j, c, d, rfl, rfl, HQ.out.1, HQ.out.2, of_decide_eq_false HR.out.symm⟩))))
      go_wp2_with fail
      all_goals
        go_ret
        exact ⟨min p lim, ret_int (by omega), HD.out, HB.out⟩
    | true =>
      obtain ⟨t, ht⟩ : ∃ t, t = min (c.len - b) (d.len - s) := ⟨_, rfl⟩
      have HN2 := Lib.hid (HP.out.step HGN.out HGM.out HQ.out.1 HQ.out.2 (of_decide_eq_true HR.out.symm) ht)
      have x0 := HA.out.k0
      have y0 := HA2.out.k0
      have t1 : 1 ≤ t := by omega
      have t2 : t ≤ c.len - b := by omega
      have t3 : t ≤ d.len - s := by omega
      have HBT := Lib.hid (show b + t = c.len ∨ s + t = d.len by omega)
      obtain ⟨x, hx⟩ : ∃ x, x = c.len - b := ⟨_, rfl⟩
      obtain ⟨y, hy⟩ : ∃ y, y = d.len - s := ⟨_, rfl⟩
      have e1 : c.len - b = x := hx.symm
      have e2 : d.len - s = y := hy.symm
      have HM1 := Lib.hid (show (x ≤ y ∧ t = x) ∨ (y < x ∧ t = y) by omega)
      have x1 : x ≤ 2147483647 := by omega
      have y1 : y ≤ 2147483647 := by omega
      have x2 : 1 ≤ x := by omega
      have y2 : 1 ≤ y := by omega
      clear ht hx hy
      go_upto_region 5 with fail
      go_cut [12] from 57 to 98 (fun v12 wx => v12 = .int .i64 (min x y) ∧ ∃ k, wx = w5.drewN k)
      case first J K' h1 h2 =>
        go_quiet (fail)
        refine h2 _ _ (Met.intro (h1 _ _ ?_))
        (repeat apply Exists.intro)
        exact ⟨⟨rfl, _, rfl⟩, rfl⟩
      case rest =>
      obtain ⟨rfl, k5, rfl⟩ := hcut
      have hc1 : min x y = t := by have := HM1.out; omega
      rw [hc1]
      clear e1 e2 x1 x2 y1 y2 hc1
      by_cases h1 : b + t = c.len
      · have z1 : (b + t == c.len) = true := by simpa using h1
        by_cases h2 : s + t = d.len
        · have z2 : (s + t == d.len) = true := by simpa using h2
          have HN3 := HN2.out
          rw [if_pos h1, if_pos h2, if_pos h1, if_pos h2] at HN3
          replace HN2 := Lib.hid HN3
          clear HN3 h1 h2
          go_wp2_with fail
          go_roundw
          case rel => exact ⟨i, j, 0, 0, p + t, rfl, rfl, rfl, rfl, rfl, HN2.out, below_drewN HB.out _⟩
          case measure => simp [intOf] <;> omega
        · have z2 : (s + t == d.len) = false := by simpa using h2
          have HN3 := HN2.out
          rw [if_pos h1, if_neg h2, if_pos h1, if_neg h2] at HN3
          replace HN2 := Lib.hid HN3
          clear HN3 h1 h2
          go_wp2_with fail
          go_roundw
          case rel => exact ⟨i, j + 1, 0, s + t, p + t, rfl, rfl, by simp, rfl, rfl, HN2.out, below_drewN HB.out _⟩
          case measure => simp [intOf] <;> omega
      · have z1 : (b + t == c.len) = false := by simpa using h1
        by_cases h2 : s + t = d.len
        · have z2 : (s + t == d.len) = true := by simpa using h2
          have HN3 := HN2.out
          rw [if_neg h1, if_pos h2, if_neg h1, if_pos h2] at HN3
          replace HN2 := Lib.hid HN3
          clear HN3 h1 h2
          go_wp2_with fail
          go_roundw
          case rel => exact ⟨i + 1, j, b + t, 0, p + t, rfl, by simp, rfl, rfl, rfl, HN2.out, below_drewN HB.out _⟩
          case measure => simp [intOf] <;> omega
        · exfalso
          exact HBT.out.elim h1 h2
end Go.Proofs.YtfoohocgdcgbcaaGreat

/- What a difference says of the frames; pieces put together again. -/

namespace Go.Trk
set_option linter.unusedVariables false

theorem Diff.fr {n m x : List Clip} {p q : Int} (h : Diff n m p q x) (gn : GoodL n) (gm : GoodL m) {i : Int} (hi : 0 ≤ i) :
    fr m i = if i < p then fr n i else if i < p + total x then fr x (i - p) else fr n (i - (p + total x) + q) := by
  obtain ⟨h0, h1, h2, h3, h4⟩ := h.le
  have hc := h.cut gm
  have ht := hc.t
  by_cases c1 : i < p
  · rw [if_pos c1]; exact (h.pre.f i hi c1).symm
  rw [if_neg c1]
  by_cases c2 : i < p + total x
  · rw [if_pos c2]
    have := hc.f (i - p) (by omega) (by omega)
    rw [this]; congr 1; omega
  rw [if_neg c2]
  by_cases c3 : i < total m
  · have := h.suf.f (total m - 1 - i) (by omega) (by omega)
    rw [show total m - 1 - (total m - 1 - i) = i by omega] at this
    rw [← this]; congr 1; omega
  · rw [fr_beyond gm (by omega), fr_beyond gn (by omega)]
theorem Diff.total {n m x : List Clip} {p q : Int} (h : Diff n m p q x) (gm : GoodL m) : total x = total m - (total n - q) - p := by
  have := (h.cut gm).t
  omega
theorem Diff.good {n m x : List Clip} {p q : Int} (h : Diff n m p q x) (gm : GoodL m) : GoodL x := (h.cut gm).g
/-- A piece of a packed track has no more clips than the track. -/
theorem cut_len {l : List Clip} {a b : Int} (g : GoodL l) (h0 : 0 ≤ a) (h1 : a ≤ b) (h2 : b ≤ total l) : (cut l a b).length ≤ l.length :=
  Nat.le_trans (pk_of (cutRaw_spec (l := l) (f := a) (n := b - a) g h0 (by omega)).1).n (cutRaw_len2 g h0 (by omega))
theorem Diff.len {n m x : List Clip} {p q : Int} (h : Diff n m p q x) (gm : GoodL m) : x.length ≤ m.length := by
  obtain ⟨h0, h1, h2, h3, h4⟩ := h.le
  rw [h.x]
  split
  · simp
  · exact cut_len gm h0 h3 (by omega)
theorem Diff.vl {L : Int} {n m x : List Clip} {p q : Int} (h : Diff n m p q x) (v : VL L m) (ht : Trk.total m ≤ 2147483647) : VL L x := by
  obtain ⟨h0, h1, h2, h3, h4⟩ := h.le
  rw [h.x]
  split
  · exact VL.nil
  · exact cut_vl v h0 h3 (by omega)
/-- Frames that are all those of a packed track make this track. -/
theorem pk_id {l m : List Clip} (gl : GoodL l) (gm : GoodL m) (pm : Pk m) (ht : total l = total m) (hf : ∀ i, 0 ≤ i → i < total m → fr l i = fr m i) : pk l = m := by
  have h := pk_of gl
  have h1 := h.s.t
  refine pk_unique h.g gm h.p pm (by omega) fun i h0 h2 => ?_
  rw [h.s.f i h0]
  exact hf i h0 (by omega)
/-- What stands before and behind a difference, put together with it, is the other track. -/
theorem Diff.back {n m x : List Clip} {p q : Int} (h : Diff n m p q x) (gn : GoodL n) (gm : GoodL m) (pm : Pk m) :
    pk (Trk.cut n 0 p ++ x) = Trk.cut m 0 (p + Trk.total x) ∧ pk (Trk.cut m 0 (p + Trk.total x) ++ Trk.cut n q (Trk.total n)) = m := by
  obtain ⟨h0, h1, h2, h3, h4⟩ := h.le
  have ht := h.total gm
  have gx := h.good gm
  have hx0 := total_nonneg gx
  have A := cut_of gn (Int.le_refl 0) h0
  have At := A.t
  have U := cut_of gm (Int.le_refl 0) (show 0 ≤ p + Trk.total x by omega)
  have Ut := U.t
  have R := cut_of gn (show 0 ≤ q by omega) h2
  have Rt := R.t
  constructor
  · have hp := pk_of (A.g.append gx)
    refine CutOf.eq ⟨hp.g, hp.p, ?_, fun i i0 i1 => ?_⟩ gm (Int.le_refl 0) (by omega)
    · rw [hp.s.t, total_append]; omega
    · rw [hp.s.f i i0, Int.zero_add, h.fr gn gm i0]
      by_cases c1 : i < p
      · rw [if_pos c1, fr_append_lt _ A.g i0 (by omega), A.f i i0 (by omega), Int.zero_add]
      · rw [if_neg c1, if_pos (by omega), fr_append_ge _ A.g (by omega)]
        congr 1; omega
  · refine pk_id (U.g.append R.g) gm pm (by rw [total_append]; omega) fun i i0 i1 => ?_
    by_cases c1 : i < p + Trk.total x
    · rw [fr_append_lt _ U.g i0 (by omega), U.f i i0 (by omega), Int.zero_add]
    · rw [fr_append_ge _ U.g (by omega), h.fr gn gm i0, if_neg (by omega), if_neg c1, R.f (i - Trk.total (Trk.cut m 0 (p + Trk.total x))) (by omega) (by omega)]
      congr 1; omega
end Go.Trk
