/- Texts of this claim joined: TL TM MA MB MC WA WB PlanD WC. -/
import Derived.Handy
import Derived.OwnWalk
import Derived.Deep.Cut
import Derived.Test.YtfoohocgdcgbcaaGreatSd00
import Derived.Test.YtfoohocgdcgbcaaGreatSd01
import Derived.Test.YtfoohocgdcgbcaaGreatSd03
import Derived.Test.YtfoohocgdcgbcaaGreatSd06
import Derived.Test.YtfoohocgdcgbcaaGreatSd08
import Derived.Test.YtfoohocgdcgbcaaGreatSd09
set_option linter.unusedVariables false
set_option linter.unusedSimpArgs false

/- The frames at the beginning and at the end of two tracks that agree: what a walk along both lists of clips knows. -/
namespace Go.Trk
set_option linter.unusedVariables false

theorem fr_at : ∀ {l : List Clip} {i : Nat} {c : Clip} {x : Int}, GoodL l → l[i]? = some c → 0 ≤ x → x < c.len → fr l (total (l.take i) + x) = one c x
  | [], i, c, x, g, h, _, _ => by simp at h
  | d :: l, 0, c, x, g, h, h0, h1 => by
    simp only [List.getElem?_cons_zero, Option.some.injEq] at h
    subst h
    show fr (d :: l) (0 + x) = _
    rw [Int.zero_add, fr_lt h1]
  | d :: l, i + 1, c, x, g, h, h0, h1 => by
    simp only [List.getElem?_cons_succ] at h
    have hd := g.head.l
    have ht : 0 ≤ total (l.take i) := total_nonneg fun y hy => g.tail y (List.mem_of_mem_take hy)
    show fr (d :: l) (d.len + total (l.take i) + x) = _
    rw [fr_ge (by omega), show d.len + total (l.take i) + x - d.len = total (l.take i) + x by omega]
    exact fr_at g.tail h h0 h1
theorem one_step {c d : Clip} {a b : Int} (hc : GoodC c) (hd : GoodC d) (h : one c a = one d b) (t : Int) : one c (a + t) = one d (b + t) := by
  have e1 : one (one c a) t = one c (a + t) := by
    show one (withLen (shift c a) 1) t = _
    rw [one_withLen, one_shift hc.a hc.b]
  have e2 : one (one d b) t = one d (b + t) := by
    show one (withLen (shift d b) 1) t = _
    rw [one_withLen, one_shift hd.a hd.b]
  rw [← e1, ← e2, h]
theorem total_take {l : List Clip} {i : Nat} {c : Clip} (h : l[i]? = some c) : total (l.take (i + 1)) = total (l.take i) + c.len := by
  have e : l.take (i + 1) = l.take i ++ [c] := by rw [List.take_add_one, h]; rfl
  rw [e, total_append]
  show _ + (c.len + 0) = _
  omega
theorem total_drop {l : List Clip} {i : Nat} {c : Clip} (h : l[i]? = some c) : total (l.drop i) = c.len + total (l.drop (i + 1)) := by
  have hlt := (List.getElem?_eq_some_iff.1 h).1
  rw [List.drop_eq_getElem_cons hlt, (List.getElem?_eq_some_iff.1 h).2]
  rfl
theorem take_drop_total (l : List Clip) (i : Nat) : total (l.take i) + total (l.drop i) = total l := by
  rw [← total_append, List.take_append_drop]
theorem GoodL.take {l : List Clip} (g : GoodL l) (i : Nat) : GoodL (l.take i) := fun y hy => g y (List.mem_of_mem_take hy)
theorem GoodL.drop {l : List Clip} (g : GoodL l) (i : Nat) : GoodL (l.drop i) := fun y hy => g y (List.mem_of_mem_drop hy)
theorem total_take_le {l : List Clip} (g : GoodL l) (i : Nat) : total (l.take i) ≤ total l := by
  have h1 := take_drop_total l i
  have h2 := total_nonneg (g.drop i)
  omega
/-- Frames of one clip, seen from the track's end. -/
theorem fr_end {l : List Clip} {i : Nat} {c : Clip} {y : Int} (g : GoodL l) (h : l[i]? = some c) (h0 : 0 ≤ y) (h1 : y < c.len) : fr l (total l - 1 - (total (l.drop (i + 1)) + y)) = one c (c.len - 1 - y) := by
  have e1 := take_drop_total l i
  have e2 := total_drop h
  rw [show total l - 1 - (total (l.drop (i + 1)) + y) = total (l.take i) + (c.len - 1 - y) by omega]
  exact fr_at g h (by omega) (by omega)
/-- The first p frames agree, and no more. -/
structure Pre (n m : List Clip) (p : Int) : Prop where
  h0 : 0 ≤ p
  h1 : p ≤ total n
  h2 : p ≤ total m
  f : ∀ i, 0 ≤ i → i < p → fr n i = fr m i
  x : p < total n → p < total m → fr n p ≠ fr m p
/-- The last s frames agree, and no more up to lim. -/
structure Suf (n m : List Clip) (lim s : Int) : Prop where
  h0 : 0 ≤ s
  h1 : s ≤ lim
  f : ∀ i, 0 ≤ i → i < s → fr n (total n - 1 - i) = fr m (total m - 1 - i)
  x : s < lim → fr n (total n - 1 - s) ≠ fr m (total m - 1 - s)
/-- The place of frame p: frame b of clip i, or the end. -/
structure At (n : List Clip) (i : Nat) (b p : Int) : Prop where
  e : p = total (n.take i) + b
  b0 : 0 ≤ b
  il : i ≤ n.length
  b1 : ∀ c, n[i]? = some c → b < c.len
  z : i = n.length → b = 0
theorem At.zero {n : List Clip} (g : GoodL n) : At n 0 0 0 :=
  ⟨rfl, Int.le_refl 0, Nat.zero_le _, fun c hc => by have := (g c (List.mem_of_getElem? hc)).l; omega, fun _ => rfl⟩
theorem At.le {n : List Clip} {i : Nat} {b p : Int} (g : GoodL n) (h : At n i b p) : 0 ≤ p ∧ p ≤ total n := by
  have h0 := total_nonneg (g.take i)
  have h1 := h.e
  have h2 := h.b0
  refine ⟨by omega, ?_⟩
  rcases Nat.lt_or_ge i n.length with hi | hi
  · obtain ⟨c, hc⟩ : ∃ c, n[i]? = some c := ⟨_, List.getElem?_eq_getElem hi⟩
    have := h.b1 c hc
    have h3 := total_take hc
    have h4 := total_take_le g (i + 1)
    omega
  · have := h.z (by have := h.il; omega)
    have h4 := total_take_le g i
    omega
theorem At.end_ {n : List Clip} {b p : Int} (h : At n n.length b p) : p = total n := by
  have h1 := h.e
  have h2 := h.z rfl
  rw [List.take_length] at h1
  omega
theorem At.fr {n : List Clip} {i : Nat} {b p : Int} (g : GoodL n) (h : At n i b p) {c : Clip} (hc : n[i]? = some c) : fr n p = one c b := by
  rw [h.e]; exact fr_at g hc h.b0 (h.b1 c hc)
theorem At.next {n : List Clip} {i : Nat} {b p : Int} (g : GoodL n) (h : At n i b p) {c : Clip} (hc : n[i]? = some c) : At n (i + 1) 0 (p + (c.len - b)) := by
  refine ⟨by rw [total_take hc, h.e]; omega, Int.le_refl 0, (List.getElem?_eq_some_iff.1 hc).1, fun d hd => ?_, fun _ => rfl⟩
  have := (g d (List.mem_of_getElem? hd)).l
  omega
theorem At.on {n : List Clip} {i : Nat} {b p t : Int} (h : At n i b p) {c : Clip} (hc : n[i]? = some c) (h0 : 0 ≤ t) (h1 : b + t < c.len) : At n i (b + t) (p + t) := by
  refine ⟨by rw [h.e]; omega, by have := h.b0; omega, h.il, fun d hd => ?_, fun e => ?_⟩
  · rw [hc] at hd; cases hd; exact h1
  · have := (List.getElem?_eq_some_iff.1 hc).1; omega
/-- The frames compared so far agree. -/
structure PreAt (n m : List Clip) (i j : Nat) (b s p : Int) : Prop where
  a : At n i b p
  c : At m j s p
  f : ∀ k, 0 ≤ k → k < p → fr n k = fr m k
theorem PreAt.zero {n m : List Clip} (g : GoodL n) (k : GoodL m) : PreAt n m 0 0 0 0 0 := ⟨At.zero g, At.zero k, fun k h h2 => by omega⟩
theorem PreAt.more {n m : List Clip} {i j : Nat} {b s p : Int} (gn : GoodL n) (gm : GoodL m) (h : PreAt n m i j b s p) {c d : Clip} (hc : n[i]? = some c) (hd : m[j]? = some d) (e : one c b = one d s) {t : Int} (t1 : t ≤ c.len - b) (t2 : t ≤ d.len - s) :
    ∀ k, 0 ≤ k → k < p + t → fr n k = fr m k := by
  intro k k0 k1
  by_cases hk : k < p
  · exact h.f k k0 hk
  · have gc := gn c (List.mem_of_getElem? hc)
    have gd := gm d (List.mem_of_getElem? hd)
    have e1 := fr_at (x := b + (k - p)) gn hc (by have := h.a.b0; omega) (by omega)
    have e2 := fr_at (x := s + (k - p)) gm hd (by have := h.c.b0; omega) (by omega)
    rw [show total (n.take i) + (b + (k - p)) = k by have := h.a.e; omega] at e1
    rw [show total (m.take j) + (s + (k - p)) = k by have := h.c.e; omega] at e2
    rw [e1, e2, one_step gc gd e (k - p)]
theorem PreAt.step {n m : List Clip} {i j : Nat} {b s p : Int} (gn : GoodL n) (gm : GoodL m) (h : PreAt n m i j b s p) {c d : Clip} (hc : n[i]? = some c) (hd : m[j]? = some d) (e : one c b = one d s) {t : Int} (ht : t = min (c.len - b) (d.len - s)) :
    PreAt n m (if b + t = c.len then i + 1 else i) (if s + t = d.len then j + 1 else j) (if b + t = c.len then 0 else b + t) (if s + t = d.len then 0 else s + t) (p + t) := by
  have b1 := h.a.b1 c hc
  have s1 := h.c.b1 d hd
  refine ⟨?_, ?_, h.more gn gm hc hd e (by omega) (by omega)⟩
  · split
    · have := h.a.next gn hc
      rw [show c.len - b = t by omega] at this
      exact this
    · exact h.a.on hc (by omega) (by omega)
  · split
    · have := h.c.next gm hd
      rw [show d.len - s = t by omega] at this
      exact this
    · exact h.c.on hd (by omega) (by omega)
theorem PreAt.done {n m : List Clip} {i j : Nat} {b s p : Int} (gn : GoodL n) (gm : GoodL m) (h : PreAt n m i j b s p) (hx : i = n.length ∨ j = m.length ∨ ∃ c d, n[i]? = some c ∧ m[j]? = some d ∧ one c b ≠ one d s) : Pre n m p := by
  have h1 := h.a.le gn
  have h2 := h.c.le gm
  refine ⟨h1.1, h1.2, h2.2, h.f, fun k1 k2 => ?_⟩
  rcases hx with rfl | rfl | ⟨c, d, hc, hd, hne⟩
  · have := h.a.end_; omega
  · have := h.c.end_; omega
  · rw [h.a.fr gn hc, h.c.fr gm hd]; exact hne
/-- The place of frame p, counted from the end: i clips are left, b frames of the last of them are behind. -/
structure Af (n : List Clip) (i : Nat) (b p : Int) : Prop where
  e : p = total (n.drop i) + b
  b0 : 0 ≤ b
  il : i ≤ n.length
  b1 : ∀ k c, i = k + 1 → n[k]? = some c → b < c.len
  z : i = 0 → b = 0
theorem Af.zero {n : List Clip} (g : GoodL n) : Af n n.length 0 0 :=
  ⟨by rw [List.drop_length]; rfl, Int.le_refl 0, Nat.le_refl _, fun k c _ hc => by have := (g c (List.mem_of_getElem? hc)).l; omega, fun _ => rfl⟩
theorem Af.end_ {n : List Clip} {b p : Int} (h : Af n 0 b p) : p = total n := by
  have h1 := h.e
  have h2 := h.z rfl
  rw [List.drop_zero] at h1
  omega
theorem Af.nonneg {n : List Clip} {i : Nat} {b p : Int} (g : GoodL n) (h : Af n i b p) : 0 ≤ p := by
  have h0 := total_nonneg (g.drop i)
  have h1 := h.e
  have h2 := h.b0
  omega
theorem Af.fr {n : List Clip} {k : Nat} {b p : Int} (g : GoodL n) (h : Af n (k + 1) b p) {c : Clip} (hc : n[k]? = some c) : fr n (total n - 1 - p) = one c (c.len - 1 - b) := by
  rw [h.e]; exact fr_end g hc h.b0 (h.b1 k c rfl hc)
theorem Af.next {n : List Clip} {k : Nat} {b p : Int} (g : GoodL n) (h : Af n (k + 1) b p) {c : Clip} (hc : n[k]? = some c) : Af n k 0 (p + (c.len - b)) := by
  refine ⟨by rw [total_drop hc, h.e]; omega, Int.le_refl 0, by have := h.il; omega, fun i d _ hd => ?_, fun _ => rfl⟩
  have := (g d (List.mem_of_getElem? hd)).l
  omega
theorem Af.on {n : List Clip} {k : Nat} {b p t : Int} (h : Af n (k + 1) b p) {c : Clip} (hc : n[k]? = some c) (h0 : 0 ≤ t) (h1 : b + t < c.len) : Af n (k + 1) (b + t) (p + t) := by
  refine ⟨by rw [h.e]; omega, by have := h.b0; omega, h.il, fun i d e hd => ?_, fun e => by omega⟩
  have : i = k := by omega
  subst this
  rw [hc] at hd; cases hd; exact h1
structure SufAt (n m : List Clip) (i j : Nat) (b s p : Int) : Prop where
  a : Af n i b p
  c : Af m j s p
  f : ∀ k, 0 ≤ k → k < p → fr n (total n - 1 - k) = fr m (total m - 1 - k)
theorem SufAt.zero {n m : List Clip} (g : GoodL n) (k : GoodL m) : SufAt n m n.length m.length 0 0 0 := ⟨Af.zero g, Af.zero k, fun k h h2 => by omega⟩
theorem SufAt.more {n m : List Clip} {i j : Nat} {b s p : Int} (gn : GoodL n) (gm : GoodL m) (h : SufAt n m (i + 1) (j + 1) b s p) {c d : Clip} (hc : n[i]? = some c) (hd : m[j]? = some d) (e : one c (c.len - 1 - b) = one d (d.len - 1 - s)) {t : Int} (t1 : t ≤ c.len - b) (t2 : t ≤ d.len - s) :
    ∀ k, 0 ≤ k → k < p + t → fr n (total n - 1 - k) = fr m (total m - 1 - k) := by
  intro k k0 k1
  by_cases hk : k < p
  · exact h.f k k0 hk
  · have gc := gn c (List.mem_of_getElem? hc)
    have gd := gm d (List.mem_of_getElem? hd)
    have e1 := fr_end (y := b + (k - p)) gn hc (by have := h.a.b0; omega) (by omega)
    have e2 := fr_end (y := s + (k - p)) gm hd (by have := h.c.b0; omega) (by omega)
    rw [show total (n.drop (i + 1)) + (b + (k - p)) = k by have := h.a.e; omega] at e1
    rw [show total (m.drop (j + 1)) + (s + (k - p)) = k by have := h.c.e; omega] at e2
    have e3 := one_step gc gd e (p - k)
    rw [show c.len - 1 - b + (p - k) = c.len - 1 - (b + (k - p)) by omega, show d.len - 1 - s + (p - k) = d.len - 1 - (s + (k - p)) by omega] at e3
    rw [e1, e2, e3]
theorem SufAt.step {n m : List Clip} {i j : Nat} {b s p : Int} (gn : GoodL n) (gm : GoodL m) (h : SufAt n m (i + 1) (j + 1) b s p) {c d : Clip} (hc : n[i]? = some c) (hd : m[j]? = some d) (e : one c (c.len - 1 - b) = one d (d.len - 1 - s)) {t : Int} (ht : t = min (c.len - b) (d.len - s)) :
    SufAt n m (if b + t = c.len then i else i + 1) (if s + t = d.len then j else j + 1) (if b + t = c.len then 0 else b + t) (if s + t = d.len then 0 else s + t) (p + t) := by
  have b1 := h.a.b1 i c rfl hc
  have s1 := h.c.b1 j d rfl hd
  refine ⟨?_, ?_, h.more gn gm hc hd e (by omega) (by omega)⟩
  · split
    · have := h.a.next gn hc
      rw [show c.len - b = t by omega] at this
      exact this
    · exact h.a.on hc (by omega) (by omega)
  · split
    · have := h.c.next gm hd
      rw [show d.len - s = t by omega] at this
      exact this
    · exact h.c.on hd (by omega) (by omega)
theorem SufAt.done {n m : List Clip} {i j : Nat} {b s p lim : Int} (gn : GoodL n) (gm : GoodL m) (h : SufAt n m i j b s p) (l0 : 0 ≤ lim) (l1 : lim ≤ total n) (l2 : lim ≤ total m)
    (hx : lim ≤ p ∨ i = 0 ∨ j = 0 ∨ ∃ i' j' c d, i = i' + 1 ∧ j = j' + 1 ∧ n[i']? = some c ∧ m[j']? = some d ∧ one c (c.len - 1 - b) ≠ one d (d.len - 1 - s)) : Suf n m lim (min p lim) := by
  have h0 := h.a.nonneg gn
  refine ⟨by omega, by omega, fun k k0 k1 => h.f k k0 (by omega), fun hl => ?_⟩
  rcases hx with hx | rfl | rfl | ⟨i', j', c, d, rfl, rfl, hc, hd, hne⟩
  · omega
  · have := h.a.end_; omega
  · have := h.c.end_; omega
  · rw [show min p lim = p by omega, h.a.fr gn hc, h.c.fr gm hd]; exact hne
/-- What Change and Merge know of two tracks: x stands in m where n has the frames from p to q-1. -/
structure Diff (n m : List Clip) (p q : Int) (x : List Clip) : Prop where
  pre : Pre n m p
  suf : Suf n m (min (total n) (total m) - p) (total n - q)
  x : x = if p = total m - (total n - q) then [] else cut m p (total m - (total n - q))
theorem Diff.le {n m x : List Clip} {p q : Int} (h : Diff n m p q x) : 0 ≤ p ∧ p ≤ q ∧ q ≤ total n ∧ p ≤ total m - (total n - q) ∧ 0 ≤ total n - q := by
  have h1 := h.pre.h0
  have h2 := h.suf.h0
  have h3 := h.suf.h1
  refine ⟨h1, ?_, ?_, ?_, h2⟩ <;> omega
theorem Diff.cut {n m x : List Clip} {p q : Int} (h : Diff n m p q x) (g : GoodL m) : CutOf m p (total m - (total n - q)) x := by
  obtain ⟨h0, h1, h2, h3, h4⟩ := h.le
  rw [h.x]
  split
  · rename_i e
    rw [← e]
    exact ⟨GoodL.nil, trivial, by show (0 : Int) = _; omega, fun i h0 h1 => by omega⟩
  · exact cut_of g h0 h3
end Go.Trk

/- The position of a frame in its source, as it is computed over the common base. -/
namespace Go.Trk
set_option linter.unusedVariables false

theorem base_nat {A D : Nat} (hA : 0 < A) (hD : 0 < D) : A / A.gcd D * D = A * (D / A.gcd D) ∧ A / A.gcd D * D / A = D / A.gcd D ∧ A / A.gcd D * D / D = A / A.gcd D ∧ 0 < A / A.gcd D * D := by
  have g0 : 0 < A.gcd D := Nat.gcd_pos_of_pos_left _ hA
  have ga : A.gcd D ∣ A := Nat.gcd_dvd_left _ _
  have gd : A.gcd D ∣ D := Nat.gcd_dvd_right _ _
  have e : A / A.gcd D * D = A * (D / A.gcd D) := by
    rw [← Nat.mul_div_assoc _ gd, Nat.div_mul_right_comm ga]
  refine ⟨e, ?_, Nat.mul_div_cancel _ hD, Nat.mul_pos (Nat.div_pos (Nat.le_of_dvd hA ga) g0) hD⟩
  rw [e]
  exact Nat.mul_div_cancel_left _ hA
/-- The base of a source's numbers. -/
def baseN (s : Src) : Nat := s.ad.toNat / s.ad.toNat.gcd s.sd.toNat * s.sd.toNat
/-- The number of parts of the base where frame k lies. -/
def posN (s : Src) (k : Int) : Int := s.an * ((s.sd.toNat / s.ad.toNat.gcd s.sd.toNat : Nat) : Int) + k * s.sn * ((s.ad.toNat / s.ad.toNat.gcd s.sd.toNat : Nat) : Int)
theorem pos_rat {s : Src} (h : Good s) (k : Int) : s.at' + k * s.sp = mkRat (posN s k) (baseN s) := by
  obtain ⟨A, hA⟩ := Int.eq_ofNat_of_zero_le (show 0 ≤ s.ad by have := h.a0; omega)
  obtain ⟨D, hD⟩ := Int.eq_ofNat_of_zero_le (show 0 ≤ s.sd by have := h.s0; omega)
  have a0 : 0 < A := by have := h.a0; omega
  have d0 : 0 < D := by have := h.s0; omega
  obtain ⟨b1, b2, b3, b4⟩ := base_nat a0 d0
  have g0 : 0 < A.gcd D := Nat.gcd_pos_of_pos_left _ a0
  have ga : A / A.gcd D * A.gcd D = A := Nat.div_mul_cancel (Nat.gcd_dvd_left _ _)
  have gd : D / A.gcd D * A.gcd D = D := Nat.div_mul_cancel (Nat.gcd_dvd_right _ _)
  unfold Src.at' Src.sp posN baseN
  rw [hA, hD, Int.toNat_natCast, Int.toNat_natCast]
  obtain ⟨g, eg⟩ : ∃ g, g = A.gcd D := ⟨_, rfl⟩
  rw [← eg] at g0 ga gd ⊢
  obtain ⟨a, ea⟩ : ∃ a, a = A / g := ⟨_, rfl⟩
  obtain ⟨d, ed⟩ : ∃ d, d = D / g := ⟨_, rfl⟩
  rw [← ea, ← ed]
  rw [← ea] at ga
  rw [← ed] at gd
  have ek : (k : Rat) = mkRat k 1 := by rw [Rat.mkRat_one]
  rw [ek, Rat.mkRat_mul_mkRat, Nat.one_mul, Rat.mkRat_add_mkRat _ _ (by omega) (by omega)]
  have e1 : s.an * (D : Int) + k * s.sn * (A : Int) = (s.an * (d : Int) + k * s.sn * (a : Int)) * (g : Int) := by
    have e1 : (D : Int) = (d : Int) * (g : Int) := by exact_mod_cast gd.symm
    have e2 : (A : Int) = (a : Int) * (g : Int) := by exact_mod_cast ga.symm
    rw [e1, e2, Int.add_mul, ← Int.mul_assoc, ← Int.mul_assoc]
  have e2 : A * D = (a * D) * g := by
    rw [← ga, Nat.mul_right_comm]
  rw [e1, e2]
  exact Rat.mkRat_mul_right (by omega)
theorem base_pos {s : Src} (h : Good s) : 0 < baseN s := by
  have a0 := h.a0
  have d0 := h.s0
  exact (base_nat (A := s.ad.toNat) (D := s.sd.toNat) (by omega) (by omega)).2.2.2
theorem moved_num {s : Src} (h : Good s) (k : Int) : (moved s k).an = posN s k / (((posN s k).natAbs.gcd (baseN s) : Nat) : Int) ∧ (moved s k).ad = (baseN s : Int) / (((posN s k).natAbs.gcd (baseN s) : Nat) : Int) := by
  have em : moved s k = { s with an := (s.at' + k * s.sp).num, ad := (s.at' + k * s.sp).den } := by unfold moved; rw [if_neg h.ne]
  have hb := base_pos h
  rw [em, pos_rat h k]
  refine ⟨?_, ?_⟩
  · show (mkRat _ _).num = _
    rw [Rat.num_mkRat, if_neg (by omega), Nat.gcd_comm]
  · show ((mkRat _ _).den : Int) = _
    rw [Rat.den_mkRat, if_neg (by omega), Nat.gcd_comm, Int.natCast_ediv]
theorem moved_name (s : Src) (n : Int) : (moved s n).name = s.name := by unfold moved; split <;> rfl
theorem moved_sn (s : Src) (n : Int) : (moved s n).sn = s.sn ∧ (moved s n).sd = s.sd ∧ (moved s n).smooth = s.smooth := by unfold moved; split <;> exact ⟨rfl, rfl, rfl⟩
/-- Two frames of two sources are the same. -/
theorem moved_eq {a b : Src} (j k : Int) : moved a j = moved b k ↔ ((moved a j).an = (moved b k).an ∧ (moved a j).ad = (moved b k).ad) ∧ a.kind = b.kind ∧ a.name = b.name ∧ a.sn = b.sn ∧ a.sd = b.sd ∧ a.smooth = b.smooth := by
  constructor
  · intro h
    refine ⟨⟨by rw [h], by rw [h]⟩, ?_, ?_, ?_, ?_, ?_⟩
    · have := congrArg Src.kind h; rwa [moved_kind, moved_kind] at this
    · have := congrArg Src.name h; rwa [moved_name, moved_name] at this
    · have := congrArg Src.sn h; rwa [(moved_sn a j).1, (moved_sn b k).1] at this
    · have := congrArg Src.sd h; rwa [(moved_sn a j).2.1, (moved_sn b k).2.1] at this
    · have := congrArg Src.smooth h; rwa [(moved_sn a j).2.2, (moved_sn b k).2.2] at this
  · rintro ⟨⟨h1, h2⟩, h3, h4, h5, h6, h7⟩
    refine Src.ext2 ?_ ?_ h1 h2 ?_ ?_ ?_
    · rw [moved_kind, moved_kind, h3]
    · rw [moved_name, moved_name, h4]
    · rw [(moved_sn a j).1, (moved_sn b k).1, h5]
    · rw [(moved_sn a j).2.1, (moved_sn b k).2.1, h6]
    · rw [(moved_sn a j).2.2, (moved_sn b k).2.2, h7]
/-- Two frames are the same. -/
theorem one_eq {c d : Clip} (j k : Int) (hc : shares c.kind = false → c.off = 0) (hd : shares d.kind = false → d.off = 0) :
    one c j = one d k ↔ (c.kind = d.kind ∧ c.total = d.total ∧ c.param = d.param ∧ c.text = d.text ∧ c.gain = d.gain ∧ c.chan = d.chan) ∧ (shares c.kind = true → c.off + j = d.off + k) ∧ moved c.a j = moved d.a k ∧ moved c.b j = moved d.b k := by
  constructor
  · intro h
    have hk : (one c j).kind = (one d k).kind := by rw [h]
    have h1 : (one c j).total = (one d k).total := by rw [h]
    have h2 : (one c j).param = (one d k).param := by rw [h]
    have h3 : (one c j).text = (one d k).text := by rw [h]
    have h4 : (one c j).gain = (one d k).gain := by rw [h]
    have h5 : (one c j).chan = (one d k).chan := by rw [h]
    have h6 : (one c j).a = (one d k).a := by rw [h]
    have h7 : (one c j).b = (one d k).b := by rw [h]
    have ho : (one c j).off = (one d k).off := by rw [h]
    replace hk : c.kind = d.kind := hk
    refine ⟨⟨hk, h1, h2, h3, h4, h5⟩, fun hs => ?_, h6, h7⟩
    replace ho : (if shares c.kind = true then c.off + j else c.off) = (if shares d.kind = true then d.off + k else d.off) := ho
    rw [← hk, if_pos hs, if_pos hs] at ho
    exact ho
  · rintro ⟨⟨h1, h2, h3, h4, h5, h6⟩, ho, ha, hb⟩
    refine Clip.ext2 rfl h1 ha hb ?_ h2 h3 h4 h5 h6
    show (if shares c.kind = true then c.off + j else c.off) = (if shares d.kind = true then d.off + k else d.off)
    rw [← h1]
    by_cases hs : shares c.kind = true
    · rw [if_pos hs, if_pos hs]; exact ho hs
    · rw [if_neg hs, if_neg hs]
      have hs' : shares c.kind = false := by simpa using hs
      rw [hc hs', hd (by rw [← h1]; exact hs')]
theorem Okay.kind {s : Src} (h : Okay s) : s = black ↔ s.kind = 0 := by
  constructor
  · rintro rfl; rfl
  · intro hk
    rcases h with h | h
    · exact h
    · exact absurd hk h.k
end Go.Trk

/- The contracts of divisor and position. -/
namespace Go.Proofs.YtfoohocgdcgbcaaGreat
open Go.RowKit
set_option linter.unusedVariables false
set_option linter.unusedSimpArgs false
theorem gcd_tmod {a b : Int} (h : a ≠ 0) : (b.tmod a).natAbs.gcd a.natAbs = a.natAbs.gcd b.natAbs := by
  rw [Int.natAbs_tmod, Nat.gcd_rec a.natAbs b.natAbs]
theorem tmod_small {a b : Int} (h : a ≠ 0) : (b.tmod a).natAbs < a.natAbs := by
  rw [Int.natAbs_tmod]
  exact Nat.mod_lt _ (by omega)
set_option maxHeartbeats 2000000 in
theorem bdivisor_any (x y : Int) (w : World) (x0 : -4611686018427387904 ≤ x) (x1 : x ≤ 4611686018427387904) (y0 : -4611686018427387904 ≤ y) (y1 : y ≤ 4611686018427387904) :
    Calls Tryz.prog 179 #[.int .i64 x, .int .i64 y] w fun e w' => e = .returned (.int .i64 ((x.natAbs.gcd y.natAbs : Nat) : Int)) ∧ ∃ m, w' = w.drewN m := by
  obtain ⟨g, hg⟩ : ∃ g, g = x.natAbs.gcd y.natAbs := ⟨_, rfl⟩
  rw [← hg]
  replace hg := Lib.hid hg
  go_enter Tryz.func179, Tryz.ntmps179
  go_wp2
  go_loopw [0, 1] (fun i j wr => ∃ a b : Int, i = .int .i64 a ∧ j = .int .i64 b ∧ (-4611686018427387904 ≤ a ∧ a ≤ 4611686018427387904) ∧ (-4611686018427387904 ≤ b ∧ b ≤ 4611686018427387904) ∧ Hid (g = a.natAbs.gcd b.natAbs) ∧ ∃ m, wr = w.drewN m) (fun i j _ => (intOf i).natAbs)
  case atStart => exact ⟨x, y, rfl, rfl, ⟨x0, x1⟩, ⟨y0, y1⟩, hg, 0, rfl⟩
  case round =>
    obtain ⟨a, b, rfl, rfl, ⟨a0, a1⟩, ⟨b0, b1⟩, hG, m, rfl⟩ := hrel
    by_cases h0 : a = 0
    · subst h0
      go_wp2
      all_goals
        go_ret
        refine ⟨ret_int ?_, m, rfl⟩
        rw [hG.out]
        simp only [Int.natAbs_zero, Nat.gcd_zero_left]
        omega
    · have hm := tmod_small (b := b) h0
      have hG2 := Lib.hid (show g = (b.tmod a).natAbs.gcd a.natAbs by rw [hG.out, gcd_tmod h0])
      go_wp2
      go_roundw
      case rel => exact ⟨b.tmod a, a, rfl, rfl, ⟨by omega, by omega⟩, ⟨a0, a1⟩, hG2, m, rfl⟩
      case measure => exact hm
theorem results_rat {fn : Func} {tmps : Array Value} {w : World} {t : Tmp} {g : Nat} {n d : Int} (hr : fn.results = #[.cell t 38]) (ht : tmps.getD t undef = .pointer (some ⟨g, 0, none⟩)) (h0 : w.cell? ⟨g, 0, none⟩ = some (.int .i64 n)) (h1 : w.cell? ⟨g, 1, none⟩ = some (.int .i64 d)) :
    (results fn tmps).run Tryz.prog w = .ok (.agg #[.int .i64 n, .int .i64 d]) w := by
  have hc : w.rangeAt g 0 [.int .i64 n, .int .i64 d] := by
    intro j u hj
    have hl : j < 2 := (List.getElem?_eq_some_iff.1 hj).1
    rcases (show j = 0 ∨ j = 1 by omega) with rfl | rfl
    · simp only [List.getElem?_cons_zero, Option.some.injEq] at hj
      rw [← hj]; exact h0
    · simp only [List.getElem?_cons_succ, List.getElem?_cons_zero, Option.some.injEq] at hj
      rw [← hj]; exact h1
  have h := run_loadVar_mid (P := Tryz.prog) w g 0 38 [.int .i64 n, .int .i64 d] _ hc Tryz.underlying38 rfl (by kernel_rfl)
  unfold results
  rw [hr]
  have ht2 : tmps[t]?.getD undef = .pointer (some ⟨g, 0, none⟩) := by rw [← Array.getD_eq_getD_getElem?]; exact ht
  simp [ht2, asAddr, h]
set_option maxRecDepth 100000 in
set_option maxHeartbeats 4000000 in
theorem pos_core (kd : Int) (nm : ByteArray) (an ad sn sd : Int) (sm : Bool) (k g a d base num t1 t2 t3 c : Int) (w : World) (hk : (kd == 0) = false)
    (hg : g = ((ad.natAbs.gcd sd.natAbs : Nat) : Int)) (hc : c = ((num.natAbs.gcd base.natAbs : Nat) : Int)) (g1 : 1 ≤ g) (c1 : 1 ≤ c)
    (a1 : 1 ≤ ad) (a2 : ad ≤ 65536) (s1 : 1 ≤ sd) (s2 : sd ≤ 65536) (b1 : 1 ≤ base) (b2 : base ≤ 65536)
    (q1 : ad.tdiv g = a) (p1 : a * sd = base) (q2 : base.tdiv ad = d) (p2 : an * d = t1) (p3 : k * sn = t2) (q3 : base.tdiv sd = a) (p4 : t2 * a = t3) (p5 : t1 + t3 = num) 
    (a3 : 0 ≤ a) (a4 : a ≤ 65536) (d3 : 0 ≤ d) (d4 : d ≤ 65536) (x1 : -1152921504606846976 ≤ num.tdiv c) (x2 : num.tdiv c ≤ 1152921504606846976) (y1 : 0 ≤ base.tdiv c) (y2 : base.tdiv c ≤ 65536) (m1 : -1152921504606846976 ≤ t1 ∧ t1 ≤ 1152921504606846976) (m2 : -1152921504606846976 ≤ t2 ∧ t2 ≤ 1152921504606846976) (m3 : -1152921504606846976 ≤ t3 ∧ t3 ≤ 1152921504606846976) :
    Calls Tryz.prog 173 #[.agg #[.int .i64 kd, .string nm, .int .i64 an, .int .i64 ad, .int .i64 sn, .int .i64 sd, .bool sm], .int .i64 k] w fun e w' => e = .returned (.agg #[.int .i64 (num.tdiv c), .int .i64 (base.tdiv c)]) ∧ Below w.heap.size w w' := by
  have D1 := Lib.hid (fun w => hg ▸ bdivisor_any ad sd w (by omega) (by omega) (by omega) (by omega))
  have D2 := Lib.hid (fun w => hc ▸ bdivisor_any num base w (by omega) (by omega) (by omega) (by omega))
  clear hg hc
  go_enter Tryz.func173, Tryz.ntmps173
  go_upto_region 1 with fail
  obtain ⟨w1, hw1⟩ : ∃ z, z = (w.alloc (.cells #[.int .i64 kd, .string nm, .int .i64 an, .int .i64 ad, .int .i64 sn, .int .i64 sd, .bool sm] 46)).alloc (.cells #[.int .i64 0, .int .i64 0] 38) := ⟨_, rfl⟩
  have hb1 : Below w.heap.size w w1 := by rw [hw1]; go_grown
  have u0 : w1.cell? ⟨w.heap.size, 0, none⟩ = some (.int .i64 kd) := by rw [hw1]; simp [go_sem]
  have u2 : w1.cell? ⟨w.heap.size, 2, none⟩ = some (.int .i64 an) := by rw [hw1]; simp [go_sem]
  have u3 : w1.cell? ⟨w.heap.size, 3, none⟩ = some (.int .i64 ad) := by rw [hw1]; simp [go_sem]
  have u4 : w1.cell? ⟨w.heap.size, 4, none⟩ = some (.int .i64 sn) := by rw [hw1]; simp [go_sem]
  have u5 : w1.cell? ⟨w.heap.size, 5, none⟩ = some (.int .i64 sd) := by rw [hw1]; simp [go_sem]
  have v0 : w1.cell? ⟨w.heap.size + 1, 0, none⟩ = some (.int .i64 0) := by rw [hw1]; simp [go_sem]
  have v1 : w1.cell? ⟨w.heap.size + 1, 1, none⟩ = some (.int .i64 0) := by rw [hw1]; simp [go_sem]
  have z0 : w1.frozen? ⟨w.heap.size + 1, 0, none⟩ = false := by rw [hw1]; simp [go_sem]
  have z1 : w1.frozen? ⟨w.heap.size + 1, 1, none⟩ = false := by rw [hw1]; simp [go_sem]
  rw [← hw1]
  have HB := Lib.hid hb1
  obtain ⟨p, hp⟩ : ∃ p, p = w.heap.size := ⟨_, rfl⟩
  obtain ⟨r, hr⟩ : ∃ r, r = w.heap.size + 1 := ⟨_, rfl⟩
  rw [← hr] at v0 v1 z0 z1 ⊢
  rw [← hp] at u0 u2 u3 u4 u5 ⊢
  have HR := Lib.hid (show w.heap.size ≤ r by omega)
  clear hw1 hb1 hp hr
  go_wp2_with fail
  go_quiet (first | (go_at_call 179; refine Calls.quiet_of (D1.out _)))
  have e1 : wrap64 a = a := by simp only [wrap64]; omega
  go_upto_region 4 with fail
  go_quiet (fail)
  go_wp2_with fail
  refine (D2.out _).mono ?_
  rintro e w2 ⟨rfl, m, rfl⟩
  go_upto_region 6 with fail
  go_region
  go_wp2_with fail
  refine bodyPost_ret (results_rat (g := r) Tryz.results173 rfl (by simp [go_sem, v0, z0]) (by simp [go_sem, v1, z1])) rfl ⟨rfl, ?_⟩
  exact ((below_drewN HB.out _).setCell (p := ⟨r, 0, none⟩) HR.out _).setCell (p := ⟨r, 1, none⟩) HR.out _
/-- The numbers of a source and of a frame are small enough to find its position. -/
structure PosB (s : Trk.Src) (k : Int) : Prop where
  a : s.ad ≤ 65536
  d : s.sd ≤ 65536
  b : Trk.baseN s ≤ 65536
  n0 : -(1099511627776 * s.ad) ≤ s.an
  n1 : s.an ≤ 1099511627776 * s.ad
  v0 : -(1024 * s.sd) ≤ s.sn
  v1 : s.sn ≤ 1024 * s.sd
  k0 : -4294967296 ≤ k
  k1 : k ≤ 4294967296
theorem abs_mul {x y X Y : Int} (h0 : -X ≤ x) (h1 : x ≤ X) (k0 : -Y ≤ y) (k1 : y ≤ Y) : -(X * Y) ≤ x * y ∧ x * y ≤ X * Y := by
  have hx : x.natAbs ≤ X.natAbs := by omega
  have hy : y.natAbs ≤ Y.natAbs := by omega
  have h := Nat.mul_le_mul hx hy
  rw [← Int.natAbs_mul, ← Int.natAbs_mul] at h
  have hX : 0 ≤ X := by omega
  have hY : 0 ≤ Y := by omega
  have hp := Int.mul_nonneg hX hY
  omega
theorem position_good (s : Trk.Src) (k : Int) (w : World) (h : Trk.Good s) (hb : PosB s k) :
    Calls Tryz.prog 173 #[.agg (srcC s).toArray, .int .i64 k] w fun e w' => e = .returned (.agg #[.int .i64 (Trk.moved s k).an, .int .i64 (Trk.moved s k).ad]) ∧ Below w.heap.size w w' := by
  obtain ⟨m1, m2⟩ := Trk.moved_num h k
  have hB := Trk.base_pos h
  obtain ⟨A, hA⟩ := Int.eq_ofNat_of_zero_le (show 0 ≤ s.ad by have := h.a0; omega)
  obtain ⟨D, hD⟩ := Int.eq_ofNat_of_zero_le (show 0 ≤ s.sd by have := h.s0; omega)
  have a0 : 0 < A := by have := h.a0; omega
  have d0 : 0 < D := by have := h.s0; omega
  obtain ⟨b1, b2, b3, b4⟩ := Trk.base_nat a0 d0
  have hbase : Trk.baseN s = A / A.gcd D * D := by unfold Trk.baseN; rw [hA, hD, Int.toNat_natCast, Int.toNat_natCast]
  have hpos : Trk.posN s k = s.an * ((D / A.gcd D : Nat) : Int) + k * s.sn * ((A / A.gcd D : Nat) : Int) := by unfold Trk.posN; rw [hA, hD, Int.toNat_natCast, Int.toNat_natCast]
  have g0 : 0 < A.gcd D := Nat.gcd_pos_of_pos_left _ a0
  have la : A / A.gcd D ≤ A := Nat.div_le_self _ _
  have ld : D / A.gcd D ≤ D := Nat.div_le_self _ _
  have ha := hb.a
  have hd := hb.d
  have hbb := hb.b
  rw [hA] at ha
  rw [hD] at hd
  have n0 := hb.n0
  have n1 := hb.n1
  have v0 := hb.v0
  have v1 := hb.v1
  have k0 := hb.k0
  have k1 := hb.k1
  rw [hA] at n0 n1
  rw [hD] at v0 v1
  obtain ⟨B, eB⟩ : ∃ B, B = Trk.baseN s := ⟨_, rfl⟩
  obtain ⟨N, eN⟩ : ∃ N, N = Trk.posN s k := ⟨_, rfl⟩
  rw [← eB] at m1 m2 hB hbase hbb
  rw [← eN] at m1 m2 hpos
  obtain ⟨G, eG⟩ : ∃ G, G = A.gcd D := ⟨_, rfl⟩
  rw [← eG] at b1 b2 b3 b4 hbase hpos g0 la ld
  obtain ⟨a, ea⟩ : ∃ a, a = A / G := ⟨_, rfl⟩
  obtain ⟨d, ed⟩ : ∃ d, d = D / G := ⟨_, rfl⟩
  rw [← ea] at b1 b2 b3 b4 hbase hpos la
  rw [← ed] at b1 b2 hpos ld
  rw [← hbase] at b1 b2 b3 b4
  have c0 : 0 < N.natAbs.gcd B := Nat.gcd_pos_of_pos_right _ hB
  have cN : ((N.natAbs.gcd B : Nat) : Int) ∣ N := Int.ofNat_dvd_left.2 (Nat.gcd_dvd_left _ _)
  have cB : ((N.natAbs.gcd B : Nat) : Int) ∣ (B : Int) := by exact_mod_cast Nat.gcd_dvd_right _ _
  obtain ⟨c, ec⟩ : ∃ c, c = N.natAbs.gcd B := ⟨_, rfl⟩
  rw [← ec] at c0 cN cB m1 m2
  -- bounds
  have t1 := abs_mul n0 n1 (show -(d : Int) ≤ (d : Int) by omega) (Int.le_refl _)
  have e1 : 1099511627776 * (A : Int) * (d : Int) = 1099511627776 * (B : Int) := by
    rw [Int.mul_assoc]; congr 1; rw [b1]; simp
  rw [e1] at t1
  have t2 := abs_mul (show -(4294967296 : Int) ≤ k by omega) k1 v0 v1
  have t3 := abs_mul t2.1 t2.2 (show -(a : Int) ≤ (a : Int) by omega) (Int.le_refl _)
  have e3 : 4294967296 * (1024 * (D : Int)) * (a : Int) = 4398046511104 * (B : Int) := by
    rw [← Int.mul_assoc, show (4294967296 * 1024 : Int) = 4398046511104 from rfl, Int.mul_assoc]; congr 1; rw [hbase, Int.mul_comm]; simp
  rw [e3] at t3
  have xN : (N.tdiv (c : Int)).natAbs ≤ N.natAbs := by rw [Int.natAbs_tdiv]; exact Nat.div_le_self _ _
  obtain ⟨q, eq⟩ : ∃ q, q = B / c := ⟨_, rfl⟩
  have xB : ((B : Int).tdiv (c : Int)) = (q : Int) := by rw [eq]; simp
  have lB : q ≤ B := by rw [eq]; exact Nat.div_le_self _ _
  have key := pos_core s.kind s.name s.an (A : Int) s.sn (D : Int) s.smooth k (G : Int) (a : Int) (d : Int) (B : Int) N (s.an * (d : Int)) (k * s.sn) (k * s.sn * (a : Int)) (c : Int) w (by simpa using h.k)
    (by rw [eG]; simp) (by rw [ec]; simp) (by omega) (by omega) (by omega) (by omega) (by omega) (by omega) (by omega) (by omega)
    (by rw [ea]; simp) (by rw [hbase]; simp) (by rw [← b2]; simp) rfl rfl (by rw [← b3]; simp) rfl hpos.symm
    (by omega) (by omega) (by omega) (by omega) (by omega) (by omega) (by rw [xB]; omega) (by rw [xB]; omega) (by omega) (by omega) (by omega)
  rw [m1, m2, ← Int.tdiv_eq_ediv_of_dvd cN, ← Int.tdiv_eq_ediv_of_dvd cB]
  unfold srcC
  rw [hA, hD]
  exact key
set_option maxRecDepth 100000 in
set_option maxHeartbeats 4000000 in
theorem position_black (k : Int) (w : World) :
    Calls Tryz.prog 173 #[.agg (srcC Trk.black).toArray, .int .i64 k] w fun e w' => e = .returned (.agg #[.int .i64 0, .int .i64 0]) ∧ Below w.heap.size w w' := by
  unfold srcC Trk.black
  go_enter Tryz.func173, Tryz.ntmps173
  go_wp2_with fail
  exact bodyPost_ret (results_rat (g := w.heap.size + 1) Tryz.results173 rfl (by simp [go_sem]) (by simp [go_sem])) rfl ⟨rfl, by go_grown⟩
theorem position_any (s : Trk.Src) (k : Int) (w : World) (h : Trk.Okay s) (hb : s = Trk.black ∨ PosB s k) :
    Calls Tryz.prog 173 #[.agg (srcC s).toArray, .int .i64 k] w fun e w' => e = .returned (.agg #[.int .i64 (Trk.moved s k).an, .int .i64 (Trk.moved s k).ad]) ∧ Below w.heap.size w w' := by
  by_cases e : s = Trk.black
  · subst e
    rw [Trk.moved_black]
    exact position_black k w
  · exact position_good s k w (h.resolve_left e) (hb.resolve_left e)
end Go.Proofs.YtfoohocgdcgbcaaGreat

/- The contract of sameSource. -/
namespace Go.Proofs.YtfoohocgdcgbcaaGreat
open Go.RowKit
set_option linter.unusedVariables false
set_option linter.unusedSimpArgs false
def srcN (s : Trk.Src) : Trk.Src := { s with an := 0, ad := 0 }
def ratV (n d : Int) : Value := .agg #[.int .i64 n, .int .i64 d]
def ssG (x y : Value) (i lo hi : Nat) (v : Value) (w : World) : Prop := v = if i = 2 then x else y
theorem ssG.ext {x y : Value} (i lo hi : Nat) (v : Value) (w w' : World) (h : ssG x y i lo hi v w) (hb : Plan.Ext w w') : ssG x y i lo hi v w' := h
def ssS : List (Nat × Tmp) := [(2, 11), (5, 14)]
theorem ratV_eq (n d n' d' : Int) (w : World) : (Op.equalIn 10000 38 (.agg #[.int .i64 n, .int .i64 d]) (.agg #[.int .i64 n', .int .i64 d'])).run Tryz.prog w = .ok (decide (n = n' ∧ d = d')) w := by
  simp [go_sem]
  by_cases h1 : n = n' <;> by_cases h2 : d = d' <;> simp [h1, h2]
theorem srcN_eq (a b : Trk.Src) : srcN a = srcN b ↔ a.kind = b.kind ∧ a.name = b.name ∧ a.sn = b.sn ∧ a.sd = b.sd ∧ a.smooth = b.smooth := by
  constructor
  · intro h
    have h1 : (srcN a).kind = (srcN b).kind := by rw [h]
    have h2 : (srcN a).name = (srcN b).name := by rw [h]
    have h3 : (srcN a).sn = (srcN b).sn := by rw [h]
    have h4 : (srcN a).sd = (srcN b).sd := by rw [h]
    have h5 : (srcN a).smooth = (srcN b).smooth := by rw [h]
    exact ⟨h1, h2, h3, h4, h5⟩
  · rintro ⟨h1, h2, h3, h4, h5⟩
    exact Trk.Src.ext2 h1 h2 rfl rfl h3 h4 h5
set_option maxRecDepth 100000 in
set_option maxHeartbeats 8000000 in
theorem samesource_any (a b : Trk.Src) (j k : Int) (w : World) (ha : Trk.Okay a) (hb : Trk.Okay b) (Ba : a = Trk.black ∨ PosB a j) (Bb : b = Trk.black ∨ PosB b k) :
    Calls Tryz.prog 159 #[.agg (srcC a).toArray, .int .i64 j, .agg (srcC b).toArray, .int .i64 k] w fun e w' => e = .returned (.bool (decide (Trk.moved a j = Trk.moved b k))) ∧ Below w.heap.size w w' := by
  have P1 := Lib.hid (fun w => position_any a j w ha Ba)
  have P2 := Lib.hid (fun w => position_any b k w hb Bb)
  have HE := Lib.hid (Trk.moved_eq (a := a) (b := b) j k)
  clear ha hb Ba Bb
  obtain ⟨D, hD⟩ : ∃ D, D = decide (Trk.moved a j = Trk.moved b k) := ⟨_, rfl⟩
  rw [← hD]
  have HD := Lib.hid hD
  clear hD
  obtain ⟨xn, hxn⟩ : ∃ x, x = (Trk.moved a j).an := ⟨_, rfl⟩
  obtain ⟨xd, hxd⟩ : ∃ x, x = (Trk.moved a j).ad := ⟨_, rfl⟩
  obtain ⟨yn, hyn⟩ : ∃ x, x = (Trk.moved b k).an := ⟨_, rfl⟩
  obtain ⟨yd, hyd⟩ : ∃ x, x = (Trk.moved b k).ad := ⟨_, rfl⟩
  rw [← hxn, ← hxd] at P1
  rw [← hyn, ← hyd] at P2
  rw [← hxn, ← hxd, ← hyn, ← hyd] at HE
  clear hxn hxd hyn hyd
  have HQ := Lib.hid (fun w => run_eq_src (srcN a) (srcN b) w)
  obtain ⟨c1, hc1⟩ : ∃ c, c = decide (srcN a = srcN b) := ⟨_, rfl⟩
  have HC1 := Lib.hid hc1
  rw [← hc1] at HQ
  clear hc1
  unfold srcC at P1 P2 ⊢
  go_enter Tryz.func159, Tryz.ntmps159
  go_upto_region 1 with fail
  obtain ⟨w1, hw1⟩ : ∃ z, z = (w.alloc (.cells #[.int .i64 a.kind, .string a.name, .int .i64 a.an, .int .i64 a.ad, .int .i64 a.sn, .int .i64 a.sd, .bool a.smooth] 46)).alloc (.cells #[.int .i64 b.kind, .string b.name, .int .i64 b.an, .int .i64 b.ad, .int .i64 b.sn, .int .i64 b.sd, .bool b.smooth] 46) := ⟨_, rfl⟩
  have hb1 : Below w.heap.size w w1 := by rw [hw1]; go_grown
  obtain ⟨p, hp⟩ : ∃ p, p = w.heap.size := ⟨_, rfl⟩
  obtain ⟨r, hr⟩ : ∃ r, r = w.heap.size + 1 := ⟨_, rfl⟩
  have x : C7 w1 p 0 (.int .i64 a.kind) (.string a.name) (.int .i64 a.an) (.int .i64 a.ad) (.int .i64 a.sn) (.int .i64 a.sd) (.bool a.smooth) := by rw [hw1, hp]; constructor <;> simp [go_sem]
  have y : C7 w1 r 0 (.int .i64 b.kind) (.string b.name) (.int .i64 b.an) (.int .i64 b.ad) (.int .i64 b.sn) (.int .i64 b.sd) (.bool b.smooth) := by rw [hw1, hr]; constructor <;> simp [go_sem]
  have f : (∀ o, w1.frozen? ⟨p, o, none⟩ = false) ∧ ∀ o, w1.frozen? ⟨r, o, none⟩ = false := by rw [hw1, hp, hr]; exact ⟨fun o => by simp [go_sem], fun o => by simp [go_sem]⟩
  rw [← hw1, ← hr, ← hp]
  have HX := Lib.hid x
  have HY := Lib.hid y
  have HF := Lib.hid f
  have HB := Lib.hid hb1
  have HP := Lib.hid (show w.heap.size ≤ p ∧ w.heap.size ≤ r ∧ p ≠ r by omega)
  clear hw1 hp hr hb1 x y f
  refine Plan.wp_region_fresh (fun w' => Below w1.heap.size w1 w') 7 (ssG (ratV xn xd) (ratV yn yd)) ([0, 1, 3, 4].map (·, true)) ssS ([6].map (·, true)) 23 (by kernel_rfl) (by kernel_rfl) (by kernel_rfl) (Below.refl _ _).drew (fun wa wb ha hb => ha.trans (hb.mono ha.size)) ssG.ext ?_
  refine' Plan.plan_seg _ [0, 1, 3, 4] [] (by kernel_rfl) (by kernel_rfl) rfl (by exact (Below.refl _ _).drew) (fun wx hS => ?_) ?_
  rotate_left
  · obtain ⟨x0, x1, x2, x3, x4, x5, x6⟩ := HX.out.below hS
    obtain ⟨y0, y1, y2, y3, y4, y5, y6⟩ := HY.out.below hS
    simp only [Nat.zero_add] at x1 x2 x3 x4 x5 x6 y1 y2 y3 y4 y5 y6
    clear hS
    go_light
    iterate 4 (apply Plan.seg_pick; rfl; intro K hK; go_wp)
    exact Plan.seg_nil
  refine Plan.plan_nil ?_
  refine Plan.fresh_at_gen (fun A => A.tmps.size = 23 ∧ A.tmps[9]? = some (.agg (srcC a).toArray) ∧ A.tmps[10]? = some (.int .i64 j) ∧ A.tmps[12]? = some (.agg (srcC b).toArray) ∧ A.tmps[13]? = some (.int .i64 k)) ⟨rfl, rfl, rfl, rfl, rfl⟩ rfl (fun Aq hA => ?_) ?_
  · obtain ⟨hsz, e9, e10, e12, e13⟩ := hA
    intro p' hp o ho vs wx lo hi hS hE hG K hK
    simp only [ssS, List.mem_cons, List.not_mem_nil, or_false] at hp
    rcases hp with rfl | rfl
    all_goals obtain rfl := Option.some.inj ho
    · have t9 : (Plan.puts vs ssS Aq).eval (.tmp 9) = .agg (srcC a).toArray := by rw [Plan.eval_out (by decide)]; simp [Act.eval, Array.getD_eq_getD_getElem?, e9]
      have t10 : (Plan.puts vs ssS Aq).eval (.tmp 10) = .int .i64 j := by rw [Plan.eval_out (by decide)]; simp [Act.eval, Array.getD_eq_getD_getElem?, e10]
      refine Plan.one_call rfl 173 Tryz.func173 (by kernel_rfl) (by kernel_rfl) #[.tmp 9, .tmp 10] #[46, 2] rfl #[.agg (srcC a).toArray, .int .i64 j] (by simp only [List.map_toArray, List.map_cons, List.map_nil, t9, t10]) (fun r w' => r = ratV xn xd ∧ Below wx.heap.size wx w') ?_ (fun r w' hR => hK _ _ hR.1 hR.2)
      refine (P1.out wx).mono ?_
      rintro e w' ⟨rfl, hb⟩
      exact ⟨_, rfl, rfl, hb⟩
    · have t9 : (Plan.puts vs ssS Aq).eval (.tmp 12) = .agg (srcC b).toArray := by rw [Plan.eval_out (by decide)]; simp [Act.eval, Array.getD_eq_getD_getElem?, e12]
      have t10 : (Plan.puts vs ssS Aq).eval (.tmp 13) = .int .i64 k := by rw [Plan.eval_out (by decide)]; simp [Act.eval, Array.getD_eq_getD_getElem?, e13]
      refine Plan.one_call rfl 173 Tryz.func173 (by kernel_rfl) (by kernel_rfl) #[.tmp 12, .tmp 13] #[46, 2] rfl #[.agg (srcC b).toArray, .int .i64 k] (by simp only [List.map_toArray, List.map_cons, List.map_nil, t9, t10]) (fun r w' => r = ratV yn yd ∧ Below wx.heap.size wx w') ?_ (fun r w' hR => hK _ _ hR.1 hR.2)
      refine (P2.out wx).mono ?_
      rintro e w' ⟨rfl, hb⟩
      exact ⟨_, rfl, rfl, hb⟩
  · intro vs lo hi wx hS hE hall hap
    have h2 : vs 2 = ratV xn xd := (hall (2, 11) (by decide)).1
    have h5 : vs 5 = ratV yn yd := (hall (5, 14) (by decide)).1
    have HF2 := Lib.hid (show (∀ o, wx.frozen? ⟨p, o, none⟩ = false) ∧ ∀ o, wx.frozen? ⟨r, o, none⟩ = false from ⟨fun o => (hS.frozen (p := ⟨p, o, none⟩) HX.out.lt).trans (HF.out.1 o), fun o => (hS.frozen (p := ⟨r, o, none⟩) HY.out.lt).trans (HF.out.2 o)⟩)
    replace HX := Lib.hid (HX.out.below hS)
    replace HY := Lib.hid (HY.out.below hS)
    replace HB := Lib.hid (HB.out.trans (hS.mono HB.out.size))
    have hSk := Lib.hid hS
    simp only [ssS, Plan.puts, h2, h5, ratV]
    clear hall hap hE hS h2 h5 HF
    have heq := fun w => ratV_eq xn xd yn yd w
    refine' Plan.plan_seg _ [6] [] (by kernel_rfl) (by kernel_rfl) rfl (by exact hSk.out) (fun wy hS => ?_) ?_
    rotate_left
    · clear hS
      go_light
      iterate 1 (apply Plan.seg_pick; rfl; intro K hK; go_wp)
      exact Plan.seg_nil
    refine Plan.plan_done ?_
    clear heq
    by_cases hpe : xn = yn ∧ xd = yd
    · have hpd : (!decide (xn = yn) || !decide (xd = yd)) = false := by simp [hpe.1, hpe.2]
      rw [hpd]
      have HN := Lib.hid hpe
      clear hpe hpd
      obtain ⟨x0, x1, x2, x3, x4, x5, x6⟩ := HX.out
      obtain ⟨y0, y1, y2, y3, y4, y5, y6⟩ := HY.out
      simp only [Nat.zero_add] at x1 x2 x3 x4 x5 x6 y1 y2 y3 y4 y5 y6
      obtain ⟨f, g⟩ := HF2.out
      have hne := HP.out.2.2
      have hne2 := Ne.symm hne
      have hq := HQ.out
      simp only [srcN] at hq
      go_wp2_with fail
      go_ret
      refine ⟨ret_bool ?_, ?_⟩
      · rw [HC1.out, HD.out]
        have h1 := HE.out
        have h2 := srcN_eq a b
        simp only [HN.out.1, HN.out.2, and_self, true_and] at h1
        exact decide_eq_decide.2 (h2.trans h1.symm)
      · have hp := HP.out.1
        have hr := HP.out.2.1
        have hbx := HB.out
        exact (((hbx.setCell (p := ⟨p, 2, none⟩) hp _).setCell (p := ⟨p, 3, none⟩) hp _).setCell (p := ⟨r, 2, none⟩) hr _).setCell (p := ⟨r, 3, none⟩) hr _
    · have hpd : (!decide (xn = yn) || !decide (xd = yd)) = true := by
        by_cases h1 : xn = yn
        · have h2 : xd ≠ yd := fun h => hpe ⟨h1, h⟩
          simp [h2]
        · simp [h1]
      rw [hpd]
      have HN := Lib.hid hpe
      clear hpe hpd
      go_wp2_with fail
      go_ret
      refine ⟨ret_bool ?_, HB.out⟩
      rw [HD.out]
      exact (decide_eq_false fun h => HN.out (HE.out.1 h).1).symm
end Go.Proofs.YtfoohocgdcgbcaaGreat

/- The contract of sameFrame. -/
namespace Go.Proofs.YtfoohocgdcgbcaaGreat
open Go.RowKit
set_option linter.unusedVariables false
set_option linter.unusedSimpArgs false
/-- What is asked of a clip whose frame k is compared. -/
structure FrB (c : Trk.Clip) (k : Int) : Prop where
  a : Trk.Okay c.a
  b : Trk.Okay c.b
  pa : c.a = Trk.black ∨ PosB c.a k
  pb : c.b = Trk.black ∨ PosB c.b k
  z : Trk.shares c.kind = false → c.off = 0
  o0 : 0 ≤ c.off
  o1 : c.off ≤ 2147483647
  k0 : -4294967296 ≤ k
  k1 : k ≤ 4294967296
set_option maxRecDepth 100000 in
set_option maxHeartbeats 40000000 in
theorem sameframe_any (c d : Trk.Clip) (j k : Int) (w : World) (hc : c.chan = []) (hd : d.chan = []) (fc : FrB c j) (fd : FrB d k) :
    Calls Tryz.prog 136 #[clipV c, .int .i64 j, clipV d, .int .i64 k] w fun e w' => e = .returned (.bool (decide (Trk.one c j = Trk.one d k))) ∧ Below w.heap.size w w' := by
  have HCH := Lib.hid (hc.trans hd.symm)
  have S1 := Lib.hid (fun w => samesource_any c.a d.a j k w fc.a fd.a fc.pa fd.pa)
  have S2 := Lib.hid (fun w => samesource_any c.b d.b j k w fc.b fd.b fc.pb fd.pb)
  have HE := Lib.hid (Trk.one_eq (c := c) (d := d) j k fc.z fd.z)
  have o0 := fc.o0
  have o1 := fc.o1
  have o2 := fd.o0
  have o3 := fd.o1
  have j0 := fc.k0
  have j1 := fc.k1
  have k0 := fd.k0
  have k1 := fd.k1
  clear hc hd fc fd
  obtain ⟨D, hD⟩ : ∃ D, D = decide (Trk.one c j = Trk.one d k) := ⟨_, rfl⟩
  rw [← hD]
  have HD := Lib.hid hD
  clear hD
  obtain ⟨sa, hsa⟩ : ∃ s, s = decide (Trk.moved c.a j = Trk.moved d.a k) := ⟨_, rfl⟩
  obtain ⟨sb, hsb⟩ : ∃ s, s = decide (Trk.moved c.b j = Trk.moved d.b k) := ⟨_, rfl⟩
  rw [← hsa] at S1
  rw [← hsb] at S2
  have HSA := Lib.hid hsa
  have HSB := Lib.hid hsb
  clear hsa hsb
  unfold clipV
  obtain ⟨C, hC⟩ : ∃ C, C = (clipC c).toArray := ⟨_, rfl⟩
  obtain ⟨DD, hDD⟩ : ∃ DD, DD = (clipC d).toArray := ⟨_, rfl⟩
  rw [← hC, ← hDD]
  have HCC := Lib.hid hC
  have HDD := Lib.hid hDD
  clear hC hDD
  go_enter Tryz.func136, Tryz.ntmps136
  go_upto_region 1 with fail
  obtain ⟨w1, hw1⟩ : ∃ x, x = (w.alloc (.cells C 48)).alloc (.cells DD 48) := ⟨_, rfl⟩
  rw [← hw1]
  rw [HCC.out, HDD.out] at hw1
  obtain ⟨hx, hy, hb1⟩ := box2_facts hw1
  obtain ⟨g1, hg1⟩ : ∃ g, g = w.heap.size := ⟨_, rfl⟩
  obtain ⟨g2, hg2⟩ : ∃ g, g = w.heap.size + 1 := ⟨_, rfl⟩
  rw [← hg2] at hy ⊢
  rw [← hg1] at hx ⊢
  have HB := Lib.hid hb1
  have HX := Lib.hid hx
  have HY := Lib.hid hy
  clear hw1 hb1 hg1 hg2
  obtain ⟨x0, x1, x2, x3, x4, x5, x6, x7, x8, x9, x10, x11, x12, x13, x14, x15, x16, x17, x18, x19, x20, x21⟩ := hx.at0
  obtain ⟨y0, y1, y2, y3, y4, y5, y6, y7, y8, y9, y10, y11, y12, y13, y14, y15, y16, y17, y18, y19, y20, y21⟩ := hy.at0
  clear hx hy x0 y0
  have HNO : ¬ (Trk.one c j = Trk.one d k) → false = D := fun h => by rw [HD.out]; exact (decide_eq_false h).symm
  replace HNO := Lib.hid HNO
  go_upto_region 3 with (go_at_call 107; refine (equal_nil _).mono ?_; rintro e w' ⟨rfl, rfl⟩)
  all_goals try
    go_ret
    refine ⟨ret_bool (HNO.out fun h => ?_), HB.out⟩
    obtain ⟨⟨h1, h2, h3, h4, h5, h6⟩, h7, h8, h9⟩ := HE.out.1 h
    first
    | contradiction
    | exact absurd (congrArg ByteArray.toList h4) (by assumption)
    | (exfalso; simp_all; done)
  rename_i hk ht hp htx hg K1 a1 K2 a2
  have HEQ := Lib.hid (show (Trk.shares c.kind = true → c.off + j = d.off + k) → D = (sa && sb) from fun hs => by
    have h := HE.out
    rw [HD.out, HSA.out, HSB.out, ← Bool.decide_and]
    exact decide_eq_decide.2 (h.trans ⟨fun h => h.2.2, fun h2 => ⟨⟨hk, ht, hp, bytes_inj2 htx, hg, HCH.out⟩, hs, h2.1, h2.2⟩⟩))
  clear ht hp htx hg x17 x18 x19 x20 x21 y17 y18 y19 y20 y21
  have HK := Lib.hid hk
  unfold srcC at S1 S2
  go_upto_region 5 with fail
  all_goals try
    go_ret
    refine ⟨ret_bool (HNO.out fun h => ?_), HB.out⟩
    obtain ⟨⟨h1, h2, h3, h4, h5, h6⟩, h7, h8, h9⟩ := HE.out.1 h
    first
    | contradiction
    | (exact absurd (h7 (by rw [h1]; simp_all [Trk.shares])) (by assumption))
    | (exfalso; simp_all [Trk.shares]; done)
  all_goals
    have hd : D = (sa && sb) := HEQ.out fun hs => by
      rw [hk] at hs
      first
      | (simp_all [Trk.shares]; done)
      | (have h2 : (c.off + j != d.off + k) = false := by assumption
         simpa using h2)
    have HDS := Lib.hid hd
    clear hd hk
    clear y1 x1 x16 y16
    go_wp2_with fail
    refine (S1.out _).mono ?_
    rintro e w2 ⟨rfl, hb⟩
    replace HX := Lib.hid (HX.out.below hb)
    replace HY := Lib.hid (HY.out.below hb)
    replace HB := Lib.hid (HB.out.trans (hb.mono HB.out.size))
    clear hb x2 x3 x4 x5 x6 x7 x8 x9 x10 x11 x12 x13 x14 x15 y2 y3 y4 y5 y6 y7 y8 y9 y10 y11 y12 y13 y14 y15
    obtain ⟨x0, x1, x2, x3, x4, x5, x6, x7, x8, x9, x10, x11, x12, x13, x14, x15, x16, x17, x18, x19, x20, x21⟩ := HX.out.at0
    obtain ⟨y0, y1, y2, y3, y4, y5, y6, y7, y8, y9, y10, y11, y12, y13, y14, y15, y16, y17, y18, y19, y20, y21⟩ := HY.out.at0
    cases sa
    · go_wp2_with fail
      go_ret
      exact ⟨ret_bool (by rw [HDS.out]; rfl), HB.out⟩
    · go_wp2_with fail
      refine (S2.out _).mono ?_
      rintro e w3 ⟨rfl, hb⟩
      replace HB := Lib.hid (HB.out.trans (hb.mono HB.out.size))
      clear hb
      go_wp2_with fail
      go_ret
      exact ⟨ret_bool (by rw [HDS.out]; rfl), HB.out⟩
end Go.Proofs.YtfoohocgdcgbcaaGreat

/- The contract of Apply. -/
namespace Go.Proofs.YtfoohocgdcgbcaaGreat
open Go.RowKit
set_option linter.unusedVariables false
set_option linter.unusedSimpArgs false
theorem idle43 (p q r : Addr) (w : World) : CallsD Tryz.prog 83 #[.pointer (some p), .pointer (some q), .pointer (some r)] .returning w fun e u' w' => e = .returned (.tuple #[]) ∧ u' = .returning ∧ w' = w := by
  refine callsD_of_wpS Tryz.func83 rfl fun c₀ cs hu => ?_
  apply wpS_seq
  apply wpS_region
  simp [wpOpsS, go_sem, recoverD, hu, Tryz.ntmps83, Exit.thenS]
  refine wpS_cond (t := false) (by simp [Act.eval, Array.replicate]) ?_
  simp only [Bool.false_eq_true, if_false]
  refine wpS_of_wp (wp_skip ?_)
  cases c₀
  simp_all [bodyPostS, results, Tryz.results83]
/-- What exchange and adjust answer. -/
def MidPost (w : World) (n l : List Trk.Clip) (a b uk code : Int) (e : Ending) (w' : World) : Prop :=
  (code = 0 ∧ EdPost w n l a b uk e w') ∨ (code ≠ 0 ∧ e = .returned (.tuple #[.slice none 0 0, edV 0 0 0 0 0 0 0 (.slice none 0 0), .int .i64 code]) ∧ Below w.heap.size w w')
/-- The variables of Apply. -/
structure AB (w0 w : World) (g3 g4 g5 g6 : Nat) (k p m c d sn sd : Int) (u v4 : Value) (rk rp rm : Int) (rv : Value) (x6 : Int) : Prop where
  a : ED w g3 k p m c d sn sd u
  c4 : w.cell? ⟨g4, 0, none⟩ = some v4
  f4 : w.frozen? ⟨g4, 0, none⟩ = false
  r : ED w g5 rk rp rm 0 0 0 0 rv
  c6 : w.cell? ⟨g6, 0, none⟩ = some (.int .i64 x6)
  f6 : w.frozen? ⟨g6, 0, none⟩ = false
  b : Below w0.heap.size w0 w
theorem AB.below {w0 w w' : World} {g3 g4 g5 g6 : Nat} {k p m c d sn sd : Int} {u v4 : Value} {rk rp rm : Int} {rv : Value} {x6 : Int} (h : AB w0 w g3 g4 g5 g6 k p m c d sn sd u v4 rk rp rm rv x6) (hb : Below w.heap.size w w') : AB w0 w' g3 g4 g5 g6 k p m c d sn sd u v4 rk rp rm rv x6 :=
  ⟨h.a.below hb, (hb.cell (block_lt_of_cell h.c4)).trans h.c4, (hb.frozen (p := ⟨g4, 0, none⟩) (block_lt_of_cell h.c4)).trans h.f4, h.r.below hb, (hb.cell (block_lt_of_cell h.c6)).trans h.c6, (hb.frozen (p := ⟨g6, 0, none⟩) (block_lt_of_cell h.c6)).trans h.f6, h.b.trans (hb.mono h.b.size)⟩
theorem AB.set4 {w0 w : World} {g3 g4 g5 g6 : Nat} {k p m c d sn sd : Int} {u v4 : Value} {rk rp rm : Int} {rv : Value} {x6 : Int} (h : AB w0 w g3 g4 g5 g6 k p m c d sn sd u v4 rk rp rm rv x6) (h3 : g3 < g4) (h5 : g4 < g5) (h6 : g5 < g6) (h0 : w0.heap.size ≤ g3) (v : Value) :
    AB w0 (w.setCell ⟨g4, 0, none⟩ v) g3 g4 g5 g6 k p m c d sn sd u v rk rp rm rv x6 := by
  have ht := Turn.cell g4 0 v w
  exact ⟨ht.ed (by omega) h.a, by have := h.c4; simp [go_sem, this], by rw [World.frozen?_setCell]; exact h.f4, ht.ed (by omega) h.r, ht.get (by omega) h.c6, by rw [World.frozen?_setCell]; exact h.f6, ht.b _ _ (by omega) h.b⟩
theorem AB.set6 {w0 w : World} {g3 g4 g5 g6 : Nat} {k p m c d sn sd : Int} {u v4 : Value} {rk rp rm : Int} {rv : Value} {x6 : Int} (h : AB w0 w g3 g4 g5 g6 k p m c d sn sd u v4 rk rp rm rv x6) (h3 : g3 < g4) (h5 : g4 < g5) (h6 : g5 < g6) (h0 : w0.heap.size ≤ g3) (x : Int) :
    AB w0 (w.setCell ⟨g6, 0, none⟩ (.int .i64 x)) g3 g4 g5 g6 k p m c d sn sd u v4 rk rp rm rv x := by
  have ht := Turn.cell g6 0 (.int .i64 x) w
  exact ⟨ht.ed (by omega) h.a, ht.get (by omega) h.c4, by rw [World.frozen?_setCell]; exact h.f4, ht.ed (by omega) h.r, by have := h.c6; simp [go_sem, this], by rw [World.frozen?_setCell]; exact h.f6, ht.b _ _ (by omega) h.b⟩
theorem AB.set5 {w0 w w' : World} {g3 g4 g5 g6 : Nat} {k p m c d sn sd : Int} {u v4 : Value} {rk rp rm : Int} {rv : Value} {x6 : Int} (h : AB w0 w g3 g4 g5 g6 k p m c d sn sd u v4 rk rp rm rv x6) (h3 : g3 < g4) (h5 : g4 < g5) (h6 : g5 < g6) (h0 : w0.heap.size ≤ g3) {rk' rp' rm' : Int} {rv' : Value}
    (he : ED w' g5 rk' rp' rm' 0 0 0 0 rv') (ho : ∀ b, b ≠ g5 → w'.heap[b]? = w.heap[b]?) (hb : ∀ n w0, n ≤ g5 → Below n w0 w → Below n w0 w') : AB w0 w' g3 g4 g5 g6 k p m c d sn sd u v4 rk' rp' rm' rv' x6 :=
  ⟨h.a.same (ho g3 (by omega)), (World.cell?_of_block (a := ⟨g4, 0, none⟩) (ho g4 (by omega))).trans h.c4, (World.frozen?_of_block (a := ⟨g4, 0, none⟩) (ho g4 (by omega))).trans h.f4, he, (World.cell?_of_block (a := ⟨g6, 0, none⟩) (ho g6 (by omega))).trans h.c6, (World.frozen?_of_block (a := ⟨g6, 0, none⟩) (ho g6 (by omega))).trans h.f6, hb _ _ (by omega) h.b⟩
theorem results_apply {fn : Func} {tmps : Array Value} {w0 w : World} {g3 g4 g5 g6 : Nat} {k p m c d sn sd : Int} {u : Value} {va : Option Addr} {vm vc : Nat} {rk rp rm : Int} {ra : Option Addr} {rl rc : Nat} {x6 : Int} (hr : fn.results = #[.cell 4 23, .cell 5 40, .cell 6 30])
    (h4 : tmps.getD 4 undef = .pointer (some ⟨g4, 0, none⟩)) (h5 : tmps.getD 5 undef = .pointer (some ⟨g5, 0, none⟩)) (h6 : tmps.getD 6 undef = .pointer (some ⟨g6, 0, none⟩)) (h : AB w0 w g3 g4 g5 g6 k p m c d sn sd u (.slice va vm vc) rk rp rm (.slice ra rl rc) x6) :
    (results fn tmps).run Tryz.prog w = .ok (.tuple #[.slice va vm vc, edV rk rp rm 0 0 0 0 (.slice ra rl rc), .int .i64 x6]) w := by
  unfold results
  rw [hr]
  have e4 : tmps[4]?.getD undef = .pointer (some ⟨g4, 0, none⟩) := by rw [← Array.getD_eq_getD_getElem?]; exact h4
  have e5 : tmps[5]?.getD undef = .pointer (some ⟨g5, 0, none⟩) := by rw [← Array.getD_eq_getD_getElem?]; exact h5
  have e6 : tmps[6]?.getD undef = .pointer (some ⟨g6, 0, none⟩) := by rw [← Array.getD_eq_getD_getElem?]; exact h6
  have z4 := h.c4
  have z6 := h.c6
  obtain ⟨y0, y1, y2, y3, y4, y5, y6, y7, _⟩ := h.r
  simp [e4, e5, e6, asAddr, go_sem, z4, z6, y0, y1, y2, y3, y4, y5, y6, y7, edV, edC]
set_option maxRecDepth 100000 in
set_option maxHeartbeats 16000000 in
theorem apply_exch {L M : Int} (v u : Value) (t l : List Trk.Clip) (k p m c d sn sd a b uk code : Int) (ok : Bool) (w : World) (h : Tk w v t) (ins : List Trk.Clip) (hu : Tk w u ins) (hV : VT L t) (hL : L ≤ 140737488355328) (hk : k = 1 ∨ k = 2 ∨ k = 3 ∨ k = 4)
    (hOK : ∀ w', Tk w' u ins → Calls Tryz.prog 84 #[edV k p m c d sn sd u] w' fun e w'' => e = .returned (.bool ok) ∧ Below w'.heap.size w' w'')
    (hM : ok = true → ∀ w' vn, Tk w' vn (Trk.nf t) → Tk w' u ins → Calls Tryz.prog 85 #[vn, edV k p m c d sn sd u] w' (MidPost w' (Trk.nf t) l a b uk code))
    (hl : code = 0 → Trk.VL M l ∧ Trk.total l ≤ 2147483647 ∧ l.length ≤ 1048576 ∧ (Trk.nf l).length ≤ 64) (hM2 : M ≤ 140737488355328) (hc : -1000 ≤ code ∧ code ≤ 1000) :
    Calls Tryz.prog 45 #[v, edV k p m c d sn sd u] w fun e w' => (ok = true ∧ code = 0 ∧ EdPost w (Trk.nf t) (Trk.nf l) a b uk e w') ∨
      ((ok = false ∨ code ≠ 0) ∧ e = .returned (.tuple #[.slice none 0 0, edV 0 0 0 0 0 0 0 (.slice none 0 0), .int .i64 (if ok = true then code else 1)]) ∧ Below w.heap.size w w') := by
  have HT := Lib.hid h
  have HU := Lib.hid hu
  have HOK := Lib.hid hOK
  have HM := Lib.hid hM
  have HL := Lib.hid hl
  have HK := Lib.hid hk
  have HVT := Lib.hid (fun w (h : Tk w v t) => vtrack_any v t w h hV hL)
  have HNO := Lib.hid (fun w (h : Tk w v t) => normal_any v t w h hV hL)
  obtain ⟨ua, um, uc, rfl⟩ : ∃ ao m cp, u = .slice ao m cp := by obtain ⟨ao, cp, e, _⟩ := hu; exact ⟨_, _, _, e⟩
  obtain ⟨hc1, hc2⟩ := hc
  unfold edV at HOK HM
  clear h hu hV hOK hM hl hk
  unfold edV
  go_enter_defers Tryz.func45, Tryz.ntmps45
  go_upto_region 2 with fail
  obtain ⟨w1, hw1⟩ : ∃ y, y = (((w.alloc (.cells (edC k p m c d sn sd (.slice ua um uc)) 40)).alloc (.cells #[.slice none 0 0] 23)).alloc (.cells (edC 0 0 0 0 0 0 0 (.slice none 0 0)) 40)).alloc (.cells #[.int .i64 0] 30) := ⟨_, rfl⟩
  have hw1' := hw1
  unfold edC at hw1'
  unfold edC
  rw [← hw1']
  clear hw1'
  obtain ⟨g3, hg3⟩ : ∃ g, g = w.heap.size := ⟨_, rfl⟩
  obtain ⟨g4, hg4⟩ : ∃ g, g = w.heap.size + 1 := ⟨_, rfl⟩
  obtain ⟨g5, hg5⟩ : ∃ g, g = w.heap.size + 1 + 1 := ⟨_, rfl⟩
  obtain ⟨g6, hg6⟩ : ∃ g, g = w.heap.size + 1 + 1 + 1 := ⟨_, rfl⟩
  have hab : AB w w1 g3 g4 g5 g6 k p m c d sn sd (.slice ua um uc) (.slice none 0 0) 0 0 0 (.slice none 0 0) 0 := by
    rw [hw1, hg3, hg4, hg5, hg6]
    refine ⟨?_, ?_, ?_, ?_, ?_, ?_, by go_grown⟩
    · constructor <;> simp [go_sem, edC]
    · simp [go_sem, edC]
    · simp [go_sem, edC]
    · constructor <;> simp [go_sem, edC]
    · simp [go_sem, edC]
    · simp [go_sem, edC]
  rw [← hg6, ← hg5, ← hg4, ← hg3]
  have h34 : g3 < g4 := by omega
  have h45 : g4 < g5 := by omega
  have h56 : g5 < g6 := by omega
  have h03 : w.heap.size ≤ g3 := by omega
  have HA := Lib.hid hab
  have HN := Lib.hid (And.intro h34 (And.intro h45 (And.intro h56 h03)))
  clear hw1 hab hg3 hg4 hg5 hg6 h34 h45 h56 h03
  go_wp2_with fail
  refine (HVT.out _ (HT.out.below HA.out.b)).mono ?_
  rintro e w2 ⟨rfl, hb⟩
  replace HA := Lib.hid (HA.out.below hb)
  clear hb HVT
  obtain ⟨e0, e1, e2, e3, e4, e5, e6, e7, ef⟩ := HA.out.a
  go_wp2_with fail
  refine (HOK.out _ (HU.out.below HA.out.b)).mono ?_
  rintro e w3 ⟨rfl, hb⟩
  replace HA := Lib.hid (HA.out.below hb)
  clear hb e0 e1 e2 e3 e4 e5 e6 e7 ef HOK
  cases ok
  case false =>
    go_upto_region 3 with fail
    apply wp_region_lit
    iterate 3 go_step
    have z4 := HA.out.c4
    have zf4 := HA.out.f4
    iterate 3 go_step
    have ha := HA.out.set4 HN.out.1 HN.out.2.1 HN.out.2.2.1 HN.out.2.2.2 (.slice none 0 0)
    obtain ⟨w4, hwn⟩ : ∃ y, y = World.setCell w3 ⟨g4, 0, none⟩ (.slice none 0 0) := ⟨_, rfl⟩
    rw [← hwn] at ha ⊢
    replace HA := Lib.hid ha
    clear ha hwn z4 zf4
    refine wpl_storeE 0 0 0 0 0 0 0 none 0 0 HA.out.r rfl rfl rfl rfl ?_
    intro w5 q1 q2 q3 q4 q5
    simp only [Act.put, List.setIfInBounds_toArray, List.set_cons_succ, List.set_cons_zero]
    replace HA := Lib.hid (HA.out.set5 HN.out.1 HN.out.2.1 HN.out.2.2.1 HN.out.2.2.2 q1 q2 q4)
    clear q1 q2 q3 q4 q5
    have z6 := HA.out.c6
    have zf6 := HA.out.f6
    iterate 3 go_step
    have ha := HA.out.set6 HN.out.1 HN.out.2.1 HN.out.2.2.1 HN.out.2.2.2 (1)
    obtain ⟨w6, hwn⟩ : ∃ y, y = World.setCell w5 ⟨g6, 0, none⟩ (.int .i64 (1)) := ⟨_, rfl⟩
    rw [← hwn] at ha ⊢
    replace HA := Lib.hid ha
    clear ha hwn z6 zf6
    iterate 4 go_step
    refine leaves_cons (f := 83) (args := #[.pointer (some ⟨g4, 0, none⟩), .pointer (some ⟨g5, 0, none⟩), .pointer (some ⟨g6, 0, none⟩)]) (by simp) (by simp [go_sem]) ?_
    refine (idle43 _ _ _ _).mono ?_
    rintro e u' w'' ⟨rfl, rfl, rfl⟩
    refine ⟨_, results_apply Tryz.results45 rfl rfl rfl HA.out, ?_⟩
    exact .inr ⟨.inl rfl, rfl, HA.out.b⟩
  have HM2 := Lib.hid (HM.out rfl)
  clear HM
  go_wp2_with fail
  refine (HNO.out _ (HT.out.below HA.out.b)).mono ?_
  rintro e w4 ⟨vn, rfl, ho, hb⟩
  replace HA := Lib.hid (HA.out.below hb)
  have HTN := Lib.hid ho.tk
  clear ho hb HNO
  have e0 := HA.out.a.k0
  go_upto_if 30 with fail
  go_cut [30] from 31 (fun v30 wx => v30 = .bool true ∧ wx = w4)
  case first =>
    rcases HK.out with rfl | rfl | rfl | rfl
    · go_wp2_with fail
      go_meet
      case rel => exact ⟨rfl, rfl⟩
    · go_wp2_with fail
      go_meet
      case rel => exact ⟨rfl, rfl⟩
    · go_wp2_with fail
      go_meet
      case rel => exact ⟨rfl, rfl⟩
    · go_wp2_with fail
      go_meet
      case rel => exact ⟨rfl, rfl⟩
  obtain ⟨rfl, rfl⟩ := hcut
  clear e0
  go_upto_region 12 with fail
  apply wp_region_lit
  iterate 3 go_step
  refine wpl_loadE HA.out.a rfl rfl rfl ?_
  simp only [Act.put, List.setIfInBounds_toArray, List.set_cons_succ, List.set_cons_zero]
  iterate 2 go_step
  refine (HM2.out _ _ HTN.out (HU.out.below HA.out.b)).mono ?_
  rintro e w5 (⟨hc0, v', vr, rfl, ho, hor, hb⟩ | ⟨hc0, rfl, hb⟩)
  · subst hc0
    obtain ⟨hl1, hl2, hl3, hl4⟩ := HL.out rfl
    obtain ⟨mm, hmm⟩ : ∃ mm, mm = (if uk = 2 then b - a else 0) := ⟨_, rfl⟩
    have hE : EdV (Trk.backOf (Trk.nf t) a b uk) vr = .agg (edC uk a mm 0 0 0 0 vr) := by rw [hmm]; rfl
    rw [hE]
    have HE := Lib.hid hE
    have HEN := Lib.hid (fun w v (h : Tk w v l) => enormal_any v l w h hl1 hM2 hl2 hl3)
    obtain ⟨ra, rc, rfl, -⟩ := hor.tk
    obtain ⟨rl, hrl⟩ : ∃ m, m = (Trk.backOf (Trk.nf t) a b uk).ins.length := ⟨_, rfl⟩
    rw [← hrl] at hor HE ⊢
    have HGR := Lib.hid (show ∀ g kk cp, Value.slice ra rl rc = .slice (some ⟨g, 0, none⟩) kk cp → g6 < g from fun g kk cp e => by have h1 := (hor.blk e).1; have h2 := block_lt_of_cell HA.out.c6; simp only at h2; omega)
    have HOR := Lib.hid (hor.lower HA.out.b.size)
    have HGL := Lib.hid (show ∀ g kk cp, v' = .slice (some ⟨g, 0, none⟩) kk cp → g6 < g from fun g kk cp e => by have h1 := (ho.blk e).1; have h2 := block_lt_of_cell HA.out.c6; simp only at h2; omega)
    have HOL := Lib.hid ho
    replace HA := Lib.hid (HA.out.below hb)
    clear hE hor ho hb hmm hrl hl1 hl2 hl3
    dsimp only
    iterate 16 go_step
    refine wpl_storeE uk a mm 0 0 0 0 ra rl rc HA.out.r rfl rfl rfl rfl ?_
    intro w6 q1 q2 q3 q4 q5
    simp only [Act.put, List.setIfInBounds_toArray, List.set_cons_succ, List.set_cons_zero]
    replace HA := Lib.hid (HA.out.set5 HN.out.1 HN.out.2.1 HN.out.2.2.1 HN.out.2.2.2 q1 q2 q4)
    replace HOL := Lib.hid (HOL.out.blocks (fun g kk cp e => q2 g (by have := HGL.out g kk cp e; have := HN.out.2.2.1; omega)))
    replace HOR := Lib.hid (HOR.out.blocks (fun g kk cp e => q2 g (by have := HGR.out g kk cp e; have := HN.out.2.2.1; omega)))
    clear q1 q2 q3 q4 q5
    have z6 := HA.out.c6
    have zf6 := HA.out.f6
    go_upto_region 13 with fail
    have ha := HA.out.set6 HN.out.1 HN.out.2.1 HN.out.2.2.1 HN.out.2.2.2 0
    have ho := HOL.out.apart (p := ⟨g6, 0, none⟩) (fun g kk cp e => Nat.ne_of_lt (HGL.out g kk cp e)) (.int .i64 0)
    have hor := HOR.out.apart (p := ⟨g6, 0, none⟩) (fun g kk cp e => Nat.ne_of_lt (HGR.out g kk cp e)) (.int .i64 0)
    obtain ⟨w7, hw7⟩ : ∃ y, y = World.setCell w6 ⟨g6, 0, none⟩ (.int .i64 0) := ⟨_, rfl⟩
    rw [← hw7] at ha ho hor ⊢
    replace HA := Lib.hid ha
    replace HOL := Lib.hid ho
    replace HOR := Lib.hid hor
    clear ha ho hor hw7 z6 zf6
    have z6 := HA.out.c6
    go_wp2_with fail
    refine (HEN.out _ _ HOL.out.tk).mono ?_
    rintro e w8 ⟨va, rfl, ho, hb⟩
    obtain ⟨na, ca, rfl, -⟩ := ho.tk
    obtain ⟨la, hla⟩ : ∃ m, m = (Trk.nf l).length := ⟨_, rfl⟩
    rw [← hla] at ho hl4 ⊢
    have HGV := Lib.hid (show ∀ g kk cp, Value.slice na la ca = .slice (some ⟨g, 0, none⟩) kk cp → g6 < g from fun g kk cp e => by have h1 := (ho.blk e).1; have h2 := block_lt_of_cell HA.out.c6; simp only at h2; omega)
    have HOV := Lib.hid (ho.lower HA.out.b.size)
    replace HA := Lib.hid (HA.out.below hb)
    replace HOR := Lib.hid (HOR.out.below hb)
    clear ho hb hla z6 HOL HGL
    have z4 := HA.out.c4
    have zf4 := HA.out.f4
    go_upto_region 16 with fail
    have ha := HA.out.set4 HN.out.1 HN.out.2.1 HN.out.2.2.1 HN.out.2.2.2 (.slice na la ca)
    have ho := HOV.out.apart (p := ⟨g4, 0, none⟩) (fun g kk cp e => by have := HGV.out g kk cp e; have := HN.out; show g4 ≠ g; omega) (.slice na la ca)
    have hor := HOR.out.apart (p := ⟨g4, 0, none⟩) (fun g kk cp e => by have := HGR.out g kk cp e; have := HN.out; show g4 ≠ g; omega) (.slice na la ca)
    obtain ⟨w9, hw9⟩ : ∃ y, y = World.setCell w8 ⟨g4, 0, none⟩ (.slice na la ca) := ⟨_, rfl⟩
    rw [← hw9] at ha ho hor ⊢
    replace HA := Lib.hid ha
    replace HOV := Lib.hid ho
    replace HOR := Lib.hid hor
    clear ha ho hor hw9 z4 zf4
    have z4 := HA.out.c4
    have hl4' : ¬ (64 : Int) < (la : Int) := by omega
    go_upto_region 18 with fail
    clear z4
    refine Plan.wp_region_plan (fun w' => w'.cell? ⟨g4, 0, none⟩ = some (.slice na la ca) ∧ ED w' g5 uk a mm 0 0 0 0 (.slice ra rl rc)) (([0, 1].map (·, true)) ++ ([2, 3, 4].map (·, false))) (by kernel_rfl) (by kernel_rfl) (by kernel_rfl) ⟨(HA.out.below (Below.refl _ _).drew).c4, (HA.out.below (Below.refl _ _).drew).r⟩ ?_
    refine' Plan.plan_seg _ [0, 1] ([2, 3, 4].map (·, false)) (by kernel_rfl) (by kernel_rfl) rfl (by exact ⟨(HA.out.below (Below.refl _ _).drew).c4, (HA.out.below (Below.refl _ _).drew).r⟩) (fun wx hS => ?_) ?_
    rotate_left
    · obtain ⟨S1, S2⟩ := hS
      have HS2 := Lib.hid S2
      clear S2
      go_light
      iterate 1 (apply Plan.seg_pick; rfl; intro K hK; go_wp)
      (apply Plan.seg_pick; rfl; intro K hK)
      refine wpl_loadE HS2.out rfl rfl rfl ?_
      go_wp
      exact Plan.seg_nil
    obtain ⟨w10, hw10⟩ : ∃ y, y = World.drew w9 := ⟨_, rfl⟩
    rw [← hw10]
    have hb10 : Below w9.heap.size w9 w10 := by rw [hw10]; exact (Below.refl _ _).drew
    replace HA := Lib.hid (HA.out.below hb10)
    replace HOV := Lib.hid (HOV.out.below hb10)
    replace HOR := Lib.hid (HOR.out.below hb10)
    clear hb10 hw10
    refine Plan.plan_of_effect rfl (fun K hK => ?_)
    have z4 := HA.out.c4
    have zf4 := HA.out.f4
    go_wp2_with fail
    have ha := HA.out.set4 HN.out.1 HN.out.2.1 HN.out.2.2.1 HN.out.2.2.2 (.slice na la ca)
    have ho := HOV.out.apart (p := ⟨g4, 0, none⟩) (fun g kk cp e => by have := HGV.out g kk cp e; have := HN.out; show g4 ≠ g; omega) (.slice na la ca)
    have hor := HOR.out.apart (p := ⟨g4, 0, none⟩) (fun g kk cp e => by have := HGR.out g kk cp e; have := HN.out; show g4 ≠ g; omega) (.slice na la ca)
    obtain ⟨w11, hw11⟩ : ∃ y, y = World.setCell w10 ⟨g4, 0, none⟩ (.slice na la ca) := ⟨_, rfl⟩
    rw [← hw11] at ha ho hor ⊢
    replace HA := Lib.hid ha
    replace HOV := Lib.hid ho
    replace HOR := Lib.hid hor
    clear ha ho hor hw11 z4 zf4
    first | refine ⟨⟨HA.out.c4, HA.out.r⟩, ?_⟩ | refine ⟨HA.out.r, ?_⟩ | refine ⟨HA.out.c4, HA.out.r, ?_⟩
    refine Plan.plan_of_effect rfl (fun K hK => ?_)
    refine wpl_storeE uk a mm 0 0 0 0 ra rl rc HA.out.r rfl rfl rfl rfl ?_
    intro w12 q1 q2 q3 q4 q5
    simp only [Act.put, List.setIfInBounds_toArray, List.set_cons_succ, List.set_cons_zero]
    replace HA := Lib.hid (HA.out.set5 HN.out.1 HN.out.2.1 HN.out.2.2.1 HN.out.2.2.2 q1 q2 q4)
    replace HOV := Lib.hid (HOV.out.blocks (fun g kk cp e => q2 g (by have := HGV.out g kk cp e; have := HN.out.2.2.1; omega)))
    replace HOR := Lib.hid (HOR.out.blocks (fun g kk cp e => q2 g (by have := HGR.out g kk cp e; have := HN.out.2.2.1; omega)))
    clear q1 q2 q3 q4 q5
    go_wp2_with fail
    first | refine ⟨⟨HA.out.c4, HA.out.r⟩, ?_⟩ | refine ⟨HA.out.r, ?_⟩ | refine ⟨HA.out.c4, HA.out.r, ?_⟩
    refine Plan.plan_of_effect rfl (fun K hK => ?_)
    have z6 := HA.out.c6
    have zf6 := HA.out.f6
    go_wp2_with fail
    have ha := HA.out.set6 HN.out.1 HN.out.2.1 HN.out.2.2.1 HN.out.2.2.2 0
    have ho := HOV.out.apart (p := ⟨g6, 0, none⟩) (fun g kk cp e => Nat.ne_of_lt (HGV.out g kk cp e)) (.int .i64 0)
    have hor := HOR.out.apart (p := ⟨g6, 0, none⟩) (fun g kk cp e => Nat.ne_of_lt (HGR.out g kk cp e)) (.int .i64 0)
    obtain ⟨w13, hw13⟩ : ∃ y, y = World.setCell w12 ⟨g6, 0, none⟩ (.int .i64 0) := ⟨_, rfl⟩
    rw [← hw13] at ha ho hor ⊢
    replace HA := Lib.hid ha
    replace HOV := Lib.hid ho
    replace HOR := Lib.hid hor
    clear ha ho hor hw13 z6 zf6
    first | refine ⟨⟨HA.out.c4, HA.out.r⟩, ?_⟩ | refine ⟨HA.out.r, ?_⟩ | refine ⟨HA.out.c4, HA.out.r, ?_⟩
    refine Plan.plan_done ?_
    iterate 3 go_step
    refine leaves_cons (f := 83) (args := #[.pointer (some ⟨g4, 0, none⟩), .pointer (some ⟨g5, 0, none⟩), .pointer (some ⟨g6, 0, none⟩)]) (by simp) (by simp [go_sem]) ?_
    refine (idle43 _ _ _ _).mono ?_
    rintro e u' w'' ⟨rfl, rfl, rfl⟩
    refine ⟨_, results_apply Tryz.results45 rfl rfl rfl HA.out, ?_⟩
    refine .inl ⟨rfl, rfl, .slice na la ca, .slice ra rl rc, ?_, HOV.out, HOR.out, HA.out.b⟩
    rw [HE.out]
    rfl
  · have hcb : (code == 0) = false := by simpa using hc0
    have HC0 := Lib.hid hc0
    replace HA := Lib.hid (HA.out.below hb)
    clear hb hc0
    dsimp only
    iterate 16 go_step
    refine wpl_storeE 0 0 0 0 0 0 0 none 0 0 HA.out.r rfl rfl rfl rfl ?_
    intro w6 q1 q2 q3 q4 q5
    simp only [Act.put, List.setIfInBounds_toArray, List.set_cons_succ, List.set_cons_zero]
    replace HA := Lib.hid (HA.out.set5 HN.out.1 HN.out.2.1 HN.out.2.2.1 HN.out.2.2.2 q1 q2 q4)
    clear q1 q2 q3 q4 q5
    have z6 := HA.out.c6
    have zf6 := HA.out.f6
    go_upto_region 13 with fail
    have ha := HA.out.set6 HN.out.1 HN.out.2.1 HN.out.2.2.1 HN.out.2.2.2 code
    obtain ⟨w7, hw7⟩ : ∃ y, y = World.setCell w6 ⟨g6, 0, none⟩ (.int .i64 code) := ⟨_, rfl⟩
    rw [← hw7] at ha ⊢
    replace HA := Lib.hid ha
    clear ha hw7 z6 zf6
    have z6 := HA.out.c6
    go_upto_region 14 with fail
    clear z6
    refine Plan.wp_region_plan (fun w' => w'.cell? ⟨g6, 0, none⟩ = some (.int .i64 code)) (([0, 1].map (·, true)) ++ ([2, 3, 4].map (·, false))) (by kernel_rfl) (by kernel_rfl) (by kernel_rfl) (HA.out.below (Below.refl _ _).drew).c6 ?_
    refine' Plan.plan_seg _ [0, 1] ([2, 3, 4].map (·, false)) (by kernel_rfl) (by kernel_rfl) rfl (by exact (HA.out.below (Below.refl _ _).drew).c6) (fun wx hS => ?_) ?_
    rotate_left
    · go_light
      iterate 2 (apply Plan.seg_pick; rfl; intro K hK; go_wp)
      exact Plan.seg_nil
    obtain ⟨w10, hw10⟩ : ∃ y, y = World.drew w7 := ⟨_, rfl⟩
    rw [← hw10]
    replace HA := Lib.hid (HA.out.below (show Below w7.heap.size w7 w10 by rw [hw10]; exact (Below.refl _ _).drew))
    clear hw10
    refine Plan.plan_of_effect rfl (fun K hK => ?_)
    have z4 := HA.out.c4
    have zf4 := HA.out.f4
    go_wp2_with fail
    have ha := HA.out.set4 HN.out.1 HN.out.2.1 HN.out.2.2.1 HN.out.2.2.2 (.slice none 0 0)
    obtain ⟨w11, hw11⟩ : ∃ y, y = World.setCell w10 ⟨g4, 0, none⟩ (.slice none 0 0) := ⟨_, rfl⟩
    rw [← hw11] at ha ⊢
    replace HA := Lib.hid ha
    clear ha hw11 z4 zf4
    refine ⟨HA.out.c6, ?_⟩
    refine Plan.plan_of_effect rfl (fun K hK => ?_)
    refine wpl_storeE 0 0 0 0 0 0 0 none 0 0 HA.out.r rfl rfl rfl rfl ?_
    intro w12 q1 q2 q3 q4 q5
    simp only [Act.put, List.setIfInBounds_toArray, List.set_cons_succ, List.set_cons_zero]
    replace HA := Lib.hid (HA.out.set5 HN.out.1 HN.out.2.1 HN.out.2.2.1 HN.out.2.2.2 q1 q2 q4)
    clear q1 q2 q3 q4 q5
    go_wp2_with fail
    refine ⟨HA.out.c6, ?_⟩
    refine Plan.plan_of_effect rfl (fun K hK => ?_)
    have z6 := HA.out.c6
    have zf6 := HA.out.f6
    go_wp2_with fail
    have ha := HA.out.set6 HN.out.1 HN.out.2.1 HN.out.2.2.1 HN.out.2.2.2 code
    obtain ⟨w13, hw13⟩ : ∃ y, y = World.setCell w12 ⟨g6, 0, none⟩ (.int .i64 code) := ⟨_, rfl⟩
    rw [← hw13] at ha ⊢
    replace HA := Lib.hid ha
    clear ha hw13 z6 zf6
    refine ⟨HA.out.c6, ?_⟩
    refine Plan.plan_done ?_
    iterate 4 go_step
    refine leaves_cons (f := 83) (args := #[.pointer (some ⟨g4, 0, none⟩), .pointer (some ⟨g5, 0, none⟩), .pointer (some ⟨g6, 0, none⟩)]) (by simp) (by simp [go_sem]) ?_
    refine (idle43 _ _ _ _).mono ?_
    rintro e u' w'' ⟨rfl, rfl, rfl⟩
    refine ⟨_, results_apply Tryz.results45 rfl rfl rfl HA.out, ?_⟩
    exact .inr ⟨.inr HC0.out, rfl, HA.out.b⟩
set_option maxRecDepth 100000 in
set_option maxHeartbeats 16000000 in
theorem apply_clip {L M : Int} (v u : Value) (t l : List Trk.Clip) (k p m c d sn sd a b uk code : Int) (ok : Bool) (w : World) (h : Tk w v t) (ins : List Trk.Clip) (hu : Tk w u ins) (hV : VT L t) (hL : L ≤ 140737488355328) (hk : 5 ≤ k ∧ k ≤ 10)
    (hOK : ∀ w', Tk w' u ins → Calls Tryz.prog 84 #[edV k p m c d sn sd u] w' fun e w'' => e = .returned (.bool ok) ∧ Below w'.heap.size w' w'')
    (hM : ok = true → ∀ w' vn, Tk w' vn (Trk.nf t) → Tk w' u ins → Calls Tryz.prog 86 #[vn, edV k p m c d sn sd u] w' (MidPost w' (Trk.nf t) l a b uk code))
    (hl : code = 0 → Trk.VL M l ∧ Trk.total l ≤ 2147483647 ∧ l.length ≤ 1048576 ∧ (Trk.nf l).length ≤ 64) (hM2 : M ≤ 140737488355328) (hc : -1000 ≤ code ∧ code ≤ 1000) :
    Calls Tryz.prog 45 #[v, edV k p m c d sn sd u] w fun e w' => (ok = true ∧ code = 0 ∧ EdPost w (Trk.nf t) (Trk.nf l) a b uk e w') ∨
      ((ok = false ∨ code ≠ 0) ∧ e = .returned (.tuple #[.slice none 0 0, edV 0 0 0 0 0 0 0 (.slice none 0 0), .int .i64 (if ok = true then code else 1)]) ∧ Below w.heap.size w w') := by
  have HT := Lib.hid h
  have HU := Lib.hid hu
  have HOK := Lib.hid hOK
  have HM := Lib.hid hM
  have HL := Lib.hid hl
  have HK := Lib.hid hk
  have HVT := Lib.hid (fun w (h : Tk w v t) => vtrack_any v t w h hV hL)
  have HNO := Lib.hid (fun w (h : Tk w v t) => normal_any v t w h hV hL)
  obtain ⟨ua, um, uc, rfl⟩ : ∃ ao m cp, u = .slice ao m cp := by obtain ⟨ao, cp, e, _⟩ := hu; exact ⟨_, _, _, e⟩
  obtain ⟨hc1, hc2⟩ := hc
  unfold edV at HOK HM
  clear h hu hV hOK hM hl hk
  unfold edV
  go_enter_defers Tryz.func45, Tryz.ntmps45
  go_upto_region 2 with fail
  obtain ⟨w1, hw1⟩ : ∃ y, y = (((w.alloc (.cells (edC k p m c d sn sd (.slice ua um uc)) 40)).alloc (.cells #[.slice none 0 0] 23)).alloc (.cells (edC 0 0 0 0 0 0 0 (.slice none 0 0)) 40)).alloc (.cells #[.int .i64 0] 30) := ⟨_, rfl⟩
  have hw1' := hw1
  unfold edC at hw1'
  unfold edC
  rw [← hw1']
  clear hw1'
  obtain ⟨g3, hg3⟩ : ∃ g, g = w.heap.size := ⟨_, rfl⟩
  obtain ⟨g4, hg4⟩ : ∃ g, g = w.heap.size + 1 := ⟨_, rfl⟩
  obtain ⟨g5, hg5⟩ : ∃ g, g = w.heap.size + 1 + 1 := ⟨_, rfl⟩
  obtain ⟨g6, hg6⟩ : ∃ g, g = w.heap.size + 1 + 1 + 1 := ⟨_, rfl⟩
  have hab : AB w w1 g3 g4 g5 g6 k p m c d sn sd (.slice ua um uc) (.slice none 0 0) 0 0 0 (.slice none 0 0) 0 := by
    rw [hw1, hg3, hg4, hg5, hg6]
    refine ⟨?_, ?_, ?_, ?_, ?_, ?_, by go_grown⟩
    · constructor <;> simp [go_sem, edC]
    · simp [go_sem, edC]
    · simp [go_sem, edC]
    · constructor <;> simp [go_sem, edC]
    · simp [go_sem, edC]
    · simp [go_sem, edC]
  rw [← hg6, ← hg5, ← hg4, ← hg3]
  have h34 : g3 < g4 := by omega
  have h45 : g4 < g5 := by omega
  have h56 : g5 < g6 := by omega
  have h03 : w.heap.size ≤ g3 := by omega
  have HA := Lib.hid hab
  have HN := Lib.hid (And.intro h34 (And.intro h45 (And.intro h56 h03)))
  clear hw1 hab hg3 hg4 hg5 hg6 h34 h45 h56 h03
  go_wp2_with fail
  refine (HVT.out _ (HT.out.below HA.out.b)).mono ?_
  rintro e w2 ⟨rfl, hb⟩
  replace HA := Lib.hid (HA.out.below hb)
  clear hb HVT
  obtain ⟨e0, e1, e2, e3, e4, e5, e6, e7, ef⟩ := HA.out.a
  go_wp2_with fail
  refine (HOK.out _ (HU.out.below HA.out.b)).mono ?_
  rintro e w3 ⟨rfl, hb⟩
  replace HA := Lib.hid (HA.out.below hb)
  clear hb e0 e1 e2 e3 e4 e5 e6 e7 ef HOK
  cases ok
  case false =>
    go_upto_region 3 with fail
    apply wp_region_lit
    iterate 3 go_step
    have z4 := HA.out.c4
    have zf4 := HA.out.f4
    iterate 3 go_step
    have ha := HA.out.set4 HN.out.1 HN.out.2.1 HN.out.2.2.1 HN.out.2.2.2 (.slice none 0 0)
    obtain ⟨w4, hwn⟩ : ∃ y, y = World.setCell w3 ⟨g4, 0, none⟩ (.slice none 0 0) := ⟨_, rfl⟩
    rw [← hwn] at ha ⊢
    replace HA := Lib.hid ha
    clear ha hwn z4 zf4
    refine wpl_storeE 0 0 0 0 0 0 0 none 0 0 HA.out.r rfl rfl rfl rfl ?_
    intro w5 q1 q2 q3 q4 q5
    simp only [Act.put, List.setIfInBounds_toArray, List.set_cons_succ, List.set_cons_zero]
    replace HA := Lib.hid (HA.out.set5 HN.out.1 HN.out.2.1 HN.out.2.2.1 HN.out.2.2.2 q1 q2 q4)
    clear q1 q2 q3 q4 q5
    have z6 := HA.out.c6
    have zf6 := HA.out.f6
    iterate 3 go_step
    have ha := HA.out.set6 HN.out.1 HN.out.2.1 HN.out.2.2.1 HN.out.2.2.2 (1)
    obtain ⟨w6, hwn⟩ : ∃ y, y = World.setCell w5 ⟨g6, 0, none⟩ (.int .i64 (1)) := ⟨_, rfl⟩
    rw [← hwn] at ha ⊢
    replace HA := Lib.hid ha
    clear ha hwn z6 zf6
    iterate 4 go_step
    refine leaves_cons (f := 83) (args := #[.pointer (some ⟨g4, 0, none⟩), .pointer (some ⟨g5, 0, none⟩), .pointer (some ⟨g6, 0, none⟩)]) (by simp) (by simp [go_sem]) ?_
    refine (idle43 _ _ _ _).mono ?_
    rintro e u' w'' ⟨rfl, rfl, rfl⟩
    refine ⟨_, results_apply Tryz.results45 rfl rfl rfl HA.out, ?_⟩
    exact .inr ⟨.inl rfl, rfl, HA.out.b⟩
  have HM2 := Lib.hid (HM.out rfl)
  clear HM
  go_wp2_with fail
  refine (HNO.out _ (HT.out.below HA.out.b)).mono ?_
  rintro e w4 ⟨vn, rfl, ho, hb⟩
  replace HA := Lib.hid (HA.out.below hb)
  have HTN := Lib.hid ho.tk
  clear ho hb HNO
  have e0 := HA.out.a.k0
  go_upto_if 30 with fail
  go_cut [30] from 31 (fun v30 wx => v30 = .bool false ∧ wx = w4)
  case first =>
    have b1 : (k == 1) = false := by have := HK.out; simp; omega
    have b2 : (k == 2) = false := by have := HK.out; simp; omega
    have b3 : (k == 3) = false := by have := HK.out; simp; omega
    have b4 : (k == 4) = false := by have := HK.out; simp; omega
    go_wp2_with fail
    go_meet
    case rel => exact ⟨rfl, rfl⟩
  obtain ⟨rfl, rfl⟩ := hcut
  clear e0
  go_upto_region 7 with fail
  apply wp_region_lit
  iterate 3 go_step
  refine wpl_loadE HA.out.a rfl rfl rfl ?_
  simp only [Act.put, List.setIfInBounds_toArray, List.set_cons_succ, List.set_cons_zero]
  iterate 2 go_step
  refine (HM2.out _ _ HTN.out (HU.out.below HA.out.b)).mono ?_
  rintro e w5 (⟨hc0, v', vr, rfl, ho, hor, hb⟩ | ⟨hc0, rfl, hb⟩)
  · subst hc0
    obtain ⟨hl1, hl2, hl3, hl4⟩ := HL.out rfl
    obtain ⟨mm, hmm⟩ : ∃ mm, mm = (if uk = 2 then b - a else 0) := ⟨_, rfl⟩
    have hE : EdV (Trk.backOf (Trk.nf t) a b uk) vr = .agg (edC uk a mm 0 0 0 0 vr) := by rw [hmm]; rfl
    rw [hE]
    have HE := Lib.hid hE
    have HEN := Lib.hid (fun w v (h : Tk w v l) => enormal_any v l w h hl1 hM2 hl2 hl3)
    obtain ⟨ra, rc, rfl, -⟩ := hor.tk
    obtain ⟨rl, hrl⟩ : ∃ m, m = (Trk.backOf (Trk.nf t) a b uk).ins.length := ⟨_, rfl⟩
    rw [← hrl] at hor HE ⊢
    have HGR := Lib.hid (show ∀ g kk cp, Value.slice ra rl rc = .slice (some ⟨g, 0, none⟩) kk cp → g6 < g from fun g kk cp e => by have h1 := (hor.blk e).1; have h2 := block_lt_of_cell HA.out.c6; simp only at h2; omega)
    have HOR := Lib.hid (hor.lower HA.out.b.size)
    have HGL := Lib.hid (show ∀ g kk cp, v' = .slice (some ⟨g, 0, none⟩) kk cp → g6 < g from fun g kk cp e => by have h1 := (ho.blk e).1; have h2 := block_lt_of_cell HA.out.c6; simp only at h2; omega)
    have HOL := Lib.hid ho
    replace HA := Lib.hid (HA.out.below hb)
    clear hE hor ho hb hmm hrl hl1 hl2 hl3
    dsimp only
    iterate 16 go_step
    refine wpl_storeE uk a mm 0 0 0 0 ra rl rc HA.out.r rfl rfl rfl rfl ?_
    intro w6 q1 q2 q3 q4 q5
    simp only [Act.put, List.setIfInBounds_toArray, List.set_cons_succ, List.set_cons_zero]
    replace HA := Lib.hid (HA.out.set5 HN.out.1 HN.out.2.1 HN.out.2.2.1 HN.out.2.2.2 q1 q2 q4)
    replace HOL := Lib.hid (HOL.out.blocks (fun g kk cp e => q2 g (by have := HGL.out g kk cp e; have := HN.out.2.2.1; omega)))
    replace HOR := Lib.hid (HOR.out.blocks (fun g kk cp e => q2 g (by have := HGR.out g kk cp e; have := HN.out.2.2.1; omega)))
    clear q1 q2 q3 q4 q5
    have z6 := HA.out.c6
    have zf6 := HA.out.f6
    go_upto_region 13 with fail
    have ha := HA.out.set6 HN.out.1 HN.out.2.1 HN.out.2.2.1 HN.out.2.2.2 0
    have ho := HOL.out.apart (p := ⟨g6, 0, none⟩) (fun g kk cp e => Nat.ne_of_lt (HGL.out g kk cp e)) (.int .i64 0)
    have hor := HOR.out.apart (p := ⟨g6, 0, none⟩) (fun g kk cp e => Nat.ne_of_lt (HGR.out g kk cp e)) (.int .i64 0)
    obtain ⟨w7, hw7⟩ : ∃ y, y = World.setCell w6 ⟨g6, 0, none⟩ (.int .i64 0) := ⟨_, rfl⟩
    rw [← hw7] at ha ho hor ⊢
    replace HA := Lib.hid ha
    replace HOL := Lib.hid ho
    replace HOR := Lib.hid hor
    clear ha ho hor hw7 z6 zf6
    have z6 := HA.out.c6
    go_wp2_with fail
    refine (HEN.out _ _ HOL.out.tk).mono ?_
    rintro e w8 ⟨va, rfl, ho, hb⟩
    obtain ⟨na, ca, rfl, -⟩ := ho.tk
    obtain ⟨la, hla⟩ : ∃ m, m = (Trk.nf l).length := ⟨_, rfl⟩
    rw [← hla] at ho hl4 ⊢
    have HGV := Lib.hid (show ∀ g kk cp, Value.slice na la ca = .slice (some ⟨g, 0, none⟩) kk cp → g6 < g from fun g kk cp e => by have h1 := (ho.blk e).1; have h2 := block_lt_of_cell HA.out.c6; simp only at h2; omega)
    have HOV := Lib.hid (ho.lower HA.out.b.size)
    replace HA := Lib.hid (HA.out.below hb)
    replace HOR := Lib.hid (HOR.out.below hb)
    clear ho hb hla z6 HOL HGL
    have z4 := HA.out.c4
    have zf4 := HA.out.f4
    go_upto_region 16 with fail
    have ha := HA.out.set4 HN.out.1 HN.out.2.1 HN.out.2.2.1 HN.out.2.2.2 (.slice na la ca)
    have ho := HOV.out.apart (p := ⟨g4, 0, none⟩) (fun g kk cp e => by have := HGV.out g kk cp e; have := HN.out; show g4 ≠ g; omega) (.slice na la ca)
    have hor := HOR.out.apart (p := ⟨g4, 0, none⟩) (fun g kk cp e => by have := HGR.out g kk cp e; have := HN.out; show g4 ≠ g; omega) (.slice na la ca)
    obtain ⟨w9, hw9⟩ : ∃ y, y = World.setCell w8 ⟨g4, 0, none⟩ (.slice na la ca) := ⟨_, rfl⟩
    rw [← hw9] at ha ho hor ⊢
    replace HA := Lib.hid ha
    replace HOV := Lib.hid ho
    replace HOR := Lib.hid hor
    clear ha ho hor hw9 z4 zf4
    have z4 := HA.out.c4
    have hl4' : ¬ (64 : Int) < (la : Int) := by omega
    go_upto_region 18 with fail
    clear z4
    refine Plan.wp_region_plan (fun w' => w'.cell? ⟨g4, 0, none⟩ = some (.slice na la ca) ∧ ED w' g5 uk a mm 0 0 0 0 (.slice ra rl rc)) (([0, 1].map (·, true)) ++ ([2, 3, 4].map (·, false))) (by kernel_rfl) (by kernel_rfl) (by kernel_rfl) ⟨(HA.out.below (Below.refl _ _).drew).c4, (HA.out.below (Below.refl _ _).drew).r⟩ ?_
    refine' Plan.plan_seg _ [0, 1] ([2, 3, 4].map (·, false)) (by kernel_rfl) (by kernel_rfl) rfl (by exact ⟨(HA.out.below (Below.refl _ _).drew).c4, (HA.out.below (Below.refl _ _).drew).r⟩) (fun wx hS => ?_) ?_
    rotate_left
    · obtain ⟨S1, S2⟩ := hS
      have HS2 := Lib.hid S2
      clear S2
      go_light
      iterate 1 (apply Plan.seg_pick; rfl; intro K hK; go_wp)
      (apply Plan.seg_pick; rfl; intro K hK)
      refine wpl_loadE HS2.out rfl rfl rfl ?_
      go_wp
      exact Plan.seg_nil
    obtain ⟨w10, hw10⟩ : ∃ y, y = World.drew w9 := ⟨_, rfl⟩
    rw [← hw10]
    have hb10 : Below w9.heap.size w9 w10 := by rw [hw10]; exact (Below.refl _ _).drew
    replace HA := Lib.hid (HA.out.below hb10)
    replace HOV := Lib.hid (HOV.out.below hb10)
    replace HOR := Lib.hid (HOR.out.below hb10)
    clear hb10 hw10
    refine Plan.plan_of_effect rfl (fun K hK => ?_)
    have z4 := HA.out.c4
    have zf4 := HA.out.f4
    go_wp2_with fail
    have ha := HA.out.set4 HN.out.1 HN.out.2.1 HN.out.2.2.1 HN.out.2.2.2 (.slice na la ca)
    have ho := HOV.out.apart (p := ⟨g4, 0, none⟩) (fun g kk cp e => by have := HGV.out g kk cp e; have := HN.out; show g4 ≠ g; omega) (.slice na la ca)
    have hor := HOR.out.apart (p := ⟨g4, 0, none⟩) (fun g kk cp e => by have := HGR.out g kk cp e; have := HN.out; show g4 ≠ g; omega) (.slice na la ca)
    obtain ⟨w11, hw11⟩ : ∃ y, y = World.setCell w10 ⟨g4, 0, none⟩ (.slice na la ca) := ⟨_, rfl⟩
    rw [← hw11] at ha ho hor ⊢
    replace HA := Lib.hid ha
    replace HOV := Lib.hid ho
    replace HOR := Lib.hid hor
    clear ha ho hor hw11 z4 zf4
    first | refine ⟨⟨HA.out.c4, HA.out.r⟩, ?_⟩ | refine ⟨HA.out.r, ?_⟩ | refine ⟨HA.out.c4, HA.out.r, ?_⟩
    refine Plan.plan_of_effect rfl (fun K hK => ?_)
    refine wpl_storeE uk a mm 0 0 0 0 ra rl rc HA.out.r rfl rfl rfl rfl ?_
    intro w12 q1 q2 q3 q4 q5
    simp only [Act.put, List.setIfInBounds_toArray, List.set_cons_succ, List.set_cons_zero]
    replace HA := Lib.hid (HA.out.set5 HN.out.1 HN.out.2.1 HN.out.2.2.1 HN.out.2.2.2 q1 q2 q4)
    replace HOV := Lib.hid (HOV.out.blocks (fun g kk cp e => q2 g (by have := HGV.out g kk cp e; have := HN.out.2.2.1; omega)))
    replace HOR := Lib.hid (HOR.out.blocks (fun g kk cp e => q2 g (by have := HGR.out g kk cp e; have := HN.out.2.2.1; omega)))
    clear q1 q2 q3 q4 q5
    go_wp2_with fail
    first | refine ⟨⟨HA.out.c4, HA.out.r⟩, ?_⟩ | refine ⟨HA.out.r, ?_⟩ | refine ⟨HA.out.c4, HA.out.r, ?_⟩
    refine Plan.plan_of_effect rfl (fun K hK => ?_)
    have z6 := HA.out.c6
    have zf6 := HA.out.f6
    go_wp2_with fail
    have ha := HA.out.set6 HN.out.1 HN.out.2.1 HN.out.2.2.1 HN.out.2.2.2 0
    have ho := HOV.out.apart (p := ⟨g6, 0, none⟩) (fun g kk cp e => Nat.ne_of_lt (HGV.out g kk cp e)) (.int .i64 0)
    have hor := HOR.out.apart (p := ⟨g6, 0, none⟩) (fun g kk cp e => Nat.ne_of_lt (HGR.out g kk cp e)) (.int .i64 0)
    obtain ⟨w13, hw13⟩ : ∃ y, y = World.setCell w12 ⟨g6, 0, none⟩ (.int .i64 0) := ⟨_, rfl⟩
    rw [← hw13] at ha ho hor ⊢
    replace HA := Lib.hid ha
    replace HOV := Lib.hid ho
    replace HOR := Lib.hid hor
    clear ha ho hor hw13 z6 zf6
    first | refine ⟨⟨HA.out.c4, HA.out.r⟩, ?_⟩ | refine ⟨HA.out.r, ?_⟩ | refine ⟨HA.out.c4, HA.out.r, ?_⟩
    refine Plan.plan_done ?_
    iterate 3 go_step
    refine leaves_cons (f := 83) (args := #[.pointer (some ⟨g4, 0, none⟩), .pointer (some ⟨g5, 0, none⟩), .pointer (some ⟨g6, 0, none⟩)]) (by simp) (by simp [go_sem]) ?_
    refine (idle43 _ _ _ _).mono ?_
    rintro e u' w'' ⟨rfl, rfl, rfl⟩
    refine ⟨_, results_apply Tryz.results45 rfl rfl rfl HA.out, ?_⟩
    refine .inl ⟨rfl, rfl, .slice na la ca, .slice ra rl rc, ?_, HOV.out, HOR.out, HA.out.b⟩
    rw [HE.out]
    rfl
  · have hcb : (code == 0) = false := by simpa using hc0
    have HC0 := Lib.hid hc0
    replace HA := Lib.hid (HA.out.below hb)
    clear hb hc0
    dsimp only
    iterate 16 go_step
    refine wpl_storeE 0 0 0 0 0 0 0 none 0 0 HA.out.r rfl rfl rfl rfl ?_
    intro w6 q1 q2 q3 q4 q5
    simp only [Act.put, List.setIfInBounds_toArray, List.set_cons_succ, List.set_cons_zero]
    replace HA := Lib.hid (HA.out.set5 HN.out.1 HN.out.2.1 HN.out.2.2.1 HN.out.2.2.2 q1 q2 q4)
    clear q1 q2 q3 q4 q5
    have z6 := HA.out.c6
    have zf6 := HA.out.f6
    go_upto_region 13 with fail
    have ha := HA.out.set6 HN.out.1 HN.out.2.1 HN.out.2.2.1 HN.out.2.2.2 code
    obtain ⟨w7, hw7⟩ : ∃ y, y = World.setCell w6 ⟨g6, 0, none⟩ (.int .i64 code) := ⟨_, rfl⟩
    rw [← hw7] at ha ⊢
    replace HA := Lib.hid ha
    clear ha hw7 z6 zf6
    have z6 := HA.out.c6
    go_upto_region 14 with fail
    clear z6
    refine Plan.wp_region_plan (fun w' => w'.cell? ⟨g6, 0, none⟩ = some (.int .i64 code)) (([0, 1].map (·, true)) ++ ([2, 3, 4].map (·, false))) (by kernel_rfl) (by kernel_rfl) (by kernel_rfl) (HA.out.below (Below.refl _ _).drew).c6 ?_
    refine' Plan.plan_seg _ [0, 1] ([2, 3, 4].map (·, false)) (by kernel_rfl) (by kernel_rfl) rfl (by exact (HA.out.below (Below.refl _ _).drew).c6) (fun wx hS => ?_) ?_
    rotate_left
    · go_light
      iterate 2 (apply Plan.seg_pick; rfl; intro K hK; go_wp)
      exact Plan.seg_nil
    obtain ⟨w10, hw10⟩ : ∃ y, y = World.drew w7 := ⟨_, rfl⟩
    rw [← hw10]
    replace HA := Lib.hid (HA.out.below (show Below w7.heap.size w7 w10 by rw [hw10]; exact (Below.refl _ _).drew))
    clear hw10
    refine Plan.plan_of_effect rfl (fun K hK => ?_)
    have z4 := HA.out.c4
    have zf4 := HA.out.f4
    go_wp2_with fail
    have ha := HA.out.set4 HN.out.1 HN.out.2.1 HN.out.2.2.1 HN.out.2.2.2 (.slice none 0 0)
    obtain ⟨w11, hw11⟩ : ∃ y, y = World.setCell w10 ⟨g4, 0, none⟩ (.slice none 0 0) := ⟨_, rfl⟩
    rw [← hw11] at ha ⊢
    replace HA := Lib.hid ha
    clear ha hw11 z4 zf4
    refine ⟨HA.out.c6, ?_⟩
    refine Plan.plan_of_effect rfl (fun K hK => ?_)
    refine wpl_storeE 0 0 0 0 0 0 0 none 0 0 HA.out.r rfl rfl rfl rfl ?_
    intro w12 q1 q2 q3 q4 q5
    simp only [Act.put, List.setIfInBounds_toArray, List.set_cons_succ, List.set_cons_zero]
    replace HA := Lib.hid (HA.out.set5 HN.out.1 HN.out.2.1 HN.out.2.2.1 HN.out.2.2.2 q1 q2 q4)
    clear q1 q2 q3 q4 q5
    go_wp2_with fail
    refine ⟨HA.out.c6, ?_⟩
    refine Plan.plan_of_effect rfl (fun K hK => ?_)
    have z6 := HA.out.c6
    have zf6 := HA.out.f6
    go_wp2_with fail
    have ha := HA.out.set6 HN.out.1 HN.out.2.1 HN.out.2.2.1 HN.out.2.2.2 code
    obtain ⟨w13, hw13⟩ : ∃ y, y = World.setCell w12 ⟨g6, 0, none⟩ (.int .i64 code) := ⟨_, rfl⟩
    rw [← hw13] at ha ⊢
    replace HA := Lib.hid ha
    clear ha hw13 z6 zf6
    refine ⟨HA.out.c6, ?_⟩
    refine Plan.plan_done ?_
    iterate 4 go_step
    refine leaves_cons (f := 83) (args := #[.pointer (some ⟨g4, 0, none⟩), .pointer (some ⟨g5, 0, none⟩), .pointer (some ⟨g6, 0, none⟩)]) (by simp) (by simp [go_sem]) ?_
    refine (idle43 _ _ _ _).mono ?_
    rintro e u' w'' ⟨rfl, rfl, rfl⟩
    refine ⟨_, results_apply Tryz.results45 rfl rfl rfl HA.out, ?_⟩
    exact .inr ⟨.inr HC0.out, rfl, HA.out.b⟩
end Go.Proofs.YtfoohocgdcgbcaaGreat

/- The tape's speeds. -/
namespace Go.Proofs.YtfoohocgdcgbcaaGreat
open Go.RowKit
set_option linter.unusedVariables false
set_option linter.unusedSimpArgs false
theorem TP.below {w w' : World} {B p k : Nat} (h : TP w B p k) (hB : B ≤ w.heap.size) (hb : Below w.heap.size w w') : TP w' B p k := by
  obtain ⟨h1, h2, ao, n, c, c0, c1, hf, h3, h4, h5⟩ := h
  refine ⟨h1, Nat.lt_of_lt_of_le h2 hb.size, ao, n, c, (hb.cell h2).trans c0, (hb.cell h2).trans c1, (hb.frozen (p := ⟨p, 1, none⟩) h2).trans hf, h3, h4, fun i hi => ?_⟩
  obtain ⟨b, o, x, e, hbB, hc⟩ := h5 i hi
  exact ⟨b, o, x, e, hbB, (hb.cell (Nat.lt_of_lt_of_le hbB hB)).trans hc⟩
theorem TP.turn {w w' : World} {B p k g : Nat} (h : TP w B p k) (ht : Turn g w w') (hp : p ≠ g) (hB : B ≤ g) : TP w' B p k := by
  obtain ⟨h1, h2, ao, n, c, c0, c1, hf, h3, h4, h5⟩ := h
  refine ⟨h1, Nat.lt_of_lt_of_le h2 ht.s, ao, n, c, ht.get hp c0, ht.get hp c1, (World.frozen?_of_block (a := ⟨p, 1, none⟩) (ht.o p h2 hp)).trans hf, h3, h4, fun i hi => ?_⟩
  obtain ⟨b, o, x, e, hbB, hc⟩ := h5 i hi
  exact ⟨b, o, x, e, hbB, ht.get (by omega) hc⟩
theorem Turn.grown {w w' : World} {g : Nat} (h : w.grownBy w' (some g)) (hg : g < w.heap.size) : Turn g w w' :=
  ⟨h.size, fun b hb hn => h.block b hb (by simpa using hn), fun n w0 hn hb => hb.trans (only_below h hn (by omega))⟩
/-- The tape went on by at most j numbers; only its place is turned. -/
def TQ (w : World) (B p k j : Nat) (w' : World) : Prop := (∃ k', k' ≤ k + j ∧ TP w' B p k') ∧ Turn p w w'
/-- Allocations beside the tape: what is turned is still the tape alone, seen from before. -/
theorem Turn.into {w w1 w2 : World} {p g : Nat} (h : Turn p w w1) (hg : w.heap.size ≤ g) (hp : p ≤ g) (k : Turn g w1 w2) : Turn p w w2 :=
  ⟨Nat.le_trans h.s k.s, fun b hb hn => (k.o b (Nat.lt_of_lt_of_le hb h.s) (by omega)).trans (h.o b hb hn), fun n w0 hn hb => k.b n w0 (by omega) (h.b n w0 hn hb)⟩
def RatPost (w : World) (B p k j : Nat) (P : Int → Int → Prop) (e : Ending) (w' : World) : Prop := (∃ n d : Int, e = .returned (.agg #[.int .i64 n, .int .i64 d]) ∧ P n d) ∧ TQ w B p k j w'
set_option maxRecDepth 100000 in
set_option maxHeartbeats 4000000 in
theorem speed_any (B p k : Nat) (w : World) (ht : TP w B p k) (hk : k < 1000000) :
    Calls Tryz.prog 88 #[.pointer (some ⟨p, 0, none⟩)] w (RatPost w B p k 1 Trk.SpeedOK) := by
  have HT := Lib.hid ht
  clear ht
  go_enter Tryz.func88, Tryz.ntmps88
  go_wp2_with fail
  obtain ⟨w1, hw1⟩ : ∃ x, x = (w.alloc (.cells #[.int .i64 0, .int .i64 0] 38)).alloc (.cells #[.int .i64 1, .int .i64 1, .int .i64 1, .int .i64 1, .int .i64 1, .int .i64 1, .int .i64 0, .int .i64 1, .int .i64 (-1), .int .i64 1, .int .i64 1, .int .i64 2, .int .i64 2, .int .i64 1, .int .i64 800, .int .i64 1001, .int .i64 (-3), .int .i64 2] 38) := ⟨_, rfl⟩
  rw [← hw1]
  have hb1 : Below w.heap.size w w1 := by rw [hw1]; go_grown
  obtain ⟨g1, hg1⟩ : ∃ g, g = w.heap.size := ⟨_, rfl⟩
  obtain ⟨g2, hg2⟩ : ∃ g, g = w.heap.size + 1 := ⟨_, rfl⟩
  have hr1 : w1.heap[g2]? = some (.cells #[.int .i64 1, .int .i64 1, .int .i64 1, .int .i64 1, .int .i64 1, .int .i64 1, .int .i64 0, .int .i64 1, .int .i64 (-1), .int .i64 1, .int .i64 1, .int .i64 2, .int .i64 2, .int .i64 1, .int .i64 800, .int .i64 1001, .int .i64 (-3), .int .i64 2] 38 (0, 0)) := by
    have h := (MapKept.heap_alloc (w.alloc (.cells #[.int .i64 0, .int .i64 0] 38)) (.cells #[.int .i64 1, .int .i64 1, .int .i64 1, .int .i64 1, .int .i64 1, .int .i64 1, .int .i64 0, .int .i64 1, .int .i64 (-1), .int .i64 1, .int .i64 1, .int .i64 2, .int .i64 2, .int .i64 1, .int .i64 800, .int .i64 1001, .int .i64 (-3), .int .i64 2] 38)).1
    rw [show (w.alloc (.cells #[.int .i64 0, .int .i64 0] 38)).heap.size = w.heap.size + 1 by simp] at h
    rw [hw1, hg2]
    exact h
  have hq1 : w1.heap[g1]? = some (.cells #[.int .i64 0, .int .i64 0] 38 (0, 0)) := by
    rw [hw1, hg1, Below.heap_alloc _ _ _ (by simp)]
    exact (MapKept.heap_alloc w _).1
  have hp := HT.out.2.1
  have hT1 := HT.out.below (Nat.le_trans HT.out.1 (Nat.le_of_lt hp)) hb1
  have hl1 : g1 < w1.heap.size := (Array.getElem?_eq_some_iff.1 hq1).1
  have hl2 : g2 < w1.heap.size := (Array.getElem?_eq_some_iff.1 hr1).1
  rw [← hg2, ← hg1]
  have n1 : g1 ≠ p := by omega
  have n2 : g2 ≠ p := by omega
  have n3 : ¬ g1 = g2 := by omega
  have HG1 := Lib.hid (show w.heap.size ≤ g1 by omega)
  have HTU := Lib.hid (Turn.of (g := p) (Nat.le_of_lt hp) hb1)
  clear hw1 hg1 hg2 hb1
  refine (next_any B p k 9 w1 hT1 hk (by omega) (by omega)).mono ?_
  rintro e w2 ⟨r, rfl, r0, r1, hT2, hgr⟩
  have hr := (hgr.block g2 hl2 (by simpa using n2)).trans hr1
  have hq := (hgr.block g1 hl1 (by simpa using n1)).trans hq1
  have y0 : w2.cell? ⟨g2, 0, none⟩ = some (.int .i64 1) := by simp [World.cell?, hr]
  have y1 : w2.cell? ⟨g2, 1, none⟩ = some (.int .i64 1) := by simp [World.cell?, hr]
  have y2 : w2.cell? ⟨g2, 2, none⟩ = some (.int .i64 1) := by simp [World.cell?, hr]
  have y3 : w2.cell? ⟨g2, 3, none⟩ = some (.int .i64 1) := by simp [World.cell?, hr]
  have y4 : w2.cell? ⟨g2, 4, none⟩ = some (.int .i64 1) := by simp [World.cell?, hr]
  have y5 : w2.cell? ⟨g2, 5, none⟩ = some (.int .i64 1) := by simp [World.cell?, hr]
  have y6 : w2.cell? ⟨g2, 6, none⟩ = some (.int .i64 0) := by simp [World.cell?, hr]
  have y7 : w2.cell? ⟨g2, 7, none⟩ = some (.int .i64 1) := by simp [World.cell?, hr]
  have y8 : w2.cell? ⟨g2, 8, none⟩ = some (.int .i64 (-1)) := by simp [World.cell?, hr]
  have y9 : w2.cell? ⟨g2, 9, none⟩ = some (.int .i64 1) := by simp [World.cell?, hr]
  have y10 : w2.cell? ⟨g2, 10, none⟩ = some (.int .i64 1) := by simp [World.cell?, hr]
  have y11 : w2.cell? ⟨g2, 11, none⟩ = some (.int .i64 2) := by simp [World.cell?, hr]
  have y12 : w2.cell? ⟨g2, 12, none⟩ = some (.int .i64 2) := by simp [World.cell?, hr]
  have y13 : w2.cell? ⟨g2, 13, none⟩ = some (.int .i64 1) := by simp [World.cell?, hr]
  have y14 : w2.cell? ⟨g2, 14, none⟩ = some (.int .i64 800) := by simp [World.cell?, hr]
  have y15 : w2.cell? ⟨g2, 15, none⟩ = some (.int .i64 1001) := by simp [World.cell?, hr]
  have y16 : w2.cell? ⟨g2, 16, none⟩ = some (.int .i64 (-3)) := by simp [World.cell?, hr]
  have y17 : w2.cell? ⟨g2, 17, none⟩ = some (.int .i64 2) := by simp [World.cell?, hr]
  have z0 : w2.cell? ⟨g1, 0, none⟩ = some (.int .i64 0) := by simp [World.cell?, hq]
  have z1 : w2.cell? ⟨g1, 1, none⟩ = some (.int .i64 0) := by simp [World.cell?, hq]
  have zf : ∀ o, w2.frozen? ⟨g1, o, none⟩ = false := fun o => by simp [World.frozen?, hq]
  have HT2 := Lib.hid hT2
  have HTU2 := Lib.hid (HTU.out.trans (Turn.grown hgr hT1.2.1))
  have HN := Lib.hid n1
  clear hT2 hT1 hr hq hr1 hq1 hgr hl1 hl2 hp n1
  obtain rfl | rfl | rfl | rfl | rfl | rfl | rfl | rfl | rfl : r = 0 ∨ r = 1 ∨ r = 2 ∨ r = 3 ∨ r = 4 ∨ r = 5 ∨ r = 6 ∨ r = 7 ∨ r = 8 := by omega
  all_goals
    go_wp2_with fail
    refine bodyPost_ret (by simp [results, Tryz.results88, go_sem, z0, z1, asAddr]; rfl) rfl ?_
    have hB := HT.out.1
    have hp2 := HT.out.2.1
    have hg1 := HG1.out
    refine ⟨⟨_, _, rfl, by decide, by decide, by decide, by decide, by decide⟩, ⟨k + 1, Nat.le_refl _, ?_⟩, ?_⟩
    · exact (HT2.out.turn (Turn.cell g1 0 _ _) HN.out.symm (by omega)).turn (Turn.cell g1 1 _ _) HN.out.symm (by omega)
    · exact (HTU2.out.into hg1 (by omega) (Turn.cell g1 0 _ _)).into hg1 (by omega) (Turn.cell g1 1 _ _)
end Go.Proofs.YtfoohocgdcgbcaaGreat

/- Regions in which two operations with an effect may come up in either order: a plan that forks. -/
namespace Go.Plan
open Go

/-- A plan that may fork. -/
inductive PT where
  | leaf
  | run (l : List (Nat × Bool)) (r : PT)
  | fork (i : Nat) (r : PT) (j : Nat) (s : PT)
  | dyn (r : PT)

def PT.cnt : PT → Nat
  | leaf => 0
  | run l r => r.cnt + l.length
  | fork _ r _ _ => r.cnt + 1
  | dyn r => r.cnt

def treeGo (ops : Array Oper) (z : Nat) : Array Bool → PT → Bool
  | listed, .leaf => (Region.ready .any ops listed).isEmpty
  | listed, .run l r => match planGo ops z listed l with
    | some l' => treeGo ops z l' r && decide (l'.size = ops.size)
    | none => false
  | listed, .fork i r j s => Region.ready .any ops listed == [i, j] && decide (r.cnt = s.cnt) && decide (listed.size = ops.size) && treeGo ops z (listed.setIfInBounds i true) r && treeGo ops z (listed.setIfInBounds j true) s
  | listed, .dyn r => treeGo ops z listed r

section
variable {P : Program} {ops : Array Oper} {Q : Exit → Act → World → Prop} {S : World → Prop} {z : Nat}

def wpTree (P : Program) (ops : Array Oper) (Q : Exit → Act → World → Prop) : PT → (World → Prop) → Act → World → Prop
  | .leaf, _, a, w => Q .normal a w
  | .run l r, S, a, w => wpPlan P ops Q S ops.size (wpTree P ops Q r S) l a w
  | .fork i r j s, S, a, w => wpOp P ops Q i (fun a' w' => S w' ∧ wpTree P ops Q r S a' w') a w ∧ wpOp P ops Q j (fun a' w' => S w' ∧ wpTree P ops Q s S a' w') a w
  | .dyn r, S, a, w => ∃ S2 : World → Prop, (∀ w, S2 w → S w) ∧ S2 w ∧ wpTree P ops Q r S2 a w

theorem anyS_weak {S S2 : World → Prop} (h : ∀ w, S2 w → S w) : ∀ (fuel : Nat) (listed : Array Bool) (a : Act) (w : World), anyS P ops Q S2 z fuel listed a w → anyS P ops Q S z fuel listed a w
  | 0, _, _, _, h' => h'
  | fuel + 1, _, _, _, h' => ⟨h'.1, fun i hi => wpOp_mono (fun a' w' hx => ⟨fun hz => h _ (hx.1 hz), anyS_weak h fuel _ a' w' hx.2⟩) (h'.2 i hi)⟩

theorem held_of_tree (hs : Region.noSelect ops = true) (hQ : ∀ c a d v w, Q (.panic c) (a.put d v) w → Q (.panic c) a w) :
    ∀ (t : PT) (S : World → Prop) (listed : Array Bool) (a : Act) (w : World), treeGo ops ops.size listed t = true → listed.size = ops.size → S w → wpTree P ops Q t S a w → anyS P ops Q S ops.size t.cnt listed a w
  | .leaf, S, listed, a, w, hg, _, hS, h => anyS_done (by simpa [treeGo] using hg) h 0
  | .run l r, S, listed, a, w, hg, hl, hS, h => by
    simp only [treeGo] at hg
    split at hg
    · rename_i l' hl'
      simp only [Bool.and_eq_true, decide_eq_true_eq] at hg
      refine held_of_plan hs (lastOK_none ops) hQ l' r.cnt (fun a w hSw hC => held_of_tree hs hQ r S l' a w hg.1 hg.2 (hSw ?_) hC) l listed a w hl' hl (fun _ => hS) h
      have e : l'.getD ops.size false = false := by
        rw [Array.getD_eq_getD_getElem?, Array.getElem?_eq_none (by omega)]
        rfl
      rw [e]; simp
    · cases hg
  | .fork i r j s, S, listed, a, w, hg, hl, hS, h => by
    simp only [treeGo, Bool.and_eq_true, beq_iff_eq, decide_eq_true_eq] at hg
    obtain ⟨⟨⟨⟨hr, hc⟩, _⟩, h1⟩, h2⟩ := hg
    refine ⟨fun h0 => by rw [hr] at h0; simp at h0, fun k hk => ?_⟩
    rw [hr] at hk
    simp only [List.mem_cons, List.not_mem_nil, or_false] at hk
    rcases hk with rfl | rfl
    · exact wpOp_mono (fun a' w' h' => ⟨fun _ => h'.1, held_of_tree hs hQ r S _ a' w' h1 (by simp [hl]) h'.1 h'.2⟩) h.1
    · refine wpOp_mono (fun a' w' h' => ⟨fun _ => h'.1, ?_⟩) h.2
      rw [show r.cnt = s.cnt from hc]
      exact held_of_tree hs hQ s S _ a' w' h2 (by simp [hl]) h'.1 h'.2
  | .dyn r, S, listed, a, w, hg, hl, hS, h => by
    obtain ⟨S2, h1, h2, h3⟩ := h
    exact anyS_weak h1 _ _ _ _ (held_of_tree hs hQ r S2 listed a w hg hl h2 h3)

theorem wp_region_tree {id : Nat} {l : List Oper} {a : Act} {w : World} (S : World → Prop) (t : PT) (hm : P.follows .mixedOrders = true)
    (hs : Region.noSelect l.toArray = true) (hp : (treeGo l.toArray l.toArray.size (Array.replicate l.toArray.size false) t && decide (t.cnt = l.toArray.size)) = true)
    (hS : S w.drew) (h : wpTree P l.toArray (NoPanic Q) t S a w.drew) : (Code.region id l.toArray true).wp P Q a w := by
  simp only [Bool.and_eq_true, decide_eq_true_eq] at hp
  refine wp_region_noPanic (wp_region_any hm (any_of_anyS (S := S) (z := l.toArray.size) _ _ _ _ ?_))
  have := held_of_tree (P := P) (Q := NoPanic Q) hs (fun c a d v w h => h.elim) t S _ a w.drew hp.1 (by simp) hS h
  rw [hp.2] at this
  exact this

/-- An operation of a fork, walked as ever. -/
theorem op_of_list {i : Nat} {o : Oper} {T : Act → World → Prop} {a : Act} {w : World} (ho : ops[i]? = some o)
    (h : ∀ K : Act → World → Prop, (∀ a' w', S w' ∧ T a' w' → K a' w') → wpList P ops (Exit.then K Q) [o] a w) : wpOp P ops Q i (fun a' w' => S w' ∧ T a' w') a w := by
  have := plan_of_effect (P := P) (Q := Q) (S := fun _ => True) (z := ops.size) (C := fun a' w' => S w' ∧ T a' w') (rest := []) (i := i) ho
    (fun K hK => h K fun a' w' h' => hK a' w' ⟨trivial, h'⟩)
  exact wpOp_mono (fun a' w' h' => h'.2) this
theorem tree_leaf {a : Act} {w : World} (h : Q .normal a w) : wpTree P ops (NoPanic Q) .leaf S a w := h
theorem tree_run {l : List (Nat × Bool)} {r : PT} {a : Act} {w : World} (h : wpPlan P ops Q S ops.size (wpTree P ops Q r S) l a w) : wpTree P ops Q (.run l r) S a w := h
theorem tree_dyn {r : PT} {a : Act} {w : World} (S2 : World → Prop) (h1 : ∀ w, S2 w → S w) (h2 : S2 w) (h : wpTree P ops Q r S2 a w) : wpTree P ops Q (.dyn r) S a w := ⟨S2, h1, h2, h⟩
theorem tree_fork {i j : Nat} {r s : PT} {a : Act} {w : World} (h1 : wpOp P ops Q i (fun a' w' => S w' ∧ wpTree P ops Q r S a' w') a w) (h2 : wpOp P ops Q j (fun a' w' => S w' ∧ wpTree P ops Q s S a' w') a w) : wpTree P ops Q (.fork i r j s) S a w := ⟨h1, h2⟩
end
end Go.Plan

/- The tape's positions. -/
namespace Go.Proofs.YtfoohocgdcgbcaaGreat
open Go.RowKit
set_option linter.unusedVariables false
set_option linter.unusedSimpArgs false
def dens : Array Int := #[1, 1, 1, 2, 3, 1001]
def denTab : Array Value := #[.int .i64 1, .int .i64 1, .int .i64 1, .int .i64 2, .int .i64 3, .int .i64 1001]
def Tab (w : World) (g : Nat) : Prop := w.heap[g]? = some (.cells denTab 2 (0, 0))
theorem Tab.get {w : World} {g q : Nat} (h : Tab w g) (hq : q < 6) : w.cell? ⟨g, q, none⟩ = some (.int .i64 (dens[q]!)) := by
  unfold Tab at h
  rcases (show q = 0 ∨ q = 1 ∨ q = 2 ∨ q = 3 ∨ q = 4 ∨ q = 5 by omega) with rfl | rfl | rfl | rfl | rfl | rfl <;> simp [World.cell?, h, dens, denTab]
theorem dens_ok {q : Nat} (hq : q < 6) : 1 ≤ dens[q]! ∧ dens[q]! ≤ 1001 ∧ dens[q]! ∣ 6006 := by
  rcases (show q = 0 ∨ q = 1 ∨ q = 2 ∨ q = 3 ∨ q = 4 ∨ q = 5 by omega) with rfl | rfl | rfl | rfl | rfl | rfl <;> decide
/-- A position of the tape's kind. -/
structure PosOK (m n d : Int) : Prop where
  d0 : 1 ≤ d
  dv : d ∣ 6006
  g : n.natAbs.gcd d.toNat = 1
  n0 : 0 ≤ n
  n1 : n ≤ m
theorem pos_div {m n d g : Int} (n0 : 1 ≤ n) (n1 : n ≤ m) (d0 : 1 ≤ d) (hd : d ∣ 6006) (hg : g = ((n.toNat.gcd d.toNat : Nat) : Int)) : PosOK m (n / g) (d / g) ∧ 1 ≤ g := by
  obtain ⟨N, rfl⟩ := Int.eq_ofNat_of_zero_le (show 0 ≤ n by omega)
  obtain ⟨D, rfl⟩ := Int.eq_ofNat_of_zero_le (show 0 ≤ d by omega)
  simp only [Int.toNat_natCast] at hg
  have hN : 0 < N := by omega
  have hG : 0 < N.gcd D := Nat.gcd_pos_of_pos_left _ hN
  subst hg
  have e1 : (N : Int) / ((N.gcd D : Nat) : Int) = ((N / N.gcd D : Nat) : Int) := rfl
  have e2 : (D : Int) / ((N.gcd D : Nat) : Int) = ((D / N.gcd D : Nat) : Int) := rfl
  rw [e1, e2]
  have hdd : D / N.gcd D ∣ D := Nat.div_dvd_of_dvd (Nat.gcd_dvd_right _ _)
  have hd6 : D ∣ 6006 := Int.ofNat_dvd.1 hd
  have h0 := Int.natCast_nonneg (N / N.gcd D)
  refine ⟨⟨?_, ?_, ?_, h0, ?_⟩, by omega⟩
  · have := Nat.div_pos (Nat.le_of_dvd (by omega) (Nat.gcd_dvd_right N D)) hG
    omega
  · exact Int.ofNat_dvd.2 (Nat.dvd_trans hdd hd6)
  · rw [Int.natAbs_natCast, Int.toNat_natCast]
    exact Nat.gcd_div_gcd_div_gcd_of_pos_left hN
  · have := Nat.div_le_self N (N.gcd D)
    have h2 : ((N / N.gcd D : Nat) : Int) ≤ (N : Int) := Int.ofNat_le.2 this
    exact Int.le_trans h2 n1
set_option maxRecDepth 100000 in
set_option maxHeartbeats 8000000 in
theorem rat_any (B p k : Nat) (m : Int) (w : World) (ht : TP w B p k) (hk : k < 900000) (hm : 1 ≤ m ∧ m ≤ 1000) :
    Calls Tryz.prog 117 #[.pointer (some ⟨p, 0, none⟩), .int .i64 m] w (RatPost w B p k 2 (PosOK m)) := by
  have HT := Lib.hid ht
  obtain ⟨hm0, hm1⟩ := hm
  have hB := ht.1
  have hp := ht.2.1
  clear ht
  go_enter Tryz.func117, Tryz.ntmps117
  go_upto_region 1 with fail
  obtain ⟨w1, hw1⟩ : ∃ y, y = w.alloc (.cells #[.int .i64 0, .int .i64 0] 38) := ⟨_, rfl⟩
  rw [← hw1]
  obtain ⟨g1, hg1⟩ : ∃ y, y = w.heap.size := ⟨_, rfl⟩
  have hb : Below w.heap.size w w1 := by rw [hw1]; exact below_box _ _
  have HQ := Lib.hid (show w1.heap[g1]? = some (.cells #[.int .i64 0, .int .i64 0] 38 (0, 0)) by rw [hw1, hg1]; exact (MapKept.heap_alloc w _).1)
  have HU := Lib.hid (Turn.of (g := p) (Nat.le_of_lt hp) hb)
  replace HT := Lib.hid (HT.out.below (by omega) hb)
  rw [← hg1]
  have HG1 := Lib.hid (show w.heap.size ≤ g1 ∧ g1 ≠ p ∧ B ≤ g1 by omega)
  clear hw1 hg1 hb
  go_cut [5, 6] from 9 (fun v5 v6 wx => ∃ n1 n2 : Nat, v5 = .int .i64 (n1 : Int) ∧ v6 = .int .i64 (dens[n2]!) ∧ (n1 : Int) < m ∧ n2 < 6 ∧ TP wx B p (k + 1 + 1) ∧ Turn p w wx ∧ wx.heap[g1]? = some (.cells #[.int .i64 0, .int .i64 0] 38 (0, 0)))
  case first J K' h1 h2 =>
    refine Plan.wp_region_tree (fun _ => True) (.run ([0, 1, 4].map (·, true)) (.fork 2 (.fork 3 (.dyn (.run (([5].map (·, false)) ++ ([6, 7, 8, 9].map (·, true))) .leaf)) 5 (.run (([8].map (·, true)) ++ ([3].map (·, false))) (.dyn (.run ([6, 7, 9].map (·, true)) .leaf)))) 3 (.dyn (.run (([2, 5].map (·, false)) ++ ([6, 7, 8, 9].map (·, true))) .leaf)))) (by kernel_rfl) (by kernel_rfl) (by kernel_rfl) trivial ?_
    obtain ⟨y0, hy⟩ : ∃ x, x = w1.drew := ⟨_, rfl⟩
    rw [← hy]
    have hb : Below w1.heap.size w1 y0 := by rw [hy]; exact (Below.refl _ _).drew
    replace HT := Lib.hid (HT.out.below (Nat.le_trans HT.out.1 (Nat.le_of_lt HT.out.2.1)) hb)
    replace HU := Lib.hid (HU.out.trans (Turn.of (g := p) (Nat.le_of_lt (Nat.lt_of_lt_of_le hp HU.out.s)) hb))
    replace HQ := Lib.hid ((hb.block g1 (Array.getElem?_eq_some_iff.1 HQ.out).1).trans HQ.out)
    clear hy hb
    refine Plan.tree_run ?_
    refine' Plan.plan_seg _ [0, 1, 4] ([]) (by kernel_rfl) (by kernel_rfl) rfl (by exact trivial) (fun wx hS => ?_) ?_
    rotate_left
    · clear hS
      go_light
      iterate 3 (apply Plan.seg_pick; rfl; intro K hK; go_wp)
      exact Plan.seg_nil
    refine Plan.plan_nil ?_
    refine Plan.tree_fork ?_ ?_
    · refine Plan.op_of_list rfl (fun K hK => ?_)
      go_wp2_with fail
      refine (next_any B p k m _ HT.out (by omega) (by omega) (by omega)).mono ?_
      rintro e y1 ⟨r1, rfl, r10, r11, hT_, hg_⟩
      obtain ⟨n1, rfl⟩ : ∃ n : Nat, r1 = n := ⟨r1.toNat, by omega⟩
      have HN1 := Lib.hid r11
      replace HU := Lib.hid (HU.out.trans (Turn.grown hg_ HT.out.2.1))
      replace HQ := Lib.hid ((hg_.block g1 (Array.getElem?_eq_some_iff.1 HQ.out).1 (by simpa using HG1.out.2.1)).trans HQ.out)
      replace HT := Lib.hid hT_
      clear hT_ hg_
      go_wp2_with fail
      refine ⟨trivial, ?_⟩
      refine Plan.tree_fork ?_ ?_
      · refine Plan.op_of_list rfl (fun K hK => ?_)
        refine Great.wpList_buildSliceTo rfl 196 2 6 #[(0, .const (.int .i64 1)), (1, .const (.int .i64 1)), (2, .const (.int .i64 1)), (3, .const (.int .i64 2)), (4, .const (.int .i64 3)), (5, .const (.int .i64 1001))] rfl _ rfl (some 12) rfl Tryz.underlying196 denTab ?_ ?_
        · kernel_rfl
        obtain ⟨y2, hy⟩ : ∃ x, x = World.alloc y1 (.cells denTab 2) := ⟨_, rfl⟩
        obtain ⟨g2, hg2⟩ : ∃ x, x = (World.heap y1).size := ⟨_, rfl⟩
        have hb : Below (World.heap y1).size y1 y2 := by rw [hy]; exact below_box _ _
        have HTAB := Lib.hid (show Tab y2 g2 by rw [hy, hg2]; exact (MapKept.heap_alloc y1 _).1)
        have HG2 := Lib.hid (show g2 ≠ p by have := HT.out.2.1; omega)
        rw [← hy, ← hg2]
        replace HU := Lib.hid (HU.out.trans (Turn.of (g := p) (Nat.le_of_lt HT.out.2.1) hb))
        replace HT := Lib.hid (HT.out.below (Nat.le_trans HT.out.1 (Nat.le_of_lt HT.out.2.1)) hb)
        replace HQ := Lib.hid ((hb.block g1 (Array.getElem?_eq_some_iff.1 HQ.out).1).trans HQ.out)
        clear hy hb hg2
        simp only [Act.put, List.setIfInBounds_toArray, List.set_cons_succ, List.set_cons_zero]
        go_wp2_with fail
        refine ⟨trivial, ?_⟩
        refine Plan.tree_dyn (fun w => Tab w g2) (fun _ _ => trivial) HTAB.out ?_
        refine Plan.tree_run ?_
        refine Plan.plan_of_effect rfl (fun K hK => ?_)
        go_wp2_with fail
        refine (next_any B p (k + 1) 6 _ HT.out (by omega) (by omega) (by omega)).mono ?_
        rintro e y3 ⟨r2, rfl, r20, r21, hT_, hg_⟩
        obtain ⟨n2, rfl⟩ : ∃ n : Nat, r2 = n := ⟨r2.toNat, by omega⟩
        have HN2 := Lib.hid r21
        replace HU := Lib.hid (HU.out.trans (Turn.grown hg_ HT.out.2.1))
        replace HQ := Lib.hid ((hg_.block g1 (Array.getElem?_eq_some_iff.1 HQ.out).1 (by simpa using HG1.out.2.1)).trans HQ.out)
        replace HTAB := Lib.hid (show Tab y3 g2 from (hg_.block g2 (Array.getElem?_eq_some_iff.1 HTAB.out).1 (by simpa using HG2.out)).trans HTAB.out)
        replace HT := Lib.hid hT_
        clear hT_ hg_
        go_wp2_with fail
        refine ⟨HTAB.out, ?_⟩
        refine' Plan.plan_seg (S := (fun w => Tab w g2)) _ [6, 7, 8, 9] ([]) (by kernel_rfl) (by kernel_rfl) rfl (by exact HTAB.out) (fun wx hS => ?_) ?_
        rotate_left
        · have y0' := Tab.get hS (show n2 < 6 by have := HN2.out; omega)
          have hq' : (n2 : Int) < 6 := HN2.out
          clear hS
          go_light
          iterate 4 (apply Plan.seg_pick; rfl; intro K hK; go_wp)
          exact Plan.seg_nil
        refine Plan.plan_nil ?_
        refine Plan.tree_leaf ?_
        refine h2 _ _ (Met.intro (h1 _ _ ?_))
        (repeat apply Exists.intro)
        exact ⟨⟨n1, n2, rfl, rfl, HN1.out, by have := HN2.out; omega, HT.out, HU.out, HQ.out⟩, rfl⟩
      · refine Plan.op_of_list rfl (fun K hK => ?_)
        go_wp2_with fail
        refine (next_any B p (k + 1) 6 _ HT.out (by omega) (by omega) (by omega)).mono ?_
        rintro e y3 ⟨r2, rfl, r20, r21, hT_, hg_⟩
        obtain ⟨n2, rfl⟩ : ∃ n : Nat, r2 = n := ⟨r2.toNat, by omega⟩
        have HN2 := Lib.hid r21
        replace HU := Lib.hid (HU.out.trans (Turn.grown hg_ HT.out.2.1))
        replace HQ := Lib.hid ((hg_.block g1 (Array.getElem?_eq_some_iff.1 HQ.out).1 (by simpa using HG1.out.2.1)).trans HQ.out)
        replace HT := Lib.hid hT_
        clear hT_ hg_
        go_wp2_with fail
        refine ⟨trivial, ?_⟩
        refine Plan.tree_run ?_
        refine' Plan.plan_seg _ [8] ([3].map (·, false)) (by kernel_rfl) (by kernel_rfl) rfl (by exact trivial) (fun wx hS => ?_) ?_
        rotate_left
        · clear hS
          go_light
          iterate 1 (apply Plan.seg_pick; rfl; intro K hK; go_wp)
          exact Plan.seg_nil
        refine Plan.plan_of_effect rfl (fun K hK => ?_)
        refine Great.wpList_buildSliceTo rfl 196 2 6 #[(0, .const (.int .i64 1)), (1, .const (.int .i64 1)), (2, .const (.int .i64 1)), (3, .const (.int .i64 2)), (4, .const (.int .i64 3)), (5, .const (.int .i64 1001))] rfl _ rfl (some 12) rfl Tryz.underlying196 denTab ?_ ?_
        · kernel_rfl
        obtain ⟨y4, hy⟩ : ∃ x, x = World.alloc y3 (.cells denTab 2) := ⟨_, rfl⟩
        obtain ⟨g2, hg2⟩ : ∃ x, x = (World.heap y3).size := ⟨_, rfl⟩
        have hb : Below (World.heap y3).size y3 y4 := by rw [hy]; exact below_box _ _
        have HTAB := Lib.hid (show Tab y4 g2 by rw [hy, hg2]; exact (MapKept.heap_alloc y3 _).1)
        have HG2 := Lib.hid (show g2 ≠ p by have := HT.out.2.1; omega)
        rw [← hy, ← hg2]
        replace HU := Lib.hid (HU.out.trans (Turn.of (g := p) (Nat.le_of_lt HT.out.2.1) hb))
        replace HT := Lib.hid (HT.out.below (Nat.le_trans HT.out.1 (Nat.le_of_lt HT.out.2.1)) hb)
        replace HQ := Lib.hid ((hb.block g1 (Array.getElem?_eq_some_iff.1 HQ.out).1).trans HQ.out)
        clear hy hb hg2
        simp only [Act.put, List.setIfInBounds_toArray, List.set_cons_succ, List.set_cons_zero]
        go_wp2_with fail
        refine ⟨trivial, ?_⟩
        refine Plan.plan_nil ?_
        refine Plan.tree_dyn (fun w => Tab w g2) (fun _ _ => trivial) HTAB.out ?_
        refine Plan.tree_run ?_
        refine' Plan.plan_seg (S := (fun w => Tab w g2)) _ [6, 7, 9] ([]) (by kernel_rfl) (by kernel_rfl) rfl (by exact HTAB.out) (fun wx hS => ?_) ?_
        rotate_left
        · have y0' := Tab.get hS (show n2 < 6 by have := HN2.out; omega)
          have hq' : (n2 : Int) < 6 := HN2.out
          clear hS
          go_light
          iterate 3 (apply Plan.seg_pick; rfl; intro K hK; go_wp)
          exact Plan.seg_nil
        refine Plan.plan_nil ?_
        refine Plan.tree_leaf ?_
        refine h2 _ _ (Met.intro (h1 _ _ ?_))
        (repeat apply Exists.intro)
        exact ⟨⟨n1, n2, rfl, rfl, HN1.out, by have := HN2.out; omega, HT.out, HU.out, HQ.out⟩, rfl⟩
    · refine Plan.op_of_list rfl (fun K hK => ?_)
      refine Great.wpList_buildSliceTo rfl 196 2 6 #[(0, .const (.int .i64 1)), (1, .const (.int .i64 1)), (2, .const (.int .i64 1)), (3, .const (.int .i64 2)), (4, .const (.int .i64 3)), (5, .const (.int .i64 1001))] rfl _ rfl (some 12) rfl Tryz.underlying196 denTab ?_ ?_
      · kernel_rfl
      obtain ⟨y1, hy⟩ : ∃ x, x = World.alloc y0 (.cells denTab 2) := ⟨_, rfl⟩
      obtain ⟨g2, hg2⟩ : ∃ x, x = (World.heap y0).size := ⟨_, rfl⟩
      have hb : Below (World.heap y0).size y0 y1 := by rw [hy]; exact below_box _ _
      have HTAB := Lib.hid (show Tab y1 g2 by rw [hy, hg2]; exact (MapKept.heap_alloc y0 _).1)
      have HG2 := Lib.hid (show g2 ≠ p by have := HT.out.2.1; omega)
      rw [← hy, ← hg2]
      replace HU := Lib.hid (HU.out.trans (Turn.of (g := p) (Nat.le_of_lt HT.out.2.1) hb))
      replace HT := Lib.hid (HT.out.below (Nat.le_trans HT.out.1 (Nat.le_of_lt HT.out.2.1)) hb)
      replace HQ := Lib.hid ((hb.block g1 (Array.getElem?_eq_some_iff.1 HQ.out).1).trans HQ.out)
      clear hy hb hg2
      simp only [Act.put, List.setIfInBounds_toArray, List.set_cons_succ, List.set_cons_zero]
      go_wp2_with fail
      refine ⟨trivial, ?_⟩
      refine Plan.tree_dyn (fun w => Tab w g2) (fun _ _ => trivial) HTAB.out ?_
      refine Plan.tree_run ?_
      refine Plan.plan_of_effect rfl (fun K hK => ?_)
      go_wp2_with fail
      refine (next_any B p k m _ HT.out (by omega) (by omega) (by omega)).mono ?_
      rintro e y2 ⟨r1, rfl, r10, r11, hT_, hg_⟩
      obtain ⟨n1, rfl⟩ : ∃ n : Nat, r1 = n := ⟨r1.toNat, by omega⟩
      have HN1 := Lib.hid r11
      replace HU := Lib.hid (HU.out.trans (Turn.grown hg_ HT.out.2.1))
      replace HQ := Lib.hid ((hg_.block g1 (Array.getElem?_eq_some_iff.1 HQ.out).1 (by simpa using HG1.out.2.1)).trans HQ.out)
      replace HTAB := Lib.hid (show Tab y2 g2 from (hg_.block g2 (Array.getElem?_eq_some_iff.1 HTAB.out).1 (by simpa using HG2.out)).trans HTAB.out)
      replace HT := Lib.hid hT_
      clear hT_ hg_
      go_wp2_with fail
      refine ⟨HTAB.out, ?_⟩
      refine Plan.plan_of_effect rfl (fun K hK => ?_)
      go_wp2_with fail
      refine (next_any B p (k + 1) 6 _ HT.out (by omega) (by omega) (by omega)).mono ?_
      rintro e y3 ⟨r2, rfl, r20, r21, hT_, hg_⟩
      obtain ⟨n2, rfl⟩ : ∃ n : Nat, r2 = n := ⟨r2.toNat, by omega⟩
      have HN2 := Lib.hid r21
      replace HU := Lib.hid (HU.out.trans (Turn.grown hg_ HT.out.2.1))
      replace HQ := Lib.hid ((hg_.block g1 (Array.getElem?_eq_some_iff.1 HQ.out).1 (by simpa using HG1.out.2.1)).trans HQ.out)
      replace HTAB := Lib.hid (show Tab y3 g2 from (hg_.block g2 (Array.getElem?_eq_some_iff.1 HTAB.out).1 (by simpa using HG2.out)).trans HTAB.out)
      replace HT := Lib.hid hT_
      clear hT_ hg_
      go_wp2_with fail
      refine ⟨HTAB.out, ?_⟩
      refine' Plan.plan_seg (S := (fun w => Tab w g2)) _ [6, 7, 8, 9] ([]) (by kernel_rfl) (by kernel_rfl) rfl (by exact HTAB.out) (fun wx hS => ?_) ?_
      rotate_left
      · have y0' := Tab.get hS (show n2 < 6 by have := HN2.out; omega)
        have hq' : (n2 : Int) < 6 := HN2.out
        clear hS
        go_light
        iterate 4 (apply Plan.seg_pick; rfl; intro K hK; go_wp)
        exact Plan.seg_nil
      refine Plan.plan_nil ?_
      refine Plan.tree_leaf ?_
      refine h2 _ _ (Met.intro (h1 _ _ ?_))
      (repeat apply Exists.intro)
      exact ⟨⟨n1, n2, rfl, rfl, HN1.out, by have := HN2.out; omega, HT.out, HU.out, HQ.out⟩, rfl⟩
  obtain ⟨n1, n2, rfl, rfl, hn1, hn2, ht, hu, hq⟩ := hcut
  replace HT := Lib.hid ht
  replace HU := Lib.hid hu
  replace HQ := Lib.hid hq
  obtain ⟨hd0, hd1, hd2⟩ := dens_ok hn2
  obtain ⟨D, hD⟩ : ∃ D, D = dens[n2]! := ⟨_, rfl⟩
  rw [← hD] at hd0 hd1 hd2 ⊢
  have HD2 := Lib.hid hd2
  clear ht hu hq hD hd2 hn2
  have HD0 := Lib.hid hd0
  obtain ⟨D, rfl⟩ : ∃ N : Nat, D = N := ⟨D.toNat, by omega⟩
  have hD1 : D ≤ 1001 := by omega
  have hn1' : n1 < 1000 := by omega
  go_upto_region 4 with fail
  go_loopw [7, 8] (fun v7 v8 wr => ∃ a x : Nat, v7 = .int .i64 (a : Int) ∧ v8 = .int .i64 (x : Int) ∧ a ≤ 1001 ∧ x ≤ 1001 ∧ Hid (a.gcd x = n1.gcd D) ∧ TP wr B p (k + 1 + 1) ∧ Turn p w wr ∧ wr.heap[g1]? = some (.cells #[.int .i64 0, .int .i64 0] 38 (0, 0))) (fun _ i _ => (intOf i).toNat)
  case atStart => exact ⟨n1, D, rfl, rfl, by omega, hD1, Lib.hid rfl, HT.out, HU.out, HQ.out⟩
  case round =>
    clear HT HU HQ
    obtain ⟨a, x, rfl, rfl, ha, hx, HGC, ht, hu, hq⟩ := hrel
    have HT := Lib.hid ht
    have HU := Lib.hid hu
    have HQ := Lib.hid hq
    clear ht hu hq
    by_cases hx0 : x = 0
    · subst hx0
      have HGE := Lib.hid (show a = n1.gcd D by rw [← HGC.out, Nat.gcd_zero_right])
      have z0 : wr.cell? ⟨g1, 0, none⟩ = some (.int .i64 0) := by simp [World.cell?, HQ.out]
      have z1 : wr.cell? ⟨g1, 1, none⟩ = some (.int .i64 0) := by simp [World.cell?, HQ.out]
      have zf : ∀ o, wr.frozen? ⟨g1, o, none⟩ = false := fun o => by simp [World.frozen?, HQ.out]
      by_cases hn0 : n1 = 0
      · subst hn0
        clear HGE HGC
        go_wp2_with fail
        refine bodyPost_ret (by simp [results, Tryz.results117, go_sem, z0, z1, asAddr]; rfl) rfl ?_
        refine ⟨⟨0, 1, rfl, by decide, by decide, by decide, by decide, by omega⟩, ⟨k + 2, Nat.le_refl _, ?_⟩, ?_⟩
        · exact (HT.out.turn (Turn.cell g1 0 _ _) HG1.out.2.1.symm HG1.out.2.2).turn (Turn.cell g1 1 _ _) HG1.out.2.1.symm HG1.out.2.2
        · exact (HU.out.into HG1.out.1 (by have := HG1.out.1; omega) (Turn.cell g1 0 _ _)).into HG1.out.1 (by have := HG1.out.1; omega) (Turn.cell g1 1 _ _)
      · obtain ⟨hpo, hg0⟩ := pos_div (m := m) (n := (n1 : Int)) (d := (D : Int)) (g := (a : Int)) (by omega) (by omega) HD0.out HD2.out (by rw [HGE.out]; rfl)
        have HPO := Lib.hid hpo
        have hnb : ((n1 : Int) == 0) = false := by simp; omega
        have hab : ¬ (a : Int) = 0 := by omega
        clear hpo HGE HGC z0 z1 zf
        have hb0 : (1 : Int) ≤ (a : Int) := hg0
        have q0 : 0 ≤ (n1 : Int) / (a : Int) := HPO.out.n0
        have q1 : (n1 : Int) / (a : Int) ≤ 1000 := by have := HPO.out.n1; omega
        have q2 : 1 ≤ (D : Int) / (a : Int) := HPO.out.d0
        have q3 : (D : Int) / (a : Int) ≤ 6006 := Int.le_of_dvd (by decide) HPO.out.dv
        go_upto_region 8 with fail
        refine Plan.wp_region_plan (fun w' => True) (([0, 1, 2, 3, 4, 5, 6].map (·, true)) ++ ([7].map (·, false))) (by kernel_rfl) (by kernel_rfl) (by kernel_rfl) trivial ?_
        refine' Plan.plan_seg _ [0, 1, 2, 3, 4, 5, 6] ([7].map (·, false)) (by kernel_rfl) (by kernel_rfl) rfl (by exact trivial) (fun wx hS => ?_) ?_
        rotate_left
        · clear hS
          go_light
          iterate 7 (apply Plan.seg_pick; rfl; intro K hK; go_wp)
          exact Plan.seg_nil
        obtain ⟨w9, hw9⟩ : ∃ y, y = wr.drew := ⟨_, rfl⟩
        rw [← hw9]
        have hb : Below wr.heap.size wr w9 := by rw [hw9]; exact (Below.refl _ _).drew
        replace HT := Lib.hid (HT.out.below (Nat.le_trans HT.out.1 (Nat.le_of_lt HT.out.2.1)) hb)
        have HU9 := Lib.hid (HU.out.trans (Turn.of (g := p) (Nat.le_of_lt (Nat.lt_of_lt_of_le hp HU.out.s)) hb))
        have hq9 := (hb.block g1 (Array.getElem?_eq_some_iff.1 HQ.out).1).trans HQ.out
        have z0 : w9.cell? ⟨g1, 0, none⟩ = some (.int .i64 0) := by simp [World.cell?, hq9]
        have z1 : w9.cell? ⟨g1, 1, none⟩ = some (.int .i64 0) := by simp [World.cell?, hq9]
        have zf : ∀ o, w9.frozen? ⟨g1, o, none⟩ = false := fun o => by simp [World.frozen?, hq9]
        clear hb hw9 hq9
        refine Plan.plan_of_effect rfl (fun K hK => ?_)
        go_wp2_with fail
        refine ⟨trivial, ?_⟩
        refine Plan.plan_done ?_
        iterate 3 go_step
        refine bodyPost_ret (by simp [results, Tryz.results117, go_sem, z0, z1, asAddr]; rfl) rfl ?_
        refine ⟨⟨_, _, rfl, HPO.out⟩, ⟨k + 2, Nat.le_refl _, ?_⟩, ?_⟩
        · exact (HT.out.turn (Turn.cell g1 0 _ _) HG1.out.2.1.symm HG1.out.2.2).turn (Turn.cell g1 1 _ _) HG1.out.2.1.symm HG1.out.2.2
        · exact (HU9.out.into HG1.out.1 (by have := HG1.out.1; omega) (Turn.cell g1 0 _ _)).into HG1.out.1 (by have := HG1.out.1; omega) (Turn.cell g1 1 _ _)
    · have hxb : ¬ (x : Int) = 0 := by omega
      have hxb2 : ((x : Int) == 0) = false := by simpa using hxb
      have hmod : ((a : Int)).tmod (x : Int) = ((a % x : Nat) : Int) := (Int.ofNat_tmod a x).symm
      have hlt : a % x < x := Nat.mod_lt _ (by omega)
      have HMO := Lib.hid hmod
      clear hmod
      go_upto_region 5 with fail
      refine Plan.wp_region_plan (fun w' => True) ([0, 1, 2, 3, 4, 5].map (·, true)) (by kernel_rfl) (by kernel_rfl) (by kernel_rfl) trivial ?_
      refine' Plan.plan_seg _ [0, 1, 2, 3, 4, 5] [] (by kernel_rfl) (by kernel_rfl) rfl (by exact trivial) (fun wx hS => ?_) ?_
      rotate_left
      · clear hS
        go_light
        iterate 6 (apply Plan.seg_pick; rfl; intro K hK; go_wp)
        exact Plan.seg_nil
      refine Plan.plan_done ?_
      obtain ⟨w9, hw9⟩ : ∃ y, y = wr.drew := ⟨_, rfl⟩
      rw [← hw9]
      have hb : Below wr.heap.size wr w9 := by rw [hw9]; exact (Below.refl _ _).drew
      replace HT := Lib.hid (HT.out.below (Nat.le_trans HT.out.1 (Nat.le_of_lt HT.out.2.1)) hb)
      have HU9 := Lib.hid (HU.out.trans (Turn.of (g := p) (Nat.le_of_lt (Nat.lt_of_lt_of_le hp HU.out.s)) hb))
      replace HQ := Lib.hid ((hb.block g1 (Array.getElem?_eq_some_iff.1 HQ.out).1).trans HQ.out)
      clear hb hw9
      go_wp2_with fail
      go_roundw
      case rel => exact ⟨x, a % x, rfl, by rw [← Int.natCast_emod], hx, by omega, Lib.hid (by rw [← HGC.out, Nat.gcd_comm x, ← Nat.gcd_rec, Nat.gcd_comm]), HT.out, HU9.out, HQ.out⟩
      case measure =>
        rw [← Int.natCast_emod]
        show ((a % x : Nat) : Int).toNat < ((x : Nat) : Int).toNat
        omega
end Go.Proofs.YtfoohocgdcgbcaaGreat
