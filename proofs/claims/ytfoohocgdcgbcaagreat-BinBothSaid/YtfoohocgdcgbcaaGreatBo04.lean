/- Rows.BinBothSaid is proved here, for every input; the walk is law_both. -/
import Derived.Test.YtfoohocgdcgbcaaGreatRows
import Derived.WalkKit
import Derived.ProofKit
import Derived.OpenShut
import Derived.Test.YtfoohocgdcgbcaaGreatBo02
import Derived.Test.YtfoohocgdcgbcaaGreatBo03
set_option linter.unusedVariables false
set_option linter.unusedSimpArgs false

/- Edits of the long track: what Merge finds. -/
namespace Go.Proofs.YtfoohocgdcgbcaaGreat
open Go.RowKit
set_option linter.unusedVariables false
set_option linter.unusedSimpArgs false
theorem one_name (c : Trk.Clip) (i : Int) : (Trk.one c i).a.name = c.a.name := Trk.moved_name c.a i
theorem one_kind' (c : Trk.Clip) (i : Int) : (Trk.one c i).kind = c.kind := rfl
theorem fr_name : ∀ {l : List Trk.Clip} {i : Int}, Trk.GoodL l → (∀ c ∈ l, c.a.name.size ≠ 1) → (Trk.fr l i).a.name.size ≠ 1
  | [], i, _, _ => by show (0 : Nat) ≠ 1; decide
  | c :: l, i, g, h => by
    by_cases hi : i < c.len
    · rw [Trk.fr_lt hi, one_name]; exact h c List.mem_cons_self
    · rw [Trk.fr_ge (by omega)]; exact fr_name g.tail fun d hd => h d (List.mem_cons_of_mem _ hd)
theorem long_good : Trk.GoodL [longC] := long_vt.good
theorem long_total : Trk.total [longC] = 150 := rfl
theorem long_fr {i : Int} (h1 : i < 150) : Trk.fr [longC] i = Trk.one longC i := Trk.fr_lt h1
theorem long_inj {i j : Int} (h : Trk.one longC i = Trk.one longC j) : i = j := by
  have h1 : (Trk.one longC i).a.an = (Trk.one longC j).a.an := by rw [h]
  have g : Trk.Good longC.a := by
    rcases long_vt.v longC List.mem_cons_self |>.c.a with e | e
    · exact absurd e (by decide)
    · exact e.lat.g
  have key : ∀ k : Int, (Trk.moved longC.a k).an = k := fun k => by
    have e := (Trk.moved_num g k).1
    have hb : Trk.baseN longC.a = 1 := by decide
    have hp : Trk.posN longC.a k = k := by
      show (0 : Int) * _ + k * 1 * ((1 / Nat.gcd 1 1 : Nat) : Int) = k
      simp
    rw [hb, hp, Nat.gcd_one_right] at e
    simpa using e
  have h2 : (Trk.moved longC.a i).an = (Trk.moved longC.a j).an := h1
  rw [key, key] at h2
  exact h2
theorem long_name (i : Int) : (Trk.one longC i).a.name.size = 1 := by rw [one_name]; rfl
/-- An edit inside the long track that puts in foreign frames, and what it makes. -/
structure InL (u put : List Trk.Clip) (p rem : Int) : Prop where
  x : ExF [longC] u put p rem
  g : Trk.GoodL put
  z : ∀ c ∈ put, c.a.name.size ≠ 1
  p0 : 0 ≤ p
  r0 : 0 ≤ rem
  e : p + rem < 150
  s : 1 ≤ rem ∨ 1 ≤ Trk.total put
theorem InL.f0 {u put : List Trk.Clip} {p rem : Int} (h : InL u put p rem) {i : Int} (i0 : 0 ≤ i) (hi : i < p) : Trk.fr u i = Trk.one longC i := by
  have := h.e
  have := h.r0
  rw [h.x.f i i0, if_pos hi, long_fr (by omega)]
theorem InL.f1 {u put : List Trk.Clip} {p rem : Int} (h : InL u put p rem) {i : Int} (hi : p ≤ i) (h1 : i < p + Trk.total put) : Trk.fr u i = Trk.fr put (i - p) := by
  have := h.p0
  rw [h.x.f i (by omega), if_neg (by omega), if_pos h1]
theorem InL.f2 {u put : List Trk.Clip} {p rem : Int} (h : InL u put p rem) {i : Int} (hi : p + Trk.total put ≤ i) : Trk.fr u i = Trk.fr [longC] (i - Trk.total put + rem) := by
  have := h.p0
  have := Trk.total_nonneg h.g
  rw [h.x.f i (by omega), if_neg (by omega), if_neg (by omega)]
theorem InL.ne {u put : List Trk.Clip} {p rem : Int} (h : InL u put p rem) : Trk.fr u p ≠ Trk.one longC p := by
  have hp := h.p0
  have hr := h.r0
  have he := h.e
  have ht := Trk.total_nonneg h.g
  intro e
  by_cases h1 : 1 ≤ Trk.total put
  · rw [h.f1 (Int.le_refl p) (by omega)] at e
    have := fr_name (i := p - p) h.g h.z
    rw [e] at this
    exact this (long_name p)
  · rw [h.f2 (by omega), long_fr (by omega)] at e
    have := long_inj e
    have := h.s
    omega
theorem InL.total {u put : List Trk.Clip} {p rem : Int} (h : InL u put p rem) : Trk.total u = 150 - rem + Trk.total put := by
  have hp := h.p0
  have hr := h.r0
  have he := h.e
  have ht := Trk.total_nonneg h.g
  have hu := Trk.total_nonneg h.x.n.g
  have k1 : (Trk.fr u (149 - rem + Trk.total put)).kind = 1 := by
    rw [h.f2 (by omega), long_fr (by omega)]; rfl
  have lo : 149 - rem + Trk.total put < Trk.total u := by
    rcases Int.lt_or_le (149 - rem + Trk.total put) (Trk.total u) with h1 | h1
    · exact h1
    · rw [Trk.fr_beyond h.x.n.g h1] at k1
      cases k1
  have hi : Trk.total u ≤ 150 - rem + Trk.total put := by
    rcases Int.lt_or_le (150 - rem + Trk.total put) (Trk.total u) with h1 | h1
    · exfalso
      cases hl : u.getLast? with
      | none =>
        have : u = [] := List.getLast?_eq_none_iff.1 hl
        rw [this] at lo
        have : (149 - rem + Trk.total put < 0) := lo
        omega
      | some c =>
        have e1 := Trk.fr_last h.x.n.g hl
        rw [h.f2 (by omega), Trk.fr_beyond long_good (by rw [long_total]; omega)] at e1
        exact h.x.n.n c hl e1.symm
    · exact h1
  omega
/-- The difference that Merge finds. -/
theorem InL.diff {u put x : List Trk.Clip} {p rem p' q' : Int} (h : InL u put p rem) (hd : Trk.Diff [longC] u p' q' x) : p' = p ∧ q' ≤ p + rem := by
  have hp := h.p0
  have hr := h.r0
  have he := h.e
  have ht := Trk.total_nonneg h.g
  have hu := h.total
  have hpre := hd.pre
  have hs := hd.suf
  rw [long_total, hu] at hs
  have e1 : p' = p := by
    rcases Int.lt_trichotomy p' p with h1 | h1 | h1
    · exfalso
      have := hpre.x (by rw [long_total]; omega) (by rw [hu]; omega)
      rw [h.f0 hpre.h0 h1, long_fr (by omega)] at this
      exact this rfl
    · exact h1
    · exfalso
      have := hpre.f p hp h1
      rw [long_fr (by omega)] at this
      exact h.ne this.symm
  refine ⟨e1, ?_⟩
  subst e1
  rcases Int.lt_or_le (p' + rem) q' with h1 | h1
  · exfalso
    have h3 := hs.x (by omega)
    rw [long_total, hu, h.f2 (by omega)] at h3
    exact h3 (by congr 1; omega)
  · exact h1
theorem InL.of {a en by_ : Int} {E : Trk.Ed} (h : Iv a E en by_) (a0 : 0 ≤ a) (a1 : a + E.rem < 150) : InL (Trk.nf (E.exl [longC])) E.put a E.rem := by
  have hx := exch_of long_vt h.v (by have := h.l; show 1 + 2 + _ ≤ 64; omega) (by
    have := h.t1; have := h.p; have := h.r0
    rw [long_total]
    split <;> omega)
  rw [h.p] at hx
  refine ⟨hx, h.v.x.put_good, h.z, a0, h.r0, a1, ?_⟩
  have hT := h.t0
  by_cases hk : E.k = 1
  · right
    have : E.put = E.ins := by unfold Trk.Ed.put; rw [if_neg (by omega)]
    rw [this]
    unfold Trk.Ed.T at hT
    rw [if_pos (.inl hk)] at hT
    exact hT
  · left
    unfold Trk.Ed.rem
    rw [if_neg hk]
    exact hT
end Go.Proofs.YtfoohocgdcgbcaaGreat

/- Merge of two edits of the long track in separated places, and of two edits of one frame. -/
namespace Go.Proofs.YtfoohocgdcgbcaaGreat
open Go.RowKit
set_option linter.unusedVariables false
set_option linter.unusedSimpArgs false
theorem partL_good {l : List Trk.Clip} (h : Trk.GoodL l) {a b : Int} (a0 : 0 ≤ a) (ab : a ≤ b) : Trk.GoodL (partL l a b) := by
  unfold partL
  split
  · exact Trk.GoodL.nil
  · exact (Trk.cut_of h a0 ab).g
theorem partL_fr {l : List Trk.Clip} (h : Trk.GoodL l) {a b i : Int} (a0 : 0 ≤ a) (ab : a ≤ b) (i0 : 0 ≤ i) (i1 : i < b - a) : Trk.fr (partL l a b) i = Trk.fr l (a + i) := by
  unfold partL
  split
  · omega
  · exact (Trk.cut_of h a0 ab).f i i0 i1
/-- The frames of the pieces put together. -/
theorem pieces_fr {n a b x1 x2 : List Trk.Clip} {p1 q1 p2 q2 : Int} (h1 : Trk.Diff n a p1 q1 x1) (h2 : Trk.Diff n b p2 q2 x2) (gn : Trk.GoodL n) (ga : Trk.GoodL a) (gb : Trk.GoodL b) (hq : q1 ≤ p2) {i : Int} (i0 : 0 ≤ i) :
    Trk.GoodL (pieces n p1 q1 x1 p2 q2 x2).flatten ∧ Trk.fr (pieces n p1 q1 x1 p2 q2 x2).flatten i = if i < p2 + (p1 + Trk.total x1 - q1) then Trk.fr a i else Trk.fr b (i - (p1 + Trk.total x1 - q1)) := by
  obtain ⟨c0, c1, c2, c3, c4⟩ := h1.le
  obtain ⟨d0, d1, d2, d3, d4⟩ := h2.le
  have g1 := h1.good ga
  have g2 := h2.good gb
  have t1 := Trk.total_nonneg g1
  have t2 := Trk.total_nonneg g2
  have gA := partL_good gn (Int.le_refl 0) c0
  have gB := partL_good gn (show 0 ≤ q1 by omega) hq
  have gC := partL_good gn (show 0 ≤ q2 by omega) d2
  have tA := partL_total gn (Int.le_refl 0) c0
  have tB := partL_total gn (show 0 ≤ q1 by omega) hq
  have tC := partL_total gn (show 0 ≤ q2 by omega) d2
  have e : (pieces n p1 q1 x1 p2 q2 x2).flatten = partL n 0 p1 ++ (x1 ++ (partL n q1 p2 ++ (x2 ++ partL n q2 (Trk.total n)))) := by simp [pieces]
  rw [e]
  refine ⟨gA.append (g1.append (gB.append (g2.append gC))), ?_⟩
  have fa := fun (i : Int) (hi : 0 ≤ i) => h1.fr gn ga hi
  have fb := fun (i : Int) (hi : 0 ≤ i) => h2.fr gn gb hi
  by_cases k1 : i < p1
  · rw [Trk.fr_append_lt _ gA i0 (by omega), partL_fr gn (Int.le_refl 0) c0 i0 (by omega), if_pos (by omega), fa i i0, if_pos k1, Int.zero_add]
  rw [Trk.fr_append_ge _ gA (by omega), tA]
  by_cases k2 : i < p1 + Trk.total x1
  · rw [Trk.fr_append_lt _ g1 (by omega) (by omega), if_pos (by omega), fa i i0, if_neg k1, if_pos k2]
    congr 1; omega
  rw [Trk.fr_append_ge _ g1 (by omega)]
  by_cases k3 : i < p2 + (p1 + Trk.total x1 - q1)
  · rw [Trk.fr_append_lt _ gB (by omega) (by omega), partL_fr gn (by omega) hq (by omega) (by omega), if_pos k3, fa i i0, if_neg k1, if_neg k2]
    congr 1; omega
  rw [Trk.fr_append_ge _ gB (by omega), tB, if_neg k3, fb (i - (p1 + Trk.total x1 - q1)) (by omega), if_neg (by omega)]
  by_cases k4 : i < p2 + (p1 + Trk.total x1 - q1) + Trk.total x2
  · rw [Trk.fr_append_lt _ g2 (by omega) (by omega), if_pos (by omega)]
    congr 1; omega
  rw [Trk.fr_append_ge _ g2 (by omega), if_neg (by omega)]
  by_cases k5 : i - (p1 - 0) - Trk.total x1 - (p2 - q1) - Trk.total x2 < Trk.total n - q2
  · rw [partL_fr gn (by omega) d2 (by omega) k5]
    congr 1; omega
  · rw [Trk.fr_beyond gC (by omega), Trk.fr_beyond gn (by omega)]
theorem flatK_len (P : List (List Trk.Clip)) : ∀ k, (flatK P k).length ≤ P.flatten.length := fun k => by
  have e : P.flatten = flatK P k ++ (P.drop k).flatten := by unfold flatK; rw [← List.flatten_append, List.take_append_drop]
  rw [e, List.length_append]
  omega
theorem partL_len {l : List Trk.Clip} (h : Trk.GoodL l) {a b : Int} (a0 : 0 ≤ a) (ab : a ≤ b) (b1 : b ≤ Trk.total l) : (partL l a b).length ≤ l.length := by
  unfold partL
  split
  · simp
  · exact Trk.cut_len h a0 ab b1
/-- Which differences Merge meets at two separated edits, in either order. -/
theorem two_sep {u1 u2 P1 P2 a b x1 x2 : List Trk.Clip} {a1 r1 a2 r2 p1 q1 p2 q2 : Int} (h1 : InL u1 P1 a1 r1) (h2 : InL u2 P2 a2 r2) (hs : a1 + r1 < a2) (hab : (a = u1 ∧ b = u2) ∨ (a = u2 ∧ b = u1)) (ht : Two [longC] a b p1 q1 x1 p2 q2 x2) :
    Trk.Diff [longC] u1 p1 q1 x1 ∧ Trk.Diff [longC] u2 p2 q2 x2 ∧ p1 = a1 ∧ q1 ≤ a1 + r1 ∧ p2 = a2 ∧ q2 ≤ a2 + r2 := by
  have hr1 := h1.r0
  have hr2 := h2.r0
  rcases hab with ⟨rfl, rfl⟩ | ⟨rfl, rfl⟩ <;> rcases ht with ⟨k1, k2, k3⟩ | ⟨k1, k2, k3⟩
  · have := h1.diff k1
    have := h2.diff k2
    exact ⟨k1, k2, by omega, by omega, by omega, by omega⟩
  · exfalso
    have := h2.diff k1
    have := h1.diff k2
    have := k1.le
    omega
  · exfalso
    have := h2.diff k1
    have := h1.diff k2
    omega
  · have := h1.diff k1
    have := h2.diff k2
    exact ⟨k1, k2, by omega, by omega, by omega, by omega⟩
theorem InL.len {u put : List Trk.Clip} {p rem : Int} (h : InL u put p rem) (hl : put.length ≤ 5) : u.length ≤ 8 := by
  have := h.x.l
  simp only [List.length_singleton] at this
  omega
theorem norm_long : Trk.Norm [longC] := by rw [← nf_long]; exact Trk.nf_norm long_good
theorem InL.short {u v put : List Trk.Clip} {p rem : Int} (h : InL u put p rem) (hv : Trk.fr v p = Trk.one longC p) : u ≠ v := fun e => h.ne (by rw [e]; exact hv)
/-- A merge of two separated edits of the long track. -/
theorem both_merge {u1 u2 P1 P2 a b : List Trk.Clip} {a1 r1 a2 r2 : Int} (h1 : InL u1 P1 a1 r1) (h2 : InL u2 P2 a2 r2) (l1 : P1.length ≤ 5) (l2 : P2.length ≤ 5) (z1 : Trk.total P1 ≤ 1000) (z2 : Trk.total P2 ≤ 1000) (hs : a1 + r1 < a2) (hab : (a = u1 ∧ b = u2) ∨ (a = u2 ∧ b = u1)) {code : Int} {x : List Trk.Clip} (hm : MergeR [longC] a b code x) :
    code = 0 ∧ Trk.Norm x ∧ ∀ i, 0 ≤ i → Trk.fr x i = if i < a2 + (Trk.total P1 - r1) then Trk.fr u1 i else Trk.fr u2 (i - (Trk.total P1 - r1)) := by
  have n1 := h1.x.n.nf
  have n2 := h2.x.n.nf
  have s1 : u1 ≠ [longC] := h1.short (long_fr (by have := h1.e; have := h1.r0; omega))
  have s2 : u2 ≠ [longC] := h2.short (long_fr (by have := h2.e; have := h2.r0; omega))
  have s3 : u1 ≠ u2 := h1.short (h2.f0 h1.p0 (by have := h1.r0; omega))
  have hns : ¬ shortC [longC] a b := by
    unfold shortC
    rw [nf_long]
    rcases hab with ⟨rfl, rfl⟩ | ⟨rfl, rfl⟩
    · rw [n1, n2]; rintro (h | h | h); exact s2 h; exact s3 h.symm; exact s1 h
    · rw [n1, n2]; rintro (h | h | h); exact s1 h; exact s3 h; exact s2 h
  rcases hm with ⟨hc, -⟩ | ⟨-, p1, q1, x1, p2, q2, x2, ht, hr⟩
  · exact absurd hc hns
  have ht' : Two [longC] a b p1 q1 x1 p2 q2 x2 := by
    rw [nf_long] at ht
    rcases hab with ⟨rfl, rfl⟩ | ⟨rfl, rfl⟩
    · rw [n1, n2] at ht; exact ht
    · rw [n1, n2] at ht; exact ht
  obtain ⟨d1, d2, e1, e2, e3, e4⟩ := two_sep h1 h2 hs hab ht'
  have ga := h1.x.n.g
  have gb := h2.x.n.g
  rcases hr with ⟨hcf, -⟩ | ⟨hq, hr⟩
  · omega
  rw [nf_long] at hr
  obtain ⟨c0, c1, c2, c3, c4⟩ := d1.le
  obtain ⟨f0, f1, f2, f3, f4⟩ := d2.le
  have tx1 := d1.total ga
  have tx2 := d2.total gb
  have tu1 := h1.total
  have tu2 := h2.total
  have hlen : (pieces [longC] p1 q1 x1 p2 q2 x2).flatten.length ≤ 40 := by
    have k1 := partL_len long_good (Int.le_refl 0) c0 (by omega)
    have k2 := partL_len long_good (show 0 ≤ q1 by omega) (show q1 ≤ p2 by omega) (by omega)
    have k3 := partL_len long_good (show 0 ≤ q2 by omega) f2 (Int.le_refl _)
    have k4 := d1.len ga
    have k5 := d2.len gb
    have k6 := h1.len l1
    have k7 := h2.len l2
    simp only [List.length_singleton] at k1 k2 k3
    simp only [pieces, List.flatten_cons, List.flatten_nil, List.append_nil, List.length_append]
    omega
  have htot : Trk.total (pieces [longC] p1 q1 x1 p2 q2 x2).flatten ≤ 2147483647 := by
    have tA := partL_total long_good (Int.le_refl 0) c0
    have tB := partL_total long_good (show 0 ≤ q1 by omega) (show q1 ≤ p2 by omega)
    have tC := partL_total long_good (show 0 ≤ q2 by omega) f2
    simp only [pieces, List.flatten_cons, List.flatten_nil, List.append_nil, Trk.total_append, tA, tB, tC]
    rw [long_total] at *
    have := h1.r0
    have := h2.r0
    omega
  rcases hr with ⟨hlong, -⟩ | ⟨-, hg⟩
  · omega
  have gp := (pieces_fr d1 d2 long_good ga gb (by omega) (Int.le_refl 0)).1
  rcases hg with ⟨-, -, k, -, hk⟩ | ⟨rfl, rfl, -⟩
  · exfalso
    have h5 : Trk.GoodL (flatK (pieces [longC] p1 q1 x1 p2 q2 x2) k) := fun c hc => gp c (by
      obtain ⟨l, hl, hcl⟩ := List.mem_flatten.1 hc
      exact List.mem_flatten.2 ⟨l, List.mem_of_mem_take hl, hcl⟩)
    have h3 := (Trk.pk_of h5).n
    have h4 := flatK_len (pieces [longC] p1 q1 x1 p2 q2 x2) k
    omega
  refine ⟨rfl, Trk.nf_norm gp, fun i i0 => ?_⟩
  rw [Trk.nf_fr gp i0, (pieces_fr d1 d2 long_good ga gb (by omega) i0).2]
  have eD : p1 + Trk.total x1 - q1 = Trk.total P1 - r1 := by rw [long_total] at *; omega
  rw [eD, e3]
/-- The merge is the first edit, then the second one moved. -/
theorem both_same {u1 u2 P1 P2 x v : List Trk.Clip} {a1 r1 a2 r2 : Int} (h1 : InL u1 P1 a1 r1) (h2 : InL u2 P2 a2 r2) (hs : a1 + r1 < a2) (hx : Trk.Norm x)
    (hf : ∀ i, 0 ≤ i → Trk.fr x i = if i < a2 + (Trk.total P1 - r1) then Trk.fr u1 i else Trk.fr u2 (i - (Trk.total P1 - r1))) (hv : ExF u1 v P2 (a2 + (Trk.total P1 - r1)) r2) : x = v := by
  have p1 := Trk.total_nonneg h1.g
  have p2 := Trk.total_nonneg h2.g
  have a0 := h1.p0
  have r0 := h1.r0
  have q0 := h2.r0
  refine hx.eq hv.n fun i i0 => ?_
  rw [hf i i0, hv.f i i0]
  by_cases k1 : i < a2 + (Trk.total P1 - r1)
  · rw [if_pos k1, if_pos k1]
  rw [if_neg k1, if_neg k1]
  by_cases k2 : i < a2 + (Trk.total P1 - r1) + Trk.total P2
  · rw [if_pos k2, h2.f1 (by omega) (by omega)]
    congr 1; omega
  · rw [if_neg k2, h2.f2 (by omega), h1.f2 (by omega)]
    congr 1; omega
/-- Two edits that begin at one frame and leave it different are a conflict. -/
theorem same_conflict {u v P1 P2 : List Trk.Clip} {n r1 r2 : Int} (h1 : InL u P1 n r1) (h2 : InL v P2 n r2) (hne : Trk.fr u n ≠ Trk.fr v n) {code : Int} {x : List Trk.Clip} (hm : MergeR [longC] u v code x) : code = 12 := by
  have n1 := h1.x.n.nf
  have n2 := h2.x.n.nf
  have s1 : u ≠ [longC] := h1.short (long_fr (by have := h1.e; have := h1.r0; omega))
  have s2 : v ≠ [longC] := h2.short (long_fr (by have := h2.e; have := h2.r0; omega))
  have s3 : u ≠ v := fun e => hne (by rw [e])
  rcases hm with ⟨hc, -⟩ | ⟨-, p1, q1, x1, p2, q2, x2, ht, hr⟩
  · unfold shortC at hc
    rw [nf_long, n1, n2] at hc
    rcases hc with h | h | h
    · exact absurd h s2
    · exact absurd h.symm s3
    · exact absurd h s1
  rw [nf_long, n1, n2] at ht
  have hpp : p1 = n ∧ p2 = n ∧ p1 ≤ q1 := by
    rcases ht with ⟨k1, k2, k3⟩ | ⟨k1, k2, k3⟩
    · exact ⟨(h1.diff k1).1, (h2.diff k2).1, k1.le.2.1⟩
    · exact ⟨(h2.diff k1).1, (h1.diff k2).1, k1.le.2.1⟩
  rcases hr with ⟨-, h, -⟩ | ⟨hq, -⟩
  · exact h
  · omega
end Go.Proofs.YtfoohocgdcgbcaaGreat

/- The law of merging both sides. -/
namespace Go.Proofs.YtfoohocgdcgbcaaGreat
open Go.RowKit
set_option linter.unusedVariables false
set_option linter.unusedSimpArgs false
/-- A pair's edits at the long track. -/
theorem Pr.inl {E F : Trk.Ed} {a1 a2 b1 : Int} (h : Pr E F a1 a2 b1) : InL (Trk.nf (E.exl [longC])) E.put a1 E.rem ∧ InL (Trk.nf (F.exl [longC])) F.put a2 F.rem ∧ a1 + E.rem < a2 ∧ E.put.length ≤ 3 ∧ F.put.length ≤ 3 ∧ Trk.total E.put ≤ 27 ∧ Trk.total F.put ≤ 27 ∧ b1 = Trk.total E.put - E.rem ∧ 1 ≤ a2 + b1 ∧ a2 + b1 ≤ 100 := by
  obtain ⟨n1, he⟩ := h.e
  obtain ⟨n2, b2, hf⟩ := h.f
  have c0 := h.c0
  have c1 := h.c1
  have s0 := h.s0
  have s1 := h.s1
  have r1 := he.r1
  have r0 := he.r0
  have u0 := he.u0
  have u1 := he.u1
  have hb := he.b
  have r2 := hf.r1
  exact ⟨InL.of he c0 (by omega), InL.of hf (by omega) (by omega), by omega, he.l, hf.l, u1, hf.u1, hb, by omega, by omega⟩
theorem long_apply {E : Trk.Ed} {a en by_ : Int} (h : Iv a E en by_) (a1 : a ≤ 1000) (v u : Value) (w : World) (ht : Tk w v [longC]) (hu : Tk w u E.ins) : Calls Tryz.prog 24 #[v, EdV E u] w (OTPost w (Trk.nf (E.exl [longC]))) :=
  applyx_any v u [longC] E w ht hu long_vt norm_long h.v (by have := h.l; show 1 + 2 + _ ≤ 63; omega) (by
    have := h.t1; have := h.p
    rw [long_total]
    split <;> omega)
/-- The second edit, moved, at the track that the first one made. -/
theorem then_apply {u : List Trk.Clip} {put : List Trk.Clip} {p rem : Int} (hi : InL u put p rem) (hl : put.length ≤ 5) (hz : Trk.total put ≤ 1000) {F : Trk.Ed} {a en by_ : Int} (h : Iv a F en by_) (a1 : a ≤ 1000) :
    ExF u (Trk.nf (F.exl u)) F.put a F.rem ∧ ∀ (v y : Value) (w : World), Tk w v u → Tk w y F.ins → Calls Tryz.prog 24 #[v, EdV F y] w (OTPost w (Trk.nf (F.exl u))) := by
  have k1 := hi.len hl
  have k2 := hi.total
  have k3 := hi.r0
  have k4 := h.l
  have k5 := h.t1
  have k6 := h.p
  have hee : (if F.k = 1 then max F.p (Trk.total u) else F.p) + F.T ≤ 2147483647 := by split <;> omega
  refine ⟨?_, fun v y w ht hu => applyx_any v y u F w ht hu hi.x.v hi.x.n h.v (by omega) hee⟩
  have hx := exch_of hi.x.v h.v (by omega) hee
  rw [k6] at hx
  exact hx
/-- The clip of one frame that the law puts in. -/
def cutC : Trk.Clip := ⟨1, 1, Trk.black, Trk.black, 0, 0, 0, ByteArray.empty, 0, []⟩
theorem cut_ok : ClipsOK [cutC] 3 := by
  refine ⟨⟨fun c hc => ?_, by decide, by decide⟩, by decide, by decide, by decide⟩
  rw [List.mem_singleton] at hc
  subst hc
  exact ⟨⟨.inl rfl, .inl rfl, rfl, rfl, .inr (.inl ⟨rfl, rfl, rfl, rfl, rfl, rfl⟩)⟩, by decide, by decide, fun h => by simp [cutC, Trk.shares] at h⟩
/-- The law's two edits of one frame. -/
theorem one_conflict {n : Int} (n0 : 0 ≤ n) (n1 : n < 140) : Iv n ⟨3, n, 0, 0, 0, 0, 0, [cutC]⟩ (n + 1) 0 ∧ Iv n ⟨4, n, 1, 0, 0, 0, 0, []⟩ (n + 1) 0 ∧ VT 1000000 (Trk.nf ((⟨3, n, 0, 0, 0, 0, 0, [cutC]⟩ : Trk.Ed).exl [longC])) ∧ VT 1000000 (Trk.nf ((⟨4, n, 1, 0, 0, 0, 0, []⟩ : Trk.Ed).exl [longC])) ∧
    ∀ code x, MergeR [longC] (Trk.nf ((⟨3, n, 0, 0, 0, 0, 0, [cutC]⟩ : Trk.Ed).exl [longC])) (Trk.nf ((⟨4, n, 1, 0, 0, 0, 0, []⟩ : Trk.Ed).exl [longC])) code x → code = 12 := by
  have i1 := iv_put cut_ok (fun c hc => by rw [List.mem_singleton] at hc; subst hc; show (0 : Nat) ≠ 1; decide) n 3 (.inr rfl) n0 (by omega)
  rw [if_neg (by decide), if_neg (by decide), show Trk.total [cutC] = 1 from rfl] at i1
  have i2 := iv_lift n 1 n0 (by omega) (by omega) (by omega)
  have k1 := InL.of i1 n0 (by show n + 1 < 150; omega)
  have k2 := InL.of i2 n0 (by show n + 1 < 150; omega)
  refine ⟨i1, i2, k1.x.v, k2.x.v, fun code x hm => same_conflict k1 k2 (fun e => ?_) hm⟩
  rw [k1.f1 (Int.le_refl n) (by show n < n + 1; omega), k2.f1 (Int.le_refl n) (by show n < n + 1; omega)] at e
  have e1 : (Trk.fr [cutC] (n - n)).kind = (Trk.fr [Trk.gap 1] (n - n)).kind := by
    have e2 := congrArg Trk.Clip.kind e
    exact e2
  rw [Int.sub_self] at e1
  exact absurd e1 (by decide)
set_option maxRecDepth 100000 in
set_option maxHeartbeats 16000000 in
theorem law_both (v : Value) (at' : Int) (w : World) (h : Ints w v) (h0 : 0 ≤ at') (h1 : at' ≤ 255) : Calls Tryz.prog 6 #[v, .int .u8 at'] w fun e w' => e = .returned (.bool true) ∧ Below w.heap.size w w' := by
  have HP := Lib.hid (pair_any v w h)
  clear h
  go_enter Tryz.func6, Tryz.ntmps6
  go_wp2_with fail
  refine HP.out.mono ?_
  rintro e w1 ⟨E, V, F, U, a1, a2, b1, rfl, hpr, hv, hu, hb⟩
  have HV := Lib.hid hv.tk
  have HU := Lib.hid hu.tk
  have HPR := Lib.hid hpr
  have HB := Lib.hid hb
  obtain ⟨va, vc, hV, -⟩ := hv.tk
  obtain ⟨ua, uc, hU, -⟩ := hu.tk
  obtain ⟨vn, hvn⟩ : ∃ k, k = E.ins.length := ⟨_, rfl⟩
  obtain ⟨un, hun⟩ : ∃ k, k = F.ins.length := ⟨_, rfl⟩
  rw [← hvn] at hV
  rw [← hun] at hU
  subst hV hU
  obtain ⟨q, hq⟩ : ∃ q, q = a2 + b1 := ⟨_, rfl⟩
  rw [← hq]
  have HQ := Lib.hid hq
  clear hv hu hpr hb hvn hun HP hq
  unfold EdV edV edC edAt
  dsimp only
  go_upto_region 2 with fail
  obtain ⟨w2, hw2⟩ : ∃ z, z = (((w1.alloc (.cells #[.int .i64 E.k, .int .i64 E.p, .int .i64 E.m, .int .i64 E.c, .int .i64 E.d, .int .i64 E.sn, .int .i64 E.sd, .slice va vn vc] 40)).alloc (.cells #[.int .i64 F.k, .int .i64 F.p, .int .i64 F.m, .int .i64 F.c, .int .i64 F.d, .int .i64 F.sn, .int .i64 F.sd, .slice ua un uc] 40)).alloc (.cells #[.int .i64 F.k, .int .i64 q, .int .i64 F.m, .int .i64 F.c, .int .i64 F.d, .int .i64 F.sn, .int .i64 F.sd, .slice ua un uc] 40)) := ⟨_, rfl⟩
  obtain ⟨g5, hg5⟩ : ∃ y, y = w1.heap.size := ⟨_, rfl⟩
  obtain ⟨g6, hg6⟩ : ∃ y, y = w1.heap.size + 1 := ⟨_, rfl⟩
  obtain ⟨g7, hg7⟩ : ∃ y, y = w1.heap.size + 1 + 1 := ⟨_, rfl⟩
  have hb : Below w1.heap.size w1 w2 := by rw [hw2]; go_grown
  have HE := Lib.hid (show E3 w2 g5 g6 g7 E F q (.slice va vn vc) (.slice ua un uc) by
    rw [hw2, hg5, hg6, hg7]
    refine ⟨?_, ?_, ?_⟩ <;> constructor <;> simp [go_sem])
  rw [← hw2, ← hg7, ← hg6, ← hg5]
  replace HV := Lib.hid (HV.out.below hb)
  replace HU := Lib.hid (HU.out.below hb)
  replace HB := Lib.hid (HB.out.trans (hb.mono HB.out.size))
  clear hb
  clear hw2 hg5 hg6 hg7
  obtain ⟨i1, i2, is, l1, l2, z1, z2, eb, q0, q1⟩ := HPR.out.inl
  obtain ⟨n1, iv1⟩ := HPR.out.e
  obtain ⟨n2, b2, iv2⟩ := HPR.out.f
  have c1 := HPR.out.c1
  have A1 := Lib.hid (fun (v : Value) (w : World) (h : Tk w v [longC]) (h' : Tk w (.slice va vn vc) E.ins) => long_apply iv1 (by omega) v _ w h h')
  have A2 := Lib.hid (fun (v : Value) (w : World) (h : Tk w v [longC]) (h' : Tk w (.slice ua un uc) F.ins) => long_apply iv2 (by have := HPR.out.s1; have := iv1.r1; omega) v _ w h h')
  obtain ⟨xf, A3'⟩ := then_apply i1 (by omega) (by omega) (iv2.move (a' := q) (by rw [HQ.out]; omega) (by rw [HQ.out]; omega)) (by rw [HQ.out]; omega)
  have A3 := Lib.hid (fun (v : Value) (w : World) (h : Tk w v (Trk.nf (E.exl [longC]))) (h' : Tk w (.slice ua un uc) F.ins) => A3' v _ w h h')
  have MG := Lib.hid (fun (v1 v2 v3 : Value) (w : World) (k1 : Tk w v1 [longC]) (k2 : Tk w v2 (Trk.nf (E.exl [longC]))) (k3 : Tk w v3 (Trk.nf (F.exl [longC]))) => merge_any (L := 1000000) v1 v2 v3 _ _ _ w k1 k2 k3 long_vt i1.x.v i2.x.v (by decide))
  obtain ⟨u12, hu12⟩ : ∃ u, u = Trk.nf ((edAt F q).exl (Trk.nf (E.exl [longC]))) := ⟨_, rfl⟩
  rw [← hu12] at A3 xf
  obtain ⟨u1, hu1⟩ : ∃ u, u = Trk.nf (E.exl [longC]) := ⟨_, rfl⟩
  obtain ⟨u2, hu2⟩ : ∃ u, u = Trk.nf (F.exl [longC]) := ⟨_, rfl⟩
  rw [← hu1] at i1 A1 MG A3 xf
  rw [← hu2] at i2 A2 MG
  have HFIN := Lib.hid (show ∀ code x, MergeR [longC] u1 u2 code x → code = 0 ∧ x = u12 from fun code x hm => by
    obtain ⟨k1, k2, k3⟩ := both_merge i1 i2 (by omega) (by omega) (by omega) (by omega) is (.inl ⟨rfl, rfl⟩) hm
    refine ⟨k1, both_same i1 i2 is k2 k3 ?_⟩
    rw [HQ.out, eb] at xf
    exact xf)
  clear A3' hu12 hu1 hu2 xf i1 i2 is l1 l2 z1 z2 eb q0 q1 iv1 iv2 c1
  unfold EdV edV at A1 A2 A3
  go_wp2_with fail
  refine (long_any _).mono ?_
  rintro e w3 ⟨vt, rfl, ho, hb⟩
  have HT := Lib.hid ho.tk
  clear ho
  replace HV := Lib.hid (HV.out.below hb)
  replace HU := Lib.hid (HU.out.below hb)
  replace HE := Lib.hid (HE.out.below hb)
  replace HB := Lib.hid (HB.out.trans (hb.mono HB.out.size))
  clear hb
  obtain ⟨ta, tc, ht, -⟩ := HT.out
  obtain ⟨tn, htn⟩ : ∃ k, k = [longC].length := ⟨_, rfl⟩
  rw [← htn] at ht
  subst ht
  clear htn
  go_upto_region 3 with fail
  have HW3 := Lib.hid (Below.refl w3.heap.size w3)
  refine Plan.wp_region_plan (fun w' => E3 w' g5 g6 g7 E F q (.slice va vn vc) (.slice ua un uc)) (([0, 1, 2, 4, 5].map (·, true)) ++ (([3, 6, 7].map (·, false)) ++ ([8, 9, 10, 11, 12].map (·, true)))) (by kernel_rfl) (by kernel_rfl) (by kernel_rfl) (HE.out.below (Below.refl _ _).drew) ?_
  refine' Plan.plan_seg _ [0, 1, 2, 4, 5] (([3, 6, 7].map (·, false)) ++ ([8, 9, 10, 11, 12].map (·, true))) (by kernel_rfl) (by kernel_rfl) rfl (by exact HE.out.below (Below.refl _ _).drew) (fun wx hS => ?_) ?_
  rotate_left
  · have HS := Lib.hid hS
    clear hS
    go_light
    iterate 2 (apply Plan.seg_pick; rfl; intro K hK; go_wp)
    (apply Plan.seg_pick; rfl; intro K hK)
    refine wpl_loadE HS.out.a rfl rfl rfl ?_
    go_wp
    iterate 1 (apply Plan.seg_pick; rfl; intro K hK; go_wp)
    (apply Plan.seg_pick; rfl; intro K hK)
    refine wpl_loadE HS.out.b rfl rfl rfl ?_
    go_wp
    exact Plan.seg_nil
  obtain ⟨w4, hw4⟩ : ∃ x, x = w3.drew := ⟨_, rfl⟩
  rw [← hw4]
  have hb : Below w3.heap.size w3 w4 := by rw [hw4]; exact (Below.refl _ _).drew
  replace HV := Lib.hid (HV.out.below hb)
  replace HU := Lib.hid (HU.out.below hb)
  replace HE := Lib.hid (HE.out.below hb)
  replace HT := Lib.hid (HT.out.below hb)
  replace HB := Lib.hid (HB.out.trans (hb.mono HB.out.size))
  clear hb
  clear hw4
  simp only [Act.put, List.setIfInBounds_toArray, List.set_cons_succ, List.set_cons_zero]
  refine Plan.plan_of_effect rfl (fun K hK => ?_)
  go_wp2_with fail
  refine (A1.out _ _ HT.out HV.out).mono ?_
  rintro e w5 ⟨x5, rfl, ho, hb⟩
  have H5 := Lib.hid ho.tk
  clear ho
  replace HV := Lib.hid (HV.out.below hb)
  replace HU := Lib.hid (HU.out.below hb)
  replace HE := Lib.hid (HE.out.below hb)
  replace HT := Lib.hid (HT.out.below hb)
  replace HB := Lib.hid (HB.out.trans (hb.mono HB.out.size))
  clear hb
  go_wp2_with fail
  refine ⟨HE.out, ?_⟩
  refine Plan.plan_of_effect rfl (fun K hK => ?_)
  go_wp2_with fail
  refine (A2.out _ _ HT.out HU.out).mono ?_
  rintro e w6 ⟨x6, rfl, ho, hb⟩
  have H6 := Lib.hid ho.tk
  clear ho
  replace HV := Lib.hid (HV.out.below hb)
  replace HU := Lib.hid (HU.out.below hb)
  replace HE := Lib.hid (HE.out.below hb)
  replace HT := Lib.hid (HT.out.below hb)
  replace H5 := Lib.hid (H5.out.below hb)
  replace HB := Lib.hid (HB.out.trans (hb.mono HB.out.size))
  clear hb
  go_wp2_with fail
  refine ⟨HE.out, ?_⟩
  refine Plan.plan_of_effect rfl (fun K hK => ?_)
  go_wp2_with fail
  refine (MG.out _ _ _ _ HT.out H5.out H6.out).mono ?_
  rintro e w7 ⟨x7, code, x, rfl, ho, hb, hm⟩
  obtain ⟨rfl, rfl⟩ := HFIN.out code x hm
  have H7 := Lib.hid ho.tk
  clear ho hm HFIN
  replace HV := Lib.hid (HV.out.below hb)
  replace HU := Lib.hid (HU.out.below hb)
  replace HE := Lib.hid (HE.out.below hb)
  replace HT := Lib.hid (HT.out.below hb)
  replace HB := Lib.hid (HB.out.trans (hb.mono HB.out.size))
  clear hb
  clear H5 H6
  go_wp2_with fail
  refine ⟨HE.out, ?_⟩
  refine' Plan.plan_seg _ [8, 9, 10, 11, 12] [] (by kernel_rfl) (by kernel_rfl) rfl (by exact HE.out) (fun wx hS => ?_) ?_
  rotate_left
  · clear hS
    go_light
    iterate 5 (apply Plan.seg_pick; rfl; intro K hK; go_wp)
    exact Plan.seg_nil
  refine Plan.plan_done ?_
  go_upto_region 4 with fail
  refine Plan.wp_region_plan (fun w' => E3 w' g5 g6 g7 E F q (.slice va vn vc) (.slice ua un uc)) (([0, 1, 2, 3, 4, 5, 7].map (·, true)) ++ (([6, 8, 9].map (·, false)) ++ ([10, 11].map (·, true)))) (by kernel_rfl) (by kernel_rfl) (by kernel_rfl) (HE.out.below (Below.refl _ _).drew) ?_
  refine' Plan.plan_seg _ [0, 1, 2, 3, 4, 5, 7] (([6, 8, 9].map (·, false)) ++ ([10, 11].map (·, true))) (by kernel_rfl) (by kernel_rfl) rfl (by exact HE.out.below (Below.refl _ _).drew) (fun wx hS => ?_) ?_
  rotate_left
  · have HS := Lib.hid hS
    clear hS
    go_light
    obtain ⟨m0, m1, m2, m3, m4, m5, m6, m7, -⟩ := HS.out.a
    obtain ⟨o0, o1, o2, o3, o4, o5, o6, o7, -⟩ := HS.out.c
    iterate 7 (apply Plan.seg_pick; rfl; intro K hK; go_wp)
    exact Plan.seg_nil
  obtain ⟨w8, hw8⟩ : ∃ x, x = w7.drew := ⟨_, rfl⟩
  rw [← hw8]
  have hb : Below w7.heap.size w7 w8 := by rw [hw8]; exact (Below.refl _ _).drew
  replace HV := Lib.hid (HV.out.below hb)
  replace HU := Lib.hid (HU.out.below hb)
  replace HE := Lib.hid (HE.out.below hb)
  replace HT := Lib.hid (HT.out.below hb)
  replace H7 := Lib.hid (H7.out.below hb)
  replace HB := Lib.hid (HB.out.trans (hb.mono HB.out.size))
  clear hb
  clear hw8
  refine Plan.plan_of_effect rfl (fun K hK => ?_)
  go_wp2_with fail
  refine (A1.out _ _ HT.out HV.out).mono ?_
  rintro e w9 ⟨x9, rfl, ho, hb⟩
  have H9 := Lib.hid ho.tk
  clear ho
  replace HU := Lib.hid (HU.out.below hb)
  replace HE := Lib.hid (HE.out.below hb)
  replace HT := Lib.hid (HT.out.below hb)
  replace H7 := Lib.hid (H7.out.below hb)
  replace HB := Lib.hid (HB.out.trans (hb.mono HB.out.size))
  clear hb
  go_wp2_with fail
  refine ⟨HE.out, ?_⟩
  refine Plan.plan_of_effect rfl (fun K hK => ?_)
  go_wp2_with fail
  refine (A3.out _ _ H9.out HU.out).mono ?_
  rintro e w10 ⟨x10, rfl, ho, hb⟩
  have H10 := Lib.hid ho.tk
  clear ho H9
  replace HE := Lib.hid (HE.out.below hb)
  replace HT := Lib.hid (HT.out.below hb)
  replace H7 := Lib.hid (H7.out.below hb)
  replace HB := Lib.hid (HB.out.trans (hb.mono HB.out.size))
  clear hb
  go_wp2_with fail
  refine ⟨HE.out, ?_⟩
  refine Plan.plan_of_effect rfl (fun K hK => ?_)
  go_wp2_with fail
  refine (equal_self _ _ _ _ H7.out H10.out).mono ?_
  rintro e w11 ⟨rfl, hb⟩
  replace HE := Lib.hid (HE.out.below hb)
  replace HT := Lib.hid (HT.out.below hb)
  replace HB := Lib.hid (HB.out.trans (hb.mono HB.out.size))
  clear hb
  clear H7 H10 A1 A2 A3 MG HV HU
  go_wp2_with fail
  refine ⟨HE.out, ?_⟩
  refine' Plan.plan_seg _ [10, 11] [] (by kernel_rfl) (by kernel_rfl) rfl (by exact HE.out) (fun wx hS => ?_) ?_
  rotate_left
  · clear hS
    go_light
    iterate 2 (apply Plan.seg_pick; rfl; intro K hK; go_wp)
    exact Plan.seg_nil
  refine Plan.plan_done ?_
  clear HE
  go_upto_region 7 with fail
  obtain ⟨n, hn⟩ : ∃ n, n = at' % 140 := ⟨_, rfl⟩
  rw [← hn]
  have n0 : 0 ≤ n := by omega
  have n1 : n < 140 := by omega
  clear hn
  obtain ⟨iv1, iv2, t1, t2, hcf⟩ := one_conflict n0 n1
  have A1 := Lib.hid (fun (v u : Value) (w : World) (h : Tk w v [longC]) (h' : Tk w u [cutC]) => long_apply iv1 (by omega) v u w h h')
  have A2 := Lib.hid (fun (v u : Value) (w : World) (h : Tk w v [longC]) (h' : Tk w u []) => long_apply iv2 (by omega) v u w h h')
  have HC := Lib.hid hcf
  have MG := Lib.hid (fun (v1 v2 v3 : Value) (w : World) (k1 : Tk w v1 [longC]) (k2 : Tk w v2 _) (k3 : Tk w v3 _) => merge_any (L := 1000000) v1 v2 v3 _ _ _ w k1 k2 k3 long_vt t1 t2 (by decide))
  clear iv1 iv2 t1 t2 hcf
  apply wp_region_lit
  iterate 6 go_step
  refine Great.wpList_buildSliceTo rfl 23 48 1 #[(0, .tmp 49)] rfl w11.heap.size rfl (some 50) rfl Tryz.underlying23 (clipC cutC).toArray ?_ ?_
  · simp only [List.map_toArray, List.map_cons, List.map_nil, List.toList_toArray]
    exact built_clip cutC
  have hbx := OT.box w11 cutC
  have hb : Below w11.heap.size w11 (w11.alloc (.cells (clipC cutC).toArray 48)) := below_box _ _
  obtain ⟨w12, hw12⟩ : ∃ z, z = w11.alloc (.cells (clipC cutC).toArray 48) := ⟨_, rfl⟩
  rw [← hw12] at hbx hb ⊢
  obtain ⟨gc, hgc⟩ : ∃ g, g = w11.heap.size := ⟨_, rfl⟩
  rw [← hgc] at hbx ⊢
  have HX := Lib.hid hbx.tk
  clear hbx hw12 hgc
  replace HT := Lib.hid (HT.out.below hb)
  replace HB := Lib.hid (HB.out.trans (hb.mono HB.out.size))
  clear hb
  go_upto_region 8 with fail
  obtain ⟨w13, hw13⟩ : ∃ z, z = w12.alloc (.cells #[.int .i64 3, .int .i64 n, .int .i64 0, .int .i64 0, .int .i64 0, .int .i64 0, .int .i64 0, .slice (some ⟨gc, 0, none⟩) 1 1] 40) := ⟨_, rfl⟩
  obtain ⟨g8, hg8⟩ : ∃ g, g = w12.heap.size := ⟨_, rfl⟩
  have hb : Below w12.heap.size w12 w13 := by rw [hw13]; exact below_box _ _
  have HE := Lib.hid (show ED w13 g8 3 n 0 0 0 0 0 (.slice (some ⟨gc, 0, none⟩) 1 1) by rw [hw13, hg8]; exact ED.box w12 3 n 0 0 0 0 0 _ rfl 40)
  rw [← hw13, ← hg8]
  clear hw13 hg8
  replace HT := Lib.hid (HT.out.below hb)
  replace HX := Lib.hid (HX.out.below hb)
  replace HB := Lib.hid (HB.out.trans (hb.mono HB.out.size))
  clear hb
  obtain ⟨m0, m1, m2, m3, m4, m5, m6, m7, -⟩ := HE.out
  go_wp2_with fail
  refine (A1.out _ _ _ HT.out HX.out).mono ?_
  rintro e w14 ⟨x14, rfl, ho, hb⟩
  have H14 := Lib.hid ho.tk
  clear ho m0 m1 m2 m3 m4 m5 m6 m7
  replace HT := Lib.hid (HT.out.below hb)
  replace HB := Lib.hid (HB.out.trans (hb.mono HB.out.size))
  clear hb
  go_wp2_with fail
  refine (A2.out _ (.slice none 0 0) _ HT.out (Tk.nil _)).mono ?_
  rintro e w15 ⟨x15, rfl, ho, hb⟩
  have H15 := Lib.hid ho.tk
  clear ho
  replace HT := Lib.hid (HT.out.below hb)
  replace H14 := Lib.hid (H14.out.below hb)
  replace HB := Lib.hid (HB.out.trans (hb.mono HB.out.size))
  clear hb
  go_wp2_with fail
  refine (MG.out _ _ _ _ HT.out H14.out H15.out).mono ?_
  rintro e w16 ⟨x16, code, x, rfl, ho, hb, hm⟩
  obtain rfl := HC.out code x hm
  clear ho hm
  replace HB := Lib.hid (HB.out.trans (hb.mono HB.out.size))
  clear hb
  go_wp2_with fail
  refine (awake_any _).mono ?_
  rintro e w17 ⟨rfl, hb⟩
  replace HB := Lib.hid (HB.out.trans (hb.mono HB.out.size))
  clear hb
  go_wp2_with fail
  go_ret
  exact ⟨rfl, HB.out⟩
end Go.Proofs.YtfoohocgdcgbcaaGreat


namespace Go.Proofs.YtfoohocgdcgbcaaGreat.binBoth
open Go.ChangeShapes Go.WideShapes Go.ChangeAt Go.RowKit
set_option linter.unusedVariables false

theorem own : ownKnob Tryz.prog.godebug = none := by kernel_rfl

set_option maxRecDepth 100000 in
theorem lifted (os : Os) (started : os.Started) (H : Type) (enc : TypeId × Value → H) :
    ReturnsInHanded {} Tryz.checked os 6 .any (Rows.binBothSpec.pre6 enc Tryz.prog Tryz.f6 Rows.binBothRow.domain false) (Rows.binBothSpec.post enc Tryz.prog Tryz.f6 false true false false) := by
  refine returnsInHanded_of_change (C := Tryz.checked) own started (by kernel_rfl) Tryz.func6
    (ChangeSpec.witness6 (enc := enc) (C := Tryz.checked) false ⟨#[], #[.slice none 0 0, .int .u8 0], []⟩ 8 (by kernel_rfl) (by kernel_rfl) (by kernel_rfl) (by kernel_rfl)) ?_
  intro W base args ds gs before hval0 hW hcnd _
  have hval : ∀ (j : Nat) t v, Tryz.f6.params[j]? = some t → args[j]? = some v → Value.okWide Tryz.prog W .any base t v := hval0
  have hW' := hW
  obtain ⟨p, q, hA0, hV, rfl, hfz, hnd⟩ := hW
  have hA : DataW.TrodAll enc Tryz.prog W 0 (fun _ => true) true Tryz.f6.params.toList args.toList ds p := hA0
  have hAk := hA
  rw [Tryz.params6] at hA hval
  obtain ⟨v0, vs0, d0, ds0, p0, q0, hargs, rfl, rfl, h0, r0⟩ := trodAll_cons hA
  obtain ⟨v1, vs1, d1, ds1, p1, q1, rfl, rfl, rfl, h1, r1⟩ := trodAll_cons r0
  obtain ⟨rfl, rfl, rfl⟩ := trodAll_nil r1
  obtain rfl : args = #[v0, v1] := by cases args; simp_all
  obtain ⟨rfl, rfl⟩ := trodVars_none hV
  have hr0 := open_tape (hval 0 24 v0 rfl rfl) h0
  obtain ⟨a1, rfl, rfl, rfl, w1⟩ := open_int Tryz.underlying5 (hval 1 5 v1 rfl rfl) h1
  have x1 : 0 ≤ a1 ∧ a1 ≤ 255 := by simpa [Lit.wf, IntKind.min, IntKind.max, IntKind.signed, IntKind.bits] using w1
  simp only [List.append_nil] at hW' hAk
  refine (law_both v0 a1 W hr0 x1.1 x1.2).mono fun e W' ⟨he, hg⟩ => ?_
  subst he
  exact ⟨_, rfl, post_of_below (pv := []) hW' (fun _ _ _ => (trodAll_cons_mk (shut_bool Tryz.underlying4 _) trodAll_mk0)) (fun sp hsp => trodAll_stays laid_out hg (by kernel_rfl) hAk (fun x hx => hW'.lt x (by simpa using hx)) (fun x hx => hsp x (by simpa using hx))) (fun _ _ => rfl) (by simp)
    hg (ok_one (by kernel_rfl) rfl (okWide_bool_mk Tryz.underlying4 _))⟩

theorem over : Rows.binBothRow.holds Tryz.pinned (OpenSpec.ofChange Rows.binBothSpec) :=
  OpenClaim.holds_of_wide 6 Tryz.f6 rfl rfl rfl rfl rfl rfl rfl ⟨rfl, rfl, rfl, rfl, rfl⟩ rfl rfl rfl rfl rfl (by kernel_rfl) Tryz.func6 (by kernel_rfl)
    (of_decide_eq_true (by kernel_rfl)) (by unfold Func.isWrapper; first | (rw [if_pos (by decide +kernel)]; kernel_rfl) | (rw [if_neg (by decide +kernel)]; exact ⟨rfl, rfl⟩))
    (fun os started H enc _ => lifted os started H enc)

/-- The statement. -/
theorem proved : Rows.BinBothSaid :=
  over
end Go.Proofs.YtfoohocgdcgbcaaGreat.binBoth
