/- Plain laws of the weighted mean and of the wipe: no program in sight. -/
import Derived.Test.YtnnobdcbmagbaaaJ
namespace Go.Proofs.Ytnnobdcbmagbaaa
open Go.RowKit
set_option linter.unusedVariables false

theorem mean_id {x den r : Int} (hd : 1 ≤ den) (hr : 0 ≤ r) (hr2 : r < den) : (x * den + r) / den = x := by
  rw [Int.add_comm, Int.add_mul_ediv_right _ _ (by omega), Int.ediv_eq_zero_of_lt hr hr2]; omega

theorem blend_first {x y den : Int} (hd : 1 ≤ den) (h0 : 0 ≤ x) (h1 : x < 256) : blend1 0 den x y = x := by
  unfold blend1
  rw [Int.sub_zero, Int.mul_zero, Int.add_zero, mean_id hd (by omega) (by omega)]; omega

theorem blend_second {x y den : Int} (hd : 1 ≤ den) (h0 : 0 ≤ y) (h1 : y < 256) : blend1 den den x y = y := by
  unfold blend1
  rw [Int.sub_self, Int.mul_zero, Int.zero_add, mean_id hd (by omega) (by omega)]; omega

theorem blend_same {x num den : Int} (hd : 1 ≤ den) (h0 : 0 ≤ x) (h1 : x < 256) : blend1 num den x x = x := by
  unfold blend1
  rw [show x * (den - num) + x * num = x * den by rw [← Int.mul_add]; congr 1; omega, mean_id hd (by omega) (by omega)]; omega

theorem blend_swap (x y num den : Int) : blend1 (den - num) den y x = blend1 num den x y := by
  unfold blend1
  rw [show den - (den - num) = num by omega, Int.add_comm (y * num)]

theorem blend_between {x y num den lo hi : Int} (hd : 1 ≤ den) (hn0 : 0 ≤ num) (hn1 : num ≤ den) (hl0 : 0 ≤ lo) (hh : hi < 256) (hlx : lo ≤ x) (hly : lo ≤ y) (hxh : x ≤ hi) (hyh : y ≤ hi) :
    blend1 num den x y = (x * (den - num) + y * num + den / 2) / den ∧ lo ≤ blend1 num den x y ∧ blend1 num den x y ≤ hi := by
  have a1 : lo * (den - num) ≤ x * (den - num) := Int.mul_le_mul_of_nonneg_right hlx (by omega)
  have a2 : lo * num ≤ y * num := Int.mul_le_mul_of_nonneg_right hly hn0
  have a3 : x * (den - num) ≤ hi * (den - num) := Int.mul_le_mul_of_nonneg_right hxh (by omega)
  have a4 : y * num ≤ hi * num := Int.mul_le_mul_of_nonneg_right hyh hn0
  have e1 : lo * (den - num) + lo * num = lo * den := by rw [← Int.mul_add]; congr 1; omega
  have e2 : hi * (den - num) + hi * num = hi * den := by rw [← Int.mul_add]; congr 1; omega
  have b1 : lo ≤ (x * (den - num) + y * num + den / 2) / den := Int.le_ediv_of_mul_le (by omega) (by omega)
  have b2 : (x * (den - num) + y * num + den / 2) / den < hi + 1 := Int.ediv_lt_of_lt_mul (by omega) (by rw [Int.add_mul]; omega)
  have e : blend1 num den x y = (x * (den - num) + y * num + den / 2) / den := by unfold blend1; exact Int.emod_eq_of_lt (by omega) (by omega)
  rw [e]
  exact ⟨rfl, b1, by omega⟩

theorem blend_up {x y num den : Int} (hd : 1 ≤ den) (hn0 : 0 ≤ num) (hn1 : num + 1 ≤ den) (hx0 : 0 ≤ x) (hy : y < 256) (h : x ≤ y) : blend1 num den x y ≤ blend1 (num + 1) den x y := by
  obtain ⟨e1, _⟩ := blend_between (x := x) (y := y) (num := num) (lo := x) (hi := y) hd hn0 (by omega) hx0 hy (Int.le_refl _) h h (Int.le_refl _)
  obtain ⟨e2, _⟩ := blend_between (x := x) (y := y) (num := num + 1) (lo := x) (hi := y) hd (by omega) hn1 hx0 hy (Int.le_refl _) h h (Int.le_refl _)
  rw [e1, e2]
  refine Int.ediv_le_ediv (by omega) ?_
  have e : x * (den - num) = x * (den - (num + 1)) + x := by rw [show den - num = (den - (num + 1)) + 1 by omega, Int.mul_add, Int.mul_one]
  have e' : y * (num + 1) = y * num + y := by rw [Int.mul_add, Int.mul_one]
  omega

theorem blend_down {x y num den : Int} (hd : 1 ≤ den) (hn0 : 0 ≤ num) (hn1 : num + 1 ≤ den) (hy0 : 0 ≤ y) (hx : x < 256) (h : y ≤ x) : blend1 (num + 1) den x y ≤ blend1 num den x y := by
  obtain ⟨e1, _⟩ := blend_between (x := x) (y := y) (num := num) (lo := y) (hi := x) hd hn0 (by omega) hy0 hx h (Int.le_refl _) (Int.le_refl _) h
  obtain ⟨e2, _⟩ := blend_between (x := x) (y := y) (num := num + 1) (lo := y) (hi := x) hd (by omega) hn1 hy0 hx h (Int.le_refl _) (Int.le_refl _) h
  rw [e1, e2]
  refine Int.ediv_le_ediv (by omega) ?_
  have e : x * (den - num) = x * (den - (num + 1)) + x := by rw [show den - num = (den - (num + 1)) + 1 by omega, Int.mul_add, Int.mul_one]
  have e' : y * (num + 1) = y * num + y := by rw [Int.mul_add, Int.mul_one]
  omega

/-! ### The wipe -/
theorem wipe_first {W H d den : Int} {X Y : Nat → Int} {i : Nat} (hd0 : 0 ≤ d) (hW : 1 ≤ W) (hi : (i : Int) < W * H) (hden : 0 ≤ den) : wipeF W H d 0 den X Y i = X i := by
  obtain ⟨h1, h2, h3, h4⟩ := div_bd hW hi
  unfold wipeF
  rw [if_neg]
  rw [Int.mul_zero]
  have : 0 ≤ (placeF ((i : Int) % W) ((i : Int) / W) W H d).1 := by
    unfold placeF; split
    · exact h1
    · split
      · show 0 ≤ W - 1 - (i : Int) % W; omega
      · split
        · exact h3
        · show 0 ≤ H - 1 - (i : Int) / W; omega
  have := Int.mul_nonneg this hden
  omega

theorem place_lt {W H d : Int} {i : Nat} (hW : 1 ≤ W) (hi : (i : Int) < W * H) : (placeF ((i : Int) % W) ((i : Int) / W) W H d).1 < (placeF ((i : Int) % W) ((i : Int) / W) W H d).2 := by
  obtain ⟨h1, h2, h3, h4⟩ := div_bd hW hi
  unfold placeF; split
  · exact h2
  · split
    · show W - 1 - (i : Int) % W < W; omega
    · split
      · exact h4
      · show H - 1 - (i : Int) / W < H; omega

theorem wipe_second {W H d den : Int} {X Y : Nat → Int} {i : Nat} (hW : 1 ≤ W) (hi : (i : Int) < W * H) (hden : 1 ≤ den) : wipeF W H d den den X Y i = Y i := by
  unfold wipeF
  rw [if_pos]
  exact Int.mul_lt_mul_of_pos_right (place_lt hW hi) (by omega)

theorem wipe_sides {W H num : Int} {X Y : Nat → Int} {i : Nat} (hW : W % 8 = 0) (hW0 : 1 ≤ W) (hi : (i : Int) < W * H) : wipeF W H 0 num 8 X Y i = wipeF W H 1 (8 - num) 8 Y X i := by
  obtain ⟨h1, h2, h3, h4⟩ := div_bd hW0 hi
  obtain ⟨c, rfl⟩ : ∃ c, W = 8 * c := ⟨W / 8, by omega⟩
  unfold wipeF placeF
  simp only [if_true, show ¬ ((1 : Int) = 0) by decide, if_false]
  generalize (i : Int) % (8 * c) = x at h1 h2
  have e1 : 8 * c * num = 8 * (c * num) := Int.mul_assoc _ _ _
  have e2 : 8 * c * (8 - num) = 8 * (8 * c - c * num) := by rw [Int.mul_assoc, Int.mul_sub, Int.mul_comm c 8]
  rw [e1, e2]
  generalize c * num = m
  by_cases h : x * 8 < 8 * m
  · rw [if_pos h, if_neg (by omega)]
  · rw [if_neg h, if_pos (by omega)]

theorem wipe_sides2 {W H num : Int} {X Y : Nat → Int} {i : Nat} (hH : H % 8 = 0) (hW0 : 1 ≤ W) (hi : (i : Int) < W * H) : wipeF W H 2 num 8 X Y i = wipeF W H 3 (8 - num) 8 Y X i := by
  obtain ⟨h1, h2, h3, h4⟩ := div_bd hW0 hi
  obtain ⟨c, rfl⟩ : ∃ c, H = 8 * c := ⟨H / 8, by omega⟩
  unfold wipeF placeF
  simp only [if_true, show ¬ ((2 : Int) = 0) by decide, show ¬ ((2 : Int) = 1) by decide, show ¬ ((3 : Int) = 0) by decide, show ¬ ((3 : Int) = 1) by decide, show ¬ ((3 : Int) = 2) by decide, if_false]
  generalize (i : Int) / W = x at h3 h4
  have e1 : 8 * c * num = 8 * (c * num) := Int.mul_assoc _ _ _
  have e2 : 8 * c * (8 - num) = 8 * (8 * c - c * num) := by rw [Int.mul_assoc, Int.mul_sub, Int.mul_comm c 8]
  rw [e1, e2]
  generalize c * num = m
  by_cases h : x * 8 < 8 * m
  · rw [if_pos h, if_neg (by omega)]
  · rw [if_neg h, if_pos (by omega)]

end Go.Proofs.Ytnnobdcbmagbaaa
