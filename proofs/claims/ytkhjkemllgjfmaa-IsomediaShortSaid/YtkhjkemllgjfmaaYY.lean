/- With some of the last seven bytes missing the last box is not complete. -/
import Derived.Test.YtkhjkemllgjfmaaYX
namespace Go.Proofs.Ytkhjkemllgjfmaa
open Go.RowKit
set_option linter.unusedVariables false
set_option linter.unusedSimpArgs false

theorem bits_nat (a b : Nat) (ha : a < 2147483648) (hb : b < 2147483648) : bits BinOp.or IntKind.i64 (a : Int) (b : Int) = ((a ||| b : Nat) : Int) := by
  unfold bits
  have h1 : (BitVec.ofInt IntKind.i64.bits (a : Int)).toNat = a := by
    rw [BitVec.toNat_ofInt]
    show ((a : Int) % ((2 ^ 64 : Nat) : Int)).toNat = a
    omega
  have h2 : (BitVec.ofInt IntKind.i64.bits (b : Int)).toNat = b := by
    rw [BitVec.toNat_ofInt]
    show ((b : Int) % ((2 ^ 64 : Nat) : Int)).toNat = b
    omega
  have h3 : a ||| b < 2 ^ 31 := Nat.or_lt_two_pow (by omega) (by omega)
  simp only [BitVec.toNat_or, h1, h2]
  unfold IntKind.wrap
  have h4 : ((a ||| b : Nat) : Int) % 2 ^ IntKind.i64.bits = ((a ||| b : Nat) : Int) := by
    show ((a ||| b : Nat) : Int) % 2 ^ 64 = _
    omega
  rw [h4]
  rw [if_neg]
  simp only [Bool.and_eq_true, decide_eq_true_eq, not_and]
  intro _
  show ¬ ((a ||| b : Nat) : Int) ≥ 2 ^ 63
  omega
theorem or_add (a b k : Nat) (hb : b < 2 ^ k) : (a * 2 ^ k) ||| b = a * 2 ^ k + b := by
  rw [Nat.mul_comm]
  exact (Nat.two_pow_add_eq_or_of_lt hb a).symm
theorem numI_nat (z : Nat) (hz : z < 2147483648) (f : Nat → Int) (p : Nat) (h0 : f p = (z : Int) / 16777216 % 256) (h1 : f (p + 1) = (z : Int) / 65536 % 256) (h2 : f (p + 2) = (z : Int) / 256 % 256) (h3 : f (p + 3) = (z : Int) % 256) : numI f p = (z : Int) := by
  unfold numI
  rw [h0, h1, h2, h3]
  rw [show (z : Int) / 16777216 % 256 * 16777216 = (((z / 16777216) * 2 ^ 24 : Nat) : Int) by omega]
  rw [show (z : Int) / 65536 % 256 * 65536 = (((z / 65536 % 256) * 2 ^ 16 : Nat) : Int) by omega]
  rw [show (z : Int) / 256 % 256 * 256 = (((z / 256 % 256) * 2 ^ 8 : Nat) : Int) by omega]
  rw [show (z : Int) % 256 = ((z % 256 : Nat) : Int) by omega]
  rw [bits_nat _ _ (by omega) (by omega), or_add _ _ 24 (by omega)]
  rw [show z / 16777216 * 2 ^ 24 + z / 65536 % 256 * 2 ^ 16 = (z / 65536) * 2 ^ 16 by omega]
  rw [bits_nat _ _ (by omega) (by omega), or_add _ _ 16 (by omega)]
  rw [show z / 65536 * 2 ^ 16 + z / 256 % 256 * 2 ^ 8 = (z / 256) * 2 ^ 8 by omega]
  rw [bits_nat _ _ (by omega) (by omega), or_add _ _ 8 (by omega)]
  omega
/-- A box's size, read where the box begins. -/
theorem numI_box {L A C : List Int} {nm : ByteArray} {d : List Int} {f : Nat → Int} (e : L = A ++ (boxP nm d ++ C)) (hl : (boxP nm d).length < 2147483648) (h : ∀ j, j < 4 → f (A.length + j) = L.getD (A.length + j) 0) : numI f A.length = ((boxP nm d).length : Int) := by
  have hz : ((d.length : Int) + 4 + nm.size) = ((boxP nm d).length : Int) := by rw [boxP_length]; omega
  have hg : ∀ j, j < 4 → L.getD (A.length + j) 0 = (num4 ((boxP nm d).length : Int)).getD j 0 := by
    intro j hj
    have hx : boxP nm d ++ C = num4 ((boxP nm d).length : Int) ++ (strB nm ++ d ++ C) := by
      conv => lhs; unfold boxP
      rw [hz, List.append_assoc]
    simp only [List.getD_eq_getElem?_getD]
    rw [e, List.getElem?_append_right (by omega), hx, List.getElem?_append_left (by simp [num4]; omega), Nat.add_sub_cancel_left]
  have k0 := (h 0 (by omega)).trans (hg 0 (by omega))
  have k1 := (h 1 (by omega)).trans (hg 1 (by omega))
  have k2 := (h 2 (by omega)).trans (hg 2 (by omega))
  have k3 := (h 3 (by omega)).trans (hg 3 (by omega))
  exact numI_nat _ hl f A.length (by simpa [num4] using k0) (by simpa [num4] using k1) (by simpa [num4] using k2) (by simpa [num4] using k3)
/-- Three boxes, the last cut short: the walk stops at the third with 'short'. -/
theorem short_three {A B C : List Int} {na nb nc : ByteArray} {da db dc : List Int} (hA : A = boxP na da) (hB : B = boxP nb db) (hC : C = boxP nc dc) (h4 : na.size = 4 ∧ nb.size = 4 ∧ nc.size = 4) (hs : A.length + B.length + C.length < 100000000) (n : Nat) (h1 : A.length + B.length < n) (h2 : n < A.length + B.length + C.length) {f : Nat → Int} (hf : ∀ i, i < n → f i = (A ++ B ++ C).getD i 0) (k : Nat) (hw : Walked f 0 n k) (hg : ¬ goOn f n (pos f 0 k)) : codeAt f n (pos f 0 k) = 4 := by
  have la : 8 ≤ A.length := by rw [hA, boxP_length]; omega
  have lb : 8 ≤ B.length := by rw [hB, boxP_length]; omega
  have lc : 8 ≤ C.length := by rw [hC, boxP_length]; omega
  have e0 : numI f 0 = (A.length : Int) := by
    have := numI_box (L := A ++ B ++ C) (A := []) (C := B ++ C) (nm := na) (d := da) (f := f) (by rw [hA]; simp) (by rw [← hA]; omega) (fun j hj => hf _ (by simp; omega))
    rw [← hA] at this
    exact this
  have e1 : numI f A.length = (B.length : Int) := by
    have := numI_box (L := A ++ B ++ C) (A := A) (C := C) (nm := nb) (d := db) (f := f) (by rw [hB]; simp) (by rw [← hB]; omega) (fun j hj => hf _ (by omega))
    rw [← hB] at this
    exact this
  have e2 : A.length + B.length + 8 ≤ n → numI f (A.length + B.length) = (C.length : Int) := by
    intro hn
    have := numI_box (L := A ++ B ++ C) (A := A ++ B) (C := []) (nm := nc) (d := dc) (f := f) (by rw [hC]; simp) (by rw [← hC]; omega) (fun j hj => hf _ (by simp; omega))
    rw [← hC, List.length_append] at this
    exact this
  have p1 : pos f 0 1 = A.length := by simp only [pos]; rw [e0]; omega
  have p2 : pos f 0 2 = A.length + B.length := by
    show pos f 0 1 + (numI f (pos f 0 1)).toNat = _
    rw [p1, e1]; omega
  have g0 : goOn f n (pos f 0 0) := ⟨by simp only [pos]; omega, by simp only [pos]; rw [e0]; omega, by simp only [pos]; rw [e0]; omega⟩
  have g1 : goOn f n (pos f 0 1) := by rw [p1]; exact ⟨by omega, by rw [e1]; omega, by rw [e1]; omega⟩
  have ng : ¬ goOn f n (pos f 0 2) := by
    rw [p2]
    rintro ⟨a, b, c⟩
    rw [e2 a] at c
    omega
  have w2 : Walked f 0 n 2 := by
    intro j hj
    rcases (show j = 0 ∨ j = 1 by omega) with rfl | rfl
    · exact g0
    · exact g1
  obtain rfl := hw.unique w2 hg ng
  rw [p2]
  unfold codeAt
  rw [if_neg (by omega)]
  split
  · rfl
  · rw [e2 (by omega), if_neg (by omega)]
end Go.Proofs.Ytkhjkemllgjfmaa
