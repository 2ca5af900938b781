/- The contracts of compose.Glyph and of the reference's Glyph: the rows of the font at the letter. -/
import Derived.Test.YtnnobdcbmagbaaaL
namespace Go.Proofs.Ytnnobdcbmagbaaa
open Go.RowKit

def fontL : List Int := [65, 50, 53, 55, 53, 53, 66, 54, 53, 54, 53, 54, 67, 51, 52, 52, 52, 51, 68, 54, 53, 53, 53, 54, 69, 55, 52, 54, 52, 55, 70, 55, 52, 54, 52, 52, 71, 51, 52, 53, 53, 51, 72, 53, 53, 55, 53, 53, 73, 55, 50, 50, 50, 55, 74, 49, 49, 49, 53, 50, 75, 53, 53, 54, 53, 53, 76, 52, 52, 52, 52, 55, 77, 53, 55, 55, 53, 53, 78, 54, 53, 53, 53, 53, 79, 50, 53, 53, 53, 50, 80, 54, 53, 54, 52, 52, 81, 50, 53, 53, 54, 51, 82, 54, 53, 54, 53, 53, 83, 51, 52, 50, 49, 54, 84, 55, 50, 50, 50, 50, 85, 53, 53, 53, 53, 55, 86, 53, 53, 53, 53, 50, 87, 53, 53, 55, 55, 53, 88, 53, 53, 50, 53, 53, 89, 53, 53, 50, 50, 50, 90, 55, 49, 50, 52, 55, 48, 55, 53, 53, 53, 55, 49, 50, 54, 50, 50, 55, 50, 54, 49, 50, 52, 55, 51, 54, 49, 50, 49, 54, 52, 53, 53, 55, 49, 49, 53, 55, 52, 54, 49, 54, 54, 51, 52, 55, 53, 55, 55, 55, 49, 50, 50, 50, 56, 55, 53, 55, 53, 55, 57, 55, 53, 55, 49, 54, 32, 48, 48, 48, 48, 48, 46, 48, 48, 48, 48, 50, 44, 48, 48, 48, 50, 52, 58, 48, 50, 48, 50, 48, 45, 48, 48, 55, 48, 48, 33, 50, 50, 50, 48, 50, 63, 54, 49, 50, 48, 50]
def fl (i : Nat) : Int := fontL.getD i 0

theorem font_at : ((List.range 258).all fun i => decide ((({ data := #[65, 50, 53, 55, 53, 53, 66, 54, 53, 54, 53, 54, 67, 51, 52, 52, 52, 51, 68, 54, 53, 53, 53, 54, 69, 55, 52, 54, 52, 55, 70, 55, 52, 54, 52, 52, 71, 51, 52, 53, 53, 51, 72, 53, 53, 55, 53, 53, 73, 55, 50, 50, 50, 55, 74, 49, 49, 49, 53, 50, 75, 53, 53, 54, 53, 53, 76, 52, 52, 52, 52, 55, 77, 53, 55, 55, 53, 53, 78, 54, 53, 53, 53, 53, 79, 50, 53, 53, 53, 50, 80, 54, 53, 54, 52, 52, 81, 50, 53, 53, 54, 51, 82, 54, 53, 54, 53, 53, 83, 51, 52, 50, 49, 54, 84, 55, 50, 50, 50, 50, 85, 53, 53, 53, 53, 55, 86, 53, 53, 53, 53, 50, 87, 53, 53, 55, 55, 53, 88, 53, 53, 50, 53, 53, 89, 53, 53, 50, 50, 50, 90, 55, 49, 50, 52, 55, 48, 55, 53, 53, 53, 55, 49, 50, 54, 50, 50, 55, 50, 54, 49, 50, 52, 55, 51, 54, 49, 50, 49, 54, 52, 53, 53, 55, 49, 49, 53, 55, 52, 54, 49, 54, 54, 51, 52, 55, 53, 55, 55, 55, 49, 50, 50, 50, 56, 55, 53, 55, 53, 55, 57, 55, 53, 55, 49, 54, 32, 48, 48, 48, 48, 48, 46, 48, 48, 48, 48, 50, 44, 48, 48, 48, 50, 52, 58, 48, 50, 48, 50, 48, 45, 48, 48, 55, 48, 48, 33, 50, 50, 50, 48, 50, 63, 54, 49, 50, 48, 50] } : ByteArray)[i]?).map (fun b => (b.toNat : Int)) = some (fl i))) = true := by kernel_rfl

set_option maxRecDepth 100000 in
theorem font_index (k : Int) (n : Nat) (w : World) (hk : k = (n : Int)) (hn : n < 258) : (Instr.index 9 (.string { data := #[65, 50, 53, 55, 53, 53, 66, 54, 53, 54, 53, 54, 67, 51, 52, 52, 52, 51, 68, 54, 53, 53, 53, 54, 69, 55, 52, 54, 52, 55, 70, 55, 52, 54, 52, 52, 71, 51, 52, 53, 53, 51, 72, 53, 53, 55, 53, 53, 73, 55, 50, 50, 50, 55, 74, 49, 49, 49, 53, 50, 75, 53, 53, 54, 53, 53, 76, 52, 52, 52, 52, 55, 77, 53, 55, 55, 53, 53, 78, 54, 53, 53, 53, 53, 79, 50, 53, 53, 53, 50, 80, 54, 53, 54, 52, 52, 81, 50, 53, 53, 54, 51, 82, 54, 53, 54, 53, 53, 83, 51, 52, 50, 49, 54, 84, 55, 50, 50, 50, 50, 85, 53, 53, 53, 53, 55, 86, 53, 53, 53, 53, 50, 87, 53, 53, 55, 55, 53, 88, 53, 53, 50, 53, 53, 89, 53, 53, 50, 50, 50, 90, 55, 49, 50, 52, 55, 48, 55, 53, 53, 53, 55, 49, 50, 54, 50, 50, 55, 50, 54, 49, 50, 52, 55, 51, 54, 49, 50, 49, 54, 52, 53, 53, 55, 49, 49, 53, 55, 52, 54, 49, 54, 54, 51, 52, 55, 53, 55, 55, 55, 49, 50, 50, 50, 56, 55, 53, 55, 53, 55, 57, 55, 53, 55, 49, 54, 32, 48, 48, 48, 48, 48, 46, 48, 48, 48, 48, 50, 44, 48, 48, 48, 50, 52, 58, 48, 50, 48, 50, 48, 45, 48, 48, 55, 48, 48, 33, 50, 50, 50, 48, 50, 63, 54, 49, 50, 48, 50] }) (.int .i64 k)).run Try.prog w = .ok (.int .u8 (fl n)) w := by
  subst hk
  have h := List.all_eq_true.mp font_at n (by simpa using hn)
  simp only [decide_eq_true_eq] at h
  have hs : ({ data := #[65, 50, 53, 55, 53, 53, 66, 54, 53, 54, 53, 54, 67, 51, 52, 52, 52, 51, 68, 54, 53, 53, 53, 54, 69, 55, 52, 54, 52, 55, 70, 55, 52, 54, 52, 52, 71, 51, 52, 53, 53, 51, 72, 53, 53, 55, 53, 53, 73, 55, 50, 50, 50, 55, 74, 49, 49, 49, 53, 50, 75, 53, 53, 54, 53, 53, 76, 52, 52, 52, 52, 55, 77, 53, 55, 55, 53, 53, 78, 54, 53, 53, 53, 53, 79, 50, 53, 53, 53, 50, 80, 54, 53, 54, 52, 52, 81, 50, 53, 53, 54, 51, 82, 54, 53, 54, 53, 53, 83, 51, 52, 50, 49, 54, 84, 55, 50, 50, 50, 50, 85, 53, 53, 53, 53, 55, 86, 53, 53, 53, 53, 50, 87, 53, 53, 55, 55, 53, 88, 53, 53, 50, 53, 53, 89, 53, 53, 50, 50, 50, 90, 55, 49, 50, 52, 55, 48, 55, 53, 53, 53, 55, 49, 50, 54, 50, 50, 55, 50, 54, 49, 50, 52, 55, 51, 54, 49, 50, 49, 54, 52, 53, 53, 55, 49, 49, 53, 55, 52, 54, 49, 54, 54, 51, 52, 55, 53, 55, 55, 55, 49, 50, 50, 50, 56, 55, 53, 55, 53, 55, 57, 55, 53, 55, 49, 54, 32, 48, 48, 48, 48, 48, 46, 48, 48, 48, 48, 50, 44, 48, 48, 48, 50, 52, 58, 48, 50, 48, 50, 48, 45, 48, 48, 55, 48, 48, 33, 50, 50, 50, 48, 50, 63, 54, 49, 50, 48, 50] } : ByteArray).size = 258 := by kernel_rfl
  rw [run_index_string _ _ _ _ _ Try.underlying9]
  have hc : 0 ≤ (n : Int) ∧ (n : Int) < (({ data := #[65, 50, 53, 55, 53, 53, 66, 54, 53, 54, 53, 54, 67, 51, 52, 52, 52, 51, 68, 54, 53, 53, 53, 54, 69, 55, 52, 54, 52, 55, 70, 55, 52, 54, 52, 52, 71, 51, 52, 53, 53, 51, 72, 53, 53, 55, 53, 53, 73, 55, 50, 50, 50, 55, 74, 49, 49, 49, 53, 50, 75, 53, 53, 54, 53, 53, 76, 52, 52, 52, 52, 55, 77, 53, 55, 55, 53, 53, 78, 54, 53, 53, 53, 53, 79, 50, 53, 53, 53, 50, 80, 54, 53, 54, 52, 52, 81, 50, 53, 53, 54, 51, 82, 54, 53, 54, 53, 53, 83, 51, 52, 50, 49, 54, 84, 55, 50, 50, 50, 50, 85, 53, 53, 53, 53, 55, 86, 53, 53, 53, 53, 50, 87, 53, 53, 55, 55, 53, 88, 53, 53, 50, 53, 53, 89, 53, 53, 50, 50, 50, 90, 55, 49, 50, 52, 55, 48, 55, 53, 53, 53, 55, 49, 50, 54, 50, 50, 55, 50, 54, 49, 50, 52, 55, 51, 54, 49, 50, 49, 54, 52, 53, 53, 55, 49, 49, 53, 55, 52, 54, 49, 54, 54, 51, 52, 55, 53, 55, 55, 55, 49, 50, 50, 50, 56, 55, 53, 55, 53, 55, 57, 55, 53, 55, 49, 54, 32, 48, 48, 48, 48, 48, 46, 48, 48, 48, 48, 50, 44, 48, 48, 48, 50, 52, 58, 48, 50, 48, 50, 48, 45, 48, 48, 55, 48, 48, 33, 50, 50, 50, 48, 50, 63, 54, 49, 50, 48, 50] } : ByteArray).size : Int) := by rw [hs]; omega
  rw [dif_pos hc]
  simp only [Int.toNat_natCast]
  rw [getElem?_pos _ n (by rw [hs]; exact hn)] at h
  simp only [Option.map_some, Option.some.injEq] at h
  rw [← h]

theorem font_small : ((List.range 258).all fun i => decide (32 ≤ fl i ∧ fl i < 128 ∧ (i % 6 = 0 ∨ 48 ≤ fl i ∧ fl i ≤ 55))) = true := by kernel_rfl

theorem fl_bd (n : Nat) (hn : n < 258) : 32 ≤ fl n ∧ fl n < 128 ∧ (n % 6 = 0 ∨ 48 ≤ fl n ∧ fl n ≤ 55) := by
  have h := List.all_eq_true.mp font_small n (by simpa using hn)
  simpa using h

def rowAt (k j : Nat) : Int := fl (6 * k + 1 + j) - 48
def rowsAt (k : Nat) : Value := .agg #[.int .i64 (rowAt k 0), .int .i64 (rowAt k 1), .int .i64 (rowAt k 2), .int .i64 (rowAt k 3), .int .i64 (rowAt k 4)]
def upper (c : Int) : Int := if 97 ≤ c ∧ c ≤ 122 then c - 32 else c
/-- The glyph's number in the font, if it is there. -/
def glyphK (c : Int) : Option Nat := (List.range 43).find? fun k => fl (6 * k) == upper c
def glyphV (c : Int) : Value := match glyphK c with
  | some k => rowsAt k
  | none => .agg #[.int .i64 7, .int .i64 7, .int .i64 7, .int .i64 7, .int .i64 7]

theorem glyphV_at (c : Int) (k : Nat) (hk : k < 43) (ho : ∀ j, j < k → fl (6 * j) ≠ upper c) (h : fl (6 * k) = upper c) : glyphV c = rowsAt k := by
  have : glyphK c = some k := by
    unfold glyphK
    rw [List.find?_range_eq_some]
    refine ⟨by simpa using h, by simpa using hk, fun j hj => by simpa using ho j hj⟩
  unfold glyphV
  rw [this]

theorem glyphV_no (c : Int) (ho : ∀ j, j < 43 → fl (6 * j) ≠ upper c) : glyphV c = .agg #[.int .i64 7, .int .i64 7, .int .i64 7, .int .i64 7, .int .i64 7] := by
  have : glyphK c = none := by
    unfold glyphK
    rw [List.find?_eq_none]
    intro j hj
    simpa using ho j (by simpa using hj)
  unfold glyphV
  rw [this]

set_option maxRecDepth 100000 in
set_option maxHeartbeats 4000000 in
theorem glyph_low (c : Int) (w : World) (h0 : 0 ≤ c) (h1 : c < 256) (h2 : c < 97) : Calls Try.prog 28 #[.int .u8 c] w fun e w' => e = .returned (glyphV c) ∧ Below w.heap.size w w' := by
  have hd : upper c = c := by unfold upper; rw [if_neg (by omega)]
  go_enter Try.func28, Try.ntmps28
  go_wp2_with fail
  (go_loopw [3] (fun i wr => ∃ k : Nat, k ≤ 43 ∧ i = .int .i64 ((6 * k : Nat) : Int) ∧ (∀ j, j < k → fl (6 * j) ≠ upper c) ∧ Below (w.heap.size + 1) (w.alloc (.cells #[.int .i64 0, .int .i64 0, .int .i64 0, .int .i64 0, .int .i64 0] 49)) wr) (fun i _ => 43 - (intOf i).toNat / 6))
  case atStart => exact ⟨0, by omega, rfl, fun j hj => by omega, Below.refl _ _⟩
  case round =>
    obtain ⟨k, hk, rfl, ho, hb⟩ := hrel
    by_cases hlt : k < 43
    · have hx0 := fun w => font_index (6 * (k : Int)) (6 * k) w (by simp) (by omega)
      have hx1 := fun w => font_index (6 * (k : Int) + 1) (6 * k + 1) w (by simp) (by omega)
      have hx2 := fun w => font_index (6 * (k : Int) + 1 + 1) (6 * k + 1 + 1) w (by simp) (by omega)
      have hx3 := fun w => font_index (6 * (k : Int) + 1 + 2) (6 * k + 1 + 2) w (by simp) (by omega)
      have hx4 := fun w => font_index (6 * (k : Int) + 1 + 3) (6 * k + 1 + 3) w (by simp) (by omega)
      have hx5 := fun w => font_index (6 * (k : Int) + 1 + 4) (6 * k + 1 + 4) w (by simp) (by omega)
      have hlt' : 6 * (k : Int) + 6 ≤ 258 := by omega
      have hc : ∀ j, wr.cell? ⟨w.heap.size, j, none⟩ = (#[Value.int .i64 0, .int .i64 0, .int .i64 0, .int .i64 0, .int .i64 0] : Array Value)[j]? := fun j => (hb.cell (by simp)).trans (by simp [go_sem])
      have k0 := hc 0
      have k1 := hc 1
      have k2 := hc 2
      have k3 := hc 3
      have k4 := hc 4
      simp at k0 k1 k2 k3 k4
      have z : ∀ o, wr.frozen? ⟨w.heap.size, o, none⟩ = false := fun o => (hb.frozen (by simp)).trans (by simp [go_sem])
      have W1 : Below w.heap.size w wr := Below.trans (by go_grown) (hb.mono (by omega))
      have nb := hb.size
      simp at nb
      have nb1 : w.heap.size < wr.heap.size := by omega
      have nb2 : ¬ wr.heap.size = w.heap.size := by omega
      clear hc
      by_cases he : fl (6 * k) = c
      · have g1 := fl_bd (6 * k + 1) (by omega)
        have g2 := fl_bd (6 * k + 1 + 1) (by omega)
        have g3 := fl_bd (6 * k + 1 + 2) (by omega)
        have g4 := fl_bd (6 * k + 1 + 3) (by omega)
        have g5 := fl_bd (6 * k + 1 + 4) (by omega)
        replace g1 : 48 ≤ fl (6 * k + 1) ∧ fl (6 * k + 1) ≤ 55 := by omega
        replace g2 : 48 ≤ fl (6 * k + 1 + 1) ∧ fl (6 * k + 1 + 1) ≤ 55 := by omega
        replace g3 : 48 ≤ fl (6 * k + 1 + 2) ∧ fl (6 * k + 1 + 2) ≤ 55 := by omega
        replace g4 : 48 ≤ fl (6 * k + 1 + 3) ∧ fl (6 * k + 1 + 3) ≤ 55 := by omega
        replace g5 : 48 ≤ fl (6 * k + 1 + 4) ∧ fl (6 * k + 1 + 4) ≤ 55 := by omega
        clear hb
        go_wp2_with fail
        refine wp_loop_rounds 6 ?_
        iterate 6
          rw [rounds_succ]
          go_wp2_with fail
        refine bodyPost_ret (v := rowsAt k) (by simp [results, Try.results28, go_sem, k0, k1, k2, k3, k4, rowsAt, rowAt, nb1]) rfl ?_
        exact ⟨by rw [glyphV_at c k (by omega) ho (by rw [hd]; exact he)], by go_grown⟩
      · have HB := Lib.hid hb
        clear hb
        go_wp2_with fail
        go_roundw
        case rel => exact ⟨k + 1, by omega, by go_num, fun j hj => by by_cases hjk : j = k; (subst hjk; rw [hd]; exact he); exact ho j (by omega), HB.out⟩
        case measure => simp [intOf]; omega
    · obtain rfl : k = 43 := by omega
      have hc : ∀ j, wr.cell? ⟨w.heap.size, j, none⟩ = (#[Value.int .i64 0, .int .i64 0, .int .i64 0, .int .i64 0, .int .i64 0] : Array Value)[j]? := fun j => (hb.cell (by simp)).trans (by simp [go_sem])
      have k0 := hc 0
      have k1 := hc 1
      have k2 := hc 2
      have k3 := hc 3
      have k4 := hc 4
      simp at k0 k1 k2 k3 k4
      have z : ∀ o, wr.frozen? ⟨w.heap.size, o, none⟩ = false := fun o => (hb.frozen (by simp)).trans (by simp [go_sem])
      have W1 : Below w.heap.size w wr := Below.trans (by go_grown) (hb.mono (by omega))
      clear hc hb
      go_wp2_with fail
      refine bodyPost_ret (v := .agg #[.int .i64 7, .int .i64 7, .int .i64 7, .int .i64 7, .int .i64 7]) (by simp [results, Try.results28, go_sem, k0, k1, k2, k3, k4]) rfl ?_
      exact ⟨by rw [glyphV_no c ho], by go_grown⟩

end Go.Proofs.Ytnnobdcbmagbaaa
