/- Texts of this claim joined: W. -/
import Derived.Test.YtnnobdcbmagbaaaEv03
set_option linter.unusedVariables false
set_option linter.unusedSimpArgs false

/- The contracts of compose.Glyph at the other letters. -/
namespace Go.Proofs.Ytnnobdcbmagbaaa
open Go.RowKit

set_option maxRecDepth 100000 in
set_option maxHeartbeats 4000000 in
theorem glyph_mid (c : Int) (w : World) (h0 : 0 ≤ c) (h1 : c < 256) (h2 : 97 ≤ c) (h3 : c ≤ 122) : Calls Try.prog 28 #[.int .u8 c] w fun e w' => e = .returned (glyphV c) ∧ Below w.heap.size w w' := by
  have hd : upper c = c - 32 := by unfold upper; rw [if_pos (by omega)]
  go_enter Try.func28, Try.ntmps28
  go_wp2_with fail
  (go_loopw [3] (fun i wr => ∃ k : Nat, k ≤ 43 ∧ i = .int .i64 ((6 * k : Nat) : Int) ∧ (∀ j, j < k → fl (6 * j) ≠ upper c) ∧ Below (w.heap.size + 1) (w.alloc (.cells #[.int .i64 0, .int .i64 0, .int .i64 0, .int .i64 0, .int .i64 0] 49)) wr) (fun i _ => 43 - (intOf i).toNat / 6))
  case atStart => exact ⟨0, by omega, rfl, fun j hj => by omega, Below.refl _ _⟩
  case round =>
    obtain ⟨k, hk, rfl, ho, hb⟩ := hrel
    by_cases hlt : k < 43
    · have hx0 := fun w => font_index (6 * (k : Int)) (6 * k) w (by simp) (by omega)
      have hx1 := fun w => font_index (6 * (k : Int) + 1) (6 * k + 1) w (by simp) (by omega)
      have hx2 := fun w => font_index (6 * (k : Int) + 1 + 1) (6 * k + 1 + 1) w (by simp) (by omega)
      have hx3 := fun w => font_index (6 * (k : Int) + 1 + 2) (6 * k + 1 + 2) w (by simp) (by omega)
      have hx4 := fun w => font_index (6 * (k : Int) + 1 + 3) (6 * k + 1 + 3) w (by simp) (by omega)
      have hx5 := fun w => font_index (6 * (k : Int) + 1 + 4) (6 * k + 1 + 4) w (by simp) (by omega)
      have hlt' : 6 * (k : Int) + 6 ≤ 258 := by omega
      have hc : ∀ j, wr.cell? ⟨w.heap.size, j, none⟩ = (#[Value.int .i64 0, .int .i64 0, .int .i64 0, .int .i64 0, .int .i64 0] : Array Value)[j]? := fun j => (hb.cell (by simp)).trans (by simp [go_sem])
      have k0 := hc 0
      have k1 := hc 1
      have k2 := hc 2
      have k3 := hc 3
      have k4 := hc 4
      simp at k0 k1 k2 k3 k4
      have z : ∀ o, wr.frozen? ⟨w.heap.size, o, none⟩ = false := fun o => (hb.frozen (by simp)).trans (by simp [go_sem])
      have W1 : Below w.heap.size w wr := Below.trans (by go_grown) (hb.mono (by omega))
      have nb := hb.size
      simp at nb
      have nb1 : w.heap.size < wr.heap.size := by omega
      have nb2 : ¬ wr.heap.size = w.heap.size := by omega
      clear hc
      by_cases he : fl (6 * k) = c - 32
      · have g1 := fl_bd (6 * k + 1) (by omega)
        have g2 := fl_bd (6 * k + 1 + 1) (by omega)
        have g3 := fl_bd (6 * k + 1 + 2) (by omega)
        have g4 := fl_bd (6 * k + 1 + 3) (by omega)
        have g5 := fl_bd (6 * k + 1 + 4) (by omega)
        replace g1 : 48 ≤ fl (6 * k + 1) ∧ fl (6 * k + 1) ≤ 55 := by omega
        replace g2 : 48 ≤ fl (6 * k + 1 + 1) ∧ fl (6 * k + 1 + 1) ≤ 55 := by omega
        replace g3 : 48 ≤ fl (6 * k + 1 + 2) ∧ fl (6 * k + 1 + 2) ≤ 55 := by omega
        replace g4 : 48 ≤ fl (6 * k + 1 + 3) ∧ fl (6 * k + 1 + 3) ≤ 55 := by omega
        replace g5 : 48 ≤ fl (6 * k + 1 + 4) ∧ fl (6 * k + 1 + 4) ≤ 55 := by omega
        clear hb
        go_wp2_with fail
        refine wp_loop_rounds 6 ?_
        iterate 6
          rw [rounds_succ]
          go_wp2_with fail
        refine bodyPost_ret (v := rowsAt k) (by simp [results, Try.results28, go_sem, k0, k1, k2, k3, k4, rowsAt, rowAt, nb1]) rfl ?_
        exact ⟨by rw [glyphV_at c k (by omega) ho (by rw [hd]; exact he)], by go_grown⟩
      · have HB := Lib.hid hb
        clear hb
        go_wp2_with fail
        go_roundw
        case rel => exact ⟨k + 1, by omega, by go_num, fun j hj => by by_cases hjk : j = k; (subst hjk; rw [hd]; exact he); exact ho j (by omega), HB.out⟩
        case measure => simp [intOf]; omega
    · obtain rfl : k = 43 := by omega
      have hc : ∀ j, wr.cell? ⟨w.heap.size, j, none⟩ = (#[Value.int .i64 0, .int .i64 0, .int .i64 0, .int .i64 0, .int .i64 0] : Array Value)[j]? := fun j => (hb.cell (by simp)).trans (by simp [go_sem])
      have k0 := hc 0
      have k1 := hc 1
      have k2 := hc 2
      have k3 := hc 3
      have k4 := hc 4
      simp at k0 k1 k2 k3 k4
      have z : ∀ o, wr.frozen? ⟨w.heap.size, o, none⟩ = false := fun o => (hb.frozen (by simp)).trans (by simp [go_sem])
      have W1 : Below w.heap.size w wr := Below.trans (by go_grown) (hb.mono (by omega))
      clear hc hb
      go_wp2_with fail
      refine bodyPost_ret (v := .agg #[.int .i64 7, .int .i64 7, .int .i64 7, .int .i64 7, .int .i64 7]) (by simp [results, Try.results28, go_sem, k0, k1, k2, k3, k4]) rfl ?_
      exact ⟨by rw [glyphV_no c ho], by go_grown⟩

set_option maxRecDepth 100000 in
set_option maxHeartbeats 4000000 in
theorem glyph_high (c : Int) (w : World) (h0 : 0 ≤ c) (h1 : c < 256) (h2 : 97 ≤ c) (h3 : 122 < c) : Calls Try.prog 28 #[.int .u8 c] w fun e w' => e = .returned (glyphV c) ∧ Below w.heap.size w w' := by
  have hd : upper c = c := by unfold upper; rw [if_neg (by omega)]
  go_enter Try.func28, Try.ntmps28
  go_wp2_with fail
  (go_loopw [3] (fun i wr => ∃ k : Nat, k ≤ 43 ∧ i = .int .i64 ((6 * k : Nat) : Int) ∧ (∀ j, j < k → fl (6 * j) ≠ upper c) ∧ Below (w.heap.size + 1) (w.alloc (.cells #[.int .i64 0, .int .i64 0, .int .i64 0, .int .i64 0, .int .i64 0] 49)) wr) (fun i _ => 43 - (intOf i).toNat / 6))
  case atStart => exact ⟨0, by omega, rfl, fun j hj => by omega, Below.refl _ _⟩
  case round =>
    obtain ⟨k, hk, rfl, ho, hb⟩ := hrel
    by_cases hlt : k < 43
    · have hx0 := fun w => font_index (6 * (k : Int)) (6 * k) w (by simp) (by omega)
      have hx1 := fun w => font_index (6 * (k : Int) + 1) (6 * k + 1) w (by simp) (by omega)
      have hx2 := fun w => font_index (6 * (k : Int) + 1 + 1) (6 * k + 1 + 1) w (by simp) (by omega)
      have hx3 := fun w => font_index (6 * (k : Int) + 1 + 2) (6 * k + 1 + 2) w (by simp) (by omega)
      have hx4 := fun w => font_index (6 * (k : Int) + 1 + 3) (6 * k + 1 + 3) w (by simp) (by omega)
      have hx5 := fun w => font_index (6 * (k : Int) + 1 + 4) (6 * k + 1 + 4) w (by simp) (by omega)
      have hlt' : 6 * (k : Int) + 6 ≤ 258 := by omega
      have hc : ∀ j, wr.cell? ⟨w.heap.size, j, none⟩ = (#[Value.int .i64 0, .int .i64 0, .int .i64 0, .int .i64 0, .int .i64 0] : Array Value)[j]? := fun j => (hb.cell (by simp)).trans (by simp [go_sem])
      have k0 := hc 0
      have k1 := hc 1
      have k2 := hc 2
      have k3 := hc 3
      have k4 := hc 4
      simp at k0 k1 k2 k3 k4
      have z : ∀ o, wr.frozen? ⟨w.heap.size, o, none⟩ = false := fun o => (hb.frozen (by simp)).trans (by simp [go_sem])
      have W1 : Below w.heap.size w wr := Below.trans (by go_grown) (hb.mono (by omega))
      have nb := hb.size
      simp at nb
      have nb1 : w.heap.size < wr.heap.size := by omega
      have nb2 : ¬ wr.heap.size = w.heap.size := by omega
      clear hc
      by_cases he : fl (6 * k) = c
      · have g1 := fl_bd (6 * k + 1) (by omega)
        have g2 := fl_bd (6 * k + 1 + 1) (by omega)
        have g3 := fl_bd (6 * k + 1 + 2) (by omega)
        have g4 := fl_bd (6 * k + 1 + 3) (by omega)
        have g5 := fl_bd (6 * k + 1 + 4) (by omega)
        replace g1 : 48 ≤ fl (6 * k + 1) ∧ fl (6 * k + 1) ≤ 55 := by omega
        replace g2 : 48 ≤ fl (6 * k + 1 + 1) ∧ fl (6 * k + 1 + 1) ≤ 55 := by omega
        replace g3 : 48 ≤ fl (6 * k + 1 + 2) ∧ fl (6 * k + 1 + 2) ≤ 55 := by omega
        replace g4 : 48 ≤ fl (6 * k + 1 + 3) ∧ fl (6 * k + 1 + 3) ≤ 55 := by omega
        replace g5 : 48 ≤ fl (6 * k + 1 + 4) ∧ fl (6 * k + 1 + 4) ≤ 55 := by omega
        clear hb
        go_wp2_with fail
        refine wp_loop_rounds 6 ?_
        iterate 6
          rw [rounds_succ]
          go_wp2_with fail
        refine bodyPost_ret (v := rowsAt k) (by simp [results, Try.results28, go_sem, k0, k1, k2, k3, k4, rowsAt, rowAt, nb1]) rfl ?_
        exact ⟨by rw [glyphV_at c k (by omega) ho (by rw [hd]; exact he)], by go_grown⟩
      · have HB := Lib.hid hb
        clear hb
        go_wp2_with fail
        go_roundw
        case rel => exact ⟨k + 1, by omega, by go_num, fun j hj => by by_cases hjk : j = k; (subst hjk; rw [hd]; exact he); exact ho j (by omega), HB.out⟩
        case measure => simp [intOf]; omega
    · obtain rfl : k = 43 := by omega
      have hc : ∀ j, wr.cell? ⟨w.heap.size, j, none⟩ = (#[Value.int .i64 0, .int .i64 0, .int .i64 0, .int .i64 0, .int .i64 0] : Array Value)[j]? := fun j => (hb.cell (by simp)).trans (by simp [go_sem])
      have k0 := hc 0
      have k1 := hc 1
      have k2 := hc 2
      have k3 := hc 3
      have k4 := hc 4
      simp at k0 k1 k2 k3 k4
      have z : ∀ o, wr.frozen? ⟨w.heap.size, o, none⟩ = false := fun o => (hb.frozen (by simp)).trans (by simp [go_sem])
      have W1 : Below w.heap.size w wr := Below.trans (by go_grown) (hb.mono (by omega))
      clear hc hb
      go_wp2_with fail
      refine bodyPost_ret (v := .agg #[.int .i64 7, .int .i64 7, .int .i64 7, .int .i64 7, .int .i64 7]) (by simp [results, Try.results28, go_sem, k0, k1, k2, k3, k4]) rfl ?_
      exact ⟨by rw [glyphV_no c ho], by go_grown⟩

end Go.Proofs.Ytnnobdcbmagbaaa
