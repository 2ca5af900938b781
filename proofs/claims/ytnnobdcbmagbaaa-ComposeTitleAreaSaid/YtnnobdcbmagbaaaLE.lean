/- Aid for the laws that hold the program against the reference: both answer the same frame and error. -/
import Derived.Test.YtnnobdcbmagbaaaRN
import Derived.Test.YtnnobdcbmagbaaaPB
import Derived.Test.YtnnobdcbmagbaaaU
import Derived.Deep.Cut
import Derived.Deep.Light
namespace Go.Proofs.Ytnnobdcbmagbaaa
open Go.RowKit
set_option linter.unusedVariables false

theorem RI.below {w w' : World} {v : Value} (h : RI w v) (hb : Below w.heap.size w w') : RI w' v := by
  obtain ⟨ao, n, c, rfl, h1, h2, hx⟩ := h
  refine ⟨ao, n, c, rfl, h1, h2, fun i hi => ?_⟩
  obtain ⟨b, o, x, e, hc⟩ := hx i hi
  exact ⟨b, o, x, e, (hb.cell (p := ⟨b, o + i, none⟩) (block_lt_of_cell hc)).trans hc⟩

/-- Block b holds two cells. -/
structure T2 (w : World) (b : Nat) (c0 c1 : Value) : Prop where
  k0 : w.cell? ⟨b, 0, none⟩ = some c0
  k1 : w.cell? ⟨b, 1, none⟩ = some c1
theorem T2.lt {w : World} {b : Nat} {c0 c1 : Value} (h : T2 w b c0 c1) : b < w.heap.size := block_lt_of_cell h.k0
theorem T2.below {w w' : World} {b : Nat} {c0 c1 : Value} (h : T2 w b c0 c1) (hb : Below w.heap.size w w') : T2 w' b c0 c1 := ⟨(hb.cell h.lt).trans h.k0, (hb.cell h.lt).trans h.k1⟩
theorem T2.of_alloc (w : World) (b : Nat) (c0 c1 : Value) (t : TypeId) (h : b = w.heap.size) : T2 (w.alloc (.cells #[c0, c1] t)) b c0 c1 := by
  subst h; exact ⟨by simp [go_sem], by simp [go_sem]⟩

def mixR (F G : Fr) (num den : Int) : Fr := if pairOk F G && okShare num den then mixFr num den F G else Fr.zero
def mixE (F G : Fr) (num den : Int) : Int := if pairOk F G && okShare num den then 0 else 1

theorem mix_any (v u : Value) (F G : Fr) (num den : Int) (w : World) (hv : FA w v F) (hu : FA w u G) :
    Calls Try.prog 22 #[v, u, .int .i64 num, .int .i64 den] w fun e w' => ∃ r, e = .returned (.tuple #[r, .int .i64 (mixE F G num den)]) ∧ FA w' r (mixR F G num den) ∧ Below w.heap.size w w' := by
  cases h : pairOk F G && okShare num den
  · refine (mix_no v u F G num den w hv hu h).mono ?_
    rintro e w' ⟨rfl, hb⟩
    exact ⟨zeroV, by simp [mixE, h], by simp only [mixR, h]; exact FA.zero _, hb⟩
  · have h' := h
    simp only [Bool.and_eq_true] at h'
    refine (mix_yes v u F G num den w hv hu h'.1 h'.2).mono ?_
    rintro e w' ⟨r, rfl, hf, hb⟩
    exact ⟨r, by simp [mixE, h], by simp only [mixR, h]; exact hf, hb⟩

theorem rmix_any (v u : Value) (F G : Fr) (num den : Int) (w : World) (hv : FA w v F) (hu : FA w u G) :
    Calls Try.prog 23 #[v, u, .int .i64 num, .int .i64 den] w fun e w' => ∃ r, e = .returned (.tuple #[r, .int .i64 (mixE F G num den)]) ∧ FA w' r (mixR F G num den) ∧ Below w.heap.size w w' := by
  cases h : pairOk F G && okShare num den
  · refine (rmix_no v u F G num den w hv hu h).mono ?_
    rintro e w' ⟨rfl, hb⟩
    exact ⟨zeroV, by simp [mixE, h], by simp only [mixR, h]; exact FA.zero _, hb⟩
  · have h' := h
    simp only [Bool.and_eq_true] at h'
    refine (rmix_yes v u F G num den w hv hu h'.1 h'.2).mono ?_
    rintro e w' ⟨r, rfl, hf, hb⟩
    exact ⟨r, by simp [mixE, h], by simp only [mixR, h]; exact hf, hb⟩

end Go.Proofs.Ytnnobdcbmagbaaa
