/- Both Keys answer the same frame and error. -/
import Derived.Test.YtnnobdcbmagbaaaKD
import Derived.Test.YtnnobdcbmagbaaaLE
namespace Go.Proofs.Ytnnobdcbmagbaaa
open Go.RowKit

def keyR (F G : Fr) (t : Int) : Fr := if pairOk F G && okThr t then keyFr t F G else Fr.zero
def keyE (F G : Fr) (t : Int) : Int := if pairOk F G && okThr t then 0 else 1

theorem key_any (v u : Value) (F G : Fr) (t : Int) (w : World) (hv : FA w v F) (hu : FA w u G) :
    Calls Try.prog 26 #[v, u, .int .i64 t] w fun e w' => ∃ r, e = .returned (.tuple #[r, .int .i64 (keyE F G t)]) ∧ FA w' r (keyR F G t) ∧ Below w.heap.size w w' := by
  cases h : pairOk F G && okThr t
  · refine (key_no v u F G t w hv hu h).mono ?_
    rintro e w' ⟨rfl, hb⟩
    exact ⟨zeroV, by simp [keyE, h], by simp only [keyR, h]; exact FA.zero _, hb⟩
  · have h' := h
    simp only [Bool.and_eq_true] at h'
    refine (key_yes v u F G t w hv hu h'.1 h'.2).mono ?_
    rintro e w' ⟨r, rfl, hf, hb⟩
    exact ⟨r, by simp [keyE, h], by simp only [keyR, h]; exact hf, hb⟩

theorem rkey_any (v u : Value) (F G : Fr) (t : Int) (w : World) (hv : FA w v F) (hu : FA w u G) :
    Calls Try.prog 27 #[v, u, .int .i64 t] w fun e w' => ∃ r, e = .returned (.tuple #[r, .int .i64 (keyE F G t)]) ∧ FA w' r (keyR F G t) ∧ Below w.heap.size w w' := by
  cases h : pairOk F G && okThr t
  · refine (rkey_no v u F G t w hv hu h).mono ?_
    rintro e w' ⟨rfl, hb⟩
    exact ⟨zeroV, by simp [keyE, h], by simp only [keyR, h]; exact FA.zero _, hb⟩
  · have h' := h
    simp only [Bool.and_eq_true] at h'
    refine (rkey_yes v u F G t w hv hu h'.1 h'.2).mono ?_
    rintro e w' ⟨r, rfl, hf, hb⟩
    exact ⟨r, by simp [keyE, h], by simp only [keyR, h]; exact hf, hb⟩

end Go.Proofs.Ytnnobdcbmagbaaa
