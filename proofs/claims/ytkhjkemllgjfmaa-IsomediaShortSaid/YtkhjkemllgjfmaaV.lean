/- An empty edit before all others delays what is displayed: the plain law. -/
import Derived.Test.YtkhjkemllgjfmaaO
namespace Go.Proofs.Ytkhjkemllgjfmaa
open Go.RowKit
set_option linter.unusedVariables false

/-- A track with one edit before all others. -/
def lateE (E : Nat → Ed) (b : Int) (i : Nat) : Ed := if i = 0 then ⟨b, -1⟩ else E (i - 1)
def lateT (T : Tr) (b : Int) : Tr := { T with nE := T.nE + 1, E := lateE T.E b }
theorem begE_late (E : Nat → Ed) (b : Int) (k : Nat) : begE (lateE E b) (k + 1) = b + begE E k := by
  induction k with
  | zero => simp [begE, lateE]
  | succ k ih =>
    rw [begE, ih, begE]
    simp only [lateE, Nat.add_eq_zero_iff, Nat.add_one_sub_one]
    simp
    omega
theorem hitE_late_zero (T : Tr) (b d sc : Int) : hitE (lateT T b) d sc 0 = false := by
  unfold hitE lateT lateE; simp
theorem hitE_late (T : Tr) (b d sc : Int) (i : Nat) : hitE (lateT T b) d sc (i + 1) = hitE T d sc i := by
  unfold hitE lateT lateE; simp
theorem show_late (T : Tr) (b d sc : Int) (hn : T.nE ≠ 0) (hok : okTr T = true) (hs : 0 ≤ sc) :
    (showF T d sc < 0 ∧ showF (lateT T b) d sc = -1) ∨ (0 ≤ showF T d sc ∧ showF T d sc ≤ 137438953472 ∧ showF (lateT T b) d sc = showF T d sc + b) := by
  have ho := okTr_yes hok
  cases hf : (List.range T.nE).find? (hitE T d sc) with
  | some k =>
    rw [List.find?_range_eq_some] at hf
    obtain ⟨hh, hk, hno⟩ := hf
    replace hk : k < T.nE := by simpa using hk
    replace hno : ∀ j, j < k → hitE T d sc j = false := fun j hj => by simpa using hno j hj
    have e1 := showF_hit hk hno hh
    have e2 := showF_hit (T := lateT T b) (d := d) (sc := sc) (k := k + 1) (by simp [lateT]; omega) (fun j hj => by
      cases j with
      | zero => exact hitE_late_zero T b d sc
      | succ j => rw [hitE_late]; exact hno j (by omega)) (by rw [hitE_late]; exact hh)
    have e3 : begE (lateT T b).E (k + 1) = b + begE T.E k := begE_late T.E b k
    have e4 : ((lateT T b).E (k + 1)).time = (T.E k).time := by simp [lateT, lateE]
    have e5 : (lateT T b).sc = T.sc := rfl
    rw [e3, e4, e5] at e2
    right
    have hb := (begE_bd ho.2.2 (show k ≤ T.nE by omega)).1
    unfold hitE at hh
    simp only [decide_eq_true_eq] at hh
    have hq : 0 ≤ (d - (T.E k).time) * sc / T.sc := Int.ediv_nonneg (Int.mul_nonneg (by omega) (by omega)) (by have := ho.1.2.1; omega)
    have hb2 := (begE_bd ho.2.2 (show k + 1 ≤ T.nE by omega)).2
    have hn64 := ho.1.2.2.2.2.2
    simp only [begE] at hb2
    refine ⟨?_, ?_, ?_⟩
    · rw [e1]; omega
    · rw [e1]; omega
    · rw [e2, e1]; omega
  | none =>
    rw [List.find?_eq_none] at hf
    have hno : ∀ j, j < T.nE → hitE T d sc j = false := fun j hj => by simpa using hf j (by simpa using hj)
    left
    refine ⟨by rw [showF_none hn hno]; decide, ?_⟩
    refine showF_none (by simp [lateT]) (fun j hj => ?_)
    cases j with
    | zero => exact hitE_late_zero T b d sc
    | succ j => rw [hitE_late]; exact hno j (by simp [lateT] at hj; omega)
theorem ok_late (T : Tr) (b : Int) (hok : okTr T = true) (hn : T.nE ≤ 60) (h0 : 0 ≤ b) (h1 : b ≤ 1048576) : okTr (lateT T b) = true := by
  have ho := okTr_yes hok
  unfold okTr
  simp only [Bool.and_eq_true, decide_eq_true_eq, all_range]
  refine ⟨⟨⟨ho.1.1, ho.1.2.1, ho.1.2.2.1, ho.1.2.2.2.1, ho.1.2.2.2.2.1, by simp [lateT]; omega⟩, ho.2.1⟩, fun i hi => ?_⟩
  cases i with
  | zero => simp [lateT, lateE, okEd]; omega
  | succ i => simpa [lateT, lateE] using ho.2.2 i (by simp [lateT] at hi; omega)

end Go.Proofs.Ytkhjkemllgjfmaa
