/- Plain laws: the mask of an integer; wipes that mirror each other, that show nothing, that show all. -/
import Derived.Test.YtnnobdcbmagbaaaLA
namespace Go.Proofs.Ytnnobdcbmagbaaa
open Go.RowKit

theorem and_mask (x : Int) (m : Nat) (hm : m < 9223372036854775808) : 0 ≤ bits BinOp.and IntKind.i64 x (m : Int) ∧ bits BinOp.and IntKind.i64 x (m : Int) ≤ (m : Int) := by
  unfold bits
  simp only
  have h : (BitVec.ofInt IntKind.i64.bits x &&& BitVec.ofInt IntKind.i64.bits (m : Int)).toNat ≤ m := by
    rw [BitVec.toNat_and]
    refine Nat.le_trans Nat.and_le_right ?_
    rw [BitVec.toNat_ofInt]
    simp [IntKind.bits]
    omega
  generalize (BitVec.ofInt IntKind.i64.bits x &&& BitVec.ofInt IntKind.i64.bits (m : Int)).toNat = r at h
  have e := IntWalk.i64_in (r : Int) (by omega)
  rw [e]
  omega

theorem ok_lt {F : Fr} (h : F.ok = true) : 16 ≤ F.W ∧ (∀ i : Nat, i < F.nY → (i : Int) < F.W * F.H) ∧ (∀ i : Nat, i < F.nU → (i : Int) < F.W / 2 * (F.H / 2)) ∧ (∀ i : Nat, i < F.nV → (i : Int) < F.W / 2 * (F.H / 2)) := by
  obtain ⟨h0, h1, h2, h3⟩ := ok_dims h
  have hb := okSize_bd h0
  exact ⟨hb.1, fun i hi => by omega, fun i hi => by omega, fun i hi => by omega⟩

theorem wipe_zero {F G : Fr} {d : Int} (hF : F.ok = true) (hd : 0 ≤ d) : frSame (wipeFr 0 8 d F G) F = true := by
  obtain ⟨w, l1, l2, l3⟩ := ok_lt hF
  exact frSame_of rfl rfl rfl rfl rfl (fun i hi => wipe_first hd (by omega) (l1 i hi) (by omega)) (fun i hi => wipe_first hd (by omega) (l2 i hi) (by omega)) (fun i hi => wipe_first hd (by omega) (l3 i hi) (by omega))

theorem wipe_full {F G : Fr} {d : Int} (hp : pairOk F G = true) : frSame (wipeFr 8 8 d F G) G = true := by
  obtain ⟨hF, _, e1, e2, e3, e4, e5⟩ := pair_dims hp
  obtain ⟨w, l1, l2, l3⟩ := ok_lt hF
  exact frSame_of e1 e2 e3.symm e4.symm e5.symm (fun i hi => wipe_second (by omega) (l1 i hi) (by omega)) (fun i hi => wipe_second (by omega) (l2 i hi) (by omega)) (fun i hi => wipe_second (by omega) (l3 i hi) (by omega))

theorem wipe_mirror {F G : Fr} {n : Int} (hp : pairOk F G = true) (hs : F.W = 16 ∨ F.W = 32) : frSame (wipeFr n 8 0 F G) (wipeFr (8 - n) 8 1 G F) = true := by
  obtain ⟨hF, _, e1, e2, e3, e4, e5⟩ := pair_dims hp
  obtain ⟨w, l1, l2, l3⟩ := ok_lt hF
  refine frSame_of e1 e2 e3.symm e4.symm e5.symm (fun i hi => ?_) (fun i hi => ?_) (fun i hi => ?_)
  all_goals simp only [wipeFr]; rw [← e1, ← e2]
  · exact wipe_sides (by omega) (by omega) (l1 i hi)
  · exact wipe_sides (by omega) (by omega) (l2 i hi)
  · exact wipe_sides (by omega) (by omega) (l3 i hi)

theorem wipe_mirror2 {F G : Fr} {n : Int} (hp : pairOk F G = true) (hs : F.W = 16 ∨ F.W = 32) (hH : F.H = F.W) : frSame (wipeFr n 8 2 F G) (wipeFr (8 - n) 8 3 G F) = true := by
  obtain ⟨hF, _, e1, e2, e3, e4, e5⟩ := pair_dims hp
  obtain ⟨w, l1, l2, l3⟩ := ok_lt hF
  refine frSame_of e1 e2 e3.symm e4.symm e5.symm (fun i hi => ?_) (fun i hi => ?_) (fun i hi => ?_)
  all_goals simp only [wipeFr]; rw [← e1, ← e2]
  · exact wipe_sides2 (by omega) (by omega) (l1 i hi)
  · exact wipe_sides2 (by omega) (by omega) (l2 i hi)
  · exact wipe_sides2 (by omega) (by omega) (l3 i hi)

end Go.Proofs.Ytnnobdcbmagbaaa
