/- Plain laws of the key: what it computes, its ends. -/
import Derived.Test.YtnnobdcbmagbaaaLA
namespace Go.Proofs.Ytnnobdcbmagbaaa
open Go.RowKit

/-- The luma sample over chroma sample i. -/
def cornerI (W : Int) (i : Nat) : Int := (i : Int) / (W / 2) * 2 * W + (i : Int) % (W / 2) * 2
def corner (W : Int) (i : Nat) : Nat := (cornerI W i).toNat
def keyMean (W : Int) (Y : Nat → Int) (i : Nat) : Int := (Y (corner W i) + Y (corner W i + 1) + (Y (corner W i + W.toNat) + Y (corner W i + W.toNat + 1)) + 2) / 4
def keyY (t : Int) (X Y : Nat → Int) (i : Nat) : Int := if t ≤ X i then X i else Y i
def keyC (t W : Int) (L X Y : Nat → Int) (i : Nat) : Int := if t ≤ keyMean W L i then X i else Y i
def keyFr (t : Int) (F G : Fr) : Fr := ⟨F.W, F.H, F.nY, F.nU, F.nV, keyY t F.Y G.Y, keyC t F.W F.Y F.U G.U, keyC t F.W F.Y F.V G.V⟩
def okThr (t : Int) : Bool := decide (0 ≤ t ∧ t ≤ 255)

theorem okSize_four {W H : Int} (h : okSize W H = true) : (W = 16 ∨ W = 32 ∨ W = 48 ∨ W = 64) ∧ (H = 16 ∨ H = 32 ∨ H = 48 ∨ H = 64) := by
  simp [okSize] at h; omega

theorem corner_bd {W H : Int} {i : Nat} (h : okSize W H = true) (hi : (i : Int) < W / 2 * (H / 2)) :
    0 ≤ cornerI W i ∧ cornerI W i + W + 1 < W * H ∧ 0 ≤ (i : Int) / (W / 2) * 2 * W ∧ (i : Int) / (W / 2) * 2 * W ≤ 4096 ∧ 0 ≤ (i : Int) / (W / 2) ∧ (i : Int) / (W / 2) ≤ 1024 ∧ 0 ≤ (i : Int) % (W / 2) ∧ (i : Int) % (W / 2) ≤ 64 := by
  obtain ⟨hW, hH⟩ := okSize_four h
  unfold cornerI
  rcases hW with rfl | rfl | rfl | rfl <;> rcases hH with rfl | rfl | rfl | rfl <;> (simp at hi ⊢; omega)

theorem keyY_bd {t : Int} {n : Nat} {X Y : Nat → Int} (hX : ∀ i, i < n → 0 ≤ X i ∧ X i < 256) (hY : ∀ i, i < n → 0 ≤ Y i ∧ Y i < 256) (i : Nat) (hi : i < n) : 0 ≤ keyY t X Y i ∧ keyY t X Y i < 256 := by
  unfold keyY; split
  · exact hX i hi
  · exact hY i hi
theorem keyC_bd {t W : Int} {n : Nat} {L X Y : Nat → Int} (hX : ∀ i, i < n → 0 ≤ X i ∧ X i < 256) (hY : ∀ i, i < n → 0 ≤ Y i ∧ Y i < 256) (i : Nat) (hi : i < n) : 0 ≤ keyC t W L X Y i ∧ keyC t W L X Y i < 256 := by
  unfold keyC; split
  · exact hX i hi
  · exact hY i hi

theorem corner_lt {F : Fr} (hF : F.ok = true) {i : Nat} (hi : i < F.nU) : corner F.W i + F.W.toNat + 1 < F.nY ∧ ((corner F.W i : Nat) : Int) = cornerI F.W i := by
  obtain ⟨h0, h1, h2, h3⟩ := ok_dims hF
  obtain ⟨c1, c2, _⟩ := corner_bd h0 (i := i) (by omega)
  have hb := okSize_bd h0
  unfold corner
  omega

theorem mean_bd {F : Fr} {lo hi : Int} (hF : F.ok = true) (hY : ∀ i, i < F.nY → lo ≤ F.Y i ∧ F.Y i ≤ hi) {i : Nat} (hi' : i < F.nU) : lo ≤ keyMean F.W F.Y i ∧ keyMean F.W F.Y i ≤ hi := by
  obtain ⟨c1, _⟩ := corner_lt hF hi'
  have a1 := hY (corner F.W i) (by omega)
  have a2 := hY (corner F.W i + 1) (by omega)
  have a3 := hY (corner F.W i + F.W.toNat) (by omega)
  have a4 := hY (corner F.W i + F.W.toNat + 1) (by omega)
  unfold keyMean
  omega

theorem key_zero {F G : Fr} (hF : F.ok = true) (hY : ∀ i, i < F.nY → 0 ≤ F.Y i ∧ F.Y i < 256) : frSame (keyFr 0 F G) F = true := by
  have e := (ok_bd hF).2.2.2.2
  refine frSame_of rfl rfl rfl rfl rfl (fun i hi => if_pos (hY i hi).1) (fun i hi => if_pos (mean_bd hF (lo := 0) (hi := 255) (fun j hj => by have := hY j hj; omega) hi).1) (fun i hi => if_pos (mean_bd hF (lo := 0) (hi := 255) (fun j hj => by have := hY j hj; omega) (show i < F.nU by have : i < F.nV := hi; omega)).1)

theorem key_self {F : Fr} {t : Int} : frSame (keyFr t F F) F = true :=
  frSame_of rfl rfl rfl rfl rfl (fun i _ => by simp [keyFr, keyY]) (fun i _ => by simp [keyFr, keyC]) (fun i _ => by simp [keyFr, keyC])

theorem key_dark {F G : Fr} (hp : pairOk F G = true) (hY : ∀ i, i < F.nY → 0 ≤ F.Y i ∧ F.Y i ≤ 127) : frSame (keyFr 128 F G) G = true := by
  obtain ⟨hF, _, e1, e2, e3, e4, e5⟩ := pair_dims hp
  have e := (ok_bd hF).2.2.2.2
  refine frSame_of e1 e2 e3.symm e4.symm e5.symm (fun i hi => if_neg (by have := hY i hi; omega)) (fun i hi => if_neg (by have := (mean_bd hF (lo := 0) (hi := 127) hY hi).2; omega)) (fun i hi => if_neg (by have := (mean_bd hF (lo := 0) (hi := 127) hY (show i < F.nU by have : i < F.nV := hi; omega)).2; omega))

end Go.Proofs.Ytnnobdcbmagbaaa
