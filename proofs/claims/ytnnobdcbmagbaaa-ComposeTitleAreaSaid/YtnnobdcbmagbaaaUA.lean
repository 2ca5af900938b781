/- Plain laws of titles: the samples that a text covers, and what painting them does. -/
import Derived.Test.YtnnobdcbmagbaaaKA
import Derived.Test.YtnnobdcbmagbaaaY
namespace Go.Proofs.Ytnnobdcbmagbaaa
open Go.RowKit
set_option linter.unusedVariables false

/-- Row j of the glyph of c. -/
def glyphF (c : Int) (j : Nat) : Int := match glyphK c with
  | some k => rowAt k j
  | none => 7
theorem glyphV_F (c : Int) : glyphV c = .agg #[.int .i64 (glyphF c 0), .int .i64 (glyphF c 1), .int .i64 (glyphF c 2), .int .i64 (glyphF c 3), .int .i64 (glyphF c 4)] := by
  unfold glyphV glyphF
  cases glyphK c <;> rfl
theorem glyphF_bd (c : Int) (j : Nat) (hj : j < 5) : 0 ≤ glyphF c j ∧ glyphF c j ≤ 7 := by
  obtain ⟨r0, r1, r2, r3, r4, e, h0, h1, h2, h3, h4, _⟩ := glyphV_shape c
  rw [glyphV_F] at e
  simp only [Value.agg.injEq, Array.mk.injEq, List.cons.injEq, Value.int.injEq, true_and, and_true] at e
  obtain ⟨e0, e1, e2, e3, e4⟩ := e
  rcases (show j = 0 ∨ j = 1 ∨ j = 2 ∨ j = 3 ∨ j = 4 by omega) with rfl | rfl | rfl | rfl | rfl <;> omega

/-- Does row r cover column k? -/
def tst (r : Int) (k : Nat) : Bool := if k = 0 then decide (4 ≤ r) else if k = 1 then decide (r % 4 ≥ 2) else decide (r % 2 = 1)

def pixS (W y left : Nat) (r : Int) : Nat → List (Nat × Nat)
  | 0 => []
  | k + 1 => pixS W y left r k ++ (if (tst r k && decide (left + k < W)) = true then [(left + k, y)] else [])
def pixG (W top left : Nat) (g : Nat → Int) : Nat → List (Nat × Nat)
  | 0 => []
  | j + 1 => pixG W top left g j ++ pixS W (top + j) left (g j) 3
def pixT (W top : Nat) (s : Nat → Int) : Nat → List (Nat × Nat)
  | 0 => []
  | i + 1 => pixT W top s i ++ pixG W top (2 + 4 * i) (glyphF (s i)) 5

def mY (W : Nat) (L : List (Nat × Nat)) (i : Nat) : Bool := L.any fun p => p.2 * W + p.1 == i
def mC (W : Nat) (L : List (Nat × Nat)) (i : Nat) : Bool := L.any fun p => p.2 / 2 * (W / 2) + p.1 / 2 == i
def pY (W : Nat) (L : List (Nat × Nat)) (Y : Nat → Int) (i : Nat) : Int := if mY W L i then 235 else Y i
def pC (W : Nat) (L : List (Nat × Nat)) (Y : Nat → Int) (i : Nat) : Int := if mC W L i then 128 else Y i
def titleFr (L : List (Nat × Nat)) (F : Fr) : Fr := ⟨F.W, F.H, F.nY, F.nU, F.nV, pY F.W.toNat L F.Y, pC F.W.toNat L F.U, pC F.W.toNat L F.V⟩
def titleL (F : Fr) (s : Nat → Int) (n : Nat) : List (Nat × Nat) := pixT F.W.toNat (F.H.toNat - 7) s n

theorem mY_snoc (W : Nat) (L : List (Nat × Nat)) (p : Nat × Nat) (i : Nat) : mY W (L ++ [p]) i = (mY W L i || (p.2 * W + p.1 == i)) := by simp [mY]
theorem mC_snoc (W : Nat) (L : List (Nat × Nat)) (p : Nat × Nat) (i : Nat) : mC W (L ++ [p]) i = (mC W L i || (p.2 / 2 * (W / 2) + p.1 / 2 == i)) := by simp [mC]
theorem pY_at (W : Nat) (L : List (Nat × Nat)) (x y : Nat) (Y : Nat → Int) : pY W (L ++ [(x, y)]) Y (y * W + x) = 235 := by simp [pY, mY_snoc]
theorem pY_off (W : Nat) (L : List (Nat × Nat)) (x y : Nat) (Y : Nat → Int) (i : Nat) (h : i ≠ y * W + x) : pY W (L ++ [(x, y)]) Y i = pY W L Y i := by simp [pY, mY_snoc, Ne.symm h]
theorem pC_at (W : Nat) (L : List (Nat × Nat)) (x y : Nat) (Y : Nat → Int) : pC W (L ++ [(x, y)]) Y (y / 2 * (W / 2) + x / 2) = 128 := by simp [pC, mC_snoc]
theorem pC_off (W : Nat) (L : List (Nat × Nat)) (x y : Nat) (Y : Nat → Int) (i : Nat) (h : i ≠ y / 2 * (W / 2) + x / 2) : pC W (L ++ [(x, y)]) Y i = pC W L Y i := by simp [pC, mC_snoc, Ne.symm h]
theorem pY_nil (W : Nat) (Y : Nat → Int) (i : Nat) : pY W [] Y i = Y i := by simp [pY, mY]
theorem pC_nil (W : Nat) (Y : Nat → Int) (i : Nat) : pC W [] Y i = Y i := by simp [pC, mC]
theorem pY_bd {W n : Nat} {L : List (Nat × Nat)} {Y : Nat → Int} (h : ∀ i, i < n → 0 ≤ Y i ∧ Y i < 256) (i : Nat) (hi : i < n) : 0 ≤ pY W L Y i ∧ pY W L Y i < 256 := by
  unfold pY; split
  · omega
  · exact h i hi
theorem pC_bd {W n : Nat} {L : List (Nat × Nat)} {Y : Nat → Int} (h : ∀ i, i < n → 0 ≤ Y i ∧ Y i < 256) (i : Nat) (hi : i < n) : 0 ≤ pC W L Y i ∧ pC W L Y i < 256 := by
  unfold pC; split
  · omega
  · exact h i hi

theorem pixS_mem {W y left : Nat} {r : Int} {n : Nat} (hn : n ≤ 3) {p : Nat × Nat} (h : p ∈ pixS W y left r n) : p.2 = y ∧ left ≤ p.1 ∧ p.1 < W := by
  induction n with
  | zero => simp [pixS] at h
  | succ k ih =>
    rw [pixS, List.mem_append] at h
    rcases h with h | h
    · exact ih (by omega) h
    · split at h
      · rename_i hc
        simp only [List.mem_singleton] at h
        subst h
        simp only [Bool.and_eq_true, decide_eq_true_eq] at hc
        exact ⟨rfl, by simp, hc.2⟩
      · simp at h
theorem pixG_mem {W top left : Nat} {g : Nat → Int} {n : Nat} {p : Nat × Nat} (h : p ∈ pixG W top left g n) : top ≤ p.2 ∧ p.2 < top + n ∧ left ≤ p.1 ∧ p.1 < W := by
  induction n with
  | zero => simp [pixG] at h
  | succ k ih =>
    rw [pixG, List.mem_append] at h
    rcases h with h | h
    · have := ih h; omega
    · have := pixS_mem (Nat.le_refl 3) h; omega
theorem pixT_mem {W top : Nat} {s : Nat → Int} {n : Nat} {p : Nat × Nat} (h : p ∈ pixT W top s n) : top ≤ p.2 ∧ p.2 < top + 5 ∧ 2 ≤ p.1 ∧ p.1 < W := by
  induction n with
  | zero => simp [pixT] at h
  | succ k ih =>
    rw [pixT, List.mem_append] at h
    rcases h with h | h
    · exact ih h
    · have := pixG_mem h; omega

/-- A row of zeros covers nothing. -/
theorem pixS_zero (W y left n : Nat) : pixS W y left 0 n = [] := by
  induction n with
  | zero => rfl
  | succ k ih => rw [pixS, ih]; simp [tst]
theorem pixG_zero {W top left : Nat} {g : Nat → Int} {n : Nat} (h : ∀ j, j < n → g j = 0) : pixG W top left g n = [] := by
  induction n with
  | zero => rfl
  | succ k ih => rw [pixG, ih (fun j hj => h j (by omega)), h k (by omega), pixS_zero]; rfl
theorem glyph_blank : glyphF 32 0 = 0 ∧ glyphF 32 1 = 0 ∧ glyphF 32 2 = 0 ∧ glyphF 32 3 = 0 ∧ glyphF 32 4 = 0 := by decide +kernel
theorem pixT_blank {W top : Nat} {s : Nat → Int} {n : Nat} (h : ∀ i, i < n → s i = 32) : pixT W top s n = [] := by
  induction n with
  | zero => rfl
  | succ k ih =>
    rw [pixT, ih (fun j hj => h j (by omega)), h k (by omega), pixG_zero]
    · rfl
    · intro j hj
      obtain ⟨g0, g1, g2, g3, g4⟩ := glyph_blank
      rcases (show j = 0 ∨ j = 1 ∨ j = 2 ∨ j = 3 ∨ j = 4 by omega) with rfl | rfl | rfl | rfl | rfl <;> assumption

theorem title_none (F : Fr) : frSame (titleFr [] F) F = true :=
  frSame_of rfl rfl rfl rfl rfl (fun i _ => pY_nil F.W.toNat F.Y i) (fun i _ => pC_nil F.W.toNat F.U i) (fun i _ => pC_nil F.W.toNat F.V i)
theorem title_twice (L : List (Nat × Nat)) (F : Fr) : frSame (titleFr L F) (titleFr L (titleFr L F)) = true :=
  frSame_of rfl rfl rfl rfl rfl (fun i _ => by simp only [titleFr, pY]; split <;> rfl) (fun i _ => by simp only [titleFr, pC]; split <;> rfl) (fun i _ => by simp only [titleFr, pC]; split <;> rfl)

/-- Where a title changes the luma. -/
theorem title_area {W H : Nat} {s : Nat → Int} {n i : Nat} (hH : 16 ≤ H) (h : mY W (pixT W (H - 7) s n) i = true) : H - 7 ≤ i / W ∧ i / W ≤ H - 3 ∧ 2 ≤ i % W := by
  simp only [mY, List.any_eq_true, beq_iff_eq] at h
  obtain ⟨p, hp, rfl⟩ := h
  obtain ⟨h1, h2, h3, h4⟩ := pixT_mem hp
  rw [Nat.mul_comm, Nat.mul_add_div (by omega), Nat.mul_add_mod, Nat.div_eq_of_lt h4, Nat.mod_eq_of_lt h4]
  omega

/-- A covered sample lies in its planes. -/
theorem pix_in {W H x y : Nat} (hx : x < W) (hy : y < H) (hW : W % 2 = 0) (hH : H % 2 = 0) : y * W + x < W * H ∧ y / 2 * (W / 2) + x / 2 < W / 2 * (H / 2) := by
  constructor
  · calc y * W + x < y * W + W := by omega
      _ = (y + 1) * W := by rw [Nat.add_mul]; omega
      _ ≤ H * W := Nat.mul_le_mul_right _ (by omega)
      _ = W * H := Nat.mul_comm _ _
  · calc y / 2 * (W / 2) + x / 2 < y / 2 * (W / 2) + W / 2 := by omega
      _ = (y / 2 + 1) * (W / 2) := by rw [Nat.add_mul]; omega
      _ ≤ H / 2 * (W / 2) := Nat.mul_le_mul_right _ (by omega)
      _ = W / 2 * (H / 2) := Nat.mul_comm _ _

end Go.Proofs.Ytnnobdcbmagbaaa
