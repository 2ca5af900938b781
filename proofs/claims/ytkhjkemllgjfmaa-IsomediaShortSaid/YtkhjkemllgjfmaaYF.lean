/- The contracts of size, both. -/
import Derived.Test.YtkhjkemllgjfmaaYE
namespace Go.Proofs.Ytkhjkemllgjfmaa
open Go.RowKit
set_option linter.unusedVariables false
set_option linter.unusedSimpArgs false

/-- Bytes of the first samples. -/
def sizeN (S : Nat → Sm) : Nat → Nat
  | 0 => 0
  | k + 1 => sizeN S k + (S k).n
theorem sizeN_le {S : Nat → Sm} {n m : Nat} (h : ∀ i, i < n → (S i).n ≤ m) : sizeN S n ≤ n * m := by
  induction n with
  | zero => simp [sizeN]
  | succ k ih =>
    have h1 := ih (fun i hi => h i (by omega))
    have h2 := h k (by omega)
    simp only [sizeN, Nat.add_mul]; omega
theorem sizeN_mono (S : Nat → Sm) {k n : Nat} (h : k ≤ n) : sizeN S k ≤ sizeN S n := by
  induction n with
  | zero => obtain rfl : k = 0 := by omega
            exact Nat.le_refl _
  | succ n ih =>
    by_cases e : k = n + 1
    · subst e; exact Nat.le_refl _
    · have := ih (by omega); simp only [sizeN]; omega

set_option maxRecDepth 100000 in
set_option maxHeartbeats 4000000 in
theorem rsize_any (v : Value) (T : Tr) (w : World) (hv : TA w v T) (hn : T.nS ≤ 1000000) (hs : sizeN T.S T.nS ≤ 1000000000000) :
    Calls Try.prog 43 #[v] w fun e w' => e = .returned (.int .i64 (sizeN T.S T.nS : Nat)) ∧ Below w.heap.size w w' := by
  obtain ⟨c0, c1, c2, c3, c4, rfl, rfl, rfl, b2, b3, b4⟩ := hv
  obtain ⟨a2, d2, rfl⟩ := b2.shape
  obtain ⟨a3, d3, rfl⟩ := b3.shape
  obtain ⟨a4, d4, rfl⟩ := b4.shape
  have HB3 := Lib.hid b3
  have HS := Lib.hid hs
  clear b2 b3 b4 hs
  go_enter Try.func43, Try.ntmps43
  go_wp2_with fail
  obtain ⟨w1, hw⟩ : ∃ x, x = w.alloc (.cells #[.string T.h, .int .i64 T.sc, .slice a2 T.nC d2, .slice a3 T.nS d3, .slice a4 T.nE d4] 48) := ⟨_, rfl⟩
  rw [← hw]
  have hE : Below w.heap.size w w1 := by rw [hw]; exact below_box _ _
  have y3 : w1.cell? ⟨w.heap.size, 3, none⟩ = some (.slice a3 T.nS d3) := by rw [hw]; simp [go_sem]
  have HB := Lib.hid hE
  obtain ⟨bt, hbt⟩ : ∃ z, z = w.heap.size := ⟨_, rfl⟩
  rw [← hbt] at y3 ⊢
  have HB3' := Lib.hid (HB3.out.below hE)
  clear hw hE hbt
  go_loopw [4, 3] (fun i g wr => ∃ k : Nat, k ≤ T.nS ∧ i = .int .i64 (k : Int) ∧ g = .int .i64 (sizeN T.S k : Nat) ∧ wr = w1) (fun i _ _ => T.nS - (intOf i).toNat)
  case atStart => exact ⟨0, Nat.zero_le _, rfl, rfl, rfl⟩
  case round =>
    obtain ⟨k, hk, rfl, rfl, rfl⟩ := hrel
    by_cases hlt : k < T.nS
    · obtain ⟨ao', c', e, hcc', H⟩ := HB3'.out
      simp only [Value.slice.injEq, true_and] at e
      obtain ⟨rfl, rfl⟩ := e
      obtain ⟨b', o', x, rfl, h0, h1, h2, h3, hx⟩ := H k hlt
      obtain ⟨ax, dx, rfl⟩ := hx.shape
      have hm := sizeN_mono T.S (show k + 1 ≤ T.nS by omega)
      obtain ⟨G, hG⟩ : ∃ G, G = sizeN T.S k := ⟨_, rfl⟩
      have hst : sizeN T.S (k + 1) = G + (T.S k).n := by simp only [sizeN]; rw [← hG]
      have hb := HS.out
      rw [← hG] at ⊢
      have hb2 : G + (T.S k).n ≤ 1000000000000 := by omega
      have HST := Lib.hid hst
      clear H hx hst hG hm hb
      go_wp2_with fail
      go_roundw
      case rel => exact ⟨k + 1, by omega, by go_num, by rw [HST.out]; go_num, trivial⟩
      case measure => simp [intOf]; omega
    · obtain rfl : k = T.nS := by omega
      go_wp2_with fail
      go_ret
      exact ⟨rfl, HB.out⟩

set_option maxRecDepth 100000 in
set_option maxHeartbeats 4000000 in
theorem size_any (v : Value) (T : Tr) (w : World) (hv : TA w v T) (hn : T.nS ≤ 1000000) (hs : sizeN T.S T.nS ≤ 1000000000000) :
    Calls Try.prog 41 #[v] w fun e w' => e = .returned (.int .i64 (sizeN T.S T.nS : Nat)) ∧ Below w.heap.size w w' := by
  obtain ⟨c0, c1, c2, c3, c4, rfl, rfl, rfl, b2, b3, b4⟩ := hv
  obtain ⟨a2, d2, rfl⟩ := b2.shape
  obtain ⟨a3, d3, rfl⟩ := b3.shape
  obtain ⟨a4, d4, rfl⟩ := b4.shape
  have HB3 := Lib.hid b3
  have HS := Lib.hid hs
  clear b2 b3 b4 hs
  go_enter Try.func41, Try.ntmps41
  go_wp2_with fail
  obtain ⟨w1, hw⟩ : ∃ x, x = w.alloc (.cells #[.string T.h, .int .i64 T.sc, .slice a2 T.nC d2, .slice a3 T.nS d3, .slice a4 T.nE d4] 43) := ⟨_, rfl⟩
  rw [← hw]
  have hE : Below w.heap.size w w1 := by rw [hw]; exact below_box _ _
  have HB := Lib.hid hE
  have HB3' := Lib.hid (HB3.out.below hE)
  clear hw hE
  go_loopw [9, 3] (fun i g wr => ∃ k : Nat, k ≤ T.nS ∧ i = .int .i64 (k : Int) ∧ g = .int .i64 (sizeN T.S k : Nat) ∧ Below w1.heap.size w1 wr) (fun i _ _ => T.nS - (intOf i).toNat)
  case atStart => exact ⟨0, Nat.zero_le _, rfl, rfl, Below.refl _ _⟩
  case round =>
    obtain ⟨k, hk, rfl, rfl, hbw⟩ := hrel
    have HBW := Lib.hid hbw
    clear hbw
    by_cases hlt : k < T.nS
    · obtain ⟨ao', c', e, hcc', H⟩ := HB3'.out.below HBW.out
      simp only [Value.slice.injEq, true_and] at e
      obtain ⟨rfl, rfl⟩ := e
      obtain ⟨b', o', x, rfl, h0, h1, h2, h3, hx⟩ := H k hlt
      obtain ⟨ax, dx, rfl⟩ := hx.shape
      have hm := sizeN_mono T.S (show k + 1 ≤ T.nS by omega)
      obtain ⟨G, hG⟩ : ∃ G, G = sizeN T.S k := ⟨_, rfl⟩
      have hst : sizeN T.S (k + 1) = G + (T.S k).n := by simp only [sizeN]; rw [← hG]
      have hb := HS.out
      rw [← hG] at ⊢
      have hb2 : G + (T.S k).n ≤ 1000000000000 := by omega
      have HST := Lib.hid hst
      clear H hx hst hG hm hb
      go_wp2_with fail
      go_roundw
      case rel => exact ⟨k + 1, by omega, by go_num, by rw [HST.out]; go_num, HBW.out.alloc HBW.out.size _⟩
      case measure => simp [intOf]; omega
    · obtain rfl : k = T.nS := by omega
      go_wp2_with fail
      go_ret
      exact ⟨rfl, HB.out.trans (HBW.out.mono HB.out.size)⟩
end Go.Proofs.Ytkhjkemllgjfmaa
