/- The contract of the statements' light. -/
import Derived.Test.YtkhjkemllgjfmaaH
namespace Go.Proofs.Ytkhjkemllgjfmaa
open Go.RowKit
set_option linter.unusedVariables false

theorem lightF_no {F : Fl} {i : Nat} (hi : i < F.nT) (h : lightT (F.T i) = false) : lightF F = false := by
  unfold lightF; rw [all_range_no hi h, Bool.and_false]
theorem lightT_no {T : Tr} {j : Nat} (hj : j < T.nS) (h : 500 < (T.S j).n) : lightT T = false := by
  unfold lightT; rw [all_range_no hj (by simp; omega), Bool.and_false]

set_option maxRecDepth 100000 in
set_option maxHeartbeats 4000000 in
theorem light_any (v : Value) (F : Fl) (w : World) (hv : FA w v F) (hm : F.nT ≤ 9223372036854775807) :
    Calls Try.prog 13 #[v] w fun e w' => e = .returned (.bool (lightF F)) ∧ Below w.heap.size w w' := by
  obtain ⟨ts, rfl, hts⟩ := hv
  obtain ⟨ao, c, rfl⟩ := hts.shape
  have HT := Lib.hid hts
  clear hts
  by_cases h6 : 6 < F.nT
  · have HL := Lib.hid (show lightF F = false by unfold lightF; rw [show decide (F.nT ≤ 6) = false by simp; omega, Bool.false_and])
    have h6' : (6 : Int) < (F.nT : Int) := by omega
    go_enter Try.func13, Try.ntmps13
    go_wp2_with fail
    go_ret
    exact ⟨ret_bool HL.out.symm, below_box _ _⟩
  have h6' : ¬ (6 : Int) < (F.nT : Int) := by omega
  go_enter Try.func13, Try.ntmps13
  go_wp2_with fail
  obtain ⟨w1, hw⟩ : ∃ x, x = w.alloc (.cells #[.int .i64 F.sc, .slice ao F.nT c] 37) := ⟨_, rfl⟩
  rw [← hw]
  have hE : Below w.heap.size w w1 := by rw [hw]; exact below_box _ _
  have y1 : w1.cell? ⟨w.heap.size, 1, none⟩ = some (.slice ao F.nT c) := by rw [hw]; simp [go_sem]
  have hs1 : w.heap.size < w1.heap.size := by rw [hw]; simp
  have HB := Lib.hid hE
  clear hw hE
  go_loopw [3] (fun i wr => ∃ k : Nat, k ≤ F.nT ∧ i = .int .i64 (k : Int) ∧ Below w1.heap.size w1 wr ∧ Hid (∀ i, i < k → lightT (F.T i) = true)) (fun i _ => F.nT - (intOf i).toNat)
  case atStart => exact ⟨0, Nat.zero_le _, rfl, Below.refl _ _, Lib.hid (fun i hi => absurd hi (Nat.not_lt_zero i))⟩
  case round =>
    obtain ⟨k, hk, rfl, hb, HA⟩ := hrel
    have z1 := (hb.cell (p := ⟨w.heap.size, 1, none⟩) hs1).trans y1
    have HBW := Lib.hid hb
    clear hb
    by_cases hlt : k < F.nT
    · have hb2 := HB.out.trans (HBW.out.mono HB.out.size)
      have hts := HT.out.below hb2
      obtain ⟨ao', c', e, hcc, H⟩ := hts
      simp only [Value.slice.injEq, true_and] at e
      obtain ⟨rfl, rfl⟩ := e
      obtain ⟨b, o, c0, c1, c2, c3, c4, rfl, h0, h1, h2, h3, h4, hc⟩ := H k hlt
      obtain ⟨e0, e1, b2, b3, b4⟩ := hc
      obtain ⟨a2, d2, rfl⟩ := b2.shape
      obtain ⟨a3, d3, rfl⟩ := b3.shape
      obtain ⟨a4, d4, rfl⟩ := b4.shape
      subst e0
      subst e1
      obtain ⟨T, hT⟩ : ∃ T, T = F.T k := ⟨_, rfl⟩
      rw [← hT] at h0 h1 h2 h3 h4 b2 b3 b4
      have ET := Lib.hid hT
      have HB3 := Lib.hid b3
      clear hT b2 b3 b4 H
      have NO := Lib.hid (fun (h : lightT T = false) => (lightF_no hlt (by rw [← ET.out]; exact h)))
      by_cases q1 : 20 < T.h.size
      · have HL := Lib.hid (NO.out (by unfold lightT; simp; omega))
        have q1' : (20 : Int) < (T.h.size : Int) := by omega
        go_wp2_with fail
        go_ret
        exact ⟨ret_bool HL.out.symm, hb2.alloc hb2.size _⟩
      have q1' : ¬ (20 : Int) < (T.h.size : Int) := by omega
      have q1d : decide (20 < T.h.size) = false := by simpa using q1
      by_cases q2 : 5000 < T.nC
      · have HL := Lib.hid (NO.out (by unfold lightT; simp; omega))
        have q2' : (5000 : Int) < (T.nC : Int) := by omega
        have q2d : decide (5000 < T.nC) = true := by simpa using q2
        go_wp2_with fail
        go_ret
        exact ⟨ret_bool HL.out.symm, hb2.alloc hb2.size _⟩
      have q2' : ¬ (5000 : Int) < (T.nC : Int) := by omega
      have q2d : decide (5000 < T.nC) = false := by simpa using q2
      by_cases q3 : 40 < T.nS
      · have HL := Lib.hid (NO.out (by unfold lightT; simp; omega))
        have q3' : (40 : Int) < (T.nS : Int) := by omega
        have q3d : decide (40 < T.nS) = true := by simpa using q3
        go_wp2_with fail
        go_ret
        exact ⟨ret_bool HL.out.symm, hb2.alloc hb2.size _⟩
      have q3' : ¬ (40 : Int) < (T.nS : Int) := by omega
      have q3d : decide (40 < T.nS) = false := by simpa using q3
      by_cases q4 : 70 < T.nE
      · have HL := Lib.hid (NO.out (by unfold lightT; simp; omega))
        have q4' : (70 : Int) < (T.nE : Int) := by omega
        have q4d : decide (70 < T.nE) = true := by simpa using q4
        go_wp2_with fail
        go_ret
        exact ⟨ret_bool HL.out.symm, hb2.alloc hb2.size _⟩
      have q4' : ¬ (70 : Int) < (T.nE : Int) := by omega
      have q4d : decide (70 < T.nE) = false := by simpa using q4
      have HB2 := Lib.hid hb2
      have HSZ := Lib.hid (show w.heap.size < wr.heap.size by have := HBW.out.size; omega)
      go_wp2_with fail
      obtain ⟨w5, hw⟩ : ∃ x, x = wr.alloc (.cells #[.string T.h, .int .i64 T.sc, .slice a2 T.nC d2, .slice a3 T.nS d3, .slice a4 T.nE d4] 48) := ⟨_, rfl⟩
      rw [← hw]
      have hE : Below wr.heap.size wr w5 := by rw [hw]; exact below_box _ _
      have t3 : w5.cell? ⟨wr.heap.size, 3, none⟩ = some (.slice a3 T.nS d3) := by rw [hw]; simp [go_sem]
      obtain ⟨blt, hblt⟩ : ∃ z, z = wr.heap.size := ⟨_, rfl⟩
      have ht5 : blt < w5.heap.size := by rw [hw, hblt]; simp
      replace HB3 := Lib.hid (HB3.out.below hE)
      replace HBW := Lib.hid (HBW.out.trans (hE.mono HBW.out.size))
      rw [← hblt] at t3 ⊢
      clear hw hE hblt h0 h1 h2 h3 h4 z1 hb2 HB2 HSZ
      go_loopw [5] (fun i wx => ∃ j : Nat, j ≤ T.nS ∧ i = .int .i64 (j : Int) ∧ Below w5.heap.size w5 wx ∧ Hid (∀ i, i < j → (T.S i).n ≤ 500)) (fun i _ => T.nS - (intOf i).toNat)
      case atStart => exact ⟨0, Nat.zero_le _, rfl, Below.refl _ _, Lib.hid (fun i hi => absurd hi (Nat.not_lt_zero i))⟩
      case round =>
        obtain ⟨j, hj, rfl, hb, HJ⟩ := hrel
        have z3 := (hb.cell (p := ⟨blt, 3, none⟩) ht5).trans t3
        have HBX := Lib.hid hb
        clear hb
        by_cases hlj : j < T.nS
        · have hx3 := HB3.out.below HBX.out
          obtain ⟨ao', c', e, hcc', H⟩ := hx3
          simp only [Value.slice.injEq, true_and] at e
          obtain ⟨rfl, rfl⟩ := e
          obtain ⟨b', o', x, rfl, h0, _, _, _, hx⟩ := H j hlj
          obtain ⟨ax, dx, rfl⟩ := hx.shape
          clear H hx
          by_cases q5 : 500 < (T.S j).n
          · have HL := Lib.hid (NO.out (lightT_no hlj q5))
            have q5' : (500 : Int) < ((T.S j).n : Int) := by omega
            go_wp2_with fail
            go_ret
            exact ⟨ret_bool HL.out.symm, (HB.out.trans (HBW.out.mono HB.out.size)).trans (HBX.out.mono (by have := HB.out.size; have := HBW.out.size; omega))⟩
          have q5' : ¬ (500 : Int) < ((T.S j).n : Int) := by omega
          have HJ2 := Lib.hid (show ∀ i, i < j + 1 → (T.S i).n ≤ 500 from fun i hi => by
            by_cases e : i = j
            · subst e; omega
            · exact HJ.out i (by omega))
          go_wp2_with fail
          go_roundw
          case rel => exact ⟨j + 1, by omega, by go_num, HBX.out, HJ2⟩
          case measure => simp [intOf]; omega
        · obtain rfl : j = T.nS := by omega
          have HK := Lib.hid (show lightT T = true by
            unfold lightT
            simp only [Bool.and_eq_true, decide_eq_true_eq, all_range]
            exact ⟨⟨⟨⟨by omega, by omega⟩, by omega⟩, by omega⟩, HJ.out⟩)
          have HA2 := Lib.hid (all_step (p := fun i => lightT (F.T i)) HA.out (by rw [← ET.out]; exact HK.out))
          go_wp2_with fail
          go_roundw
          case rel => exact ⟨k + 1, by omega, by go_num, HBW.out.trans (HBX.out.mono HBW.out.size), HA2⟩
          case measure => simp [intOf]; omega
    · obtain rfl : k = F.nT := by omega
      have HL := Lib.hid (show lightF F = true by
        unfold lightF
        simp only [Bool.and_eq_true, decide_eq_true_eq, all_range]
        exact ⟨by omega, HA.out⟩)
      go_wp2_with fail
      go_ret
      exact ⟨ret_bool HL.out.symm, HB.out.trans (HBW.out.mono HB.out.size)⟩

end Go.Proofs.Ytkhjkemllgjfmaa
