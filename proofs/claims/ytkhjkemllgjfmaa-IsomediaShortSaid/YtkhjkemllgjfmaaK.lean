/- The contracts of Locate, both. -/
import Derived.Test.YtkhjkemllgjfmaaJ
namespace Go.Proofs.Ytkhjkemllgjfmaa
open Go.RowKit
set_option linter.unusedVariables false

def decS (S : Nat → Sm) : Nat → Int
  | 0 => 0
  | k + 1 => decS S k + (S k).dur
def locI (S : Nat → Sm) (t : Int) : Nat → Int
  | 0 => -1
  | k + 1 => if (S k).sync = true ∧ decS S k ≤ t then (k : Int) else locI S t k
def locF (T : Tr) (t : Int) : Int := if okTr T = true then locI T.S t T.nS else -1
theorem okSm_yes {s : Sm} (h : okSm s = true) : s.n ≤ 1048576 ∧ 0 ≤ s.dur ∧ s.dur ≤ 16777216 ∧ 0 ≤ s.shift ∧ s.shift ≤ 16777216 := by simpa [okSm] using h
theorem okEd_yes {s : Ed} (h : okEd s = true) : 0 ≤ s.dur ∧ s.dur ≤ 2147483647 ∧ -1 ≤ s.time ∧ s.time ≤ 2147483647 := by simpa [okEd] using h
theorem okTr_yes {T : Tr} (h : okTr T = true) : (T.h.size = 4 ∧ 1 ≤ T.sc ∧ T.sc ≤ 16777216 ∧ T.nC ≤ 4096 ∧ T.nS ≤ 4096 ∧ T.nE ≤ 64) ∧ (∀ i, i < T.nS → okSm (T.S i) = true) ∧ ∀ i, i < T.nE → okEd (T.E i) = true := by
  unfold okTr at h
  simp only [Bool.and_eq_true, decide_eq_true_eq, all_range] at h
  exact ⟨h.1.1, h.1.2, h.2⟩
theorem decS_bd {S : Nat → Sm} {n k : Nat} (h : ∀ i, i < n → okSm (S i) = true) (hk : k ≤ n) : 0 ≤ decS S k ∧ decS S k ≤ (k : Int) * 16777216 := by
  induction k with
  | zero => simp [decS]
  | succ k ih =>
    have h1 := ih (by omega)
    have h2 := okSm_yes (h k (by omega))
    simp only [decS]
    omega

set_option maxRecDepth 100000 in
set_option maxHeartbeats 4000000 in
theorem locate_any (v : Value) (T : Tr) (t : Int) (w : World) (hv : TA w v T) :
    Calls Try.prog 14 #[v, .int .i64 t] w fun e w' => e = .returned (.int .i64 (locF T t)) ∧ Below w.heap.size w w' := by
  have hv0 := hv
  obtain ⟨c0, c1, c2, c3, c4, rfl, rfl, rfl, b2, b3, b4⟩ := hv
  obtain ⟨a2, d2, rfl⟩ := b2.shape
  obtain ⟨a3, d3, rfl⟩ := b3.shape
  obtain ⟨a4, d4, rfl⟩ := b4.shape
  have HB3 := Lib.hid b3
  have HV := Lib.hid (hv0.below (below_box w (.cells #[.string T.h, .int .i64 T.sc, .slice a2 T.nC d2, .slice a3 T.nS d3, .slice a4 T.nE d4] 43)))
  clear b2 b3 b4 hv0
  go_enter Try.func14, Try.ntmps14
  go_wp2_with fail
  refine (valid_any _ T _ HV.out).mono ?_
  rintro e w1 ⟨rfl, hb⟩
  have y3 : w1.cell? ⟨w.heap.size, 3, none⟩ = some (.slice a3 T.nS d3) := (hb.cell (by simp)).trans (by simp [go_sem])
  have hs1 : w.heap.size < w1.heap.size := by have := hb.size; simp at this; omega
  have HB := Lib.hid (show Below w.heap.size w w1 from (below_box _ _).trans (hb.mono (by simp)))
  clear hb HV
  cases hok : okTr T
  · have HL := Lib.hid (show locF T t = -1 by unfold locF; rw [hok]; rfl)
    go_wp2_with fail
    go_ret
    exact ⟨ret_i64 HL.out.symm, HB.out⟩
  have HOK := Lib.hid (okTr_yes hok)
  have HL := Lib.hid (show locF T t = locI T.S t T.nS by unfold locF; rw [hok]; rfl)
  go_wp2_with fail
  clear hok
  have hn : T.nS ≤ 4096 := HOK.out.1.2.2.2.2.1
  go_loopw [15, 5, 6] (fun i l d wr => ∃ k : Nat, k ≤ T.nS ∧ i = .int .i64 (k : Int) ∧ l = .int .i64 (locI T.S t k) ∧ d = .int .i64 (decS T.S k) ∧ Below w1.heap.size w1 wr) (fun i _ _ _ => T.nS - (intOf i).toNat)
  case atStart => exact ⟨0, Nat.zero_le _, rfl, rfl, rfl, Below.refl _ _⟩
  case round =>
    obtain ⟨k, hk, rfl, rfl, rfl, hb⟩ := hrel
    have z3 := (hb.cell (p := ⟨w.heap.size, 3, none⟩) hs1).trans y3
    have HBW := Lib.hid hb
    have HB2 := Lib.hid (HB.out.trans (hb.mono HB.out.size))
    clear hb
    by_cases hlt : k < T.nS
    · obtain ⟨ao', c', e, hcc', H⟩ := HB3.out.below HB2.out
      simp only [Value.slice.injEq, true_and] at e
      obtain ⟨rfl, rfl⟩ := e
      obtain ⟨b', o', x, rfl, h0, h1, h2, h3, hx⟩ := H k hlt
      obtain ⟨ax, dx, rfl⟩ := hx.shape
      have dd := decS_bd HOK.out.2.1 (show k ≤ T.nS by omega)
      have ds := okSm_yes (HOK.out.2.1 k hlt)
      obtain ⟨s, hs⟩ : ∃ s, s = T.S k := ⟨_, rfl⟩
      rw [← hs] at h0 h1 h2 h3 ds
      have s1 := ds.2.1
      have s2 := ds.2.2.1
      obtain ⟨D, hD⟩ : ∃ D, D = decS T.S k := ⟨_, rfl⟩
      rw [← hD] at dd ⊢
      have dd1 := dd.1
      have dd2 : D ≤ 68719476736 := by omega
      have ES := Lib.hid hs
      have ED := Lib.hid hD
      have hstep : decS T.S (k + 1) = D + s.dur := by simp only [decS]; rw [← hs, ← hD]
      have HST := Lib.hid hstep
      clear H hx hs hD dd ds hstep
      cases hsy : s.sync
      · have HLI := Lib.hid (show locI T.S t (k + 1) = locI T.S t k by simp only [locI]; rw [← ES.out, if_neg (by simp [hsy])])
        rw [hsy] at h3
        go_wp2_with fail
        go_roundw
        case rel => exact ⟨k + 1, by omega, by go_num, by rw [HLI.out], by rw [HST.out], HBW.out.alloc HBW.out.size _⟩
        case measure => simp [intOf]; omega
      · rw [hsy] at h3
        by_cases hle : D ≤ t
        · have HLI := Lib.hid (show locI T.S t (k + 1) = (k : Int) by simp only [locI]; rw [← ES.out, ← ED.out, if_pos ⟨hsy, hle⟩])
          clear hsy
          go_wp2_with fail
          go_roundw
          case rel => exact ⟨k + 1, by omega, by go_num, by rw [HLI.out], by rw [HST.out], HBW.out.alloc HBW.out.size _⟩
          case measure => simp [intOf]; omega
        · have HLI := Lib.hid (show locI T.S t (k + 1) = locI T.S t k by simp only [locI]; rw [← ES.out, ← ED.out, if_neg (fun h => hle h.2)])
          clear hsy
          go_wp2_with fail
          go_roundw
          case rel => exact ⟨k + 1, by omega, by go_num, by rw [HLI.out], by rw [HST.out], HBW.out.alloc HBW.out.size _⟩
          case measure => simp [intOf]; omega
    · obtain rfl : k = T.nS := by omega
      go_wp2_with fail
      go_ret
      exact ⟨ret_i64 HL.out.symm, HB2.out⟩

set_option maxRecDepth 100000 in
set_option maxHeartbeats 4000000 in
theorem rlocate_any (v : Value) (T : Tr) (t : Int) (w : World) (hv : TA w v T) (hm : T.nS ≤ 9223372036854775807) :
    Calls Try.prog 16 #[v, .int .i64 t] w fun e w' => e = .returned (.int .i64 (locF T t)) ∧ Below w.heap.size w w' := by
  have hv0 := hv
  obtain ⟨c0, c1, c2, c3, c4, rfl, rfl, rfl, b2, b3, b4⟩ := hv
  obtain ⟨a2, d2, rfl⟩ := b2.shape
  obtain ⟨a3, d3, rfl⟩ := b3.shape
  obtain ⟨a4, d4, rfl⟩ := b4.shape
  have HB3 := Lib.hid b3
  have HV := Lib.hid hv0
  clear b2 b3 b4 hv0
  go_enter Try.func16, Try.ntmps16
  go_wp2_with fail
  obtain ⟨w1, hw⟩ : ∃ x, x = w.alloc (.cells #[.string T.h, .int .i64 T.sc, .slice a2 T.nC d2, .slice a3 T.nS d3, .slice a4 T.nE d4] 48) := ⟨_, rfl⟩
  rw [← hw]
  have hE : Below w.heap.size w w1 := by rw [hw]; exact below_box _ _
  have y0 : w1.cell? ⟨w.heap.size, 0, none⟩ = some (.string T.h) := by rw [hw]; simp [go_sem]
  have y1 : w1.cell? ⟨w.heap.size, 1, none⟩ = some (.int .i64 T.sc) := by rw [hw]; simp [go_sem]
  have y2 : w1.cell? ⟨w.heap.size, 2, none⟩ = some (.slice a2 T.nC d2) := by rw [hw]; simp [go_sem]
  have y3 : w1.cell? ⟨w.heap.size, 3, none⟩ = some (.slice a3 T.nS d3) := by rw [hw]; simp [go_sem]
  have y4 : w1.cell? ⟨w.heap.size, 4, none⟩ = some (.slice a4 T.nE d4) := by rw [hw]; simp [go_sem]
  have hs1 : w.heap.size < w1.heap.size := by rw [hw]; simp
  have HB := Lib.hid hE
  have HY := Lib.hid (And.intro y0 (And.intro y1 (And.intro y2 (And.intro y3 y4))))
  clear hw hE y0 y1 y2 y3 y4
  go_loopw [7, 5, 6] (fun i d l wr => ∃ k : Nat, k ≤ T.nS ∧ i = .int .i64 (k : Int) ∧ (okTr T = false → k = 0) ∧ l = .int .i64 (locI T.S t k) ∧ d = .int .i64 (decS T.S k) ∧ Below w1.heap.size w1 wr) (fun i _ _ _ => T.nS - (intOf i).toNat)
  case atStart => exact ⟨0, Nat.zero_le _, rfl, fun _ => rfl, rfl, rfl, Below.refl _ _⟩
  case round =>
    obtain ⟨k, hk, rfl, hk0, rfl, rfl, hb⟩ := hrel
    have HK0 := Lib.hid hk0
    have z0 := (hb.cell (p := ⟨w.heap.size, 0, none⟩) hs1).trans HY.out.1
    have z1 := (hb.cell (p := ⟨w.heap.size, 1, none⟩) hs1).trans HY.out.2.1
    have z2 := (hb.cell (p := ⟨w.heap.size, 2, none⟩) hs1).trans HY.out.2.2.1
    have z3 := (hb.cell (p := ⟨w.heap.size, 3, none⟩) hs1).trans HY.out.2.2.2.1
    have z4 := (hb.cell (p := ⟨w.heap.size, 4, none⟩) hs1).trans HY.out.2.2.2.2
    have HBW := Lib.hid hb
    have HB2 := Lib.hid (HB.out.trans (hb.mono HB.out.size))
    clear hb hk0
    by_cases hlt : k < T.nS
    · have HVV := Lib.hid (HV.out.below HB2.out)
      obtain ⟨D, hD⟩ : ∃ D, D = decS T.S k := ⟨_, rfl⟩
      rw [← hD]
      have ED := Lib.hid hD
      clear hD
      go_wp2_with fail
      refine (rvalid_any _ T _ HVV.out).mono ?_
      rintro e w3 ⟨rfl, hb3⟩
      replace z3 := (hb3.cell (p := ⟨w.heap.size, 3, none⟩) (by have := HBW.out.size; simp; omega)).trans z3
      replace HB2 := Lib.hid (HB2.out.trans (hb3.mono HB2.out.size))
      replace HBW := Lib.hid (HBW.out.trans (hb3.mono HBW.out.size))
      clear hb3 z0 z1 z2 z4 HVV
      cases hok : okTr T
      · have hk00 := HK0.out hok
        have HL := Lib.hid (show locF T t = -1 by unfold locF; rw [hok]; rfl)
        have HK00 := Lib.hid hk00
        clear hk00
        go_wp2_with fail
        go_ret
        exact ⟨ret_i64 (by rw [HL.out, HK00.out]; rfl), HB2.out⟩
      have HOK := Lib.hid (okTr_yes hok)
      obtain ⟨ao', c', e, hcc', H⟩ := HB3.out.below HB2.out
      simp only [Value.slice.injEq, true_and] at e
      obtain ⟨rfl, rfl⟩ := e
      obtain ⟨b', o', x, rfl, h0, h1, h2, h3, hx⟩ := H k hlt
      have dd := decS_bd HOK.out.2.1 (show k ≤ T.nS by omega)
      have ds := okSm_yes (HOK.out.2.1 k hlt)
      have hn : T.nS ≤ 4096 := HOK.out.1.2.2.2.2.1
      obtain ⟨s, hs⟩ : ∃ s, s = T.S k := ⟨_, rfl⟩
      rw [← hs] at h1 h2 h3 ds
      have s1 := ds.2.1
      have s2 := ds.2.2.1
      rw [← ED.out] at dd
      have dd1 := dd.1
      have dd2 : D ≤ 68719476736 := by omega
      have ES := Lib.hid hs
      have HOKB := Lib.hid hok
      have hstep : decS T.S (k + 1) = D + s.dur := by simp only [decS]; rw [← hs, ← ED.out]
      have HST := Lib.hid hstep
      clear H hx hs dd ds hstep hok
      cases hsy : s.sync
      · have HLI := Lib.hid (show locI T.S t (k + 1) = locI T.S t k by simp only [locI]; rw [← ES.out, if_neg (by simp [hsy])])
        rw [hsy] at h3
        go_wp2_with fail
        go_roundw
        case rel => exact ⟨k + 1, by omega, by go_num, fun h => by (rw [HOKB.out] at h; cases h), by rw [HLI.out], by rw [HST.out], HBW.out⟩
        case measure => simp [intOf]; omega
      · rw [hsy] at h3
        by_cases hle : D ≤ t
        · have HLI := Lib.hid (show locI T.S t (k + 1) = (k : Int) by simp only [locI]; rw [← ES.out, ← ED.out, if_pos ⟨hsy, hle⟩])
          clear hsy
          go_wp2_with fail
          go_roundw
          case rel => exact ⟨k + 1, by omega, by go_num, fun h => by (rw [HOKB.out] at h; cases h), by rw [HLI.out], by rw [HST.out], HBW.out⟩
          case measure => simp [intOf]; omega
        · have HLI := Lib.hid (show locI T.S t (k + 1) = locI T.S t k by simp only [locI]; rw [← ES.out, ← ED.out, if_neg (fun h => hle h.2)])
          clear hsy
          go_wp2_with fail
          go_roundw
          case rel => exact ⟨k + 1, by omega, by go_num, fun h => by (rw [HOKB.out] at h; cases h), by rw [HLI.out], by rw [HST.out], HBW.out⟩
          case measure => simp [intOf]; omega
    · obtain rfl : k = T.nS := by omega
      have HL := Lib.hid (show locF T t = locI T.S t T.nS by
        unfold locF
        cases hok : okTr T
        · have h0 := HK0.out hok
          rw [h0]; rfl
        · rfl)
      go_wp2_with fail
      go_ret
      exact ⟨ret_i64 HL.out.symm, HB2.out⟩

end Go.Proofs.Ytkhjkemllgjfmaa
