/- The contracts of Valid, both: files. -/
import Derived.Test.YtkhjkemllgjfmaaJ
namespace Go.Proofs.Ytkhjkemllgjfmaa
open Go.RowKit
set_option linter.unusedVariables false

theorem okFl_head {F : Fl} (h : ¬ (1 ≤ F.sc ∧ F.sc ≤ 16777216 ∧ F.nT ≤ 4)) : okFl F = false := by
  unfold okFl; rw [show decide (1 ≤ F.sc ∧ F.sc ≤ 16777216 ∧ F.nT ≤ 4) = false by simpa using h]; simp
theorem okFl_tr {F : Fl} {i : Nat} (hi : i < F.nT) (h : okTr (F.T i) = false) : okFl F = false := by
  unfold okFl; rw [all_range_no hi h]; simp
theorem okFl_yes {F : Fl} (h : okFl F = true) : (1 ≤ F.sc ∧ F.sc ≤ 16777216 ∧ F.nT ≤ 4) ∧ ∀ i, i < F.nT → okTr (F.T i) = true := by
  unfold okFl at h
  simp only [Bool.and_eq_true, decide_eq_true_eq, all_range] at h
  exact h
/-- A track in its place, as a value. -/
theorem TSA.at {w : World} {ao : Option Addr} {n c : Nat} {T : Nat → Tr} (h : TSA w (.slice ao n c) n T) {k : Nat} (hk : k < n) : ∃ b o a2 d2 a3 d3 a4 d4, ao = some ⟨b, o, none⟩ ∧ w.cell? ⟨b, o + k * 5, none⟩ = some (.string (T k).h) ∧ w.cell? ⟨b, o + k * 5 + 1, none⟩ = some (.int .i64 (T k).sc) ∧ w.cell? ⟨b, o + k * 5 + 2, none⟩ = some (.slice a2 (T k).nC d2) ∧ w.cell? ⟨b, o + k * 5 + 3, none⟩ = some (.slice a3 (T k).nS d3) ∧ w.cell? ⟨b, o + k * 5 + 4, none⟩ = some (.slice a4 (T k).nE d4) ∧
    TA w (.agg #[.string (T k).h, .int .i64 (T k).sc, .slice a2 (T k).nC d2, .slice a3 (T k).nS d3, .slice a4 (T k).nE d4]) (T k) := by
  obtain ⟨ao', c', e, _, H⟩ := h
  simp only [Value.slice.injEq, true_and] at e
  obtain ⟨rfl, rfl⟩ := e
  obtain ⟨b, o, c0, c1, c2, c3, c4, rfl, t0, t1, t2, t3, t4, hc⟩ := H k hk
  obtain ⟨rfl, rfl, b2, b3, b4⟩ := hc
  obtain ⟨a2, d2, rfl⟩ := b2.shape
  obtain ⟨a3, d3, rfl⟩ := b3.shape
  obtain ⟨a4, d4, rfl⟩ := b4.shape
  exact ⟨b, o, a2, d2, a3, d3, a4, d4, rfl, t0, t1, t2, t3, t4, ⟨_, _, _, _, _, rfl, ⟨rfl, rfl, b2, b3, b4⟩⟩⟩

set_option maxRecDepth 100000 in
set_option maxHeartbeats 4000000 in
theorem validF_any (v : Value) (F : Fl) (w : World) (hv : FA w v F) (hm : F.nT ≤ 9223372036854775807) :
    Calls Try.prog 23 #[v] w fun e w' => e = .returned (.bool (okFl F)) ∧ Below w.heap.size w w' := by
  obtain ⟨ts, rfl, hts⟩ := hv
  obtain ⟨ao, c, rfl⟩ := hts.shape
  have HT := Lib.hid hts
  clear hts
  cases q1 : wB F.sc 1 16777216
  · have HL := Lib.hid (okFl_head (F := F) (by have := wB_no q1; omega))
    go_enter Try.func23, Try.ntmps23
    go_wp2_with (go_at_call 46; refine (within_any _ _ _ _).mono ?_; rintro e w' ⟨rfl, rfl⟩)
    go_ret
    exact ⟨ret_bool HL.out.symm, below_box _ _⟩
  have HQ1 := Lib.hid (wB_yes q1)
  by_cases q2 : 4 < F.nT
  · have HL := Lib.hid (okFl_head (F := F) (by omega))
    have k2 : (4 : Int) < (F.nT : Int) := by omega
    have k2' : decide (4 < F.nT) = true := by simpa using q2
    go_enter Try.func23, Try.ntmps23
    go_wp2_with (go_at_call 46; refine (within_any _ _ _ _).mono ?_; rintro e w' ⟨rfl, rfl⟩)
    go_ret
    exact ⟨ret_bool HL.out.symm, below_box _ _⟩
  have k2 : ¬ (4 : Int) < (F.nT : Int) := by omega
  have k2' : decide (4 < F.nT) = false := by simpa using q2
  go_enter Try.func23, Try.ntmps23
  go_wp2_with (go_at_call 46; refine (within_any _ _ _ _).mono ?_; rintro e w' ⟨rfl, rfl⟩)
  obtain ⟨w1, hw⟩ : ∃ x, x = w.alloc (.cells #[.int .i64 F.sc, .slice ao F.nT c] 56) := ⟨_, rfl⟩
  rw [← hw]
  have hE : Below w.heap.size w w1 := by rw [hw]; exact below_box _ _
  have y1 : w1.cell? ⟨w.heap.size, 1, none⟩ = some (.slice ao F.nT c) := by rw [hw]; simp [go_sem]
  have hs1 : w.heap.size < w1.heap.size := by rw [hw]; simp
  have HB := Lib.hid hE
  clear hw hE
  go_loopw [18] (fun i wr => ∃ k : Nat, k ≤ F.nT ∧ i = .int .i64 (k : Int) ∧ Below w1.heap.size w1 wr ∧ Hid (∀ i, i < k → okTr (F.T i) = true)) (fun i _ => F.nT - (intOf i).toNat)
  case atStart => exact ⟨0, Nat.zero_le _, rfl, Below.refl _ _, Lib.hid (fun i hi => absurd hi (Nat.not_lt_zero i))⟩
  case round =>
    obtain ⟨k, hk, rfl, hb, HA⟩ := hrel
    have z1 := (hb.cell (p := ⟨w.heap.size, 1, none⟩) hs1).trans y1
    have HBW := Lib.hid hb
    have HB2 := Lib.hid (HB.out.trans (hb.mono HB.out.size))
    clear hb
    by_cases hlt : k < F.nT
    · obtain ⟨b, o, a2, d2, a3, d3, a4, d4, rfl, t0, t1, t2, t3, t4, hta⟩ := (HT.out.below HB2.out).at hlt
      have TT := Lib.hid (hta.below (below_box wr (.cells #[.string (F.T k).h, .int .i64 (F.T k).sc, .slice a2 (F.T k).nC d2, .slice a3 (F.T k).nS d3, .slice a4 (F.T k).nE d4] 43)))
      clear hta
      go_wp2_with fail
      refine (valid_any _ (F.T k) _ TT.out).mono ?_
      rintro e w3 ⟨rfl, hb3⟩
      have hb3' : Below wr.heap.size wr w3 := (below_box _ _).trans (hb3.mono (by simp))
      have HB3 := Lib.hid (HB2.out.trans (hb3'.mono HB2.out.size))
      have HBW3 := Lib.hid (HBW.out.trans (hb3'.mono HBW.out.size))
      clear hb3 hb3' t0 t1 t2 t3 t4 TT z1
      cases hok : okTr (F.T k)
      · have HL := Lib.hid (okFl_tr hlt hok)
        go_wp2_with fail
        go_ret
        exact ⟨ret_bool HL.out.symm, HB3.out⟩
      · have HA2 := Lib.hid (all_step (p := fun i => okTr (F.T i)) HA.out hok)
        go_wp2_with fail
        go_roundw
        case rel => exact ⟨k + 1, by omega, by go_num, HBW3.out, HA2⟩
        case measure => simp [intOf]; omega
    · obtain rfl : k = F.nT := by omega
      have HL := Lib.hid (show okFl F = true by
        unfold okFl
        simp only [Bool.and_eq_true, decide_eq_true_eq, all_range]
        exact ⟨⟨HQ1.out.1, HQ1.out.2, by omega⟩, HA.out⟩)
      go_wp2_with fail
      go_ret
      exact ⟨ret_bool HL.out.symm, HB2.out⟩

set_option maxRecDepth 100000 in
set_option maxHeartbeats 4000000 in
theorem rvalidF_any (v : Value) (F : Fl) (w : World) (hv : FA w v F) (hm : F.nT ≤ 9223372036854775807) :
    Calls Try.prog 20 #[v] w fun e w' => e = .returned (.bool (okFl F)) ∧ Below w.heap.size w w' := by
  obtain ⟨ts, rfl, hts⟩ := hv
  obtain ⟨ao, c, rfl⟩ := hts.shape
  have HT := Lib.hid hts
  clear hts
  cases q1 : wB F.sc 1 16777216
  · have HL := Lib.hid (okFl_head (F := F) (by have := wB_no q1; omega))
    go_enter Try.func20, Try.ntmps20
    go_wp2_with (go_at_call 36; refine (rwithin_any _ _ _ _).mono ?_; rintro e w' ⟨rfl, rfl⟩)
    go_ret
    exact ⟨ret_bool HL.out.symm, below_box _ _⟩
  have HQ1 := Lib.hid (wB_yes q1)
  by_cases q2 : 4 < F.nT
  · have HL := Lib.hid (okFl_head (F := F) (by omega))
    have k2 : (4 : Int) < (F.nT : Int) := by omega
    have k2' : decide (4 < F.nT) = true := by simpa using q2
    go_enter Try.func20, Try.ntmps20
    go_wp2_with (go_at_call 36; refine (rwithin_any _ _ _ _).mono ?_; rintro e w' ⟨rfl, rfl⟩)
    go_ret
    exact ⟨ret_bool HL.out.symm, below_box _ _⟩
  have k2 : ¬ (4 : Int) < (F.nT : Int) := by omega
  have k2' : decide (4 < F.nT) = false := by simpa using q2
  go_enter Try.func20, Try.ntmps20
  go_wp2_with (go_at_call 36; refine (rwithin_any _ _ _ _).mono ?_; rintro e w' ⟨rfl, rfl⟩)
  obtain ⟨w1, hw⟩ : ∃ x, x = w.alloc (.cells #[.int .i64 F.sc, .slice ao F.nT c] 37) := ⟨_, rfl⟩
  rw [← hw]
  have hE : Below w.heap.size w w1 := by rw [hw]; exact below_box _ _
  have y1 : w1.cell? ⟨w.heap.size, 1, none⟩ = some (.slice ao F.nT c) := by rw [hw]; simp [go_sem]
  have hs1 : w.heap.size < w1.heap.size := by rw [hw]; simp
  have HB := Lib.hid hE
  clear hw hE
  go_loopw [3] (fun i wr => ∃ k : Nat, k ≤ F.nT ∧ i = .int .i64 (k : Int) ∧ Below w1.heap.size w1 wr ∧ Hid (∀ i, i < k → okTr (F.T i) = true)) (fun i _ => F.nT - (intOf i).toNat)
  case atStart => exact ⟨0, Nat.zero_le _, rfl, Below.refl _ _, Lib.hid (fun i hi => absurd hi (Nat.not_lt_zero i))⟩
  case round =>
    obtain ⟨k, hk, rfl, hb, HA⟩ := hrel
    have z1 := (hb.cell (p := ⟨w.heap.size, 1, none⟩) hs1).trans y1
    have HBW := Lib.hid hb
    have HB2 := Lib.hid (HB.out.trans (hb.mono HB.out.size))
    clear hb
    by_cases hlt : k < F.nT
    · obtain ⟨b, o, a2, d2, a3, d3, a4, d4, rfl, t0, t1, t2, t3, t4, hta⟩ := (HT.out.below HB2.out).at hlt
      have TT := Lib.hid (hta.below (Below.refl wr.heap.size wr))
      clear hta
      go_wp2_with fail
      refine (rvalid_any _ (F.T k) _ TT.out).mono ?_
      rintro e w3 ⟨rfl, hb3⟩
      have hb3' : Below wr.heap.size wr w3 := hb3
      have HB3 := Lib.hid (HB2.out.trans (hb3'.mono HB2.out.size))
      have HBW3 := Lib.hid (HBW.out.trans (hb3'.mono HBW.out.size))
      clear hb3 hb3' t0 t1 t2 t3 t4 TT z1
      cases hok : okTr (F.T k)
      · have HL := Lib.hid (okFl_tr hlt hok)
        go_wp2_with fail
        go_ret
        exact ⟨ret_bool HL.out.symm, HB3.out⟩
      · have HA2 := Lib.hid (all_step (p := fun i => okTr (F.T i)) HA.out hok)
        go_wp2_with fail
        go_roundw
        case rel => exact ⟨k + 1, by omega, by go_num, HBW3.out, HA2⟩
        case measure => simp [intOf]; omega
    · obtain rfl : k = F.nT := by omega
      have HL := Lib.hid (show okFl F = true by
        unfold okFl
        simp only [Bool.and_eq_true, decide_eq_true_eq, all_range]
        exact ⟨⟨HQ1.out.1, HQ1.out.2, by omega⟩, HA.out⟩)
      go_wp2_with fail
      go_ret
      exact ⟨ret_bool HL.out.symm, HB2.out⟩

end Go.Proofs.Ytkhjkemllgjfmaa
