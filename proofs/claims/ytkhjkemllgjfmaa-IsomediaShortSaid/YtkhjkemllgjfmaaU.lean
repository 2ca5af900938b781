/- The contract of cutroomlaw18.IsomediaTimes: it answers true. -/
import Derived.Test.YtkhjkemllgjfmaaT
import Derived.Test.YtkhjkemllgjfmaaM
namespace Go.Proofs.Ytkhjkemllgjfmaa
open Go.RowKit
set_option linter.unusedVariables false

/-- Two slices of numbers that hold the same. -/
def Same1 (w : World) (n : Nat) (a1 a2 : Option Addr) : Prop := ∀ i, i < n → ∃ g1 g2 z, a1 = some ⟨g1, 0, none⟩ ∧ a2 = some ⟨g2, 0, none⟩ ∧ w.cell? ⟨g1, i, none⟩ = some (.int .i64 z) ∧ w.cell? ⟨g2, i, none⟩ = some (.int .i64 z)
theorem row_zero {w : World} {B E : Nat} {v : Value} {xs : List Value} (r1 : w.ownsRow B E 1 v 0 xs) : ∃ a m, v = .slice a 0 m := by
  rcases r1.2 with ⟨rfl, _⟩ | ⟨g, cap, cur, rfl, _⟩
  · exact ⟨_, _, rfl⟩
  · exact ⟨_, _, rfl⟩
theorem both_times (wa w1 wb w2 : World) (F : Fl) (kk : Int) (e1 e2 : Ending) (hab : Below w1.heap.size w1 wb) (h1 : PresPost wa F kk e1 w1) (h2 : PresPost wb F kk e2 w2) :
    ∃ c m a1 c1 a2 c2, e1 = .returned (.tuple #[.slice a1 m c1, .int .i64 c]) ∧ e2 = .returned (.tuple #[.slice a2 m c2, .int .i64 c]) ∧ m ≤ 4096 ∧ Below wa.heap.size wa w1 ∧ Below wb.heap.size wb w2 ∧ Same1 w2 m a1 a2 := by
  obtain ⟨v, c, rfl, hb, hr⟩ := h1
  obtain ⟨v', c', rfl, hb', hr'⟩ := h2
  by_cases hok : okFl F = false
  · rw [if_pos hok] at hr hr'
    obtain ⟨rfl, rfl⟩ := hr
    obtain ⟨rfl, rfl⟩ := hr'
    exact ⟨_, _, _, _, _, _, rfl, rfl, Nat.zero_le _, hb, hb', fun i hi => absurd hi (Nat.not_lt_zero i)⟩
  rw [if_neg hok] at hr hr'
  by_cases hk : kk < 0 ∨ (F.nT : Int) ≤ kk
  · rw [if_pos hk] at hr hr'
    obtain ⟨rfl, rfl⟩ := hr
    obtain ⟨rfl, rfl⟩ := hr'
    exact ⟨_, _, _, _, _, _, rfl, rfl, Nat.zero_le _, hb, hb', fun i hi => absurd hi (Nat.not_lt_zero i)⟩
  rw [if_neg hk] at hr hr'
  obtain ⟨rfl, ho⟩ := hr
  obtain ⟨rfl, ho'⟩ := hr'
  have hn : (F.T kk.toNat).nS ≤ 4096 := (okTr_yes ((okFl_yes (by simpa using hok)).2 kk.toNat (by omega))).1.2.2.2.2.1
  have hba : Below w1.heap.size w1 w2 := hab.trans (hb'.mono hab.size)
  replace ho := owns_below ho hba
  obtain ⟨m, hm⟩ : ∃ m, m = (F.T kk.toNat).nS := ⟨_, rfl⟩
  rw [← hm] at ho ho' hn
  rcases Nat.eq_zero_or_pos m with h0 | h0
  · subst h0
    obtain ⟨a1, m1, rfl⟩ := row_zero ho
    obtain ⟨a2, m2, rfl⟩ := row_zero ho'
    exact ⟨_, _, _, _, _, _, rfl, rfl, Nat.zero_le _, hb, hb', fun i hi => absurd hi (Nat.not_lt_zero i)⟩
  · obtain ⟨g1, c1, rfl, _, H1⟩ := owns_open ho h0
    obtain ⟨g2, c2, rfl, _, H2⟩ := owns_open ho' h0
    have hf : ∀ i, (timeL (F.T kk.toNat) F.sc i).length = 1 := fun i => rfl
    refine ⟨_, _, _, _, _, _, rfl, rfl, hn, hb, hb', fun i hi => ⟨g1, g2, timeV (F.T kk.toNat) F.sc i, rfl, rfl, ?_, ?_⟩⟩
    · exact H1 i _ (by have := rowsOf_at hf m i 0 hi (by omega); simpa [timeL] using this)
    · exact H2 i _ (by have := rowsOf_at hf m i 0 hi (by omega); simpa [timeL] using this)

theorem light_nT {F : Fl} (h : lightF F = true) : F.nT ≤ 6 := by
  unfold lightF at h
  simp only [Bool.and_eq_true, decide_eq_true_eq] at h
  exact h.1

set_option maxRecDepth 100000 in
set_option maxHeartbeats 4000000 in
theorem law_times (v : Value) (F : Fl) (kk : Int) (w : World) (hv : FA w v F) (hm : F.nT ≤ 9223372036854775807) :
    Calls Try.prog 5 #[v, .int .i64 kk] w fun e w' => e = .returned (.bool true) ∧ Below w.heap.size w w' := by
  have hv0 := hv
  obtain ⟨ts, rfl, hts⟩ := hv
  obtain ⟨ao, c, rfl⟩ := hts.shape
  have HV0 := Lib.hid hv0
  have HV := Lib.hid (hv0.below (below_box w (.cells #[.int .i64 F.sc, .slice ao F.nT c] 37)))
  clear hts hv0
  go_enter Try.func5, Try.ntmps5
  go_wp2_with fail
  refine (light_any _ F _ HV.out hm).mono ?_
  rintro e w1 ⟨rfl, hb⟩
  have y0 : w1.cell? ⟨w.heap.size, 0, none⟩ = some (.int .i64 F.sc) := (hb.cell (by simp)).trans (by simp [go_sem])
  have y1 : w1.cell? ⟨w.heap.size, 1, none⟩ = some (.slice ao F.nT c) := (hb.cell (by simp)).trans (by simp [go_sem])
  have HB := Lib.hid (show Below w.heap.size w w1 from (below_box _ _).trans (hb.mono (by simp)))
  clear hb HV
  cases hl : lightF F
  · go_wp2_with fail
    go_ret
    exact ⟨rfl, HB.out⟩
  have HL := Lib.hid hl
  clear hl
  go_wp2_with fail
  refine (given_any _ F w1 (HV0.out.below HB.out) (by have := light_nT HL.out; omega) (fun i hi => by have := light_at HL.out hi; omega)).mono ?_
  rintro e w2 ⟨r, rfl, hfa, hb⟩
  replace y0 := (hb.cell (block_lt_of_cell y0)).trans y0
  replace y1 := (hb.cell (block_lt_of_cell y1)).trans y1
  replace HB := Lib.hid (HB.out.trans (hb.mono HB.out.size))
  have HFA := Lib.hid hfa
  clear hb hfa
  go_wp2_with fail
  refine (pres_any r F kk w2 HFA.out (by have := light_nT HL.out; omega)).mono ?_
  intro e1 w3 h1
  have h1' := h1
  obtain ⟨v1, cc, rfl, hb, _⟩ := h1'
  replace y0 := (hb.cell (block_lt_of_cell y0)).trans y0
  replace y1 := (hb.cell (block_lt_of_cell y1)).trans y1
  have H1 := Lib.hid h1
  have HB3 := Lib.hid (HB.out.trans (hb.mono HB.out.size))
  clear hb h1
  go_wp2_with fail
  refine (rpres_any _ F kk w3 (HV0.out.below HB3.out) (by have := light_nT HL.out; omega)).mono ?_
  intro e2 w4 h2
  obtain ⟨c0, m, a1, c1, a2, c2, he1, rfl, hm0, hb1, hb2, hs⟩ := both_times w2 w3 w3 w4 F kk _ e2 (Below.refl _ _) H1.out h2
  simp only [Ending.returned.injEq, Value.tuple.injEq, Array.mk.injEq, List.cons.injEq, Value.int.injEq, true_and, and_true] at he1
  obtain ⟨rfl, rfl⟩ := he1
  replace HB := Lib.hid (HB3.out.trans (hb2.mono HB3.out.size))
  have HS := Lib.hid hs
  clear H1 h2 hb1 hb2 hs HB3 y0 y1
  go_wp2_with fail
  go_loopw [9] (fun i wr => ∃ j : Nat, j ≤ m ∧ i = .int .i64 (j : Int) ∧ Below w4.heap.size w4 wr) (fun i _ => m - (intOf i).toNat)
  case atStart => exact ⟨0, by omega, rfl, Below.refl _ _⟩
  case round =>
    obtain ⟨i, hi, rfl, hb⟩ := hrel
    by_cases hlt : i < m
    · obtain ⟨g1, g2, z, rfl, rfl, p0, q0⟩ := HS.out i hlt
      replace p0 := (hb.cell (block_lt_of_cell p0)).trans p0
      replace q0 := (hb.cell (block_lt_of_cell q0)).trans q0
      have HBW := Lib.hid hb
      clear hb
      go_wp2_with fail
      refine Plan.wp_region_plan (fun w' => w'.cell? ⟨g1, i, none⟩ = some (.int .i64 z) ∧ w'.cell? ⟨g2, i, none⟩ = some (.int .i64 z)) (([0, 1, 2, 3, 4, 5, 6, 7, 8].map (·, true))) (by kernel_rfl) (by kernel_rfl) (by kernel_rfl) ⟨p0, q0⟩ ?_
      refine' Plan.plan_seg _ [0, 1, 2, 3, 4, 5, 6, 7, 8] ([]) (by kernel_rfl) (by kernel_rfl) rfl (by exact ⟨p0, q0⟩) (fun wx hS => ?_) ?_
      rotate_left
      · obtain ⟨y0, y1⟩ := hS
        go_light
        iterate 9 (apply Plan.seg_pick; rfl; intro K hK; go_wp)
        exact Plan.seg_nil
      refine Plan.plan_done ?_
      go_wp2_with fail
      go_roundw
      case rel => exact ⟨i + 1, by omega, by go_num, HBW.out.drew⟩
      case measure => simp [intOf]; omega
    · obtain rfl : i = m := by omega
      have HBW := Lib.hid hb
      clear hb
      go_wp2_with fail
      refine (awake_any _).mono ?_
      rintro e wz ⟨rfl, hb5⟩
      have HB5 := Lib.hid hb5
      clear hb5
      go_wp2_with fail
      go_ret
      exact ⟨rfl, HB.out.trans ((HBW.out.trans (HB5.out.mono HBW.out.size)).mono HB.out.size)⟩

end Go.Proofs.Ytkhjkemllgjfmaa
