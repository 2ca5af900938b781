/- Texts of this claim joined: K O S T F I M U V W. -/
import Derived.Carry
import Derived.Maps.Own
import Derived.Test.YtkhjkemllgjfmaaBk00
import Derived.Test.YtkhjkemllgjfmaaBk01
set_option linter.unusedVariables false
set_option linter.unusedSimpArgs false

/- The contracts of Locate, both. -/
namespace Go.Proofs.Ytkhjkemllgjfmaa
open Go.RowKit
set_option linter.unusedVariables false

def decS (S : Nat → Sm) : Nat → Int
  | 0 => 0
  | k + 1 => decS S k + (S k).dur
def locI (S : Nat → Sm) (t : Int) : Nat → Int
  | 0 => -1
  | k + 1 => if (S k).sync = true ∧ decS S k ≤ t then (k : Int) else locI S t k
def locF (T : Tr) (t : Int) : Int := if okTr T = true then locI T.S t T.nS else -1
theorem okSm_yes {s : Sm} (h : okSm s = true) : s.n ≤ 1048576 ∧ 0 ≤ s.dur ∧ s.dur ≤ 16777216 ∧ 0 ≤ s.shift ∧ s.shift ≤ 16777216 := by simpa [okSm] using h
theorem okEd_yes {s : Ed} (h : okEd s = true) : 0 ≤ s.dur ∧ s.dur ≤ 2147483647 ∧ -1 ≤ s.time ∧ s.time ≤ 2147483647 := by simpa [okEd] using h
theorem okTr_yes {T : Tr} (h : okTr T = true) : (T.h.size = 4 ∧ 1 ≤ T.sc ∧ T.sc ≤ 16777216 ∧ T.nC ≤ 4096 ∧ T.nS ≤ 4096 ∧ T.nE ≤ 64) ∧ (∀ i, i < T.nS → okSm (T.S i) = true) ∧ ∀ i, i < T.nE → okEd (T.E i) = true := by
  unfold okTr at h
  simp only [Bool.and_eq_true, decide_eq_true_eq, all_range] at h
  exact ⟨h.1.1, h.1.2, h.2⟩
theorem decS_bd {S : Nat → Sm} {n k : Nat} (h : ∀ i, i < n → okSm (S i) = true) (hk : k ≤ n) : 0 ≤ decS S k ∧ decS S k ≤ (k : Int) * 16777216 := by
  induction k with
  | zero => simp [decS]
  | succ k ih =>
    have h1 := ih (by omega)
    have h2 := okSm_yes (h k (by omega))
    simp only [decS]
    omega

set_option maxRecDepth 100000 in
set_option maxHeartbeats 4000000 in
theorem locate_any (v : Value) (T : Tr) (t : Int) (w : World) (hv : TA w v T) :
    Calls Try.prog 14 #[v, .int .i64 t] w fun e w' => e = .returned (.int .i64 (locF T t)) ∧ Below w.heap.size w w' := by
  have hv0 := hv
  obtain ⟨c0, c1, c2, c3, c4, rfl, rfl, rfl, b2, b3, b4⟩ := hv
  obtain ⟨a2, d2, rfl⟩ := b2.shape
  obtain ⟨a3, d3, rfl⟩ := b3.shape
  obtain ⟨a4, d4, rfl⟩ := b4.shape
  have HB3 := Lib.hid b3
  have HV := Lib.hid (hv0.below (below_box w (.cells #[.string T.h, .int .i64 T.sc, .slice a2 T.nC d2, .slice a3 T.nS d3, .slice a4 T.nE d4] 43)))
  clear b2 b3 b4 hv0
  go_enter Try.func14, Try.ntmps14
  go_wp2_with fail
  refine (valid_any _ T _ HV.out).mono ?_
  rintro e w1 ⟨rfl, hb⟩
  have y3 : w1.cell? ⟨w.heap.size, 3, none⟩ = some (.slice a3 T.nS d3) := (hb.cell (by simp)).trans (by simp [go_sem])
  have hs1 : w.heap.size < w1.heap.size := by have := hb.size; simp at this; omega
  have HB := Lib.hid (show Below w.heap.size w w1 from (below_box _ _).trans (hb.mono (by simp)))
  clear hb HV
  cases hok : okTr T
  · have HL := Lib.hid (show locF T t = -1 by unfold locF; rw [hok]; rfl)
    go_wp2_with fail
    go_ret
    exact ⟨ret_i64 HL.out.symm, HB.out⟩
  have HOK := Lib.hid (okTr_yes hok)
  have HL := Lib.hid (show locF T t = locI T.S t T.nS by unfold locF; rw [hok]; rfl)
  go_wp2_with fail
  clear hok
  have hn : T.nS ≤ 4096 := HOK.out.1.2.2.2.2.1
  go_loopw [15, 5, 6] (fun i l d wr => ∃ k : Nat, k ≤ T.nS ∧ i = .int .i64 (k : Int) ∧ l = .int .i64 (locI T.S t k) ∧ d = .int .i64 (decS T.S k) ∧ Below w1.heap.size w1 wr) (fun i _ _ _ => T.nS - (intOf i).toNat)
  case atStart => exact ⟨0, Nat.zero_le _, rfl, rfl, rfl, Below.refl _ _⟩
  case round =>
    obtain ⟨k, hk, rfl, rfl, rfl, hb⟩ := hrel
    have z3 := (hb.cell (p := ⟨w.heap.size, 3, none⟩) hs1).trans y3
    have HBW := Lib.hid hb
    have HB2 := Lib.hid (HB.out.trans (hb.mono HB.out.size))
    clear hb
    by_cases hlt : k < T.nS
    · obtain ⟨ao', c', e, hcc', H⟩ := HB3.out.below HB2.out
      simp only [Value.slice.injEq, true_and] at e
      obtain ⟨rfl, rfl⟩ := e
      obtain ⟨b', o', x, rfl, h0, h1, h2, h3, hx⟩ := H k hlt
      obtain ⟨ax, dx, rfl⟩ := hx.shape
      have dd := decS_bd HOK.out.2.1 (show k ≤ T.nS by omega)
      have ds := okSm_yes (HOK.out.2.1 k hlt)
      obtain ⟨s, hs⟩ : ∃ s, s = T.S k := ⟨_, rfl⟩
      rw [← hs] at h0 h1 h2 h3 ds
      have s1 := ds.2.1
      have s2 := ds.2.2.1
      obtain ⟨D, hD⟩ : ∃ D, D = decS T.S k := ⟨_, rfl⟩
      rw [← hD] at dd ⊢
      have dd1 := dd.1
      have dd2 : D ≤ 68719476736 := by omega
      have ES := Lib.hid hs
      have ED := Lib.hid hD
      have hstep : decS T.S (k + 1) = D + s.dur := by simp only [decS]; rw [← hs, ← hD]
      have HST := Lib.hid hstep
      clear H hx hs hD dd ds hstep
      cases hsy : s.sync
      · have HLI := Lib.hid (show locI T.S t (k + 1) = locI T.S t k by simp only [locI]; rw [← ES.out, if_neg (by simp [hsy])])
        rw [hsy] at h3
        go_wp2_with fail
        go_roundw
        case rel => exact ⟨k + 1, by omega, by go_num, by rw [HLI.out], by rw [HST.out], HBW.out.alloc HBW.out.size _⟩
        case measure => simp [intOf]; omega
      · rw [hsy] at h3
        by_cases hle : D ≤ t
        · have HLI := Lib.hid (show locI T.S t (k + 1) = (k : Int) by simp only [locI]; rw [← ES.out, ← ED.out, if_pos ⟨hsy, hle⟩])
          clear hsy
          go_wp2_with fail
          go_roundw
          case rel => exact ⟨k + 1, by omega, by go_num, by rw [HLI.out], by rw [HST.out], HBW.out.alloc HBW.out.size _⟩
          case measure => simp [intOf]; omega
        · have HLI := Lib.hid (show locI T.S t (k + 1) = locI T.S t k by simp only [locI]; rw [← ES.out, ← ED.out, if_neg (fun h => hle h.2)])
          clear hsy
          go_wp2_with fail
          go_roundw
          case rel => exact ⟨k + 1, by omega, by go_num, by rw [HLI.out], by rw [HST.out], HBW.out.alloc HBW.out.size _⟩
          case measure => simp [intOf]; omega
    · obtain rfl : k = T.nS := by omega
      go_wp2_with fail
      go_ret
      exact ⟨ret_i64 HL.out.symm, HB2.out⟩

set_option maxRecDepth 100000 in
set_option maxHeartbeats 4000000 in
theorem rlocate_any (v : Value) (T : Tr) (t : Int) (w : World) (hv : TA w v T) (hm : T.nS ≤ 9223372036854775807) :
    Calls Try.prog 16 #[v, .int .i64 t] w fun e w' => e = .returned (.int .i64 (locF T t)) ∧ Below w.heap.size w w' := by
  have hv0 := hv
  obtain ⟨c0, c1, c2, c3, c4, rfl, rfl, rfl, b2, b3, b4⟩ := hv
  obtain ⟨a2, d2, rfl⟩ := b2.shape
  obtain ⟨a3, d3, rfl⟩ := b3.shape
  obtain ⟨a4, d4, rfl⟩ := b4.shape
  have HB3 := Lib.hid b3
  have HV := Lib.hid hv0
  clear b2 b3 b4 hv0
  go_enter Try.func16, Try.ntmps16
  go_wp2_with fail
  obtain ⟨w1, hw⟩ : ∃ x, x = w.alloc (.cells #[.string T.h, .int .i64 T.sc, .slice a2 T.nC d2, .slice a3 T.nS d3, .slice a4 T.nE d4] 48) := ⟨_, rfl⟩
  rw [← hw]
  have hE : Below w.heap.size w w1 := by rw [hw]; exact below_box _ _
  have y0 : w1.cell? ⟨w.heap.size, 0, none⟩ = some (.string T.h) := by rw [hw]; simp [go_sem]
  have y1 : w1.cell? ⟨w.heap.size, 1, none⟩ = some (.int .i64 T.sc) := by rw [hw]; simp [go_sem]
  have y2 : w1.cell? ⟨w.heap.size, 2, none⟩ = some (.slice a2 T.nC d2) := by rw [hw]; simp [go_sem]
  have y3 : w1.cell? ⟨w.heap.size, 3, none⟩ = some (.slice a3 T.nS d3) := by rw [hw]; simp [go_sem]
  have y4 : w1.cell? ⟨w.heap.size, 4, none⟩ = some (.slice a4 T.nE d4) := by rw [hw]; simp [go_sem]
  have hs1 : w.heap.size < w1.heap.size := by rw [hw]; simp
  have HB := Lib.hid hE
  have HY := Lib.hid (And.intro y0 (And.intro y1 (And.intro y2 (And.intro y3 y4))))
  clear hw hE y0 y1 y2 y3 y4
  go_loopw [7, 5, 6] (fun i d l wr => ∃ k : Nat, k ≤ T.nS ∧ i = .int .i64 (k : Int) ∧ (okTr T = false → k = 0) ∧ l = .int .i64 (locI T.S t k) ∧ d = .int .i64 (decS T.S k) ∧ Below w1.heap.size w1 wr) (fun i _ _ _ => T.nS - (intOf i).toNat)
  case atStart => exact ⟨0, Nat.zero_le _, rfl, fun _ => rfl, rfl, rfl, Below.refl _ _⟩
  case round =>
    obtain ⟨k, hk, rfl, hk0, rfl, rfl, hb⟩ := hrel
    have HK0 := Lib.hid hk0
    have z0 := (hb.cell (p := ⟨w.heap.size, 0, none⟩) hs1).trans HY.out.1
    have z1 := (hb.cell (p := ⟨w.heap.size, 1, none⟩) hs1).trans HY.out.2.1
    have z2 := (hb.cell (p := ⟨w.heap.size, 2, none⟩) hs1).trans HY.out.2.2.1
    have z3 := (hb.cell (p := ⟨w.heap.size, 3, none⟩) hs1).trans HY.out.2.2.2.1
    have z4 := (hb.cell (p := ⟨w.heap.size, 4, none⟩) hs1).trans HY.out.2.2.2.2
    have HBW := Lib.hid hb
    have HB2 := Lib.hid (HB.out.trans (hb.mono HB.out.size))
    clear hb hk0
    by_cases hlt : k < T.nS
    · have HVV := Lib.hid (HV.out.below HB2.out)
      obtain ⟨D, hD⟩ : ∃ D, D = decS T.S k := ⟨_, rfl⟩
      rw [← hD]
      have ED := Lib.hid hD
      clear hD
      go_wp2_with fail
      refine (rvalid_any _ T _ HVV.out).mono ?_
      rintro e w3 ⟨rfl, hb3⟩
      replace z3 := (hb3.cell (p := ⟨w.heap.size, 3, none⟩) (by have := HBW.out.size; simp; omega)).trans z3
      replace HB2 := Lib.hid (HB2.out.trans (hb3.mono HB2.out.size))
      replace HBW := Lib.hid (HBW.out.trans (hb3.mono HBW.out.size))
      clear hb3 z0 z1 z2 z4 HVV
      cases hok : okTr T
      · have hk00 := HK0.out hok
        have HL := Lib.hid (show locF T t = -1 by unfold locF; rw [hok]; rfl)
        have HK00 := Lib.hid hk00
        clear hk00
        go_wp2_with fail
        go_ret
        exact ⟨ret_i64 (by rw [HL.out, HK00.out]; rfl), HB2.out⟩
      have HOK := Lib.hid (okTr_yes hok)
      obtain ⟨ao', c', e, hcc', H⟩ := HB3.out.below HB2.out
      simp only [Value.slice.injEq, true_and] at e
      obtain ⟨rfl, rfl⟩ := e
      obtain ⟨b', o', x, rfl, h0, h1, h2, h3, hx⟩ := H k hlt
      have dd := decS_bd HOK.out.2.1 (show k ≤ T.nS by omega)
      have ds := okSm_yes (HOK.out.2.1 k hlt)
      have hn : T.nS ≤ 4096 := HOK.out.1.2.2.2.2.1
      obtain ⟨s, hs⟩ : ∃ s, s = T.S k := ⟨_, rfl⟩
      rw [← hs] at h1 h2 h3 ds
      have s1 := ds.2.1
      have s2 := ds.2.2.1
      rw [← ED.out] at dd
      have dd1 := dd.1
      have dd2 : D ≤ 68719476736 := by omega
      have ES := Lib.hid hs
      have HOKB := Lib.hid hok
      have hstep : decS T.S (k + 1) = D + s.dur := by simp only [decS]; rw [← hs, ← ED.out]
      have HST := Lib.hid hstep
      clear H hx hs dd ds hstep hok
      cases hsy : s.sync
      · have HLI := Lib.hid (show locI T.S t (k + 1) = locI T.S t k by simp only [locI]; rw [← ES.out, if_neg (by simp [hsy])])
        rw [hsy] at h3
        go_wp2_with fail
        go_roundw
        case rel => exact ⟨k + 1, by omega, by go_num, fun h => by (rw [HOKB.out] at h; cases h), by rw [HLI.out], by rw [HST.out], HBW.out⟩
        case measure => simp [intOf]; omega
      · rw [hsy] at h3
        by_cases hle : D ≤ t
        · have HLI := Lib.hid (show locI T.S t (k + 1) = (k : Int) by simp only [locI]; rw [← ES.out, ← ED.out, if_pos ⟨hsy, hle⟩])
          clear hsy
          go_wp2_with fail
          go_roundw
          case rel => exact ⟨k + 1, by omega, by go_num, fun h => by (rw [HOKB.out] at h; cases h), by rw [HLI.out], by rw [HST.out], HBW.out⟩
          case measure => simp [intOf]; omega
        · have HLI := Lib.hid (show locI T.S t (k + 1) = locI T.S t k by simp only [locI]; rw [← ES.out, ← ED.out, if_neg (fun h => hle h.2)])
          clear hsy
          go_wp2_with fail
          go_roundw
          case rel => exact ⟨k + 1, by omega, by go_num, fun h => by (rw [HOKB.out] at h; cases h), by rw [HLI.out], by rw [HST.out], HBW.out⟩
          case measure => simp [intOf]; omega
    · obtain rfl : k = T.nS := by omega
      have HL := Lib.hid (show locF T t = locI T.S t T.nS by
        unfold locF
        cases hok : okTr T
        · have h0 := HK0.out hok
          rw [h0]; rfl
        · rfl)
      go_wp2_with fail
      go_ret
      exact ⟨ret_i64 HL.out.symm, HB2.out⟩

end Go.Proofs.Ytkhjkemllgjfmaa

/- The contracts of presented and shown: when a sample is displayed. -/
namespace Go.Proofs.Ytkhjkemllgjfmaa
open Go.RowKit
set_option linter.unusedVariables false

def begE (E : Nat → Ed) : Nat → Int
  | 0 => 0
  | k + 1 => begE E k + (E k).dur
def hitE (T : Tr) (d sc : Int) (i : Nat) : Bool := decide (0 ≤ (T.E i).time ∧ (T.E i).time ≤ d ∧ (d - (T.E i).time) * sc / T.sc < (T.E i).dur)
def showF (T : Tr) (d sc : Int) : Int := if T.nE = 0 then d * sc / T.sc else match (List.range T.nE).find? (hitE T d sc) with
  | some i => begE T.E i + (d - (T.E i).time) * sc / T.sc
  | none => -1
theorem showF_zero {T : Tr} {d sc : Int} (h : T.nE = 0) : showF T d sc = d * sc / T.sc := by unfold showF; rw [if_pos h]
theorem showF_hit {T : Tr} {d sc : Int} {k : Nat} (hk : k < T.nE) (ho : ∀ j, j < k → hitE T d sc j = false) (h : hitE T d sc k = true) : showF T d sc = begE T.E k + (d - (T.E k).time) * sc / T.sc := by
  have : (List.range T.nE).find? (hitE T d sc) = some k := by
    rw [List.find?_range_eq_some]
    exact ⟨h, by simpa using hk, fun j hj => by simp [ho j hj]⟩
  unfold showF; rw [if_neg (by omega), this]
theorem showF_none {T : Tr} {d sc : Int} (hn : T.nE ≠ 0) (ho : ∀ j, j < T.nE → hitE T d sc j = false) : showF T d sc = -1 := by
  have : (List.range T.nE).find? (hitE T d sc) = none := by
    rw [List.find?_eq_none]
    intro j hj
    simp [ho j (by simpa using hj)]
  unfold showF; rw [if_neg hn, this]
theorem begE_bd {E : Nat → Ed} {n k : Nat} (h : ∀ i, i < n → okEd (E i) = true) (hk : k ≤ n) : 0 ≤ begE E k ∧ begE E k ≤ (k : Int) * 2147483647 := by
  induction k with
  | zero => simp [begE]
  | succ k ih =>
    have h1 := ih (by omega)
    have h2 := okEd_yes (h k (by omega))
    simp only [begE]
    omega
theorem mul_in {a b : Int} (ha : 0 ≤ a) (ha2 : a ≤ 137438953472) (hb : 0 ≤ b) (hb2 : b ≤ 16777216) : IntKind.i64.wrap (a * b) = a * b ∧ 0 ≤ a * b ∧ a * b ≤ 2305843009213693952 := by
  have h1 : 0 ≤ a * b := Int.mul_nonneg ha hb
  have h2 : a * b ≤ 137438953472 * 16777216 := Int.mul_le_mul ha2 hb2 hb (by omega)
  exact ⟨IntWalk.i64_in _ (by omega), h1, by omega⟩
theorem no_step {T : Tr} {d sc : Int} {k : Nat} (h : ∀ j, j < k → hitE T d sc j = false) (hk : hitE T d sc k = false) : ∀ j, j < k + 1 → hitE T d sc j = false := by
  intro j hj
  by_cases e : j = k
  · subst e; exact hk
  · exact h j (by omega)

set_option maxRecDepth 100000 in
set_option maxHeartbeats 4000000 in
theorem presented_any (v : Value) (T : Tr) (d sc : Int) (w : World) (hv : TA w v T) (hok : okTr T = true) (hd : 0 ≤ d) (hd2 : d ≤ 137438953472) (hs : 1 ≤ sc) (hs2 : sc ≤ 16777216) :
    Calls Try.prog 34 #[v, .int .i64 d, .int .i64 sc] w fun e w' => e = .returned (.int .i64 (showF T d sc)) ∧ Below w.heap.size w w' := by
  obtain ⟨c0, c1, c2, c3, c4, rfl, rfl, rfl, b2, b3, b4⟩ := hv
  obtain ⟨a2, d2, rfl⟩ := b2.shape
  obtain ⟨a3, d3, rfl⟩ := b3.shape
  obtain ⟨a4, d4, rfl⟩ := b4.shape
  have HB4 := Lib.hid b4
  have ho := okTr_yes hok
  have HOK := Lib.hid ho
  have ts1 := ho.1.2.1
  have ts2 := ho.1.2.2.1
  have tn := ho.1.2.2.2.2.2
  clear b2 b3 b4 hok ho
  by_cases h0 : T.nE = 0
  · have HL := Lib.hid (showF_zero (d := d) (sc := sc) h0)
    obtain ⟨m1, m2, m3⟩ := mul_in hd hd2 (show 0 ≤ sc by omega) hs2
    have k0 : ((T.nE : Int) == 0) = true := by simp; omega
    have H0 := Lib.hid h0
    clear h0
    go_enter Try.func34, Try.ntmps34
    go_wp2_with fail
    go_ret
    exact ⟨ret_i64 HL.out.symm, below_box _ _⟩
  have k0 : ((T.nE : Int) == 0) = false := by simp; omega
  have hn0 : 0 < T.nE := by omega
  go_enter Try.func34, Try.ntmps34
  go_wp2_with fail
  obtain ⟨w1, hw⟩ : ∃ x, x = w.alloc (.cells #[.string T.h, .int .i64 T.sc, .slice a2 T.nC d2, .slice a3 T.nS d3, .slice a4 T.nE d4] 43) := ⟨_, rfl⟩
  rw [← hw]
  have hE : Below w.heap.size w w1 := by rw [hw]; exact below_box _ _
  have y1 : w1.cell? ⟨w.heap.size, 1, none⟩ = some (.int .i64 T.sc) := by rw [hw]; simp [go_sem]
  have y4 : w1.cell? ⟨w.heap.size, 4, none⟩ = some (.slice a4 T.nE d4) := by rw [hw]; simp [go_sem]
  have hs1 : w.heap.size < w1.heap.size := by rw [hw]; simp
  have HB := Lib.hid hE
  clear hw hE
  go_loopw [24, 7] (fun i g wr => ∃ k : Nat, k ≤ T.nE ∧ i = .int .i64 (k : Int) ∧ g = .int .i64 (begE T.E k) ∧ Below w1.heap.size w1 wr ∧ Hid (∀ j, j < k → hitE T d sc j = false)) (fun i _ _ => T.nE - (intOf i).toNat)
  case atStart => exact ⟨0, Nat.zero_le _, rfl, rfl, Below.refl _ _, Lib.hid (fun i hi => absurd hi (Nat.not_lt_zero i))⟩
  case round =>
    obtain ⟨k, hk, rfl, rfl, hb, HA⟩ := hrel
    have z1 := (hb.cell (p := ⟨w.heap.size, 1, none⟩) hs1).trans y1
    have z4 := (hb.cell (p := ⟨w.heap.size, 4, none⟩) hs1).trans y4
    have zs : w.heap.size < wr.heap.size := by have := hb.size; omega
    have zne : (w.heap.size == wr.heap.size) = false := by simp; omega
    have HBW := Lib.hid hb
    have HB2 := Lib.hid (HB.out.trans (hb.mono HB.out.size))
    clear hb
    by_cases hlt : k < T.nE
    · have gb := begE_bd HOK.out.2.2 (show k ≤ T.nE by omega)
      have es := okEd_yes (HOK.out.2.2 k hlt)
      obtain ⟨G, hG⟩ : ∃ G, G = begE T.E k := ⟨_, rfl⟩
      rw [← hG] at gb ⊢
      obtain ⟨ao', c', e, hcc', H⟩ := HB4.out.below HB2.out
      simp only [Value.slice.injEq, true_and] at e
      obtain ⟨rfl, rfl⟩ := e
      obtain ⟨b', o', rfl, h0', h1'⟩ := H k hlt
      obtain ⟨s, hs'⟩ : ∃ s, s = T.E k := ⟨_, rfl⟩
      rw [← hs'] at h0' h1' es
      have g1 := gb.1
      have g2 : G ≤ 137438953472 := by omega
      have e1 := es.1
      have e2 := es.2.1
      have e3 := es.2.2.1
      have hst : begE T.E (k + 1) = G + s.dur := by simp only [begE]; rw [← hs', ← hG]
      have HST := Lib.hid hst
      have EG := Lib.hid hG
      have ES := Lib.hid hs'
      clear H gb es hst hG hs'
      by_cases p1 : s.time < 0
      · have em : s.time = -1 := by omega
        have HN := Lib.hid (no_step HA.out (show hitE T d sc k = false by unfold hitE; rw [← ES.out]; simp; intro h; omega))
        have km : (s.time == -1) = true := by simp [em]
        have km' : (s.time != -1) = false := by simp [em]
        have HEM := Lib.hid em
        have kn : decide (0 ≤ s.time) = false := by simp; omega
        clear em
        go_wp2_with fail
        go_roundw
        case rel => exact ⟨k + 1, by omega, by go_num, by rw [HST.out], HBW.out.alloc HBW.out.size _, HN⟩
        case measure => simp [intOf]; omega
      have km : (s.time == -1) = false := by simp; omega
      have km' : (s.time != -1) = true := by simp; omega
      have kn : decide (0 ≤ s.time) = true := by simp; omega
      have kn' : 0 ≤ s.time := by omega
      by_cases p2 : d < s.time
      · have HN := Lib.hid (no_step HA.out (show hitE T d sc k = false by unfold hitE; rw [← ES.out]; simp; intro h1 h2; omega))
        have kp : decide (s.time ≤ d) = false := by simp; omega
        go_wp2_with fail
        go_roundw
        case rel => exact ⟨k + 1, by omega, by go_num, by rw [HST.out], HBW.out.alloc HBW.out.size _, HN⟩
        case measure => simp [intOf]; omega
      have p2' : s.time ≤ d := by omega
      have kp : decide (s.time ≤ d) = true := by simp; omega
      obtain ⟨m1, m2, m3⟩ := mul_in (show 0 ≤ d - s.time by omega) (by omega) (show 0 ≤ sc by omega) hs2
      obtain ⟨P, hP⟩ : ∃ P, (d - s.time) * sc / T.sc = P := ⟨_, rfl⟩
      have q1 : 0 ≤ P := by rw [← hP]; exact Int.ediv_nonneg m2 (by omega)
      have q2 : P ≤ 2305843009213693952 := by rw [← hP]; exact Int.le_trans (Int.ediv_le_self _ m2) m3
      have HPE := Lib.hid hP
      by_cases p3 : P < s.dur
      · have HL := Lib.hid (showF_hit hlt HA.out (show hitE T d sc k = true by unfold hitE; rw [← ES.out, HPE.out]; simp; omega))
        have HL2 := Lib.hid (show showF T d sc = G + P by rw [HL.out, ← ES.out, ← EG.out, HPE.out])
        go_wp2_with fail
        go_ret
        exact ⟨ret_i64 HL2.out.symm, HB2.out.alloc HB2.out.size _⟩
      · have HN := Lib.hid (no_step HA.out (show hitE T d sc k = false by unfold hitE; rw [← ES.out, HPE.out]; simp; intro h1 h2; omega))
        go_wp2_with fail
        go_roundw
        case rel => exact ⟨k + 1, by omega, by go_num, by rw [HST.out], HBW.out.alloc HBW.out.size _, HN⟩
        case measure => simp [intOf]; omega
    · obtain rfl : k = T.nE := by omega
      have HL := Lib.hid (showF_none (by omega) HA.out)
      go_wp2_with fail
      go_ret
      exact ⟨ret_i64 HL.out.symm, HB2.out⟩

set_option maxRecDepth 100000 in
set_option maxHeartbeats 4000000 in
theorem shown_any (v : Value) (T : Tr) (d sc : Int) (w : World) (x : Value) (hv : TA w v T) (hok : okTr T = true) (hd : 0 ≤ d) (hd2 : d ≤ 137438953472) (hs : 1 ≤ sc) (hs2 : sc ≤ 16777216) (hx : ∃ y, x = .agg #[.int .i64 sc, y] ∧ ∃ a n c, y = .slice a n c) :
    Calls Try.prog 35 #[x, v, .int .i64 d] w fun e w' => e = .returned (.int .i64 (showF T d sc)) ∧ Below w.heap.size w w' := by
  obtain ⟨c0, c1, c2, c3, c4, rfl, rfl, rfl, b2, b3, b4⟩ := hv
  obtain ⟨a2, d2, rfl⟩ := b2.shape
  obtain ⟨a3, d3, rfl⟩ := b3.shape
  obtain ⟨a4, d4, rfl⟩ := b4.shape
  have HB4 := Lib.hid b4
  have ho := okTr_yes hok
  have HOK := Lib.hid ho
  have ts1 := ho.1.2.1
  have ts2 := ho.1.2.2.1
  have tn := ho.1.2.2.2.2.2
  clear b2 b3 b4 hok ho
  obtain ⟨_, rfl, xa, xn, xc, rfl⟩ := hx
  by_cases h0 : T.nE = 0
  · have HL := Lib.hid (showF_zero (d := d) (sc := sc) h0)
    obtain ⟨m1, m2, m3⟩ := mul_in hd hd2 (show 0 ≤ sc by omega) hs2
    have k0 : ((T.nE : Int) == 0) = true := by simp; omega
    have H0 := Lib.hid h0
    clear h0
    go_enter Try.func35, Try.ntmps35
    go_wp2_with fail
    go_ret
    exact ⟨ret_i64 HL.out.symm, by go_grown⟩
  have k0 : ((T.nE : Int) == 0) = false := by simp; omega
  have hn0 : 0 < T.nE := by omega
  go_enter Try.func35, Try.ntmps35
  go_wp2_with fail
  obtain ⟨w1, hw⟩ : ∃ x, x = (w.alloc (.cells #[.int .i64 sc, .slice xa xn xc] 37)).alloc (.cells #[.string T.h, .int .i64 T.sc, .slice a2 T.nC d2, .slice a3 T.nS d3, .slice a4 T.nE d4] 48) := ⟨_, rfl⟩
  rw [← hw]
  have hE : Below w.heap.size w w1 := by rw [hw]; go_grown
  have y1 : w1.cell? ⟨(w.heap.size + 1), 1, none⟩ = some (.int .i64 T.sc) := by rw [hw]; simp [go_sem]
  have y4 : w1.cell? ⟨(w.heap.size + 1), 4, none⟩ = some (.slice a4 T.nE d4) := by rw [hw]; simp [go_sem]
  have x0 : w1.cell? ⟨w.heap.size, 0, none⟩ = some (.int .i64 sc) := by rw [hw]; simp [go_sem]
  have hs1 : (w.heap.size + 1) < w1.heap.size := by rw [hw]; simp
  have HB := Lib.hid hE
  clear hw hE
  go_loopw [8, 7] (fun i g wr => ∃ k : Nat, k ≤ T.nE ∧ i = .int .i64 (k : Int) ∧ g = .int .i64 (begE T.E k) ∧ Below w1.heap.size w1 wr ∧ Hid (∀ j, j < k → hitE T d sc j = false)) (fun i _ _ => T.nE - (intOf i).toNat)
  case atStart => exact ⟨0, Nat.zero_le _, rfl, rfl, Below.refl _ _, Lib.hid (fun i hi => absurd hi (Nat.not_lt_zero i))⟩
  case round =>
    obtain ⟨k, hk, rfl, rfl, hb, HA⟩ := hrel
    have z1 := (hb.cell (p := ⟨(w.heap.size + 1), 1, none⟩) hs1).trans y1
    have z4 := (hb.cell (p := ⟨(w.heap.size + 1), 4, none⟩) hs1).trans y4
    have zx := (hb.cell (p := ⟨w.heap.size, 0, none⟩) (by simp; omega)).trans x0
    have zs : (w.heap.size + 1) < wr.heap.size := by have := hb.size; omega
    have zs0 : w.heap.size < wr.heap.size := by omega
    have zne : ((w.heap.size + 1) == wr.heap.size) = false := by simp; omega
    have HBW := Lib.hid hb
    have HB2 := Lib.hid (HB.out.trans (hb.mono HB.out.size))
    clear hb
    by_cases hlt : k < T.nE
    · have gb := begE_bd HOK.out.2.2 (show k ≤ T.nE by omega)
      have es := okEd_yes (HOK.out.2.2 k hlt)
      obtain ⟨G, hG⟩ : ∃ G, G = begE T.E k := ⟨_, rfl⟩
      rw [← hG] at gb ⊢
      obtain ⟨ao', c', e, hcc', H⟩ := HB4.out.below HB2.out
      simp only [Value.slice.injEq, true_and] at e
      obtain ⟨rfl, rfl⟩ := e
      obtain ⟨b', o', rfl, h0', h1'⟩ := H k hlt
      obtain ⟨s, hs'⟩ : ∃ s, s = T.E k := ⟨_, rfl⟩
      rw [← hs'] at h0' h1' es
      have g1 := gb.1
      have g2 : G ≤ 137438953472 := by omega
      have e1 := es.1
      have e2 := es.2.1
      have e3 := es.2.2.1
      have hst : begE T.E (k + 1) = G + s.dur := by simp only [begE]; rw [← hs', ← hG]
      have HST := Lib.hid hst
      have EG := Lib.hid hG
      have ES := Lib.hid hs'
      clear H gb es hst hG hs'
      by_cases p1 : s.time < 0
      · have em : s.time = -1 := by omega
        have HN := Lib.hid (no_step HA.out (show hitE T d sc k = false by unfold hitE; rw [← ES.out]; simp; intro h; omega))
        have km : (s.time == -1) = true := by simp [em]
        have km' : (s.time != -1) = false := by simp [em]
        have HEM := Lib.hid em
        have kn : decide (0 ≤ s.time) = false := by simp; omega
        clear em
        go_wp2_with fail
        go_roundw
        case rel => exact ⟨k + 1, by omega, by go_num, by rw [HST.out], HBW.out.alloc HBW.out.size _, HN⟩
        case measure => simp [intOf]; omega
      have km : (s.time == -1) = false := by simp; omega
      have km' : (s.time != -1) = true := by simp; omega
      have kn : decide (0 ≤ s.time) = true := by simp; omega
      have kn' : 0 ≤ s.time := by omega
      by_cases p2 : d < s.time
      · have HN := Lib.hid (no_step HA.out (show hitE T d sc k = false by unfold hitE; rw [← ES.out]; simp; intro h1 h2; omega))
        have kp : decide (s.time ≤ d) = false := by simp; omega
        go_wp2_with fail
        go_roundw
        case rel => exact ⟨k + 1, by omega, by go_num, by rw [HST.out], HBW.out.alloc HBW.out.size _, HN⟩
        case measure => simp [intOf]; omega
      have p2' : s.time ≤ d := by omega
      have kp : decide (s.time ≤ d) = true := by simp; omega
      obtain ⟨m1, m2, m3⟩ := mul_in (show 0 ≤ d - s.time by omega) (by omega) (show 0 ≤ sc by omega) hs2
      obtain ⟨P, hP⟩ : ∃ P, (d - s.time) * sc / T.sc = P := ⟨_, rfl⟩
      have q1 : 0 ≤ P := by rw [← hP]; exact Int.ediv_nonneg m2 (by omega)
      have q2 : P ≤ 2305843009213693952 := by rw [← hP]; exact Int.le_trans (Int.ediv_le_self _ m2) m3
      have HPE := Lib.hid hP
      by_cases p3 : P < s.dur
      · have HL := Lib.hid (showF_hit hlt HA.out (show hitE T d sc k = true by unfold hitE; rw [← ES.out, HPE.out]; simp; omega))
        have HL2 := Lib.hid (show showF T d sc = G + P by rw [HL.out, ← ES.out, ← EG.out, HPE.out])
        go_wp2_with fail
        go_ret
        exact ⟨ret_i64 HL2.out.symm, HB2.out.alloc HB2.out.size _⟩
      · have HN := Lib.hid (no_step HA.out (show hitE T d sc k = false by unfold hitE; rw [← ES.out, HPE.out]; simp; intro h1 h2; omega))
        go_wp2_with fail
        go_roundw
        case rel => exact ⟨k + 1, by omega, by go_num, by rw [HST.out], HBW.out.alloc HBW.out.size _, HN⟩
        case measure => simp [intOf]; omega
    · obtain rfl : k = T.nE := by omega
      have HL := Lib.hid (showF_none (by omega) HA.out)
      go_wp2_with fail
      go_ret
      exact ⟨ret_i64 HL.out.symm, HB2.out⟩

end Go.Proofs.Ytkhjkemllgjfmaa

/- The contract of isomedia.Presented. -/
namespace Go.Proofs.Ytkhjkemllgjfmaa
open Go.RowKit
set_option linter.unusedVariables false

theorem info2 : (Try.prog.info? 2).map (fun i => (i.zero, i.size, i.bytes)) = some (some (.int .i64 0), 1, 8) := by kernel_rfl

/-- When samples are decoded. -/
def atT (S : Nat → Sm) : Nat → Int
  | 0 => 0
  | k + 1 => atT S k + (S k).dur
theorem atT_bd {S : Nat → Sm} {n k : Nat} (h : ∀ i, i < n → okSm (S i) = true) (hk : k ≤ n) : 0 ≤ atT S k ∧ atT S k ≤ (k : Int) * 16777216 := by
  induction k with
  | zero => simp [atT]
  | succ k ih =>
    have h1 := ih (by omega)
    have h2 := h k (by omega)
    unfold okSm at h2
    simp only [decide_eq_true_eq] at h2
    simp only [atT]
    omega
def timeV (T : Tr) (sc : Int) (i : Nat) : Int := showF T (atT T.S i + (T.S i).shift) sc
def timeL (T : Tr) (sc : Int) (i : Nat) : List Value := [.int .i64 (timeV T sc i)]

/-- What Presented leaves. -/
def PresPost (w : World) (F : Fl) (kk : Int) (e : Ending) (w' : World) : Prop :=
  ∃ v c, e = .returned (.tuple #[v, .int .i64 c]) ∧ Below w.heap.size w w' ∧
    (if okFl F = false then v = .slice none 0 0 ∧ c = 1 else if kk < 0 ∨ (F.nT : Int) ≤ kk then v = .slice none 0 0 ∧ c = 7 else
      c = 0 ∧ w'.ownsRow w.heap.size 2 1 v (F.T kk.toNat).nS (rowsOf (timeL (F.T kk.toNat) F.sc) (F.T kk.toNat).nS))

theorem idle33 (p q : Addr) (w : World) : CallsD Try.prog 33 #[.pointer (some p), .pointer (some q)] .returning w fun e u' w' => e = .returned (.tuple #[]) ∧ u' = .returning ∧ w' = w := by
  refine callsD_of_wpS Try.func33 rfl fun c₀ cs hu => ?_
  apply wpS_seq
  apply wpS_region
  simp [wpOpsS, go_sem, recoverD, hu, Try.ntmps33, Exit.thenS]
  refine wpS_cond (t := false) (by simp [Act.eval, Array.replicate]) ?_
  simp only [Bool.false_eq_true, if_false]
  refine wpS_of_wp (wp_skip ?_)
  cases c₀
  simp_all [bodyPostS, results, Try.results33]

set_option maxRecDepth 100000 in
set_option maxHeartbeats 4000000 in
theorem pres_any (v : Value) (F : Fl) (kk : Int) (w : World) (hv : FA w v F) (hm : F.nT ≤ 1000000) :
    Calls Try.prog 17 #[v, .int .i64 kk] w (PresPost w F kk) := by
  have hmf : ∀ (fn : Fn) (first cap : Array Value) (w : World), (Instr.makeFunc fn first cap).run Try.prog w = .ok (.func fn first cap) w := fun _ _ _ _ => rfl
  have hv0 := hv
  obtain ⟨ts, rfl, hts⟩ := hv
  obtain ⟨ao, c, rfl⟩ := hts.shape
  have HT := Lib.hid hts
  have HV := Lib.hid hv0
  clear hts hv0
  go_enter_defers Try.func17, Try.ntmps17
  go_wp2_with fail
  obtain ⟨w1, hw⟩ : ∃ x, x = ((w.alloc (.cells #[.int .i64 F.sc, .slice ao F.nT c] 56)).alloc (.cells #[.slice none 0 0] 51)).alloc (.cells #[.int .i64 0] 24) := ⟨_, rfl⟩
  rw [← hw]
  have hb1 : Below w.heap.size w w1 := by rw [hw]; go_grown
  have xf : B2 w1 w.heap.size (.int .i64 F.sc) (.slice ao F.nT c) := by
    rw [hw]; exact ((B2.of_alloc w _ _ _ 56 rfl).far (below_box _ _) (by simp)).far (below_box _ _) (by simp; omega)
  have CL := Lib.hid (show C1 w1 (w.heap.size + 1) (.slice none 0 0) by rw [hw]; exact ⟨by simp [go_sem], by simp [go_sem]⟩)
  have CE := Lib.hid (show C1 w1 (w.heap.size + 1 + 1) (.int .i64 0) by rw [hw]; exact ⟨by simp [go_sem], by simp [go_sem]⟩)
  have hsz : w1.heap.size = w.heap.size + 1 + 1 + 1 := by rw [hw]; simp
  obtain ⟨blf, hblf⟩ : ∃ z, z = w.heap.size := ⟨_, rfl⟩
  obtain ⟨bl, hbl⟩ : ∃ z, z = w.heap.size + 1 := ⟨_, rfl⟩
  obtain ⟨be, hbe⟩ : ∃ z, z = w.heap.size + 1 + 1 := ⟨_, rfl⟩
  have n0 : w.heap.size ≤ blf := by omega
  have n1 : blf < bl := by omega
  have n2 : bl < be := by omega
  have n3 : be < w1.heap.size := by omega
  rw [← hbe] at CE ⊢
  rw [← hbl] at CL ⊢
  rw [← hblf] at xf ⊢
  have XF := Lib.hid xf
  have HB := Lib.hid hb1
  clear hw hb1 xf hsz hblf hbl hbe
  refine (validF_any _ F w1 (HV.out.below HB.out) (by omega)).mono ?_
  rintro e w2 ⟨rfl, hb⟩
  replace XF := Lib.hid (XF.out.far hb (by omega))
  replace CL := Lib.hid (CL.out.below hb)
  replace CE := Lib.hid (CE.out.below hb)
  replace HB := Lib.hid (HB.out.trans (hb.mono HB.out.size))
  have n4 : be < w2.heap.size := by have := hb.size; omega
  have l0 := CL.out.k0
  have lz := CL.out.fz
  have e0 := CE.out.k0
  have ez := CE.out.fz
  have f0 := XF.out.k0
  have f1 := XF.out.k1
  clear hb n3
  cases hok : okFl F
  · have HP := Lib.hid hok
    go_wp2_with fail
    refine leaves_cons (f := 33) (args := #[.pointer (some ⟨bl, 0, none⟩), .pointer (some ⟨be, 0, none⟩)]) (by simp) (by simp [go_sem]) ?_
    refine (idle33 _ _ _).mono ?_
    rintro e u' w'' ⟨rfl, rfl, rfl⟩
    simp [Leaves, settle, results, Try.results17, go_sem, l0, e0]
    have h := HB.out
    exact ⟨_, _, rfl, by go_grown, by rw [if_pos HP.out]; exact ⟨rfl, rfl⟩⟩
  have HOK := Lib.hid hok
  have hnok : ¬ okFl F = false := by rw [hok]; simp
  have HN := Lib.hid hnok
  clear hok hnok
  by_cases hneg : kk < 0
  · go_wp2_with fail
    refine leaves_cons (f := 33) (args := #[.pointer (some ⟨bl, 0, none⟩), .pointer (some ⟨be, 0, none⟩)]) (by simp) (by simp [go_sem]) ?_
    refine (idle33 _ _ _).mono ?_
    rintro e u' w'' ⟨rfl, rfl, rfl⟩
    simp [Leaves, settle, results, Try.results17, go_sem, l0, e0]
    have h := HB.out
    exact ⟨_, _, rfl, by go_grown, by rw [if_neg HN.out, if_pos (by omega)]; exact ⟨rfl, rfl⟩⟩
  obtain ⟨n, rfl⟩ := Int.eq_ofNat_of_zero_le (show 0 ≤ kk by omega)
  clear hneg
  by_cases hbig : F.nT ≤ n
  · have hbd : decide (F.nT ≤ n) = true := by simpa using hbig
    go_wp2_with fail
    refine leaves_cons (f := 33) (args := #[.pointer (some ⟨bl, 0, none⟩), .pointer (some ⟨be, 0, none⟩)]) (by simp) (by simp [go_sem]) ?_
    refine (idle33 _ _ _).mono ?_
    rintro e u' w'' ⟨rfl, rfl, rfl⟩
    simp [Leaves, settle, results, Try.results17, go_sem, l0, e0]
    have h := HB.out
    exact ⟨_, _, rfl, by go_grown, by rw [if_neg HN.out, if_pos (by omega)]; exact ⟨rfl, rfl⟩⟩
  have hbd : decide (F.nT ≤ n) = false := by simpa using hbig
  have hn : n < F.nT := by omega
  obtain ⟨b, o, a2, d2, a3, d3, a4, d4, rfl, t0, t1, t2, t3, t4, hta⟩ := HT.out.at hn
  replace t0 := (HB.out.cell (block_lt_of_cell t0)).trans t0
  replace t1 := (HB.out.cell (block_lt_of_cell t1)).trans t1
  replace t2 := (HB.out.cell (block_lt_of_cell t2)).trans t2
  replace t3 := (HB.out.cell (block_lt_of_cell t3)).trans t3
  replace t4 := (HB.out.cell (block_lt_of_cell t4)).trans t4
  have HTA := Lib.hid hta
  have HFO := Lib.hid (okFl_yes HOK.out)
  have HTO := Lib.hid ((okFl_yes HOK.out).2 n hn)
  have hoe : (F.T n).nS ≤ 4096 := (okTr_yes HTO.out).1.2.2.2.2.1
  obtain ⟨T, hTe⟩ : ∃ T, T = F.T n := ⟨_, rfl⟩
  have hpost : ∀ (v : Value) (w' : World), Below w.heap.size w w' → w'.ownsRow w.heap.size 2 1 v T.nS (rowsOf (timeL T F.sc) T.nS) → PresPost w F (n : Int) (.returned (.tuple #[v, .int .i64 0])) w' := by
    intro v w' hb ho
    refine ⟨_, _, rfl, hb, ?_⟩
    rw [if_neg HN.out, if_neg (by omega)]
    rw [hTe] at ho
    exact ⟨rfl, ho⟩
  have HPO := Lib.hid hpost
  rw [← hTe] at t0 t1 t2 t3 t4 HTA HTO hoe
  clear hta hpost hTe hbig
  go_wp2_with fail
  obtain ⟨w3, hw3⟩ : ∃ x, x = w2.alloc (.cells #[.string T.h, .int .i64 T.sc, .slice a2 T.nC d2, .slice a3 T.nS d3, .slice a4 T.nE d4] 43) := ⟨_, rfl⟩
  rw [← hw3]
  have hb3 : Below w2.heap.size w2 w3 := by rw [hw3]; exact below_box _ _
  have xt : BX w3 w2.heap.size (.string T.h) (.int .i64 T.sc) (.slice a2 T.nC d2) (.slice a3 T.nS d3) (.slice a4 T.nE d4) := by
    rw [hw3]; exact BX.of_alloc _ _ _ _ _ _ _ 43 rfl
  obtain ⟨bt, hbt⟩ : ∃ z, z = w2.heap.size := ⟨_, rfl⟩
  rw [← hbt] at xt ⊢
  obtain ⟨B, hBB⟩ : ∃ z, z = w3.heap.size := ⟨_, rfl⟩
  have n5 : be < bt := by omega
  have n6 : bt < B := by have := xt.lt; omega
  have n7 : B ≤ w3.heap.size := by omega
  have n8 : w3.heap.size ≤ B := by omega
  replace XF := Lib.hid (XF.out.far hb3 (by omega))
  replace CL := Lib.hid (CL.out.below hb3)
  replace CE := Lib.hid (CE.out.below hb3)
  replace HB := Lib.hid (HB.out.trans (hb3.mono HB.out.size))
  have XT := Lib.hid xt
  have xt3 := xt.k3
  clear hw3 hb3 xt hbt hBB t0 t1 t2 t3 t4 l0 lz e0 ez f0 f1 n4
  have hnw : w.heap.size ≤ B := by omega
  go_wp2_with fail
  go_loopw [31, 7] (fun i g wr => ∃ (k : Nat) (v : Value), k ≤ T.nS ∧ i = .int .i64 (k : Int) ∧ g = .int .i64 (atT T.S k) ∧ C1 wr bl v ∧ C1 wr be (.int .i64 0) ∧ BX wr bt (.string T.h) (.int .i64 T.sc) (.slice a2 T.nC d2) (.slice a3 T.nS d3) (.slice a4 T.nE d4) ∧ B2 wr blf (.int .i64 F.sc) (.slice (some ⟨b, o, none⟩) F.nT c) ∧ wr.ownsRow B 2 1 v k (rowsOf (timeL T F.sc) k) ∧ Below w.heap.size w wr ∧ B ≤ wr.heap.size) (fun i _ _ => T.nS - (intOf i).toNat)
  case atStart => exact ⟨0, _, Nat.zero_le _, rfl, rfl, CL.out, CE.out, XT.out, XF.out, owns_nil _ _ _ _, HB.out, n7⟩
  case round =>
    obtain ⟨k, v, hk, rfl, rfl, cl, ce, xt, xf, ho, hb, hsz⟩ := hrel
    obtain ⟨va, vm, vc, rfl⟩ := owns_shape ho
    have HO := Lib.hid ho
    have HBW := Lib.hid hb
    have HCL := Lib.hid cl
    have HCE := Lib.hid ce
    have HXT := Lib.hid xt
    have HXF := Lib.hid xf
    have l0 := cl.k0
    have lz := cl.fz
    clear ho hb cl ce xt xf
    have HBB := Lib.hid HBW.out
    by_cases hlt : k < T.nS
    · obtain ⟨c0, c1, c2, c3, c4, ea, eh, es, eb2, eb3, eb4⟩ := HTA.out
      simp only [Value.agg.injEq, Array.mk.injEq, List.cons.injEq, and_true] at ea
      obtain ⟨rfl, rfl, rfl, rfl, rfl⟩ := ea
      obtain ⟨_, _, e, _, H⟩ := eb3
      simp only [Value.slice.injEq, true_and] at e
      obtain ⟨rfl, rfl⟩ := e
      obtain ⟨sb, so, x, rfl, q0, q1, q2, q3, hx⟩ := H k hlt
      obtain ⟨ax, dx, rfl⟩ := hx.shape
      have sbl : sb < w.heap.size := block_lt_of_cell q0
      have hso := (HBW.out.cell (p := ⟨sb, so + k * 4, none⟩) (by simp; omega)).trans q0
      replace q1 := (HBW.out.cell (p := ⟨sb, so + k * 4 + 1, none⟩) (by simp; omega)).trans q1
      replace q2 := (HBW.out.cell (p := ⟨sb, so + k * 4 + 2, none⟩) (by simp; omega)).trans q2
      replace q3 := (HBW.out.cell (p := ⟨sb, so + k * 4 + 3, none⟩) (by simp; omega)).trans q3
      clear q0 H eh es eb2 eb4 hx sbl
      have bd := atT_bd (okTr_yes HTO.out).2.1 (show k ≤ T.nS by omega)
      have sd := okSm_yes ((okTr_yes HTO.out).2.1 k hlt)
      obtain ⟨A, hA⟩ : ∃ A, A = atT T.S k := ⟨_, rfl⟩
      have hst : atT T.S (k + 1) = A + (T.S k).dur := by simp only [atT]; rw [← hA]
      have htv : timeL T F.sc k = [.int .i64 (showF T (A + (T.S k).shift) F.sc)] := by simp only [timeL, timeV]; rw [← hA]
      rw [← hA] at bd ⊢
      have g1 := bd.1
      have g2 : A ≤ 68719476736 := by omega
      have g3 := sd.2.1
      have g4 := sd.2.2.1
      have g5 := sd.2.2.2.1
      have g6 := sd.2.2.2.2
      have HST := Lib.hid hst
      have HTV := Lib.hid htv
      clear hst htv hA bd sd
      go_wp2_with fail
      obtain ⟨w4, hw4⟩ : ∃ x, x = wr.alloc (.cells #[.slice ax (T.S k).n dx, .int .i64 (T.S k).dur, .int .i64 (T.S k).shift, .bool (T.S k).sync] 75) := ⟨_, rfl⟩
      rw [← hw4]
      have hb4 : Below wr.heap.size wr w4 := by rw [hw4]; exact below_box _ _
      have skb : w4.heap[wr.heap.size]? = some (.cells #[.slice ax (T.S k).n dx, .int .i64 (T.S k).dur, .int .i64 (T.S k).shift, .bool (T.S k).sync] 75 (0, 0)) := by rw [hw4]; simp only [World.alloc, Array.getElem?_push_size]
      have s1 : w4.cell? ⟨wr.heap.size, 1, none⟩ = some (.int .i64 (T.S k).dur) := by rw [hw4]; simp [go_sem]
      have s2 : w4.cell? ⟨wr.heap.size, 2, none⟩ = some (.int .i64 (T.S k).shift) := by rw [hw4]; simp [go_sem]
      obtain ⟨bs, hbs⟩ : ∃ z, z = wr.heap.size := ⟨_, rfl⟩
      rw [← hbs] at skb s1 s2 ⊢
      have n9 : B ≤ bs := by omega
      have HBS := Lib.hid hbs
      clear hbs
      obtain ⟨t0, t1, t2, t3, t4, _⟩ := HXT.out
      have f0 := HXF.out.k0
      replace l0 := (hb4.cell (block_lt_of_cell l0)).trans l0
      replace f0 := (hb4.cell (block_lt_of_cell f0)).trans f0
      replace t0 := (hb4.cell (block_lt_of_cell t0)).trans t0
      replace t1 := (hb4.cell (block_lt_of_cell t1)).trans t1
      replace t2 := (hb4.cell (block_lt_of_cell t2)).trans t2
      replace t3 := (hb4.cell (block_lt_of_cell t3)).trans t3
      replace t4 := (hb4.cell (block_lt_of_cell t4)).trans t4
      have HB4 := Lib.hid hb4
      have S1 := Lib.hid s1
      have SB := Lib.hid skb
      have nbs : bs < w4.heap.size := block_lt_of_cell s1
      clear hw4 hb4 s1 skb
      refine Plan.wp_region_planz (fun w' => w'.cell? ⟨bl, 0, none⟩ = some (.slice va vm vc) ∧ w'.cell? ⟨blf, 0, none⟩ = some (.int .i64 F.sc) ∧ w'.cell? ⟨bt, 0, none⟩ = some (.string T.h) ∧ w'.cell? ⟨bt, 1, none⟩ = some (.int .i64 T.sc) ∧ w'.cell? ⟨bt, 2, none⟩ = some (.slice a2 T.nC d2) ∧ w'.cell? ⟨bt, 3, none⟩ = some (.slice (some ⟨sb, so, none⟩) T.nS d3) ∧ w'.cell? ⟨bt, 4, none⟩ = some (.slice a4 T.nE d4) ∧ w'.cell? ⟨bs, 2, none⟩ = some (.int .i64 (T.S k).shift)) 11 (([0, 1, 2, 3, 4, 5, 6, 7].map (·, true)) ++ (([8, 9, 10, 11].map (·, false)))) (by kernel_rfl) (by kernel_rfl) (by kernel_rfl) ⟨l0, f0, t0, t1, t2, t3, t4, s2⟩ ?_
      refine' Plan.plan_seg _ [0, 1, 2, 3, 4, 5, 6, 7] (([8, 9, 10, 11].map (·, false))) (by kernel_rfl) (by kernel_rfl) rfl (by exact ⟨l0, f0, t0, t1, t2, t3, t4, s2⟩) (fun wx hS => ?_) ?_
      rotate_left
      · obtain ⟨z0, z1, z2, z3, z4, z5, z6, z7⟩ := hS
        go_light
        iterate 8 (apply Plan.seg_pick; rfl; intro K hK; go_wp)
        exact Plan.seg_nil
      refine Plan.plan_of_effect rfl (fun K hK => ?_)
      go_wp2_with fail
      refine (presented_any _ T _ F.sc _ (HTA.out.below ((HBW.out.trans (HB4.out.mono HBW.out.size)).drew)) HTO.out ?_ ?_ HFO.out.1.1 HFO.out.1.2.1).mono ?_
      · omega
      · omega
      rintro e w5 ⟨rfl, hb5⟩
      replace hb5 : Below w4.heap.size w4 w5 := (Below.refl w4.heap.size w4).drew.trans hb5
      replace l0 := (hb5.cell (block_lt_of_cell l0)).trans l0
      replace f0 := (hb5.cell (block_lt_of_cell f0)).trans f0
      replace t0 := (hb5.cell (block_lt_of_cell t0)).trans t0
      replace t1 := (hb5.cell (block_lt_of_cell t1)).trans t1
      replace t2 := (hb5.cell (block_lt_of_cell t2)).trans t2
      replace t3 := (hb5.cell (block_lt_of_cell t3)).trans t3
      replace t4 := (hb5.cell (block_lt_of_cell t4)).trans t4
      replace s2 := (hb5.cell (block_lt_of_cell s2)).trans s2
      have HB5 := Lib.hid hb5
      clear hb5
      go_wp2_with fail
      refine ⟨⟨l0, f0, t0, t1, t2, t3, t4, s2⟩, ?_⟩
      refine Plan.plan_of_effect rfl (fun K hK => ?_)
      go_wp2_with fail
      obtain ⟨Z, hZ⟩ : ∃ Z, Z = showF T (A + (T.S k).shift) F.sc := ⟨_, rfl⟩
      rw [← hZ]
      obtain ⟨w6, hw6⟩ : ∃ x, x = w5.alloc (.cells #[.int .i64 Z] 2) := ⟨_, rfl⟩
      rw [← hw6]
      have hb56 : Below w5.heap.size w5 w6 := by rw [hw6]; exact below_box _ _
      have p0 : w6.cell? ⟨w5.heap.size, 0, none⟩ = some (.int .i64 Z) := by rw [hw6]; simp [go_sem]
      replace l0 := (hb56.cell (block_lt_of_cell l0)).trans l0
      replace f0 := (hb56.cell (block_lt_of_cell f0)).trans f0
      replace t0 := (hb56.cell (block_lt_of_cell t0)).trans t0
      replace t1 := (hb56.cell (block_lt_of_cell t1)).trans t1
      replace t2 := (hb56.cell (block_lt_of_cell t2)).trans t2
      replace t3 := (hb56.cell (block_lt_of_cell t3)).trans t3
      replace t4 := (hb56.cell (block_lt_of_cell t4)).trans t4
      replace s2 := (hb56.cell (block_lt_of_cell s2)).trans s2
      have hb6 : Below wr.heap.size wr w6 := HB4.out.trans ((HB5.out.trans (hb56.mono HB5.out.size)).mono HB4.out.size)
      have HB6 := Lib.hid hb6
      have SB6 := Lib.hid ((hb56.block bs (by have := HB5.out.size; omega)).trans ((HB5.out.block bs nbs).trans SB.out))
      have S16 := Lib.hid ((hb56.cell (p := ⟨bs, 1, none⟩) (by have := HB5.out.size; simp; omega)).trans ((HB5.out.cell (p := ⟨bs, 1, none⟩) (by simpa using nbs)).trans S1.out))
      have HZ := Lib.hid hZ
      have hs6 : B ≤ w6.heap.size := by have := hb6.size; omega
      clear hw6 hb6 hb56 hZ
      refine ⟨⟨l0, f0, t0, t1, t2, t3, t4, s2⟩, ?_⟩
      refine Plan.plan_of_effect rfl (fun K hK => ?_)
      refine wpList_app2 w6 rfl (.tmp 35) (.tmp 44) 51 2 1 8 _ Try.underlying51 info2 rfl (by decide) (by decide) rfl B k w5.heap.size (.slice va vm vc) _ [.int .i64 Z] (by simp [go_sem]) (owns_below HO.out HB6.out) (by simp [go_sem]) rfl (fun j u hj => by
        match j, hj with
        | 0, hj => simp at hj; rw [← hj]; exact p0
        | j + 1, hj => simp at hj) (by simp [Value.oneCell']) (by omega) hs6 ?_
      intro v' w7 hv' hb7 hkeep
      have hv7 : Below B wr w7 := (HB6.out.mono hsz).trans hb7
      obtain ⟨va', vm', vc', rfl⟩ := owns_shape hv'
      have cl7 : C1 w7 bl (.slice va vm vc) := ⟨(hv7.cell (p := ⟨bl, 0, none⟩) (by simp; omega)).trans HCL.out.k0, (hv7.frozen (p := ⟨bl, 0, none⟩) (by simp; omega)).trans HCL.out.fz⟩
      have ce7 : C1 w7 be (.int .i64 0) := ⟨(hv7.cell (p := ⟨be, 0, none⟩) (by simp; omega)).trans HCE.out.k0, (hv7.frozen (p := ⟨be, 0, none⟩) (by simp; omega)).trans HCE.out.fz⟩
      have xt7 := HXT.out.far hv7 (by omega)
      have xf7 := HXF.out.far hv7 (by omega)
      have hb37 := HBW.out.trans (hv7.mono hnw)
      have HV7 := Lib.hid (And.intro hv' (And.intro cl7 (And.intro ce7 (And.intro xt7 (And.intro xf7 hb37)))))
      have m1 := cl7.k0
      have m2 := cl7.fz
      have hkb := hkeep bs _ 75 SB6.out (by decide)
      have s17 : w7.cell? ⟨bs, 1, none⟩ = some (.int .i64 (T.S k).dur) := (World.cell?_of_block hkb).trans S16.out
      replace s2 : w7.cell? ⟨bs, 2, none⟩ = some (.int .i64 (T.S k).shift) := (World.cell?_of_block hkb).trans s2
      obtain ⟨t0, t1, t2, t3, t4, _⟩ := xt7
      have f0 := xf7.k0
      have l0 := m1
      have nbl : bl < w7.heap.size := block_lt_of_cell m1
      have hv7s : B ≤ w7.heap.size := by have := hv7.size; omega
      clear hv' hb7 hkeep cl7 ce7 xf7 hb37 hv7 p0 hkb
      go_wp2_with fail
      refine ⟨⟨l0, f0, t0, t1, t2, t3, t4, s2⟩, ?_⟩
      refine Plan.plan_of_last rfl (fun K hK => ?_)
      go_wp2_with fail
      refine Plan.plan_done ?_
      have nbb : (bs == bl) = false := by simp; omega
      clear l0 f0 t0 t1 t2 t3 t4 s2 nbl m1 m2
      have s18 : (w7.setCell ⟨bl, 0, none⟩ (.slice va' vm' vc')).cell? ⟨bs, 1, none⟩ = some (.int .i64 (T.S k).dur) := by rw [World.cell?_setCell_far _ _ _ _ (by simp; omega)]; exact s17
      clear s17
      go_wp2_with fail
      go_roundw
      case rel =>
        have e : rowsOf (timeL T F.sc) (k + 1) = rowsOf (timeL T F.sc) k ++ [.int .i64 Z] := by
          simp only [rowsOf]; rw [HTV.out, HZ.out]
        refine ⟨k + 1, .slice va' vm' vc', by omega, by go_num, by rw [HST.out], ?_, ?_, HV7.out.2.2.2.1.other (by simp; omega), HV7.out.2.2.2.2.1.other (by simp; omega) _, ?_, HV7.out.2.2.2.2.2.setCell (by simp; omega) _, by rw [World.size_setCell]; have := HV7.out.2.2.2.2.2.size; have := hv7s; omega⟩
        · exact ⟨by simp [go_sem, HV7.out.2.1.k0], by rw [World.frozen?_setCell]; exact HV7.out.2.1.fz⟩
        · exact ⟨by rw [World.cell?_setCell_far _ _ _ _ (by simp; omega)]; exact HV7.out.2.2.1.k0, by rw [World.frozen?_setCell]; exact HV7.out.2.2.1.fz⟩
        · rw [e]; exact owns_far HV7.out.1 (by simp; omega) _
      case measure => simp [intOf]; omega
    · obtain rfl : k = T.nS := by omega
      have e0 := HCE.out.k0
      have ez := HCE.out.fz
      go_wp2_with fail
      refine leaves_cons (f := 33) (args := #[.pointer (some ⟨bl, 0, none⟩), .pointer (some ⟨be, 0, none⟩)]) (by simp) (by simp [go_sem]) ?_
      refine (idle33 _ _ _).mono ?_
      rintro e u' w'' ⟨rfl, rfl, rfl⟩
      simp [Leaves, settle, results, Try.results17, go_sem, l0, e0]
      exact HPO.out _ _ (by have h := HBB.out; go_grown) (owns_mono (owns_far (owns_far HO.out (by simp; omega) _) (by simp; omega) _) hnw)
end Go.Proofs.Ytkhjkemllgjfmaa

/- The contract of the reference's Presented. -/
namespace Go.Proofs.Ytkhjkemllgjfmaa
open Go.RowKit
set_option linter.unusedVariables false

set_option maxRecDepth 100000 in
set_option maxHeartbeats 4000000 in
theorem rpres_any (v : Value) (F : Fl) (kk : Int) (w : World) (hv : FA w v F) (hm : F.nT ≤ 1000000) :
    Calls Try.prog 19 #[v, .int .i64 kk] w (PresPost w F kk) := by
  have hv0 := hv
  obtain ⟨ts, rfl, hts⟩ := hv
  obtain ⟨ao, c, rfl⟩ := hts.shape
  have HT := Lib.hid hts
  have HV := Lib.hid hv0
  clear hts hv0
  go_enter Try.func19, Try.ntmps19
  go_wp2_with fail
  obtain ⟨w1, hw⟩ : ∃ x, x = w.alloc (.cells #[.int .i64 F.sc, .slice ao F.nT c] 37) := ⟨_, rfl⟩
  rw [← hw]
  have hb1 : Below w.heap.size w w1 := by rw [hw]; exact below_box _ _
  have xf : B2 w1 w.heap.size (.int .i64 F.sc) (.slice ao F.nT c) := by
    rw [hw]; exact B2.of_alloc w _ _ _ 37 rfl
  obtain ⟨blf, hblf⟩ : ∃ z, z = w.heap.size := ⟨_, rfl⟩
  have n0 : w.heap.size ≤ blf := by omega
  rw [← hblf] at xf ⊢
  have XF := Lib.hid xf
  have HB := Lib.hid hb1
  clear hw hb1 xf hblf
  refine (rvalidF_any _ F w1 (HV.out.below HB.out) (by omega)).mono ?_
  rintro e w2 ⟨rfl, hb⟩
  replace XF := Lib.hid (XF.out.far hb XF.out.lt)
  replace HB := Lib.hid (HB.out.trans (hb.mono HB.out.size))
  have f1 := XF.out.k1
  clear hb
  cases hok : okFl F
  · have HP := Lib.hid hok
    go_wp2_with fail
    go_ret2
    exact ⟨_, _, rfl, HB.out, by rw [if_pos HP.out]; exact ⟨rfl, rfl⟩⟩
  have HOK := Lib.hid hok
  have hnok : ¬ okFl F = false := by rw [hok]; simp
  have HN := Lib.hid hnok
  clear hok hnok
  by_cases hneg : kk < 0
  · go_wp2_with fail
    go_ret2
    exact ⟨_, _, rfl, HB.out, by rw [if_neg HN.out, if_pos (by omega)]; exact ⟨rfl, rfl⟩⟩
  obtain ⟨n, rfl⟩ := Int.eq_ofNat_of_zero_le (show 0 ≤ kk by omega)
  clear hneg
  by_cases hbig : F.nT ≤ n
  · have hbd : decide (F.nT ≤ n) = true := by simpa using hbig
    go_wp2_with fail
    go_ret2
    exact ⟨_, _, rfl, HB.out, by rw [if_neg HN.out, if_pos (by omega)]; exact ⟨rfl, rfl⟩⟩
  have hbd : decide (F.nT ≤ n) = false := by simpa using hbig
  have hn : n < F.nT := by omega
  obtain ⟨b, o, a2, d2, a3, d3, a4, d4, rfl, t0, t1, t2, t3, t4, hta⟩ := HT.out.at hn
  replace t0 := (HB.out.cell (block_lt_of_cell t0)).trans t0
  replace t1 := (HB.out.cell (block_lt_of_cell t1)).trans t1
  replace t2 := (HB.out.cell (block_lt_of_cell t2)).trans t2
  replace t3 := (HB.out.cell (block_lt_of_cell t3)).trans t3
  replace t4 := (HB.out.cell (block_lt_of_cell t4)).trans t4
  have HTA := Lib.hid hta
  have HFO := Lib.hid (okFl_yes HOK.out)
  have HTO := Lib.hid ((okFl_yes HOK.out).2 n hn)
  have hoe : (F.T n).nS ≤ 4096 := (okTr_yes HTO.out).1.2.2.2.2.1
  obtain ⟨T, hTe⟩ : ∃ T, T = F.T n := ⟨_, rfl⟩
  have hpost : ∀ (v : Value) (w' : World), Below w.heap.size w w' → w'.ownsRow w.heap.size 2 1 v T.nS (rowsOf (timeL T F.sc) T.nS) → PresPost w F (n : Int) (.returned (.tuple #[v, .int .i64 0])) w' := by
    intro v w' hb ho
    refine ⟨_, _, rfl, hb, ?_⟩
    rw [if_neg HN.out, if_neg (by omega)]
    rw [hTe] at ho
    exact ⟨rfl, ho⟩
  have HPO := Lib.hid hpost
  rw [← hTe] at t0 t1 t2 t3 t4 HTA HTO hoe
  clear hta hpost hTe hbig
  go_wp2_with fail
  refine Plan.wp_region_planz (fun w' => w'.cell? ⟨blf, 1, none⟩ = some (.slice (some ⟨b, o, none⟩) F.nT c) ∧ w'.cell? ⟨b, o + n * 5, none⟩ = some (.string T.h) ∧ w'.cell? ⟨b, o + n * 5 + 1, none⟩ = some (.int .i64 T.sc) ∧ w'.cell? ⟨b, o + n * 5 + 2, none⟩ = some (.slice a2 T.nC d2) ∧ w'.cell? ⟨b, o + n * 5 + 3, none⟩ = some (.slice a3 T.nS d3) ∧ w'.cell? ⟨b, o + n * 5 + 4, none⟩ = some (.slice a4 T.nE d4)) 7 (([0, 1, 2, 3, 4].map (·, true)) ++ (([5].map (·, false)) ++ (([6].map (·, true)) ++ (([7].map (·, false)))))) (by kernel_rfl) (by kernel_rfl) (by kernel_rfl) ⟨f1, t0, t1, t2, t3, t4⟩ ?_
  refine' Plan.plan_seg _ [0, 1, 2, 3, 4] (([5].map (·, false)) ++ (([6].map (·, true)) ++ (([7].map (·, false))))) (by kernel_rfl) (by kernel_rfl) rfl (by exact ⟨f1, t0, t1, t2, t3, t4⟩) (fun wx hS => ?_) ?_
  rotate_left
  · obtain ⟨z0, z1, z2, z3, z4, z5⟩ := hS
    go_light
    iterate 5 (apply Plan.seg_pick; rfl; intro K hK; go_wp)
    exact Plan.seg_nil
  refine Plan.plan_of_effect rfl (fun K hK => ?_)
  go_wp2_with fail
  obtain ⟨w3, hw3⟩ : ∃ x, x = (w2.alloc (.cells #[.string { data := #[] }, .int .i64 0, .slice none 0 0, .slice none 0 0, .slice none 0 0] 48)).drew := ⟨_, rfl⟩
  rw [← hw3]
  have hb3 : Below w2.heap.size w2 w3 := by rw [hw3]; exact (below_box _ _).drew
  have xt : BX w3 w2.heap.size (.string { data := #[] }) (.int .i64 0) (.slice none 0 0) (.slice none 0 0) (.slice none 0 0) := by
    rw [hw3]; exact (BX.of_alloc w2 _ _ _ _ _ _ 48 rfl).far ((Below.refl (w2.heap.size + 1) _).drew) (by omega)
  obtain ⟨bt, hbt⟩ : ∃ z, z = w2.heap.size := ⟨_, rfl⟩
  have nbt : blf < bt := by have := XF.out.lt; omega
  have nwt : w.heap.size ≤ bt := by have := HB.out.size; omega
  rw [← hbt] at xt ⊢
  replace f1 := (hb3.cell (block_lt_of_cell f1)).trans f1
  replace t0 := (hb3.cell (block_lt_of_cell t0)).trans t0
  replace t1 := (hb3.cell (block_lt_of_cell t1)).trans t1
  replace t2 := (hb3.cell (block_lt_of_cell t2)).trans t2
  replace t3 := (hb3.cell (block_lt_of_cell t3)).trans t3
  replace t4 := (hb3.cell (block_lt_of_cell t4)).trans t4
  have XT := Lib.hid xt
  have xtz := xt.fz
  have xt0 := xt.k0
  have xt1 := xt.k1
  have xt2 := xt.k2
  have xt3 := xt.k3
  have xt4 := xt.k4
  replace HB := Lib.hid (HB.out.trans (hb3.mono HB.out.size))
  replace XF := Lib.hid (XF.out.far hb3 XF.out.lt)
  clear hw3 hb3 xt hbt
  refine ⟨⟨f1, t0, t1, t2, t3, t4⟩, ?_⟩
  refine' Plan.plan_seg _ [6] (([7].map (·, false))) (by kernel_rfl) (by kernel_rfl) rfl (by exact ⟨f1, t0, t1, t2, t3, t4⟩) (fun wx hS => ?_) ?_
  rotate_left
  · obtain ⟨z0, z1, z2, z3, z4, z5⟩ := hS
    go_light
    iterate 1 (apply Plan.seg_pick; rfl; intro K hK; go_wp)
    exact Plan.seg_nil
  refine Plan.plan_of_last rfl (fun K hK => ?_)
  go_wp2_with fail
  refine Plan.plan_done ?_
  obtain ⟨w4, hw4⟩ : ∃ x, x = (((((w3.setCell ⟨bt, 0, none⟩ (.string T.h)).setCell ⟨bt, 1, none⟩ (.int .i64 T.sc)).setCell ⟨bt, 2, none⟩ (.slice a2 T.nC d2)).setCell ⟨bt, 3, none⟩ (.slice a3 T.nS d3)).setCell ⟨bt, 4, none⟩ (.slice a4 T.nE d4)) := ⟨_, rfl⟩
  rw [← hw4]
  have xt := XT.out.put5 (.string T.h) (.int .i64 T.sc) (.slice a2 T.nC d2) (.slice a3 T.nS d3) (.slice a4 T.nE d4)
  have hb4 := below_put5 HB.out nwt (.string T.h) (.int .i64 T.sc) (.slice a2 T.nC d2) (.slice a3 T.nS d3) (.slice a4 T.nE d4)
  have hb34 := below_put5 (Below.refl bt w3) (Nat.le_refl _) (.string T.h) (.int .i64 T.sc) (.slice a2 T.nC d2) (.slice a3 T.nS d3) (.slice a4 T.nE d4)
  rw [← hw4] at xt hb4 hb34
  replace XT := Lib.hid xt
  replace HB := Lib.hid hb4
  replace XF := Lib.hid (XF.out.far hb34 nbt)
  obtain ⟨B, hBB⟩ : ∃ z, z = w4.heap.size := ⟨_, rfl⟩
  have n6 : bt < B := by have := xt.lt; omega
  have n7 : B ≤ w4.heap.size := by omega
  have xt3' := xt.k3
  clear hw4 xt hb4 hb34 f1 t0 t1 t2 t3 t4 xtz xt0 xt1 xt2 xt3 xt4 hBB
  have hnw : w.heap.size ≤ B := by omega
  go_wp2_with fail
  go_loopw [9, 6, 7] (fun i v g wr => ∃ (k : Nat), k ≤ T.nS ∧ i = .int .i64 (k : Int) ∧ g = .int .i64 (atT T.S k) ∧ BX wr bt (.string T.h) (.int .i64 T.sc) (.slice a2 T.nC d2) (.slice a3 T.nS d3) (.slice a4 T.nE d4) ∧ B2 wr blf (.int .i64 F.sc) (.slice (some ⟨b, o, none⟩) F.nT c) ∧ wr.ownsRow B 2 1 v k (rowsOf (timeL T F.sc) k) ∧ Below w.heap.size w wr ∧ B ≤ wr.heap.size) (fun i _ _ _ => T.nS - (intOf i).toNat)
  case atStart => exact ⟨0, Nat.zero_le _, rfl, rfl, XT.out, XF.out, owns_nil _ _ _ _, HB.out, n7⟩
  case round =>
    obtain ⟨k, hk, rfl, rfl, xt, xf, ho, hb, hsz⟩ := hrel
    obtain ⟨va, vm, vc, rfl⟩ := owns_shape ho
    have HO := Lib.hid ho
    have HBW := Lib.hid hb
    have HXT := Lib.hid xt
    have HXF := Lib.hid xf
    have t3 := xt.k3
    clear ho hb xt xf
    by_cases hlt : k < T.nS
    · obtain ⟨c0, c1, c2, c3, c4, ea, eh, es, eb2, eb3, eb4⟩ := HTA.out
      simp only [Value.agg.injEq, Array.mk.injEq, List.cons.injEq, and_true] at ea
      obtain ⟨rfl, rfl, rfl, rfl, rfl⟩ := ea
      obtain ⟨_, _, e, _, H⟩ := eb3
      simp only [Value.slice.injEq, true_and] at e
      obtain ⟨rfl, rfl⟩ := e
      obtain ⟨sb, so, x, rfl, q0, q1, q2, q3, hx⟩ := H k hlt
      have sbl : sb < w.heap.size := block_lt_of_cell q0
      have QW := Lib.hid (And.intro sbl (And.intro q1 q2))
      replace q1 := (HBW.out.cell (p := ⟨sb, so + k * 4 + 1, none⟩) (by simp; omega)).trans q1
      replace q2 := (HBW.out.cell (p := ⟨sb, so + k * 4 + 2, none⟩) (by simp; omega)).trans q2
      clear q0 q3 H eh es eb2 eb4 hx sbl
      have bd := atT_bd (okTr_yes HTO.out).2.1 (show k ≤ T.nS by omega)
      have sd := okSm_yes ((okTr_yes HTO.out).2.1 k hlt)
      obtain ⟨A, hA⟩ : ∃ A, A = atT T.S k := ⟨_, rfl⟩
      have hst : atT T.S (k + 1) = A + (T.S k).dur := by simp only [atT]; rw [← hA]
      have htv : timeL T F.sc k = [.int .i64 (showF T (A + (T.S k).shift) F.sc)] := by simp only [timeL, timeV]; rw [← hA]
      rw [← hA] at bd ⊢
      have g1 := bd.1
      have g2 : A ≤ 68719476736 := by omega
      have g3 := sd.2.1
      have g4 := sd.2.2.1
      have g5 := sd.2.2.2.1
      have g6 := sd.2.2.2.2
      have HST := Lib.hid hst
      have HTV := Lib.hid htv
      obtain ⟨t0, t1, t2, _, t4, _⟩ := HXT.out
      have f0 := HXF.out.k0
      have f1 := HXF.out.k1
      clear hst htv hA bd sd
      go_wp2_with fail
      refine Plan.wp_region_plan (fun w' => w'.cell? ⟨blf, 0, none⟩ = some (.int .i64 F.sc) ∧ w'.cell? ⟨blf, 1, none⟩ = some (.slice (some ⟨b, o, none⟩) F.nT c) ∧ w'.cell? ⟨bt, 0, none⟩ = some (.string T.h) ∧ w'.cell? ⟨bt, 1, none⟩ = some (.int .i64 T.sc) ∧ w'.cell? ⟨bt, 2, none⟩ = some (.slice a2 T.nC d2) ∧ w'.cell? ⟨bt, 3, none⟩ = some (.slice (some ⟨sb, so, none⟩) T.nS d3) ∧ w'.cell? ⟨bt, 4, none⟩ = some (.slice a4 T.nE d4) ∧ w'.cell? ⟨sb, so + k * 4 + 1, none⟩ = some (.int .i64 (T.S k).dur) ∧ w'.cell? ⟨sb, so + k * 4 + 2, none⟩ = some (.int .i64 (T.S k).shift)) (([0, 1, 2, 3, 4, 5, 6, 7, 8, 9, 10].map (·, true)) ++ (([11, 12, 13].map (·, false)) ++ (([14].map (·, true))))) (by kernel_rfl) (by kernel_rfl) (by kernel_rfl) ⟨f0, f1, t0, t1, t2, t3, t4, q1, q2⟩ ?_
      refine' Plan.plan_seg _ [0, 1, 2, 3, 4, 5, 6, 7, 8, 9, 10] (([11, 12, 13].map (·, false)) ++ (([14].map (·, true)))) (by kernel_rfl) (by kernel_rfl) rfl (by exact ⟨f0, f1, t0, t1, t2, t3, t4, q1, q2⟩) (fun wx hS => ?_) ?_
      rotate_left
      · obtain ⟨z0, z1, z2, z3, z4, z5, z6, z7, z8⟩ := hS
        go_light
        iterate 11 (apply Plan.seg_pick; rfl; intro K hK; go_wp)
        exact Plan.seg_nil
      refine Plan.plan_of_effect rfl (fun K hK => ?_)
      go_wp2_with fail
      refine (shown_any _ T _ F.sc _ _ (HTA.out.below HBW.out.drew) HTO.out ?_ ?_ HFO.out.1.1 HFO.out.1.2.1 ⟨_, rfl, _, _, _, rfl⟩).mono ?_
      · omega
      · omega
      rintro e w5 ⟨rfl, hb5⟩
      replace hb5 : Below wr.heap.size wr w5 := (Below.refl wr.heap.size wr).drew.trans hb5
      replace f0 := (hb5.cell (block_lt_of_cell f0)).trans f0
      replace f1 := (hb5.cell (block_lt_of_cell f1)).trans f1
      replace t0 := (hb5.cell (block_lt_of_cell t0)).trans t0
      replace t1 := (hb5.cell (block_lt_of_cell t1)).trans t1
      replace t2 := (hb5.cell (block_lt_of_cell t2)).trans t2
      replace t3 := (hb5.cell (block_lt_of_cell t3)).trans t3
      replace t4 := (hb5.cell (block_lt_of_cell t4)).trans t4
      replace q1 := (hb5.cell (block_lt_of_cell q1)).trans q1
      replace q2 := (hb5.cell (block_lt_of_cell q2)).trans q2
      have HB5 := Lib.hid hb5
      clear hb5
      go_wp2_with fail
      refine ⟨⟨f0, f1, t0, t1, t2, t3, t4, q1, q2⟩, ?_⟩
      refine Plan.plan_of_effect rfl (fun K hK => ?_)
      go_wp2_with fail
      obtain ⟨Z, hZ⟩ : ∃ Z, Z = showF T (A + (T.S k).shift) F.sc := ⟨_, rfl⟩
      rw [← hZ]
      obtain ⟨w6, hw6⟩ : ∃ x, x = w5.alloc (.cells #[.int .i64 Z] 2) := ⟨_, rfl⟩
      rw [← hw6]
      have hb56 : Below w5.heap.size w5 w6 := by rw [hw6]; exact below_box _ _
      have p0 : w6.cell? ⟨w5.heap.size, 0, none⟩ = some (.int .i64 Z) := by rw [hw6]; simp [go_sem]
      replace f0 := (hb56.cell (block_lt_of_cell f0)).trans f0
      replace f1 := (hb56.cell (block_lt_of_cell f1)).trans f1
      replace t0 := (hb56.cell (block_lt_of_cell t0)).trans t0
      replace t1 := (hb56.cell (block_lt_of_cell t1)).trans t1
      replace t2 := (hb56.cell (block_lt_of_cell t2)).trans t2
      replace t3 := (hb56.cell (block_lt_of_cell t3)).trans t3
      replace t4 := (hb56.cell (block_lt_of_cell t4)).trans t4
      replace q1 := (hb56.cell (block_lt_of_cell q1)).trans q1
      replace q2 := (hb56.cell (block_lt_of_cell q2)).trans q2
      have hb6 : Below wr.heap.size wr w6 := HB5.out.trans (hb56.mono HB5.out.size)
      have HB6 := Lib.hid hb6
      have HZ := Lib.hid hZ
      have hs6 : B ≤ w6.heap.size := by have := hb6.size; omega
      clear hw6 hb6 hb56 hZ
      refine ⟨⟨f0, f1, t0, t1, t2, t3, t4, q1, q2⟩, ?_⟩
      refine Plan.plan_of_effect rfl (fun K hK => ?_)
      refine wpList_app w6 rfl (.tmp 34) (.tmp 46) 51 2 1 8 _ Try.underlying51 info2 rfl (by decide) (by decide) rfl B k w5.heap.size (.slice va vm vc) _ [.int .i64 Z] (by simp [go_sem]) (owns_below HO.out HB6.out) (by simp [go_sem]) rfl (fun j u hj => by
        match j, hj with
        | 0, hj => simp at hj; rw [← hj]; exact p0
        | j + 1, hj => simp at hj) (by simp [Value.oneCell']) (by omega) hs6 ?_
      intro v' w7 hv' hb7
      have hv7 : Below B wr w7 := (HB6.out.mono hsz).trans hb7
      obtain ⟨va', vm', vc', rfl⟩ := owns_shape hv'
      have xt7 := HXT.out.far hv7 (by omega)
      have xf7 := HXF.out.far hv7 (by omega)
      have hb37 := HBW.out.trans (hv7.mono hnw)
      have hv7s : B ≤ w7.heap.size := by have := hv7.size; omega
      have HV7 := Lib.hid (And.intro hv' (And.intro xt7 (And.intro xf7 hb37)))
      obtain ⟨t0, t1, t2, t3, t4, _⟩ := xt7
      have f0 := xf7.k0
      have f1 := xf7.k1
      replace q1 := (hb37.cell (p := ⟨sb, so + k * 4 + 1, none⟩) (by simpa using QW.out.1)).trans QW.out.2.1
      replace q2 := (hb37.cell (p := ⟨sb, so + k * 4 + 2, none⟩) (by simpa using QW.out.1)).trans QW.out.2.2
      clear hv' hb7 xf7 hb37 hv7 p0
      go_wp2_with fail
      refine ⟨⟨f0, f1, t0, t1, t2, t3, t4, q1, q2⟩, ?_⟩
      refine' Plan.plan_seg _ [14] ([]) (by kernel_rfl) (by kernel_rfl) rfl (by exact ⟨f0, f1, t0, t1, t2, t3, t4, q1, q2⟩) (fun wx hS => ?_) ?_
      rotate_left
      · obtain ⟨z0, z1, z2, z3, z4, z5, z6, z7, z8⟩ := hS
        go_light
        iterate 1 (apply Plan.seg_pick; rfl; intro K hK; go_wp)
        exact Plan.seg_nil
      refine Plan.plan_done ?_
      go_wp2_with fail
      go_roundw
      case rel =>
        have e : rowsOf (timeL T F.sc) (k + 1) = rowsOf (timeL T F.sc) k ++ [.int .i64 Z] := by
          simp only [rowsOf]; rw [HTV.out, HZ.out]
        refine ⟨k + 1, by omega, by go_num, by rw [HST.out], HV7.out.2.1, HV7.out.2.2.1, by rw [e]; exact HV7.out.1, HV7.out.2.2.2, hv7s⟩
      case measure => simp [intOf]; omega
    · obtain rfl : k = T.nS := by omega
      go_wp2_with fail
      go_ret2
      exact HPO.out _ _ HBW.out (owns_mono HO.out hnw)
end Go.Proofs.Ytkhjkemllgjfmaa

/- Take of no bytes; awake. -/
namespace Go.Proofs.Ytkhjkemllgjfmaa
open Go.RowKit
set_option linter.unusedVariables false

theorem idle47 (p q : Addr) (w : World) : CallsD Try.prog 47 #[.pointer (some p), .pointer (some q)] .returning w fun e u' w' => e = .returned (.tuple #[]) ∧ u' = .returning ∧ w' = w := by
  refine callsD_of_wpS Try.func47 rfl fun c₀ cs hu => ?_
  apply wpS_seq
  apply wpS_region
  simp [wpOpsS, go_sem, recoverD, hu, Try.ntmps47, Exit.thenS]
  refine wpS_cond (t := false) (by simp [Act.eval, Array.replicate]) ?_
  simp only [Bool.false_eq_true, if_false]
  refine wpS_of_wp (wp_skip ?_)
  cases c₀
  simp_all [bodyPostS, results, Try.results47]

set_option maxHeartbeats 1000000 in
theorem bytype_zero (ao : Option Addr) (c : Nat) (w : World) :
    Calls Try.prog 48 #[.slice ao 0 c] w fun e w' => ∃ b, e = .returned (.map (some b)) ∧ w'.heap[b]? = some (.map #[] 0) ∧ Below w.heap.size w w' := by
  have hmm := @run_makeMap Try.prog
  go_enter Try.func48, Try.ntmps48
  go_wp2_with fail
  refine wp_loop_rounds 1 ?_
  rw [rounds_succ]
  go_wp2_with fail
  go_ret
  exact ⟨_, rfl, (MapKept.heap_alloc w _).1, below_box _ _⟩

/-- How the empty slice of boxes reads. -/
def nilR (v : Value) : Option (DataW Unit × List MemPlace) := match v with
  | .slice none 0 0 => some (.nil, [])
  | _ => none
theorem nilR_eq {v : Value} {x : DataW Unit × List MemPlace} (h : nilR v = some x) : v = .slice none 0 0 := by
  unfold nilR at h
  split at h
  · rfl
  · cases h
theorem look_moov (b : Nat) (w : World) (h : w.heap[b]? = some (.map #[] 0)) : (Instr.lookup 94 (.map (some b)) (.string { data := #[109, 111, 111, 118] }) false).run Try.prog w = .ok (.slice none 0 0) w := by
  have hown : w.ownsMap Try.prog 9 nilR b 0 (.map []) := ⟨#[], 0, h, ⟨by simp, MapKept.stamped_empty 0, by simp⟩, Nat.le_refl _, rfl⟩
  obtain ⟨v, ps, hrun, hv⟩ := hown.lookup (Maps.string_keyed Try.underlying9) Try.underlying94 (z := .slice none 0 0) (by kernel_rfl) (zd := .nil) (zp := []) rfl (WideMaps.keyOf_string_mk Try.underlying9 (s := { data := #[109, 111, 111, 118] }) (by decide))
  rw [nilR_eq hv] at hrun
  exact hrun

set_option maxRecDepth 100000 in
set_option maxHeartbeats 1000000 in
theorem take_nil (w : World) : Calls Try.prog 25 #[.slice none 0 0] w fun e w' => e = .returned (.tuple #[.agg #[.int .i64 0, .slice none 0 0], .int .i64 7]) ∧ Below w.heap.size w w' := by
  have hmf : ∀ (fn : Fn) (first cap : Array Value) (w : World), (Instr.makeFunc fn first cap).run Try.prog w = .ok (.func fn first cap) w := fun _ _ _ _ => rfl
  go_enter_defers Try.func25, Try.ntmps25
  go_wp2_with fail
  obtain ⟨w1, hw⟩ : ∃ x, x = (w.alloc (.cells #[.int .i64 0, .slice none 0 0] 56)).alloc (.cells #[.int .i64 0] 24) := ⟨_, rfl⟩
  rw [← hw]
  have hE : Below w.heap.size w w1 := by rw [hw]; go_grown
  have f0 : w1.cell? ⟨w.heap.size, 0, none⟩ = some (.int .i64 0) := by rw [hw]; simp [go_sem]
  have f1 : w1.cell? ⟨w.heap.size, 1, none⟩ = some (.slice none 0 0) := by rw [hw]; simp [go_sem]
  have fz : ∀ o, w1.frozen? ⟨w.heap.size, o, none⟩ = false := fun o => by rw [hw]; simp [go_sem]
  have ce : C1 w1 (w.heap.size + 1) (.int .i64 0) := by rw [hw]; exact ⟨by simp [go_sem], by simp [go_sem]⟩
  have HB := Lib.hid hE
  have HS := Lib.hid (show w1.heap.size = w.heap.size + 2 by rw [hw]; simp)
  clear hw hE
  refine (boxes_zero none 0 (fun _ => 0) w1).mono ?_
  rintro e w2 ⟨v, c, rfl, hb, hres⟩
  rw [if_neg (by omega)] at hres
  obtain ⟨k, hwk, hng, hc, _, ho⟩ := hres
  have hk0 : k = 0 := by
    rcases Nat.eq_zero_or_pos k with h | h
    · exact h
    · have := (hwk 0 h).1
      simp at this
  subst hk0
  have hc0 : c = 0 := by rw [hc]; rfl
  subst hc0
  have hv : ∃ a m, v = .slice a 0 m := by
    rcases (ho rfl).2 with ⟨rfl, _⟩ | ⟨g, cap, cur, rfl, _⟩
    · exact ⟨_, _, rfl⟩
    · exact ⟨_, _, rfl⟩
  obtain ⟨va, vm, rfl⟩ := hv
  have lt : ∀ j, j < 2 → w.heap.size + j < w1.heap.size := fun j hj => by rw [HS.out]; omega
  have hb0 : Below w1.heap.size w1 w2 := hb
  replace f0 := (hb0.cell (p := ⟨w.heap.size, 0, none⟩) (lt 0 (by omega))).trans f0
  replace f1 := (hb0.cell (p := ⟨w.heap.size, 1, none⟩) (lt 0 (by omega))).trans f1
  replace fz : ∀ o, w2.frozen? ⟨w.heap.size, o, none⟩ = false := fun o => (hb0.frozen (p := ⟨w.heap.size, o, none⟩) (lt 0 (by omega))).trans (fz o)
  have e0 := (ce.below hb0).k0
  have ez := (ce.below hb0).fz
  replace HB := Lib.hid (HB.out.trans (hb0.mono HB.out.size))
  have HS2 := Lib.hid (show w.heap.size + 2 ≤ w2.heap.size by have := hb0.size; rw [HS.out] at this; exact this)
  clear hwk hng hc ho hb hb0 ce lt
  go_wp2_with fail
  obtain ⟨w3, hw⟩ : ∃ x, x = w2.setCell ⟨w.heap.size + 1, 0, none⟩ (.int .i64 0) := ⟨_, rfl⟩
  rw [← hw]
  replace f0 : w3.cell? ⟨w.heap.size, 0, none⟩ = some (.int .i64 0) := by rw [hw, World.cell?_setCell_far _ _ _ _ (by simp)]; exact f0
  replace f1 : w3.cell? ⟨w.heap.size, 1, none⟩ = some (.slice none 0 0) := by rw [hw, World.cell?_setCell_far _ _ _ _ (by simp)]; exact f1
  replace fz : ∀ o, w3.frozen? ⟨w.heap.size, o, none⟩ = false := fun o => by rw [hw, World.frozen?_setCell]; exact fz o
  have e1 : w3.cell? ⟨w.heap.size + 1, 0, none⟩ = some (.int .i64 0) := by rw [hw]; simp [go_sem, e0]
  replace ez : w3.frozen? ⟨w.heap.size + 1, 0, none⟩ = false := by rw [hw, World.frozen?_setCell]; exact ez
  replace HB := Lib.hid (show Below w.heap.size w w3 by rw [hw]; exact HB.out.setCell (by simp) _)
  have hs3 : w.heap.size + 2 ≤ w3.heap.size := by rw [hw, World.size_setCell]; exact HS2.out
  clear hw e0 HS2
  refine (bytype_zero va vm w3).mono ?_
  rintro e w4 ⟨bm, rfl, hmap, hb⟩
  have lt : ∀ j, j < 2 → w.heap.size + j < w3.heap.size := fun j hj => by omega
  replace f0 := (hb.cell (p := ⟨w.heap.size, 0, none⟩) (lt 0 (by omega))).trans f0
  replace f1 := (hb.cell (p := ⟨w.heap.size, 1, none⟩) (lt 0 (by omega))).trans f1
  replace fz : ∀ o, w4.frozen? ⟨w.heap.size, o, none⟩ = false := fun o => (hb.frozen (p := ⟨w.heap.size, o, none⟩) (lt 0 (by omega))).trans (fz o)
  replace e1 := (hb.cell (p := ⟨w.heap.size + 1, 0, none⟩) (lt 1 (by omega))).trans e1
  replace ez := (hb.frozen (p := ⟨w.heap.size + 1, 0, none⟩) (lt 1 (by omega))).trans ez
  replace HB := Lib.hid (HB.out.trans (hb.mono HB.out.size))
  have hlk := look_moov bm w4 hmap
  clear hmap hb hs3 lt
  go_wp2_with fail
  refine leaves_cons (f := 47) (args := #[.pointer (some ⟨w.heap.size, 0, none⟩), .pointer (some ⟨w.heap.size + 1, 0, none⟩)]) (by simp) (by simp [go_sem]) ?_
  refine (idle47 _ _ _).mono ?_
  rintro e u' w'' ⟨rfl, rfl, rfl⟩
  simp [Leaves, settle, results, Try.results25, go_sem, f0, f1, e1]
  have hB := HB.out
  go_grown

def f8 (i : Nat) : Int := [0, 0, 0, 8, 102, 114, 101, 101].getD i 0

set_option maxRecDepth 100000 in
set_option maxHeartbeats 1000000 in
theorem awake_any (w : World) : Calls Try.prog 12 #[] w fun e w' => e = .returned (.bool true) ∧ Below w.heap.size w w' := by
  go_enter Try.func12, Try.ntmps12
  go_wp2_with fail
  obtain ⟨w1, hw⟩ : ∃ x, x = w.alloc (.cells #[.int .u8 0, .int .u8 0, .int .u8 0, .int .u8 8, .int .u8 102, .int .u8 114, .int .u8 101, .int .u8 101] 5) := ⟨_, rfl⟩
  rw [← hw]
  have hE : Below w.heap.size w w1 := by rw [hw]; exact below_box _ _
  have hba : BA w1 (.slice (some ⟨w.heap.size, 0, none⟩) 8 8) 8 f8 := by
    refine BA.mk (Nat.le_refl _) (fun i hi => ?_) (fun i hi => ?_)
    · rw [hw]
      rcases (show i = 0 ∨ i = 1 ∨ i = 2 ∨ i = 3 ∨ i = 4 ∨ i = 5 ∨ i = 6 ∨ i = 7 by omega) with rfl | rfl | rfl | rfl | rfl | rfl | rfl | rfl <;> simp [go_sem, f8]
    · rcases (show i = 0 ∨ i = 1 ∨ i = 2 ∨ i = 3 ∨ i = 4 ∨ i = 5 ∨ i = 6 ∨ i = 7 by omega) with rfl | rfl | rfl | rfl | rfl | rfl | rfl | rfl <;> simp [f8]
  clear hw
  refine (boxes_any _ 8 _ 0 8 w1 hba (by omega)).mono ?_
  rintro e w2 ⟨v, c, rfl, hb, hres⟩
  rw [if_neg (by decide)] at hres
  obtain ⟨k, hwk, hng, hc, _, ho⟩ := hres
  have hk : k = 1 := by
    refine hwk.unique (fun j hj => ?_) hng ?_
    · obtain rfl : j = 0 := by omega
      exact ⟨by decide, by decide +kernel, by decide +kernel⟩
    · intro h
      exact absurd h.1 (by decide +kernel)
  subst hk
  have hc0 : c = 0 := by rw [hc]; decide +kernel
  subst hc0
  have ho' := ho rfl
  obtain ⟨g, cp, rfl, hcp, hcell⟩ := owns_open ho' (by omega)
  have x0 : w2.cell? ⟨g, 0, none⟩ = some (.string { data := #[102, 114, 101, 101] }) := hcell 0 _ rfl
  have x3 : w2.cell? ⟨g, 3, none⟩ = some (.int .i64 8) := by
    have h3 := hcell 3 (.int .i64 (((pos f8 0 0 : Nat) : Int) + numI f8 (pos f8 0 0))) rfl
    rw [show ((pos f8 0 0 : Nat) : Int) + numI f8 (pos f8 0 0) = 8 from by decide +kernel] at h3
    exact h3
  have HB := Lib.hid (hE.trans (hb.mono hE.size))
  clear hwk hng hc ho ho' hcell hb hba hE
  go_wp2_with fail
  refine (take_nil w2).mono ?_
  rintro e w3 ⟨rfl, hb⟩
  have y0 := (hb.cell (block_lt_of_cell x0)).trans x0
  have y3 := (hb.cell (block_lt_of_cell x3)).trans x3
  replace HB := Lib.hid (HB.out.trans (hb.mono HB.out.size))
  have lg := block_lt_of_cell y0
  clear x0 x3 hb
  go_wp2_with fail
  go_ret
  have hB := HB.out
  exact ⟨ret_bool (by simp), by go_grown; exact HB.out.size⟩


end Go.Proofs.Ytkhjkemllgjfmaa

/- The contract of the statements' light. -/
namespace Go.Proofs.Ytkhjkemllgjfmaa
open Go.RowKit
set_option linter.unusedVariables false

theorem lightF_no {F : Fl} {i : Nat} (hi : i < F.nT) (h : lightT (F.T i) = false) : lightF F = false := by
  unfold lightF; rw [all_range_no hi h, Bool.and_false]
theorem lightT_no {T : Tr} {j : Nat} (hj : j < T.nS) (h : 500 < (T.S j).n) : lightT T = false := by
  unfold lightT; rw [all_range_no hj (by simp; omega), Bool.and_false]

set_option maxRecDepth 100000 in
set_option maxHeartbeats 4000000 in
theorem light_any (v : Value) (F : Fl) (w : World) (hv : FA w v F) (hm : F.nT ≤ 9223372036854775807) :
    Calls Try.prog 13 #[v] w fun e w' => e = .returned (.bool (lightF F)) ∧ Below w.heap.size w w' := by
  obtain ⟨ts, rfl, hts⟩ := hv
  obtain ⟨ao, c, rfl⟩ := hts.shape
  have HT := Lib.hid hts
  clear hts
  by_cases h6 : 6 < F.nT
  · have HL := Lib.hid (show lightF F = false by unfold lightF; rw [show decide (F.nT ≤ 6) = false by simp; omega, Bool.false_and])
    have h6' : (6 : Int) < (F.nT : Int) := by omega
    go_enter Try.func13, Try.ntmps13
    go_wp2_with fail
    go_ret
    exact ⟨ret_bool HL.out.symm, below_box _ _⟩
  have h6' : ¬ (6 : Int) < (F.nT : Int) := by omega
  go_enter Try.func13, Try.ntmps13
  go_wp2_with fail
  obtain ⟨w1, hw⟩ : ∃ x, x = w.alloc (.cells #[.int .i64 F.sc, .slice ao F.nT c] 37) := ⟨_, rfl⟩
  rw [← hw]
  have hE : Below w.heap.size w w1 := by rw [hw]; exact below_box _ _
  have y1 : w1.cell? ⟨w.heap.size, 1, none⟩ = some (.slice ao F.nT c) := by rw [hw]; simp [go_sem]
  have hs1 : w.heap.size < w1.heap.size := by rw [hw]; simp
  have HB := Lib.hid hE
  clear hw hE
  go_loopw [3] (fun i wr => ∃ k : Nat, k ≤ F.nT ∧ i = .int .i64 (k : Int) ∧ Below w1.heap.size w1 wr ∧ Hid (∀ i, i < k → lightT (F.T i) = true)) (fun i _ => F.nT - (intOf i).toNat)
  case atStart => exact ⟨0, Nat.zero_le _, rfl, Below.refl _ _, Lib.hid (fun i hi => absurd hi (Nat.not_lt_zero i))⟩
  case round =>
    obtain ⟨k, hk, rfl, hb, HA⟩ := hrel
    have z1 := (hb.cell (p := ⟨w.heap.size, 1, none⟩) hs1).trans y1
    have HBW := Lib.hid hb
    clear hb
    by_cases hlt : k < F.nT
    · have hb2 := HB.out.trans (HBW.out.mono HB.out.size)
      have hts := HT.out.below hb2
      obtain ⟨ao', c', e, hcc, H⟩ := hts
      simp only [Value.slice.injEq, true_and] at e
      obtain ⟨rfl, rfl⟩ := e
      obtain ⟨b, o, c0, c1, c2, c3, c4, rfl, h0, h1, h2, h3, h4, hc⟩ := H k hlt
      obtain ⟨e0, e1, b2, b3, b4⟩ := hc
      obtain ⟨a2, d2, rfl⟩ := b2.shape
      obtain ⟨a3, d3, rfl⟩ := b3.shape
      obtain ⟨a4, d4, rfl⟩ := b4.shape
      subst e0
      subst e1
      obtain ⟨T, hT⟩ : ∃ T, T = F.T k := ⟨_, rfl⟩
      rw [← hT] at h0 h1 h2 h3 h4 b2 b3 b4
      have ET := Lib.hid hT
      have HB3 := Lib.hid b3
      clear hT b2 b3 b4 H
      have NO := Lib.hid (fun (h : lightT T = false) => (lightF_no hlt (by rw [← ET.out]; exact h)))
      by_cases q1 : 20 < T.h.size
      · have HL := Lib.hid (NO.out (by unfold lightT; simp; omega))
        have q1' : (20 : Int) < (T.h.size : Int) := by omega
        go_wp2_with fail
        go_ret
        exact ⟨ret_bool HL.out.symm, hb2.alloc hb2.size _⟩
      have q1' : ¬ (20 : Int) < (T.h.size : Int) := by omega
      have q1d : decide (20 < T.h.size) = false := by simpa using q1
      by_cases q2 : 5000 < T.nC
      · have HL := Lib.hid (NO.out (by unfold lightT; simp; omega))
        have q2' : (5000 : Int) < (T.nC : Int) := by omega
        have q2d : decide (5000 < T.nC) = true := by simpa using q2
        go_wp2_with fail
        go_ret
        exact ⟨ret_bool HL.out.symm, hb2.alloc hb2.size _⟩
      have q2' : ¬ (5000 : Int) < (T.nC : Int) := by omega
      have q2d : decide (5000 < T.nC) = false := by simpa using q2
      by_cases q3 : 40 < T.nS
      · have HL := Lib.hid (NO.out (by unfold lightT; simp; omega))
        have q3' : (40 : Int) < (T.nS : Int) := by omega
        have q3d : decide (40 < T.nS) = true := by simpa using q3
        go_wp2_with fail
        go_ret
        exact ⟨ret_bool HL.out.symm, hb2.alloc hb2.size _⟩
      have q3' : ¬ (40 : Int) < (T.nS : Int) := by omega
      have q3d : decide (40 < T.nS) = false := by simpa using q3
      by_cases q4 : 70 < T.nE
      · have HL := Lib.hid (NO.out (by unfold lightT; simp; omega))
        have q4' : (70 : Int) < (T.nE : Int) := by omega
        have q4d : decide (70 < T.nE) = true := by simpa using q4
        go_wp2_with fail
        go_ret
        exact ⟨ret_bool HL.out.symm, hb2.alloc hb2.size _⟩
      have q4' : ¬ (70 : Int) < (T.nE : Int) := by omega
      have q4d : decide (70 < T.nE) = false := by simpa using q4
      have HB2 := Lib.hid hb2
      have HSZ := Lib.hid (show w.heap.size < wr.heap.size by have := HBW.out.size; omega)
      go_wp2_with fail
      obtain ⟨w5, hw⟩ : ∃ x, x = wr.alloc (.cells #[.string T.h, .int .i64 T.sc, .slice a2 T.nC d2, .slice a3 T.nS d3, .slice a4 T.nE d4] 48) := ⟨_, rfl⟩
      rw [← hw]
      have hE : Below wr.heap.size wr w5 := by rw [hw]; exact below_box _ _
      have t3 : w5.cell? ⟨wr.heap.size, 3, none⟩ = some (.slice a3 T.nS d3) := by rw [hw]; simp [go_sem]
      obtain ⟨blt, hblt⟩ : ∃ z, z = wr.heap.size := ⟨_, rfl⟩
      have ht5 : blt < w5.heap.size := by rw [hw, hblt]; simp
      replace HB3 := Lib.hid (HB3.out.below hE)
      replace HBW := Lib.hid (HBW.out.trans (hE.mono HBW.out.size))
      rw [← hblt] at t3 ⊢
      clear hw hE hblt h0 h1 h2 h3 h4 z1 hb2 HB2 HSZ
      go_loopw [5] (fun i wx => ∃ j : Nat, j ≤ T.nS ∧ i = .int .i64 (j : Int) ∧ Below w5.heap.size w5 wx ∧ Hid (∀ i, i < j → (T.S i).n ≤ 500)) (fun i _ => T.nS - (intOf i).toNat)
      case atStart => exact ⟨0, Nat.zero_le _, rfl, Below.refl _ _, Lib.hid (fun i hi => absurd hi (Nat.not_lt_zero i))⟩
      case round =>
        obtain ⟨j, hj, rfl, hb, HJ⟩ := hrel
        have z3 := (hb.cell (p := ⟨blt, 3, none⟩) ht5).trans t3
        have HBX := Lib.hid hb
        clear hb
        by_cases hlj : j < T.nS
        · have hx3 := HB3.out.below HBX.out
          obtain ⟨ao', c', e, hcc', H⟩ := hx3
          simp only [Value.slice.injEq, true_and] at e
          obtain ⟨rfl, rfl⟩ := e
          obtain ⟨b', o', x, rfl, h0, _, _, _, hx⟩ := H j hlj
          obtain ⟨ax, dx, rfl⟩ := hx.shape
          clear H hx
          by_cases q5 : 500 < (T.S j).n
          · have HL := Lib.hid (NO.out (lightT_no hlj q5))
            have q5' : (500 : Int) < ((T.S j).n : Int) := by omega
            go_wp2_with fail
            go_ret
            exact ⟨ret_bool HL.out.symm, (HB.out.trans (HBW.out.mono HB.out.size)).trans (HBX.out.mono (by have := HB.out.size; have := HBW.out.size; omega))⟩
          have q5' : ¬ (500 : Int) < ((T.S j).n : Int) := by omega
          have HJ2 := Lib.hid (show ∀ i, i < j + 1 → (T.S i).n ≤ 500 from fun i hi => by
            by_cases e : i = j
            · subst e; omega
            · exact HJ.out i (by omega))
          go_wp2_with fail
          go_roundw
          case rel => exact ⟨j + 1, by omega, by go_num, HBX.out, HJ2⟩
          case measure => simp [intOf]; omega
        · obtain rfl : j = T.nS := by omega
          have HK := Lib.hid (show lightT T = true by
            unfold lightT
            simp only [Bool.and_eq_true, decide_eq_true_eq, all_range]
            exact ⟨⟨⟨⟨by omega, by omega⟩, by omega⟩, by omega⟩, HJ.out⟩)
          have HA2 := Lib.hid (all_step (p := fun i => lightT (F.T i)) HA.out (by rw [← ET.out]; exact HK.out))
          go_wp2_with fail
          go_roundw
          case rel => exact ⟨k + 1, by omega, by go_num, HBW.out.trans (HBX.out.mono HBW.out.size), HA2⟩
          case measure => simp [intOf]; omega
    · obtain rfl : k = F.nT := by omega
      have HL := Lib.hid (show lightF F = true by
        unfold lightF
        simp only [Bool.and_eq_true, decide_eq_true_eq, all_range]
        exact ⟨by omega, HA.out⟩)
      go_wp2_with fail
      go_ret
      exact ⟨ret_bool HL.out.symm, HB.out.trans (HBW.out.mono HB.out.size)⟩

end Go.Proofs.Ytkhjkemllgjfmaa

/- The contract of cutroomlaw18.IsomediaLocates: it answers true. -/
namespace Go.Proofs.Ytkhjkemllgjfmaa
open Go.RowKit
set_option linter.unusedVariables false

theorem light_at {F : Fl} (h : lightF F = true) {k : Nat} (hk : k < F.nT) : (F.T k).nC ≤ 5000 ∧ (F.T k).nS ≤ 40 ∧ (F.T k).nE ≤ 70 := by
  unfold lightF at h
  simp only [Bool.and_eq_true, decide_eq_true_eq, all_range] at h
  have h1 := h.2 k hk
  unfold lightT at h1
  simp only [Bool.and_eq_true, decide_eq_true_eq] at h1
  exact ⟨h1.1.1.1.2, h1.1.1.2, h1.1.2⟩

set_option maxRecDepth 100000 in
set_option maxHeartbeats 4000000 in
theorem law_locates (v : Value) (F : Fl) (kk t : Int) (w : World) (hv : FA w v F) (hm : F.nT ≤ 9223372036854775807) :
    Calls Try.prog 4 #[v, .int .i64 kk, .int .i64 t] w fun e w' => e = .returned (.bool true) ∧ Below w.heap.size w w' := by
  have hv0 := hv
  obtain ⟨ts, rfl, hts⟩ := hv
  obtain ⟨ao, c, rfl⟩ := hts.shape
  have HT := Lib.hid hts
  have HV := Lib.hid (hv0.below (below_box w (.cells #[.int .i64 F.sc, .slice ao F.nT c] 37)))
  clear hts hv0
  go_enter Try.func4, Try.ntmps4
  go_wp2_with fail
  refine (light_any _ F _ HV.out hm).mono ?_
  rintro e w1 ⟨rfl, hb⟩
  have y1 : w1.cell? ⟨w.heap.size, 1, none⟩ = some (.slice ao F.nT c) := (hb.cell (by simp)).trans (by simp [go_sem])
  have HB := Lib.hid (show Below w.heap.size w w1 from (below_box _ _).trans (hb.mono (by simp)))
  clear hb HV
  cases hl : lightF F
  · go_wp2_with fail
    refine (awake_any _).mono ?_
    rintro e wz ⟨rfl, hb5⟩
    have HB5 := Lib.hid hb5
    clear hb5
    go_wp2_with fail
    go_ret
    exact ⟨rfl, HB.out.trans (HB5.out.mono HB.out.size)⟩
  have HL := Lib.hid hl
  by_cases h0 : kk < 0
  · go_wp2_with fail
    refine (awake_any _).mono ?_
    rintro e wz ⟨rfl, hb5⟩
    have HB5 := Lib.hid hb5
    clear hb5
    go_wp2_with fail
    go_ret
    exact ⟨rfl, HB.out.trans (HB5.out.mono HB.out.size)⟩
  have h0' : 0 ≤ kk := by omega
  obtain ⟨k, rfl⟩ := Int.eq_ofNat_of_zero_le h0'
  clear h0 h0'
  by_cases h1 : F.nT ≤ k
  · have h1d : decide (F.nT ≤ k) = true := by simpa using h1
    go_wp2_with fail
    refine (awake_any _).mono ?_
    rintro e wz ⟨rfl, hb5⟩
    have HB5 := Lib.hid hb5
    clear hb5
    go_wp2_with fail
    go_ret
    exact ⟨rfl, HB.out.trans (HB5.out.mono HB.out.size)⟩
  have h1d : decide (F.nT ≤ k) = false := by simpa using h1
  have hk : k < F.nT := by omega
  obtain ⟨ao', c', e, hcc, H⟩ := HT.out.below HB.out
  simp only [Value.slice.injEq, true_and] at e
  obtain ⟨rfl, rfl⟩ := e
  obtain ⟨b, o, c0, c1, c2, c3, c4, rfl, t0, t1, t2, t3, t4, hc⟩ := H k hk
  obtain ⟨rfl, rfl, b2, b3, b4⟩ := hc
  obtain ⟨a2, d2, rfl⟩ := b2.shape
  obtain ⟨a3, d3, rfl⟩ := b3.shape
  obtain ⟨a4, d4, rfl⟩ := b4.shape
  have TT := Lib.hid (show TA w1 (.agg #[.string (F.T k).h, .int .i64 (F.T k).sc, .slice a2 (F.T k).nC d2, .slice a3 (F.T k).nS d3, .slice a4 (F.T k).nE d4]) (F.T k) from ⟨_, _, _, _, _, rfl, ⟨rfl, rfl, b2, b3, b4⟩⟩)
  obtain ⟨blf, hblf⟩ : ∃ z, z = w.heap.size := ⟨_, rfl⟩
  rw [← hblf] at y1 ⊢
  clear H b2 b3 b4 hblf
  go_wp2_with fail
  refine Plan.wp_region_plan (fun w' => w'.cell? ⟨blf, 1, none⟩ = some (.slice (some ⟨b, o, none⟩) F.nT c) ∧ w'.cell? ⟨b, o + k * 5, none⟩ = some (.string (F.T k).h) ∧ w'.cell? ⟨b, o + k * 5 + 1, none⟩ = some (.int .i64 (F.T k).sc) ∧ w'.cell? ⟨b, o + k * 5 + 2, none⟩ = some (.slice a2 (F.T k).nC d2) ∧ w'.cell? ⟨b, o + k * 5 + 3, none⟩ = some (.slice a3 (F.T k).nS d3) ∧ w'.cell? ⟨b, o + k * 5 + 4, none⟩ = some (.slice a4 (F.T k).nE d4)) (([0].map (·, false)) ++ (([1, 2, 3, 4, 5, 6, 8, 10, 11, 12, 13, 14, 15].map (·, true)) ++ (([7, 9, 16].map (·, false)) ++ (([17, 18, 19].map (·, true)))))) (by kernel_rfl) (by kernel_rfl) (by kernel_rfl) ⟨y1, t0, t1, t2, t3, t4⟩ ?_
  refine Plan.plan_of_effect rfl (fun K hK => ?_)
  go_wp2_with fail
  refine (awake_any _).mono ?_
  rintro e w2 ⟨rfl, hb⟩
  have hdr := (Below.refl w1.heap.size w1).drew.trans hb
  replace y1 := (hdr.cell (block_lt_of_cell y1)).trans y1
  replace t0 := (hdr.cell (block_lt_of_cell t0)).trans t0
  replace t1 := (hdr.cell (block_lt_of_cell t1)).trans t1
  replace t2 := (hdr.cell (block_lt_of_cell t2)).trans t2
  replace t3 := (hdr.cell (block_lt_of_cell t3)).trans t3
  replace t4 := (hdr.cell (block_lt_of_cell t4)).trans t4
  replace TT := Lib.hid (TT.out.below hdr)
  replace HB := Lib.hid (HB.out.trans (hdr.mono HB.out.size))
  clear hb hdr
  go_wp2_with fail
  refine ⟨⟨y1, t0, t1, t2, t3, t4⟩, ?_⟩
  refine' Plan.plan_seg _ [1, 2, 3, 4, 5, 6, 8, 10, 11, 12, 13, 14, 15] (([7, 9, 16].map (·, false)) ++ (([17, 18, 19].map (·, true)))) (by kernel_rfl) (by kernel_rfl) rfl (by exact ⟨y1, t0, t1, t2, t3, t4⟩) (fun wx hS => ?_) ?_
  rotate_left
  · obtain ⟨z0, z1, z2, z3, z4, z5⟩ := hS
    go_light
    iterate 13 (apply Plan.seg_pick; rfl; intro K hK; go_wp)
    exact Plan.seg_nil
  refine Plan.plan_of_effect rfl (fun K hK => ?_)
  go_wp2_with fail
  refine (track_any _ (F.T k) w2 TT.out (by have := light_at HL.out hk; omega) (by have := light_at HL.out hk; omega)).mono ?_
  rintro e w3 ⟨r, rfl, hta, hb⟩
  have TR := Lib.hid hta
  replace y1 := (hb.cell (block_lt_of_cell y1)).trans y1
  replace t0 := (hb.cell (block_lt_of_cell t0)).trans t0
  replace t1 := (hb.cell (block_lt_of_cell t1)).trans t1
  replace t2 := (hb.cell (block_lt_of_cell t2)).trans t2
  replace t3 := (hb.cell (block_lt_of_cell t3)).trans t3
  replace t4 := (hb.cell (block_lt_of_cell t4)).trans t4
  replace TT := Lib.hid (TT.out.below hb)
  replace HB := Lib.hid (HB.out.trans (hb.mono HB.out.size))
  clear hb hta
  go_wp2_with fail
  refine ⟨⟨y1, t0, t1, t2, t3, t4⟩, ?_⟩
  refine Plan.plan_of_effect rfl (fun K hK => ?_)
  go_wp2_with fail
  refine (locate_any r (F.T k) t w3 TR.out).mono ?_
  rintro e w4 ⟨rfl, hb⟩
  replace y1 := (hb.cell (block_lt_of_cell y1)).trans y1
  replace t0 := (hb.cell (block_lt_of_cell t0)).trans t0
  replace t1 := (hb.cell (block_lt_of_cell t1)).trans t1
  replace t2 := (hb.cell (block_lt_of_cell t2)).trans t2
  replace t3 := (hb.cell (block_lt_of_cell t3)).trans t3
  replace t4 := (hb.cell (block_lt_of_cell t4)).trans t4
  replace TT := Lib.hid (TT.out.below hb)
  replace HB := Lib.hid (HB.out.trans (hb.mono HB.out.size))
  clear hb TR
  go_wp2_with fail
  refine ⟨⟨y1, t0, t1, t2, t3, t4⟩, ?_⟩
  refine Plan.plan_of_effect rfl (fun K hK => ?_)
  go_wp2_with fail
  refine (rlocate_any _ (F.T k) t w4 TT.out (by have := light_at HL.out hk; omega)).mono ?_
  rintro e w5 ⟨rfl, hb⟩
  replace y1 := (hb.cell (block_lt_of_cell y1)).trans y1
  replace t0 := (hb.cell (block_lt_of_cell t0)).trans t0
  replace t1 := (hb.cell (block_lt_of_cell t1)).trans t1
  replace t2 := (hb.cell (block_lt_of_cell t2)).trans t2
  replace t3 := (hb.cell (block_lt_of_cell t3)).trans t3
  replace t4 := (hb.cell (block_lt_of_cell t4)).trans t4
  replace TT := Lib.hid (TT.out.below hb)
  replace HB := Lib.hid (HB.out.trans (hb.mono HB.out.size))
  clear hb
  go_wp2_with fail
  refine ⟨⟨y1, t0, t1, t2, t3, t4⟩, ?_⟩
  refine' Plan.plan_seg _ [17, 18, 19] ([]) (by kernel_rfl) (by kernel_rfl) rfl (by exact ⟨y1, t0, t1, t2, t3, t4⟩) (fun wx hS => ?_) ?_
  rotate_left
  · obtain ⟨z0, z1, z2, z3, z4, z5⟩ := hS
    go_light
    iterate 3 (apply Plan.seg_pick; rfl; intro K hK; go_wp)
    exact Plan.seg_nil
  refine Plan.plan_done ?_
  go_wp2_with fail
  go_ret
  exact ⟨ret_bool (by simp), HB.out⟩

end Go.Proofs.Ytkhjkemllgjfmaa

/- The contract of cutroomlaw18.IsomediaTimes: it answers true. -/
namespace Go.Proofs.Ytkhjkemllgjfmaa
open Go.RowKit
set_option linter.unusedVariables false

/-- Two slices of numbers that hold the same. -/
def Same1 (w : World) (n : Nat) (a1 a2 : Option Addr) : Prop := ∀ i, i < n → ∃ g1 g2 z, a1 = some ⟨g1, 0, none⟩ ∧ a2 = some ⟨g2, 0, none⟩ ∧ w.cell? ⟨g1, i, none⟩ = some (.int .i64 z) ∧ w.cell? ⟨g2, i, none⟩ = some (.int .i64 z)
theorem row_zero {w : World} {B E : Nat} {v : Value} {xs : List Value} (r1 : w.ownsRow B E 1 v 0 xs) : ∃ a m, v = .slice a 0 m := by
  rcases r1.2 with ⟨rfl, _⟩ | ⟨g, cap, cur, rfl, _⟩
  · exact ⟨_, _, rfl⟩
  · exact ⟨_, _, rfl⟩
theorem both_times (wa w1 wb w2 : World) (F : Fl) (kk : Int) (e1 e2 : Ending) (hab : Below w1.heap.size w1 wb) (h1 : PresPost wa F kk e1 w1) (h2 : PresPost wb F kk e2 w2) :
    ∃ c m a1 c1 a2 c2, e1 = .returned (.tuple #[.slice a1 m c1, .int .i64 c]) ∧ e2 = .returned (.tuple #[.slice a2 m c2, .int .i64 c]) ∧ m ≤ 4096 ∧ Below wa.heap.size wa w1 ∧ Below wb.heap.size wb w2 ∧ Same1 w2 m a1 a2 := by
  obtain ⟨v, c, rfl, hb, hr⟩ := h1
  obtain ⟨v', c', rfl, hb', hr'⟩ := h2
  by_cases hok : okFl F = false
  · rw [if_pos hok] at hr hr'
    obtain ⟨rfl, rfl⟩ := hr
    obtain ⟨rfl, rfl⟩ := hr'
    exact ⟨_, _, _, _, _, _, rfl, rfl, Nat.zero_le _, hb, hb', fun i hi => absurd hi (Nat.not_lt_zero i)⟩
  rw [if_neg hok] at hr hr'
  by_cases hk : kk < 0 ∨ (F.nT : Int) ≤ kk
  · rw [if_pos hk] at hr hr'
    obtain ⟨rfl, rfl⟩ := hr
    obtain ⟨rfl, rfl⟩ := hr'
    exact ⟨_, _, _, _, _, _, rfl, rfl, Nat.zero_le _, hb, hb', fun i hi => absurd hi (Nat.not_lt_zero i)⟩
  rw [if_neg hk] at hr hr'
  obtain ⟨rfl, ho⟩ := hr
  obtain ⟨rfl, ho'⟩ := hr'
  have hn : (F.T kk.toNat).nS ≤ 4096 := (okTr_yes ((okFl_yes (by simpa using hok)).2 kk.toNat (by omega))).1.2.2.2.2.1
  have hba : Below w1.heap.size w1 w2 := hab.trans (hb'.mono hab.size)
  replace ho := owns_below ho hba
  obtain ⟨m, hm⟩ : ∃ m, m = (F.T kk.toNat).nS := ⟨_, rfl⟩
  rw [← hm] at ho ho' hn
  rcases Nat.eq_zero_or_pos m with h0 | h0
  · subst h0
    obtain ⟨a1, m1, rfl⟩ := row_zero ho
    obtain ⟨a2, m2, rfl⟩ := row_zero ho'
    exact ⟨_, _, _, _, _, _, rfl, rfl, Nat.zero_le _, hb, hb', fun i hi => absurd hi (Nat.not_lt_zero i)⟩
  · obtain ⟨g1, c1, rfl, _, H1⟩ := owns_open ho h0
    obtain ⟨g2, c2, rfl, _, H2⟩ := owns_open ho' h0
    have hf : ∀ i, (timeL (F.T kk.toNat) F.sc i).length = 1 := fun i => rfl
    refine ⟨_, _, _, _, _, _, rfl, rfl, hn, hb, hb', fun i hi => ⟨g1, g2, timeV (F.T kk.toNat) F.sc i, rfl, rfl, ?_, ?_⟩⟩
    · exact H1 i _ (by have := rowsOf_at hf m i 0 hi (by omega); simpa [timeL] using this)
    · exact H2 i _ (by have := rowsOf_at hf m i 0 hi (by omega); simpa [timeL] using this)

theorem light_nT {F : Fl} (h : lightF F = true) : F.nT ≤ 6 := by
  unfold lightF at h
  simp only [Bool.and_eq_true, decide_eq_true_eq] at h
  exact h.1

set_option maxRecDepth 100000 in
set_option maxHeartbeats 4000000 in
theorem law_times (v : Value) (F : Fl) (kk : Int) (w : World) (hv : FA w v F) (hm : F.nT ≤ 9223372036854775807) :
    Calls Try.prog 5 #[v, .int .i64 kk] w fun e w' => e = .returned (.bool true) ∧ Below w.heap.size w w' := by
  have hv0 := hv
  obtain ⟨ts, rfl, hts⟩ := hv
  obtain ⟨ao, c, rfl⟩ := hts.shape
  have HV0 := Lib.hid hv0
  have HV := Lib.hid (hv0.below (below_box w (.cells #[.int .i64 F.sc, .slice ao F.nT c] 37)))
  clear hts hv0
  go_enter Try.func5, Try.ntmps5
  go_wp2_with fail
  refine (light_any _ F _ HV.out hm).mono ?_
  rintro e w1 ⟨rfl, hb⟩
  have y0 : w1.cell? ⟨w.heap.size, 0, none⟩ = some (.int .i64 F.sc) := (hb.cell (by simp)).trans (by simp [go_sem])
  have y1 : w1.cell? ⟨w.heap.size, 1, none⟩ = some (.slice ao F.nT c) := (hb.cell (by simp)).trans (by simp [go_sem])
  have HB := Lib.hid (show Below w.heap.size w w1 from (below_box _ _).trans (hb.mono (by simp)))
  clear hb HV
  cases hl : lightF F
  · go_wp2_with fail
    go_ret
    exact ⟨rfl, HB.out⟩
  have HL := Lib.hid hl
  clear hl
  go_wp2_with fail
  refine (given_any _ F w1 (HV0.out.below HB.out) (by have := light_nT HL.out; omega) (fun i hi => by have := light_at HL.out hi; omega)).mono ?_
  rintro e w2 ⟨r, rfl, hfa, hb⟩
  replace y0 := (hb.cell (block_lt_of_cell y0)).trans y0
  replace y1 := (hb.cell (block_lt_of_cell y1)).trans y1
  replace HB := Lib.hid (HB.out.trans (hb.mono HB.out.size))
  have HFA := Lib.hid hfa
  clear hb hfa
  go_wp2_with fail
  refine (pres_any r F kk w2 HFA.out (by have := light_nT HL.out; omega)).mono ?_
  intro e1 w3 h1
  have h1' := h1
  obtain ⟨v1, cc, rfl, hb, _⟩ := h1'
  replace y0 := (hb.cell (block_lt_of_cell y0)).trans y0
  replace y1 := (hb.cell (block_lt_of_cell y1)).trans y1
  have H1 := Lib.hid h1
  have HB3 := Lib.hid (HB.out.trans (hb.mono HB.out.size))
  clear hb h1
  go_wp2_with fail
  refine (rpres_any _ F kk w3 (HV0.out.below HB3.out) (by have := light_nT HL.out; omega)).mono ?_
  intro e2 w4 h2
  obtain ⟨c0, m, a1, c1, a2, c2, he1, rfl, hm0, hb1, hb2, hs⟩ := both_times w2 w3 w3 w4 F kk _ e2 (Below.refl _ _) H1.out h2
  simp only [Ending.returned.injEq, Value.tuple.injEq, Array.mk.injEq, List.cons.injEq, Value.int.injEq, true_and, and_true] at he1
  obtain ⟨rfl, rfl⟩ := he1
  replace HB := Lib.hid (HB3.out.trans (hb2.mono HB3.out.size))
  have HS := Lib.hid hs
  clear H1 h2 hb1 hb2 hs HB3 y0 y1
  go_wp2_with fail
  go_loopw [9] (fun i wr => ∃ j : Nat, j ≤ m ∧ i = .int .i64 (j : Int) ∧ Below w4.heap.size w4 wr) (fun i _ => m - (intOf i).toNat)
  case atStart => exact ⟨0, by omega, rfl, Below.refl _ _⟩
  case round =>
    obtain ⟨i, hi, rfl, hb⟩ := hrel
    by_cases hlt : i < m
    · obtain ⟨g1, g2, z, rfl, rfl, p0, q0⟩ := HS.out i hlt
      replace p0 := (hb.cell (block_lt_of_cell p0)).trans p0
      replace q0 := (hb.cell (block_lt_of_cell q0)).trans q0
      have HBW := Lib.hid hb
      clear hb
      go_wp2_with fail
      refine Plan.wp_region_plan (fun w' => w'.cell? ⟨g1, i, none⟩ = some (.int .i64 z) ∧ w'.cell? ⟨g2, i, none⟩ = some (.int .i64 z)) (([0, 1, 2, 3, 4, 5, 6, 7, 8].map (·, true))) (by kernel_rfl) (by kernel_rfl) (by kernel_rfl) ⟨p0, q0⟩ ?_
      refine' Plan.plan_seg _ [0, 1, 2, 3, 4, 5, 6, 7, 8] ([]) (by kernel_rfl) (by kernel_rfl) rfl (by exact ⟨p0, q0⟩) (fun wx hS => ?_) ?_
      rotate_left
      · obtain ⟨y0, y1⟩ := hS
        go_light
        iterate 9 (apply Plan.seg_pick; rfl; intro K hK; go_wp)
        exact Plan.seg_nil
      refine Plan.plan_done ?_
      go_wp2_with fail
      go_roundw
      case rel => exact ⟨i + 1, by omega, by go_num, HBW.out.drew⟩
      case measure => simp [intOf]; omega
    · obtain rfl : i = m := by omega
      have HBW := Lib.hid hb
      clear hb
      go_wp2_with fail
      refine (awake_any _).mono ?_
      rintro e wz ⟨rfl, hb5⟩
      have HB5 := Lib.hid hb5
      clear hb5
      go_wp2_with fail
      go_ret
      exact ⟨rfl, HB.out.trans ((HBW.out.trans (HB5.out.mono HBW.out.size)).mono HB.out.size)⟩

end Go.Proofs.Ytkhjkemllgjfmaa

/- An empty edit before all others delays what is displayed: the plain law. -/
namespace Go.Proofs.Ytkhjkemllgjfmaa
open Go.RowKit
set_option linter.unusedVariables false

/-- A track with one edit before all others. -/
def lateE (E : Nat → Ed) (b : Int) (i : Nat) : Ed := if i = 0 then ⟨b, -1⟩ else E (i - 1)
def lateT (T : Tr) (b : Int) : Tr := { T with nE := T.nE + 1, E := lateE T.E b }
theorem begE_late (E : Nat → Ed) (b : Int) (k : Nat) : begE (lateE E b) (k + 1) = b + begE E k := by
  induction k with
  | zero => simp [begE, lateE]
  | succ k ih =>
    rw [begE, ih, begE]
    simp only [lateE, Nat.add_eq_zero_iff, Nat.add_one_sub_one]
    simp
    omega
theorem hitE_late_zero (T : Tr) (b d sc : Int) : hitE (lateT T b) d sc 0 = false := by
  unfold hitE lateT lateE; simp
theorem hitE_late (T : Tr) (b d sc : Int) (i : Nat) : hitE (lateT T b) d sc (i + 1) = hitE T d sc i := by
  unfold hitE lateT lateE; simp
theorem show_late (T : Tr) (b d sc : Int) (hn : T.nE ≠ 0) (hok : okTr T = true) (hs : 0 ≤ sc) :
    (showF T d sc < 0 ∧ showF (lateT T b) d sc = -1) ∨ (0 ≤ showF T d sc ∧ showF T d sc ≤ 137438953472 ∧ showF (lateT T b) d sc = showF T d sc + b) := by
  have ho := okTr_yes hok
  cases hf : (List.range T.nE).find? (hitE T d sc) with
  | some k =>
    rw [List.find?_range_eq_some] at hf
    obtain ⟨hh, hk, hno⟩ := hf
    replace hk : k < T.nE := by simpa using hk
    replace hno : ∀ j, j < k → hitE T d sc j = false := fun j hj => by simpa using hno j hj
    have e1 := showF_hit hk hno hh
    have e2 := showF_hit (T := lateT T b) (d := d) (sc := sc) (k := k + 1) (by simp [lateT]; omega) (fun j hj => by
      cases j with
      | zero => exact hitE_late_zero T b d sc
      | succ j => rw [hitE_late]; exact hno j (by omega)) (by rw [hitE_late]; exact hh)
    have e3 : begE (lateT T b).E (k + 1) = b + begE T.E k := begE_late T.E b k
    have e4 : ((lateT T b).E (k + 1)).time = (T.E k).time := by simp [lateT, lateE]
    have e5 : (lateT T b).sc = T.sc := rfl
    rw [e3, e4, e5] at e2
    right
    have hb := (begE_bd ho.2.2 (show k ≤ T.nE by omega)).1
    unfold hitE at hh
    simp only [decide_eq_true_eq] at hh
    have hq : 0 ≤ (d - (T.E k).time) * sc / T.sc := Int.ediv_nonneg (Int.mul_nonneg (by omega) (by omega)) (by have := ho.1.2.1; omega)
    have hb2 := (begE_bd ho.2.2 (show k + 1 ≤ T.nE by omega)).2
    have hn64 := ho.1.2.2.2.2.2
    simp only [begE] at hb2
    refine ⟨?_, ?_, ?_⟩
    · rw [e1]; omega
    · rw [e1]; omega
    · rw [e2, e1]; omega
  | none =>
    rw [List.find?_eq_none] at hf
    have hno : ∀ j, j < T.nE → hitE T d sc j = false := fun j hj => by simpa using hf j (by simpa using hj)
    left
    refine ⟨by rw [showF_none hn hno]; decide, ?_⟩
    refine showF_none (by simp [lateT]) (fun j hj => ?_)
    cases j with
    | zero => exact hitE_late_zero T b d sc
    | succ j => rw [hitE_late]; exact hno j (by simp [lateT] at hj; omega)
theorem ok_late (T : Tr) (b : Int) (hok : okTr T = true) (hn : T.nE ≤ 60) (h0 : 0 ≤ b) (h1 : b ≤ 1048576) : okTr (lateT T b) = true := by
  have ho := okTr_yes hok
  unfold okTr
  simp only [Bool.and_eq_true, decide_eq_true_eq, all_range]
  refine ⟨⟨⟨ho.1.1, ho.1.2.1, ho.1.2.2.1, ho.1.2.2.2.1, ho.1.2.2.2.2.1, by simp [lateT]; omega⟩, ho.2.1⟩, fun i hi => ?_⟩
  cases i with
  | zero => simp [lateT, lateE, okEd]; omega
  | succ i => simpa [lateT, lateE] using ho.2.2 i (by simp [lateT] at hi; omega)

end Go.Proofs.Ytkhjkemllgjfmaa

/- A file with one track delayed: its cells, rows that are copied. -/
namespace Go.Proofs.Ytkhjkemllgjfmaa
open Go.RowKit
set_option linter.unusedVariables false

theorem info48 : (Try.prog.info? 48).map (fun i => (i.zero, i.size, i.bytes)) = some (some (.agg #[.string { data := #[] }, .int .i64 0, .slice none 0 0, .slice none 0 0, .slice none 0 0]), 5, 96) := by kernel_rfl
theorem info61 : (Try.prog.info? 61).map (fun i => (i.zero, i.size, i.bytes)) = some (some (.agg #[.int .i64 0, .int .i64 0]), 2, 16) := by kernel_rfl

/-- Many elements appended to a row of the call's own. -/
theorem wpList_appN (w : World) {ops : Array Oper} {rest : List Oper} {o : Oper} {a : Act} {Q : Exit → Act → World → Prop} (hgd : o.guard = none) (s x : Operand) (t E : TypeId) (size bytes : Nat) (z : Value) (ht : Try.prog.underlying t = some (.slice E))
    (hE : (Try.prog.info? E).map (fun i => (i.zero, i.size, i.bytes)) = some (some z, size, bytes)) (hzs : z.cells.size = size) (hsz : 0 < size) (hby : bytes ≤ 1000)
    (ho : o.op = .call { callee := .builtin .append, args := #[s, x], argTypes := #[t, t] }) (B k b off m c : Nat) (v : Value) (xs news : List Value) (hs : a.eval s = v) (hown : w.ownsRow B E size v k xs)
    (hx : a.eval x = .slice (some ⟨b, off, none⟩) m c) (hl : news.length = m * size) (hnews : ∀ j u, news[j]? = some u → w.cell? ⟨b, off + j, none⟩ = some u) (h1 : ∀ u ∈ news, u.oneCell' = true)
    (hk : k + m ≤ 100000000) (hB : B ≤ w.heap.size)
    (h : ∀ v' w', w'.ownsRow B E size v' (k + m) (xs ++ news) → Below B w w' → wpList Try.prog ops Q rest (a.put o.dst v') w') : wpList Try.prog ops Q (o :: rest) a w := by
  obtain ⟨i0, hi, hz0, hz1, hz2⟩ := info_parts hE
  have hb2 : (k + m) * bytes ≤ 100000000 * 1000 := Nat.mul_le_mul (by omega) hby
  refine wpList_append_own _ hgd s x t ho B E i0 z size bytes ht hi hz0 hz1 hz2 hzs hsz v k xs hs hown ⟨b, off, none⟩ m c news hx hl (fun j u hj => ?_) h1 (by unfold maxLen; omega) (by omega) hB (fun v' w' hown' hg hnil => ?_)
  · rw [Addr.add_lit]; exact hnews j u hj
  · refine h v' w' hown' ((Below.refl _ _).grown hg hB (fun k' h' => ?_))
    rcases hown.2 with ⟨rfl, _⟩ | ⟨g', cap, cur, rfl, hg', _⟩
    · cases h'
    · cases h'; exact hg'

theorem rowsOf_late (f g : Nat → List Value) (h : ∀ i, f (i + 1) = g i) (n : Nat) : rowsOf f (n + 1) = f 0 ++ rowsOf g n := by
  induction n with
  | zero => simp [rowsOf]
  | succ n ih => rw [rowsOf, ih, rowsOf, h, List.append_assoc]
theorem edits_row {w : World} {b o n c : Nat} {E : Nat → Ed} (h : EA w (.slice (some ⟨b, o, none⟩) n c) n E) (j : Nat) (u : Value) (hj : (rowsOf (edV E) n)[j]? = some u) : w.cell? ⟨b, o + j, none⟩ = some u := by
  have hf : ∀ i, (edV E i).length = 2 := fun i => rfl
  have hjl : j < n * 2 := by have := (List.getElem?_eq_some_iff.1 hj).1; rwa [rowsOf_length hf] at this
  obtain ⟨_, _, e, _, H⟩ := h
  simp only [Value.slice.injEq, true_and] at e
  obtain ⟨rfl, rfl⟩ := e
  obtain ⟨b', o', e, h0, h1⟩ := H (j / 2) (by omega)
  simp only [Option.some.injEq, Addr.mk.injEq, and_true] at e
  obtain ⟨rfl, rfl⟩ := e
  have hr := rowsOf_at hf n (j / 2) (j % 2) (by omega) (by omega)
  rw [show j / 2 * 2 + j % 2 = j by omega, hj] at hr
  rcases (show j % 2 = 0 ∨ j % 2 = 1 by omega) with e | e
  · rw [e] at hr
    simp only [edV, List.getElem?_cons_zero, Option.some.injEq] at hr
    rw [hr, ← h0]; congr 2; omega
  · rw [e] at hr
    simp only [edV, List.getElem?_cons_succ, List.getElem?_cons_zero, Option.some.injEq] at hr
    rw [hr, ← h1]; congr 2; omega
/-- The cells of a slice of tracks. -/
def cellsAt (w : World) (b o n : Nat) : List Value := (List.range n).map fun j => (w.cell? ⟨b, o + j, none⟩).getD (.int .i64 0)
theorem tracks_cell {w : World} {b o n c : Nat} {T : Nat → Tr} (h : TSA w (.slice (some ⟨b, o, none⟩) n c) n T) (j : Nat) (hj : j < n * 5) : ∃ u, w.cell? ⟨b, o + j, none⟩ = some u ∧ u.oneCell' = true := by
  obtain ⟨b', o', a2, d2, a3, d3, a4, d4, e, t0, t1, t2, t3, t4, _⟩ := h.at (k := j / 5) (by omega)
  simp only [Option.some.injEq, Addr.mk.injEq, and_true] at e
  obtain ⟨rfl, rfl⟩ := e
  rcases (show j % 5 = 0 ∨ j % 5 = 1 ∨ j % 5 = 2 ∨ j % 5 = 3 ∨ j % 5 = 4 by omega) with e | e | e | e | e
  · exact ⟨_, by rw [← t0]; congr 2; omega, by simp [Value.oneCell']⟩
  · exact ⟨_, by rw [← t1]; congr 2; omega, by simp [Value.oneCell']⟩
  · exact ⟨_, by rw [← t2]; congr 2; omega, by simp [Value.oneCell']⟩
  · exact ⟨_, by rw [← t3]; congr 2; omega, by simp [Value.oneCell']⟩
  · exact ⟨_, by rw [← t4]; congr 2; omega, by simp [Value.oneCell']⟩
theorem cellsAt_get {w : World} {b o n c : Nat} {T : Nat → Tr} (h : TSA w (.slice (some ⟨b, o, none⟩) n c) n T) (j : Nat) (u : Value) (hj : (cellsAt w b o (n * 5))[j]? = some u) : w.cell? ⟨b, o + j, none⟩ = some u := by
  have hjl : j < n * 5 := by have := (List.getElem?_eq_some_iff.1 hj).1; simpa [cellsAt] using this
  obtain ⟨x, hx, _⟩ := tracks_cell h j hjl
  unfold cellsAt at hj
  rw [List.getElem?_map, List.getElem?_range hjl] at hj
  simp only [Option.map_some, Option.some.injEq, hx, Option.getD_some] at hj
  rw [hx, hj]
theorem cellsAt_at {w : World} {b o n : Nat} {j : Nat} {u : Value} (hj : j < n) (h : w.cell? ⟨b, o + j, none⟩ = some u) : (cellsAt w b o n)[j]? = some u := by
  unfold cellsAt
  rw [List.getElem?_map, List.getElem?_range hj]
  simp [h]
theorem owns_empty (w : World) (E size : Nat) : (w.alloc (.cells #[] E)).ownsRow w.heap.size E size (.slice (some ⟨w.heap.size, 0, none⟩) 0 0) 0 [] :=
  ⟨by simp, .inr ⟨w.heap.size, 0, #[], rfl, Nat.le_refl _, by simp only [World.alloc, Array.getElem?_push_size], Nat.le_refl _, by decide, by simp, by simp⟩⟩
theorem owns_one (w : World) (E size : Nat) (cs : Array Value) (h : cs.size = size) : (w.alloc (.cells cs E)).ownsRow w.heap.size E size (.slice (some ⟨w.heap.size, 0, none⟩) 1 1) 1 cs.toList :=
  ⟨by simp [h], .inr ⟨w.heap.size, 1, cs, rfl, Nat.le_refl _, by simp only [World.alloc, Array.getElem?_push_size], Nat.le_refl _, by decide, by omega, by rw [List.take_of_length_le (by simp [h])]⟩⟩
theorem owns_open2 {w : World} {B E size n : Nat} {v : Value} {xs : List Value} (h : w.ownsRow B E size v n xs) (hn : 0 < n) : ∃ g c, v = .slice (some ⟨g, 0, none⟩) n c ∧ n ≤ c ∧ B ≤ g ∧ (∀ o, w.frozen? ⟨g, o, none⟩ = false) ∧ ∀ i u, xs[i]? = some u → w.cell? ⟨g, i, none⟩ = some u := by
  obtain ⟨g, c, e, hc, H⟩ := owns_open h hn
  rcases h.2 with ⟨h1, h0⟩ | ⟨g', cap, cur, h1, h2, h3, _⟩
  · omega
  · rw [h1] at e; cases e
    exact ⟨g, c, h1, hc, h2, fun o => by simp [World.frozen?, h3], H⟩
/-- A file in which one track is late. -/
def lateF (F : Fl) (k : Nat) (b : Int) : Fl := { F with T := fun i => if i = k then lateT (F.T k) b else F.T i }
theorem okFl_late (F : Fl) (k : Nat) (b : Int) (hk : k < F.nT) (hok : okFl F = true) (hn : (F.T k).nE ≤ 60) (h0 : 0 ≤ b) (h1 : b ≤ 1048576) : okFl (lateF F k b) = true := by
  have ho := okFl_yes hok
  unfold okFl
  simp only [Bool.and_eq_true, decide_eq_true_eq, all_range]
  refine ⟨ho.1, fun i hi => ?_⟩
  by_cases e : i = k
  · subst e; simpa [lateF] using ok_late (F.T i) b (ho.2 i hi) hn h0 h1
  · simpa [lateF, e] using ho.2 i hi
/-- The late file's tracks in their row. -/
theorem FA.late {w0 w' : World} {b o c gt cap : Nat} {F : Fl} {k : Nat} {bv : Int} {ve : Value} (hk : k < F.nT) (h : TSA w0 (.slice (some ⟨b, o, none⟩) F.nT c) F.nT F.T) (hb : Below w0.heap.size w0 w')
    (hc : F.nT ≤ cap) (hcell : ∀ j u, (cellsAt w0 b o (F.nT * 5))[j]? = some u → j ≠ k * 5 + 4 → w'.cell? ⟨gt, j, none⟩ = some u) (hv : w'.cell? ⟨gt, k * 5 + 4, none⟩ = some ve) (hE : EA w' ve ((F.T k).nE + 1) (lateE (F.T k).E bv)) :
    FA w' (.agg #[.int .i64 F.sc, .slice (some ⟨gt, 0, none⟩) F.nT cap]) (lateF F k bv) := by
  refine ⟨_, rfl, _, _, rfl, hc, fun i hi => ?_⟩
  obtain ⟨ao', c', e, hcc, H⟩ := h
  simp only [Value.slice.injEq, true_and] at e
  obtain ⟨rfl, rfl⟩ := e
  obtain ⟨b', o', c0, c1, c2, c3, c4, e, t0, t1, t2, t3, t4, hT⟩ := H i hi
  simp only [Option.some.injEq, Addr.mk.injEq, and_true] at e
  obtain ⟨rfl, rfl⟩ := e
  have hi' : i < F.nT := hi
  have q0 := hcell (i * 5) c0 (cellsAt_at (by omega) t0) (by omega)
  have q1 := hcell (i * 5 + 1) c1 (cellsAt_at (by omega) (by rw [← Nat.add_assoc]; exact t1)) (by omega)
  have q2 := hcell (i * 5 + 2) c2 (cellsAt_at (by omega) (by rw [← Nat.add_assoc]; exact t2)) (by omega)
  have q3 := hcell (i * 5 + 3) c3 (cellsAt_at (by omega) (by rw [← Nat.add_assoc]; exact t3)) (by omega)
  have hT' := hT.below hb
  by_cases e : i = k
  · subst e
    refine ⟨gt, 0, c0, c1, c2, c3, ve, rfl, by simpa using q0, by simpa using q1, by simpa using q2, by simpa using q3, by simpa using hv, ?_⟩
    obtain ⟨k0, k1, k2, k3, k4⟩ := hT'
    simp only [lateF, if_pos]
    exact ⟨k0, k1, k2, k3, hE⟩
  · have q4 := hcell (i * 5 + 4) c4 (cellsAt_at (by omega) (by rw [← Nat.add_assoc]; exact t4)) (by omega)
    refine ⟨gt, 0, c0, c1, c2, c3, c4, rfl, by simpa using q0, by simpa using q1, by simpa using q2, by simpa using q3, by simpa using q4, ?_⟩
    simp only [lateF, if_neg e]
    exact hT'

end Go.Proofs.Ytkhjkemllgjfmaa
