/- The contracts of presented and shown: when a sample is displayed. -/
import Derived.Test.YtkhjkemllgjfmaaK
import Derived.Test.YtkhjkemllgjfmaaN
namespace Go.Proofs.Ytkhjkemllgjfmaa
open Go.RowKit
set_option linter.unusedVariables false

def begE (E : Nat → Ed) : Nat → Int
  | 0 => 0
  | k + 1 => begE E k + (E k).dur
def hitE (T : Tr) (d sc : Int) (i : Nat) : Bool := decide (0 ≤ (T.E i).time ∧ (T.E i).time ≤ d ∧ (d - (T.E i).time) * sc / T.sc < (T.E i).dur)
def showF (T : Tr) (d sc : Int) : Int := if T.nE = 0 then d * sc / T.sc else match (List.range T.nE).find? (hitE T d sc) with
  | some i => begE T.E i + (d - (T.E i).time) * sc / T.sc
  | none => -1
theorem showF_zero {T : Tr} {d sc : Int} (h : T.nE = 0) : showF T d sc = d * sc / T.sc := by unfold showF; rw [if_pos h]
theorem showF_hit {T : Tr} {d sc : Int} {k : Nat} (hk : k < T.nE) (ho : ∀ j, j < k → hitE T d sc j = false) (h : hitE T d sc k = true) : showF T d sc = begE T.E k + (d - (T.E k).time) * sc / T.sc := by
  have : (List.range T.nE).find? (hitE T d sc) = some k := by
    rw [List.find?_range_eq_some]
    exact ⟨h, by simpa using hk, fun j hj => by simp [ho j hj]⟩
  unfold showF; rw [if_neg (by omega), this]
theorem showF_none {T : Tr} {d sc : Int} (hn : T.nE ≠ 0) (ho : ∀ j, j < T.nE → hitE T d sc j = false) : showF T d sc = -1 := by
  have : (List.range T.nE).find? (hitE T d sc) = none := by
    rw [List.find?_eq_none]
    intro j hj
    simp [ho j (by simpa using hj)]
  unfold showF; rw [if_neg hn, this]
theorem begE_bd {E : Nat → Ed} {n k : Nat} (h : ∀ i, i < n → okEd (E i) = true) (hk : k ≤ n) : 0 ≤ begE E k ∧ begE E k ≤ (k : Int) * 2147483647 := by
  induction k with
  | zero => simp [begE]
  | succ k ih =>
    have h1 := ih (by omega)
    have h2 := okEd_yes (h k (by omega))
    simp only [begE]
    omega
theorem mul_in {a b : Int} (ha : 0 ≤ a) (ha2 : a ≤ 137438953472) (hb : 0 ≤ b) (hb2 : b ≤ 16777216) : IntKind.i64.wrap (a * b) = a * b ∧ 0 ≤ a * b ∧ a * b ≤ 2305843009213693952 := by
  have h1 : 0 ≤ a * b := Int.mul_nonneg ha hb
  have h2 : a * b ≤ 137438953472 * 16777216 := Int.mul_le_mul ha2 hb2 hb (by omega)
  exact ⟨IntWalk.i64_in _ (by omega), h1, by omega⟩
theorem no_step {T : Tr} {d sc : Int} {k : Nat} (h : ∀ j, j < k → hitE T d sc j = false) (hk : hitE T d sc k = false) : ∀ j, j < k + 1 → hitE T d sc j = false := by
  intro j hj
  by_cases e : j = k
  · subst e; exact hk
  · exact h j (by omega)

set_option maxRecDepth 100000 in
set_option maxHeartbeats 4000000 in
theorem presented_any (v : Value) (T : Tr) (d sc : Int) (w : World) (hv : TA w v T) (hok : okTr T = true) (hd : 0 ≤ d) (hd2 : d ≤ 137438953472) (hs : 1 ≤ sc) (hs2 : sc ≤ 16777216) :
    Calls Try.prog 34 #[v, .int .i64 d, .int .i64 sc] w fun e w' => e = .returned (.int .i64 (showF T d sc)) ∧ Below w.heap.size w w' := by
  obtain ⟨c0, c1, c2, c3, c4, rfl, rfl, rfl, b2, b3, b4⟩ := hv
  obtain ⟨a2, d2, rfl⟩ := b2.shape
  obtain ⟨a3, d3, rfl⟩ := b3.shape
  obtain ⟨a4, d4, rfl⟩ := b4.shape
  have HB4 := Lib.hid b4
  have ho := okTr_yes hok
  have HOK := Lib.hid ho
  have ts1 := ho.1.2.1
  have ts2 := ho.1.2.2.1
  have tn := ho.1.2.2.2.2.2
  clear b2 b3 b4 hok ho
  by_cases h0 : T.nE = 0
  · have HL := Lib.hid (showF_zero (d := d) (sc := sc) h0)
    obtain ⟨m1, m2, m3⟩ := mul_in hd hd2 (show 0 ≤ sc by omega) hs2
    have k0 : ((T.nE : Int) == 0) = true := by simp; omega
    have H0 := Lib.hid h0
    clear h0
    go_enter Try.func34, Try.ntmps34
    go_wp2_with fail
    go_ret
    exact ⟨ret_i64 HL.out.symm, below_box _ _⟩
  have k0 : ((T.nE : Int) == 0) = false := by simp; omega
  have hn0 : 0 < T.nE := by omega
  go_enter Try.func34, Try.ntmps34
  go_wp2_with fail
  obtain ⟨w1, hw⟩ : ∃ x, x = w.alloc (.cells #[.string T.h, .int .i64 T.sc, .slice a2 T.nC d2, .slice a3 T.nS d3, .slice a4 T.nE d4] 43) := ⟨_, rfl⟩
  rw [← hw]
  have hE : Below w.heap.size w w1 := by rw [hw]; exact below_box _ _
  have y1 : w1.cell? ⟨w.heap.size, 1, none⟩ = some (.int .i64 T.sc) := by rw [hw]; simp [go_sem]
  have y4 : w1.cell? ⟨w.heap.size, 4, none⟩ = some (.slice a4 T.nE d4) := by rw [hw]; simp [go_sem]
  have hs1 : w.heap.size < w1.heap.size := by rw [hw]; simp
  have HB := Lib.hid hE
  clear hw hE
  go_loopw [24, 7] (fun i g wr => ∃ k : Nat, k ≤ T.nE ∧ i = .int .i64 (k : Int) ∧ g = .int .i64 (begE T.E k) ∧ Below w1.heap.size w1 wr ∧ Hid (∀ j, j < k → hitE T d sc j = false)) (fun i _ _ => T.nE - (intOf i).toNat)
  case atStart => exact ⟨0, Nat.zero_le _, rfl, rfl, Below.refl _ _, Lib.hid (fun i hi => absurd hi (Nat.not_lt_zero i))⟩
  case round =>
    obtain ⟨k, hk, rfl, rfl, hb, HA⟩ := hrel
    have z1 := (hb.cell (p := ⟨w.heap.size, 1, none⟩) hs1).trans y1
    have z4 := (hb.cell (p := ⟨w.heap.size, 4, none⟩) hs1).trans y4
    have zs : w.heap.size < wr.heap.size := by have := hb.size; omega
    have zne : (w.heap.size == wr.heap.size) = false := by simp; omega
    have HBW := Lib.hid hb
    have HB2 := Lib.hid (HB.out.trans (hb.mono HB.out.size))
    clear hb
    by_cases hlt : k < T.nE
    · have gb := begE_bd HOK.out.2.2 (show k ≤ T.nE by omega)
      have es := okEd_yes (HOK.out.2.2 k hlt)
      obtain ⟨G, hG⟩ : ∃ G, G = begE T.E k := ⟨_, rfl⟩
      rw [← hG] at gb ⊢
      obtain ⟨ao', c', e, hcc', H⟩ := HB4.out.below HB2.out
      simp only [Value.slice.injEq, true_and] at e
      obtain ⟨rfl, rfl⟩ := e
      obtain ⟨b', o', rfl, h0', h1'⟩ := H k hlt
      obtain ⟨s, hs'⟩ : ∃ s, s = T.E k := ⟨_, rfl⟩
      rw [← hs'] at h0' h1' es
      have g1 := gb.1
      have g2 : G ≤ 137438953472 := by omega
      have e1 := es.1
      have e2 := es.2.1
      have e3 := es.2.2.1
      have hst : begE T.E (k + 1) = G + s.dur := by simp only [begE]; rw [← hs', ← hG]
      have HST := Lib.hid hst
      have EG := Lib.hid hG
      have ES := Lib.hid hs'
      clear H gb es hst hG hs'
      by_cases p1 : s.time < 0
      · have em : s.time = -1 := by omega
        have HN := Lib.hid (no_step HA.out (show hitE T d sc k = false by unfold hitE; rw [← ES.out]; simp; intro h; omega))
        have km : (s.time == -1) = true := by simp [em]
        have km' : (s.time != -1) = false := by simp [em]
        have HEM := Lib.hid em
        have kn : decide (0 ≤ s.time) = false := by simp; omega
        clear em
        go_wp2_with fail
        go_roundw
        case rel => exact ⟨k + 1, by omega, by go_num, by rw [HST.out], HBW.out.alloc HBW.out.size _, HN⟩
        case measure => simp [intOf]; omega
      have km : (s.time == -1) = false := by simp; omega
      have km' : (s.time != -1) = true := by simp; omega
      have kn : decide (0 ≤ s.time) = true := by simp; omega
      have kn' : 0 ≤ s.time := by omega
      by_cases p2 : d < s.time
      · have HN := Lib.hid (no_step HA.out (show hitE T d sc k = false by unfold hitE; rw [← ES.out]; simp; intro h1 h2; omega))
        have kp : decide (s.time ≤ d) = false := by simp; omega
        go_wp2_with fail
        go_roundw
        case rel => exact ⟨k + 1, by omega, by go_num, by rw [HST.out], HBW.out.alloc HBW.out.size _, HN⟩
        case measure => simp [intOf]; omega
      have p2' : s.time ≤ d := by omega
      have kp : decide (s.time ≤ d) = true := by simp; omega
      obtain ⟨m1, m2, m3⟩ := mul_in (show 0 ≤ d - s.time by omega) (by omega) (show 0 ≤ sc by omega) hs2
      obtain ⟨P, hP⟩ : ∃ P, (d - s.time) * sc / T.sc = P := ⟨_, rfl⟩
      have q1 : 0 ≤ P := by rw [← hP]; exact Int.ediv_nonneg m2 (by omega)
      have q2 : P ≤ 2305843009213693952 := by rw [← hP]; exact Int.le_trans (Int.ediv_le_self _ m2) m3
      have HPE := Lib.hid hP
      by_cases p3 : P < s.dur
      · have HL := Lib.hid (showF_hit hlt HA.out (show hitE T d sc k = true by unfold hitE; rw [← ES.out, HPE.out]; simp; omega))
        have HL2 := Lib.hid (show showF T d sc = G + P by rw [HL.out, ← ES.out, ← EG.out, HPE.out])
        go_wp2_with fail
        go_ret
        exact ⟨ret_i64 HL2.out.symm, HB2.out.alloc HB2.out.size _⟩
      · have HN := Lib.hid (no_step HA.out (show hitE T d sc k = false by unfold hitE; rw [← ES.out, HPE.out]; simp; intro h1 h2; omega))
        go_wp2_with fail
        go_roundw
        case rel => exact ⟨k + 1, by omega, by go_num, by rw [HST.out], HBW.out.alloc HBW.out.size _, HN⟩
        case measure => simp [intOf]; omega
    · obtain rfl : k = T.nE := by omega
      have HL := Lib.hid (showF_none (by omega) HA.out)
      go_wp2_with fail
      go_ret
      exact ⟨ret_i64 HL.out.symm, HB2.out⟩

set_option maxRecDepth 100000 in
set_option maxHeartbeats 4000000 in
theorem shown_any (v : Value) (T : Tr) (d sc : Int) (w : World) (x : Value) (hv : TA w v T) (hok : okTr T = true) (hd : 0 ≤ d) (hd2 : d ≤ 137438953472) (hs : 1 ≤ sc) (hs2 : sc ≤ 16777216) (hx : ∃ y, x = .agg #[.int .i64 sc, y] ∧ ∃ a n c, y = .slice a n c) :
    Calls Try.prog 35 #[x, v, .int .i64 d] w fun e w' => e = .returned (.int .i64 (showF T d sc)) ∧ Below w.heap.size w w' := by
  obtain ⟨c0, c1, c2, c3, c4, rfl, rfl, rfl, b2, b3, b4⟩ := hv
  obtain ⟨a2, d2, rfl⟩ := b2.shape
  obtain ⟨a3, d3, rfl⟩ := b3.shape
  obtain ⟨a4, d4, rfl⟩ := b4.shape
  have HB4 := Lib.hid b4
  have ho := okTr_yes hok
  have HOK := Lib.hid ho
  have ts1 := ho.1.2.1
  have ts2 := ho.1.2.2.1
  have tn := ho.1.2.2.2.2.2
  clear b2 b3 b4 hok ho
  obtain ⟨_, rfl, xa, xn, xc, rfl⟩ := hx
  by_cases h0 : T.nE = 0
  · have HL := Lib.hid (showF_zero (d := d) (sc := sc) h0)
    obtain ⟨m1, m2, m3⟩ := mul_in hd hd2 (show 0 ≤ sc by omega) hs2
    have k0 : ((T.nE : Int) == 0) = true := by simp; omega
    have H0 := Lib.hid h0
    clear h0
    go_enter Try.func35, Try.ntmps35
    go_wp2_with fail
    go_ret
    exact ⟨ret_i64 HL.out.symm, by go_grown⟩
  have k0 : ((T.nE : Int) == 0) = false := by simp; omega
  have hn0 : 0 < T.nE := by omega
  go_enter Try.func35, Try.ntmps35
  go_wp2_with fail
  obtain ⟨w1, hw⟩ : ∃ x, x = (w.alloc (.cells #[.int .i64 sc, .slice xa xn xc] 37)).alloc (.cells #[.string T.h, .int .i64 T.sc, .slice a2 T.nC d2, .slice a3 T.nS d3, .slice a4 T.nE d4] 48) := ⟨_, rfl⟩
  rw [← hw]
  have hE : Below w.heap.size w w1 := by rw [hw]; go_grown
  have y1 : w1.cell? ⟨(w.heap.size + 1), 1, none⟩ = some (.int .i64 T.sc) := by rw [hw]; simp [go_sem]
  have y4 : w1.cell? ⟨(w.heap.size + 1), 4, none⟩ = some (.slice a4 T.nE d4) := by rw [hw]; simp [go_sem]
  have x0 : w1.cell? ⟨w.heap.size, 0, none⟩ = some (.int .i64 sc) := by rw [hw]; simp [go_sem]
  have hs1 : (w.heap.size + 1) < w1.heap.size := by rw [hw]; simp
  have HB := Lib.hid hE
  clear hw hE
  go_loopw [8, 7] (fun i g wr => ∃ k : Nat, k ≤ T.nE ∧ i = .int .i64 (k : Int) ∧ g = .int .i64 (begE T.E k) ∧ Below w1.heap.size w1 wr ∧ Hid (∀ j, j < k → hitE T d sc j = false)) (fun i _ _ => T.nE - (intOf i).toNat)
  case atStart => exact ⟨0, Nat.zero_le _, rfl, rfl, Below.refl _ _, Lib.hid (fun i hi => absurd hi (Nat.not_lt_zero i))⟩
  case round =>
    obtain ⟨k, hk, rfl, rfl, hb, HA⟩ := hrel
    have z1 := (hb.cell (p := ⟨(w.heap.size + 1), 1, none⟩) hs1).trans y1
    have z4 := (hb.cell (p := ⟨(w.heap.size + 1), 4, none⟩) hs1).trans y4
    have zx := (hb.cell (p := ⟨w.heap.size, 0, none⟩) (by simp; omega)).trans x0
    have zs : (w.heap.size + 1) < wr.heap.size := by have := hb.size; omega
    have zs0 : w.heap.size < wr.heap.size := by omega
    have zne : ((w.heap.size + 1) == wr.heap.size) = false := by simp; omega
    have HBW := Lib.hid hb
    have HB2 := Lib.hid (HB.out.trans (hb.mono HB.out.size))
    clear hb
    by_cases hlt : k < T.nE
    · have gb := begE_bd HOK.out.2.2 (show k ≤ T.nE by omega)
      have es := okEd_yes (HOK.out.2.2 k hlt)
      obtain ⟨G, hG⟩ : ∃ G, G = begE T.E k := ⟨_, rfl⟩
      rw [← hG] at gb ⊢
      obtain ⟨ao', c', e, hcc', H⟩ := HB4.out.below HB2.out
      simp only [Value.slice.injEq, true_and] at e
      obtain ⟨rfl, rfl⟩ := e
      obtain ⟨b', o', rfl, h0', h1'⟩ := H k hlt
      obtain ⟨s, hs'⟩ : ∃ s, s = T.E k := ⟨_, rfl⟩
      rw [← hs'] at h0' h1' es
      have g1 := gb.1
      have g2 : G ≤ 137438953472 := by omega
      have e1 := es.1
      have e2 := es.2.1
      have e3 := es.2.2.1
      have hst : begE T.E (k + 1) = G + s.dur := by simp only [begE]; rw [← hs', ← hG]
      have HST := Lib.hid hst
      have EG := Lib.hid hG
      have ES := Lib.hid hs'
      clear H gb es hst hG hs'
      by_cases p1 : s.time < 0
      · have em : s.time = -1 := by omega
        have HN := Lib.hid (no_step HA.out (show hitE T d sc k = false by unfold hitE; rw [← ES.out]; simp; intro h; omega))
        have km : (s.time == -1) = true := by simp [em]
        have km' : (s.time != -1) = false := by simp [em]
        have HEM := Lib.hid em
        have kn : decide (0 ≤ s.time) = false := by simp; omega
        clear em
        go_wp2_with fail
        go_roundw
        case rel => exact ⟨k + 1, by omega, by go_num, by rw [HST.out], HBW.out.alloc HBW.out.size _, HN⟩
        case measure => simp [intOf]; omega
      have km : (s.time == -1) = false := by simp; omega
      have km' : (s.time != -1) = true := by simp; omega
      have kn : decide (0 ≤ s.time) = true := by simp; omega
      have kn' : 0 ≤ s.time := by omega
      by_cases p2 : d < s.time
      · have HN := Lib.hid (no_step HA.out (show hitE T d sc k = false by unfold hitE; rw [← ES.out]; simp; intro h1 h2; omega))
        have kp : decide (s.time ≤ d) = false := by simp; omega
        go_wp2_with fail
        go_roundw
        case rel => exact ⟨k + 1, by omega, by go_num, by rw [HST.out], HBW.out.alloc HBW.out.size _, HN⟩
        case measure => simp [intOf]; omega
      have p2' : s.time ≤ d := by omega
      have kp : decide (s.time ≤ d) = true := by simp; omega
      obtain ⟨m1, m2, m3⟩ := mul_in (show 0 ≤ d - s.time by omega) (by omega) (show 0 ≤ sc by omega) hs2
      obtain ⟨P, hP⟩ : ∃ P, (d - s.time) * sc / T.sc = P := ⟨_, rfl⟩
      have q1 : 0 ≤ P := by rw [← hP]; exact Int.ediv_nonneg m2 (by omega)
      have q2 : P ≤ 2305843009213693952 := by rw [← hP]; exact Int.le_trans (Int.ediv_le_self _ m2) m3
      have HPE := Lib.hid hP
      by_cases p3 : P < s.dur
      · have HL := Lib.hid (showF_hit hlt HA.out (show hitE T d sc k = true by unfold hitE; rw [← ES.out, HPE.out]; simp; omega))
        have HL2 := Lib.hid (show showF T d sc = G + P by rw [HL.out, ← ES.out, ← EG.out, HPE.out])
        go_wp2_with fail
        go_ret
        exact ⟨ret_i64 HL2.out.symm, HB2.out.alloc HB2.out.size _⟩
      · have HN := Lib.hid (no_step HA.out (show hitE T d sc k = false by unfold hitE; rw [← ES.out, HPE.out]; simp; intro h1 h2; omega))
        go_wp2_with fail
        go_roundw
        case rel => exact ⟨k + 1, by omega, by go_num, by rw [HST.out], HBW.out.alloc HBW.out.size _, HN⟩
        case measure => simp [intOf]; omega
    · obtain rfl : k = T.nE := by omega
      have HL := Lib.hid (showF_none (by omega) HA.out)
      go_wp2_with fail
      go_ret
      exact ⟨ret_i64 HL.out.symm, HB2.out⟩

end Go.Proofs.Ytkhjkemllgjfmaa
