/- Texts of this claim joined: R S U W X Y. -/
import Derived.Test.YtfoohocgdcgbcaaGreatSy06
set_option linter.unusedVariables false
set_option linter.unusedSimpArgs false
namespace Go.Proofs.YtfoohocgdcgbcaaGreat
open Go.RowKit
set_option maxRecDepth 100000 in
set_option maxHeartbeats 4000000 in
theorem name_ok (c d : UInt8) (w : World) (c0 : 97 ≤ (c.toNat : Int)) (c1 : (c.toNat : Int) ≤ 122) (d0 : 48 ≤ (d.toNat : Int)) (d1 : (d.toNat : Int) ≤ 57) :
  Calls Tryz.prog 114 #[.string ⟨#[c, d]⟩] w fun e w' => e = .returned (.bool true) ∧ w = w' := by
 have key0 : ∀ h, ((⟨#[c, d]⟩ : ByteArray)[0]'h) = c := fun h => rfl
 have key1 : ∀ h, ((⟨#[c, d]⟩ : ByteArray)[1]'h) = d := fun h => rfl
 have K0 := Lib.hid key0
 have K1 := Lib.hid key1
 clear key0 key1
 go_enter Tryz.func114, Tryz.ntmps114
 go_wp2_with fail
 go_loop [15] (fun i => i = .int .i64 0 ∨ i = .int .i64 1 ∨ i = .int .i64 2) (fun i => 2 - (intOf i).toNat)
 case atStart => exact .inl rfl
 case round =>
  rcases hrel with rfl | rfl | rfl
  ·go_wp2_with fail
   all_goals
    have key0 := K0.out
    simp only [key0] at *
    first
    | (exfalso; omega)
    | exact ⟨by simp, by simp [intOf]⟩
  ·go_wp2_with fail
   all_goals
    have key1 := K1.out
    simp only [key1] at *
    first
    | (exfalso; omega)
    | exact ⟨by simp, by simp [intOf]⟩
  ·go_wp2_with fail
   go_ret
   exact ⟨rfl, rfl⟩
set_option maxRecDepth 100000 in
set_option maxHeartbeats 4000000 in
theorem vsource_black (w : World) : Calls Tryz.prog 134 #[srcV Trk.black] w fun e w' => e = .returned (.bool true) ∧ Below w.heap.size w w' := by
 simp only [srcV, srcC, Trk.black]
 go_enter Tryz.func134, Tryz.ntmps134
 go_upto_region 1 with fail
 obtain ⟨w1, hw1⟩ : ∃ x, x = w.alloc (.cells #[.int .i64 0, .string ByteArray.empty, .int .i64 0, .int .i64 0, .int .i64 0, .int .i64 0, .bool false] 46) := ⟨_, rfl⟩
 rw [← hw1]
 have hb1 : Below w.heap.size w w1 := by rw [hw1]; exact below_box _ _
 obtain ⟨b, hb⟩ : ∃ b, b = w.heap.size := ⟨_, rfl⟩
 have c0 : C7 w1 b 0 (.int .i64 0) (.string ByteArray.empty) (.int .i64 0) (.int .i64 0) (.int .i64 0) (.int .i64 0) (.bool false) := by rw [hw1, hb]; constructor <;> simp [go_sem]
 rw [← hb]
 have HB := Lib.hid hb1
 clear hw1 hb1
 obtain ⟨x0, x1, x2, x3, x4, x5, x6⟩ := c0.at0
 have hq := run_eq_src Trk.black Trk.black w1
 simp only [Trk.black] at hq
 clear c0 hb
 go_wp2_with fail
 all_goals go_ret
 all_goals exact ⟨rfl, HB.out⟩
set_option maxRecDepth 100000 in
set_option maxHeartbeats 4000000 in
theorem channels_nil (w : World) : Calls Tryz.prog 133 #[.slice none 0 0] w fun e w' => e = .returned (.bool true) ∧ w = w' := by
 go_enter Tryz.func133, Tryz.ntmps133
 go_wp2_with fail
 go_loop [10] (fun i => i = .int .i64 0) (fun _ => 0)
 case atStart => rfl
 case round =>
  subst hrel
  go_wp2_with fail
  go_ret
  exact ⟨rfl, rfl⟩
set_option maxRecDepth 100000 in
set_option maxHeartbeats 4000000 in
theorem line_any (s : ByteArray) (w : World) (h1 : 1 ≤ s.size) (h2 : s.size ≤ 64) (h : ∀ i (hi : i < s.size), 32 ≤ (s[i].toNat : Int) ∧ (s[i].toNat : Int) ≤ 126) :
  Calls Tryz.prog 135 #[.string s] w fun e w' => e = .returned (.bool true) ∧ w = w' := by
 have H := Lib.hid h
 clear h
 go_enter Tryz.func135, Tryz.ntmps135
 go_wp2_with fail
 go_loop [14] (fun i => ∃ k : Nat, k ≤ s.size ∧ i = .int .i64 (k : Int)) (fun i => s.size - (intOf i).toNat)
 case atStart => exact ⟨0, Nat.zero_le _, rfl⟩
 case round =>
  obtain ⟨k, hk, rfl⟩ := hrel
  by_cases hlt : k < s.size
  ·have hlt' : (k : Int) < (s.size : Int) := by omega
   obtain ⟨b0, b1⟩ := H.out k hlt
   go_wp2_with fail
   all_goals first
    | (exfalso; omega)
    | exact ⟨⟨k + 1, by omega, by simp⟩, by simp [intOf]; omega⟩
    | skip
  ·have : k = s.size := by omega
   subst this
   go_wp2_with fail
   go_ret
   exact ⟨rfl, rfl⟩
theorem only_store {w w' : World} {g : Nat} (h : w.grownBy w' (some g)) (o : Nat) (u : Value) : w.grownBy (w'.setCell ⟨g, o, none⟩ u) (some g) :=
 ⟨h.os, h.tape, h.output, by rw [World.size_setCell]; exact h.size, fun k hk hne => by
  rw [Below.heap_setCell _ _ _ _ (fun e => hne (by rw [e]))]; exact h.block k hk hne⟩
theorem only_refl (w : World) (g : Nat) : w.grownBy w (some g) := World.grownBy.refl w _
theorem only_cell {w w' : World} {g b o : Nat} {v : Value} (h : w.grownBy w' (some g)) (hc : w.cell? ⟨b, o, none⟩ = some v) (hne : b ≠ g) : w'.cell? ⟨b, o, none⟩ = some v :=
 h.cell hc (by simpa using hne)
theorem only_below {w w' : World} {g B : Nat} (h : w.grownBy w' (some g)) (hB : B ≤ g) (hs : B ≤ w.heap.size) : Below B w w' := (Below.refl _ _).grown h hs (fun k hk => by cases hk; exact hB)
def TP (w : World) (B p k : Nat) : Prop := B ≤ p ∧ p < w.heap.size ∧ ∃ ao n c, w.cell? ⟨p, 0, none⟩ = some (.slice ao n c) ∧ w.cell? ⟨p, 1, none⟩ = some (.int .i64 (k : Int)) ∧ w.frozen? ⟨p, 1, none⟩ = false ∧ n ≤ c ∧ n ≤ 9223372036854775807 ∧
 ∀ i, i < n → ∃ b o x, ao = some ⟨b, o, none⟩ ∧ b < B ∧ w.cell? ⟨b, o + i, none⟩ = some (.int .i64 x)
theorem only_drew {w w' : World} {r : Option Nat} (h : w.grownBy w' r) : w.grownBy w'.drew r := ⟨h.os, h.tape, h.output, h.size, h.block⟩
theorem tmod_bd (v n : Int) (h : 1 ≤ n) : -n < v.tmod n ∧ v.tmod n < n := by
 rcases Int.le_total 0 v with h0 | h0
 ·rw [Int.tmod_eq_emod_of_nonneg h0]
  have := Int.emod_nonneg v (show n ≠ 0 by omega)
  have := Int.emod_lt_of_pos v (show 0 < n by omega)
  omega
 ·have e : v.tmod n = -((-v).tmod n) := by rw [Int.neg_tmod]; omega
  rw [e, Int.tmod_eq_emod_of_nonneg (show 0 ≤ -v by omega)]
  have := Int.emod_nonneg (-v) (show n ≠ 0 by omega)
  have := Int.emod_lt_of_pos (-v) (show 0 < n by omega)
  omega
def NextPost (w : World) (B p k : Nat) (n : Int) (e : Ending) (w' : World) : Prop := ∃ r : Int, e = .returned (.int .i64 r) ∧ 0 ≤ r ∧ r < n ∧ TP w' B p (k + 1) ∧ w.grownBy w' (some p)
theorem next_post {w w' : World} {B p k : Nat} {n v r : Int} (hr : r = (v.tmod n + n) % n) (hn : 1 ≤ n) (ht : TP w B p k) (hg : w.grownBy w' (some p)) (h1 : w'.cell? ⟨p, 1, none⟩ = some (.int .i64 ((k : Int) + 1))) (h0 : w'.cell? ⟨p, 0, none⟩ = w.cell? ⟨p, 0, none⟩) (hf : w'.frozen? ⟨p, 1, none⟩ = false) :
  NextPost w B p k n (.returned (.int .i64 r)) w' := by
 subst hr
 refine ⟨_, rfl, Int.emod_nonneg _ (by omega), Int.emod_lt_of_pos _ (by omega), ?_, hg⟩
 obtain ⟨hB, hs, ao, m, c, c0, _, _, hm, hm2, hx⟩ := ht
 refine ⟨hB, Nat.lt_of_lt_of_le hs hg.size, ao, m, c, h0.trans c0, h1, hf, hm, hm2, fun i hi => ?_⟩
 obtain ⟨b, o, x, e, hb, hc⟩ := hx i hi
 exact ⟨b, o, x, e, hb, only_cell hg hc (by omega)⟩
set_option maxRecDepth 100000 in
set_option maxHeartbeats 1000000 in
theorem next_in (B p k m c : Nat) (b o : Nat) (x : Int) (n : Int) (w : World) (ht : TP w B p k) (hk : k < 1000000) (h1 : 1 ≤ n) (h2 : n ≤ 1000000) (hm : m ≤ 9223372036854775807) (hmc : m ≤ c)
  (c0 : w.cell? ⟨p, 0, none⟩ = some (.slice (some ⟨b, o, none⟩) m c)) (c1 : w.cell? ⟨p, 1, none⟩ = some (.int .i64 (k : Int))) (hf : w.frozen? ⟨p, 1, none⟩ = false) (hlt : k < m) (hx : w.cell? ⟨b, o + k, none⟩ = some (.int .i64 x)) :
  Calls Tryz.prog 39 #[.pointer (some ⟨p, 0, none⟩), .int .i64 n] w (NextPost w B p k n) := by
 have HT := Lib.hid ht
 clear ht
 have t1 := tmod_bd x n h1
 have e1 := IntWalk.i64_in (x.tmod n + n) (by omega)
 have e2 : 0 ≤ x.tmod n + n := by omega
 go_enter Tryz.func39, Tryz.ntmps39
 go_wp2_with fail
 refine Plan.wp_region_plan (fun w' => w'.cell? ⟨p, 0, none⟩ = some (.slice (some ⟨b, o, none⟩) m c) ∧ w'.cell? ⟨p, 1, none⟩ = some (.int .i64 (k : Int))) (([0, 1, 2, 3, 4, 5, 6, 7, 8, 9].map (·, true))) (by kernel_rfl) (by kernel_rfl) (by kernel_rfl) ⟨c0, c1⟩ ?_
 refine' Plan.plan_seg _ [0, 1, 2, 3, 4, 5, 6, 7, 8, 9] ([]) (by kernel_rfl) (by kernel_rfl) rfl (by exact ⟨c0, c1⟩) (fun wx hS => ?_) ?_
 rotate_left
 ·obtain ⟨s0, s1⟩ := hS
  go_light
  iterate 10 (apply Plan.seg_pick; rfl; intro K hK; go_wp)
  exact Plan.seg_nil
 refine Plan.plan_done ?_
 go_wp2_with fail
 refine Plan.wp_region_plan (fun w' => w'.cell? ⟨p, 0, none⟩ = some (.slice (some ⟨b, o, none⟩) m c) ∧ w'.cell? ⟨p, 1, none⟩ = some (.int .i64 (k : Int)) ∧ w'.cell? ⟨b, o + k, none⟩ = some (.int .i64 x)) (([0, 1, 2, 3, 4, 5, 6, 7, 8, 9, 10].map (·, true))) (by kernel_rfl) (by kernel_rfl) (by kernel_rfl) ⟨c0, c1, hx⟩ ?_
 refine' Plan.plan_seg _ [0, 1, 2, 3, 4, 5, 6, 7, 8, 9, 10] ([]) (by kernel_rfl) (by kernel_rfl) rfl (by exact ⟨c0, c1, hx⟩) (fun wx hS => ?_) ?_
 rotate_left
 ·obtain ⟨s0, s1, s2⟩ := hS
  go_light
  iterate 11 (apply Plan.seg_pick; rfl; intro K hK; go_wp)
  exact Plan.seg_nil
 refine Plan.plan_done ?_
 go_wp2_with fail
 go_ret
 refine next_post (v := x) ?_ h1 HT.out ?_ ?_ ?_ ?_
 ·rfl
 ·exact only_drew (only_drew (only_store (only_refl _ _) _ _))
 ·simp [go_sem, c1, World.cell?_drew]
 ·simp [go_sem, c0, World.cell?_drew]
 ·simp [go_sem, hf]
set_option maxRecDepth 100000 in
set_option maxHeartbeats 1000000 in
theorem next_out (B p k m c : Nat) (ao : Option Addr) (n : Int) (w : World) (ht : TP w B p k) (hk : k < 1000000) (h1 : 1 ≤ n) (h2 : n ≤ 1000000) (hm : m ≤ 9223372036854775807) (hmc : m ≤ c)
  (c0 : w.cell? ⟨p, 0, none⟩ = some (.slice ao m c)) (c1 : w.cell? ⟨p, 1, none⟩ = some (.int .i64 (k : Int))) (hf : w.frozen? ⟨p, 1, none⟩ = false) (hlt : m ≤ k) :
  Calls Tryz.prog 39 #[.pointer (some ⟨p, 0, none⟩), .int .i64 n] w (NextPost w B p k n) := by
 have HT := Lib.hid ht
 clear ht
 have q0 := Int.emod_nonneg ((k : Int) * 7 + 3) (show n ≠ 0 by omega)
 have q1 := Int.emod_lt_of_pos ((k : Int) * 7 + 3) (show 0 < n by omega)
 go_enter Tryz.func39, Tryz.ntmps39
 go_wp2_with fail
 refine Plan.wp_region_plan (fun w' => w'.cell? ⟨p, 0, none⟩ = some (.slice ao m c) ∧ w'.cell? ⟨p, 1, none⟩ = some (.int .i64 (k : Int))) (([0, 1, 2, 3, 4, 5, 6, 7, 8, 9].map (·, true))) (by kernel_rfl) (by kernel_rfl) (by kernel_rfl) ⟨c0, c1⟩ ?_
 refine' Plan.plan_seg _ [0, 1, 2, 3, 4, 5, 6, 7, 8, 9] ([]) (by kernel_rfl) (by kernel_rfl) rfl (by exact ⟨c0, c1⟩) (fun wx hS => ?_) ?_
 rotate_left
 ·obtain ⟨s0, s1⟩ := hS
  go_light
  iterate 10 (apply Plan.seg_pick; rfl; intro K hK; go_wp)
  exact Plan.seg_nil
 refine Plan.plan_done ?_
 go_wp2_with fail
 go_ret
 refine next_post (v := ((k : Int) * 7 + 3)) ?_ h1 HT.out ?_ ?_ ?_ ?_
 ·rw [Int.tmod_eq_emod_of_nonneg (show (0 : Int) ≤ (k : Int) * 7 + 3 by omega)]
 ·exact only_drew (only_store (only_refl _ _) _ _)
 ·simp [go_sem, c1, World.cell?_drew]
 ·simp [go_sem, c0, World.cell?_drew]
 ·simp [go_sem, hf]
theorem next_any (B p k : Nat) (n : Int) (w : World) (ht : TP w B p k) (hk : k < 1000000) (h1 : 1 ≤ n) (h2 : n ≤ 1000000) :
  Calls Tryz.prog 39 #[.pointer (some ⟨p, 0, none⟩), .int .i64 n] w (NextPost w B p k n) := by
 have ht' := ht
 obtain ⟨hB, hs, ao, m, c, c0, c1, hf, hmc, hm, hx⟩ := ht
 by_cases hlt : k < m
 ·obtain ⟨b, o, x, rfl, hb, hc⟩ := hx k hlt
  exact next_in B p k m c b o x n w ht' hk h1 h2 hm hmc c0 c1 hf hlt hc
 ·exact next_out B p k m c ao n w ht' hk h1 h2 hm hmc c0 c1 hf (by omega)
set_option maxRecDepth 100000 in
set_option maxHeartbeats 4000000 in
theorem tname_any (a : UInt8) (k : Nat) (w : World) (hk : k < 10) :
  Calls Tryz.prog 118 #[.string ⟨#[a]⟩, .int .i64 (k : Int)] w fun e w' => e = .returned (.string ⟨#[a, UInt8.ofNat (48 + k)]⟩) ∧ w = w' := by
 obtain rfl | rfl | rfl | rfl | rfl | rfl | rfl | rfl | rfl | rfl : k = 0 ∨ k = 1 ∨ k = 2 ∨ k = 3 ∨ k = 4 ∨ k = 5 ∨ k = 6 ∨ k = 7 ∨ k = 8 ∨ k = 9 := by omega
 all_goals
  go_enter Tryz.func118, Tryz.ntmps118
  go_wp2_with fail
  go_ret
  refine ⟨?_, rfl⟩
  rfl
end Go.Proofs.YtfoohocgdcgbcaaGreat
