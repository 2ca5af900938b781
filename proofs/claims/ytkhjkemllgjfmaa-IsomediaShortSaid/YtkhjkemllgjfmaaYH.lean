/- The contract of the program's runs. -/
import Derived.Test.YtkhjkemllgjfmaaYG
namespace Go.Proofs.Ytkhjkemllgjfmaa
open Go.RowKit
set_option linter.unusedVariables false
set_option linter.unusedSimpArgs false

theorem dur_any (x : Value) (s : Sm) (w : World) : Calls Try.prog 73 #[.agg #[x, .int .i64 s.dur, .int .i64 s.shift, .bool s.sync]] w fun e w' => e = .returned (.int .i64 s.dur) ∧ Below w.heap.size w w' := by
  go_enter Try.func73, Try.ntmps73
  go_wp2_with fail
  go_ret
  exact ⟨rfl, below_box _ _⟩
theorem shift_any (x : Value) (s : Sm) (w : World) : Calls Try.prog 74 #[.agg #[x, .int .i64 s.dur, .int .i64 s.shift, .bool s.sync]] w fun e w' => e = .returned (.int .i64 s.shift) ∧ Below w.heap.size w w' := by
  go_enter Try.func74, Try.ntmps74
  go_wp2_with fail
  go_ret
  exact ⟨rfl, below_box _ _⟩

def iv (L : List Int) : List Value := L.map (.int .i64)
theorem rl_first {f g : Nat → Int} {n : Nat} (h : ∀ i, i < n → f i = g i) (k : Nat) (hk : k ≤ n) : rl f k = rl g k := by
  induction k with
  | zero => rfl
  | succ k ih =>
    rw [rl, rl, ih (by omega), h k (by omega)]
    by_cases e : 0 < k
    · rw [h (k - 1) (by omega)]
    · rw [if_neg (by omega), if_neg (by omega)]
theorem rl_pos {f : Nat → Int} {k : Nat} (hk : 0 < k) : ∃ (P : List (Int × Int)) (c : Int), rl f k = P ++ [(c, f (k - 1))] ∧ 1 ≤ c ∧ c ≤ k := by
  induction k with
  | zero => omega
  | succ k ih =>
    rcases Nat.eq_zero_or_pos k with rfl | h0
    · exact ⟨[], 1, by simp [rl], by omega, by omega⟩
    · obtain ⟨P, c, e, h1, h2⟩ := ih h0
      rw [rl]
      by_cases he : f k = f (k - 1)
      · rw [if_pos ⟨h0, he⟩, e, bump_append]
        exact ⟨P, c + 1, by rw [Nat.add_sub_cancel, he], by omega, by omega⟩
      · rw [if_neg (fun h => he h.2)]
        exact ⟨rl f k, 1, by rw [Nat.add_sub_cancel], by omega, by omega⟩
theorem owns_shapeN {w : World} {B E size n : Nat} {v : Value} {xs : List Value} (h : w.ownsRow B E size v n xs) : ∃ a c, v = .slice a n c := by
  rcases h.2 with ⟨rfl, rfl⟩ | ⟨g, cap, cur, rfl, _⟩
  · exact ⟨_, _, rfl⟩
  · exact ⟨_, _, rfl⟩
theorem owns_il {w : World} {B m : Nat} {v : Value} {X : List Value} {f : Nat → Int} {k : Nat} (hm : m = (rl f k).length) (hX : X = iv (pairs2 (rl f k))) (h : w.ownsRow B 2 1 v (2 * m) X) : IL w v (pairs2 (rl f k)) := by
  have hl : (pairs2 (rl f k)).length = 2 * m := by rw [pairs2_length, hm]
  rcases Nat.eq_zero_or_pos (2 * m) with h0 | h0
  · rw [h0] at h
    obtain ⟨a, c, rfl⟩ := owns_zero h
    exact ⟨a, c, by rw [hl, h0], by omega, fun i u hi => by have := (List.getElem?_eq_some_iff.1 hi).1; omega⟩
  · obtain ⟨g, c, rfl, hc, H⟩ := owns_open h h0
    refine ⟨_, c, by rw [hl], by omega, fun i u hi => ⟨g, 0, rfl, ?_⟩⟩
    simpa using H i (.int .i64 u) (by rw [hX]; simp [iv, hi])
theorem iv_set (P : List (Int × Int)) (c x : Int) : (iv (pairs2 (P ++ [(c, x)]))).set (2 * P.length) (.int .i64 (c + 1)) = iv (pairs2 (P ++ [(c + 1, x)])) := by
  rw [pairs2_append, pairs2_append]
  simp only [iv, List.map_append]
  have h : (List.map (Value.int .i64) (pairs2 P)).length = 2 * P.length := by rw [List.length_map, pairs2_length]
  rw [List.set_append, if_neg (by rw [h]; omega), h, Nat.sub_self]
  rfl

set_option maxRecDepth 100000 in
set_option maxHeartbeats 4000000 in
theorem runs_dur
    (v : Value) (n : Nat) (S : Nat → Sm) (w : World) (hv : SA w v n S) (hn : n ≤ 100000) :
    Calls Try.prog 72 #[v, .func (.func 73) #[] #[]] w fun e w' => ∃ r, e = .returned r ∧ Own w' w.heap.size r (runsL (fun i => (S i).dur) n) ∧ Below w.heap.size w w' := by
  have HCL := Lib.hid dur_any
  have HV := Lib.hid hv
  obtain ⟨ao, c, rfl⟩ := hv.shape
  obtain ⟨f, hf⟩ : ∃ f : Nat → Int, f = fun i => (S i).dur := ⟨_, rfl⟩
  have HF := Lib.hid hf
  rw [← hf]
  clear hv hf
  go_enter Try.func72, Try.ntmps72
  go_wp2_with fail
  obtain ⟨w1, hw⟩ : ∃ x, x = w.alloc (.cells #[] 2) := ⟨_, rfl⟩
  rw [← hw]
  have hE : Below w.heap.size w w1 := by rw [hw]; exact below_box _ _
  have HOW := Lib.hid (show w1.ownsRow w.heap.size 2 1 (.slice (some ⟨w.heap.size, 0, none⟩) 0 0) 0 [] from by rw [hw]; exact owns_empty w 2 1)
  have HB := Lib.hid hE
  clear hw hE
  go_loopw [11, 5] (fun i r wr => ∃ (k : Nat), k ≤ n ∧ i = .int .i64 (k : Int) ∧ wr.ownsRow w.heap.size 2 1 r (2 * (rl f k).length) (iv (pairs2 (rl f k))) ∧ Below w.heap.size w wr) (fun i _ _ => n - (intOf i).toNat)
  case atStart => exact ⟨0, Nat.zero_le _, rfl, HOW.out, HB.out⟩
  case round =>
    obtain ⟨k, hk, rfl, ho, hb⟩ := hrel
    obtain ⟨m, hm⟩ : ∃ m, m = (rl f k).length := ⟨_, rfl⟩
    have hmk : m ≤ k := by rw [hm]; exact rl_length f k
    obtain ⟨X, hX⟩ : ∃ X, X = iv (pairs2 (rl f k)) := ⟨_, rfl⟩
    rw [← hm, ← hX] at ho
    have HM := Lib.hid hm
    have HX := Lib.hid hX
    obtain ⟨ra, rc, hr⟩ := owns_shapeN ho
    subst hr
    have HO := Lib.hid ho
    have HBW := Lib.hid hb
    clear ho hb hm hX
    by_cases hlt : k < n
    · obtain ⟨ao', c', e, hcc, H⟩ := HV.out.below HBW.out
      simp only [Value.slice.injEq, true_and] at e
      obtain ⟨rfl, rfl⟩ := e
      obtain ⟨b, o, x1, rfl, p0, p1, p2, p3, hx⟩ := H k hlt
      obtain ⟨ax, dx, rfl⟩ := hx.shape
      obtain ⟨s1, hs1⟩ : ∃ s, s = S k := ⟨_, rfl⟩
      rw [← hs1] at p1 p2 p3 p0 hx
      have HS1 := Lib.hid (show f k = s1.dur from by rw [HF.out, hs1])
      clear hx hs1
      rcases Nat.eq_zero_or_pos k with rfl | h0
      · clear H
        simp only [Nat.zero_mul, Nat.add_zero] at p0 p1 p2 p3
        have hk3 : (0 : Int) < (n : Int) := by omega
        go_wp2_with fail
        obtain ⟨w4, hw4⟩ : ∃ x, x = wr.alloc (.cells #[.slice ax s1.n dx, .int .i64 s1.dur, .int .i64 s1.shift, .bool s1.sync] 75) := ⟨_, rfl⟩
        rw [← hw4]
        have hb4 : Below wr.heap.size wr w4 := by rw [hw4]; exact below_box _ _
        have k0 : w4.cell? ⟨wr.heap.size, 0, none⟩ = some (.slice ax s1.n dx) := by rw [hw4]; simp [go_sem]
        have k1 : w4.cell? ⟨wr.heap.size, 1, none⟩ = some (.int .i64 s1.dur) := by rw [hw4]; simp [go_sem]
        have k2 : w4.cell? ⟨wr.heap.size, 2, none⟩ = some (.int .i64 s1.shift) := by rw [hw4]; simp [go_sem]
        have k3 : w4.cell? ⟨wr.heap.size, 3, none⟩ = some (.bool s1.sync) := by rw [hw4]; simp [go_sem]
        obtain ⟨bs, hbs⟩ : ∃ z, z = wr.heap.size := ⟨_, rfl⟩
        rw [← hbs] at k0 k1 k2 k3 ⊢
        have HB4 := Lib.hid hb4
        have hbsw : w.heap.size ≤ bs := by have := HBW.out.size; omega
        have HBS := Lib.hid hbs
        clear hw4 hb4 hbs
        refine Plan.wp_region_plan (fun w' => w'.cell? ⟨bs, 0, none⟩ = some (.slice ax s1.n dx) ∧ w'.cell? ⟨bs, 1, none⟩ = some (.int .i64 s1.dur) ∧ w'.cell? ⟨bs, 2, none⟩ = some (.int .i64 s1.shift) ∧ w'.cell? ⟨bs, 3, none⟩ = some (.bool s1.sync)) (([0, 1, 2, 3, 4, 6, 7, 8, 9, 10, 11].map (·, true)) ++ (([5, 12].map (·, false)) ++ (([13, 14].map (·, true))))) (by kernel_rfl) (by kernel_rfl) (by kernel_rfl) ⟨k0, k1, k2, k3⟩ ?_
        refine' Plan.plan_seg _ [0, 1, 2, 3, 4, 6, 7, 8, 9, 10, 11] (([5, 12].map (·, false)) ++ (([13, 14].map (·, true)))) (by kernel_rfl) (by kernel_rfl) rfl (by exact ⟨k0, k1, k2, k3⟩) (fun wx hS => ?_) ?_
        rotate_left
        · obtain ⟨z0, z1, z2, z3⟩ := hS
          go_light
          iterate 11 (apply Plan.seg_pick; rfl; intro K hK; go_wp)
          exact Plan.seg_nil
        refine Plan.plan_of_effect rfl (fun K hK => ?_)
        go_wp2_with fail
        refine ⟨⟨k0, k1, k2, k3⟩, ?_⟩
        refine Plan.plan_of_effect rfl (fun K hK => ?_)
        go_wp2_with fail
        refine ⟨⟨k0, k1, k2, k3⟩, ?_⟩
        refine' Plan.plan_seg _ [13, 14] ([]) (by kernel_rfl) (by kernel_rfl) rfl (by exact ⟨k0, k1, k2, k3⟩) (fun wx hS => ?_) ?_
        rotate_left
        · obtain ⟨z0, z1, z2, z3⟩ := hS
          go_light
          iterate 2 (apply Plan.seg_pick; rfl; intro K hK; go_wp)
          exact Plan.seg_nil
        refine Plan.plan_done ?_
        have HWW := Lib.hid (HB4.out.drew)
        go_wp2_with fail
        refine (HCL.out _ s1 w4.drew).mono ?_
        rintro e w5 ⟨rfl, hb5⟩
        have HB5 := Lib.hid (HWW.out.trans (hb5.mono HWW.out.size))
        obtain ⟨Z, hZ⟩ : ∃ Z, Z = s1.dur := ⟨_, rfl⟩
        rw [← hZ]
        have HZ := Lib.hid (hZ.trans HS1.out.symm)
        clear hb5 hZ k0 k1 k2 k3
        have p9 : ∀ j u, [Value.int .i64 1, .int .i64 Z][j]? = some u → (w5.alloc (.cells #[.int .i64 1, .int .i64 Z] 2)).cell? ⟨w5.heap.size, 0 + j, none⟩ = some u := by
          intro j u hj
          match j, hj with
          | 0, hj => simp at hj; rw [← hj]; simp [go_sem]
          | 1, hj => simp at hj; rw [← hj]; simp [go_sem]
          | j + 2, hj => simp at hj
        have P9 := Lib.hid p9
        clear p9
        go_wp2_with (at_builtin; refine wpList_appN _ rfl (.tmp 39) (.tmp 43) 51 2 1 8 _ Try.underlying51 info2 rfl (by decide) (by decide) rfl w.heap.size (2 * m) w5.heap.size 0 2 2 _ X [.int .i64 1, .int .i64 Z] rfl (owns_below HO.out (HB5.out.trans ((below_box w5 _).mono HB5.out.size))) rfl rfl P9.out (by simp [Value.oneCell']) (by omega) (by have := HBW.out.size; have := HB5.out.size; simp; omega) ?_)
        intro v' w6 hv' hb6
        obtain ⟨X6, hX6⟩ : ∃ x, x = X ++ [Value.int .i64 1, .int .i64 Z] := ⟨_, rfl⟩
        rw [← hX6] at hv'
        obtain ⟨va, vc, hvv⟩ := owns_shapeN hv'
        subst hvv
        have HV6 := Lib.hid hv'
        have HB6 := Lib.hid ((HBW.out.trans ((HB5.out.trans ((below_box w5 _).mono HB5.out.size)).mono HBW.out.size)).trans hb6)
        have HX6 := Lib.hid hX6
        clear hv' hb6 hX6
        go_wp2_with fail
        go_roundw
        case rel =>
          have e : rl f (0 + 1) = rl f 0 ++ [(1, Z)] := by simp [rl, ← HZ.out]
          refine ⟨0 + 1, by omega, by go_num, ?_, HB6.out⟩
          have e2 : iv (pairs2 (rl f (0 + 1))) = X6 := by rw [e, pairs2_append, HX6.out, HX.out]; simp [iv, pairs2]
          have e3 : 2 * (rl f (0 + 1)).length = 2 * m + 2 := by rw [e, List.length_append, ← HM.out]; simp; omega
          rw [e2, e3]
          exact HV6.out
        case measure => simp [intOf]; omega
      · obtain ⟨j, rfl⟩ : ∃ j, k = j + 1 := ⟨k - 1, by omega⟩
        obtain ⟨b', o', x0, e, q0, q1, q2, q3, hx⟩ := H j (by omega)
        cases e
        obtain ⟨ay, dy, rfl⟩ := hx.shape
        obtain ⟨s0, hs0⟩ : ∃ s, s = S j := ⟨_, rfl⟩
        rw [← hs0] at q1 q2 q3 q0 hx
        have HS0 := Lib.hid (show f j = s0.dur from by rw [HF.out, hs0])
        have hk3 : (j : Int) + 1 < (n : Int) := by omega
        clear hx hs0 H
        go_wp2_with fail
        obtain ⟨w4, hw4⟩ : ∃ x, x = wr.alloc (.cells #[.slice ax s1.n dx, .int .i64 s1.dur, .int .i64 s1.shift, .bool s1.sync] 75) := ⟨_, rfl⟩
        rw [← hw4]
        have hb4 : Below wr.heap.size wr w4 := by rw [hw4]; exact below_box _ _
        have k0 : w4.cell? ⟨wr.heap.size, 0, none⟩ = some (.slice ax s1.n dx) := by rw [hw4]; simp [go_sem]
        have k1 : w4.cell? ⟨wr.heap.size, 1, none⟩ = some (.int .i64 s1.dur) := by rw [hw4]; simp [go_sem]
        have k2 : w4.cell? ⟨wr.heap.size, 2, none⟩ = some (.int .i64 s1.shift) := by rw [hw4]; simp [go_sem]
        have k3 : w4.cell? ⟨wr.heap.size, 3, none⟩ = some (.bool s1.sync) := by rw [hw4]; simp [go_sem]
        obtain ⟨bs, hbs⟩ : ∃ z, z = wr.heap.size := ⟨_, rfl⟩
        rw [← hbs] at k0 k1 k2 k3 ⊢
        have HB4 := Lib.hid hb4
        have hbsw : w.heap.size ≤ bs := by have := HBW.out.size; omega
        have HBS := Lib.hid hbs
        replace q0 := (hb4.cell (block_lt_of_cell q0)).trans q0
        replace q1 := (hb4.cell (block_lt_of_cell q1)).trans q1
        replace q2 := (hb4.cell (block_lt_of_cell q2)).trans q2
        replace q3 := (hb4.cell (block_lt_of_cell q3)).trans q3
        clear hw4 hb4 hbs
        refine Plan.wp_region_plan (fun w' => w'.cell? ⟨bs, 0, none⟩ = some (.slice ax s1.n dx) ∧ w'.cell? ⟨bs, 1, none⟩ = some (.int .i64 s1.dur) ∧ w'.cell? ⟨bs, 2, none⟩ = some (.int .i64 s1.shift) ∧ w'.cell? ⟨bs, 3, none⟩ = some (.bool s1.sync) ∧ w'.cell? ⟨b, o + j * 4, none⟩ = some (.slice ay s0.n dy) ∧ w'.cell? ⟨b, o + j * 4 + 1, none⟩ = some (.int .i64 s0.dur) ∧ w'.cell? ⟨b, o + j * 4 + 2, none⟩ = some (.int .i64 s0.shift) ∧ w'.cell? ⟨b, o + j * 4 + 3, none⟩ = some (.bool s0.sync)) (([0, 1, 2, 3, 4, 6, 7, 8, 9, 10, 11].map (·, true)) ++ (([5, 12].map (·, false)) ++ (([13, 14].map (·, true))))) (by kernel_rfl) (by kernel_rfl) (by kernel_rfl) ⟨k0, k1, k2, k3, q0, q1, q2, q3⟩ ?_
        refine' Plan.plan_seg _ [0, 1, 2, 3, 4, 6, 7, 8, 9, 10, 11] (([5, 12].map (·, false)) ++ (([13, 14].map (·, true)))) (by kernel_rfl) (by kernel_rfl) rfl (by exact ⟨k0, k1, k2, k3, q0, q1, q2, q3⟩) (fun wx hS => ?_) ?_
        rotate_left
        · obtain ⟨z0, z1, z2, z3, z4, z5, z6, z7⟩ := hS
          go_light
          iterate 11 (apply Plan.seg_pick; rfl; intro K hK; go_wp)
          exact Plan.seg_nil
        refine Plan.plan_of_effect rfl (fun K hK => ?_)
        go_wp2_with fail
        refine (HCL.out _ s1 _).mono ?_
        rintro e w5 ⟨rfl, hb5⟩
        replace hb5 : Below w4.heap.size w4 w5 := (Below.refl w4.heap.size w4).drew.trans hb5
        replace k0 := (hb5.cell (block_lt_of_cell k0)).trans k0
        replace k1 := (hb5.cell (block_lt_of_cell k1)).trans k1
        replace k2 := (hb5.cell (block_lt_of_cell k2)).trans k2
        replace k3 := (hb5.cell (block_lt_of_cell k3)).trans k3
        replace q0 := (hb5.cell (block_lt_of_cell q0)).trans q0
        replace q1 := (hb5.cell (block_lt_of_cell q1)).trans q1
        replace q2 := (hb5.cell (block_lt_of_cell q2)).trans q2
        replace q3 := (hb5.cell (block_lt_of_cell q3)).trans q3
        have HB5 := Lib.hid hb5
        clear hb5
        go_wp2_with fail
        refine ⟨⟨k0, k1, k2, k3, q0, q1, q2, q3⟩, ?_⟩
        refine Plan.plan_of_effect rfl (fun K hK => ?_)
        go_wp2_with fail
        refine (HCL.out _ s0 _).mono ?_
        rintro e w6 ⟨rfl, hb6⟩
        replace k0 := (hb6.cell (block_lt_of_cell k0)).trans k0
        replace k1 := (hb6.cell (block_lt_of_cell k1)).trans k1
        replace k2 := (hb6.cell (block_lt_of_cell k2)).trans k2
        replace k3 := (hb6.cell (block_lt_of_cell k3)).trans k3
        replace q0 := (hb6.cell (block_lt_of_cell q0)).trans q0
        replace q1 := (hb6.cell (block_lt_of_cell q1)).trans q1
        replace q2 := (hb6.cell (block_lt_of_cell q2)).trans q2
        replace q3 := (hb6.cell (block_lt_of_cell q3)).trans q3
        have HWW := Lib.hid (HB4.out.trans ((HB5.out.trans (hb6.mono HB5.out.size)).mono HB4.out.size))
        clear hb6
        go_wp2_with fail
        refine ⟨⟨k0, k1, k2, k3, q0, q1, q2, q3⟩, ?_⟩
        refine' Plan.plan_seg _ [13, 14] ([]) (by kernel_rfl) (by kernel_rfl) rfl (by exact ⟨k0, k1, k2, k3, q0, q1, q2, q3⟩) (fun wx hS => ?_) ?_
        rotate_left
        · obtain ⟨z0, z1, z2, z3, z4, z5, z6, z7⟩ := hS
          go_light
          iterate 2 (apply Plan.seg_pick; rfl; intro K hK; go_wp)
          exact Plan.seg_nil
        refine Plan.plan_done ?_
        clear q0 q1 q2 q3
        obtain ⟨P, c0, eP, hc1, hc2⟩ := rl_pos (f := f) h0
        rw [Nat.add_sub_cancel] at eP
        by_cases heq : s1.dur = s0.dur
        · have hbe : (s1.dur == s0.dur) = true := by simpa using heq
          have HEQ := Lib.hid (show f (j + 1) = f j by rw [HS1.out, HS0.out, heq])
          obtain ⟨q, hq⟩ : ∃ q, q = P.length := ⟨_, rfl⟩
          have hmq : m = q + 1 := by rw [HM.out, eP, List.length_append, hq]; rfl
          subst hmq
          obtain ⟨g, gc, eg, hgc, hgB, hgz, hcell⟩ := owns_open2 (owns_below HO.out HWW.out) (by omega)
          simp only [Value.slice.injEq, true_and] at eg
          obtain ⟨rfl, rfl⟩ := eg
          have hx0 : w6.cell? ⟨g, 2 * q, none⟩ = some (.int .i64 c0) := hcell (2 * q) _ (by
            rw [HX.out, eP, hq]
            have h : (iv (pairs2 P)).length = 2 * P.length := by simp [iv, pairs2_length]
            rw [pairs2_append]
            simp only [iv, List.map_append]
            rw [List.getElem?_append_right (by simp only [iv] at h; omega)]
            simp only [iv] at h
            rw [h, Nat.sub_self]; rfl)
          have hx2 : w6.cell? ⟨g, 2 * (q + 1) - 2, none⟩ = some (.int .i64 c0) := by rw [show 2 * (q + 1) - 2 = 2 * q by omega]; exact hx0
          have gz := hgz
          have HEP := Lib.hid eP
          have HQ := Lib.hid hq
          have HOS := Lib.hid (((owns_below HO.out HWW.out).stored (2 * (q + 1) - 2) (.int .i64 (c0 + 1))).1)
          have hgB2 : w.heap.size ≤ g := hgB
          clear eP hq hcell hgz k0 k1 k2 k3 heq hx0
          go_wp2_with fail
          go_roundw
          case rel =>
            have e : rl f (j + 1 + 1) = P ++ [(c0 + 1, f j)] := by rw [rl, if_pos ⟨by omega, by rw [Nat.add_sub_cancel]; exact HEQ.out⟩, HEP.out, bump_append]
            refine ⟨j + 1 + 1, by omega, by go_num, ?_, (HBW.out.trans (HWW.out.mono HBW.out.size)).setCell (by simpa using hgB2) _⟩
            have e2 : iv (pairs2 (rl f (j + 1 + 1))) = X.set (2 * (q + 1) - 2) (.int .i64 (c0 + 1)) := by
              rw [e, HX.out, HEP.out, show 2 * (q + 1) - 2 = 2 * P.length by rw [← HQ.out]; omega, iv_set]
            have e3 : 2 * (rl f (j + 1 + 1)).length = 2 * (q + 1) := by rw [e, List.length_append, ← HQ.out]; rfl
            rw [e2, e3]
            exact HOS.out
          case measure => simp [intOf]; omega
        · have hbe : (s1.dur == s0.dur) = false := by simpa using heq
          have HNE := Lib.hid (show ¬ (0 < j + 1 ∧ f (j + 1) = f (j + 1 - 1)) from fun h => heq (by have := h.2; rw [Nat.add_sub_cancel, HS1.out, HS0.out] at this; exact this))
          clear heq eP
          go_wp2_with fail
          refine (HCL.out _ s1 w6).mono ?_
          rintro e w5 ⟨rfl, hb5⟩
          have HB5 := Lib.hid (HWW.out.trans (hb5.mono HWW.out.size))
          obtain ⟨Z, hZ⟩ : ∃ Z, Z = s1.dur := ⟨_, rfl⟩
          rw [← hZ]
          have HZ := Lib.hid (hZ.trans HS1.out.symm)
          clear hb5 hZ k0 k1 k2 k3
          have p9 : ∀ j u, [Value.int .i64 1, .int .i64 Z][j]? = some u → (w5.alloc (.cells #[.int .i64 1, .int .i64 Z] 2)).cell? ⟨w5.heap.size, 0 + j, none⟩ = some u := by
            intro j u hj
            match j, hj with
            | 0, hj => simp at hj; rw [← hj]; simp [go_sem]
            | 1, hj => simp at hj; rw [← hj]; simp [go_sem]
            | j + 2, hj => simp at hj
          have P9 := Lib.hid p9
          clear p9
          go_wp2_with (at_builtin; refine wpList_appN _ rfl (.tmp 39) (.tmp 43) 51 2 1 8 _ Try.underlying51 info2 rfl (by decide) (by decide) rfl w.heap.size (2 * m) w5.heap.size 0 2 2 _ X [.int .i64 1, .int .i64 Z] rfl (owns_below HO.out (HB5.out.trans ((below_box w5 _).mono HB5.out.size))) rfl rfl P9.out (by simp [Value.oneCell']) (by omega) (by have := HBW.out.size; have := HB5.out.size; simp; omega) ?_)
          intro v' w7 hv' hb7
          obtain ⟨X6, hX6⟩ : ∃ x, x = X ++ [Value.int .i64 1, .int .i64 Z] := ⟨_, rfl⟩
          rw [← hX6] at hv'
          obtain ⟨va, vc, hvv⟩ := owns_shapeN hv'
          subst hvv
          have HV6 := Lib.hid hv'
          have HB6 := Lib.hid ((HBW.out.trans ((HB5.out.trans ((below_box w5 _).mono HB5.out.size)).mono HBW.out.size)).trans hb7)
          have HX6 := Lib.hid hX6
          clear hv' hb7 hX6
          go_wp2_with fail
          go_roundw
          case rel =>
            have e : rl f ((j + 1) + 1) = rl f (j + 1) ++ [(1, Z)] := by rw [rl, if_neg HNE.out, HZ.out]
            refine ⟨(j + 1) + 1, by omega, by go_num, ?_, HB6.out⟩
            have e2 : iv (pairs2 (rl f ((j + 1) + 1))) = X6 := by rw [e, pairs2_append, HX6.out, HX.out]; simp [iv, pairs2]
            have e3 : 2 * (rl f ((j + 1) + 1)).length = 2 * m + 2 := by rw [e, List.length_append, ← HM.out]; simp; omega
            rw [e2, e3]
            exact HV6.out
          case measure => simp [intOf]; omega
    · obtain rfl : k = n := by omega
      have hdiv : ((2 * m : Nat) : Int) / 2 = (m : Int) := by omega
      have HI : Hid (IL (wr.alloc (.cells #[.int .i64 0, .int .i64 (m : Int)] 2)) (.slice (some ⟨wr.heap.size, 0, none⟩) 2 2) [0, (m : Int)]) := Lib.hid (IL.build wr [0, (m : Int)] 2)
      go_wp2_with fail
      refine (appn_any (.slice none 0 0) _ [] [0, (m : Int)] wr.heap.size _ (own_nil _ _) HI.out (fun a n c e h => by cases h) (by simp) (by simp) (by simp)).mono ?_
      rintro e w5 ⟨r5, rfl, h5, ha5⟩
      obtain ⟨D, hD⟩ : ∃ D, D = [] ++ numsL [0, (m : Int)] := ⟨_, rfl⟩
      rw [← hD] at h5
      have HD := Lib.hid (show D = numsL [0, (m : Int)] from hD)
      have HDL := Lib.hid (show D.length = 8 from by rw [HD.out, numsL_length]; rfl)
      have hb15 : Below wr.heap.size wr w5 := ((below_box wr _)).trans ((ha5.below rfl).mono (by simp))
      have hap : Apart r5 (.slice ra (2 * m) rc) := by
        intro a n' c' e h2
        have h3 := (World.ownsRow.lt h5 _ h2).1
        have h4 := (World.ownsRow.lt HO.out a.block (by cases e; rfl)).2
        omega
      have HAP := Lib.hid hap
      obtain ⟨qa, qc, hq⟩ := h5.shape
      have HIT := Lib.hid (owns_il HM.out HX.out (owns_below HO.out hb15))
      have H5 := Lib.hid h5
      rw [hq] at H5 HAP ⊢
      have HB15 := Lib.hid hb15
      have hb5w := hb15.size
      clear h5 ha5 hb15 hD hap hq HI
      go_wp2_with fail
      refine (appn_any _ _ D _ wr.heap.size w5 H5.out HIT.out HAP.out (by rw [pairs2_length, ← HM.out]; omega) (by have := HDL.out; omega) hb5w).mono ?_
      rintro e w7 ⟨r7, rfl, h7, ha7⟩
      rw [show D ++ numsL (pairs2 (rl f k)) = runsL f k from by simp only [runsL]; rw [HD.out, HM.out]; rfl] at h7
      obtain ⟨Y, hY⟩ : ∃ Y, Y = runsL f k := ⟨_, rfl⟩
      rw [← hY] at h7
      have HY := Lib.hid hY
      have hb57 : Below wr.heap.size w5 w7 := by
        refine (Below.refl _ _).grown ha7.g hb5w (fun g h2 => ?_)
        exact (World.ownsRow.lt H5.out g h2).1
      obtain ⟨xa, xc, hxv⟩ := h7.shape
      subst hxv
      have H7 := Lib.hid (h7.mono HBW.out.size)
      have HB7 := Lib.hid ((HBW.out.trans (HB15.out.mono HBW.out.size)).trans (hb57.mono HBW.out.size))
      clear h7 ha7 hb57 hY HIT
      go_wp2_with fail
      go_ret
      rw [← HY.out]
      exact ⟨_, rfl, H7.out, HB7.out⟩
set_option maxRecDepth 100000 in
set_option maxHeartbeats 4000000 in
theorem runs_shift
    (v : Value) (n : Nat) (S : Nat → Sm) (w : World) (hv : SA w v n S) (hn : n ≤ 100000) :
    Calls Try.prog 72 #[v, .func (.func 74) #[] #[]] w fun e w' => ∃ r, e = .returned r ∧ Own w' w.heap.size r (runsL (fun i => (S i).shift) n) ∧ Below w.heap.size w w' := by
  have HCL := Lib.hid shift_any
  have HV := Lib.hid hv
  obtain ⟨ao, c, rfl⟩ := hv.shape
  obtain ⟨f, hf⟩ : ∃ f : Nat → Int, f = fun i => (S i).shift := ⟨_, rfl⟩
  have HF := Lib.hid hf
  rw [← hf]
  clear hv hf
  go_enter Try.func72, Try.ntmps72
  go_wp2_with fail
  obtain ⟨w1, hw⟩ : ∃ x, x = w.alloc (.cells #[] 2) := ⟨_, rfl⟩
  rw [← hw]
  have hE : Below w.heap.size w w1 := by rw [hw]; exact below_box _ _
  have HOW := Lib.hid (show w1.ownsRow w.heap.size 2 1 (.slice (some ⟨w.heap.size, 0, none⟩) 0 0) 0 [] from by rw [hw]; exact owns_empty w 2 1)
  have HB := Lib.hid hE
  clear hw hE
  go_loopw [11, 5] (fun i r wr => ∃ (k : Nat), k ≤ n ∧ i = .int .i64 (k : Int) ∧ wr.ownsRow w.heap.size 2 1 r (2 * (rl f k).length) (iv (pairs2 (rl f k))) ∧ Below w.heap.size w wr) (fun i _ _ => n - (intOf i).toNat)
  case atStart => exact ⟨0, Nat.zero_le _, rfl, HOW.out, HB.out⟩
  case round =>
    obtain ⟨k, hk, rfl, ho, hb⟩ := hrel
    obtain ⟨m, hm⟩ : ∃ m, m = (rl f k).length := ⟨_, rfl⟩
    have hmk : m ≤ k := by rw [hm]; exact rl_length f k
    obtain ⟨X, hX⟩ : ∃ X, X = iv (pairs2 (rl f k)) := ⟨_, rfl⟩
    rw [← hm, ← hX] at ho
    have HM := Lib.hid hm
    have HX := Lib.hid hX
    obtain ⟨ra, rc, hr⟩ := owns_shapeN ho
    subst hr
    have HO := Lib.hid ho
    have HBW := Lib.hid hb
    clear ho hb hm hX
    by_cases hlt : k < n
    · obtain ⟨ao', c', e, hcc, H⟩ := HV.out.below HBW.out
      simp only [Value.slice.injEq, true_and] at e
      obtain ⟨rfl, rfl⟩ := e
      obtain ⟨b, o, x1, rfl, p0, p1, p2, p3, hx⟩ := H k hlt
      obtain ⟨ax, dx, rfl⟩ := hx.shape
      obtain ⟨s1, hs1⟩ : ∃ s, s = S k := ⟨_, rfl⟩
      rw [← hs1] at p1 p2 p3 p0 hx
      have HS1 := Lib.hid (show f k = s1.shift from by rw [HF.out, hs1])
      clear hx hs1
      rcases Nat.eq_zero_or_pos k with rfl | h0
      · clear H
        simp only [Nat.zero_mul, Nat.add_zero] at p0 p1 p2 p3
        have hk3 : (0 : Int) < (n : Int) := by omega
        go_wp2_with fail
        obtain ⟨w4, hw4⟩ : ∃ x, x = wr.alloc (.cells #[.slice ax s1.n dx, .int .i64 s1.dur, .int .i64 s1.shift, .bool s1.sync] 75) := ⟨_, rfl⟩
        rw [← hw4]
        have hb4 : Below wr.heap.size wr w4 := by rw [hw4]; exact below_box _ _
        have k0 : w4.cell? ⟨wr.heap.size, 0, none⟩ = some (.slice ax s1.n dx) := by rw [hw4]; simp [go_sem]
        have k1 : w4.cell? ⟨wr.heap.size, 1, none⟩ = some (.int .i64 s1.dur) := by rw [hw4]; simp [go_sem]
        have k2 : w4.cell? ⟨wr.heap.size, 2, none⟩ = some (.int .i64 s1.shift) := by rw [hw4]; simp [go_sem]
        have k3 : w4.cell? ⟨wr.heap.size, 3, none⟩ = some (.bool s1.sync) := by rw [hw4]; simp [go_sem]
        obtain ⟨bs, hbs⟩ : ∃ z, z = wr.heap.size := ⟨_, rfl⟩
        rw [← hbs] at k0 k1 k2 k3 ⊢
        have HB4 := Lib.hid hb4
        have hbsw : w.heap.size ≤ bs := by have := HBW.out.size; omega
        have HBS := Lib.hid hbs
        clear hw4 hb4 hbs
        refine Plan.wp_region_plan (fun w' => w'.cell? ⟨bs, 0, none⟩ = some (.slice ax s1.n dx) ∧ w'.cell? ⟨bs, 1, none⟩ = some (.int .i64 s1.dur) ∧ w'.cell? ⟨bs, 2, none⟩ = some (.int .i64 s1.shift) ∧ w'.cell? ⟨bs, 3, none⟩ = some (.bool s1.sync)) (([0, 1, 2, 3, 4, 6, 7, 8, 9, 10, 11].map (·, true)) ++ (([5, 12].map (·, false)) ++ (([13, 14].map (·, true))))) (by kernel_rfl) (by kernel_rfl) (by kernel_rfl) ⟨k0, k1, k2, k3⟩ ?_
        refine' Plan.plan_seg _ [0, 1, 2, 3, 4, 6, 7, 8, 9, 10, 11] (([5, 12].map (·, false)) ++ (([13, 14].map (·, true)))) (by kernel_rfl) (by kernel_rfl) rfl (by exact ⟨k0, k1, k2, k3⟩) (fun wx hS => ?_) ?_
        rotate_left
        · obtain ⟨z0, z1, z2, z3⟩ := hS
          go_light
          iterate 11 (apply Plan.seg_pick; rfl; intro K hK; go_wp)
          exact Plan.seg_nil
        refine Plan.plan_of_effect rfl (fun K hK => ?_)
        go_wp2_with fail
        refine ⟨⟨k0, k1, k2, k3⟩, ?_⟩
        refine Plan.plan_of_effect rfl (fun K hK => ?_)
        go_wp2_with fail
        refine ⟨⟨k0, k1, k2, k3⟩, ?_⟩
        refine' Plan.plan_seg _ [13, 14] ([]) (by kernel_rfl) (by kernel_rfl) rfl (by exact ⟨k0, k1, k2, k3⟩) (fun wx hS => ?_) ?_
        rotate_left
        · obtain ⟨z0, z1, z2, z3⟩ := hS
          go_light
          iterate 2 (apply Plan.seg_pick; rfl; intro K hK; go_wp)
          exact Plan.seg_nil
        refine Plan.plan_done ?_
        have HWW := Lib.hid (HB4.out.drew)
        go_wp2_with fail
        refine (HCL.out _ s1 w4.drew).mono ?_
        rintro e w5 ⟨rfl, hb5⟩
        have HB5 := Lib.hid (HWW.out.trans (hb5.mono HWW.out.size))
        obtain ⟨Z, hZ⟩ : ∃ Z, Z = s1.shift := ⟨_, rfl⟩
        rw [← hZ]
        have HZ := Lib.hid (hZ.trans HS1.out.symm)
        clear hb5 hZ k0 k1 k2 k3
        have p9 : ∀ j u, [Value.int .i64 1, .int .i64 Z][j]? = some u → (w5.alloc (.cells #[.int .i64 1, .int .i64 Z] 2)).cell? ⟨w5.heap.size, 0 + j, none⟩ = some u := by
          intro j u hj
          match j, hj with
          | 0, hj => simp at hj; rw [← hj]; simp [go_sem]
          | 1, hj => simp at hj; rw [← hj]; simp [go_sem]
          | j + 2, hj => simp at hj
        have P9 := Lib.hid p9
        clear p9
        go_wp2_with (at_builtin; refine wpList_appN _ rfl (.tmp 39) (.tmp 43) 51 2 1 8 _ Try.underlying51 info2 rfl (by decide) (by decide) rfl w.heap.size (2 * m) w5.heap.size 0 2 2 _ X [.int .i64 1, .int .i64 Z] rfl (owns_below HO.out (HB5.out.trans ((below_box w5 _).mono HB5.out.size))) rfl rfl P9.out (by simp [Value.oneCell']) (by omega) (by have := HBW.out.size; have := HB5.out.size; simp; omega) ?_)
        intro v' w6 hv' hb6
        obtain ⟨X6, hX6⟩ : ∃ x, x = X ++ [Value.int .i64 1, .int .i64 Z] := ⟨_, rfl⟩
        rw [← hX6] at hv'
        obtain ⟨va, vc, hvv⟩ := owns_shapeN hv'
        subst hvv
        have HV6 := Lib.hid hv'
        have HB6 := Lib.hid ((HBW.out.trans ((HB5.out.trans ((below_box w5 _).mono HB5.out.size)).mono HBW.out.size)).trans hb6)
        have HX6 := Lib.hid hX6
        clear hv' hb6 hX6
        go_wp2_with fail
        go_roundw
        case rel =>
          have e : rl f (0 + 1) = rl f 0 ++ [(1, Z)] := by simp [rl, ← HZ.out]
          refine ⟨0 + 1, by omega, by go_num, ?_, HB6.out⟩
          have e2 : iv (pairs2 (rl f (0 + 1))) = X6 := by rw [e, pairs2_append, HX6.out, HX.out]; simp [iv, pairs2]
          have e3 : 2 * (rl f (0 + 1)).length = 2 * m + 2 := by rw [e, List.length_append, ← HM.out]; simp; omega
          rw [e2, e3]
          exact HV6.out
        case measure => simp [intOf]; omega
      · obtain ⟨j, rfl⟩ : ∃ j, k = j + 1 := ⟨k - 1, by omega⟩
        obtain ⟨b', o', x0, e, q0, q1, q2, q3, hx⟩ := H j (by omega)
        cases e
        obtain ⟨ay, dy, rfl⟩ := hx.shape
        obtain ⟨s0, hs0⟩ : ∃ s, s = S j := ⟨_, rfl⟩
        rw [← hs0] at q1 q2 q3 q0 hx
        have HS0 := Lib.hid (show f j = s0.shift from by rw [HF.out, hs0])
        have hk3 : (j : Int) + 1 < (n : Int) := by omega
        clear hx hs0 H
        go_wp2_with fail
        obtain ⟨w4, hw4⟩ : ∃ x, x = wr.alloc (.cells #[.slice ax s1.n dx, .int .i64 s1.dur, .int .i64 s1.shift, .bool s1.sync] 75) := ⟨_, rfl⟩
        rw [← hw4]
        have hb4 : Below wr.heap.size wr w4 := by rw [hw4]; exact below_box _ _
        have k0 : w4.cell? ⟨wr.heap.size, 0, none⟩ = some (.slice ax s1.n dx) := by rw [hw4]; simp [go_sem]
        have k1 : w4.cell? ⟨wr.heap.size, 1, none⟩ = some (.int .i64 s1.dur) := by rw [hw4]; simp [go_sem]
        have k2 : w4.cell? ⟨wr.heap.size, 2, none⟩ = some (.int .i64 s1.shift) := by rw [hw4]; simp [go_sem]
        have k3 : w4.cell? ⟨wr.heap.size, 3, none⟩ = some (.bool s1.sync) := by rw [hw4]; simp [go_sem]
        obtain ⟨bs, hbs⟩ : ∃ z, z = wr.heap.size := ⟨_, rfl⟩
        rw [← hbs] at k0 k1 k2 k3 ⊢
        have HB4 := Lib.hid hb4
        have hbsw : w.heap.size ≤ bs := by have := HBW.out.size; omega
        have HBS := Lib.hid hbs
        replace q0 := (hb4.cell (block_lt_of_cell q0)).trans q0
        replace q1 := (hb4.cell (block_lt_of_cell q1)).trans q1
        replace q2 := (hb4.cell (block_lt_of_cell q2)).trans q2
        replace q3 := (hb4.cell (block_lt_of_cell q3)).trans q3
        clear hw4 hb4 hbs
        refine Plan.wp_region_plan (fun w' => w'.cell? ⟨bs, 0, none⟩ = some (.slice ax s1.n dx) ∧ w'.cell? ⟨bs, 1, none⟩ = some (.int .i64 s1.dur) ∧ w'.cell? ⟨bs, 2, none⟩ = some (.int .i64 s1.shift) ∧ w'.cell? ⟨bs, 3, none⟩ = some (.bool s1.sync) ∧ w'.cell? ⟨b, o + j * 4, none⟩ = some (.slice ay s0.n dy) ∧ w'.cell? ⟨b, o + j * 4 + 1, none⟩ = some (.int .i64 s0.dur) ∧ w'.cell? ⟨b, o + j * 4 + 2, none⟩ = some (.int .i64 s0.shift) ∧ w'.cell? ⟨b, o + j * 4 + 3, none⟩ = some (.bool s0.sync)) (([0, 1, 2, 3, 4, 6, 7, 8, 9, 10, 11].map (·, true)) ++ (([5, 12].map (·, false)) ++ (([13, 14].map (·, true))))) (by kernel_rfl) (by kernel_rfl) (by kernel_rfl) ⟨k0, k1, k2, k3, q0, q1, q2, q3⟩ ?_
        refine' Plan.plan_seg _ [0, 1, 2, 3, 4, 6, 7, 8, 9, 10, 11] (([5, 12].map (·, false)) ++ (([13, 14].map (·, true)))) (by kernel_rfl) (by kernel_rfl) rfl (by exact ⟨k0, k1, k2, k3, q0, q1, q2, q3⟩) (fun wx hS => ?_) ?_
        rotate_left
        · obtain ⟨z0, z1, z2, z3, z4, z5, z6, z7⟩ := hS
          go_light
          iterate 11 (apply Plan.seg_pick; rfl; intro K hK; go_wp)
          exact Plan.seg_nil
        refine Plan.plan_of_effect rfl (fun K hK => ?_)
        go_wp2_with fail
        refine (HCL.out _ s1 _).mono ?_
        rintro e w5 ⟨rfl, hb5⟩
        replace hb5 : Below w4.heap.size w4 w5 := (Below.refl w4.heap.size w4).drew.trans hb5
        replace k0 := (hb5.cell (block_lt_of_cell k0)).trans k0
        replace k1 := (hb5.cell (block_lt_of_cell k1)).trans k1
        replace k2 := (hb5.cell (block_lt_of_cell k2)).trans k2
        replace k3 := (hb5.cell (block_lt_of_cell k3)).trans k3
        replace q0 := (hb5.cell (block_lt_of_cell q0)).trans q0
        replace q1 := (hb5.cell (block_lt_of_cell q1)).trans q1
        replace q2 := (hb5.cell (block_lt_of_cell q2)).trans q2
        replace q3 := (hb5.cell (block_lt_of_cell q3)).trans q3
        have HB5 := Lib.hid hb5
        clear hb5
        go_wp2_with fail
        refine ⟨⟨k0, k1, k2, k3, q0, q1, q2, q3⟩, ?_⟩
        refine Plan.plan_of_effect rfl (fun K hK => ?_)
        go_wp2_with fail
        refine (HCL.out _ s0 _).mono ?_
        rintro e w6 ⟨rfl, hb6⟩
        replace k0 := (hb6.cell (block_lt_of_cell k0)).trans k0
        replace k1 := (hb6.cell (block_lt_of_cell k1)).trans k1
        replace k2 := (hb6.cell (block_lt_of_cell k2)).trans k2
        replace k3 := (hb6.cell (block_lt_of_cell k3)).trans k3
        replace q0 := (hb6.cell (block_lt_of_cell q0)).trans q0
        replace q1 := (hb6.cell (block_lt_of_cell q1)).trans q1
        replace q2 := (hb6.cell (block_lt_of_cell q2)).trans q2
        replace q3 := (hb6.cell (block_lt_of_cell q3)).trans q3
        have HWW := Lib.hid (HB4.out.trans ((HB5.out.trans (hb6.mono HB5.out.size)).mono HB4.out.size))
        clear hb6
        go_wp2_with fail
        refine ⟨⟨k0, k1, k2, k3, q0, q1, q2, q3⟩, ?_⟩
        refine' Plan.plan_seg _ [13, 14] ([]) (by kernel_rfl) (by kernel_rfl) rfl (by exact ⟨k0, k1, k2, k3, q0, q1, q2, q3⟩) (fun wx hS => ?_) ?_
        rotate_left
        · obtain ⟨z0, z1, z2, z3, z4, z5, z6, z7⟩ := hS
          go_light
          iterate 2 (apply Plan.seg_pick; rfl; intro K hK; go_wp)
          exact Plan.seg_nil
        refine Plan.plan_done ?_
        clear q0 q1 q2 q3
        obtain ⟨P, c0, eP, hc1, hc2⟩ := rl_pos (f := f) h0
        rw [Nat.add_sub_cancel] at eP
        by_cases heq : s1.shift = s0.shift
        · have hbe : (s1.shift == s0.shift) = true := by simpa using heq
          have HEQ := Lib.hid (show f (j + 1) = f j by rw [HS1.out, HS0.out, heq])
          obtain ⟨q, hq⟩ : ∃ q, q = P.length := ⟨_, rfl⟩
          have hmq : m = q + 1 := by rw [HM.out, eP, List.length_append, hq]; rfl
          subst hmq
          obtain ⟨g, gc, eg, hgc, hgB, hgz, hcell⟩ := owns_open2 (owns_below HO.out HWW.out) (by omega)
          simp only [Value.slice.injEq, true_and] at eg
          obtain ⟨rfl, rfl⟩ := eg
          have hx0 : w6.cell? ⟨g, 2 * q, none⟩ = some (.int .i64 c0) := hcell (2 * q) _ (by
            rw [HX.out, eP, hq]
            have h : (iv (pairs2 P)).length = 2 * P.length := by simp [iv, pairs2_length]
            rw [pairs2_append]
            simp only [iv, List.map_append]
            rw [List.getElem?_append_right (by simp only [iv] at h; omega)]
            simp only [iv] at h
            rw [h, Nat.sub_self]; rfl)
          have hx2 : w6.cell? ⟨g, 2 * (q + 1) - 2, none⟩ = some (.int .i64 c0) := by rw [show 2 * (q + 1) - 2 = 2 * q by omega]; exact hx0
          have gz := hgz
          have HEP := Lib.hid eP
          have HQ := Lib.hid hq
          have HOS := Lib.hid (((owns_below HO.out HWW.out).stored (2 * (q + 1) - 2) (.int .i64 (c0 + 1))).1)
          have hgB2 : w.heap.size ≤ g := hgB
          clear eP hq hcell hgz k0 k1 k2 k3 heq hx0
          go_wp2_with fail
          go_roundw
          case rel =>
            have e : rl f (j + 1 + 1) = P ++ [(c0 + 1, f j)] := by rw [rl, if_pos ⟨by omega, by rw [Nat.add_sub_cancel]; exact HEQ.out⟩, HEP.out, bump_append]
            refine ⟨j + 1 + 1, by omega, by go_num, ?_, (HBW.out.trans (HWW.out.mono HBW.out.size)).setCell (by simpa using hgB2) _⟩
            have e2 : iv (pairs2 (rl f (j + 1 + 1))) = X.set (2 * (q + 1) - 2) (.int .i64 (c0 + 1)) := by
              rw [e, HX.out, HEP.out, show 2 * (q + 1) - 2 = 2 * P.length by rw [← HQ.out]; omega, iv_set]
            have e3 : 2 * (rl f (j + 1 + 1)).length = 2 * (q + 1) := by rw [e, List.length_append, ← HQ.out]; rfl
            rw [e2, e3]
            exact HOS.out
          case measure => simp [intOf]; omega
        · have hbe : (s1.shift == s0.shift) = false := by simpa using heq
          have HNE := Lib.hid (show ¬ (0 < j + 1 ∧ f (j + 1) = f (j + 1 - 1)) from fun h => heq (by have := h.2; rw [Nat.add_sub_cancel, HS1.out, HS0.out] at this; exact this))
          clear heq eP
          go_wp2_with fail
          refine (HCL.out _ s1 w6).mono ?_
          rintro e w5 ⟨rfl, hb5⟩
          have HB5 := Lib.hid (HWW.out.trans (hb5.mono HWW.out.size))
          obtain ⟨Z, hZ⟩ : ∃ Z, Z = s1.shift := ⟨_, rfl⟩
          rw [← hZ]
          have HZ := Lib.hid (hZ.trans HS1.out.symm)
          clear hb5 hZ k0 k1 k2 k3
          have p9 : ∀ j u, [Value.int .i64 1, .int .i64 Z][j]? = some u → (w5.alloc (.cells #[.int .i64 1, .int .i64 Z] 2)).cell? ⟨w5.heap.size, 0 + j, none⟩ = some u := by
            intro j u hj
            match j, hj with
            | 0, hj => simp at hj; rw [← hj]; simp [go_sem]
            | 1, hj => simp at hj; rw [← hj]; simp [go_sem]
            | j + 2, hj => simp at hj
          have P9 := Lib.hid p9
          clear p9
          go_wp2_with (at_builtin; refine wpList_appN _ rfl (.tmp 39) (.tmp 43) 51 2 1 8 _ Try.underlying51 info2 rfl (by decide) (by decide) rfl w.heap.size (2 * m) w5.heap.size 0 2 2 _ X [.int .i64 1, .int .i64 Z] rfl (owns_below HO.out (HB5.out.trans ((below_box w5 _).mono HB5.out.size))) rfl rfl P9.out (by simp [Value.oneCell']) (by omega) (by have := HBW.out.size; have := HB5.out.size; simp; omega) ?_)
          intro v' w7 hv' hb7
          obtain ⟨X6, hX6⟩ : ∃ x, x = X ++ [Value.int .i64 1, .int .i64 Z] := ⟨_, rfl⟩
          rw [← hX6] at hv'
          obtain ⟨va, vc, hvv⟩ := owns_shapeN hv'
          subst hvv
          have HV6 := Lib.hid hv'
          have HB6 := Lib.hid ((HBW.out.trans ((HB5.out.trans ((below_box w5 _).mono HB5.out.size)).mono HBW.out.size)).trans hb7)
          have HX6 := Lib.hid hX6
          clear hv' hb7 hX6
          go_wp2_with fail
          go_roundw
          case rel =>
            have e : rl f ((j + 1) + 1) = rl f (j + 1) ++ [(1, Z)] := by rw [rl, if_neg HNE.out, HZ.out]
            refine ⟨(j + 1) + 1, by omega, by go_num, ?_, HB6.out⟩
            have e2 : iv (pairs2 (rl f ((j + 1) + 1))) = X6 := by rw [e, pairs2_append, HX6.out, HX.out]; simp [iv, pairs2]
            have e3 : 2 * (rl f ((j + 1) + 1)).length = 2 * m + 2 := by rw [e, List.length_append, ← HM.out]; simp; omega
            rw [e2, e3]
            exact HV6.out
          case measure => simp [intOf]; omega
    · obtain rfl : k = n := by omega
      have hdiv : ((2 * m : Nat) : Int) / 2 = (m : Int) := by omega
      have HI : Hid (IL (wr.alloc (.cells #[.int .i64 0, .int .i64 (m : Int)] 2)) (.slice (some ⟨wr.heap.size, 0, none⟩) 2 2) [0, (m : Int)]) := Lib.hid (IL.build wr [0, (m : Int)] 2)
      go_wp2_with fail
      refine (appn_any (.slice none 0 0) _ [] [0, (m : Int)] wr.heap.size _ (own_nil _ _) HI.out (fun a n c e h => by cases h) (by simp) (by simp) (by simp)).mono ?_
      rintro e w5 ⟨r5, rfl, h5, ha5⟩
      obtain ⟨D, hD⟩ : ∃ D, D = [] ++ numsL [0, (m : Int)] := ⟨_, rfl⟩
      rw [← hD] at h5
      have HD := Lib.hid (show D = numsL [0, (m : Int)] from hD)
      have HDL := Lib.hid (show D.length = 8 from by rw [HD.out, numsL_length]; rfl)
      have hb15 : Below wr.heap.size wr w5 := ((below_box wr _)).trans ((ha5.below rfl).mono (by simp))
      have hap : Apart r5 (.slice ra (2 * m) rc) := by
        intro a n' c' e h2
        have h3 := (World.ownsRow.lt h5 _ h2).1
        have h4 := (World.ownsRow.lt HO.out a.block (by cases e; rfl)).2
        omega
      have HAP := Lib.hid hap
      obtain ⟨qa, qc, hq⟩ := h5.shape
      have HIT := Lib.hid (owns_il HM.out HX.out (owns_below HO.out hb15))
      have H5 := Lib.hid h5
      rw [hq] at H5 HAP ⊢
      have HB15 := Lib.hid hb15
      have hb5w := hb15.size
      clear h5 ha5 hb15 hD hap hq HI
      go_wp2_with fail
      refine (appn_any _ _ D _ wr.heap.size w5 H5.out HIT.out HAP.out (by rw [pairs2_length, ← HM.out]; omega) (by have := HDL.out; omega) hb5w).mono ?_
      rintro e w7 ⟨r7, rfl, h7, ha7⟩
      rw [show D ++ numsL (pairs2 (rl f k)) = runsL f k from by simp only [runsL]; rw [HD.out, HM.out]; rfl] at h7
      obtain ⟨Y, hY⟩ : ∃ Y, Y = runsL f k := ⟨_, rfl⟩
      rw [← hY] at h7
      have HY := Lib.hid hY
      have hb57 : Below wr.heap.size w5 w7 := by
        refine (Below.refl _ _).grown ha7.g hb5w (fun g h2 => ?_)
        exact (World.ownsRow.lt H5.out g h2).1
      obtain ⟨xa, xc, hxv⟩ := h7.shape
      subst hxv
      have H7 := Lib.hid (h7.mono HBW.out.size)
      have HB7 := Lib.hid ((HBW.out.trans (HB15.out.mono HBW.out.size)).trans (hb57.mono HBW.out.size))
      clear h7 ha7 hb57 hY HIT
      go_wp2_with fail
      go_ret
      rw [← HY.out]
      exact ⟨_, rfl, H7.out, HB7.out⟩
end Go.Proofs.Ytkhjkemllgjfmaa
