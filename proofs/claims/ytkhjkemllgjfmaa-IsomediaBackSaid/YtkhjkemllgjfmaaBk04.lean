/- Texts of this claim joined: YH YI YJ YK YL YN YM YO. -/
import Derived.Test.YtkhjkemllgjfmaaBk03
set_option linter.unusedVariables false
set_option linter.unusedSimpArgs false

/- The contract of the program's runs. -/
namespace Go.Proofs.Ytkhjkemllgjfmaa
open Go.RowKit
set_option linter.unusedVariables false
set_option linter.unusedSimpArgs false

theorem dur_any (x : Value) (s : Sm) (w : World) : Calls Try.prog 73 #[.agg #[x, .int .i64 s.dur, .int .i64 s.shift, .bool s.sync]] w fun e w' => e = .returned (.int .i64 s.dur) ∧ Below w.heap.size w w' := by
  go_enter Try.func73, Try.ntmps73
  go_wp2_with fail
  go_ret
  exact ⟨rfl, below_box _ _⟩
theorem shift_any (x : Value) (s : Sm) (w : World) : Calls Try.prog 74 #[.agg #[x, .int .i64 s.dur, .int .i64 s.shift, .bool s.sync]] w fun e w' => e = .returned (.int .i64 s.shift) ∧ Below w.heap.size w w' := by
  go_enter Try.func74, Try.ntmps74
  go_wp2_with fail
  go_ret
  exact ⟨rfl, below_box _ _⟩

def iv (L : List Int) : List Value := L.map (.int .i64)
theorem rl_first {f g : Nat → Int} {n : Nat} (h : ∀ i, i < n → f i = g i) (k : Nat) (hk : k ≤ n) : rl f k = rl g k := by
  induction k with
  | zero => rfl
  | succ k ih =>
    rw [rl, rl, ih (by omega), h k (by omega)]
    by_cases e : 0 < k
    · rw [h (k - 1) (by omega)]
    · rw [if_neg (by omega), if_neg (by omega)]
theorem rl_pos {f : Nat → Int} {k : Nat} (hk : 0 < k) : ∃ (P : List (Int × Int)) (c : Int), rl f k = P ++ [(c, f (k - 1))] ∧ 1 ≤ c ∧ c ≤ k := by
  induction k with
  | zero => omega
  | succ k ih =>
    rcases Nat.eq_zero_or_pos k with rfl | h0
    · exact ⟨[], 1, by simp [rl], by omega, by omega⟩
    · obtain ⟨P, c, e, h1, h2⟩ := ih h0
      rw [rl]
      by_cases he : f k = f (k - 1)
      · rw [if_pos ⟨h0, he⟩, e, bump_append]
        exact ⟨P, c + 1, by rw [Nat.add_sub_cancel, he], by omega, by omega⟩
      · rw [if_neg (fun h => he h.2)]
        exact ⟨rl f k, 1, by rw [Nat.add_sub_cancel], by omega, by omega⟩
theorem owns_shapeN {w : World} {B E size n : Nat} {v : Value} {xs : List Value} (h : w.ownsRow B E size v n xs) : ∃ a c, v = .slice a n c := by
  rcases h.2 with ⟨rfl, rfl⟩ | ⟨g, cap, cur, rfl, _⟩
  · exact ⟨_, _, rfl⟩
  · exact ⟨_, _, rfl⟩
theorem owns_il {w : World} {B m : Nat} {v : Value} {X : List Value} {f : Nat → Int} {k : Nat} (hm : m = (rl f k).length) (hX : X = iv (pairs2 (rl f k))) (h : w.ownsRow B 2 1 v (2 * m) X) : IL w v (pairs2 (rl f k)) := by
  have hl : (pairs2 (rl f k)).length = 2 * m := by rw [pairs2_length, hm]
  rcases Nat.eq_zero_or_pos (2 * m) with h0 | h0
  · rw [h0] at h
    obtain ⟨a, c, rfl⟩ := owns_zero h
    exact ⟨a, c, by rw [hl, h0], by omega, fun i u hi => by have := (List.getElem?_eq_some_iff.1 hi).1; omega⟩
  · obtain ⟨g, c, rfl, hc, H⟩ := owns_open h h0
    refine ⟨_, c, by rw [hl], by omega, fun i u hi => ⟨g, 0, rfl, ?_⟩⟩
    simpa using H i (.int .i64 u) (by rw [hX]; simp [iv, hi])
theorem iv_set (P : List (Int × Int)) (c x : Int) : (iv (pairs2 (P ++ [(c, x)]))).set (2 * P.length) (.int .i64 (c + 1)) = iv (pairs2 (P ++ [(c + 1, x)])) := by
  rw [pairs2_append, pairs2_append]
  simp only [iv, List.map_append]
  have h : (List.map (Value.int .i64) (pairs2 P)).length = 2 * P.length := by rw [List.length_map, pairs2_length]
  rw [List.set_append, if_neg (by rw [h]; omega), h, Nat.sub_self]
  rfl

set_option maxRecDepth 100000 in
set_option maxHeartbeats 4000000 in
theorem runs_dur
    (v : Value) (n : Nat) (S : Nat → Sm) (w : World) (hv : SA w v n S) (hn : n ≤ 100000) :
    Calls Try.prog 72 #[v, .func (.func 73) #[] #[]] w fun e w' => ∃ r, e = .returned r ∧ Own w' w.heap.size r (runsL (fun i => (S i).dur) n) ∧ Below w.heap.size w w' := by
  have HCL := Lib.hid dur_any
  have HV := Lib.hid hv
  obtain ⟨ao, c, rfl⟩ := hv.shape
  obtain ⟨f, hf⟩ : ∃ f : Nat → Int, f = fun i => (S i).dur := ⟨_, rfl⟩
  have HF := Lib.hid hf
  rw [← hf]
  clear hv hf
  go_enter Try.func72, Try.ntmps72
  go_wp2_with fail
  obtain ⟨w1, hw⟩ : ∃ x, x = w.alloc (.cells #[] 2) := ⟨_, rfl⟩
  rw [← hw]
  have hE : Below w.heap.size w w1 := by rw [hw]; exact below_box _ _
  have HOW := Lib.hid (show w1.ownsRow w.heap.size 2 1 (.slice (some ⟨w.heap.size, 0, none⟩) 0 0) 0 [] from by rw [hw]; exact owns_empty w 2 1)
  have HB := Lib.hid hE
  clear hw hE
  go_loopw [11, 5] (fun i r wr => ∃ (k : Nat), k ≤ n ∧ i = .int .i64 (k : Int) ∧ wr.ownsRow w.heap.size 2 1 r (2 * (rl f k).length) (iv (pairs2 (rl f k))) ∧ Below w.heap.size w wr) (fun i _ _ => n - (intOf i).toNat)
  case atStart => exact ⟨0, Nat.zero_le _, rfl, HOW.out, HB.out⟩
  case round =>
    obtain ⟨k, hk, rfl, ho, hb⟩ := hrel
    obtain ⟨m, hm⟩ : ∃ m, m = (rl f k).length := ⟨_, rfl⟩
    have hmk : m ≤ k := by rw [hm]; exact rl_length f k
    obtain ⟨X, hX⟩ : ∃ X, X = iv (pairs2 (rl f k)) := ⟨_, rfl⟩
    rw [← hm, ← hX] at ho
    have HM := Lib.hid hm
    have HX := Lib.hid hX
    obtain ⟨ra, rc, hr⟩ := owns_shapeN ho
    subst hr
    have HO := Lib.hid ho
    have HBW := Lib.hid hb
    clear ho hb hm hX
    by_cases hlt : k < n
    · obtain ⟨ao', c', e, hcc, H⟩ := HV.out.below HBW.out
      simp only [Value.slice.injEq, true_and] at e
      obtain ⟨rfl, rfl⟩ := e
      obtain ⟨b, o, x1, rfl, p0, p1, p2, p3, hx⟩ := H k hlt
      obtain ⟨ax, dx, rfl⟩ := hx.shape
      obtain ⟨s1, hs1⟩ : ∃ s, s = S k := ⟨_, rfl⟩
      rw [← hs1] at p1 p2 p3 p0 hx
      have HS1 := Lib.hid (show f k = s1.dur from by rw [HF.out, hs1])
      clear hx hs1
      rcases Nat.eq_zero_or_pos k with rfl | h0
      · clear H
        simp only [Nat.zero_mul, Nat.add_zero] at p0 p1 p2 p3
        have hk3 : (0 : Int) < (n : Int) := by omega
        go_wp2_with fail
        obtain ⟨w4, hw4⟩ : ∃ x, x = wr.alloc (.cells #[.slice ax s1.n dx, .int .i64 s1.dur, .int .i64 s1.shift, .bool s1.sync] 75) := ⟨_, rfl⟩
        rw [← hw4]
        have hb4 : Below wr.heap.size wr w4 := by rw [hw4]; exact below_box _ _
        have k0 : w4.cell? ⟨wr.heap.size, 0, none⟩ = some (.slice ax s1.n dx) := by rw [hw4]; simp [go_sem]
        have k1 : w4.cell? ⟨wr.heap.size, 1, none⟩ = some (.int .i64 s1.dur) := by rw [hw4]; simp [go_sem]
        have k2 : w4.cell? ⟨wr.heap.size, 2, none⟩ = some (.int .i64 s1.shift) := by rw [hw4]; simp [go_sem]
        have k3 : w4.cell? ⟨wr.heap.size, 3, none⟩ = some (.bool s1.sync) := by rw [hw4]; simp [go_sem]
        obtain ⟨bs, hbs⟩ : ∃ z, z = wr.heap.size := ⟨_, rfl⟩
        rw [← hbs] at k0 k1 k2 k3 ⊢
        have HB4 := Lib.hid hb4
        have hbsw : w.heap.size ≤ bs := by have := HBW.out.size; omega
        have HBS := Lib.hid hbs
        clear hw4 hb4 hbs
        refine Plan.wp_region_plan (fun w' => w'.cell? ⟨bs, 0, none⟩ = some (.slice ax s1.n dx) ∧ w'.cell? ⟨bs, 1, none⟩ = some (.int .i64 s1.dur) ∧ w'.cell? ⟨bs, 2, none⟩ = some (.int .i64 s1.shift) ∧ w'.cell? ⟨bs, 3, none⟩ = some (.bool s1.sync)) (([0, 1, 2, 3, 4, 6, 7, 8, 9, 10, 11].map (·, true)) ++ (([5, 12].map (·, false)) ++ (([13, 14].map (·, true))))) (by kernel_rfl) (by kernel_rfl) (by kernel_rfl) ⟨k0, k1, k2, k3⟩ ?_
        refine' Plan.plan_seg _ [0, 1, 2, 3, 4, 6, 7, 8, 9, 10, 11] (([5, 12].map (·, false)) ++ (([13, 14].map (·, true)))) (by kernel_rfl) (by kernel_rfl) rfl (by exact ⟨k0, k1, k2, k3⟩) (fun wx hS => ?_) ?_
        rotate_left
        · obtain ⟨z0, z1, z2, z3⟩ := hS
          go_light
          iterate 11 (apply Plan.seg_pick; rfl; intro K hK; go_wp)
          exact Plan.seg_nil
        refine Plan.plan_of_effect rfl (fun K hK => ?_)
        go_wp2_with fail
        refine ⟨⟨k0, k1, k2, k3⟩, ?_⟩
        refine Plan.plan_of_effect rfl (fun K hK => ?_)
        go_wp2_with fail
        refine ⟨⟨k0, k1, k2, k3⟩, ?_⟩
        refine' Plan.plan_seg _ [13, 14] ([]) (by kernel_rfl) (by kernel_rfl) rfl (by exact ⟨k0, k1, k2, k3⟩) (fun wx hS => ?_) ?_
        rotate_left
        · obtain ⟨z0, z1, z2, z3⟩ := hS
          go_light
          iterate 2 (apply Plan.seg_pick; rfl; intro K hK; go_wp)
          exact Plan.seg_nil
        refine Plan.plan_done ?_
        have HWW := Lib.hid (HB4.out.drew)
        go_wp2_with fail
        refine (HCL.out _ s1 w4.drew).mono ?_
        rintro e w5 ⟨rfl, hb5⟩
        have HB5 := Lib.hid (HWW.out.trans (hb5.mono HWW.out.size))
        obtain ⟨Z, hZ⟩ : ∃ Z, Z = s1.dur := ⟨_, rfl⟩
        rw [← hZ]
        have HZ := Lib.hid (hZ.trans HS1.out.symm)
        clear hb5 hZ k0 k1 k2 k3
        have p9 : ∀ j u, [Value.int .i64 1, .int .i64 Z][j]? = some u → (w5.alloc (.cells #[.int .i64 1, .int .i64 Z] 2)).cell? ⟨w5.heap.size, 0 + j, none⟩ = some u := by
          intro j u hj
          match j, hj with
          | 0, hj => simp at hj; rw [← hj]; simp [go_sem]
          | 1, hj => simp at hj; rw [← hj]; simp [go_sem]
          | j + 2, hj => simp at hj
        have P9 := Lib.hid p9
        clear p9
        go_wp2_with (at_builtin; refine wpList_appN _ rfl (.tmp 39) (.tmp 43) 51 2 1 8 _ Try.underlying51 info2 rfl (by decide) (by decide) rfl w.heap.size (2 * m) w5.heap.size 0 2 2 _ X [.int .i64 1, .int .i64 Z] rfl (owns_below HO.out (HB5.out.trans ((below_box w5 _).mono HB5.out.size))) rfl rfl P9.out (by simp [Value.oneCell']) (by omega) (by have := HBW.out.size; have := HB5.out.size; simp; omega) ?_)
        intro v' w6 hv' hb6
        obtain ⟨X6, hX6⟩ : ∃ x, x = X ++ [Value.int .i64 1, .int .i64 Z] := ⟨_, rfl⟩
        rw [← hX6] at hv'
        obtain ⟨va, vc, hvv⟩ := owns_shapeN hv'
        subst hvv
        have HV6 := Lib.hid hv'
        have HB6 := Lib.hid ((HBW.out.trans ((HB5.out.trans ((below_box w5 _).mono HB5.out.size)).mono HBW.out.size)).trans hb6)
        have HX6 := Lib.hid hX6
        clear hv' hb6 hX6
        go_wp2_with fail
        go_roundw
        case rel =>
          have e : rl f (0 + 1) = rl f 0 ++ [(1, Z)] := by simp [rl, ← HZ.out]
          refine ⟨0 + 1, by omega, by go_num, ?_, HB6.out⟩
          have e2 : iv (pairs2 (rl f (0 + 1))) = X6 := by rw [e, pairs2_append, HX6.out, HX.out]; simp [iv, pairs2]
          have e3 : 2 * (rl f (0 + 1)).length = 2 * m + 2 := by rw [e, List.length_append, ← HM.out]; simp; omega
          rw [e2, e3]
          exact HV6.out
        case measure => simp [intOf]; omega
      · obtain ⟨j, rfl⟩ : ∃ j, k = j + 1 := ⟨k - 1, by omega⟩
        obtain ⟨b', o', x0, e, q0, q1, q2, q3, hx⟩ := H j (by omega)
        cases e
        obtain ⟨ay, dy, rfl⟩ := hx.shape
        obtain ⟨s0, hs0⟩ : ∃ s, s = S j := ⟨_, rfl⟩
        rw [← hs0] at q1 q2 q3 q0 hx
        have HS0 := Lib.hid (show f j = s0.dur from by rw [HF.out, hs0])
        have hk3 : (j : Int) + 1 < (n : Int) := by omega
        clear hx hs0 H
        go_wp2_with fail
        obtain ⟨w4, hw4⟩ : ∃ x, x = wr.alloc (.cells #[.slice ax s1.n dx, .int .i64 s1.dur, .int .i64 s1.shift, .bool s1.sync] 75) := ⟨_, rfl⟩
        rw [← hw4]
        have hb4 : Below wr.heap.size wr w4 := by rw [hw4]; exact below_box _ _
        have k0 : w4.cell? ⟨wr.heap.size, 0, none⟩ = some (.slice ax s1.n dx) := by rw [hw4]; simp [go_sem]
        have k1 : w4.cell? ⟨wr.heap.size, 1, none⟩ = some (.int .i64 s1.dur) := by rw [hw4]; simp [go_sem]
        have k2 : w4.cell? ⟨wr.heap.size, 2, none⟩ = some (.int .i64 s1.shift) := by rw [hw4]; simp [go_sem]
        have k3 : w4.cell? ⟨wr.heap.size, 3, none⟩ = some (.bool s1.sync) := by rw [hw4]; simp [go_sem]
        obtain ⟨bs, hbs⟩ : ∃ z, z = wr.heap.size := ⟨_, rfl⟩
        rw [← hbs] at k0 k1 k2 k3 ⊢
        have HB4 := Lib.hid hb4
        have hbsw : w.heap.size ≤ bs := by have := HBW.out.size; omega
        have HBS := Lib.hid hbs
        replace q0 := (hb4.cell (block_lt_of_cell q0)).trans q0
        replace q1 := (hb4.cell (block_lt_of_cell q1)).trans q1
        replace q2 := (hb4.cell (block_lt_of_cell q2)).trans q2
        replace q3 := (hb4.cell (block_lt_of_cell q3)).trans q3
        clear hw4 hb4 hbs
        refine Plan.wp_region_plan (fun w' => w'.cell? ⟨bs, 0, none⟩ = some (.slice ax s1.n dx) ∧ w'.cell? ⟨bs, 1, none⟩ = some (.int .i64 s1.dur) ∧ w'.cell? ⟨bs, 2, none⟩ = some (.int .i64 s1.shift) ∧ w'.cell? ⟨bs, 3, none⟩ = some (.bool s1.sync) ∧ w'.cell? ⟨b, o + j * 4, none⟩ = some (.slice ay s0.n dy) ∧ w'.cell? ⟨b, o + j * 4 + 1, none⟩ = some (.int .i64 s0.dur) ∧ w'.cell? ⟨b, o + j * 4 + 2, none⟩ = some (.int .i64 s0.shift) ∧ w'.cell? ⟨b, o + j * 4 + 3, none⟩ = some (.bool s0.sync)) (([0, 1, 2, 3, 4, 6, 7, 8, 9, 10, 11].map (·, true)) ++ (([5, 12].map (·, false)) ++ (([13, 14].map (·, true))))) (by kernel_rfl) (by kernel_rfl) (by kernel_rfl) ⟨k0, k1, k2, k3, q0, q1, q2, q3⟩ ?_
        refine' Plan.plan_seg _ [0, 1, 2, 3, 4, 6, 7, 8, 9, 10, 11] (([5, 12].map (·, false)) ++ (([13, 14].map (·, true)))) (by kernel_rfl) (by kernel_rfl) rfl (by exact ⟨k0, k1, k2, k3, q0, q1, q2, q3⟩) (fun wx hS => ?_) ?_
        rotate_left
        · obtain ⟨z0, z1, z2, z3, z4, z5, z6, z7⟩ := hS
          go_light
          iterate 11 (apply Plan.seg_pick; rfl; intro K hK; go_wp)
          exact Plan.seg_nil
        refine Plan.plan_of_effect rfl (fun K hK => ?_)
        go_wp2_with fail
        refine (HCL.out _ s1 _).mono ?_
        rintro e w5 ⟨rfl, hb5⟩
        replace hb5 : Below w4.heap.size w4 w5 := (Below.refl w4.heap.size w4).drew.trans hb5
        replace k0 := (hb5.cell (block_lt_of_cell k0)).trans k0
        replace k1 := (hb5.cell (block_lt_of_cell k1)).trans k1
        replace k2 := (hb5.cell (block_lt_of_cell k2)).trans k2
        replace k3 := (hb5.cell (block_lt_of_cell k3)).trans k3
        replace q0 := (hb5.cell (block_lt_of_cell q0)).trans q0
        replace q1 := (hb5.cell (block_lt_of_cell q1)).trans q1
        replace q2 := (hb5.cell (block_lt_of_cell q2)).trans q2
        replace q3 := (hb5.cell (block_lt_of_cell q3)).trans q3
        have HB5 := Lib.hid hb5
        clear hb5
        go_wp2_with fail
        refine ⟨⟨k0, k1, k2, k3, q0, q1, q2, q3⟩, ?_⟩
        refine Plan.plan_of_effect rfl (fun K hK => ?_)
        go_wp2_with fail
        refine (HCL.out _ s0 _).mono ?_
        rintro e w6 ⟨rfl, hb6⟩
        replace k0 := (hb6.cell (block_lt_of_cell k0)).trans k0
        replace k1 := (hb6.cell (block_lt_of_cell k1)).trans k1
        replace k2 := (hb6.cell (block_lt_of_cell k2)).trans k2
        replace k3 := (hb6.cell (block_lt_of_cell k3)).trans k3
        replace q0 := (hb6.cell (block_lt_of_cell q0)).trans q0
        replace q1 := (hb6.cell (block_lt_of_cell q1)).trans q1
        replace q2 := (hb6.cell (block_lt_of_cell q2)).trans q2
        replace q3 := (hb6.cell (block_lt_of_cell q3)).trans q3
        have HWW := Lib.hid (HB4.out.trans ((HB5.out.trans (hb6.mono HB5.out.size)).mono HB4.out.size))
        clear hb6
        go_wp2_with fail
        refine ⟨⟨k0, k1, k2, k3, q0, q1, q2, q3⟩, ?_⟩
        refine' Plan.plan_seg _ [13, 14] ([]) (by kernel_rfl) (by kernel_rfl) rfl (by exact ⟨k0, k1, k2, k3, q0, q1, q2, q3⟩) (fun wx hS => ?_) ?_
        rotate_left
        · obtain ⟨z0, z1, z2, z3, z4, z5, z6, z7⟩ := hS
          go_light
          iterate 2 (apply Plan.seg_pick; rfl; intro K hK; go_wp)
          exact Plan.seg_nil
        refine Plan.plan_done ?_
        clear q0 q1 q2 q3
        obtain ⟨P, c0, eP, hc1, hc2⟩ := rl_pos (f := f) h0
        rw [Nat.add_sub_cancel] at eP
        by_cases heq : s1.dur = s0.dur
        · have hbe : (s1.dur == s0.dur) = true := by simpa using heq
          have HEQ := Lib.hid (show f (j + 1) = f j by rw [HS1.out, HS0.out, heq])
          obtain ⟨q, hq⟩ : ∃ q, q = P.length := ⟨_, rfl⟩
          have hmq : m = q + 1 := by rw [HM.out, eP, List.length_append, hq]; rfl
          subst hmq
          obtain ⟨g, gc, eg, hgc, hgB, hgz, hcell⟩ := owns_open2 (owns_below HO.out HWW.out) (by omega)
          simp only [Value.slice.injEq, true_and] at eg
          obtain ⟨rfl, rfl⟩ := eg
          have hx0 : w6.cell? ⟨g, 2 * q, none⟩ = some (.int .i64 c0) := hcell (2 * q) _ (by
            rw [HX.out, eP, hq]
            have h : (iv (pairs2 P)).length = 2 * P.length := by simp [iv, pairs2_length]
            rw [pairs2_append]
            simp only [iv, List.map_append]
            rw [List.getElem?_append_right (by simp only [iv] at h; omega)]
            simp only [iv] at h
            rw [h, Nat.sub_self]; rfl)
          have hx2 : w6.cell? ⟨g, 2 * (q + 1) - 2, none⟩ = some (.int .i64 c0) := by rw [show 2 * (q + 1) - 2 = 2 * q by omega]; exact hx0
          have gz := hgz
          have HEP := Lib.hid eP
          have HQ := Lib.hid hq
          have HOS := Lib.hid (((owns_below HO.out HWW.out).stored (2 * (q + 1) - 2) (.int .i64 (c0 + 1))).1)
          have hgB2 : w.heap.size ≤ g := hgB
          clear eP hq hcell hgz k0 k1 k2 k3 heq hx0
          go_wp2_with fail
          go_roundw
          case rel =>
            have e : rl f (j + 1 + 1) = P ++ [(c0 + 1, f j)] := by rw [rl, if_pos ⟨by omega, by rw [Nat.add_sub_cancel]; exact HEQ.out⟩, HEP.out, bump_append]
            refine ⟨j + 1 + 1, by omega, by go_num, ?_, (HBW.out.trans (HWW.out.mono HBW.out.size)).setCell (by simpa using hgB2) _⟩
            have e2 : iv (pairs2 (rl f (j + 1 + 1))) = X.set (2 * (q + 1) - 2) (.int .i64 (c0 + 1)) := by
              rw [e, HX.out, HEP.out, show 2 * (q + 1) - 2 = 2 * P.length by rw [← HQ.out]; omega, iv_set]
            have e3 : 2 * (rl f (j + 1 + 1)).length = 2 * (q + 1) := by rw [e, List.length_append, ← HQ.out]; rfl
            rw [e2, e3]
            exact HOS.out
          case measure => simp [intOf]; omega
        · have hbe : (s1.dur == s0.dur) = false := by simpa using heq
          have HNE := Lib.hid (show ¬ (0 < j + 1 ∧ f (j + 1) = f (j + 1 - 1)) from fun h => heq (by have := h.2; rw [Nat.add_sub_cancel, HS1.out, HS0.out] at this; exact this))
          clear heq eP
          go_wp2_with fail
          refine (HCL.out _ s1 w6).mono ?_
          rintro e w5 ⟨rfl, hb5⟩
          have HB5 := Lib.hid (HWW.out.trans (hb5.mono HWW.out.size))
          obtain ⟨Z, hZ⟩ : ∃ Z, Z = s1.dur := ⟨_, rfl⟩
          rw [← hZ]
          have HZ := Lib.hid (hZ.trans HS1.out.symm)
          clear hb5 hZ k0 k1 k2 k3
          have p9 : ∀ j u, [Value.int .i64 1, .int .i64 Z][j]? = some u → (w5.alloc (.cells #[.int .i64 1, .int .i64 Z] 2)).cell? ⟨w5.heap.size, 0 + j, none⟩ = some u := by
            intro j u hj
            match j, hj with
            | 0, hj => simp at hj; rw [← hj]; simp [go_sem]
            | 1, hj => simp at hj; rw [← hj]; simp [go_sem]
            | j + 2, hj => simp at hj
          have P9 := Lib.hid p9
          clear p9
          go_wp2_with (at_builtin; refine wpList_appN _ rfl (.tmp 39) (.tmp 43) 51 2 1 8 _ Try.underlying51 info2 rfl (by decide) (by decide) rfl w.heap.size (2 * m) w5.heap.size 0 2 2 _ X [.int .i64 1, .int .i64 Z] rfl (owns_below HO.out (HB5.out.trans ((below_box w5 _).mono HB5.out.size))) rfl rfl P9.out (by simp [Value.oneCell']) (by omega) (by have := HBW.out.size; have := HB5.out.size; simp; omega) ?_)
          intro v' w7 hv' hb7
          obtain ⟨X6, hX6⟩ : ∃ x, x = X ++ [Value.int .i64 1, .int .i64 Z] := ⟨_, rfl⟩
          rw [← hX6] at hv'
          obtain ⟨va, vc, hvv⟩ := owns_shapeN hv'
          subst hvv
          have HV6 := Lib.hid hv'
          have HB6 := Lib.hid ((HBW.out.trans ((HB5.out.trans ((below_box w5 _).mono HB5.out.size)).mono HBW.out.size)).trans hb7)
          have HX6 := Lib.hid hX6
          clear hv' hb7 hX6
          go_wp2_with fail
          go_roundw
          case rel =>
            have e : rl f ((j + 1) + 1) = rl f (j + 1) ++ [(1, Z)] := by rw [rl, if_neg HNE.out, HZ.out]
            refine ⟨(j + 1) + 1, by omega, by go_num, ?_, HB6.out⟩
            have e2 : iv (pairs2 (rl f ((j + 1) + 1))) = X6 := by rw [e, pairs2_append, HX6.out, HX.out]; simp [iv, pairs2]
            have e3 : 2 * (rl f ((j + 1) + 1)).length = 2 * m + 2 := by rw [e, List.length_append, ← HM.out]; simp; omega
            rw [e2, e3]
            exact HV6.out
          case measure => simp [intOf]; omega
    · obtain rfl : k = n := by omega
      have hdiv : ((2 * m : Nat) : Int) / 2 = (m : Int) := by omega
      have HI : Hid (IL (wr.alloc (.cells #[.int .i64 0, .int .i64 (m : Int)] 2)) (.slice (some ⟨wr.heap.size, 0, none⟩) 2 2) [0, (m : Int)]) := Lib.hid (IL.build wr [0, (m : Int)] 2)
      go_wp2_with fail
      refine (appn_any (.slice none 0 0) _ [] [0, (m : Int)] wr.heap.size _ (own_nil _ _) HI.out (fun a n c e h => by cases h) (by simp) (by simp) (by simp)).mono ?_
      rintro e w5 ⟨r5, rfl, h5, ha5⟩
      obtain ⟨D, hD⟩ : ∃ D, D = [] ++ numsL [0, (m : Int)] := ⟨_, rfl⟩
      rw [← hD] at h5
      have HD := Lib.hid (show D = numsL [0, (m : Int)] from hD)
      have HDL := Lib.hid (show D.length = 8 from by rw [HD.out, numsL_length]; rfl)
      have hb15 : Below wr.heap.size wr w5 := ((below_box wr _)).trans ((ha5.below rfl).mono (by simp))
      have hap : Apart r5 (.slice ra (2 * m) rc) := by
        intro a n' c' e h2
        have h3 := (World.ownsRow.lt h5 _ h2).1
        have h4 := (World.ownsRow.lt HO.out a.block (by cases e; rfl)).2
        omega
      have HAP := Lib.hid hap
      obtain ⟨qa, qc, hq⟩ := h5.shape
      have HIT := Lib.hid (owns_il HM.out HX.out (owns_below HO.out hb15))
      have H5 := Lib.hid h5
      rw [hq] at H5 HAP ⊢
      have HB15 := Lib.hid hb15
      have hb5w := hb15.size
      clear h5 ha5 hb15 hD hap hq HI
      go_wp2_with fail
      refine (appn_any _ _ D _ wr.heap.size w5 H5.out HIT.out HAP.out (by rw [pairs2_length, ← HM.out]; omega) (by have := HDL.out; omega) hb5w).mono ?_
      rintro e w7 ⟨r7, rfl, h7, ha7⟩
      rw [show D ++ numsL (pairs2 (rl f k)) = runsL f k from by simp only [runsL]; rw [HD.out, HM.out]; rfl] at h7
      obtain ⟨Y, hY⟩ : ∃ Y, Y = runsL f k := ⟨_, rfl⟩
      rw [← hY] at h7
      have HY := Lib.hid hY
      have hb57 : Below wr.heap.size w5 w7 := by
        refine (Below.refl _ _).grown ha7.g hb5w (fun g h2 => ?_)
        exact (World.ownsRow.lt H5.out g h2).1
      obtain ⟨xa, xc, hxv⟩ := h7.shape
      subst hxv
      have H7 := Lib.hid (h7.mono HBW.out.size)
      have HB7 := Lib.hid ((HBW.out.trans (HB15.out.mono HBW.out.size)).trans (hb57.mono HBW.out.size))
      clear h7 ha7 hb57 hY HIT
      go_wp2_with fail
      go_ret
      rw [← HY.out]
      exact ⟨_, rfl, H7.out, HB7.out⟩
set_option maxRecDepth 100000 in
set_option maxHeartbeats 4000000 in
theorem runs_shift
    (v : Value) (n : Nat) (S : Nat → Sm) (w : World) (hv : SA w v n S) (hn : n ≤ 100000) :
    Calls Try.prog 72 #[v, .func (.func 74) #[] #[]] w fun e w' => ∃ r, e = .returned r ∧ Own w' w.heap.size r (runsL (fun i => (S i).shift) n) ∧ Below w.heap.size w w' := by
  have HCL := Lib.hid shift_any
  have HV := Lib.hid hv
  obtain ⟨ao, c, rfl⟩ := hv.shape
  obtain ⟨f, hf⟩ : ∃ f : Nat → Int, f = fun i => (S i).shift := ⟨_, rfl⟩
  have HF := Lib.hid hf
  rw [← hf]
  clear hv hf
  go_enter Try.func72, Try.ntmps72
  go_wp2_with fail
  obtain ⟨w1, hw⟩ : ∃ x, x = w.alloc (.cells #[] 2) := ⟨_, rfl⟩
  rw [← hw]
  have hE : Below w.heap.size w w1 := by rw [hw]; exact below_box _ _
  have HOW := Lib.hid (show w1.ownsRow w.heap.size 2 1 (.slice (some ⟨w.heap.size, 0, none⟩) 0 0) 0 [] from by rw [hw]; exact owns_empty w 2 1)
  have HB := Lib.hid hE
  clear hw hE
  go_loopw [11, 5] (fun i r wr => ∃ (k : Nat), k ≤ n ∧ i = .int .i64 (k : Int) ∧ wr.ownsRow w.heap.size 2 1 r (2 * (rl f k).length) (iv (pairs2 (rl f k))) ∧ Below w.heap.size w wr) (fun i _ _ => n - (intOf i).toNat)
  case atStart => exact ⟨0, Nat.zero_le _, rfl, HOW.out, HB.out⟩
  case round =>
    obtain ⟨k, hk, rfl, ho, hb⟩ := hrel
    obtain ⟨m, hm⟩ : ∃ m, m = (rl f k).length := ⟨_, rfl⟩
    have hmk : m ≤ k := by rw [hm]; exact rl_length f k
    obtain ⟨X, hX⟩ : ∃ X, X = iv (pairs2 (rl f k)) := ⟨_, rfl⟩
    rw [← hm, ← hX] at ho
    have HM := Lib.hid hm
    have HX := Lib.hid hX
    obtain ⟨ra, rc, hr⟩ := owns_shapeN ho
    subst hr
    have HO := Lib.hid ho
    have HBW := Lib.hid hb
    clear ho hb hm hX
    by_cases hlt : k < n
    · obtain ⟨ao', c', e, hcc, H⟩ := HV.out.below HBW.out
      simp only [Value.slice.injEq, true_and] at e
      obtain ⟨rfl, rfl⟩ := e
      obtain ⟨b, o, x1, rfl, p0, p1, p2, p3, hx⟩ := H k hlt
      obtain ⟨ax, dx, rfl⟩ := hx.shape
      obtain ⟨s1, hs1⟩ : ∃ s, s = S k := ⟨_, rfl⟩
      rw [← hs1] at p1 p2 p3 p0 hx
      have HS1 := Lib.hid (show f k = s1.shift from by rw [HF.out, hs1])
      clear hx hs1
      rcases Nat.eq_zero_or_pos k with rfl | h0
      · clear H
        simp only [Nat.zero_mul, Nat.add_zero] at p0 p1 p2 p3
        have hk3 : (0 : Int) < (n : Int) := by omega
        go_wp2_with fail
        obtain ⟨w4, hw4⟩ : ∃ x, x = wr.alloc (.cells #[.slice ax s1.n dx, .int .i64 s1.dur, .int .i64 s1.shift, .bool s1.sync] 75) := ⟨_, rfl⟩
        rw [← hw4]
        have hb4 : Below wr.heap.size wr w4 := by rw [hw4]; exact below_box _ _
        have k0 : w4.cell? ⟨wr.heap.size, 0, none⟩ = some (.slice ax s1.n dx) := by rw [hw4]; simp [go_sem]
        have k1 : w4.cell? ⟨wr.heap.size, 1, none⟩ = some (.int .i64 s1.dur) := by rw [hw4]; simp [go_sem]
        have k2 : w4.cell? ⟨wr.heap.size, 2, none⟩ = some (.int .i64 s1.shift) := by rw [hw4]; simp [go_sem]
        have k3 : w4.cell? ⟨wr.heap.size, 3, none⟩ = some (.bool s1.sync) := by rw [hw4]; simp [go_sem]
        obtain ⟨bs, hbs⟩ : ∃ z, z = wr.heap.size := ⟨_, rfl⟩
        rw [← hbs] at k0 k1 k2 k3 ⊢
        have HB4 := Lib.hid hb4
        have hbsw : w.heap.size ≤ bs := by have := HBW.out.size; omega
        have HBS := Lib.hid hbs
        clear hw4 hb4 hbs
        refine Plan.wp_region_plan (fun w' => w'.cell? ⟨bs, 0, none⟩ = some (.slice ax s1.n dx) ∧ w'.cell? ⟨bs, 1, none⟩ = some (.int .i64 s1.dur) ∧ w'.cell? ⟨bs, 2, none⟩ = some (.int .i64 s1.shift) ∧ w'.cell? ⟨bs, 3, none⟩ = some (.bool s1.sync)) (([0, 1, 2, 3, 4, 6, 7, 8, 9, 10, 11].map (·, true)) ++ (([5, 12].map (·, false)) ++ (([13, 14].map (·, true))))) (by kernel_rfl) (by kernel_rfl) (by kernel_rfl) ⟨k0, k1, k2, k3⟩ ?_
        refine' Plan.plan_seg _ [0, 1, 2, 3, 4, 6, 7, 8, 9, 10, 11] (([5, 12].map (·, false)) ++ (([13, 14].map (·, true)))) (by kernel_rfl) (by kernel_rfl) rfl (by exact ⟨k0, k1, k2, k3⟩) (fun wx hS => ?_) ?_
        rotate_left
        · obtain ⟨z0, z1, z2, z3⟩ := hS
          go_light
          iterate 11 (apply Plan.seg_pick; rfl; intro K hK; go_wp)
          exact Plan.seg_nil
        refine Plan.plan_of_effect rfl (fun K hK => ?_)
        go_wp2_with fail
        refine ⟨⟨k0, k1, k2, k3⟩, ?_⟩
        refine Plan.plan_of_effect rfl (fun K hK => ?_)
        go_wp2_with fail
        refine ⟨⟨k0, k1, k2, k3⟩, ?_⟩
        refine' Plan.plan_seg _ [13, 14] ([]) (by kernel_rfl) (by kernel_rfl) rfl (by exact ⟨k0, k1, k2, k3⟩) (fun wx hS => ?_) ?_
        rotate_left
        · obtain ⟨z0, z1, z2, z3⟩ := hS
          go_light
          iterate 2 (apply Plan.seg_pick; rfl; intro K hK; go_wp)
          exact Plan.seg_nil
        refine Plan.plan_done ?_
        have HWW := Lib.hid (HB4.out.drew)
        go_wp2_with fail
        refine (HCL.out _ s1 w4.drew).mono ?_
        rintro e w5 ⟨rfl, hb5⟩
        have HB5 := Lib.hid (HWW.out.trans (hb5.mono HWW.out.size))
        obtain ⟨Z, hZ⟩ : ∃ Z, Z = s1.shift := ⟨_, rfl⟩
        rw [← hZ]
        have HZ := Lib.hid (hZ.trans HS1.out.symm)
        clear hb5 hZ k0 k1 k2 k3
        have p9 : ∀ j u, [Value.int .i64 1, .int .i64 Z][j]? = some u → (w5.alloc (.cells #[.int .i64 1, .int .i64 Z] 2)).cell? ⟨w5.heap.size, 0 + j, none⟩ = some u := by
          intro j u hj
          match j, hj with
          | 0, hj => simp at hj; rw [← hj]; simp [go_sem]
          | 1, hj => simp at hj; rw [← hj]; simp [go_sem]
          | j + 2, hj => simp at hj
        have P9 := Lib.hid p9
        clear p9
        go_wp2_with (at_builtin; refine wpList_appN _ rfl (.tmp 39) (.tmp 43) 51 2 1 8 _ Try.underlying51 info2 rfl (by decide) (by decide) rfl w.heap.size (2 * m) w5.heap.size 0 2 2 _ X [.int .i64 1, .int .i64 Z] rfl (owns_below HO.out (HB5.out.trans ((below_box w5 _).mono HB5.out.size))) rfl rfl P9.out (by simp [Value.oneCell']) (by omega) (by have := HBW.out.size; have := HB5.out.size; simp; omega) ?_)
        intro v' w6 hv' hb6
        obtain ⟨X6, hX6⟩ : ∃ x, x = X ++ [Value.int .i64 1, .int .i64 Z] := ⟨_, rfl⟩
        rw [← hX6] at hv'
        obtain ⟨va, vc, hvv⟩ := owns_shapeN hv'
        subst hvv
        have HV6 := Lib.hid hv'
        have HB6 := Lib.hid ((HBW.out.trans ((HB5.out.trans ((below_box w5 _).mono HB5.out.size)).mono HBW.out.size)).trans hb6)
        have HX6 := Lib.hid hX6
        clear hv' hb6 hX6
        go_wp2_with fail
        go_roundw
        case rel =>
          have e : rl f (0 + 1) = rl f 0 ++ [(1, Z)] := by simp [rl, ← HZ.out]
          refine ⟨0 + 1, by omega, by go_num, ?_, HB6.out⟩
          have e2 : iv (pairs2 (rl f (0 + 1))) = X6 := by rw [e, pairs2_append, HX6.out, HX.out]; simp [iv, pairs2]
          have e3 : 2 * (rl f (0 + 1)).length = 2 * m + 2 := by rw [e, List.length_append, ← HM.out]; simp; omega
          rw [e2, e3]
          exact HV6.out
        case measure => simp [intOf]; omega
      · obtain ⟨j, rfl⟩ : ∃ j, k = j + 1 := ⟨k - 1, by omega⟩
        obtain ⟨b', o', x0, e, q0, q1, q2, q3, hx⟩ := H j (by omega)
        cases e
        obtain ⟨ay, dy, rfl⟩ := hx.shape
        obtain ⟨s0, hs0⟩ : ∃ s, s = S j := ⟨_, rfl⟩
        rw [← hs0] at q1 q2 q3 q0 hx
        have HS0 := Lib.hid (show f j = s0.shift from by rw [HF.out, hs0])
        have hk3 : (j : Int) + 1 < (n : Int) := by omega
        clear hx hs0 H
        go_wp2_with fail
        obtain ⟨w4, hw4⟩ : ∃ x, x = wr.alloc (.cells #[.slice ax s1.n dx, .int .i64 s1.dur, .int .i64 s1.shift, .bool s1.sync] 75) := ⟨_, rfl⟩
        rw [← hw4]
        have hb4 : Below wr.heap.size wr w4 := by rw [hw4]; exact below_box _ _
        have k0 : w4.cell? ⟨wr.heap.size, 0, none⟩ = some (.slice ax s1.n dx) := by rw [hw4]; simp [go_sem]
        have k1 : w4.cell? ⟨wr.heap.size, 1, none⟩ = some (.int .i64 s1.dur) := by rw [hw4]; simp [go_sem]
        have k2 : w4.cell? ⟨wr.heap.size, 2, none⟩ = some (.int .i64 s1.shift) := by rw [hw4]; simp [go_sem]
        have k3 : w4.cell? ⟨wr.heap.size, 3, none⟩ = some (.bool s1.sync) := by rw [hw4]; simp [go_sem]
        obtain ⟨bs, hbs⟩ : ∃ z, z = wr.heap.size := ⟨_, rfl⟩
        rw [← hbs] at k0 k1 k2 k3 ⊢
        have HB4 := Lib.hid hb4
        have hbsw : w.heap.size ≤ bs := by have := HBW.out.size; omega
        have HBS := Lib.hid hbs
        replace q0 := (hb4.cell (block_lt_of_cell q0)).trans q0
        replace q1 := (hb4.cell (block_lt_of_cell q1)).trans q1
        replace q2 := (hb4.cell (block_lt_of_cell q2)).trans q2
        replace q3 := (hb4.cell (block_lt_of_cell q3)).trans q3
        clear hw4 hb4 hbs
        refine Plan.wp_region_plan (fun w' => w'.cell? ⟨bs, 0, none⟩ = some (.slice ax s1.n dx) ∧ w'.cell? ⟨bs, 1, none⟩ = some (.int .i64 s1.dur) ∧ w'.cell? ⟨bs, 2, none⟩ = some (.int .i64 s1.shift) ∧ w'.cell? ⟨bs, 3, none⟩ = some (.bool s1.sync) ∧ w'.cell? ⟨b, o + j * 4, none⟩ = some (.slice ay s0.n dy) ∧ w'.cell? ⟨b, o + j * 4 + 1, none⟩ = some (.int .i64 s0.dur) ∧ w'.cell? ⟨b, o + j * 4 + 2, none⟩ = some (.int .i64 s0.shift) ∧ w'.cell? ⟨b, o + j * 4 + 3, none⟩ = some (.bool s0.sync)) (([0, 1, 2, 3, 4, 6, 7, 8, 9, 10, 11].map (·, true)) ++ (([5, 12].map (·, false)) ++ (([13, 14].map (·, true))))) (by kernel_rfl) (by kernel_rfl) (by kernel_rfl) ⟨k0, k1, k2, k3, q0, q1, q2, q3⟩ ?_
        refine' Plan.plan_seg _ [0, 1, 2, 3, 4, 6, 7, 8, 9, 10, 11] (([5, 12].map (·, false)) ++ (([13, 14].map (·, true)))) (by kernel_rfl) (by kernel_rfl) rfl (by exact ⟨k0, k1, k2, k3, q0, q1, q2, q3⟩) (fun wx hS => ?_) ?_
        rotate_left
        · obtain ⟨z0, z1, z2, z3, z4, z5, z6, z7⟩ := hS
          go_light
          iterate 11 (apply Plan.seg_pick; rfl; intro K hK; go_wp)
          exact Plan.seg_nil
        refine Plan.plan_of_effect rfl (fun K hK => ?_)
        go_wp2_with fail
        refine (HCL.out _ s1 _).mono ?_
        rintro e w5 ⟨rfl, hb5⟩
        replace hb5 : Below w4.heap.size w4 w5 := (Below.refl w4.heap.size w4).drew.trans hb5
        replace k0 := (hb5.cell (block_lt_of_cell k0)).trans k0
        replace k1 := (hb5.cell (block_lt_of_cell k1)).trans k1
        replace k2 := (hb5.cell (block_lt_of_cell k2)).trans k2
        replace k3 := (hb5.cell (block_lt_of_cell k3)).trans k3
        replace q0 := (hb5.cell (block_lt_of_cell q0)).trans q0
        replace q1 := (hb5.cell (block_lt_of_cell q1)).trans q1
        replace q2 := (hb5.cell (block_lt_of_cell q2)).trans q2
        replace q3 := (hb5.cell (block_lt_of_cell q3)).trans q3
        have HB5 := Lib.hid hb5
        clear hb5
        go_wp2_with fail
        refine ⟨⟨k0, k1, k2, k3, q0, q1, q2, q3⟩, ?_⟩
        refine Plan.plan_of_effect rfl (fun K hK => ?_)
        go_wp2_with fail
        refine (HCL.out _ s0 _).mono ?_
        rintro e w6 ⟨rfl, hb6⟩
        replace k0 := (hb6.cell (block_lt_of_cell k0)).trans k0
        replace k1 := (hb6.cell (block_lt_of_cell k1)).trans k1
        replace k2 := (hb6.cell (block_lt_of_cell k2)).trans k2
        replace k3 := (hb6.cell (block_lt_of_cell k3)).trans k3
        replace q0 := (hb6.cell (block_lt_of_cell q0)).trans q0
        replace q1 := (hb6.cell (block_lt_of_cell q1)).trans q1
        replace q2 := (hb6.cell (block_lt_of_cell q2)).trans q2
        replace q3 := (hb6.cell (block_lt_of_cell q3)).trans q3
        have HWW := Lib.hid (HB4.out.trans ((HB5.out.trans (hb6.mono HB5.out.size)).mono HB4.out.size))
        clear hb6
        go_wp2_with fail
        refine ⟨⟨k0, k1, k2, k3, q0, q1, q2, q3⟩, ?_⟩
        refine' Plan.plan_seg _ [13, 14] ([]) (by kernel_rfl) (by kernel_rfl) rfl (by exact ⟨k0, k1, k2, k3, q0, q1, q2, q3⟩) (fun wx hS => ?_) ?_
        rotate_left
        · obtain ⟨z0, z1, z2, z3, z4, z5, z6, z7⟩ := hS
          go_light
          iterate 2 (apply Plan.seg_pick; rfl; intro K hK; go_wp)
          exact Plan.seg_nil
        refine Plan.plan_done ?_
        clear q0 q1 q2 q3
        obtain ⟨P, c0, eP, hc1, hc2⟩ := rl_pos (f := f) h0
        rw [Nat.add_sub_cancel] at eP
        by_cases heq : s1.shift = s0.shift
        · have hbe : (s1.shift == s0.shift) = true := by simpa using heq
          have HEQ := Lib.hid (show f (j + 1) = f j by rw [HS1.out, HS0.out, heq])
          obtain ⟨q, hq⟩ : ∃ q, q = P.length := ⟨_, rfl⟩
          have hmq : m = q + 1 := by rw [HM.out, eP, List.length_append, hq]; rfl
          subst hmq
          obtain ⟨g, gc, eg, hgc, hgB, hgz, hcell⟩ := owns_open2 (owns_below HO.out HWW.out) (by omega)
          simp only [Value.slice.injEq, true_and] at eg
          obtain ⟨rfl, rfl⟩ := eg
          have hx0 : w6.cell? ⟨g, 2 * q, none⟩ = some (.int .i64 c0) := hcell (2 * q) _ (by
            rw [HX.out, eP, hq]
            have h : (iv (pairs2 P)).length = 2 * P.length := by simp [iv, pairs2_length]
            rw [pairs2_append]
            simp only [iv, List.map_append]
            rw [List.getElem?_append_right (by simp only [iv] at h; omega)]
            simp only [iv] at h
            rw [h, Nat.sub_self]; rfl)
          have hx2 : w6.cell? ⟨g, 2 * (q + 1) - 2, none⟩ = some (.int .i64 c0) := by rw [show 2 * (q + 1) - 2 = 2 * q by omega]; exact hx0
          have gz := hgz
          have HEP := Lib.hid eP
          have HQ := Lib.hid hq
          have HOS := Lib.hid (((owns_below HO.out HWW.out).stored (2 * (q + 1) - 2) (.int .i64 (c0 + 1))).1)
          have hgB2 : w.heap.size ≤ g := hgB
          clear eP hq hcell hgz k0 k1 k2 k3 heq hx0
          go_wp2_with fail
          go_roundw
          case rel =>
            have e : rl f (j + 1 + 1) = P ++ [(c0 + 1, f j)] := by rw [rl, if_pos ⟨by omega, by rw [Nat.add_sub_cancel]; exact HEQ.out⟩, HEP.out, bump_append]
            refine ⟨j + 1 + 1, by omega, by go_num, ?_, (HBW.out.trans (HWW.out.mono HBW.out.size)).setCell (by simpa using hgB2) _⟩
            have e2 : iv (pairs2 (rl f (j + 1 + 1))) = X.set (2 * (q + 1) - 2) (.int .i64 (c0 + 1)) := by
              rw [e, HX.out, HEP.out, show 2 * (q + 1) - 2 = 2 * P.length by rw [← HQ.out]; omega, iv_set]
            have e3 : 2 * (rl f (j + 1 + 1)).length = 2 * (q + 1) := by rw [e, List.length_append, ← HQ.out]; rfl
            rw [e2, e3]
            exact HOS.out
          case measure => simp [intOf]; omega
        · have hbe : (s1.shift == s0.shift) = false := by simpa using heq
          have HNE := Lib.hid (show ¬ (0 < j + 1 ∧ f (j + 1) = f (j + 1 - 1)) from fun h => heq (by have := h.2; rw [Nat.add_sub_cancel, HS1.out, HS0.out] at this; exact this))
          clear heq eP
          go_wp2_with fail
          refine (HCL.out _ s1 w6).mono ?_
          rintro e w5 ⟨rfl, hb5⟩
          have HB5 := Lib.hid (HWW.out.trans (hb5.mono HWW.out.size))
          obtain ⟨Z, hZ⟩ : ∃ Z, Z = s1.shift := ⟨_, rfl⟩
          rw [← hZ]
          have HZ := Lib.hid (hZ.trans HS1.out.symm)
          clear hb5 hZ k0 k1 k2 k3
          have p9 : ∀ j u, [Value.int .i64 1, .int .i64 Z][j]? = some u → (w5.alloc (.cells #[.int .i64 1, .int .i64 Z] 2)).cell? ⟨w5.heap.size, 0 + j, none⟩ = some u := by
            intro j u hj
            match j, hj with
            | 0, hj => simp at hj; rw [← hj]; simp [go_sem]
            | 1, hj => simp at hj; rw [← hj]; simp [go_sem]
            | j + 2, hj => simp at hj
          have P9 := Lib.hid p9
          clear p9
          go_wp2_with (at_builtin; refine wpList_appN _ rfl (.tmp 39) (.tmp 43) 51 2 1 8 _ Try.underlying51 info2 rfl (by decide) (by decide) rfl w.heap.size (2 * m) w5.heap.size 0 2 2 _ X [.int .i64 1, .int .i64 Z] rfl (owns_below HO.out (HB5.out.trans ((below_box w5 _).mono HB5.out.size))) rfl rfl P9.out (by simp [Value.oneCell']) (by omega) (by have := HBW.out.size; have := HB5.out.size; simp; omega) ?_)
          intro v' w7 hv' hb7
          obtain ⟨X6, hX6⟩ : ∃ x, x = X ++ [Value.int .i64 1, .int .i64 Z] := ⟨_, rfl⟩
          rw [← hX6] at hv'
          obtain ⟨va, vc, hvv⟩ := owns_shapeN hv'
          subst hvv
          have HV6 := Lib.hid hv'
          have HB6 := Lib.hid ((HBW.out.trans ((HB5.out.trans ((below_box w5 _).mono HB5.out.size)).mono HBW.out.size)).trans hb7)
          have HX6 := Lib.hid hX6
          clear hv' hb7 hX6
          go_wp2_with fail
          go_roundw
          case rel =>
            have e : rl f ((j + 1) + 1) = rl f (j + 1) ++ [(1, Z)] := by rw [rl, if_neg HNE.out, HZ.out]
            refine ⟨(j + 1) + 1, by omega, by go_num, ?_, HB6.out⟩
            have e2 : iv (pairs2 (rl f ((j + 1) + 1))) = X6 := by rw [e, pairs2_append, HX6.out, HX.out]; simp [iv, pairs2]
            have e3 : 2 * (rl f ((j + 1) + 1)).length = 2 * m + 2 := by rw [e, List.length_append, ← HM.out]; simp; omega
            rw [e2, e3]
            exact HV6.out
          case measure => simp [intOf]; omega
    · obtain rfl : k = n := by omega
      have hdiv : ((2 * m : Nat) : Int) / 2 = (m : Int) := by omega
      have HI : Hid (IL (wr.alloc (.cells #[.int .i64 0, .int .i64 (m : Int)] 2)) (.slice (some ⟨wr.heap.size, 0, none⟩) 2 2) [0, (m : Int)]) := Lib.hid (IL.build wr [0, (m : Int)] 2)
      go_wp2_with fail
      refine (appn_any (.slice none 0 0) _ [] [0, (m : Int)] wr.heap.size _ (own_nil _ _) HI.out (fun a n c e h => by cases h) (by simp) (by simp) (by simp)).mono ?_
      rintro e w5 ⟨r5, rfl, h5, ha5⟩
      obtain ⟨D, hD⟩ : ∃ D, D = [] ++ numsL [0, (m : Int)] := ⟨_, rfl⟩
      rw [← hD] at h5
      have HD := Lib.hid (show D = numsL [0, (m : Int)] from hD)
      have HDL := Lib.hid (show D.length = 8 from by rw [HD.out, numsL_length]; rfl)
      have hb15 : Below wr.heap.size wr w5 := ((below_box wr _)).trans ((ha5.below rfl).mono (by simp))
      have hap : Apart r5 (.slice ra (2 * m) rc) := by
        intro a n' c' e h2
        have h3 := (World.ownsRow.lt h5 _ h2).1
        have h4 := (World.ownsRow.lt HO.out a.block (by cases e; rfl)).2
        omega
      have HAP := Lib.hid hap
      obtain ⟨qa, qc, hq⟩ := h5.shape
      have HIT := Lib.hid (owns_il HM.out HX.out (owns_below HO.out hb15))
      have H5 := Lib.hid h5
      rw [hq] at H5 HAP ⊢
      have HB15 := Lib.hid hb15
      have hb5w := hb15.size
      clear h5 ha5 hb15 hD hap hq HI
      go_wp2_with fail
      refine (appn_any _ _ D _ wr.heap.size w5 H5.out HIT.out HAP.out (by rw [pairs2_length, ← HM.out]; omega) (by have := HDL.out; omega) hb5w).mono ?_
      rintro e w7 ⟨r7, rfl, h7, ha7⟩
      rw [show D ++ numsL (pairs2 (rl f k)) = runsL f k from by simp only [runsL]; rw [HD.out, HM.out]; rfl] at h7
      obtain ⟨Y, hY⟩ : ∃ Y, Y = runsL f k := ⟨_, rfl⟩
      rw [← hY] at h7
      have HY := Lib.hid hY
      have hb57 : Below wr.heap.size w5 w7 := by
        refine (Below.refl _ _).grown ha7.g hb5w (fun g h2 => ?_)
        exact (World.ownsRow.lt H5.out g h2).1
      obtain ⟨xa, xc, hxv⟩ := h7.shape
      subst hxv
      have H7 := Lib.hid (h7.mono HBW.out.size)
      have HB7 := Lib.hid ((HBW.out.trans (HB15.out.mono HBW.out.size)).trans (hb57.mono HBW.out.size))
      clear h7 ha7 hb57 hY HIT
      go_wp2_with fail
      go_ret
      rw [← HY.out]
      exact ⟨_, rfl, H7.out, HB7.out⟩
end Go.Proofs.Ytkhjkemllgjfmaa

/- Contents as data: a tree of boxes, its bytes, how values read as one; the contracts of tag. -/
namespace Go.Proofs.Ytkhjkemllgjfmaa
open Go.RowKit
set_option linter.unusedVariables false
set_option linter.unusedSimpArgs false

/-- A box of bytes, a box of boxes. -/
inductive CT where
  | leaf (name : ByteArray) (data : List Int)
  | group (name : ByteArray) (n : Nat) (parts : Nat → CT)
def catN (f : Nat → List Int) : Nat → List Int
  | 0 => []
  | k + 1 => catN f k ++ f k
/-- A box with its name and what is inside. -/
def boxP (name : ByteArray) (d : List Int) : List Int := num4 ((d.length : Int) + 4 + name.size) ++ (strB name ++ d)
def bytesT : CT → List Int
  | .leaf name data => boxP name data
  | .group name n parts => boxP name (catN (fun i => bytesT (parts i)) n)
theorem boxP_four (name : ByteArray) (d : List Int) (h : name.size = 4) : boxP name d = boxL name d := by
  unfold boxP boxL; rw [h]; congr 2

/-- How a value reads as a tree; none of its cells lies in the block no. -/
inductive CA (w : World) (no : Option Nat) : Value → CT → Prop where
  | leaf (name : ByteArray) (vd : Value) (data : List Int) (h : BL w vd data) (ha : ∀ a n c, vd = .slice (some a) n c → no ≠ some a.block ∧ a.block < w.heap.size) : CA w no (.iface 109 (.agg #[.string name, vd])) (.leaf name data)
  | group (name : ByteArray) (n : Nat) (parts : Nat → CT) (b o c : Nat) (f : Nat → Value) (hc : n ≤ c) (hb : no ≠ some b) (hlt : b < w.heap.size) (hcell : ∀ i, i < n → w.cell? ⟨b, o + i, none⟩ = some (f i)) (hsub : ∀ i, i < n → CA w no (f i) (parts i)) :
      CA w no (.iface 107 (.agg #[.string name, .slice (some ⟨b, o, none⟩) n c])) (.group name n parts)
theorem CA.adv {w w' : World} {b b' v : Value} {t : CT} (h : CA w b.ownBlock v t) (ha : Adv w w' b b') : CA w' b'.ownBlock v t := by
  have far : ∀ k, k < w.heap.size → b.ownBlock ≠ some k → b'.ownBlock ≠ some k := by
    intro k hk hne
    rcases ha.o with e | ⟨j, e, hj⟩
    · rw [e]; exact hne
    · rw [e]; intro h3; cases h3; omega
  induction h with
  | leaf name vd data h hx =>
    refine .leaf name vd data (h.adv ha (fun a n c e => (hx a n c e).1)) (fun a n c e => ?_)
    have h1 := hx a n c e
    exact ⟨far _ h1.2 h1.1, by have := ha.g.size; omega⟩
  | group name n parts g o c f hc hb hlt hcell hsub ih =>
    refine .group name n parts g o c f hc (far _ hlt hb) (by have := ha.g.size; omega) (fun i hi => ?_) ih
    exact (World.cell?_of_block (ha.g.block g hlt (fun e => hb e.symm))).trans (hcell i hi)
theorem CA.bel {w w' : World} {no : Option Nat} {v : Value} {t : CT} (h : CA w no v t) (hb : Below w.heap.size w w') : CA w' no v t := by
  induction h with
  | leaf name vd data h hx => exact .leaf name vd data (h.below hb) (fun a n c e => ⟨(hx a n c e).1, by have := (hx a n c e).2; have := hb.size; omega⟩)
  | group name n parts g o c f hc hne hlt hcell hsub ih => exact .group name n parts g o c f hc hne (by have := hb.size; omega) (fun i hi => (hb.cell (by simpa using hlt)).trans (hcell i hi)) ih

theorem tag_leaf (name : ByteArray) (vd : Value) (w : World) (hs : ∃ a n c, vd = .slice a n c) : Calls Try.prog 103 #[.agg #[.string name, vd]] w fun e w' => e = .returned (.string name) ∧ Below w.heap.size w w' := by
  obtain ⟨a, n, c, rfl⟩ := hs
  go_enter Try.func103, Try.ntmps103
  go_wp2_with fail
  go_ret
  exact ⟨rfl, below_box _ _⟩
theorem tag_group (name : ByteArray) (vd : Value) (w : World) (hs : ∃ a n c, vd = .slice a n c) : Calls Try.prog 102 #[.agg #[.string name, vd]] w fun e w' => e = .returned (.string name) ∧ Below w.heap.size w w' := by
  obtain ⟨a, n, c, rfl⟩ := hs
  go_enter Try.func102, Try.ntmps102
  go_wp2_with fail
  go_ret
  exact ⟨rfl, below_box _ _⟩
theorem tag_payload (v : Value) (w : World) (hs : ∃ a n c, v = .slice a n c) : Calls Try.prog 101 #[.agg #[v]] w fun e w' => e = .returned (.string ⟨#[109, 100, 97, 116]⟩) ∧ Below w.heap.size w w' := by
  obtain ⟨a, n, c, rfl⟩ := hs
  go_enter Try.func101, Try.ntmps101
  go_wp2_with fail
  go_ret
  exact ⟨rfl, below_box _ _⟩
end Go.Proofs.Ytkhjkemllgjfmaa

/- appendNumbers onto a shorter slice of a row: four bytes written over. -/
namespace Go.Proofs.Ytkhjkemllgjfmaa
open Go.RowKit
set_option linter.unusedVariables false
set_option linter.unusedSimpArgs false

def patch (L : List Int) (k : Nat) (x : Int) : List Int := L.take k ++ (num4 x ++ L.drop (k + 4))
theorem patch_head (M N : List Int) (y x : Int) : patch (M ++ (num4 y ++ N)) M.length x = M ++ (num4 x ++ N) := by
  unfold patch
  rw [List.take_left]
  have h : (M ++ (num4 y ++ N)).drop (M.length + 4) = N := by
    rw [← List.append_assoc]
    have : (M ++ num4 y).length = M.length + 4 := by simp [num4]
    rw [← this, List.drop_left]
  rw [h]

set_option maxRecDepth 100000 in
set_option maxHeartbeats 4000000 in
theorem patch_any (g n cap k : Nat) (L : List Int) (x : Int) (B lb c : Nat) (w : World) (ho : Own w B (.slice (some ⟨g, 0, none⟩) n cap) L) (hn : n = L.length) (hk : k + 4 ≤ n) (hx : w.cell? ⟨lb, 0, none⟩ = some (.int .i64 x)) (hne : lb ≠ g) (hc : 1 ≤ c) :
    Calls Try.prog 52 #[.slice (some ⟨g, 0, none⟩) k cap, .slice (some ⟨lb, 0, none⟩) 1 c] w fun e w' => (∃ r, e = .returned r) ∧ Own w' B (.slice (some ⟨g, 0, none⟩) n cap) (patch L k x) ∧ Adv0 w w' (.slice (some ⟨g, 0, none⟩) n cap) (.slice (some ⟨g, 0, none⟩) n cap) := by
  obtain ⟨i0, hi, hz0, hz1, hz2⟩ := info_parts info5
  have hol := ho.1
  rcases ho.2 with ⟨h1, h2⟩ | ⟨g', cap', cur, e, hbg, hg, hnc, hcm, hcs, htake⟩
  · cases h1
  simp only [Value.slice.injEq, Option.some.injEq, Addr.mk.injEq, and_true] at e
  obtain ⟨rfl, _, rfl⟩ := e
  have hglt : g < w.heap.size := (Array.getElem?_eq_some_iff.1 hg).1
  have hg4 : (w.alloc (.cells (bv (num4 x)).toArray 5)).heap[g]? = some (.cells cur 5 (0, 0)) := by
    rw [(below_box w _).block g hglt]; exact hg
  have hbl := (own_lit w (num4 x) (by simp [num4, maxLen])).bl
  obtain ⟨_, _, e, _, hcl⟩ := hbl
  have hnews : ∀ j u, (bv (num4 x))[j]? = some u → (w.alloc (.cells (bv (num4 x)).toArray 5)).cell? ((⟨w.heap.size, 0, none⟩ : Addr).add j) = some u := by
    intro j u hj
    rw [Addr.add_lit]
    simp only [bv, List.getElem?_map, Option.map_eq_some_iff] at hj
    obtain ⟨z, hz, rfl⟩ := hj
    obtain ⟨b, o, e2, h3⟩ := hcl j z hz
    simp only [Value.slice.injEq] at e
    rw [← e.1] at e2
    simp only [Option.some.injEq, Addr.mk.injEq, and_true] at e2
    obtain ⟨rfl, rfl⟩ := e2
    exact h3
  have hcs' : cur.size = cap := by simpa using hcs
  have hrun := fun ty => run_append_room (P := Try.prog) (w.alloc (.cells (bv (num4 x)).toArray 5)) 22 ty 5 i0 Try.underlying22 hi g k cap cur hg4 ⟨w.heap.size, 0, none⟩ 4 4 (bv (num4 x)) (by rw [hz1]; simp [bv, num4]) hnews (bv_one _) (by omega) (by rw [hz1, bv_length]; simp [num4]; omega)
  rw [hz1] at hrun
  have HR := Lib.hid hrun
  obtain ⟨cur', hcur'⟩ : ∃ cur', cur' = (cur.toList.take (k * 1) ++ bv (num4 x) ++ cur.toList.drop (k * 1 + (bv (num4 x)).length)).toArray := ⟨_, rfl⟩
  rw [← hcur'] at HR
  have hown' : Own ((w.alloc (.cells (bv (num4 x)).toArray 5)).setRow g cur') B (.slice (some ⟨g, 0, none⟩) n cap) (patch L k x) := by
    have hpl : (patch L k x).length = n := by simp [patch, num4]; omega
    have htk : cur.toList.take n = bv L := by have := htake; rw [Nat.mul_one, ← hn] at this; exact this
    have hl4 : (bv (num4 x)).length = 4 := by simp [bv, num4]
    refine ⟨by rw [bv_length]; simp, ?_⟩
    rw [hpl]
    refine .inr ⟨g, cap, cur', rfl, hbg, setRow_heap _ g cur _ 5 _ hg4, by omega, hcm, ?_, ?_⟩
    · rw [hcur']; simp [hl4]; omega
    · rw [hcur', List.toList_toArray, Nat.mul_one, Nat.mul_one, hl4]
      have h1 : cur.toList = bv L ++ cur.toList.drop n := by rw [← htk, List.take_append_drop]
      have h2 : (bv L).length = n := by rw [bv_length, hn]
      rw [h1]
      have h3 : (bv L ++ cur.toList.drop n).take k = (bv L).take k := by rw [List.take_append_of_le_length (by omega)]
      have h4 : (bv L ++ cur.toList.drop n).drop (k + 4) = (bv L).drop (k + 4) ++ cur.toList.drop n := by rw [List.drop_append_of_le_length (by omega)]
      rw [h3, h4, ← List.append_assoc, patch, bv_append, bv_append]
      have h5 : (bv (L.take k)) = (bv L).take k := by simp [bv, List.map_take]
      have h6 : (bv (L.drop (k + 4))) = (bv L).drop (k + 4) := by simp [bv, List.map_drop]
      rw [h5, h6, List.take_append_of_le_length (by simp [h2, hl4]; omega), List.take_of_length_le (by simp [h2, hl4]; omega), List.append_assoc]
  have hadv : Adv0 w ((w.alloc (.cells (bv (num4 x)).toArray 5)).setRow g cur') (.slice (some ⟨g, 0, none⟩) n cap) (.slice (some ⟨g, 0, none⟩) n cap) :=
    ⟨⟨rfl, rfl, rfl, by simp, fun j hj hne => by
      rw [setRow_other _ g j _ (fun e => hne (by rw [e]; rfl)), (below_box w _).block j hj]⟩, .inl rfl⟩
  have HOW := Lib.hid hown'
  have HA := Lib.hid hadv
  clear ho hol hbg hg hnc hcm hcs htake hg4 e hcl hnews hcs' hrun hcur' hown' hadv
  go_enter Try.func52, Try.ntmps52
  go_wp2_with fail
  refine wp_loop_rounds 2 ?_
  rw [rounds_succ]
  go_wp2_with (at_builtin; refine Lib.wpList_append_run _ rfl (.tmp 13) (.tmp 25) 22 22 rfl _ _ rfl rfl _ _ (HR.out _) ?_)
  obtain ⟨w5, hw5⟩ : ∃ x', x' = (w.alloc (.cells (bv (num4 x)).toArray 5)).setRow g cur' := ⟨_, rfl⟩
  rw [← hw5] at HOW HA ⊢
  clear hw5 HR
  rw [rounds_succ]
  go_wp2_with fail
  go_ret
  exact ⟨⟨_, rfl⟩, HOW.out, HA.out⟩
end Go.Proofs.Ytkhjkemllgjfmaa

/- The contract of appendBox. -/
namespace Go.Proofs.Ytkhjkemllgjfmaa
open Go.RowKit
set_option linter.unusedVariables false
set_option linter.unusedSimpArgs false

theorem info107 : (Try.prog.info? 107).map (fun i => (i.zero, i.size, i.bytes)) = some (some (.agg #[.string { data := #[] }, .slice none 0 0]), 2, 40) := by kernel_rfl
theorem ta_109_107 (x : Value) (w : World) : (Instr.typeAssert (.iface 109 x) 83 107 true).run Try.prog w = .ok (.tuple #[.agg #[.string { data := #[] }, .slice none 0 0], .bool false]) w := by
  obtain ⟨i0, hi, hz0, _, _⟩ := info_parts info107
  simp [Instr.typeAssert, run_underlying Try.underlying107, zeroValue, typeInfo, hi, hz0]
theorem ta_109_109 (x : Value) (w : World) : (Instr.typeAssert (.iface 109 x) 83 109 true).run Try.prog w = .ok (.tuple #[x, .bool true]) w := by
  simp [Instr.typeAssert, run_underlying Try.underlying109]
theorem ta_107_107 (x : Value) (w : World) : (Instr.typeAssert (.iface 107 x) 83 107 true).run Try.prog w = .ok (.tuple #[x, .bool true]) w := by
  simp [Instr.typeAssert, run_underlying Try.underlying107]

set_option maxRecDepth 100000 in
set_option maxHeartbeats 4000000 in
theorem appb_leaf (b vd : Value) (name : ByteArray) (D M : List Int) (B : Nat) (w : World) (hb0 : Own w B b M) (ht : CA w b.ownBlock (.iface 109 (.agg #[.string name, vd])) (.leaf name D)) (hm : M.length + D.length + name.size ≤ 80000000) (hB : B ≤ w.heap.size) :
    Calls Try.prog 38 #[b, .iface 109 (.agg #[.string name, vd])] w fun e w' => ∃ r, e = .returned r ∧ Own w' B r (M ++ boxP name D) ∧ Adv w w' b r := by
  have hca := ht
  obtain ⟨ad, cd, rfl⟩ : ∃ a c, vd = .slice a D.length c := by cases hca with | leaf _ _ _ h _ => exact h.shape
  have HT := Lib.hid ht
  have HB0 := Lib.hid hb0
  obtain ⟨ba, bc, hbe⟩ := hb0.shape
  have HBE := Lib.hid hbe
  have HI : Hid (IL (w.alloc (.cells #[.int .i64 0] 2)) (.slice (some ⟨w.heap.size, 0, none⟩) 1 1) [0]) := Lib.hid (IL.build w [0] 2)
  rw [hbe]
  clear hb0 ht hca hbe
  go_enter Try.func38, Try.ntmps38
  go_wp2_with fail
  rw [← HBE.out]
  refine (appn_any b _ M [0] B _ (HB0.out.below (below_box w _)) HI.out (HB0.out.apart_new (Nat.le_refl _)) (by simp) (by omega) (by simp; omega)).mono ?_
  rintro e w1 ⟨r1, rfl, h1, ha1⟩
  obtain ⟨L1, hL1⟩ : ∃ L, L = M ++ numsL [0] := ⟨_, rfl⟩
  rw [← hL1] at h1
  have HL1 := Lib.hid hL1
  have HN1 := Lib.hid (show L1.length = M.length + 4 from by rw [hL1, List.length_append, numsL_length]; rfl)
  have HA1 := Lib.hid ((Adv.of_below (below_box w _)).trans ha1)
  have H1 := Lib.hid h1
  obtain ⟨qa, qc, hq⟩ := h1.shape
  have HR1 := Lib.hid hq
  rw [hq]
  clear h1 ha1 hL1 HI hq
  go_wp2_with fail
  refine (tag_leaf name _ w1 ⟨_, _, _, rfl⟩).mono ?_
  rintro e w2 ⟨rfl, hb2⟩
  have HB2 := Lib.hid hb2
  have hl2 : L1.length + name.size ≤ 100000000 := by have := HN1.out; omega
  have hsz1 : B ≤ w2.heap.size := by have := HA1.out.g.size; have := hb2.size; omega
  clear hb2
  go_wp2_with (at_builtin; rw [← HR1.out]; refine wpList_advS w2 rfl (.tmp 19) (.tmp 21) rfl B r1 L1 name rfl (H1.out.below HB2.out) rfl hl2 hsz1 ?_)
  intro r2 w2' h2 ha2
  obtain ⟨L2, hL2⟩ : ∃ L, L = L1 ++ strB name := ⟨_, rfl⟩
  rw [← hL2] at h2
  have HN2 := Lib.hid (show L2.length = M.length + 4 + name.size from by rw [hL2, List.length_append, strB_length, HN1.out])
  have HL2 := Lib.hid (show L2 = M ++ (num4 0 ++ strB name) from by rw [hL2, HL1.out]; simp [numsL])
  have HA2 := Lib.hid (HA1.out.trans ((Adv.of_below HB2.out).trans ha2))
  have H2 := Lib.hid h2
  obtain ⟨ua, uc, hu⟩ := h2.shape
  have HR2 := Lib.hid hu
  rw [hu]
  clear h2 ha2 hL2 hu hl2
  have HT2 := Lib.hid (HT.out.adv HA2.out)
  have ta1 := ta_109_107 (.agg #[.string name, .slice ad D.length cd]) w2'
  have ta2 := ta_109_109 (.agg #[.string name, .slice ad D.length cd]) w2'
  have hbl : BL w2' (.slice ad D.length cd) D := by cases HT2.out with | leaf _ _ _ h _ => exact h
  have HBL := Lib.hid hbl
  have hl4 : L2.length + D.length ≤ 100000000 := by have := HN2.out; omega
  have hsz2 : B ≤ w2'.heap.size := by have := HA2.out.g.size; omega
  clear hbl
  go_wp2_with (at_builtin; rw [← HR2.out]; refine wpList_adv _ rfl (.tmp 41) (.tmp 43) rfl B r2 _ L2 D rfl (H2.out.below (below_box w2' _)) rfl (HBL.out.below (below_box w2' _)) hl4 (by simp; omega) ?_)
  intro r3 w3 h3 ha3
  obtain ⟨L3, hL3⟩ : ∃ L, L = L2 ++ D := ⟨_, rfl⟩
  rw [← hL3] at h3
  have HN3 := Lib.hid (show L3.length = M.length + 4 + name.size + D.length from by rw [hL3, List.length_append, HN2.out])
  have HL3 := Lib.hid (show L3 = M ++ (num4 0 ++ (strB name ++ D)) from by rw [hL3, HL2.out]; simp)
  have HA3 := Lib.hid (HA2.out.trans ((Adv.of_below (below_box w2' _)).trans ha3))
  have H3 := Lib.hid h3
  clear h3 ha3 hL3 ta1 ta2 hl4
  have hpos : 0 < L3.length := by have := HN3.out; omega
  obtain ⟨g, cap, eg, hcap, _⟩ := owns_open H3.out hpos
  have HEG := Lib.hid eg
  have hgl : g < w3.heap.size := (World.ownsRow.lt H3.out g (by rw [eg]; rfl)).2
  rw [eg] at H3 HA3 ⊢
  have hx3 : ((L3.length : Int) - (M.length : Int)) = (D.length : Int) + 4 + name.size := by have := HN3.out; omega
  have HX3 := Lib.hid hx3
  have hml : M.length ≤ L3.length := by have := HN3.out; omega
  have hl3 : L3.length ≤ 90000000 := by have := HN3.out; omega
  obtain ⟨n3, hn3⟩ : ∃ n, n = L3.length := ⟨_, rfl⟩
  rw [← hn3] at H3 HA3 HX3 hml hcap hl3 ⊢
  have HNN := Lib.hid hn3
  have hmn : M.length + 4 ≤ n3 := by rw [hn3]; have := HN3.out; omega
  obtain ⟨km, hkm⟩ : ∃ k, k = M.length := ⟨_, rfl⟩
  rw [← hkm] at HX3 hml hmn ⊢
  have HKM := Lib.hid hkm
  have hb3 : Below w3.heap.size w3 (w3.alloc (.cells #[.int .i64 ((n3 : Int) - (km : Int))] 2)) := below_box _ _
  have hsz3 := HA3.out.g.size
  clear eg hx3 hn3 hpos hkm
  go_wp2_with fail
  refine (patch_any g n3 cap km L3 ((n3 : Int) - (km : Int)) B w3.heap.size 1 _ (H3.out.below hb3) HNN.out hmn (by simp [go_sem]) (by omega) (by omega)).mono ?_
  rintro e w4 ⟨⟨rr, rfl⟩, h4, ha4⟩
  have HA4 := Lib.hid (HA3.out.trans (Adv.of_below hb3))
  have HAP := Lib.hid ha4
  have H4 := Lib.hid h4
  clear h4 ha4 hb3
  go_wp2_with fail
  go_ret
  have hp : patch L3 km ((n3 : Int) - (km : Int)) = M ++ boxP name D := by
    rw [HX3.out, HL3.out, HKM.out, patch_head]
    rfl
  have ho4 := H4.out
  rw [hp] at ho4
  have hfin := HA4.out.patch HAP.out hB HB0.out ho4
  rw [HBE.out] at hfin
  exact ⟨_, rfl, ho4, hfin⟩
def AppB (t : CT) : Prop := ∀ (b c : Value) (M : List Int) (B : Nat) (w : World), Own w B b M → CA w b.ownBlock c t → M.length + (bytesT t).length ≤ 80000000 → B ≤ w.heap.size →
    Calls Try.prog 38 #[b, c] w fun e w' => ∃ r, e = .returned r ∧ Own w' B r (M ++ bytesT t) ∧ Adv w w' b r
theorem boxP_length (name : ByteArray) (d : List Int) : (boxP name d).length = 4 + name.size + d.length := by simp [boxP, num4, strB_length]; omega
theorem catN_le (f : Nat → List Int) {k n : Nat} (h : k ≤ n) : (catN f k).length ≤ (catN f n).length := by
  induction n with
  | zero => obtain rfl : k = 0 := by omega
            exact Nat.le_refl _
  | succ n ih =>
    by_cases e : k = n + 1
    · subst e; exact Nat.le_refl _
    · have := ih (by omega); simp only [catN, List.length_append]; omega

set_option maxRecDepth 100000 in
set_option maxHeartbeats 4000000 in
theorem appb_group (name : ByteArray) (n : Nat) (parts : Nat → CT) (hnb : n ≤ 1000000) (ih : ∀ i, i < n → AppB (parts i)) : AppB (.group name n parts) := by
  intro b c M B w hb0 ht hm hB
  simp only [bytesT] at hm ⊢
  rw [boxP_length] at hm
  obtain ⟨F, hF⟩ : ∃ F, F = fun i => bytesT (parts i) := ⟨_, rfl⟩
  rw [← hF] at hm ⊢
  have HF := Lib.hid hF
  have HIH := Lib.hid ih
  obtain ⟨D, hD⟩ : ∃ D, D = catN F n := ⟨_, rfl⟩
  rw [← hD] at hm ⊢
  have HD := Lib.hid hD
  have HM := Lib.hid hm
  have hnm : name.size ≤ 80000000 := by omega
  have hMm : M.length + name.size ≤ 80000000 := by omega
  have hca := ht
  obtain ⟨bp, op, cp, rfl, hcp⟩ : ∃ bp op cp, c = .iface 107 (.agg #[.string name, .slice (some ⟨bp, op, none⟩) n cp]) ∧ n ≤ cp := by cases hca with | group _ _ _ b o c f hc _ _ _ _ => exact ⟨b, o, c, rfl, hc⟩
  clear hF ih hm hD
  have HT := Lib.hid ht
  have HB0 := Lib.hid hb0
  obtain ⟨ba, bc, hbe⟩ := hb0.shape
  have HBE := Lib.hid hbe
  have HI : Hid (IL (w.alloc (.cells #[.int .i64 0] 2)) (.slice (some ⟨w.heap.size, 0, none⟩) 1 1) [0]) := Lib.hid (IL.build w [0] 2)
  rw [hbe]
  clear hb0 ht hca hbe
  go_enter Try.func38, Try.ntmps38
  go_wp2_with fail
  rw [← HBE.out]
  refine (appn_any b _ M [0] B _ (HB0.out.below (below_box w _)) HI.out (HB0.out.apart_new (Nat.le_refl _)) (by simp) (by omega) (by simp; omega)).mono ?_
  rintro e w1 ⟨r1, rfl, h1, ha1⟩
  obtain ⟨L1, hL1⟩ : ∃ L, L = M ++ numsL [0] := ⟨_, rfl⟩
  rw [← hL1] at h1
  have HL1 := Lib.hid hL1
  have HN1 := Lib.hid (show L1.length = M.length + 4 from by rw [hL1, List.length_append, numsL_length]; rfl)
  have HA1 := Lib.hid ((Adv.of_below (below_box w _)).trans ha1)
  have H1 := Lib.hid h1
  obtain ⟨qa, qc, hq⟩ := h1.shape
  have HR1 := Lib.hid hq
  rw [hq]
  clear h1 ha1 hL1 HI hq
  go_wp2_with fail
  refine (tag_group name _ w1 ⟨_, _, _, rfl⟩).mono ?_
  rintro e w2 ⟨rfl, hb2⟩
  have HB2 := Lib.hid hb2
  have hl2 : L1.length + name.size ≤ 100000000 := by have := HN1.out; omega
  have hsz1 : B ≤ w2.heap.size := by have := HA1.out.g.size; have := hb2.size; omega
  clear hb2
  go_wp2_with (at_builtin; rw [← HR1.out]; refine wpList_advS w2 rfl (.tmp 19) (.tmp 21) rfl B r1 L1 name rfl (H1.out.below HB2.out) rfl hl2 hsz1 ?_)
  intro r2 w2' h2 ha2
  obtain ⟨L2, hL2⟩ : ∃ L, L = L1 ++ strB name := ⟨_, rfl⟩
  rw [← hL2] at h2
  have HN2 := Lib.hid (show L2.length = M.length + 4 + name.size from by rw [hL2, List.length_append, strB_length, HN1.out])
  have HL2 := Lib.hid (show L2 = M ++ (num4 0 ++ strB name) from by rw [hL2, HL1.out]; simp [numsL])
  have HA2 := Lib.hid (HA1.out.trans ((Adv.of_below HB2.out).trans ha2))
  have H2 := Lib.hid h2
  obtain ⟨ua, uc, hu⟩ := h2.shape
  have HR2 := Lib.hid hu
  rw [hu]
  clear h2 ha2 hL2 hu hl2
  have HT2 := Lib.hid (HT.out.adv HA2.out)
  have ta1 := ta_107_107 (.agg #[.string name, .slice (some ⟨bp, op, none⟩) n cp]) w2'
  have hsz2 : B ≤ w2'.heap.size := by have := HA2.out.g.size; omega
  go_wp2_with fail
  obtain ⟨wb, hwb⟩ : ∃ x, x = w2'.alloc (.cells #[.string name, .slice (some ⟨bp, op, none⟩) n cp] 107) := ⟨_, rfl⟩
  rw [← hwb]
  have hbb : Below w2'.heap.size w2' wb := by rw [hwb]; exact below_box _ _
  have HBB := Lib.hid hbb
  obtain ⟨bx, hbx⟩ : ∃ x, x = w2'.heap.size := ⟨_, rfl⟩
  rw [← hbx]
  have hn100 : n ≤ 1000000 := hnb
  clear hwb hbb hbx ta1
  rw [← HR2.out]
  go_loopw [30, 0] (fun i r wr => ∃ k : Nat, k ≤ n ∧ i = .int .i64 (k : Int) ∧ Own wr B r (L2 ++ catN F k) ∧ Adv w2' wr r2 r) (fun i _ _ => n - (intOf i).toNat)
  case atStart => exact ⟨0, Nat.zero_le _, rfl, by simpa [catN] using H2.out.below HBB.out, Adv.of_below HBB.out⟩
  case round =>
    obtain ⟨k, hk, rfl, ho, ha⟩ := hrel
    have HO := Lib.hid ho
    have HA := Lib.hid ha
    obtain ⟨T, hT⟩ : ∃ T, T = L2 ++ catN F k := ⟨_, rfl⟩
    rw [← hT] at ho
    have HTT := Lib.hid hT
    have HOT := Lib.hid ho
    obtain ⟨ra, rc, hr⟩ := ho.shape
    have HRS := Lib.hid hr
    clear ho ha hT hr
    by_cases hlt : k < n
    · have hw := HT2.out.adv HA.out
      obtain ⟨x, hcx, hsx⟩ : ∃ x, wr.cell? ⟨bp, op + k, none⟩ = some x ∧ CA wr u0.ownBlock x (parts k) := by
        cases hw with | group _ _ _ _ _ _ f _ _ _ hcell hsub => exact ⟨f k, hcell k hlt, hsub k hlt⟩
      have HSX := Lib.hid hsx
      clear hw hsx
      have hbd : T.length + (bytesT (parts k)).length ≤ 80000000 := by
        have h1 := catN_le F (show k + 1 ≤ n by omega)
        rw [← HD.out] at h1
        simp only [catN, List.length_append] at h1
        have h2 : (F k).length = (bytesT (parts k)).length := by rw [HF.out]
        have h3 := HM.out
        have h4 := HN2.out
        rw [HTT.out, List.length_append]
        omega
      have HBD := Lib.hid hbd
      have hBr : B ≤ wr.heap.size := by have := HA.out.g.size; omega
      clear hbd
      go_wp2_with fail
      refine (HIH.out k hlt u0 x T B wr HOT.out HSX.out HBD.out hBr).mono ?_
      rintro e w4 ⟨r4, rfl, h4, ha4⟩
      have HA4 := Lib.hid (HA.out.trans ha4)
      have H4 := Lib.hid (show Own w4 B r4 (L2 ++ catN F (k + 1)) from by
        have e : L2 ++ catN F (k + 1) = T ++ bytesT (parts k) := by simp only [catN]; rw [HTT.out, HF.out, List.append_assoc]
        rw [e]; exact h4)
      clear h4 ha4
      go_wp2_with fail
      go_roundw
      case rel => exact ⟨k + 1, by omega, by go_num, H4.out, HA4.out⟩
      case measure => simp [intOf]; omega
    · obtain rfl : k = n := by omega
      obtain ⟨w3, hw3⟩ : ∃ x, x = wr := ⟨_, rfl⟩
      obtain ⟨L3, hL3⟩ : ∃ L, L = T := ⟨_, rfl⟩
      have HL3' := Lib.hid (show L3 = L2 ++ D from by rw [hL3, HTT.out, HD.out])
      have HN3 := Lib.hid (show L3.length = M.length + 4 + name.size + D.length from by rw [HL3'.out, List.length_append, HN2.out])
      have HL3 := Lib.hid (show L3 = M ++ (num4 0 ++ (strB name ++ D)) from by rw [HL3'.out, HL2.out]; simp)
      have HA3 := Lib.hid (HA2.out.trans HA.out)
      have hmm := HM.out
      have H3 := Lib.hid (show Own wr B u0 L3 from by rw [hL3]; exact HOT.out)
      rw [← hw3] at H3 HA3 ⊢
      clear hw3 hL3
      have hpos : 0 < L3.length := by have := HN3.out; omega
      obtain ⟨g, cap, eg, hcap, _⟩ := owns_open H3.out hpos
      have HEG := Lib.hid eg
      have hgl : g < w3.heap.size := (World.ownsRow.lt H3.out g (by rw [eg]; rfl)).2
      rw [eg] at H3 HA3 ⊢
      have hx3 : ((L3.length : Int) - (M.length : Int)) = (D.length : Int) + 4 + name.size := by have := HN3.out; omega
      have HX3 := Lib.hid hx3
      have hml : M.length ≤ L3.length := by have := HN3.out; omega
      have hl3 : L3.length ≤ 90000000 := by have := HN3.out; omega
      obtain ⟨n3, hn3⟩ : ∃ n, n = L3.length := ⟨_, rfl⟩
      rw [← hn3] at H3 HA3 HX3 hml hcap hl3 ⊢
      have HNN := Lib.hid hn3
      have hmn : M.length + 4 ≤ n3 := by rw [hn3]; have := HN3.out; omega
      obtain ⟨km, hkm⟩ : ∃ k, k = M.length := ⟨_, rfl⟩
      rw [← hkm] at HX3 hml hmn ⊢
      have HKM := Lib.hid hkm
      have hb3 : Below w3.heap.size w3 (w3.alloc (.cells #[.int .i64 ((n3 : Int) - (km : Int))] 2)) := below_box _ _
      have hsz3 := HA3.out.g.size
      clear eg hx3 hn3 hpos hkm
      go_wp2_with fail
      refine (patch_any g n3 cap km L3 ((n3 : Int) - (km : Int)) B w3.heap.size 1 _ (H3.out.below hb3) HNN.out hmn (by simp [go_sem]) (by omega) (by omega)).mono ?_
      rintro e w4 ⟨⟨rr, rfl⟩, h4, ha4⟩
      have HA4 := Lib.hid (HA3.out.trans (Adv.of_below hb3))
      have HAP := Lib.hid ha4
      have H4 := Lib.hid h4
      clear h4 ha4 hb3
      go_wp2_with fail
      go_ret
      have hp : patch L3 km ((n3 : Int) - (km : Int)) = M ++ boxP name D := by
        rw [HX3.out, HL3.out, HKM.out, patch_head]
        rfl
      have ho4 := H4.out
      rw [hp] at ho4
      have hfin := HA4.out.patch HAP.out hB HB0.out ho4
      rw [HBE.out] at hfin
      exact ⟨_, rfl, ho4, hfin⟩
/-- No box holds too many boxes. -/
def small : CT → Prop
  | .leaf name data => True
  | .group name n parts => n ≤ 1000000 ∧ ∀ i, i < n → small (parts i)
theorem appb_any (t : CT) (h : small t) : AppB t := by
  induction t with
  | leaf name data =>
    intro b c M B w hb0 ht hm hB
    simp only [bytesT] at hm ⊢
    rw [boxP_length] at hm
    cases ht with
    | leaf _ vd _ hbl ha => exact appb_leaf b vd name data M B w hb0 (.leaf name vd data hbl ha) (by omega) hB
  | group name n parts ih => exact appb_group name n parts h.1 (fun i hi => ih i (h.2 i hi))
end Go.Proofs.Ytkhjkemllgjfmaa

/- The contracts of fileType, of appendBox at a payload. -/
namespace Go.Proofs.Ytkhjkemllgjfmaa
open Go.RowKit
set_option linter.unusedVariables false
set_option linter.unusedSimpArgs false

theorem Adv.up {w w' : World} {B : Nat} {v v' : Value} {L : List Int} (h : Own w B v L) (ha : Adv w w' v v') (hB : B ≤ w.heap.size) : Below B w w' :=
  (Below.refl _ _).grown ha.g hB (fun g hg => (World.ownsRow.lt h g hg).1)

def ftypL : List Int := strB ⟨#[99, 114, 118, 109]⟩ ++ (numsL [0] ++ strB ⟨#[105, 115, 111, 109]⟩)
theorem ftypL_length : ftypL.length = 12 := by simp [ftypL, strB_length, numsL_length]; simp [ByteArray.size]

set_option maxRecDepth 100000 in
set_option maxHeartbeats 4000000 in
theorem ftype_any (w : World) : Calls Try.prog 39 #[] w fun e w' => ∃ r, e = .returned (.iface 109 (.agg #[.string ⟨#[102, 116, 121, 112]⟩, r])) ∧ Own w' w.heap.size r ftypL ∧ Below w.heap.size w w' := by
  go_enter Try.func39, Try.ntmps39
  go_wp2_with (at_builtin; refine wpList_advS w rfl (.const (.slice none 0 0)) (.const (.string ⟨#[99, 114, 118, 109]⟩)) rfl w.heap.size (.slice none 0 0) [] ⟨#[99, 114, 118, 109]⟩ rfl (own_nil _ _) rfl (by simp [ByteArray.size]) (Nat.le_refl _) ?_)
  intro r1 w1 h1 ha1
  obtain ⟨L1, hL1⟩ : ∃ L, L = strB ⟨#[99, 114, 118, 109]⟩ := ⟨_, rfl⟩
  rw [← hL1] at h1
  have HL1 := Lib.hid hL1
  have HN1 := Lib.hid (show L1.length = 4 from by rw [hL1, strB_length]; rfl)
  have HB1 := Lib.hid (ha1.below rfl)
  have H1 := Lib.hid h1
  obtain ⟨qa, qc, hq⟩ := h1.shape
  have HQ := Lib.hid hq
  have HI : Hid (IL (w1.alloc (.cells #[.int .i64 0] 2)) (.slice (some ⟨w1.heap.size, 0, none⟩) 1 1) [0]) := Lib.hid (IL.build w1 [0] 2)
  have hs1 := HB1.out.size
  rw [hq]
  clear h1 ha1 hL1 hq
  go_wp2_with fail
  rw [← HQ.out]
  refine (appn_any r1 _ L1 [0] w.heap.size _ (H1.out.below (below_box w1 _)) HI.out (H1.out.apart_new (Nat.le_refl _)) (by simp) (by have := HN1.out; omega) (by simp; omega)).mono ?_
  rintro e w2 ⟨r2, rfl, h2, ha2⟩
  obtain ⟨L2, hL2⟩ : ∃ L, L = L1 ++ numsL [0] := ⟨_, rfl⟩
  rw [← hL2] at h2
  have HL2 := Lib.hid hL2
  have HN2 := Lib.hid (show L2.length = 8 from by rw [hL2, List.length_append, numsL_length, HN1.out]; rfl)
  have hb2 : Below w.heap.size w w2 := HB1.out.trans (((below_box w1 _).mono hs1).trans (Adv.up (H1.out.below (below_box w1 (.cells #[.int .i64 0] 2))) ha2 (by simp; omega)))
  have HB2 := Lib.hid hb2
  have H2 := Lib.hid h2
  obtain ⟨ua, uc, hu⟩ := h2.shape
  have HU := Lib.hid hu
  have hs2 := hb2.size
  have hl2 : L2.length + 4 ≤ 100000000 := by have := HN2.out; omega
  rw [hu]
  clear h2 ha2 hL2 hu hb2 HI
  go_wp2_with (at_builtin; rw [← HU.out]; refine wpList_advS w2 rfl (.tmp 6) (.const (.string ⟨#[105, 115, 111, 109]⟩)) rfl w.heap.size r2 L2 ⟨#[105, 115, 111, 109]⟩ rfl H2.out rfl hl2 hs2 ?_)
  intro r3 w3 h3 ha3
  rw [show L2 ++ strB ⟨#[105, 115, 111, 109]⟩ = ftypL from by rw [HL2.out, HL1.out]; simp [ftypL]] at h3
  have HB3 := Lib.hid (HB2.out.trans (Adv.up H2.out ha3 hs2))
  obtain ⟨xa, xc, hx⟩ := h3.shape
  have H3 := Lib.hid h3
  rw [hx] at H3 ⊢
  clear h3 ha3 hx
  go_wp2_with fail
  go_ret
  exact ⟨_, rfl, H3.out, HB3.out⟩


/-- The same bytes twice. -/
theorem conv_bytes {w : World} {v : Value} {L : List Int} (h : BL w v L) : (convert 22 9 v).run Try.prog w = .ok (.string (strOfNums L)) w := by
  obtain ⟨ao, c, rfl, hc, H⟩ := h
  cases ao with
  | none =>
    have h0 : L = [] := by
      cases L with
      | nil => rfl
      | cons m L => obtain ⟨b, off, e, _⟩ := H 0 m rfl; cases e
    subst h0
    have := run_convert_bytes_nil (P := Try.prog) (w := w) 22 5 Try.underlying22 Try.underlying5 0 c 9 Try.underlying9
    exact this
  | some ad =>
    by_cases h0 : L = []
    · subst h0
      rw [List.length_nil, run_convert_bytes_string w 22 9 5 (some ad) 0 c Try.underlying22 Try.underlying5 Try.underlying9]
      simp [Conv.bytesToString, loadCells, loadCellsFrom]
      rfl
    · obtain ⟨b, o, e⟩ : ∃ b o, ad = ⟨b, o, none⟩ := by
        cases L with
        | nil => exact absurd rfl h0
        | cons m L => obtain ⟨b, off, e, _⟩ := H 0 m rfl; exact ⟨b, off, by simpa using e⟩
      subst e
      refine run_convert_bytes_arg w 22 5 Try.underlying22 Try.underlying5 b o L.length c L rfl (fun i hi => ?_) 9 Try.underlying9
      obtain ⟨b', o', e, hx⟩ := H i L[i] (List.getElem?_eq_getElem hi)
      simp only [Option.some.injEq, Addr.mk.injEq, and_true] at e
      obtain ⟨rfl, rfl⟩ := e
      rw [show L.getD i 0 = L[i] by simp [List.getD, List.getElem?_eq_getElem hi]]
      exact hx
theorem same_any (u v : Value) (L : List Int) (w : World) (hu : BL w u L) (hv : BL w v L) : Calls Try.prog 24 #[u, v] w fun e w' => e = .returned (.bool true) ∧ Below w.heap.size w w' := by
  have h1 := conv_bytes hu
  have h2 := conv_bytes hv
  obtain ⟨a, c, rfl⟩ := hu.shape
  obtain ⟨a', c', rfl⟩ := hv.shape
  clear hu hv
  go_enter Try.func24, Try.ntmps24
  go_wp2_with fail
  go_ret
  exact ⟨by simp, Below.refl _ _⟩
end Go.Proofs.Ytkhjkemllgjfmaa

/- The contract of editList. -/
namespace Go.Proofs.Ytkhjkemllgjfmaa
open Go.RowKit
set_option linter.unusedVariables false
set_option linter.unusedSimpArgs false

def edL (E : Nat → Ed) (n : Nat) : List Int := catN (fun i => numsL [(E i).dur, (E i).time, 65536]) n
theorem edL_length (E : Nat → Ed) (n : Nat) : (edL E n).length = 12 * n := by
  induction n with
  | zero => rfl
  | succ n ih => simp only [edL, catN, List.length_append, numsL_length] at ih ⊢; rw [ih]; simp; omega

set_option maxRecDepth 100000 in
set_option maxHeartbeats 4000000 in
theorem elist_any (v : Value) (n : Nat) (E : Nat → Ed) (w : World) (hv : EA w v n E) (hn : n ≤ 100000) :
    Calls Try.prog 64 #[v] w fun e w' => ∃ r, e = .returned (.iface 109 (.agg #[.string ⟨#[101, 108, 115, 116]⟩, r])) ∧ Own w' w.heap.size r (numsL [0, (n : Int)] ++ edL E n) ∧ Below w.heap.size w w' := by
  have HV := Lib.hid hv
  obtain ⟨av, cv, rfl⟩ := hv.shape
  have HI : Hid (IL (w.alloc (.cells #[.int .i64 0, .int .i64 (n : Int)] 2)) (.slice (some ⟨w.heap.size, 0, none⟩) 2 2) [0, (n : Int)]) := Lib.hid (IL.build w [0, (n : Int)] 2)
  clear hv
  go_enter Try.func64, Try.ntmps64
  go_wp2_with fail
  refine (appn_any (.slice none 0 0) _ [] [0, (n : Int)] w.heap.size _ (own_nil _ _) HI.out (fun a n c e h => by cases h) (by simp) (by simp) (by simp)).mono ?_
  rintro e w1 ⟨r1, rfl, h1, ha1⟩
  obtain ⟨L1, hL1⟩ : ∃ L, L = [] ++ numsL [0, (n : Int)] := ⟨_, rfl⟩
  rw [← hL1] at h1
  have HL1 := Lib.hid (show L1 = numsL [0, (n : Int)] from hL1)
  have HN1 := Lib.hid (show L1.length = 8 from by rw [HL1.out, numsL_length]; rfl)
  have HB1 := Lib.hid (show Below w.heap.size w w1 from (below_box w _).trans ((ha1.below rfl).mono (by simp)))
  have H1 := Lib.hid h1
  clear h1 ha1 hL1 HI
  go_wp2_with fail
  go_loopw [12, 3] (fun i r wr => ∃ k : Nat, k ≤ n ∧ i = .int .i64 (k : Int) ∧ Own wr w.heap.size r (L1 ++ edL E k) ∧ Below w.heap.size w wr) (fun i _ _ => n - (intOf i).toNat)
  case atStart => exact ⟨0, Nat.zero_le _, rfl, by simpa [edL, catN] using H1.out, HB1.out⟩
  case round =>
    obtain ⟨k, hk, rfl, ho, hb⟩ := hrel
    obtain ⟨T, hT⟩ : ∃ T, T = L1 ++ edL E k := ⟨_, rfl⟩
    rw [← hT] at ho
    have HT := Lib.hid hT
    have HTL := Lib.hid (show T.length ≤ 8 + 12 * k from by rw [hT, List.length_append, HN1.out, edL_length]; omega)
    have HO := Lib.hid ho
    have HB := Lib.hid hb
    clear ho hb hT
    by_cases hlt : k < n
    · obtain ⟨ao', c', e, hcc, H⟩ := HV.out.below HB.out
      simp only [Value.slice.injEq, true_and] at e
      obtain ⟨rfl, rfl⟩ := e
      obtain ⟨b, o, rfl, h0, h1⟩ := H k hlt
      obtain ⟨s, hs⟩ : ∃ s, s = E k := ⟨_, rfl⟩
      rw [← hs] at h0 h1
      have HS := Lib.hid hs
      clear H hs
      go_wp2_with fail
      have HI : Hid (IL ((wr.alloc (.cells #[.int .i64 s.dur, .int .i64 s.time] 76)).alloc (.cells #[.int .i64 s.dur, .int .i64 s.time, .int .i64 65536] 2)) (.slice (some ⟨wr.heap.size + 1, 0, none⟩) 3 3) [s.dur, s.time, 65536]) := Lib.hid (by
        have h := IL.build (wr.alloc (.cells #[.int .i64 s.dur, .int .i64 s.time] 76)) [s.dur, s.time, 65536] 2
        rw [World.size_alloc] at h
        exact h)
      have hb2 : Below wr.heap.size wr ((wr.alloc (.cells #[.int .i64 s.dur, .int .i64 s.time] 76)).alloc (.cells #[.int .i64 s.dur, .int .i64 s.time, .int .i64 65536] 2)) := (below_box _ _).alloc (by simp) _
      have hsz := HB.out.size
      refine (appn_any u3 _ T [s.dur, s.time, 65536] w.heap.size _ (HO.out.below hb2) HI.out (HO.out.apart_new (by omega)) (by simp) (by have := HTL.out; omega) (by simp; omega)).mono ?_
      rintro e w3 ⟨r3, rfl, h3, ha3⟩
      have H3 := Lib.hid (show Own w3 w.heap.size r3 (L1 ++ edL E (k + 1)) from by
        have e : L1 ++ edL E (k + 1) = T ++ numsL [s.dur, s.time, 65536] := by
          rw [HT.out, HS.out, List.append_assoc]; rfl
        rw [e]; exact h3)
      have HB3 := Lib.hid (HB.out.trans ((hb2.mono hsz).trans (Adv.up (HO.out.below hb2) ha3 (by simp; omega))))
      clear h3 ha3 hb2 HI
      go_wp2_with fail
      go_roundw
      case rel => exact ⟨k + 1, by omega, by go_num, H3.out, HB3.out⟩
      case measure => simp [intOf]; omega
    · obtain rfl : k = n := by omega
      obtain ⟨xa, xc, hx⟩ := HO.out.shape
      have H3 := Lib.hid HO.out
      rw [hx] at H3 ⊢
      clear hx
      go_wp2_with fail
      go_ret
      rw [← HL1.out, ← HT.out]
      exact ⟨_, rfl, H3.out, HB.out⟩
end Go.Proofs.Ytkhjkemllgjfmaa

/- The contract of appendBox at the payload: the data of all samples. -/
namespace Go.Proofs.Ytkhjkemllgjfmaa
open Go.RowKit
set_option linter.unusedVariables false
set_option linter.unusedSimpArgs false

theorem info109 : (Try.prog.info? 109).map (fun i => (i.zero, i.size, i.bytes)) = some (some (.agg #[.string { data := #[] }, .slice none 0 0]), 2, 40) := by kernel_rfl
theorem ta_88_107 (x : Value) (w : World) : (Instr.typeAssert (.iface 88 x) 83 107 true).run Try.prog w = .ok (.tuple #[.agg #[.string { data := #[] }, .slice none 0 0], .bool false]) w := by
  obtain ⟨i0, hi, hz0, _, _⟩ := info_parts info107
  simp [Instr.typeAssert, run_underlying Try.underlying107, zeroValue, typeInfo, hi, hz0]
theorem ta_88_109 (x : Value) (w : World) : (Instr.typeAssert (.iface 88 x) 83 109 true).run Try.prog w = .ok (.tuple #[.agg #[.string { data := #[] }, .slice none 0 0], .bool false]) w := by
  obtain ⟨i0, hi, hz0, _, _⟩ := info_parts info109
  simp [Instr.typeAssert, run_underlying Try.underlying109, zeroValue, typeInfo, hi, hz0]
theorem ta_88_88 (x : Value) (w : World) : (Instr.typeAssert (.iface 88 x) 83 88 true).run Try.prog w = .ok (.tuple #[x, .bool true]) w := by
  simp [Instr.typeAssert, run_underlying Try.underlying88]
def smL (s : Sm) : List Int := (List.range s.n).map s.D
theorem smL_length (s : Sm) : (smL s).length = s.n := by simp [smL]
theorem BA.bl {w : World} {v : Value} {s : Sm} (h : BA w v s.n s.D) : BL w v (smL s) := by
  obtain ⟨ao, c, rfl, hc, H⟩ := h
  refine ⟨ao, c, by rw [smL_length], by rw [smL_length]; exact hc, fun i u hi => ?_⟩
  have hl : i < s.n := by have := (List.getElem?_eq_some_iff.1 hi).1; rwa [smL_length] at this
  obtain ⟨⟨b, o, e, hx⟩, _⟩ := H i hl
  refine ⟨b, o, e, ?_⟩
  rw [hx]
  simp only [smL, List.getElem?_map, List.getElem?_range hl, Option.map_some, Option.some.injEq] at hi
  rw [hi]
def trL (T : Tr) : List Int := catN (fun j => smL (T.S j)) T.nS
def dataL (T : Nat → Tr) (n : Nat) : List Int := catN (fun i => trL (T i)) n
theorem catN_sm (S : Nat → Sm) (k : Nat) : (catN (fun j => smL (S j)) k).length = sizeN S k := by
  induction k with
  | zero => rfl
  | succ k ih => simp only [catN, sizeN, List.length_append, ih, smL_length]

set_option maxRecDepth 100000 in
set_option maxHeartbeats 4000000 in
theorem appb_pay (b v : Value) (n : Nat) (T : Nat → Tr) (M : List Int) (B : Nat) (W0 w : World) (hb0 : Own w B b M) (hv : TSA W0 v n T) (hW : Below W0.heap.size W0 w) (hWB : W0.heap.size ≤ B) (hn : n ≤ 1000) (hS : ∀ i, i < n → (T i).nS ≤ 100000) (hm : M.length + (dataL T n).length ≤ 70000000) (hB : B ≤ w.heap.size) :
    Calls Try.prog 38 #[b, .iface 88 (.agg #[v])] w fun e w' => ∃ r, e = .returned r ∧ Own w' B r (M ++ boxP ⟨#[109, 100, 97, 116]⟩ (dataL T n)) ∧ Adv w w' b r := by
  obtain ⟨name, hnm⟩ : ∃ name, name = (⟨#[109, 100, 97, 116]⟩ : ByteArray) := ⟨_, rfl⟩
  have hns : name.size = 4 := by rw [hnm]; rfl
  have HNS := Lib.hid hns
  have HNM := Lib.hid hnm
  rw [← hnm]
  obtain ⟨D, hD⟩ : ∃ D, D = dataL T n := ⟨_, rfl⟩
  rw [← hD] at hm ⊢
  have HD := Lib.hid hD
  have HM := Lib.hid hm
  have HV := Lib.hid hv
  have HW := Lib.hid hW
  have HS := Lib.hid hS
  have hMm : M.length ≤ 70000000 := by omega
  obtain ⟨av, cv, rfl⟩ := hv.shape
  clear hD hv hW hnm hns hm hS
  have HB0 := Lib.hid hb0
  obtain ⟨ba, bc, hbe⟩ := hb0.shape
  have HBE := Lib.hid hbe
  have HI : Hid (IL (w.alloc (.cells #[.int .i64 0] 2)) (.slice (some ⟨w.heap.size, 0, none⟩) 1 1) [0]) := Lib.hid (IL.build w [0] 2)
  rw [hbe]
  clear hb0 hbe
  go_enter Try.func38, Try.ntmps38
  go_wp2_with fail
  rw [← HBE.out]
  refine (appn_any b _ M [0] B _ (HB0.out.below (below_box w _)) HI.out (HB0.out.apart_new (Nat.le_refl _)) (by simp) (by omega) (by simp; omega)).mono ?_
  rintro e w1 ⟨r1, rfl, h1, ha1⟩
  obtain ⟨L1, hL1⟩ : ∃ L, L = M ++ numsL [0] := ⟨_, rfl⟩
  rw [← hL1] at h1
  have HL1 := Lib.hid hL1
  have HN1 := Lib.hid (show L1.length = M.length + 4 from by rw [hL1, List.length_append, numsL_length]; rfl)
  have HA1 := Lib.hid ((Adv.of_below (below_box w _)).trans ha1)
  have H1 := Lib.hid h1
  obtain ⟨qa, qc, hq⟩ := h1.shape
  have HR1 := Lib.hid hq
  rw [hq]
  clear h1 ha1 hL1 HI hq
  go_wp2_with fail
  refine (tag_payload _ w1 ⟨_, _, _, rfl⟩).mono ?_
  rintro e w2 ⟨rfl, hb2⟩
  rw [← HNM.out]
  have HB2 := Lib.hid hb2
  have hl2 : L1.length + name.size ≤ 100000000 := by have := HN1.out; have := HNS.out; omega
  have hsz1 : B ≤ w2.heap.size := by have := HA1.out.g.size; have := hb2.size; omega
  clear hb2
  go_wp2_with (at_builtin; rw [← HR1.out]; refine wpList_advS w2 rfl (.tmp 19) (.tmp 21) rfl B r1 L1 name rfl (H1.out.below HB2.out) rfl hl2 hsz1 ?_)
  intro r2 w2' h2 ha2
  obtain ⟨L2, hL2⟩ : ∃ L, L = L1 ++ strB name := ⟨_, rfl⟩
  rw [← hL2] at h2
  have HN2 := Lib.hid (show L2.length = M.length + 4 + name.size from by rw [hL2, List.length_append, strB_length, HN1.out])
  have HL2 := Lib.hid (show L2 = M ++ (num4 0 ++ strB name) from by rw [hL2, HL1.out]; simp [numsL])
  have HA2 := Lib.hid (HA1.out.trans ((Adv.of_below HB2.out).trans ha2))
  have H2 := Lib.hid h2
  obtain ⟨ua, uc, hu⟩ := h2.shape
  have HR2 := Lib.hid hu
  rw [hu]
  clear h2 ha2 hL2 hu hl2
  have ta1 := ta_88_107 (.agg #[.slice av n cv]) w2'
  have ta2 := ta_88_109 (.agg #[.slice av n cv]) w2'
  have ta3 := ta_88_88 (.agg #[.slice av n cv]) w2'
  have hsz2 : B ≤ w2'.heap.size := by have := HA2.out.g.size; omega
  go_wp2_with fail
  obtain ⟨wb, hwb⟩ : ∃ x, x = w2'.alloc (.cells #[.slice av n cv] 88) := ⟨_, rfl⟩
  rw [← hwb]
  have hbb : Below w2'.heap.size w2' wb := by rw [hwb]; exact below_box _ _
  have HBB := Lib.hid hbb
  clear hwb hbb ta1 ta2 ta3
  rw [← HR2.out]
  obtain ⟨G, hG⟩ : ∃ G, G = fun i => trL (T i) := ⟨_, rfl⟩
  have HG := Lib.hid hG
  have HUP := Lib.hid (show ∀ wx u, Adv w2' wx r2 u → Below W0.heap.size W0 wx from fun wx u ha => HW.out.trans ((Adv.up HB0.out (HA2.out.trans ha) hB).mono hWB))
  have HDG := Lib.hid (show D = catN G n from by rw [HD.out, hG]; rfl)
  clear hG
  go_loopw [51, 0] (fun i r wr => ∃ k : Nat, k ≤ n ∧ i = .int .i64 (k : Int) ∧ Own wr B r (L2 ++ catN G k) ∧ Adv w2' wr r2 r) (fun i _ _ => n - (intOf i).toNat)
  case atStart => exact ⟨0, Nat.zero_le _, rfl, by simpa [catN] using H2.out.below HBB.out, Adv.of_below HBB.out⟩
  case round =>
    obtain ⟨k, hk, rfl, ho, ha⟩ := hrel
    have HO := Lib.hid ho
    have HA := Lib.hid ha
    clear ho ha
    by_cases hlt : k < n
    · obtain ⟨tb, to, a2, d2, a3, d3, a4, d4, rfl, t0, t1, t2, t3, t4, hta⟩ := HV.out.at hlt
      have hwr := HUP.out _ _ HA.out
      replace t0 := (hwr.cell (block_lt_of_cell t0)).trans t0
      replace t1 := (hwr.cell (block_lt_of_cell t1)).trans t1
      replace t2 := (hwr.cell (block_lt_of_cell t2)).trans t2
      replace t3 := (hwr.cell (block_lt_of_cell t3)).trans t3
      replace t4 := (hwr.cell (block_lt_of_cell t4)).trans t4
      have hsa : SA W0 (.slice a3 (T k).nS d3) (T k).nS (T k).S := by
        obtain ⟨c0, c1, c2, c3, c4, e, _, _, _, hs, _⟩ := hta
        simp only [Value.agg.injEq, Array.mk.injEq, List.cons.injEq, and_true] at e
        rw [e.2.2.2.1]; exact hs
      have HSA := Lib.hid hsa
      have hns := HS.out k hlt
      have HGK := Lib.hid (show G k = catN (fun j => smL ((T k).S j)) (T k).nS from by rw [HG.out]; rfl)
      obtain ⟨tk, htk⟩ : ∃ t, t = T k := ⟨_, rfl⟩
      rw [← htk] at t0 t1 t2 t3 t4 HSA hns HGK
      clear hta hsa hwr htk
      go_wp2_with fail
      obtain ⟨wq, hwq⟩ : ∃ x, x = wr.alloc (.cells #[.string tk.h, .int .i64 tk.sc, .slice a2 tk.nC d2, .slice a3 tk.nS d3, .slice a4 tk.nE d4] 43) := ⟨_, rfl⟩
      rw [← hwq]
      have hbq : Below wr.heap.size wr wq := by rw [hwq]; exact below_box _ _
      have HQA := Lib.hid (HA.out.trans (Adv.of_below hbq))
      have HQO := Lib.hid (HO.out.below hbq)
      obtain ⟨uq, huq⟩ : ∃ u, u = u0 := ⟨_, rfl⟩
      obtain ⟨N, hN⟩ : ∃ N, N = tk.nS := ⟨_, rfl⟩
      clear hwq hbq t0 t1 t2 t3 t4
      go_loopw [58, 0] (fun i r wx => ∃ j : Nat, j ≤ tk.nS ∧ i = .int .i64 (j : Int) ∧ Own wx B r ((L2 ++ catN G k) ++ catN (fun j => smL (tk.S j)) j) ∧ Adv w2' wx r2 r) (fun i _ _ => tk.nS - (intOf i).toNat)
      case atStart => exact ⟨0, Nat.zero_le _, rfl, by simpa [catN] using HQO.out, HQA.out⟩
      case round =>
        obtain ⟨j, hj, rfl, ho, ha⟩ := hrel
        obtain ⟨Tj, hTj⟩ : ∃ L, L = (L2 ++ catN G k) ++ catN (fun j => smL (tk.S j)) j := ⟨_, rfl⟩
        rw [← hTj] at ho
        have HTJ := Lib.hid hTj
        have KO := Lib.hid ho
        have KA := Lib.hid ha
        obtain ⟨ra, rc, hr⟩ := ho.shape
        have HRS := Lib.hid hr
        clear ho ha hTj hr
        by_cases hjl : j < tk.nS
        · have hwx := HUP.out _ _ KA.out
          obtain ⟨ao', c', e, hcc, H⟩ := HSA.out.below hwx
          simp only [Value.slice.injEq, true_and] at e
          obtain ⟨rfl, rfl⟩ := e
          obtain ⟨sb, so, x, rfl, q0, q1, q2, q3, hx⟩ := H j hjl
          obtain ⟨ax, dx, rfl⟩ := hx.shape
          have HX := Lib.hid hx.bl
          have hsz : B ≤ wr.heap.size := by have := KA.out.g.size; omega
          have hbound : Tj.length + (smL (tk.S j)).length ≤ 100000000 := by
            have h1 := catN_le (fun j => smL (tk.S j)) (show j + 1 ≤ tk.nS by omega)
            have h2 := catN_le G (show k + 1 ≤ n by omega)
            rw [← HDG.out] at h2
            simp only [catN, List.length_append] at h1 h2
            rw [HGK.out] at h2
            have h3 := HM.out
            have h4 := HN2.out
            have h5 := HNS.out
            rw [HTJ.out, List.length_append, List.length_append]
            omega
          have HBO := Lib.hid hbound
          clear hx H hwx hbound
          have hk3 : decide ((j : Int) < (tk.nS : Int)) = true := by simpa using hjl
          go_wp2_with (at_builtin; refine wpList_adv _ rfl (.tmp 62) (.tmp 64) rfl B u0 _ Tj (smL (tk.S j)) rfl (KO.out.below (below_box wr _)) rfl (HX.out.below (below_box wr _)) HBO.out (by simp; omega) ?_)
          intro r3 w3 h3 ha3
          have K3 := Lib.hid (show Own w3 B r3 ((L2 ++ catN G k) ++ catN (fun j => smL (tk.S j)) (j + 1)) from by
            have e : (L2 ++ catN G k) ++ catN (fun j => smL (tk.S j)) (j + 1) = Tj ++ smL (tk.S j) := by simp only [catN]; rw [HTJ.out, List.append_assoc, List.append_assoc, List.append_assoc]
            rw [e]; exact h3)
          have KA3 := Lib.hid (KA.out.trans ((Adv.of_below (below_box wr _)).trans ha3))
          clear h3 ha3
          go_wp2_with fail
          go_roundw
          case rel => exact ⟨j + 1, by omega, by go_num, K3.out, KA3.out⟩
          case measure => simp [intOf]; omega
        · obtain rfl : j = tk.nS := by omega
          have K3 := Lib.hid (show Own wr B u0 (L2 ++ catN G (k + 1)) from by
            have e : L2 ++ catN G (k + 1) = Tj := by simp only [catN]; rw [HTJ.out, HGK.out, List.append_assoc]
            rw [e]; exact KO.out)
          go_wp2_with fail
          go_roundw
          case rel => exact ⟨k + 1, by omega, by go_num, K3.out, KA.out⟩
          case measure => simp [intOf]; omega
    · obtain rfl : k = n := by omega
      obtain ⟨w3, hw3⟩ : ∃ x, x = wr := ⟨_, rfl⟩
      obtain ⟨L3, hL3⟩ : ∃ L, L = L2 ++ catN G k := ⟨_, rfl⟩
      have HL3' := Lib.hid (show L3 = L2 ++ D from by rw [hL3, HDG.out])
      have HN3 := Lib.hid (show L3.length = M.length + 4 + name.size + D.length from by rw [HL3'.out, List.length_append, HN2.out])
      have HL3 := Lib.hid (show L3 = M ++ (num4 0 ++ (strB name ++ D)) from by rw [HL3'.out, HL2.out]; simp)
      have HA3 := Lib.hid (HA2.out.trans HA.out)
      have hmm := HM.out
      have hns4 := HNS.out
      have H3 := Lib.hid (show Own wr B u0 L3 from by rw [hL3]; exact HO.out)
      rw [← hw3] at H3 HA3 ⊢
      clear hw3 hL3
      have hpos : 0 < L3.length := by have := HN3.out; omega
      obtain ⟨g, cap, eg, hcap, _⟩ := owns_open H3.out hpos
      have HEG := Lib.hid eg
      have hgl : g < w3.heap.size := (World.ownsRow.lt H3.out g (by rw [eg]; rfl)).2
      rw [eg] at H3 HA3 ⊢
      have hx3 : ((L3.length : Int) - (M.length : Int)) = (D.length : Int) + 4 + name.size := by have := HN3.out; omega
      have HX3 := Lib.hid hx3
      have hml : M.length ≤ L3.length := by have := HN3.out; omega
      have hl3 : L3.length ≤ 90000000 := by have := HN3.out; omega
      obtain ⟨n3, hn3⟩ : ∃ n, n = L3.length := ⟨_, rfl⟩
      rw [← hn3] at H3 HA3 HX3 hml hcap hl3 ⊢
      have HNN := Lib.hid hn3
      have hmn : M.length + 4 ≤ n3 := by rw [hn3]; have := HN3.out; omega
      obtain ⟨km, hkm⟩ : ∃ k, k = M.length := ⟨_, rfl⟩
      rw [← hkm] at HX3 hml hmn ⊢
      have HKM := Lib.hid hkm
      have hb3 : Below w3.heap.size w3 (w3.alloc (.cells #[.int .i64 ((n3 : Int) - (km : Int))] 2)) := below_box _ _
      have hsz3 := HA3.out.g.size
      clear eg hx3 hn3 hpos hkm
      go_wp2_with fail
      refine (patch_any g n3 cap km L3 ((n3 : Int) - (km : Int)) B w3.heap.size 1 _ (H3.out.below hb3) HNN.out hmn (by simp [go_sem]) (by omega) (by omega)).mono ?_
      rintro e w4 ⟨⟨rr, rfl⟩, h4, ha4⟩
      have HA4 := Lib.hid (HA3.out.trans (Adv.of_below hb3))
      have HAP := Lib.hid ha4
      have H4 := Lib.hid h4
      clear h4 ha4 hb3
      go_wp2_with fail
      go_ret
      have hp : patch L3 km ((n3 : Int) - (km : Int)) = M ++ boxP name D := by
        rw [HX3.out, HL3.out, HKM.out, patch_head]
        rfl
      have ho4 := H4.out
      rw [hp] at ho4
      have hfin := HA4.out.patch HAP.out hB HB0.out ho4
      rw [HBE.out] at hfin
      exact ⟨_, rfl, ho4, hfin⟩
end Go.Proofs.Ytkhjkemllgjfmaa

/- Rows of numbers of the call's own: one grows, the others stay; the tables of a track as lists. -/
namespace Go.Proofs.Ytkhjkemllgjfmaa
open Go.RowKit
set_option linter.unusedVariables false
set_option linter.unusedSimpArgs false

def OwnI (w : World) (B : Nat) (v : Value) (L : List Int) : Prop := w.ownsRow B 2 1 v L.length (iv L)
theorem iv_append (L M : List Int) : iv (L ++ M) = iv L ++ iv M := by simp [iv]
theorem iv_one (L : List Int) : ∀ u ∈ iv L, u.oneCell' = true := fun u hu => by obtain ⟨i, _, rfl⟩ := List.mem_map.1 hu; rfl
theorem OwnI.below {w w' : World} {B : Nat} {v : Value} {L : List Int} (h : OwnI w B v L) (hb : Below w.heap.size w w') : OwnI w' B v L := owns_below h hb
theorem OwnI.mono {w : World} {B B' : Nat} {v : Value} {L : List Int} (h : OwnI w B v L) (hB : B' ≤ B) : OwnI w B' v L := owns_mono h hB
theorem OwnI.il {w : World} {B : Nat} {v : Value} {L : List Int} (h : OwnI w B v L) : IL w v L := by
  by_cases h0 : L = []
  · subst h0
    obtain ⟨a, c, rfl⟩ := owns_shapeN h
    exact ⟨a, c, rfl, Nat.zero_le _, fun i u hi => by simp at hi⟩
  · obtain ⟨g, c, rfl, hc, hx⟩ := owns_open h (List.length_pos_iff.2 h0)
    refine ⟨_, c, rfl, hc, fun i u hi => ⟨g, 0, rfl, ?_⟩⟩
    rw [Nat.zero_add]
    exact hx i _ (by simp [iv, hi])
theorem OwnI.only {w w' : World} {B g2 n c : Nat} {L : List Int} {p : Option Nat} (h : OwnI w B (.slice (some ⟨g2, 0, none⟩) n c) L) (hp : p ≠ some g2) (hg : w.grownBy w' p) : OwnI w' B (.slice (some ⟨g2, 0, none⟩) n c) L := by
  obtain ⟨h1, h2⟩ := h
  refine ⟨h1, ?_⟩
  rcases h2 with ⟨e, _⟩ | ⟨g, cap, cur, e, hB, hb, h3⟩
  · simp at e
  · simp only [Value.slice.injEq, Option.some.injEq, Addr.mk.injEq, and_true] at e
    obtain ⟨rfl, rfl, rfl⟩ := e
    exact .inr ⟨g2, c, cur, rfl, hB, (hg.block g2 (Array.getElem?_eq_some_iff.1 hb).1 (fun e => hp e.symm)).trans hb, h3⟩
theorem OwnI.lt {w : World} {B g n c : Nat} {L : List Int} (h : OwnI w B (.slice (some ⟨g, 0, none⟩) n c) L) : B ≤ g ∧ g < w.heap.size := by
  rcases h.2 with ⟨e, _⟩ | ⟨g', cap, cur, e, hB, hb, _⟩
  · simp at e
  · simp only [Value.slice.injEq, Option.some.injEq, Addr.mk.injEq, and_true] at e
    obtain ⟨rfl, _, _⟩ := e
    exact ⟨hB, (Array.getElem?_eq_some_iff.1 hb).1⟩

theorem wpList_advI (w : World) {ops : Array Oper} {rest : List Oper} {o : Oper} {a : Act} {Q : Exit → Act → World → Prop} (hgd : o.guard = none) (s x : Operand)
    (ho : o.op = .call { callee := .builtin .append, args := #[s, x], argTypes := #[51, 51] }) (B g n c : Nat) (L : List Int) (hs : a.eval s = .slice (some ⟨g, 0, none⟩) n c) (hown : OwnI w B (.slice (some ⟨g, 0, none⟩) n c) L)
    (b cx : Nat) (m : Int) (hx : a.eval x = .slice (some ⟨b, 0, none⟩) 1 cx) (hM : w.cell? ⟨b, 0, none⟩ = some (.int .i64 m)) (hk : L.length + 1 ≤ 100000000) (hB : B ≤ w.heap.size)
    (h : ∀ g' c' w', OwnI w' B (.slice (some ⟨g', 0, none⟩) (n + 1) c') (L ++ [m]) → w.grownBy w' (some g) → (g' = g ∨ w.heap.size ≤ g') → wpList Try.prog ops Q rest (a.put o.dst (.slice (some ⟨g', 0, none⟩) (n + 1) c')) w') : wpList Try.prog ops Q (o :: rest) a w := by
  obtain ⟨i0, hi, hz0, hz1, hz2⟩ := info_parts info2
  have hn : n = L.length := by
    obtain ⟨a', c', e⟩ := owns_shapeN hown
    simp only [Value.slice.injEq] at e
    exact e.2.1
  subst hn
  refine wpList_append_lies _ hgd s x 51 ho B 2 i0 (.int .i64 0) 1 8 Try.underlying51 hi hz0 hz1 hz2 rfl (by decide) _ L.length (iv L) hs hown ⟨b, 0, none⟩ 1 cx [.int .i64 m] hx rfl (fun j u hj => ?_) (fun u hu => by simp at hu; subst hu; rfl) (by decide) (by unfold maxLen; omega) (by omega) hB w.heap.size rfl (fun g' cap w' hown' hg hor hlt => ?_)
  · have : j = 0 := by
      have := (List.getElem?_eq_some_iff.1 hj).1
      simp at this
      exact this
    subst this
    simp at hj
    subst hj
    rw [Addr.add_lit]
    exact hM
  · refine h g' cap w' (by unfold OwnI; rw [iv_append, List.length_append]; exact hown') hg ?_
    rcases hor with e | e
    · have : (some g : Option Nat) = some g' := e
      exact .inl (Option.some.inj this).symm
    · exact .inr (by omega)

/-- The tables as lists of numbers. -/
def syncL (S : Nat → Sm) : Nat → List Int
  | 0 => []
  | k + 1 => syncL S k ++ (if (S k).sync then [(k : Int) + 1] else [])
def sizeL (S : Nat → Sm) : Nat → List Int
  | 0 => []
  | k + 1 => sizeL S k ++ [((S k).n : Int)]
def placeL (S : Nat → Sm) (first : Int) : Nat → List Int
  | 0 => []
  | k + 1 => placeL S first k ++ [first + (sizeN S k : Nat)]
theorem syncL_length (S : Nat → Sm) (k : Nat) : (syncL S k).length ≤ k := by
  induction k with
  | zero => simp [syncL]
  | succ k ih => simp only [syncL, List.length_append]; split <;> simp <;> omega
theorem sizeL_length (S : Nat → Sm) (k : Nat) : (sizeL S k).length = k := by
  induction k with
  | zero => rfl
  | succ k ih => simp [sizeL, ih]
theorem placeL_length (S : Nat → Sm) (f : Int) (k : Nat) : (placeL S f k).length = k := by
  induction k with
  | zero => rfl
  | succ k ih => simp [placeL, ih]
end Go.Proofs.Ytkhjkemllgjfmaa
