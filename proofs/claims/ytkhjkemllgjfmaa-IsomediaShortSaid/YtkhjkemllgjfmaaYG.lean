/- Runs of equal numbers: the plain law. -/
import Derived.Test.YtkhjkemllgjfmaaYF
namespace Go.Proofs.Ytkhjkemllgjfmaa
open Go.RowKit
set_option linter.unusedVariables false
set_option linter.unusedSimpArgs false

/-- The runs of the first k numbers: how many, which number. -/
def bump : List (Int × Int) → List (Int × Int)
  | [] => []
  | [(a, b)] => [(a + 1, b)]
  | x :: y :: l => x :: bump (y :: l)
def rl (f : Nat → Int) : Nat → List (Int × Int)
  | 0 => []
  | k + 1 => if 0 < k ∧ f k = f (k - 1) then bump (rl f k) else rl f k ++ [(1, f k)]
theorem bump_append (L : List (Int × Int)) (a b : Int) : bump (L ++ [(a, b)]) = L ++ [(a + 1, b)] := by
  induction L with
  | nil => rfl
  | cons x L ih =>
    cases L with
    | nil => rfl
    | cons y L => simp only [List.cons_append, bump]; congr 1
theorem rl_run (f : Nat → Int) (i : Nat) (hi : i = 0 ∨ f i ≠ f (i - 1)) (d : Nat) (h : ∀ j, i ≤ j → j < i + d + 1 → f j = f i) : rl f (i + d + 1) = rl f i ++ [((d : Int) + 1, f i)] := by
  induction d with
  | zero =>
    have hne : ¬ (0 < i ∧ f i = f (i - 1)) := by
      rintro ⟨h1, h2⟩
      rcases hi with h | h
      · omega
      · exact h h2
    rw [show i + 0 + 1 = i + 1 by omega, rl, if_neg hne]
    simp
  | succ d ih =>
    rw [show i + (d + 1) + 1 = (i + d + 1) + 1 by omega, rl, if_pos ⟨by omega, by rw [h (i + d + 1) (by omega) (by omega), h (i + d + 1 - 1) (by omega) (by omega)]⟩, ih (fun j h1 h2 => h j h1 (by omega)), bump_append]
    congr 3
def runsL (f : Nat → Int) (n : Nat) : List Int := numsL [0, ((rl f n).length : Int)] ++ numsL ((rl f n).flatMap fun p => [p.1, p.2])

/-- Numbers in their cells. -/
def NF (w : World) (v : Value) (n : Nat) (f : Nat → Int) : Prop := ∃ ao c, v = .slice ao n c ∧ n ≤ c ∧ ∀ i, i < n → ∃ b o, ao = some ⟨b, o, none⟩ ∧ w.cell? ⟨b, o + i, none⟩ = some (.int .i64 (f i))
def pairs2 (L : List (Int × Int)) : List Int := L.flatMap fun p => [p.1, p.2]
theorem pairs2_length (L : List (Int × Int)) : (pairs2 L).length = 2 * L.length := by
  induction L with
  | nil => rfl
  | cons x L ih => simp [pairs2] at ih ⊢; omega
theorem rl_length (f : Nat → Int) (k : Nat) : (rl f k).length ≤ k := by
  induction k with
  | zero => simp [rl]
  | succ k ih =>
    rw [rl]; split
    · have hb : ∀ L : List (Int × Int), (bump L).length = L.length := by
        intro L
        induction L with
        | nil => rfl
        | cons x L ih => cases L with
          | nil => rfl
          | cons y L => simp only [bump, List.length_cons, ih]
      rw [hb]; omega
    · simp; omega
theorem numsL_append (L M : List Int) : numsL (L ++ M) = numsL L ++ numsL M := by simp [numsL]
theorem pairs2_append (L M : List (Int × Int)) : pairs2 (L ++ M) = pairs2 L ++ pairs2 M := by simp [pairs2]

set_option maxRecDepth 100000 in
set_option maxHeartbeats 4000000 in
theorem rruns_any (v : Value) (n : Nat) (f : Nat → Int) (w : World) (hv : NF w v n f) (hn : n ≤ 100000) :
    Calls Try.prog 67 #[v] w fun e w' => ∃ r, e = .returned r ∧ Own w' w.heap.size r (runsL f n) ∧ Below w.heap.size w w' := by
  obtain ⟨ao, c, rfl, hc, H⟩ := hv
  have HL := Lib.hid H
  clear H
  go_enter Try.func67, Try.ntmps67
  go_wp2_with fail
  go_loopw [5, 4, 3] (fun i m r wr => ∃ k : Nat, k ≤ n ∧ i = .int .i64 (k : Int) ∧ m = .int .i64 ((rl f k).length : Nat) ∧ Own wr w.heap.size r (numsL (pairs2 (rl f k))) ∧ Below w.heap.size w wr ∧ Hid (k < n → k = 0 ∨ f k ≠ f (k - 1))) (fun i _ _ _ => n - (intOf i).toNat)
  case atStart => exact ⟨0, Nat.zero_le _, rfl, rfl, own_nil _ _, Below.refl _ _, Lib.hid (fun _ => .inl rfl)⟩
  case round =>
    obtain ⟨k, hk, rfl, rfl, ho, hb, HBD⟩ := hrel
    obtain ⟨R, hR⟩ : ∃ R, R = numsL (pairs2 (rl f k)) := ⟨_, rfl⟩
    rw [← hR] at ho
    have HR := Lib.hid hR
    obtain ⟨m, hm⟩ : ∃ m, m = (rl f k).length := ⟨_, rfl⟩
    rw [← hm]
    have HM := Lib.hid hm
    have hmk : m ≤ k := by rw [hm]; exact rl_length f k
    have hRl : R.length ≤ 8 * k := by rw [hR, numsL_length, pairs2_length, ← hm]; omega
    have HRL := Lib.hid hRl
    obtain ⟨ra, rc, hr⟩ := ho.shape
    subst hr
    have HO := Lib.hid ho
    have HB := Lib.hid hb
    clear ho hb hR hm hRl
    by_cases hlt : k < n
    · obtain ⟨b, o, rfl, hx0⟩ := HL.out k hlt
      obtain ⟨fk, hfk⟩ : ∃ x, x = f k := ⟨_, rfl⟩
      rw [← hfk] at hx0
      have HFK := Lib.hid hfk
      replace hx0 := (HB.out.cell (block_lt_of_cell hx0)).trans hx0
      have HX0 := Lib.hid hx0
      clear hfk hx0
      have hk3 : decide ((k : Int) < (n : Int)) = true := by simpa using hlt
      go_wp2_with fail
      obtain ⟨wq, hwq⟩ : ∃ x, x = wr := ⟨_, rfl⟩
      rw [← hwq] at HO HB HX0 ⊢
      clear hwq
      go_loopw [6] (fun i wx => ∃ j : Nat, k ≤ j ∧ j ≤ n ∧ i = .int .i64 (j : Int) ∧ Below wq.heap.size wq wx ∧ Hid (∀ l, k ≤ l → l < j → f l = f k)) (fun i _ => n - (intOf i).toNat)
      case atStart => exact ⟨k, Nat.le_refl _, hk, rfl, Below.refl _ _, Lib.hid (fun l h1 h2 => absurd h1 (by omega))⟩
      case round =>
        obtain ⟨j, hkj, hjn, rfl, hbx, HA⟩ := hrel
        have HBX := Lib.hid hbx
        have p0 := (hbx.cell (block_lt_of_cell HX0.out)).trans HX0.out
        clear hbx
        by_cases hj : j < n
        · obtain ⟨b', o', e, hx⟩ := HL.out j hj
          cases e
          obtain ⟨fj, hfj⟩ : ∃ x, x = f j := ⟨_, rfl⟩
          rw [← hfj] at hx
          have HFJ := Lib.hid hfj
          replace hx := ((HB.out.trans (HBX.out.mono HB.out.size)).cell (block_lt_of_cell hx)).trans hx
          clear hfj
          have hj3 : decide ((j : Int) < (n : Int)) = true := by simpa using hj
          by_cases heq : fj = fk
          · subst heq
            have hst := Lib.hid (show ∀ l, k ≤ l → l < j + 1 → f l = f k from fun l h1 h2 => by
              by_cases e : l = j
              · subst e; rw [← HFJ.out, HFK.out]
              · exact HA.out l h1 (by omega))
            go_wp2_with fail
            refine Plan.wp_region_plan (fun w' => w'.cell? ⟨b, o + k, none⟩ = some (.int .i64 fj) ∧ w'.cell? ⟨b, o + j, none⟩ = some (.int .i64 fj)) (([0, 1, 2, 3, 4, 5, 6, 7, 8, 9, 10, 11, 12, 13, 14].map (·, true))) (by kernel_rfl) (by kernel_rfl) (by kernel_rfl) ⟨p0, hx⟩ ?_
            refine' Plan.plan_seg _ [0, 1, 2, 3, 4, 5, 6, 7, 8, 9, 10, 11, 12, 13, 14] ([]) (by kernel_rfl) (by kernel_rfl) rfl (by exact ⟨p0, hx⟩) (fun wx hS => ?_) ?_
            rotate_left
            · obtain ⟨y0, y1⟩ := hS
              go_light
              iterate 15 (apply Plan.seg_pick; rfl; intro K hK; go_wp)
              exact Plan.seg_nil
            refine Plan.plan_done ?_
            go_wp2_with fail
            go_roundw
            case rel => exact ⟨j + 1, by omega, by omega, by go_num, HBX.out.drew, hst⟩
            case measure => simp [intOf]; omega
          · have hne : (fj == fk) = false := by simpa using heq
            have hkj2 : k < j := by
              rcases Nat.lt_or_ge k j with h | h
              · exact h
              · exact absurd (show fj = fk by rw [HFJ.out, HFK.out, show j = k by omega]) heq
            have HNE := Lib.hid (show f j ≠ f k by rw [← HFJ.out, ← HFK.out]; exact heq)
            clear heq
            go_wp2_with fail
            refine Plan.wp_region_plan (fun w' => w'.cell? ⟨b, o + k, none⟩ = some (.int .i64 fk) ∧ w'.cell? ⟨b, o + j, none⟩ = some (.int .i64 fj)) (([0, 1, 2, 3, 4, 5, 6, 7, 8, 9, 10, 11, 12, 13, 14].map (·, true))) (by kernel_rfl) (by kernel_rfl) (by kernel_rfl) ⟨p0, hx⟩ ?_
            refine' Plan.plan_seg _ [0, 1, 2, 3, 4, 5, 6, 7, 8, 9, 10, 11, 12, 13, 14] ([]) (by kernel_rfl) (by kernel_rfl) rfl (by exact ⟨p0, hx⟩) (fun wx hS => ?_) ?_
            rotate_left
            · obtain ⟨y0, y1⟩ := hS
              go_light
              iterate 15 (apply Plan.seg_pick; rfl; intro K hK; go_wp)
              exact Plan.seg_nil
            refine Plan.plan_done ?_
            go_wp2_with fail
            have hjk : k < j := by omega
            have HRUN := Lib.hid (show rl f j = rl f k ++ [((j : Int) - (k : Int), f k)] from by
              have h := rl_run f k (HBD.out hlt) (j - k - 1) (fun l h1 h2 => HA.out l h1 (by omega))
              rw [show k + (j - k - 1) + 1 = j by omega, show ((j - k - 1 : Nat) : Int) + 1 = (j : Int) - (k : Int) by omega] at h
              exact h)
            have HI : Hid (IL (wr.drew.alloc (.cells #[.int .i64 ((j : Int) - (k : Int)), .int .i64 fk] 2)) (.slice (some ⟨wr.heap.size, 0, none⟩) 2 2) [(j : Int) - (k : Int), fk]) := Lib.hid (IL.build wr.drew [(j : Int) - (k : Int), fk] 2)
            refine (nums_any _ [(j : Int) - (k : Int), fk] _ HI.out (by simp)).mono ?_
            rintro e w5 ⟨r5, rfl, h5, hb5⟩
            have hb15 : Below wq.heap.size wq w5 := HBX.out.drew.trans (((below_box wr.drew _).trans (hb5.mono (by simp))).mono (by have := HBX.out.size; simp; omega))
            have hb05 := HB.out.trans (hb15.mono HB.out.size)
            obtain ⟨D, hD⟩ : ∃ D, D = numsL [(j : Int) - (k : Int), fk] := ⟨_, rfl⟩
            rw [← hD] at h5
            have HD := Lib.hid hD
            have HDL := Lib.hid (show R.length + D.length ≤ 100000000 from by rw [hD, numsL_length]; have := HRL.out; simp; omega)
            obtain ⟨qa, qc, hq⟩ := h5.shape
            subst hq
            have H5 := Lib.hid h5.bl
            have HB05 := Lib.hid hb05
            have HB15 := Lib.hid hb15
            clear h5 hb5 hb05 hb15 hD HI p0
            go_wp2_with (at_builtin; refine wpList_bytes w5 rfl (.tmp 29) (.tmp 38) rfl w.heap.size _ _ R D rfl (HO.out.below HB15.out) rfl H5.out HDL.out HB05.out.size ?_)
            intro v6 w6 h6 hb6
            obtain ⟨R6, hR6⟩ : ∃ x, x = R ++ D := ⟨_, rfl⟩
            rw [← hR6] at h6
            obtain ⟨wa, wc, hv6⟩ := h6.shape
            subst hv6
            have HR6 := Lib.hid (show R6 = numsL (pairs2 (rl f j)) from by
              rw [hR6, HR.out, HD.out, HRUN.out, pairs2_append, numsL_append, HFK.out]; simp [pairs2])
            have HM6 := Lib.hid (show (rl f j).length = m + 1 from by rw [HRUN.out, List.length_append, ← HM.out]; rfl)
            have H6 := Lib.hid h6
            have HB6 := Lib.hid (HB05.out.trans hb6)
            clear h6 hb6 hR6
            go_wp2_with fail
            go_roundw
            case rel => exact ⟨j, by omega, rfl, by rw [HM6.out]; go_num, by rw [← HR6.out]; exact H6.out, HB6.out, Lib.hid (fun hj' => .inr (by rw [HA.out (j - 1) (by omega) (by omega)]; exact HNE.out))⟩
            case measure => simp [intOf]; omega
        · obtain rfl : j = n := by omega
          go_wp2_with fail
          refine Plan.wp_region_plan (fun w' => w'.cell? ⟨b, o + k, none⟩ = some (.int .i64 fk)) (([0, 1, 2, 3, 4, 5, 6, 7, 8, 9, 10, 11, 12, 13, 14].map (·, true))) (by kernel_rfl) (by kernel_rfl) (by kernel_rfl) p0 ?_
          refine' Plan.plan_seg _ [0, 1, 2, 3, 4, 5, 6, 7, 8, 9, 10, 11, 12, 13, 14] ([]) (by kernel_rfl) (by kernel_rfl) rfl (by exact p0) (fun wx hS => ?_) ?_
          rotate_left
          · obtain y0 := hS
            go_light
            iterate 15 (apply Plan.seg_pick; rfl; intro K hK; go_wp)
            exact Plan.seg_nil
          refine Plan.plan_done ?_
          go_wp2_with fail
          have hjk : k < j := by omega
          have HRUN := Lib.hid (show rl f j = rl f k ++ [((j : Int) - (k : Int), f k)] from by
            have h := rl_run f k (HBD.out hlt) (j - k - 1) (fun l h1 h2 => HA.out l h1 (by omega))
            rw [show k + (j - k - 1) + 1 = j by omega, show ((j - k - 1 : Nat) : Int) + 1 = (j : Int) - (k : Int) by omega] at h
            exact h)
          have HI : Hid (IL (wr.drew.alloc (.cells #[.int .i64 ((j : Int) - (k : Int)), .int .i64 fk] 2)) (.slice (some ⟨wr.heap.size, 0, none⟩) 2 2) [(j : Int) - (k : Int), fk]) := Lib.hid (IL.build wr.drew [(j : Int) - (k : Int), fk] 2)
          refine (nums_any _ [(j : Int) - (k : Int), fk] _ HI.out (by simp)).mono ?_
          rintro e w5 ⟨r5, rfl, h5, hb5⟩
          have hb15 : Below wq.heap.size wq w5 := HBX.out.drew.trans (((below_box wr.drew _).trans (hb5.mono (by simp))).mono (by have := HBX.out.size; simp; omega))
          have hb05 := HB.out.trans (hb15.mono HB.out.size)
          obtain ⟨D, hD⟩ : ∃ D, D = numsL [(j : Int) - (k : Int), fk] := ⟨_, rfl⟩
          rw [← hD] at h5
          have HD := Lib.hid hD
          have HDL := Lib.hid (show R.length + D.length ≤ 100000000 from by rw [hD, numsL_length]; have := HRL.out; simp; omega)
          obtain ⟨qa, qc, hq⟩ := h5.shape
          subst hq
          have H5 := Lib.hid h5.bl
          have HB05 := Lib.hid hb05
          have HB15 := Lib.hid hb15
          clear h5 hb5 hb05 hb15 hD HI p0
          go_wp2_with (at_builtin; refine wpList_bytes w5 rfl (.tmp 29) (.tmp 38) rfl w.heap.size _ _ R D rfl (HO.out.below HB15.out) rfl H5.out HDL.out HB05.out.size ?_)
          intro v6 w6 h6 hb6
          obtain ⟨R6, hR6⟩ : ∃ x, x = R ++ D := ⟨_, rfl⟩
          rw [← hR6] at h6
          obtain ⟨wa, wc, hv6⟩ := h6.shape
          subst hv6
          have HR6 := Lib.hid (show R6 = numsL (pairs2 (rl f j)) from by
            rw [hR6, HR.out, HD.out, HRUN.out, pairs2_append, numsL_append, HFK.out]; simp [pairs2])
          have HM6 := Lib.hid (show (rl f j).length = m + 1 from by rw [HRUN.out, List.length_append, ← HM.out]; rfl)
          have H6 := Lib.hid h6
          have HB6 := Lib.hid (HB05.out.trans hb6)
          clear h6 hb6 hR6
          go_wp2_with fail
          go_roundw
          case rel => exact ⟨j, by omega, rfl, by rw [HM6.out]; go_num, by rw [← HR6.out]; exact H6.out, HB6.out, Lib.hid (fun hj' => .inr (by exact absurd hj' (by omega)))⟩
          case measure => simp [intOf]; omega
    · obtain rfl : k = n := by omega
      have HI : Hid (IL (wr.alloc (.cells #[.int .i64 0, .int .i64 (m : Nat)] 2)) (.slice (some ⟨wr.heap.size, 0, none⟩) 2 2) [0, (m : Int)]) := Lib.hid (IL.build wr [0, (m : Int)] 2)
      go_wp2_with fail
      refine (nums_any _ [0, (m : Int)] _ HI.out (by simp)).mono ?_
      rintro e w5 ⟨r5, rfl, h5, hb5⟩
      have hb15 : Below wr.heap.size wr w5 := (below_box wr _).trans (hb5.mono (by simp))
      obtain ⟨D, hD⟩ : ∃ D, D = numsL [0, (m : Int)] := ⟨_, rfl⟩
      rw [← hD] at h5
      have HD := Lib.hid hD
      have HDL := Lib.hid (show D.length = 8 from by rw [hD, numsL_length]; rfl)
      obtain ⟨qa, qc, hq⟩ := h5.shape
      subst hq
      have H5 := Lib.hid h5.bl
      have HB15 := Lib.hid hb15
      clear h5 hb5 hb15 hD HI
      have HJ : Hid (JL (w5.alloc (.cells #[.slice qa D.length qc, .slice ra R.length rc] 22)) (.slice (some ⟨w5.heap.size, 0, none⟩) 2 2) [D, R]) := Lib.hid (JL.build (w := w5) (vs := [.slice qa D.length qc, .slice ra R.length rc]) (Ls := [D, R]) 22 ⟨H5.out, (HO.out.below HB15.out).bl, trivial⟩)
      go_wp2_with fail
      refine (join_any _ _ _ HJ.out (by simp) (by simp; have := HDL.out; have := HRL.out; omega)).mono ?_
      rintro e w7 ⟨r7, rfl, h7, hb7⟩
      have hb57 : Below w5.heap.size w5 w7 := (below_box w5 _).trans (hb7.mono (by simp))
      have hs := (HB.out.trans (HB15.out.mono HB.out.size)).size
      replace h7 := h7.mono (show w.heap.size ≤ (w5.alloc (.cells #[.slice qa D.length qc, .slice ra R.length rc] 22)).heap.size by simp; omega)
      rw [show [D, R].flatten = runsL f k from by simp only [runsL, List.flatten_cons, List.flatten_nil, List.append_nil]; rw [HD.out, HR.out, HM.out]; rfl] at h7
      obtain ⟨X, hX⟩ : ∃ X, X = runsL f k := ⟨_, rfl⟩
      rw [← hX] at h7
      have HX := Lib.hid hX
      obtain ⟨xa, xc, hxv⟩ := h7.shape
      subst hxv
      have H7 := Lib.hid h7
      have HB7 := Lib.hid (HB.out.trans ((HB15.out.trans (hb57.mono HB15.out.size)).mono HB.out.size))
      clear h7 hb7 hb57 hs hX HJ
      go_wp2_with fail
      go_ret
      rw [← HX.out]
      exact ⟨_, rfl, H7.out, HB7.out⟩
end Go.Proofs.Ytkhjkemllgjfmaa
