/- The contract of cutroomlaw26.ComposeTitles: it answers true. -/
import Derived.Test.YtnnobdcbmagbaaaUG
import Derived.Test.YtnnobdcbmagbaaaLE
namespace Go.Proofs.Ytnnobdcbmagbaaa
open Go.RowKit
set_option linter.unusedVariables false

theorem OwnFr.onlyT {w w' : World} {B B' p k : Nat} {v : Value} {F : Fr} (h : OwnFr w B v F) (ht : TP w B' p k) (hok : F.ok = true) (hg : w.grownBy w' (some p)) : OwnFr w' B v F := by
  obtain ⟨f1, f2, f3, f4, f5⟩ := ok_bd hok
  obtain ⟨_, _, ao, n, c, t0, _⟩ := ht
  have ne : ∀ (g m : Nat) (X : Nat → Int), Row w B g m m X → 0 < m → g ≠ p := by
    intro g m X hr hm e
    have h1 := hr.cell 0 hm
    rw [e, t0] at h1
    simp at h1
  obtain ⟨g1, g2, g3, rfl, r1, r2, r3, b1, b2, b3, d⟩ := h
  exact ⟨g1, g2, g3, rfl, only_row hg r1 (ne _ _ _ r1 (by omega)), only_row hg r2 (ne _ _ _ r2 (by omega)), only_row hg r3 (ne _ _ _ r3 (by omega)), b1, b2, b3, d⟩

set_option maxRecDepth 100000 in
set_option maxHeartbeats 4000000 in
theorem law_titles (v raw : Value) (R : Fr) (s : ByteArray) (w : World) (hv : RI w v) (hr : FA w raw R) (hm : s.size ≤ 9223372036854775807) :
    Calls Try.prog 12 #[v, raw, .string s] w fun e w' => e = .returned (.bool true) ∧ Below w.heap.size w w' := by
  have HV := Lib.hid hv
  obtain ⟨ao, n, c, rfl, _⟩ := hv
  obtain ⟨prY, crY, prU, crU, prV, crV, rfl⟩ := hr.shape
  have FA_r := Lib.hid hr
  have FA_w := Lib.hid hr
  have HM := Lib.hid hm
  clear hr hm
  go_enter Try.func12, Try.ntmps12
  go_upto_region 1 with fail
  obtain ⟨w1, hw⟩ : ∃ x, x = w.alloc (.cells #[.int .i64 R.W, .int .i64 R.H, .slice prY R.nY crY, .slice prU R.nU crU, .slice prV R.nV crV] 26) := ⟨_, rfl⟩
  rw [← hw]
  have hE : Below w.heap.size w w1 := by rw [hw]; exact below_box _ _
  have BX_r := Lib.hid (show BX w1 w.heap.size _ _ _ _ _ by rw [hw]; exact BX.of_alloc _ _ _ _ _ _ _)
  replace FA_r := Lib.hid (FA_r.out.below hE)
  obtain ⟨blr, hbl⟩ : ∃ b, b = w.heap.size := ⟨_, rfl⟩
  rw [← hbl] at BX_r
  replace HV := Lib.hid (HV.out.below hE)
  have HB := Lib.hid hE
  clear hw hE
  rw [← hbl]
  have nr0 : w.heap.size ≤ blr := by omega
  clear hbl
  have nr1 := BX_r.out.lt
  go_wp2_with fail
  refine (two_any _ _ HV.out).mono ?_
  rintro e w2 ⟨v, u, F, G, p, k, rfl, o2, o3, f1, f2, hs, e1, e2, e3, ht, hk, hb⟩
  have hFA := o2.FA
  have hGA := o3.FA
  have hpp : pairOk F G = true := pairOk_of f1 f2 e2.symm (by rw [e1, e3])
  have HPP := Lib.hid hpp
  have HAA := Lib.hid (pairOk_of f1 f1 rfl rfl)
  have HBB := Lib.hid (pairOk_of f2 f2 rfl rfl)
  have HQQ := Lib.hid (pairOk_of f2 f1 e2 (by rw [e1, e3]))
  obtain ⟨paY, caY, paU, caU, paV, caV, rfl⟩ := hFA.shape
  obtain ⟨pbY, cbY, pbU, cbU, pbV, cbV, rfl⟩ := hGA.shapeAs (Dim.of_pair hpp)
  have HP := Lib.hid (And.intro f1 (And.intro f2 (And.intro hs (And.intro e1 (And.intro e2 e3)))))
  have HT := Lib.hid (And.intro ht hk)
  have HT0 := Lib.hid ht.2.1
  skip
  skip
  have FA_a := Lib.hid hFA
  have FA_b := Lib.hid hGA
  have HE0 := Lib.hid hb
  have HOO := Lib.hid (And.intro o2 o3)
  have HOK := Lib.hid (And.intro f1 f2)
  clear o2 o3 f1 f2 e1 e2 e3 hFA hGA hb ht hk hs hpp
  go_upto_region 2 with fail
  obtain ⟨w3, hw⟩ : ∃ x, x = (w2.alloc (.cells #[.int .i64 F.W, .int .i64 F.H, .slice paY F.nY caY, .slice paU F.nU caU, .slice paV F.nV caV] 26)).alloc (.cells #[.int .i64 F.W, .int .i64 F.H, .slice pbY F.nY cbY, .slice pbU F.nU cbU, .slice pbV F.nV cbV] 26) := ⟨_, rfl⟩
  rw [← hw]
  have hE : Below w2.heap.size w2 w3 := by rw [hw]; go_grown
  have BX_a := Lib.hid (show BX w3 w2.heap.size _ _ _ _ _ by rw [hw]; exact (BX.of_alloc _ _ _ _ _ _ _).below (below_box _ _))
  have BX_b := Lib.hid (show BX w3 (w2.heap.size + 1) _ _ _ _ _ by rw [hw]; exact BX.of_alloc' _ _ _ _ _ _ _ _ (by simp))
  obtain ⟨bla, hba⟩ : ∃ b, b = w2.heap.size := ⟨_, rfl⟩
  obtain ⟨blb, hbb⟩ : ∃ b, b = w2.heap.size + 1 := ⟨_, rfl⟩
  rw [← hbb] at BX_b ⊢
  rw [← hba] at BX_a ⊢
  replace FA_a := Lib.hid (FA_a.out.below hE)
  replace FA_b := Lib.hid (FA_b.out.below hE)
  replace HT := Lib.hid (And.intro (HT.out.1.below hE) HT.out.2)
  replace HOO := Lib.hid (And.intro (HOO.out.1.below hE) (HOO.out.2.below hE))
  have HE1 := Lib.hid (HE0.out.trans (hE.mono HE0.out.size))
  have np1 := HT.out.1.1
  have np2 : p < bla := by have := HT0.out; omega
  have nab : bla < blb := by omega
  clear hw hE hba hbb HE0 HT0
  replace FA_r := Lib.hid (FA_r.out.below HE1.out)
  replace BX_r := Lib.hid (BX_r.out.below HE1.out)
  replace HB := Lib.hid (HB.out.trans (HE1.out.mono HB.out.size))
  clear HE1
  go_wp2_with fail
  obtain ⟨w4, hw⟩ : ∃ x, x = w3.alloc (.cells #[.string { data := #[120] }, .string { data := #[97, 32, 108, 111, 110, 103, 101, 114, 32, 108, 105, 110, 101, 58, 32, 49, 50, 44, 53, 46] }] 9) := ⟨_, rfl⟩
  rw [← hw]
  have hE : Below w3.heap.size w3 w4 := by rw [hw]; exact below_box _ _
  have q0 : w4.cell? ⟨w3.heap.size, 0, none⟩ = some (.string { data := #[120] }) := by rw [hw]; simp [go_sem]
  have q1 : w4.cell? ⟨w3.heap.size, 1, none⟩ = some (.string { data := #[97, 32, 108, 111, 110, 103, 101, 114, 32, 108, 105, 110, 101, 58, 32, 49, 50, 44, 53, 46] }) := by rw [hw]; simp [go_sem]
  obtain ⟨bq, hbq⟩ : ∃ b, b = w3.heap.size := ⟨_, rfl⟩
  have nbq : blb < bq := by have := BX_b.out.lt; omega
  rw [← hbq] at q0 q1 ⊢
  have HQ := Lib.hid (And.intro q0 q1)
  replace HT := Lib.hid (And.intro (HT.out.1.below hE) HT.out.2)
  replace HOO := Lib.hid (And.intro (HOO.out.1.below hE) (HOO.out.2.below hE))
  have HE := Lib.hid hE
  clear hw hE hbq q0 q1
  replace FA_r := Lib.hid (FA_r.out.below HE.out)
  replace BX_r := Lib.hid (BX_r.out.below HE.out)
  replace FA_a := Lib.hid (FA_a.out.below HE.out)
  replace BX_a := Lib.hid (BX_a.out.below HE.out)
  replace FA_b := Lib.hid (FA_b.out.below HE.out)
  replace BX_b := Lib.hid (BX_b.out.below HE.out)
  replace HB := Lib.hid (HB.out.trans (HE.out.mono HB.out.size))
  clear HE
  refine (next_any _ p k 2 _ HT.out.1 (by have := HT.out.2; omega) (by omega) (by omega)).mono ?_
  rintro e w5 ⟨r, rfl, r0, r1, ht, hg⟩
  obtain ⟨rn, rfl⟩ := Int.eq_ofNat_of_zero_le r0
  have hqt : ∃ tx : ByteArray, w5.cell? ⟨bq, rn, none⟩ = some (.string tx) ∧ tx.size ≤ 9223372036854775807 := by
    rcases (show rn = 0 ∨ rn = 1 by omega) with rfl | rfl
    · exact ⟨_, only_cell hg HQ.out.1 (by omega), by decide⟩
    · exact ⟨_, only_cell hg HQ.out.2 (by omega), by decide⟩
  obtain ⟨tx, htx, hts⟩ := hqt
  have HTX := Lib.hid hts
  have hO1 := HOO.out.1.onlyT HT.out.1 HOK.out.1 hg
  have hO2 := HOO.out.2.onlyT HT.out.1 HOK.out.2 hg
  replace FA_a := Lib.hid hO1.FA
  replace FA_b := Lib.hid hO2.FA
  replace BX_a := Lib.hid (BX_a.out.only hg (by omega))
  replace BX_b := Lib.hid (BX_b.out.only hg (by omega))
  replace BX_r := Lib.hid (BX_r.out.only hg (by omega))
  replace HB := Lib.hid (HB.out.trans (only_below hg (by omega) HB.out.size))
  replace FA_r := Lib.hid (FA_w.out.below HB.out)
  clear hO1 hO2 hts ht hg HOO HT HQ FA_w HV
  go_upto_region 3 with fail

  obtain ⟨w6, hw⟩ : ∃ x, x = w5.alloc (.cells #[.string s, .string { data := #[82, 69, 69, 76, 32, 55] }, .string { data := #[63, 45, 33] }, .string tx] 9) := ⟨_, rfl⟩
  rw [← hw]
  have hE : Below w5.heap.size w5 w6 := by rw [hw]; exact below_box _ _
  have pk : ∀ k : Nat, k < 4 → ∃ P : ByteArray, w6.cell? ⟨w5.heap.size, k, none⟩ = some (.string P) ∧ P.size ≤ 9223372036854775807 := by
    intro k hk
    rcases (show k = 0 ∨ k = 1 ∨ k = 2 ∨ k = 3 by omega) with rfl | rfl | rfl | rfl
    · exact ⟨s, by rw [hw]; simp [go_sem], HM.out⟩
    · exact ⟨_, by rw [hw]; simp [go_sem]; rfl, by decide⟩
    · exact ⟨_, by rw [hw]; simp [go_sem]; rfl, by decide⟩
    · exact ⟨tx, by rw [hw]; simp [go_sem], HTX.out⟩
  obtain ⟨bs, hbs⟩ : ∃ b, b = w5.heap.size := ⟨_, rfl⟩
  rw [← hbs] at pk ⊢
  have PK := Lib.hid pk
  have HE1 := Lib.hid hE
  clear hw hE hbs pk htx
  replace FA_r := Lib.hid (FA_r.out.below HE1.out)
  replace BX_r := Lib.hid (BX_r.out.below HE1.out)
  replace FA_a := Lib.hid (FA_a.out.below HE1.out)
  replace BX_a := Lib.hid (BX_a.out.below HE1.out)
  replace FA_b := Lib.hid (FA_b.out.below HE1.out)
  replace BX_b := Lib.hid (BX_b.out.below HE1.out)
  replace HB := Lib.hid (HB.out.trans (HE1.out.mono HB.out.size))
  clear HE1
  go_wp2_with fail
  go_loopw [6, 34] (fun r i wr => r = .bool false ∧ ∃ k : Nat, k ≤ 4 ∧ i = .int .i64 (k : Int) ∧ Below w6.heap.size w6 wr) (fun _ i _ => 4 - (intOf i).toNat)
  case atStart => exact ⟨rfl, 0, by omega, rfl, Below.refl _ _⟩
  case round =>
    obtain ⟨rfl, k, hk, rfl, hb⟩ := hrel
    have HE := Lib.hid hb
    have HL := Lib.hid hb
    by_cases hlt : k < 4
    · obtain ⟨P, hP, hPs⟩ := PK.out k hlt
      have HPS := Lib.hid hPs
      have hPp := (hb.cell (block_lt_of_cell hP)).trans hP
      clear hb hP hPs
      replace FA_r := Lib.hid (FA_r.out.below HE.out)
      replace BX_r := Lib.hid (BX_r.out.below HE.out)
      replace FA_a := Lib.hid (FA_a.out.below HE.out)
      replace BX_a := Lib.hid (BX_a.out.below HE.out)
      replace FA_b := Lib.hid (FA_b.out.below HE.out)
      replace BX_b := Lib.hid (BX_b.out.below HE.out)
      replace HB := Lib.hid (HB.out.trans (HE.out.mono HB.out.size))
      clear HE
      go_upto_region 5 with fail
      clear hPp
      obtain ⟨a0, a1, a2, a3, a4⟩ := BX_a.out
      go_wp2_with fail
      refine (title_any _ F P _ FA_a.out HPS.out).mono ?_
      rintro e w7 ⟨r, rfl, hf, hb⟩
      obtain ⟨X, hX⟩ : ∃ X, X = titleR F P := ⟨_, rfl⟩
      rw [← hX] at hf
      have HX_x := Lib.hid hX
      obtain ⟨pxY, cxY, pxU, cxU, pxV, cxV, rfl⟩ := hf.shape
      have FA_x := Lib.hid hf
      have HE := Lib.hid hb
      clear hb hf hX
      clear a0 a1 a2 a3 a4
      go_upto_region 6 with fail
      obtain ⟨w8, hw⟩ : ∃ x, x = w7.alloc (.cells #[.int .i64 X.W, .int .i64 X.H, .slice pxY X.nY cxY, .slice pxU X.nU cxU, .slice pxV X.nV cxV] 26) := ⟨_, rfl⟩
      rw [← hw]
      have hE : Below w7.heap.size w7 w8 := by rw [hw]; exact below_box _ _
      have BX_x := Lib.hid (show BX w8 w7.heap.size _ _ _ _ _ by rw [hw]; exact BX.of_alloc _ _ _ _ _ _ _)
      obtain ⟨blx, hbx⟩ : ∃ b, b = w7.heap.size := ⟨_, rfl⟩
      rw [← hbx] at BX_x ⊢
      replace FA_x := Lib.hid (FA_x.out.below hE)
      have HE2 := Lib.hid (HE.out.trans (hE.mono HE.out.size))
      clear hw hE hbx HE
      replace FA_r := Lib.hid (FA_r.out.below HE2.out)
      replace BX_r := Lib.hid (BX_r.out.below HE2.out)
      replace FA_a := Lib.hid (FA_a.out.below HE2.out)
      replace BX_a := Lib.hid (BX_a.out.below HE2.out)
      replace FA_b := Lib.hid (FA_b.out.below HE2.out)
      replace BX_b := Lib.hid (BX_b.out.below HE2.out)
      replace HB := Lib.hid (HB.out.trans (HE2.out.mono HB.out.size))
      replace HL := Lib.hid (HL.out.trans (HE2.out.mono HL.out.size))
      clear HE2
      obtain ⟨a0, a1, a2, a3, a4⟩ := BX_a.out
      go_wp2_with fail
      refine (rtitle_any _ F P _ FA_a.out HPS.out).mono ?_
      rintro e w9 ⟨r, rfl, hf, hb⟩
      obtain ⟨Y, hX⟩ : ∃ X, X = titleR F P := ⟨_, rfl⟩
      rw [← hX] at hf
      have HX_y := Lib.hid hX
      obtain ⟨pyY, cyY, pyU, cyU, pyV, cyV, rfl⟩ := hf.shape
      have FA_y := Lib.hid hf
      have HE := Lib.hid hb
      clear hb hf hX
      clear a0 a1 a2 a3 a4
      go_upto_region 7 with fail
      obtain ⟨w10, hw⟩ : ∃ x, x = w9.alloc (.cells #[.int .i64 Y.W, .int .i64 Y.H, .slice pyY Y.nY cyY, .slice pyU Y.nU cyU, .slice pyV Y.nV cyV] 26) := ⟨_, rfl⟩
      rw [← hw]
      have hE : Below w9.heap.size w9 w10 := by rw [hw]; exact below_box _ _
      have BX_y := Lib.hid (show BX w10 w9.heap.size _ _ _ _ _ by rw [hw]; exact BX.of_alloc _ _ _ _ _ _ _)
      obtain ⟨bly, hby⟩ : ∃ b, b = w9.heap.size := ⟨_, rfl⟩
      rw [← hby] at BX_y ⊢
      replace FA_y := Lib.hid (FA_y.out.below hE)
      have HE2 := Lib.hid (HE.out.trans (hE.mono HE.out.size))
      clear hw hE hby HE
      replace FA_r := Lib.hid (FA_r.out.below HE2.out)
      replace BX_r := Lib.hid (BX_r.out.below HE2.out)
      replace FA_a := Lib.hid (FA_a.out.below HE2.out)
      replace BX_a := Lib.hid (BX_a.out.below HE2.out)
      replace FA_b := Lib.hid (FA_b.out.below HE2.out)
      replace BX_b := Lib.hid (BX_b.out.below HE2.out)
      replace FA_x := Lib.hid (FA_x.out.below HE2.out)
      replace BX_x := Lib.hid (BX_x.out.below HE2.out)
      replace HB := Lib.hid (HB.out.trans (HE2.out.mono HB.out.size))
      replace HL := Lib.hid (HL.out.trans (HE2.out.mono HL.out.size))
      clear HE2
      obtain ⟨r0, r1, r2, r3, r4⟩ := BX_r.out
      go_wp2_with fail
      refine (title_any _ R P _ FA_r.out HPS.out).mono ?_
      rintro e w11 ⟨r, rfl, hf, hb⟩
      obtain ⟨X2, hX⟩ : ∃ X, X = titleR R P := ⟨_, rfl⟩
      rw [← hX] at hf
      have HX_p := Lib.hid hX
      obtain ⟨ppY, cpY, ppU, cpU, ppV, cpV, rfl⟩ := hf.shape
      have FA_p := Lib.hid hf
      have HE := Lib.hid hb
      clear hb hf hX
      clear r0 r1 r2 r3 r4
      go_upto_region 8 with fail
      obtain ⟨w12, hw⟩ : ∃ x, x = w11.alloc (.cells #[.int .i64 X2.W, .int .i64 X2.H, .slice ppY X2.nY cpY, .slice ppU X2.nU cpU, .slice ppV X2.nV cpV] 26) := ⟨_, rfl⟩
      rw [← hw]
      have hE : Below w11.heap.size w11 w12 := by rw [hw]; exact below_box _ _
      have BX_p := Lib.hid (show BX w12 w11.heap.size _ _ _ _ _ by rw [hw]; exact BX.of_alloc _ _ _ _ _ _ _)
      obtain ⟨blp, hbp⟩ : ∃ b, b = w11.heap.size := ⟨_, rfl⟩
      rw [← hbp] at BX_p ⊢
      replace FA_p := Lib.hid (FA_p.out.below hE)
      have HE2 := Lib.hid (HE.out.trans (hE.mono HE.out.size))
      clear hw hE hbp HE
      replace FA_r := Lib.hid (FA_r.out.below HE2.out)
      replace BX_r := Lib.hid (BX_r.out.below HE2.out)
      replace FA_a := Lib.hid (FA_a.out.below HE2.out)
      replace BX_a := Lib.hid (BX_a.out.below HE2.out)
      replace FA_b := Lib.hid (FA_b.out.below HE2.out)
      replace BX_b := Lib.hid (BX_b.out.below HE2.out)
      replace FA_x := Lib.hid (FA_x.out.below HE2.out)
      replace BX_x := Lib.hid (BX_x.out.below HE2.out)
      replace FA_y := Lib.hid (FA_y.out.below HE2.out)
      replace BX_y := Lib.hid (BX_y.out.below HE2.out)
      replace HB := Lib.hid (HB.out.trans (HE2.out.mono HB.out.size))
      replace HL := Lib.hid (HL.out.trans (HE2.out.mono HL.out.size))
      clear HE2
      obtain ⟨r0, r1, r2, r3, r4⟩ := BX_r.out
      go_wp2_with fail
      refine (rtitle_any _ R P _ FA_r.out HPS.out).mono ?_
      rintro e w13 ⟨r, rfl, hf, hb⟩
      obtain ⟨Y2, hX⟩ : ∃ X, X = titleR R P := ⟨_, rfl⟩
      rw [← hX] at hf
      have HX_q := Lib.hid hX
      obtain ⟨pqY, cqY, pqU, cqU, pqV, cqV, rfl⟩ := hf.shape
      have FA_q := Lib.hid hf
      have HE := Lib.hid hb
      clear hb hf hX
      clear r0 r1 r2 r3 r4
      go_upto_region 9 with fail
      obtain ⟨w14, hw⟩ : ∃ x, x = w13.alloc (.cells #[.int .i64 Y2.W, .int .i64 Y2.H, .slice pqY Y2.nY cqY, .slice pqU Y2.nU cqU, .slice pqV Y2.nV cqV] 26) := ⟨_, rfl⟩
      rw [← hw]
      have hE : Below w13.heap.size w13 w14 := by rw [hw]; exact below_box _ _
      have BX_q := Lib.hid (show BX w14 w13.heap.size _ _ _ _ _ by rw [hw]; exact BX.of_alloc _ _ _ _ _ _ _)
      obtain ⟨blq, hbq⟩ : ∃ b, b = w13.heap.size := ⟨_, rfl⟩
      rw [← hbq] at BX_q ⊢
      replace FA_q := Lib.hid (FA_q.out.below hE)
      have HE2 := Lib.hid (HE.out.trans (hE.mono HE.out.size))
      clear hw hE hbq HE
      replace FA_r := Lib.hid (FA_r.out.below HE2.out)
      replace BX_r := Lib.hid (BX_r.out.below HE2.out)
      replace FA_a := Lib.hid (FA_a.out.below HE2.out)
      replace BX_a := Lib.hid (BX_a.out.below HE2.out)
      replace FA_b := Lib.hid (FA_b.out.below HE2.out)
      replace BX_b := Lib.hid (BX_b.out.below HE2.out)
      replace FA_x := Lib.hid (FA_x.out.below HE2.out)
      replace BX_x := Lib.hid (BX_x.out.below HE2.out)
      replace FA_y := Lib.hid (FA_y.out.below HE2.out)
      replace BX_y := Lib.hid (BX_y.out.below HE2.out)
      replace FA_p := Lib.hid (FA_p.out.below HE2.out)
      replace BX_p := Lib.hid (BX_p.out.below HE2.out)
      replace HB := Lib.hid (HB.out.trans (HE2.out.mono HB.out.size))
      replace HL := Lib.hid (HL.out.trans (HE2.out.mono HL.out.size))
      clear HE2
      obtain ⟨x0, x1, x2, x3, x4⟩ := BX_x.out
      obtain ⟨y0, y1, y2, y3, y4⟩ := BX_y.out
      go_wp2_with fail
      refine (same_yes _ _ X Y _ FA_x.out FA_y.out (by rw [HX_x.out, HX_y.out]; exact same_self _)).mono ?_
      rintro e w15 ⟨rfl, hb⟩
      have HE := Lib.hid hb
      clear hb
      clear x0 x1 x2 x3 x4 y0 y1 y2 y3 y4
      replace FA_r := Lib.hid (FA_r.out.below HE.out)
      replace BX_r := Lib.hid (BX_r.out.below HE.out)
      replace FA_a := Lib.hid (FA_a.out.below HE.out)
      replace BX_a := Lib.hid (BX_a.out.below HE.out)
      replace FA_b := Lib.hid (FA_b.out.below HE.out)
      replace BX_b := Lib.hid (BX_b.out.below HE.out)
      replace FA_x := Lib.hid (FA_x.out.below HE.out)
      replace BX_x := Lib.hid (BX_x.out.below HE.out)
      replace FA_y := Lib.hid (FA_y.out.below HE.out)
      replace BX_y := Lib.hid (BX_y.out.below HE.out)
      replace FA_p := Lib.hid (FA_p.out.below HE.out)
      replace BX_p := Lib.hid (BX_p.out.below HE.out)
      replace FA_q := Lib.hid (FA_q.out.below HE.out)
      replace BX_q := Lib.hid (BX_q.out.below HE.out)
      replace HB := Lib.hid (HB.out.trans (HE.out.mono HB.out.size))
      replace HL := Lib.hid (HL.out.trans (HE.out.mono HL.out.size))
      clear HE
      obtain ⟨p0, p1, p2, p3, p4⟩ := BX_p.out
      obtain ⟨q0, q1, q2, q3, q4⟩ := BX_q.out
      go_wp2_with fail
      refine (same_yes _ _ X2 Y2 _ FA_p.out FA_q.out (by rw [HX_p.out, HX_q.out]; exact same_self _)).mono ?_
      rintro e w16 ⟨rfl, hb⟩
      have HE := Lib.hid hb
      clear hb
      clear p0 p1 p2 p3 p4 q0 q1 q2 q3 q4
      replace FA_r := Lib.hid (FA_r.out.below HE.out)
      replace BX_r := Lib.hid (BX_r.out.below HE.out)
      replace FA_a := Lib.hid (FA_a.out.below HE.out)
      replace BX_a := Lib.hid (BX_a.out.below HE.out)
      replace FA_b := Lib.hid (FA_b.out.below HE.out)
      replace BX_b := Lib.hid (BX_b.out.below HE.out)
      replace FA_x := Lib.hid (FA_x.out.below HE.out)
      replace BX_x := Lib.hid (BX_x.out.below HE.out)
      replace FA_y := Lib.hid (FA_y.out.below HE.out)
      replace BX_y := Lib.hid (BX_y.out.below HE.out)
      replace FA_p := Lib.hid (FA_p.out.below HE.out)
      replace BX_p := Lib.hid (BX_p.out.below HE.out)
      replace FA_q := Lib.hid (FA_q.out.below HE.out)
      replace BX_q := Lib.hid (BX_q.out.below HE.out)
      replace HB := Lib.hid (HB.out.trans (HE.out.mono HB.out.size))
      replace HL := Lib.hid (HL.out.trans (HE.out.mono HL.out.size))
      clear HE
      go_wp2_with fail
      go_roundw
      case rel => exact ⟨rfl, k + 1, by omega, by go_num, HL.out⟩
      case measure => simp [intOf]; omega
    · obtain rfl : k = 4 := by omega
      clear hb
      go_wp2_with fail
      refine (awake_any _).mono ?_
      rintro e wz ⟨rfl, hb5⟩
      have HB5 := Lib.hid hb5
      clear hb5
      go_wp2_with fail
      go_ret
      exact ⟨rfl, HB.out.trans ((HL.out.trans (HB5.out.mono HL.out.size)).mono HB.out.size)⟩

end Go.Proofs.Ytnnobdcbmagbaaa
