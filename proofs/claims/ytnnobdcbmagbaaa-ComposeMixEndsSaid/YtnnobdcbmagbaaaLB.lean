/- The contract of cutroomlaw26.ComposeMixEnds: it answers true. -/
import Derived.Test.YtnnobdcbmagbaaaLA
import Derived.Deep.Cut
import Derived.Deep.Light
namespace Go.Proofs.Ytnnobdcbmagbaaa
open Go.RowKit

set_option maxRecDepth 100000 in
set_option maxHeartbeats 4000000 in
theorem law_mixends (v : Value) (num many : Int) (w : World) (hv : RI w v) (n0 : 0 ≤ num) (n1 : num < 65536) (m0 : 0 ≤ many) (m1 : many < 65536) :
    Calls Try.prog 5 #[v, .int .u16 num, .int .u16 many] w fun e w' => e = .returned (.bool true) ∧ Below w.heap.size w w' := by
  have HV := Lib.hid hv
  obtain ⟨ao, n, c, rfl, _⟩ := hv
  have HN : RowKit.Hid (0 ≤ num % (many + 1 + 1) ∧ num % (many + 1 + 1) ≤ many + 1) := ⟨Int.emod_nonneg _ (by omega), by have := Int.emod_lt_of_pos num (show 0 < many + 1 + 1 by omega); omega⟩
  go_enter Try.func5, Try.ntmps5
  go_wp2_with fail
  refine (two_any _ _ HV.out).mono ?_
  rintro e w1 ⟨v, u, F, G, p, k, rfl, o2, o3, f1, f2, hs, e1, e2, e3, ht, hk, hb⟩
  have hFA := o2.FA
  have hGA := o3.FA
  have hpp : pairOk F G = true := pairOk_of f1 f2 e2.symm (by rw [e1, e3])
  have HPP := Lib.hid hpp
  have HAA := Lib.hid (pairOk_of f1 f1 rfl rfl)
  have HBB := Lib.hid (pairOk_of f2 f2 rfl rfl)
  have HQQ := Lib.hid (pairOk_of f2 f1 e2 (by rw [e1, e3]))
  obtain ⟨paY, caY, paU, caU, paV, caV, rfl⟩ := hFA.shape
  obtain ⟨pbY, cbY, pbU, cbU, pbV, cbV, rfl⟩ := hGA.shapeAs (Dim.of_pair hpp)
  have HP := Lib.hid (And.intro f1 (And.intro f2 (And.intro hs (And.intro e1 (And.intro e2 e3)))))
  have HT := Lib.hid (And.intro ht hk)
  have FA_a := Lib.hid hFA
  have FA_b := Lib.hid hGA
  have HB := Lib.hid hb
  clear o2 o3 f1 f2 e1 e2 e3 hFA hGA hb ht hk hs hpp
  go_upto_region 4 with fail
  obtain ⟨w2, hw⟩ : ∃ x, x = (w1.alloc (.cells #[.int .i64 F.W, .int .i64 F.H, .slice paY F.nY caY, .slice paU F.nU caU, .slice paV F.nV caV] 26)).alloc (.cells #[.int .i64 F.W, .int .i64 F.H, .slice pbY F.nY cbY, .slice pbU F.nU cbU, .slice pbV F.nV cbV] 26) := ⟨_, rfl⟩
  rw [← hw]
  have hE : Below w1.heap.size w1 w2 := by rw [hw]; go_grown
  have BX_a := Lib.hid (show BX w2 w1.heap.size _ _ _ _ _ by rw [hw]; exact (BX.of_alloc _ _ _ _ _ _ _).below (below_box _ _))
  have BX_b := Lib.hid (show BX w2 (w1.heap.size + 1) _ _ _ _ _ by rw [hw]; exact BX.of_alloc' _ _ _ _ _ _ _ _ (by simp))
  obtain ⟨bla, hba⟩ : ∃ b, b = w1.heap.size := ⟨_, rfl⟩
  obtain ⟨blb, hbb⟩ : ∃ b, b = w1.heap.size + 1 := ⟨_, rfl⟩
  rw [← hbb] at BX_b ⊢
  rw [← hba] at BX_a ⊢
  replace FA_a := Lib.hid (FA_a.out.below hE)
  replace FA_b := Lib.hid (FA_b.out.below hE)
  replace HB := Lib.hid (HB.out.trans (hE.mono HB.out.size))
  clear hw hE hba hbb
  obtain ⟨den, hden⟩ : ∃ den, den = many + 1 := ⟨_, rfl⟩
  rw [← hden] at HN ⊢
  obtain ⟨nn, hnn⟩ : ∃ nn, nn = num % (den + 1) := ⟨_, rfl⟩
  rw [← hnn] at HN ⊢
  have HD : RowKit.Hid (1 ≤ den ∧ den ≤ 65536) := ⟨by omega, by omega⟩
  clear hden hnn
  obtain ⟨a0, a1, a2, a3, a4⟩ := BX_a.out
  obtain ⟨b0, b1, b2, b3, b4⟩ := BX_b.out
  go_wp2_with fail
  refine (mix_yes _ _ F G 0 den _ FA_a.out FA_b.out HPP.out (okShare_of HD.out.1 (by have := HD.out.2; omega) (by omega) (by have := HD.out.1; omega))).mono ?_
  rintro e w3 ⟨r, rfl, hf, hb⟩
  obtain ⟨X, hX⟩ : ∃ X, X = mixFr 0 den F G := ⟨_, rfl⟩
  rw [← hX] at hf
  have HX_x := Lib.hid hX
  obtain ⟨pxY, cxY, pxU, cxU, pxV, cxV, rfl⟩ := hf.shapeAs (show Dim X F by rw [hX]; exact Dim.refl _)
  have FA_x := Lib.hid hf
  have HE := Lib.hid hb
  clear hb hf hX
  clear a0 a1 a2 a3 a4 b0 b1 b2 b3 b4
  go_upto_region 5 with fail
  obtain ⟨w4, hw⟩ : ∃ x, x = w3.alloc (.cells #[.int .i64 F.W, .int .i64 F.H, .slice pxY F.nY cxY, .slice pxU F.nU cxU, .slice pxV F.nV cxV] 26) := ⟨_, rfl⟩
  rw [← hw]
  have hE : Below w3.heap.size w3 w4 := by rw [hw]; exact below_box _ _
  have BX_x := Lib.hid (show BX w4 w3.heap.size _ _ _ _ _ by rw [hw]; exact BX.of_alloc _ _ _ _ _ _ _)
  obtain ⟨blx, hbx⟩ : ∃ b, b = w3.heap.size := ⟨_, rfl⟩
  rw [← hbx] at BX_x ⊢
  replace FA_x := Lib.hid (FA_x.out.below hE)
  have HE2 := Lib.hid (HE.out.trans (hE.mono HE.out.size))
  clear hw hE hbx HE
  replace FA_a := Lib.hid (FA_a.out.below HE2.out)
  replace BX_a := Lib.hid (BX_a.out.below HE2.out)
  replace FA_b := Lib.hid (FA_b.out.below HE2.out)
  replace BX_b := Lib.hid (BX_b.out.below HE2.out)
  replace HB := Lib.hid (HB.out.trans (HE2.out.mono HB.out.size))
  clear HE2
  obtain ⟨a0, a1, a2, a3, a4⟩ := BX_a.out
  obtain ⟨b0, b1, b2, b3, b4⟩ := BX_b.out
  go_wp2_with fail
  refine (mix_yes _ _ F G den den _ FA_a.out FA_b.out HPP.out (okShare_of HD.out.1 (by have := HD.out.2; omega) (by have := HD.out.1; omega) (by omega))).mono ?_
  rintro e w5 ⟨r, rfl, hf, hb⟩
  obtain ⟨Y, hX⟩ : ∃ X, X = mixFr den den F G := ⟨_, rfl⟩
  rw [← hX] at hf
  have HX_y := Lib.hid hX
  obtain ⟨pyY, cyY, pyU, cyU, pyV, cyV, rfl⟩ := hf.shapeAs (show Dim Y F by rw [hX]; exact Dim.refl _)
  have FA_y := Lib.hid hf
  have HE := Lib.hid hb
  clear hb hf hX
  clear a0 a1 a2 a3 a4 b0 b1 b2 b3 b4
  go_upto_region 6 with fail
  obtain ⟨w6, hw⟩ : ∃ x, x = w5.alloc (.cells #[.int .i64 F.W, .int .i64 F.H, .slice pyY F.nY cyY, .slice pyU F.nU cyU, .slice pyV F.nV cyV] 26) := ⟨_, rfl⟩
  rw [← hw]
  have hE : Below w5.heap.size w5 w6 := by rw [hw]; exact below_box _ _
  have BX_y := Lib.hid (show BX w6 w5.heap.size _ _ _ _ _ by rw [hw]; exact BX.of_alloc _ _ _ _ _ _ _)
  obtain ⟨bly, hby⟩ : ∃ b, b = w5.heap.size := ⟨_, rfl⟩
  rw [← hby] at BX_y ⊢
  replace FA_y := Lib.hid (FA_y.out.below hE)
  have HE2 := Lib.hid (HE.out.trans (hE.mono HE.out.size))
  clear hw hE hby HE
  replace FA_a := Lib.hid (FA_a.out.below HE2.out)
  replace BX_a := Lib.hid (BX_a.out.below HE2.out)
  replace FA_b := Lib.hid (FA_b.out.below HE2.out)
  replace BX_b := Lib.hid (BX_b.out.below HE2.out)
  replace FA_x := Lib.hid (FA_x.out.below HE2.out)
  replace BX_x := Lib.hid (BX_x.out.below HE2.out)
  replace HB := Lib.hid (HB.out.trans (HE2.out.mono HB.out.size))
  clear HE2
  obtain ⟨a0, a1, a2, a3, a4⟩ := BX_a.out
  go_wp2_with fail
  refine (mix_yes _ _ F F nn den _ FA_a.out FA_a.out HAA.out (okShare_of HD.out.1 (by have := HD.out.2; omega) HN.out.1 HN.out.2)).mono ?_
  rintro e w7 ⟨r, rfl, hf, hb⟩
  obtain ⟨Z, hX⟩ : ∃ X, X = mixFr nn den F F := ⟨_, rfl⟩
  rw [← hX] at hf
  have HX_z := Lib.hid hX
  obtain ⟨pzY, czY, pzU, czU, pzV, czV, rfl⟩ := hf.shapeAs (show Dim Z F by rw [hX]; exact Dim.refl _)
  have FA_z := Lib.hid hf
  have HE := Lib.hid hb
  clear hb hf hX
  clear a0 a1 a2 a3 a4
  go_upto_region 7 with fail
  obtain ⟨w8, hw⟩ : ∃ x, x = w7.alloc (.cells #[.int .i64 F.W, .int .i64 F.H, .slice pzY F.nY czY, .slice pzU F.nU czU, .slice pzV F.nV czV] 26) := ⟨_, rfl⟩
  rw [← hw]
  have hE : Below w7.heap.size w7 w8 := by rw [hw]; exact below_box _ _
  have BX_z := Lib.hid (show BX w8 w7.heap.size _ _ _ _ _ by rw [hw]; exact BX.of_alloc _ _ _ _ _ _ _)
  obtain ⟨blz, hbz⟩ : ∃ b, b = w7.heap.size := ⟨_, rfl⟩
  rw [← hbz] at BX_z ⊢
  replace FA_z := Lib.hid (FA_z.out.below hE)
  have HE2 := Lib.hid (HE.out.trans (hE.mono HE.out.size))
  clear hw hE hbz HE
  replace FA_a := Lib.hid (FA_a.out.below HE2.out)
  replace BX_a := Lib.hid (BX_a.out.below HE2.out)
  replace FA_b := Lib.hid (FA_b.out.below HE2.out)
  replace BX_b := Lib.hid (BX_b.out.below HE2.out)
  replace FA_x := Lib.hid (FA_x.out.below HE2.out)
  replace BX_x := Lib.hid (BX_x.out.below HE2.out)
  replace FA_y := Lib.hid (FA_y.out.below HE2.out)
  replace BX_y := Lib.hid (BX_y.out.below HE2.out)
  replace HB := Lib.hid (HB.out.trans (HE2.out.mono HB.out.size))
  clear HE2
  obtain ⟨a0, a1, a2, a3, a4⟩ := BX_a.out
  obtain ⟨b0, b1, b2, b3, b4⟩ := BX_b.out
  go_wp2_with fail
  refine (mix_yes _ _ F G nn den _ FA_a.out FA_b.out HPP.out (okShare_of HD.out.1 (by have := HD.out.2; omega) HN.out.1 HN.out.2)).mono ?_
  rintro e w9 ⟨r, rfl, hf, hb⟩
  obtain ⟨M, hX⟩ : ∃ X, X = mixFr nn den F G := ⟨_, rfl⟩
  rw [← hX] at hf
  have HX_m := Lib.hid hX
  obtain ⟨pmY, cmY, pmU, cmU, pmV, cmV, rfl⟩ := hf.shapeAs (show Dim M F by rw [hX]; exact Dim.refl _)
  have FA_m := Lib.hid hf
  have HE := Lib.hid hb
  clear hb hf hX
  clear a0 a1 a2 a3 a4 b0 b1 b2 b3 b4
  go_upto_region 8 with fail
  obtain ⟨w10, hw⟩ : ∃ x, x = w9.alloc (.cells #[.int .i64 F.W, .int .i64 F.H, .slice pmY F.nY cmY, .slice pmU F.nU cmU, .slice pmV F.nV cmV] 26) := ⟨_, rfl⟩
  rw [← hw]
  have hE : Below w9.heap.size w9 w10 := by rw [hw]; exact below_box _ _
  have BX_m := Lib.hid (show BX w10 w9.heap.size _ _ _ _ _ by rw [hw]; exact BX.of_alloc _ _ _ _ _ _ _)
  obtain ⟨blm, hbm⟩ : ∃ b, b = w9.heap.size := ⟨_, rfl⟩
  rw [← hbm] at BX_m ⊢
  replace FA_m := Lib.hid (FA_m.out.below hE)
  have HE2 := Lib.hid (HE.out.trans (hE.mono HE.out.size))
  clear hw hE hbm HE
  replace FA_a := Lib.hid (FA_a.out.below HE2.out)
  replace BX_a := Lib.hid (BX_a.out.below HE2.out)
  replace FA_b := Lib.hid (FA_b.out.below HE2.out)
  replace BX_b := Lib.hid (BX_b.out.below HE2.out)
  replace FA_x := Lib.hid (FA_x.out.below HE2.out)
  replace BX_x := Lib.hid (BX_x.out.below HE2.out)
  replace FA_y := Lib.hid (FA_y.out.below HE2.out)
  replace BX_y := Lib.hid (BX_y.out.below HE2.out)
  replace FA_z := Lib.hid (FA_z.out.below HE2.out)
  replace BX_z := Lib.hid (BX_z.out.below HE2.out)
  replace HB := Lib.hid (HB.out.trans (HE2.out.mono HB.out.size))
  clear HE2
  obtain ⟨x0, x1, x2, x3, x4⟩ := BX_x.out
  obtain ⟨a0, a1, a2, a3, a4⟩ := BX_a.out
  go_wp2_with fail
  refine (same_yes _ _ X F _ FA_x.out FA_a.out (by rw [HX_x.out]; exact mix_zero HD.out.1 FA_a.out.bdY FA_a.out.bdU FA_a.out.bdV)).mono ?_
  rintro e w11 ⟨rfl, hb⟩
  have HE := Lib.hid hb
  clear hb
  clear x0 x1 x2 x3 x4 a0 a1 a2 a3 a4
  replace FA_a := Lib.hid (FA_a.out.below HE.out)
  replace BX_a := Lib.hid (BX_a.out.below HE.out)
  replace FA_b := Lib.hid (FA_b.out.below HE.out)
  replace BX_b := Lib.hid (BX_b.out.below HE.out)
  replace FA_x := Lib.hid (FA_x.out.below HE.out)
  replace BX_x := Lib.hid (BX_x.out.below HE.out)
  replace FA_y := Lib.hid (FA_y.out.below HE.out)
  replace BX_y := Lib.hid (BX_y.out.below HE.out)
  replace FA_z := Lib.hid (FA_z.out.below HE.out)
  replace BX_z := Lib.hid (BX_z.out.below HE.out)
  replace FA_m := Lib.hid (FA_m.out.below HE.out)
  replace BX_m := Lib.hid (BX_m.out.below HE.out)
  replace HB := Lib.hid (HB.out.trans (HE.out.mono HB.out.size))
  clear HE
  obtain ⟨y0, y1, y2, y3, y4⟩ := BX_y.out
  obtain ⟨b0, b1, b2, b3, b4⟩ := BX_b.out
  go_wp2_with fail
  refine (same_yes _ _ Y G _ FA_y.out FA_b.out (by rw [HX_y.out]; exact mix_one HPP.out HD.out.1 FA_b.out.bdY FA_b.out.bdU FA_b.out.bdV)).mono ?_
  rintro e w12 ⟨rfl, hb⟩
  have HE := Lib.hid hb
  clear hb
  clear y0 y1 y2 y3 y4 b0 b1 b2 b3 b4
  replace FA_a := Lib.hid (FA_a.out.below HE.out)
  replace BX_a := Lib.hid (BX_a.out.below HE.out)
  replace FA_b := Lib.hid (FA_b.out.below HE.out)
  replace BX_b := Lib.hid (BX_b.out.below HE.out)
  replace FA_x := Lib.hid (FA_x.out.below HE.out)
  replace BX_x := Lib.hid (BX_x.out.below HE.out)
  replace FA_y := Lib.hid (FA_y.out.below HE.out)
  replace BX_y := Lib.hid (BX_y.out.below HE.out)
  replace FA_z := Lib.hid (FA_z.out.below HE.out)
  replace BX_z := Lib.hid (BX_z.out.below HE.out)
  replace FA_m := Lib.hid (FA_m.out.below HE.out)
  replace BX_m := Lib.hid (BX_m.out.below HE.out)
  replace HB := Lib.hid (HB.out.trans (HE.out.mono HB.out.size))
  clear HE
  obtain ⟨z0, z1, z2, z3, z4⟩ := BX_z.out
  obtain ⟨a0, a1, a2, a3, a4⟩ := BX_a.out
  go_wp2_with fail
  refine (same_yes _ _ Z F _ FA_z.out FA_a.out (by rw [HX_z.out]; exact mix_self HD.out.1 FA_a.out.bdY FA_a.out.bdU FA_a.out.bdV)).mono ?_
  rintro e w13 ⟨rfl, hb⟩
  have HE := Lib.hid hb
  clear hb
  clear z0 z1 z2 z3 z4 a0 a1 a2 a3 a4
  replace FA_a := Lib.hid (FA_a.out.below HE.out)
  replace BX_a := Lib.hid (BX_a.out.below HE.out)
  replace FA_b := Lib.hid (FA_b.out.below HE.out)
  replace BX_b := Lib.hid (BX_b.out.below HE.out)
  replace FA_x := Lib.hid (FA_x.out.below HE.out)
  replace BX_x := Lib.hid (BX_x.out.below HE.out)
  replace FA_y := Lib.hid (FA_y.out.below HE.out)
  replace BX_y := Lib.hid (BX_y.out.below HE.out)
  replace FA_z := Lib.hid (FA_z.out.below HE.out)
  replace BX_z := Lib.hid (BX_z.out.below HE.out)
  replace FA_m := Lib.hid (FA_m.out.below HE.out)
  replace BX_m := Lib.hid (BX_m.out.below HE.out)
  replace HB := Lib.hid (HB.out.trans (HE.out.mono HB.out.size))
  clear HE
  obtain ⟨m0, m1, m2, m3, m4⟩ := BX_m.out
  obtain ⟨a0, a1, a2, a3, a4⟩ := BX_a.out
  go_wp2_with fail
  clear m0 m1 m2 m3 m4 a0 a1 a2 a3 a4
  have fb : 256 ≤ F.nY ∧ F.nY ≤ 4096 := ⟨(ok_bd HP.out.1).1, (ok_bd HP.out.1).2.1⟩
  have fg := (Dim.of_pair HPP.out).2.2.1
  have fm : M.nY = F.nY := by rw [HX_m.out]; rfl
  have lb : (∀ i, i < F.nY → min (F.Y i) (G.Y i) ≤ M.Y i ∧ M.Y i ≤ max (F.Y i) (G.Y i)) := by
    intro i hi
    have h1 := FA_a.out.bdY i hi
    have h2 := FA_b.out.bdY i (by omega)
    have h := (blend_between (x := F.Y i) (y := G.Y i) (num := nn) (lo := min (F.Y i) (G.Y i)) (hi := max (F.Y i) (G.Y i)) HD.out.1 HN.out.1 HN.out.2 (by omega) (by omega) (by omega) (by omega) (by omega) (by omega)).2
    rw [HX_m.out]
    exact h
  have HL := Lib.hid lb
  obtain ⟨q1, o1, rfl, hm⟩ := FA_m.out.plane.1 (by omega)
  obtain ⟨q2, o2, rfl, ha⟩ := FA_a.out.plane.1 (by omega)
  obtain ⟨q3, o3, rfl, hb⟩ := FA_b.out.plane.1 (by omega)
  rw [fm] at hm
  rw [fg] at hb
  have HC := Lib.hid (And.intro hm (And.intro ha hb))
  clear hm ha hb lb fm fg
  go_loopw [6, 110] (fun r i wr => r = .bool false ∧ ∃ j : Nat, j ≤ F.nY ∧ i = .int .i64 (j : Int) ∧ Below w13.heap.size w13 wr) (fun _ i _ => F.nY - (intOf i).toNat)
  case atStart => exact ⟨rfl, 0, by omega, rfl, Below.refl _ _⟩
  case round =>
    obtain ⟨rfl, j, hj, rfl, hb⟩ := hrel
    by_cases hlt : j < F.nY
    · have s1 := (hb.cell (p := ⟨blm, 2, none⟩) BX_m.out.lt).trans BX_m.out.k2
      have s2 := (hb.cell (p := ⟨bla, 2, none⟩) BX_a.out.lt).trans BX_a.out.k2
      have s3 := (hb.cell (p := ⟨blb, 2, none⟩) BX_b.out.lt).trans BX_b.out.k2
      have s4 := (hb.cell (p := ⟨q1, o1 + j, none⟩) (block_lt_of_cell (HC.out.1 j (by omega)))).trans (HC.out.1 j (by omega))
      have s5 := (hb.cell (p := ⟨q2, o2 + j, none⟩) (block_lt_of_cell (HC.out.2.1 j (by omega)))).trans (HC.out.2.1 j (by omega))
      have s6 := (hb.cell (p := ⟨q3, o3 + j, none⟩) (block_lt_of_cell (HC.out.2.2 j (by omega)))).trans (HC.out.2.2 j (by omega))
      obtain ⟨l1, l2⟩ := HL.out j hlt
      have HBW := Lib.hid hb
      clear hb
      rcases Int.lt_trichotomy (F.Y j) (G.Y j) with hc | hc | hc
      · go_wp2_with fail
        refine Plan.wp_region_plan (fun w' => w'.cell? ⟨blm, 2, none⟩ = some (.slice (some ⟨q1, o1, none⟩) F.nY cmY) ∧ w'.cell? ⟨bla, 2, none⟩ = some (.slice (some ⟨q2, o2, none⟩) F.nY caY) ∧ w'.cell? ⟨blb, 2, none⟩ = some (.slice (some ⟨q3, o3, none⟩) F.nY cbY) ∧ w'.cell? ⟨q1, o1 + j, none⟩ = some (.int .u8 (M.Y j)) ∧ w'.cell? ⟨q2, o2 + j, none⟩ = some (.int .u8 (F.Y j)) ∧ w'.cell? ⟨q3, o3 + j, none⟩ = some (.int .u8 (G.Y j))) (([0, 1, 2, 3, 4, 5, 6, 7, 8, 9, 10, 11, 12, 13, 14, 15, 16, 17, 18, 19, 20, 21, 22, 23, 24, 25, 26, 27, 28, 29, 30, 31, 32, 33, 34, 35].map (·, true))) (by kernel_rfl) (by kernel_rfl) (by kernel_rfl) (by exact ⟨s1, s2, s3, s4, s5, s6⟩) ?_
        refine' Plan.plan_seg _ [0, 1, 2, 3, 4, 5, 6, 7, 8, 9, 10, 11, 12, 13, 14, 15, 16, 17, 18, 19, 20, 21, 22, 23, 24, 25, 26, 27, 28, 29, 30, 31, 32, 33, 34, 35] ([]) (by kernel_rfl) (by kernel_rfl) rfl (by exact ⟨s1, s2, s3, s4, s5, s6⟩) (fun wx hS => ?_) ?_
        rotate_left
        · obtain ⟨x1, x2, x3, x4, x5, x6⟩ := hS
          go_light
          iterate 36 (apply Plan.seg_pick; rfl; intro K hK; go_wp)
          exact Plan.seg_nil
        refine Plan.plan_done ?_
        go_wp2_with fail
        go_roundw
        case rel => exact ⟨rfl, j + 1, by omega, by go_num, HBW.out.drew⟩
        case measure => simp [intOf]; omega
      · go_wp2_with fail
        refine Plan.wp_region_plan (fun w' => w'.cell? ⟨blm, 2, none⟩ = some (.slice (some ⟨q1, o1, none⟩) F.nY cmY) ∧ w'.cell? ⟨bla, 2, none⟩ = some (.slice (some ⟨q2, o2, none⟩) F.nY caY) ∧ w'.cell? ⟨blb, 2, none⟩ = some (.slice (some ⟨q3, o3, none⟩) F.nY cbY) ∧ w'.cell? ⟨q1, o1 + j, none⟩ = some (.int .u8 (M.Y j)) ∧ w'.cell? ⟨q2, o2 + j, none⟩ = some (.int .u8 (F.Y j)) ∧ w'.cell? ⟨q3, o3 + j, none⟩ = some (.int .u8 (G.Y j))) (([0, 1, 2, 3, 4, 5, 6, 7, 8, 9, 10, 11, 12, 13, 14, 15, 16, 17, 18, 19, 20, 21, 22, 23, 24, 25, 26, 27, 28, 29, 30, 31, 32, 33, 34, 35].map (·, true))) (by kernel_rfl) (by kernel_rfl) (by kernel_rfl) (by exact ⟨s1, s2, s3, s4, s5, s6⟩) ?_
        refine' Plan.plan_seg _ [0, 1, 2, 3, 4, 5, 6, 7, 8, 9, 10, 11, 12, 13, 14, 15, 16, 17, 18, 19, 20, 21, 22, 23, 24, 25, 26, 27, 28, 29, 30, 31, 32, 33, 34, 35] ([]) (by kernel_rfl) (by kernel_rfl) rfl (by exact ⟨s1, s2, s3, s4, s5, s6⟩) (fun wx hS => ?_) ?_
        rotate_left
        · obtain ⟨x1, x2, x3, x4, x5, x6⟩ := hS
          go_light
          iterate 36 (apply Plan.seg_pick; rfl; intro K hK; go_wp)
          exact Plan.seg_nil
        refine Plan.plan_done ?_
        go_wp2_with fail
        go_roundw
        case rel => exact ⟨rfl, j + 1, by omega, by go_num, HBW.out.drew⟩
        case measure => simp [intOf]; omega
      · go_wp2_with fail
        refine Plan.wp_region_plan (fun w' => w'.cell? ⟨blm, 2, none⟩ = some (.slice (some ⟨q1, o1, none⟩) F.nY cmY) ∧ w'.cell? ⟨bla, 2, none⟩ = some (.slice (some ⟨q2, o2, none⟩) F.nY caY) ∧ w'.cell? ⟨blb, 2, none⟩ = some (.slice (some ⟨q3, o3, none⟩) F.nY cbY) ∧ w'.cell? ⟨q1, o1 + j, none⟩ = some (.int .u8 (M.Y j)) ∧ w'.cell? ⟨q2, o2 + j, none⟩ = some (.int .u8 (F.Y j)) ∧ w'.cell? ⟨q3, o3 + j, none⟩ = some (.int .u8 (G.Y j))) (([0, 1, 2, 3, 4, 5, 6, 7, 8, 9, 10, 11, 12, 13, 14, 15, 16, 17, 18, 19, 20, 21, 22, 23, 24, 25, 26, 27, 28, 29, 30, 31, 32, 33, 34, 35].map (·, true))) (by kernel_rfl) (by kernel_rfl) (by kernel_rfl) (by exact ⟨s1, s2, s3, s4, s5, s6⟩) ?_
        refine' Plan.plan_seg _ [0, 1, 2, 3, 4, 5, 6, 7, 8, 9, 10, 11, 12, 13, 14, 15, 16, 17, 18, 19, 20, 21, 22, 23, 24, 25, 26, 27, 28, 29, 30, 31, 32, 33, 34, 35] ([]) (by kernel_rfl) (by kernel_rfl) rfl (by exact ⟨s1, s2, s3, s4, s5, s6⟩) (fun wx hS => ?_) ?_
        rotate_left
        · obtain ⟨x1, x2, x3, x4, x5, x6⟩ := hS
          go_light
          iterate 36 (apply Plan.seg_pick; rfl; intro K hK; go_wp)
          exact Plan.seg_nil
        refine Plan.plan_done ?_
        go_wp2_with fail
        go_roundw
        case rel => exact ⟨rfl, j + 1, by omega, by go_num, HBW.out.drew⟩
        case measure => simp [intOf]; omega
    · obtain rfl : j = F.nY := by omega
      have HBW := Lib.hid hb
      clear hb
      go_wp2_with fail
      refine (awake_any _).mono ?_
      rintro e w5 ⟨rfl, hb5⟩
      have HB5 := Lib.hid hb5
      clear hb5
      go_wp2_with fail
      go_ret
      exact ⟨rfl, HB.out.trans ((HBW.out.trans (HB5.out.mono HBW.out.size)).mono HB.out.size)⟩

end Go.Proofs.Ytnnobdcbmagbaaa
