/- The contract of cutroomlaw26.ComposeMixGrows: it answers true. -/
import Derived.Test.YtnnobdcbmagbaaaLA
import Derived.Deep.Cut
import Derived.Deep.Light
namespace Go.Proofs.Ytnnobdcbmagbaaa
open Go.RowKit

set_option maxRecDepth 100000 in
set_option maxHeartbeats 4000000 in
theorem law_mixgrows (v : Value) (num many : Int) (w : World) (hv : RI w v) (n0 : 0 ≤ num) (n1 : num < 65536) (m0 : 0 ≤ many) (m1 : many < 65536) :
    Calls Try.prog 6 #[v, .int .u16 num, .int .u16 many] w fun e w' => e = .returned (.bool true) ∧ Below w.heap.size w w' := by
  have HV := Lib.hid hv
  obtain ⟨ao, n, c, rfl, _⟩ := hv
  have HN : RowKit.Hid (0 ≤ num % (many + 2) ∧ num % (many + 2) + 1 ≤ many + 2) := ⟨Int.emod_nonneg _ (by omega), by have := Int.emod_lt_of_pos num (show 0 < many + 2 by omega); omega⟩
  go_enter Try.func6, Try.ntmps6
  go_wp2_with fail
  refine (two_any _ _ HV.out).mono ?_
  rintro e w1 ⟨v, u, F, G, p, k, rfl, o2, o3, f1, f2, hs, e1, e2, e3, ht, hk, hb⟩
  have hFA := o2.FA
  have hGA := o3.FA
  have hpp : pairOk F G = true := pairOk_of f1 f2 e2.symm (by rw [e1, e3])
  have HPP := Lib.hid hpp
  have HAA := Lib.hid (pairOk_of f1 f1 rfl rfl)
  have HBB := Lib.hid (pairOk_of f2 f2 rfl rfl)
  have HQQ := Lib.hid (pairOk_of f2 f1 e2 (by rw [e1, e3]))
  obtain ⟨paY, caY, paU, caU, paV, caV, rfl⟩ := hFA.shape
  obtain ⟨pbY, cbY, pbU, cbU, pbV, cbV, rfl⟩ := hGA.shapeAs (Dim.of_pair hpp)
  have HP := Lib.hid (And.intro f1 (And.intro f2 (And.intro hs (And.intro e1 (And.intro e2 e3)))))
  have HT := Lib.hid (And.intro ht hk)
  have FA_a := Lib.hid hFA
  have FA_b := Lib.hid hGA
  have HB := Lib.hid hb
  clear o2 o3 f1 f2 e1 e2 e3 hFA hGA hb ht hk hs hpp
  go_upto_region 4 with fail
  obtain ⟨w2, hw⟩ : ∃ x, x = (w1.alloc (.cells #[.int .i64 F.W, .int .i64 F.H, .slice paY F.nY caY, .slice paU F.nU caU, .slice paV F.nV caV] 26)).alloc (.cells #[.int .i64 F.W, .int .i64 F.H, .slice pbY F.nY cbY, .slice pbU F.nU cbU, .slice pbV F.nV cbV] 26) := ⟨_, rfl⟩
  rw [← hw]
  have hE : Below w1.heap.size w1 w2 := by rw [hw]; go_grown
  have BX_a := Lib.hid (show BX w2 w1.heap.size _ _ _ _ _ by rw [hw]; exact (BX.of_alloc _ _ _ _ _ _ _).below (below_box _ _))
  have BX_b := Lib.hid (show BX w2 (w1.heap.size + 1) _ _ _ _ _ by rw [hw]; exact BX.of_alloc' _ _ _ _ _ _ _ _ (by simp))
  obtain ⟨bla, hba⟩ : ∃ b, b = w1.heap.size := ⟨_, rfl⟩
  obtain ⟨blb, hbb⟩ : ∃ b, b = w1.heap.size + 1 := ⟨_, rfl⟩
  rw [← hbb] at BX_b ⊢
  rw [← hba] at BX_a ⊢
  replace FA_a := Lib.hid (FA_a.out.below hE)
  replace FA_b := Lib.hid (FA_b.out.below hE)
  replace HB := Lib.hid (HB.out.trans (hE.mono HB.out.size))
  clear hw hE hba hbb
  obtain ⟨den, hden⟩ : ∃ den, den = many + 2 := ⟨_, rfl⟩
  rw [← hden] at HN ⊢
  obtain ⟨nn, hnn⟩ : ∃ nn, nn = num % den := ⟨_, rfl⟩
  rw [← hnn] at HN ⊢
  have HD : RowKit.Hid (1 ≤ den ∧ den ≤ 65537) := ⟨by omega, by omega⟩
  have z1 := HN.out.1
  have z2 : nn ≤ 65537 := by have := HN.out.2; have := HD.out.2; omega
  have z3 : den ≤ 65537 := HD.out.2
  have z4 : 0 ≤ den := by have := HD.out.1; omega
  clear hden hnn
  obtain ⟨a0, a1, a2, a3, a4⟩ := BX_a.out
  obtain ⟨b0, b1, b2, b3, b4⟩ := BX_b.out
  go_wp2_with fail
  refine (mix_yes _ _ F G nn den _ FA_a.out FA_b.out HPP.out (okShare_of HD.out.1 (by have := HD.out.2; omega) HN.out.1 (by have := HN.out.2; omega))).mono ?_
  rintro e w3 ⟨r, rfl, hf, hb⟩
  obtain ⟨X, hX⟩ : ∃ X, X = mixFr nn den F G := ⟨_, rfl⟩
  rw [← hX] at hf
  have HX_x := Lib.hid hX
  obtain ⟨pxY, cxY, pxU, cxU, pxV, cxV, rfl⟩ := hf.shapeAs (show Dim X F by rw [hX]; exact Dim.refl _)
  have FA_x := Lib.hid hf
  have HE := Lib.hid hb
  clear hb hf hX
  clear a0 a1 a2 a3 a4 b0 b1 b2 b3 b4
  go_upto_region 5 with fail
  obtain ⟨w4, hw⟩ : ∃ x, x = w3.alloc (.cells #[.int .i64 F.W, .int .i64 F.H, .slice pxY F.nY cxY, .slice pxU F.nU cxU, .slice pxV F.nV cxV] 26) := ⟨_, rfl⟩
  rw [← hw]
  have hE : Below w3.heap.size w3 w4 := by rw [hw]; exact below_box _ _
  have BX_x := Lib.hid (show BX w4 w3.heap.size _ _ _ _ _ by rw [hw]; exact BX.of_alloc _ _ _ _ _ _ _)
  obtain ⟨blx, hbx⟩ : ∃ b, b = w3.heap.size := ⟨_, rfl⟩
  rw [← hbx] at BX_x ⊢
  replace FA_x := Lib.hid (FA_x.out.below hE)
  have HE2 := Lib.hid (HE.out.trans (hE.mono HE.out.size))
  clear hw hE hbx HE
  replace FA_a := Lib.hid (FA_a.out.below HE2.out)
  replace BX_a := Lib.hid (BX_a.out.below HE2.out)
  replace FA_b := Lib.hid (FA_b.out.below HE2.out)
  replace BX_b := Lib.hid (BX_b.out.below HE2.out)
  replace HB := Lib.hid (HB.out.trans (HE2.out.mono HB.out.size))
  clear HE2
  obtain ⟨a0, a1, a2, a3, a4⟩ := BX_a.out
  obtain ⟨b0, b1, b2, b3, b4⟩ := BX_b.out
  go_wp2_with fail
  refine (mix_yes _ _ F G (nn + 1) den _ FA_a.out FA_b.out HPP.out (okShare_of HD.out.1 (by have := HD.out.2; omega) (by have := HN.out.1; omega) HN.out.2)).mono ?_
  rintro e w5 ⟨r, rfl, hf, hb⟩
  obtain ⟨Y, hX⟩ : ∃ X, X = mixFr (nn + 1) den F G := ⟨_, rfl⟩
  rw [← hX] at hf
  have HX_y := Lib.hid hX
  obtain ⟨pyY, cyY, pyU, cyU, pyV, cyV, rfl⟩ := hf.shapeAs (show Dim Y F by rw [hX]; exact Dim.refl _)
  have FA_y := Lib.hid hf
  have HE := Lib.hid hb
  clear hb hf hX
  clear a0 a1 a2 a3 a4 b0 b1 b2 b3 b4
  go_upto_region 6 with fail
  obtain ⟨w6, hw⟩ : ∃ x, x = w5.alloc (.cells #[.int .i64 F.W, .int .i64 F.H, .slice pyY F.nY cyY, .slice pyU F.nU cyU, .slice pyV F.nV cyV] 26) := ⟨_, rfl⟩
  rw [← hw]
  have hE : Below w5.heap.size w5 w6 := by rw [hw]; exact below_box _ _
  have BX_y := Lib.hid (show BX w6 w5.heap.size _ _ _ _ _ by rw [hw]; exact BX.of_alloc _ _ _ _ _ _ _)
  obtain ⟨bly, hby⟩ : ∃ b, b = w5.heap.size := ⟨_, rfl⟩
  rw [← hby] at BX_y ⊢
  replace FA_y := Lib.hid (FA_y.out.below hE)
  have HE2 := Lib.hid (HE.out.trans (hE.mono HE.out.size))
  clear hw hE hby HE
  replace FA_a := Lib.hid (FA_a.out.below HE2.out)
  replace BX_a := Lib.hid (BX_a.out.below HE2.out)
  replace FA_b := Lib.hid (FA_b.out.below HE2.out)
  replace BX_b := Lib.hid (BX_b.out.below HE2.out)
  replace FA_x := Lib.hid (FA_x.out.below HE2.out)
  replace BX_x := Lib.hid (BX_x.out.below HE2.out)
  replace HB := Lib.hid (HB.out.trans (HE2.out.mono HB.out.size))
  clear HE2
  obtain ⟨a0, a1, a2, a3, a4⟩ := BX_a.out
  obtain ⟨b0, b1, b2, b3, b4⟩ := BX_b.out
  go_wp2_with fail
  refine (mix_yes _ _ G F (den - nn) den _ FA_b.out FA_a.out HQQ.out (okShare_of HD.out.1 (by have := HD.out.2; omega) (by have := HN.out.2; omega) (by have := HN.out.1; omega))).mono ?_
  rintro e w7 ⟨r, rfl, hf, hb⟩
  obtain ⟨Z, hX⟩ : ∃ X, X = mixFr (den - nn) den G F := ⟨_, rfl⟩
  rw [← hX] at hf
  have HX_z := Lib.hid hX
  obtain ⟨pzY, czY, pzU, czU, pzV, czV, rfl⟩ := hf.shapeAs (show Dim Z F by rw [hX]; exact Dim.of_pair HPP.out)
  have FA_z := Lib.hid hf
  have HE := Lib.hid hb
  clear hb hf hX
  clear a0 a1 a2 a3 a4 b0 b1 b2 b3 b4
  go_upto_region 7 with fail
  obtain ⟨w8, hw⟩ : ∃ x, x = w7.alloc (.cells #[.int .i64 F.W, .int .i64 F.H, .slice pzY F.nY czY, .slice pzU F.nU czU, .slice pzV F.nV czV] 26) := ⟨_, rfl⟩
  rw [← hw]
  have hE : Below w7.heap.size w7 w8 := by rw [hw]; exact below_box _ _
  have BX_z := Lib.hid (show BX w8 w7.heap.size _ _ _ _ _ by rw [hw]; exact BX.of_alloc _ _ _ _ _ _ _)
  obtain ⟨blz, hbz⟩ : ∃ b, b = w7.heap.size := ⟨_, rfl⟩
  rw [← hbz] at BX_z ⊢
  replace FA_z := Lib.hid (FA_z.out.below hE)
  have HE2 := Lib.hid (HE.out.trans (hE.mono HE.out.size))
  clear hw hE hbz HE
  replace FA_a := Lib.hid (FA_a.out.below HE2.out)
  replace BX_a := Lib.hid (BX_a.out.below HE2.out)
  replace FA_b := Lib.hid (FA_b.out.below HE2.out)
  replace BX_b := Lib.hid (BX_b.out.below HE2.out)
  replace FA_x := Lib.hid (FA_x.out.below HE2.out)
  replace BX_x := Lib.hid (BX_x.out.below HE2.out)
  replace FA_y := Lib.hid (FA_y.out.below HE2.out)
  replace BX_y := Lib.hid (BX_y.out.below HE2.out)
  replace HB := Lib.hid (HB.out.trans (HE2.out.mono HB.out.size))
  clear HE2
  obtain ⟨x0, x1, x2, x3, x4⟩ := BX_x.out
  obtain ⟨a0, a1, a2, a3, a4⟩ := BX_a.out
  obtain ⟨y0, y1, y2, y3, y4⟩ := BX_y.out
  obtain ⟨z0, z1, z2, z3, z4⟩ := BX_z.out
  go_wp2_with fail
  clear x0 x1 x2 x3 x4 a0 a1 a2 a3 a4 y0 y1 y2 y3 y4 z0 z1 z2 z3 z4
  have fb : 64 ≤ F.nU ∧ F.nU ≤ 1024 := ⟨(ok_bd HP.out.1).2.2.1, (ok_bd HP.out.1).2.2.2.1⟩
  have fg := (Dim.of_pair HPP.out).2.2.2.1
  have fx : X.nU = F.nU := by rw [HX_x.out]; rfl
  have fy : Y.nU = F.nU := by rw [HX_y.out]; rfl
  have fz : Z.nU = F.nU := by rw [HX_z.out]; exact fg
  have lb : ∀ i, i < F.nU → (F.U i ≤ G.U i → X.U i ≤ Y.U i) ∧ (G.U i ≤ F.U i → Y.U i ≤ X.U i) ∧ Z.U i = X.U i := by
    intro i hi
    have h1 := FA_a.out.bdU i hi
    have h2 := FA_b.out.bdU i (by omega)
    rw [HX_x.out, HX_y.out, HX_z.out]
    exact ⟨fun h => blend_up HD.out.1 HN.out.1 HN.out.2 h1.1 h2.2 h, fun h => blend_down HD.out.1 HN.out.1 HN.out.2 h2.1 h1.2 h, blend_swap _ _ _ _⟩
  have HL := Lib.hid lb
  clear lb
  obtain ⟨qa, oa, rfl, ha⟩ := FA_a.out.plane.2.1 (by omega)
  obtain ⟨qb, ob, rfl, hb⟩ := FA_b.out.plane.2.1 (by omega)
  obtain ⟨qx, ox, rfl, hx⟩ := FA_x.out.plane.2.1 (by omega)
  obtain ⟨qy, oy, rfl, hy⟩ := FA_y.out.plane.2.1 (by omega)
  obtain ⟨qz, oz, rfl, hz⟩ := FA_z.out.plane.2.1 (by omega)
  rw [fg] at hb
  rw [fx] at hx
  rw [fy] at hy
  rw [fz] at hz
  have HC := Lib.hid (And.intro ha (And.intro hb (And.intro hx (And.intro hy hz))))
  clear ha hb hx hy hz fg fx fy fz
  go_loopw [6, 100] (fun r i wr => r = .bool false ∧ ∃ j : Nat, j ≤ F.nU ∧ i = .int .i64 (j : Int) ∧ Below w8.heap.size w8 wr) (fun _ i _ => F.nU - (intOf i).toNat)
  case atStart => exact ⟨rfl, 0, by omega, rfl, Below.refl _ _⟩
  case round =>
    obtain ⟨rfl, j, hj, rfl, hb⟩ := hrel
    by_cases hlt : j < F.nU
    · have sa := (hb.cell (p := ⟨bla, 3, none⟩) BX_a.out.lt).trans BX_a.out.k3
      have sb := (hb.cell (p := ⟨blb, 3, none⟩) BX_b.out.lt).trans BX_b.out.k3
      have sx := (hb.cell (p := ⟨blx, 3, none⟩) BX_x.out.lt).trans BX_x.out.k3
      have sy := (hb.cell (p := ⟨bly, 3, none⟩) BX_y.out.lt).trans BX_y.out.k3
      have sz := (hb.cell (p := ⟨blz, 3, none⟩) BX_z.out.lt).trans BX_z.out.k3
      have ta := (hb.cell (p := ⟨qa, oa + j, none⟩) (block_lt_of_cell (HC.out.1 j (by omega)))).trans (HC.out.1 j (by omega))
      have tb := (hb.cell (p := ⟨qb, ob + j, none⟩) (block_lt_of_cell (HC.out.2.1 j (by omega)))).trans (HC.out.2.1 j (by omega))
      have tx := (hb.cell (p := ⟨qx, ox + j, none⟩) (block_lt_of_cell (HC.out.2.2.1 j (by omega)))).trans (HC.out.2.2.1 j (by omega))
      have ty := (hb.cell (p := ⟨qy, oy + j, none⟩) (block_lt_of_cell (HC.out.2.2.2.1 j (by omega)))).trans (HC.out.2.2.2.1 j (by omega))
      have tz := (hb.cell (p := ⟨qz, oz + j, none⟩) (block_lt_of_cell (HC.out.2.2.2.2 j (by omega)))).trans (HC.out.2.2.2.2 j (by omega))
      rw [(HL.out j hlt).2.2] at tz
      have HBW := Lib.hid hb
      have HBD := Lib.hid hb.drew
      clear hb
      by_cases hup : F.U j ≤ G.U j
      · have r1 := (HL.out j hlt).1 hup
        go_wp2_with fail
        refine Plan.wp_region_plan (fun w' => w'.cell? ⟨bla, 3, none⟩ = some (.slice (some ⟨qa, oa, none⟩) F.nU caU) ∧ w'.cell? ⟨blb, 3, none⟩ = some (.slice (some ⟨qb, ob, none⟩) F.nU cbU) ∧ w'.cell? ⟨qa, oa + j, none⟩ = some (.int .u8 (F.U j)) ∧ w'.cell? ⟨qb, ob + j, none⟩ = some (.int .u8 (G.U j))) (([0, 1, 2, 3, 4, 5, 6, 7, 8, 9, 10, 11].map (·, true))) (by kernel_rfl) (by kernel_rfl) (by kernel_rfl) ⟨sa, sb, ta, tb⟩ ?_
        refine' Plan.plan_seg _ [0, 1, 2, 3, 4, 5, 6, 7, 8, 9, 10, 11] ([]) (by kernel_rfl) (by kernel_rfl) rfl (by exact ⟨sa, sb, ta, tb⟩) (fun wx hS => ?_) ?_
        rotate_left
        · obtain ⟨x1, x2, x3, x4⟩ := hS
          go_light
          iterate 12 (apply Plan.seg_pick; rfl; intro K hK; go_wp)
          exact Plan.seg_nil
        refine Plan.plan_done ?_
        go_wp2_with fail
        refine Plan.wp_region_plan (fun w' => w'.cell? ⟨blx, 3, none⟩ = some (.slice (some ⟨qx, ox, none⟩) F.nU cxU) ∧ w'.cell? ⟨bly, 3, none⟩ = some (.slice (some ⟨qy, oy, none⟩) F.nU cyU) ∧ w'.cell? ⟨blz, 3, none⟩ = some (.slice (some ⟨qz, oz, none⟩) F.nU czU) ∧ w'.cell? ⟨qx, ox + j, none⟩ = some (.int .u8 (X.U j)) ∧ w'.cell? ⟨qy, oy + j, none⟩ = some (.int .u8 (Y.U j)) ∧ w'.cell? ⟨qz, oz + j, none⟩ = some (.int .u8 (X.U j))) (([0, 1, 2, 3, 4, 5, 6, 7, 8, 9, 10, 11, 12, 13, 14, 15, 16, 17, 18, 19, 20, 21, 22, 23, 24, 25, 26, 27, 28, 29, 30, 31, 32, 33, 34, 35, 36, 37, 38, 39, 40, 41, 42, 43].map (·, true))) (by kernel_rfl) (by kernel_rfl) (by kernel_rfl) ⟨sx, sy, sz, tx, ty, tz⟩ ?_
        refine' Plan.plan_seg _ [0, 1, 2, 3, 4, 5, 6, 7, 8, 9, 10, 11, 12, 13, 14, 15, 16, 17, 18, 19, 20, 21, 22, 23, 24, 25, 26, 27, 28, 29, 30, 31, 32, 33, 34, 35, 36, 37, 38, 39, 40, 41, 42, 43] ([]) (by kernel_rfl) (by kernel_rfl) rfl (by exact ⟨sx, sy, sz, tx, ty, tz⟩) (fun wx hS => ?_) ?_
        rotate_left
        · obtain ⟨x1, x2, x3, x4, x5, x6⟩ := hS
          go_light
          iterate 44 (apply Plan.seg_pick; rfl; intro K hK; go_wp)
          exact Plan.seg_nil
        refine Plan.plan_done ?_
        go_wp2_with fail
        go_roundw
        case rel => exact ⟨rfl, j + 1, by omega, by go_num, HBD.out.drew⟩
        case measure => simp [intOf]; omega
      · have r1 := (HL.out j hlt).2.1 (by omega)
        go_wp2_with fail
        refine Plan.wp_region_plan (fun w' => w'.cell? ⟨bla, 3, none⟩ = some (.slice (some ⟨qa, oa, none⟩) F.nU caU) ∧ w'.cell? ⟨blb, 3, none⟩ = some (.slice (some ⟨qb, ob, none⟩) F.nU cbU) ∧ w'.cell? ⟨qa, oa + j, none⟩ = some (.int .u8 (F.U j)) ∧ w'.cell? ⟨qb, ob + j, none⟩ = some (.int .u8 (G.U j))) (([0, 1, 2, 3, 4, 5, 6, 7, 8, 9, 10, 11].map (·, true))) (by kernel_rfl) (by kernel_rfl) (by kernel_rfl) ⟨sa, sb, ta, tb⟩ ?_
        refine' Plan.plan_seg _ [0, 1, 2, 3, 4, 5, 6, 7, 8, 9, 10, 11] ([]) (by kernel_rfl) (by kernel_rfl) rfl (by exact ⟨sa, sb, ta, tb⟩) (fun wx hS => ?_) ?_
        rotate_left
        · obtain ⟨x1, x2, x3, x4⟩ := hS
          go_light
          iterate 12 (apply Plan.seg_pick; rfl; intro K hK; go_wp)
          exact Plan.seg_nil
        refine Plan.plan_done ?_
        go_wp2_with fail
        refine Plan.wp_region_plan (fun w' => w'.cell? ⟨blx, 3, none⟩ = some (.slice (some ⟨qx, ox, none⟩) F.nU cxU) ∧ w'.cell? ⟨bly, 3, none⟩ = some (.slice (some ⟨qy, oy, none⟩) F.nU cyU) ∧ w'.cell? ⟨blz, 3, none⟩ = some (.slice (some ⟨qz, oz, none⟩) F.nU czU) ∧ w'.cell? ⟨qx, ox + j, none⟩ = some (.int .u8 (X.U j)) ∧ w'.cell? ⟨qy, oy + j, none⟩ = some (.int .u8 (Y.U j)) ∧ w'.cell? ⟨qz, oz + j, none⟩ = some (.int .u8 (X.U j))) (([0, 1, 2, 3, 4, 5, 6, 7, 8, 9, 10, 11, 12, 13, 14, 15, 16, 17, 18, 19, 20, 21, 22, 23, 24, 25, 26, 27, 28, 29, 30, 31, 32, 33, 34, 35, 36, 37, 38, 39, 40, 41, 42, 43].map (·, true))) (by kernel_rfl) (by kernel_rfl) (by kernel_rfl) ⟨sx, sy, sz, tx, ty, tz⟩ ?_
        refine' Plan.plan_seg _ [0, 1, 2, 3, 4, 5, 6, 7, 8, 9, 10, 11, 12, 13, 14, 15, 16, 17, 18, 19, 20, 21, 22, 23, 24, 25, 26, 27, 28, 29, 30, 31, 32, 33, 34, 35, 36, 37, 38, 39, 40, 41, 42, 43] ([]) (by kernel_rfl) (by kernel_rfl) rfl (by exact ⟨sx, sy, sz, tx, ty, tz⟩) (fun wx hS => ?_) ?_
        rotate_left
        · obtain ⟨x1, x2, x3, x4, x5, x6⟩ := hS
          go_light
          iterate 44 (apply Plan.seg_pick; rfl; intro K hK; go_wp)
          exact Plan.seg_nil
        refine Plan.plan_done ?_
        go_wp2_with fail
        go_roundw
        case rel => exact ⟨rfl, j + 1, by omega, by go_num, HBD.out.drew⟩
        case measure => simp [intOf]; omega
    · obtain rfl : j = F.nU := by omega
      have HBW := Lib.hid hb
      clear hb
      go_wp2_with fail
      refine (awake_any _).mono ?_
      rintro e w5 ⟨rfl, hb5⟩
      have HB5 := Lib.hid hb5
      clear hb5
      go_wp2_with fail
      go_ret
      exact ⟨rfl, HB.out.trans ((HBW.out.trans (HB5.out.mono HBW.out.size)).mono HB.out.size)⟩

end Go.Proofs.Ytnnobdcbmagbaaa
