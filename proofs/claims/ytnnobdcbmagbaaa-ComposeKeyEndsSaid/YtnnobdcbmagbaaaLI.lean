/- The contract of cutroomlaw26.ComposeKeyEnds: it answers true. -/
import Derived.Test.YtnnobdcbmagbaaaKB
import Derived.Test.YtnnobdcbmagbaaaTD
import Derived.Test.YtnnobdcbmagbaaaPB
import Derived.Test.YtnnobdcbmagbaaaLE
namespace Go.Proofs.Ytnnobdcbmagbaaa
open Go.RowKit
set_option linter.unusedVariables false

set_option maxRecDepth 100000 in
set_option maxHeartbeats 4000000 in
theorem law_keyends (v : Value) (t : Int) (w : World) (hv : RI w v) :
    Calls Try.prog 10 #[v, .int .i64 t] w fun e w' => e = .returned (.bool true) ∧ Below w.heap.size w w' := by
  have HV := Lib.hid hv
  obtain ⟨x, hx⟩ := hv.head
  have HX := Lib.hid hx
  clear hx
  obtain ⟨ao, n, c, rfl, _⟩ := hv
  obtain ⟨z1, z2⟩ := and_mask t 255 (by decide)
  go_enter Try.func10, Try.ntmps10
  go_wp2_with fail
  refine (two_at _ x _ HV.out HX.out).mono ?_
  rintro e w1 ⟨v, u, F, G, p, k, rfl, o2, o3, hz, f1, f2, hs, e1, e2, e3, ht, hk, hb⟩
  have hFA := o2.FA
  have hGA := o3.FA
  have hpp : pairOk F G = true := pairOk_of f1 f2 e2.symm (by rw [e1, e3])
  have HPP := Lib.hid hpp
  have HAA := Lib.hid (pairOk_of f1 f1 rfl rfl)
  have HBB := Lib.hid (pairOk_of f2 f2 rfl rfl)
  have HQQ := Lib.hid (pairOk_of f2 f1 e2 (by rw [e1, e3]))
  obtain ⟨paY, caY, paU, caU, paV, caV, rfl⟩ := hFA.shape
  obtain ⟨pbY, cbY, pbU, cbU, pbV, cbV, rfl⟩ := hGA.shapeAs (Dim.of_pair hpp)
  have HP := Lib.hid (And.intro f1 (And.intro f2 (And.intro hs (And.intro e1 (And.intro e2 e3)))))
  have HT := Lib.hid (And.intro ht hk)
  have HZ := Lib.hid hz
  clear hz
  have FA_a := Lib.hid hFA
  have FA_b := Lib.hid hGA
  have HE0 := Lib.hid hb
  clear o2 o3 f1 f2 e1 e2 e3 hFA hGA hb ht hk hs hpp
  go_upto_region 2 with fail
  obtain ⟨w2, hw⟩ : ∃ x, x = (w1.alloc (.cells #[.int .i64 F.W, .int .i64 F.H, .slice paY F.nY caY, .slice paU F.nU caU, .slice paV F.nV caV] 26)).alloc (.cells #[.int .i64 F.W, .int .i64 F.H, .slice pbY F.nY cbY, .slice pbU F.nU cbU, .slice pbV F.nV cbV] 26) := ⟨_, rfl⟩
  rw [← hw]
  have hE : Below w1.heap.size w1 w2 := by rw [hw]; go_grown
  have BX_a := Lib.hid (show BX w2 w1.heap.size _ _ _ _ _ by rw [hw]; exact (BX.of_alloc _ _ _ _ _ _ _).below (below_box _ _))
  have BX_b := Lib.hid (show BX w2 (w1.heap.size + 1) _ _ _ _ _ by rw [hw]; exact BX.of_alloc' _ _ _ _ _ _ _ _ (by simp))
  obtain ⟨bla, hba⟩ : ∃ b, b = w1.heap.size := ⟨_, rfl⟩
  obtain ⟨blb, hbb⟩ : ∃ b, b = w1.heap.size + 1 := ⟨_, rfl⟩
  rw [← hbb] at BX_b ⊢
  rw [← hba] at BX_a ⊢
  replace FA_a := Lib.hid (FA_a.out.below hE)
  replace FA_b := Lib.hid (FA_b.out.below hE)
  have HE1 := Lib.hid (HE0.out.trans (hE.mono HE0.out.size))
  clear hw hE hba hbb HE0
  have HB := HE1
  clear HE1
  have HVW := Lib.hid (HV.out.below HB.out)
  have HXW := Lib.hid (HX.out.below HB.out)
  obtain ⟨a0, a1, a2, a3, a4⟩ := BX_a.out
  obtain ⟨b0, b1, b2, b3, b4⟩ := BX_b.out
  go_wp2_with fail
  refine (key_yes _ _ F G 0 _ FA_a.out FA_b.out HPP.out (by decide)).mono ?_
  rintro e w3 ⟨r, rfl, hf, hb⟩
  obtain ⟨X, hX⟩ : ∃ X, X = keyFr 0 F G := ⟨_, rfl⟩
  rw [← hX] at hf
  have HX_x := Lib.hid hX
  obtain ⟨pxY, cxY, pxU, cxU, pxV, cxV, rfl⟩ := hf.shapeAs (show Dim X F by rw [hX]; exact Dim.refl _)
  have FA_x := Lib.hid hf
  have HE := Lib.hid hb
  clear hb hf hX
  clear a0 a1 a2 a3 a4 b0 b1 b2 b3 b4
  go_upto_region 3 with fail
  obtain ⟨w4, hw⟩ : ∃ x, x = w3.alloc (.cells #[.int .i64 F.W, .int .i64 F.H, .slice pxY F.nY cxY, .slice pxU F.nU cxU, .slice pxV F.nV cxV] 26) := ⟨_, rfl⟩
  rw [← hw]
  have hE : Below w3.heap.size w3 w4 := by rw [hw]; exact below_box _ _
  have BX_x := Lib.hid (show BX w4 w3.heap.size _ _ _ _ _ by rw [hw]; exact BX.of_alloc _ _ _ _ _ _ _)
  obtain ⟨blx, hbx⟩ : ∃ b, b = w3.heap.size := ⟨_, rfl⟩
  rw [← hbx] at BX_x ⊢
  replace FA_x := Lib.hid (FA_x.out.below hE)
  have HE2 := Lib.hid (HE.out.trans (hE.mono HE.out.size))
  clear hw hE hbx HE
  replace FA_a := Lib.hid (FA_a.out.below HE2.out)
  replace BX_a := Lib.hid (BX_a.out.below HE2.out)
  replace FA_b := Lib.hid (FA_b.out.below HE2.out)
  replace BX_b := Lib.hid (BX_b.out.below HE2.out)
  replace HVW := Lib.hid (HVW.out.below HE2.out)
  replace HXW := Lib.hid (HXW.out.below HE2.out)
  replace HB := Lib.hid (HB.out.trans (HE2.out.mono HB.out.size))
  clear HE2
  obtain ⟨nn, hnn⟩ : ∃ nn, nn = bits BinOp.and IntKind.i64 t 255 := ⟨_, rfl⟩
  rw [show ((255 : Nat) : Int) = 255 from rfl, ← hnn] at z1 z2
  obtain ⟨a0, a1, a2, a3, a4⟩ := BX_a.out
  go_wp2_with fail
  rw [← hnn]
  clear hnn
  clear a0 a1 a2 a3 a4
  refine (key_yes _ _ F F nn _ FA_a.out FA_a.out HAA.out (by unfold okThr; simp; omega)).mono ?_
  rintro e w5 ⟨r, rfl, hf, hb⟩
  obtain ⟨Y, hX⟩ : ∃ X, X = keyFr nn F F := ⟨_, rfl⟩
  rw [← hX] at hf
  have HX_y := Lib.hid hX
  obtain ⟨pyY, cyY, pyU, cyU, pyV, cyV, rfl⟩ := hf.shapeAs (show Dim Y F by rw [hX]; exact Dim.refl _)
  have FA_y := Lib.hid hf
  have HE := Lib.hid hb
  clear hb hf hX
  go_upto_region 4 with fail
  obtain ⟨w6, hw⟩ : ∃ x, x = w5.alloc (.cells #[.int .i64 F.W, .int .i64 F.H, .slice pyY F.nY cyY, .slice pyU F.nU cyU, .slice pyV F.nV cyV] 26) := ⟨_, rfl⟩
  rw [← hw]
  have hE : Below w5.heap.size w5 w6 := by rw [hw]; exact below_box _ _
  have BX_y := Lib.hid (show BX w6 w5.heap.size _ _ _ _ _ by rw [hw]; exact BX.of_alloc _ _ _ _ _ _ _)
  obtain ⟨bly, hby⟩ : ∃ b, b = w5.heap.size := ⟨_, rfl⟩
  rw [← hby] at BX_y ⊢
  replace FA_y := Lib.hid (FA_y.out.below hE)
  have HE2 := Lib.hid (HE.out.trans (hE.mono HE.out.size))
  clear hw hE hby HE
  replace FA_a := Lib.hid (FA_a.out.below HE2.out)
  replace BX_a := Lib.hid (BX_a.out.below HE2.out)
  replace FA_b := Lib.hid (FA_b.out.below HE2.out)
  replace BX_b := Lib.hid (BX_b.out.below HE2.out)
  replace FA_x := Lib.hid (FA_x.out.below HE2.out)
  replace BX_x := Lib.hid (BX_x.out.below HE2.out)
  replace HVW := Lib.hid (HVW.out.below HE2.out)
  replace HXW := Lib.hid (HXW.out.below HE2.out)
  replace HB := Lib.hid (HB.out.trans (HE2.out.mono HB.out.size))
  clear HE2
  go_wp2_with fail
  refine (two_at _ x _ HVW.out HXW.out).mono ?_
  rintro e wA ⟨v2, u2, D, E, p2, k2, rfl, o2, o3, hz, f1, f2, hs, e1, e2, e3, ht, hk, hb⟩
  have hD := o2.FA
  obtain ⟨g1, g2, g3, rfl, r1, r2, r3, q1, q2, q3, n12, n13, n23⟩ := o2
  obtain ⟨pEY, cEY, pEU, cEU, pEV, cEV, rfl⟩ := o3.FA.shape
  have hdw : D.W = F.W := by rw [hz, HZ.out]
  have hdh : D.H = F.H := by rw [e1, HP.out.2.2.2.1, hdw]
  have hpd : pairOk D G = true := pairOk_of f1 HP.out.2.1 (by rw [hdw, HP.out.2.2.2.2.1]) (by rw [hdh, HP.out.2.2.2.1, HP.out.2.2.2.2.2])
  have HPD := Lib.hid hpd
  have HR1 := Lib.hid (And.intro r1 (And.intro r2 (And.intro r3 (And.intro q1 (And.intro q2 q3)))))
  have HE := Lib.hid hb
  have nn2 : 256 ≤ D.nY ∧ D.nY ≤ 4096 := ⟨(ok_bd f1).1, (ok_bd f1).2.1⟩
  have l1 := r1.le
  have l2 := r2.le
  have l3 := r3.le
  clear o3 hz f1 f2 hs e1 e2 e3 ht hk hb hD hdw hdh hpd r1 r2 r3 q1 q2 q3
  go_upto_region 5 with fail
  obtain ⟨wB, hw⟩ : ∃ x, x = (wA.alloc (.cells #[.int .i64 D.W, .int .i64 D.H, .slice (some ⟨g1, 0, none⟩) D.nY D.nY, .slice (some ⟨g2, 0, none⟩) D.nU D.nU, .slice (some ⟨g3, 0, none⟩) D.nV D.nV] 26)).alloc (.cells #[.int .i64 E.W, .int .i64 E.H, .slice pEY E.nY cEY, .slice pEU E.nU cEU, .slice pEV E.nV cEV] 26) := ⟨_, rfl⟩
  rw [← hw]
  have hE : Below wA.heap.size wA wB := by rw [hw]; go_grown
  have BX_d := Lib.hid (show BX wB wA.heap.size _ _ _ _ _ by rw [hw]; exact (BX.of_alloc _ _ _ _ _ _ _).below (below_box _ _))
  have HEB := Lib.hid (HE.out.trans (hE.mono HE.out.size))
  obtain ⟨r1, r2, r3, q1, q2, q3⟩ := HR1.out
  have HRB := Lib.hid (And.intro (r1.below hE) (And.intro (r2.below hE) (r3.below hE)))
  obtain ⟨bld, hbl⟩ : ∃ b, b = wA.heap.size := ⟨_, rfl⟩
  rw [← hbl] at BX_d l1 l2 l3 ⊢
  clear hw hE hbl r1 r2 r3 q1 q2 q3
  obtain ⟨y0, y1, y2, y3, y4⟩ := BX_d.out
  go_wp2_with fail
  clear y0 y1 y2 y3 y4
  go_loopw [47] (fun i wr => ∃ k : Nat, k ≤ D.nY ∧ i = .int .i64 (k : Int) ∧ wB.grownBy wr (some g1) ∧ Row wr w6.heap.size g1 D.nY D.nY (fun j => if j < k then D.Y j / 2 else D.Y j)) (fun i _ => D.nY - (intOf i).toNat)
  case atStart => exact ⟨0, Nat.zero_le _, rfl, only_refl _ _, HRB.out.1.congr (fun i _ => by simp)⟩
  case round =>
    obtain ⟨k, hk, rfl, hgr, ho⟩ := hrel
    by_cases hlt : k < D.nY
    · have d2 := (BX_d.out.only hgr (by omega)).k2
      have hc := ho.cell k hlt
      rw [if_neg (by omega)] at hc
      have hf := World.ownsRow.frozenAt ho k
      have b0 := HR1.out.2.2.2.1 k hlt
      have HO := Lib.hid ho
      have HGR := Lib.hid hgr
      clear ho hgr
      go_wp2_with fail
      refine Plan.wp_region_planz (fun w' => w'.cell? ⟨bld, 2, none⟩ = some (.slice (some ⟨g1, 0, none⟩) D.nY D.nY) ∧ w'.cell? ⟨g1, k, none⟩ = some (.int .u8 (D.Y k))) 10 (([0, 1, 2, 3, 4, 5, 6, 7, 8, 9].map (·, true)) ++ (([10].map (·, false)))) (by kernel_rfl) (by kernel_rfl) (by kernel_rfl) ⟨d2, hc⟩ ?_
      refine' Plan.plan_seg _ [0, 1, 2, 3, 4, 5, 6, 7, 8, 9] (([10].map (·, false))) (by kernel_rfl) (by kernel_rfl) rfl (by exact ⟨d2, hc⟩) (fun wx hS => ?_) ?_
      rotate_left
      · obtain ⟨z1, z2⟩ := hS
        go_light
        iterate 10 (apply Plan.seg_pick; rfl; intro K hK; go_wp)
        exact Plan.seg_nil
      refine Plan.plan_of_last rfl (fun K hK => ?_)
      go_wp2_with fail
      refine Plan.plan_done ?_
      go_wp2_with fail
      go_roundw
      case rel =>
        refine ⟨k + 1, by omega, by go_num, by repeat (first | with_reducible exact HGR.out | with_reducible refine only_drew ?_ | with_reducible refine only_store ?_ _ _), ?_⟩
        repeat (with_reducible refine Row.drew ?_)
        refine HO.out.store k (F' := fun j => if j < k + 1 then D.Y j / 2 else D.Y j) (u := D.Y k / 2) ?_ (fun i _ hik => ite_iff (by omega))
        simp
      case measure => simp [intOf]; omega
    · obtain rfl : k = D.nY := by omega
      have hRow := ho.congr (F' := fun j => D.Y j / 2) (fun i hi => if_pos hi)
      have HEC := Lib.hid (HEB.out.trans (only_below hgr (by omega) HEB.out.size))
      have BXD := Lib.hid (BX_d.out.only hgr (by omega))
      have HRC := Lib.hid (And.intro hRow (And.intro (only_row hgr HRB.out.2.1 (by omega)) (only_row hgr HRB.out.2.2 (by omega))))
      clear ho hgr hRow
      obtain ⟨D2, hD2⟩ : ∃ X : Fr, X = ⟨D.W, D.H, D.nY, D.nU, D.nV, fun j => D.Y j / 2, D.U, D.V⟩ := ⟨_, rfl⟩
      have FA_d := Lib.hid (show FA wr (.agg #[.int .i64 D.W, .int .i64 D.H, .slice (some ⟨g1, 0, none⟩) D.nY D.nY, .slice (some ⟨g2, 0, none⟩) D.nU D.nU, .slice (some ⟨g3, 0, none⟩) D.nV D.nV]) D2 by
        rw [hD2]
        exact ⟨_, _, _, rfl, HRC.out.1.BA (fun i hi => by have := HR1.out.2.2.2.1 i hi; omega), HRC.out.2.1.BA HR1.out.2.2.2.2.1, HRC.out.2.2.BA HR1.out.2.2.2.2.2⟩)
      have HPE := Lib.hid (show pairOk D2 G = true by rw [hD2]; exact HPD.out)
      have HDK := Lib.hid (show ∀ i, i < D2.nY → 0 ≤ D2.Y i ∧ D2.Y i ≤ 127 by
        rw [hD2]
        intro i hi
        have := HR1.out.2.2.2.1 i hi
        show 0 ≤ D.Y i / 2 ∧ D.Y i / 2 ≤ 127
        omega)
      clear hD2 BX_d
      have BX_d := BXD
      clear BXD
      replace FA_a := Lib.hid (FA_a.out.below HEC.out)
      replace BX_a := Lib.hid (BX_a.out.below HEC.out)
      replace FA_b := Lib.hid (FA_b.out.below HEC.out)
      replace BX_b := Lib.hid (BX_b.out.below HEC.out)
      replace FA_x := Lib.hid (FA_x.out.below HEC.out)
      replace BX_x := Lib.hid (BX_x.out.below HEC.out)
      replace FA_y := Lib.hid (FA_y.out.below HEC.out)
      replace BX_y := Lib.hid (BX_y.out.below HEC.out)
      replace HVW := Lib.hid (HVW.out.below HEC.out)
      replace HXW := Lib.hid (HXW.out.below HEC.out)
      replace HB := Lib.hid (HB.out.trans (HEC.out.mono HB.out.size))
      obtain ⟨d0, d1, d2, d3, d4⟩ := BX_d.out
      obtain ⟨b0, b1, b2, b3, b4⟩ := BX_b.out
      go_wp2_with fail
      refine (key_yes _ _ D2 G 128 _ FA_d.out FA_b.out HPE.out (by decide)).mono ?_
      rintro e w7 ⟨r, rfl, hf, hb⟩
      obtain ⟨Z, hX⟩ : ∃ X, X = keyFr 128 D2 G := ⟨_, rfl⟩
      rw [← hX] at hf
      have HX_z := Lib.hid hX
      obtain ⟨pzY, czY, pzU, czU, pzV, czV, rfl⟩ := hf.shape
      have FA_z := Lib.hid hf
      have HE := Lib.hid hb
      clear hb hf hX
      clear d0 d1 d2 d3 d4 b0 b1 b2 b3 b4
      go_upto_region 11 with fail
      obtain ⟨w8, hw⟩ : ∃ x, x = w7.alloc (.cells #[.int .i64 Z.W, .int .i64 Z.H, .slice pzY Z.nY czY, .slice pzU Z.nU czU, .slice pzV Z.nV czV] 26) := ⟨_, rfl⟩
      rw [← hw]
      have hE : Below w7.heap.size w7 w8 := by rw [hw]; exact below_box _ _
      have BX_z := Lib.hid (show BX w8 w7.heap.size _ _ _ _ _ by rw [hw]; exact BX.of_alloc _ _ _ _ _ _ _)
      obtain ⟨blz, hbz⟩ : ∃ b, b = w7.heap.size := ⟨_, rfl⟩
      rw [← hbz] at BX_z ⊢
      replace FA_z := Lib.hid (FA_z.out.below hE)
      have HE2 := Lib.hid (HE.out.trans (hE.mono HE.out.size))
      clear hw hE hbz HE
      replace FA_a := Lib.hid (FA_a.out.below HE2.out)
      replace BX_a := Lib.hid (BX_a.out.below HE2.out)
      replace FA_b := Lib.hid (FA_b.out.below HE2.out)
      replace BX_b := Lib.hid (BX_b.out.below HE2.out)
      replace FA_x := Lib.hid (FA_x.out.below HE2.out)
      replace BX_x := Lib.hid (BX_x.out.below HE2.out)
      replace FA_y := Lib.hid (FA_y.out.below HE2.out)
      replace BX_y := Lib.hid (BX_y.out.below HE2.out)
      replace FA_d := Lib.hid (FA_d.out.below HE2.out)
      replace BX_d := Lib.hid (BX_d.out.below HE2.out)
      replace HVW := Lib.hid (HVW.out.below HE2.out)
      replace HXW := Lib.hid (HXW.out.below HE2.out)
      replace HB := Lib.hid (HB.out.trans (HE2.out.mono HB.out.size))
      clear HE2
      obtain ⟨x0, x1, x2, x3, x4⟩ := BX_x.out
      obtain ⟨a0, a1, a2, a3, a4⟩ := BX_a.out
      go_wp2_with fail
      refine (same_yes _ _ X F _ FA_x.out FA_a.out (by rw [HX_x.out]; exact key_zero HP.out.1 FA_a.out.bdY)).mono ?_
      rintro e w9 ⟨rfl, hb⟩
      have HE := Lib.hid hb
      clear hb
      clear x0 x1 x2 x3 x4 a0 a1 a2 a3 a4
      replace FA_a := Lib.hid (FA_a.out.below HE.out)
      replace BX_a := Lib.hid (BX_a.out.below HE.out)
      replace FA_b := Lib.hid (FA_b.out.below HE.out)
      replace BX_b := Lib.hid (BX_b.out.below HE.out)
      replace FA_x := Lib.hid (FA_x.out.below HE.out)
      replace BX_x := Lib.hid (BX_x.out.below HE.out)
      replace FA_y := Lib.hid (FA_y.out.below HE.out)
      replace BX_y := Lib.hid (BX_y.out.below HE.out)
      replace FA_d := Lib.hid (FA_d.out.below HE.out)
      replace BX_d := Lib.hid (BX_d.out.below HE.out)
      replace FA_z := Lib.hid (FA_z.out.below HE.out)
      replace BX_z := Lib.hid (BX_z.out.below HE.out)
      replace HVW := Lib.hid (HVW.out.below HE.out)
      replace HXW := Lib.hid (HXW.out.below HE.out)
      replace HB := Lib.hid (HB.out.trans (HE.out.mono HB.out.size))
      clear HE
      obtain ⟨y0, y1, y2, y3, y4⟩ := BX_y.out
      obtain ⟨a0, a1, a2, a3, a4⟩ := BX_a.out
      go_wp2_with fail
      refine (same_yes _ _ Y F _ FA_y.out FA_a.out (by rw [HX_y.out]; exact key_self)).mono ?_
      rintro e w10 ⟨rfl, hb⟩
      have HE := Lib.hid hb
      clear hb
      clear y0 y1 y2 y3 y4 a0 a1 a2 a3 a4
      replace FA_a := Lib.hid (FA_a.out.below HE.out)
      replace BX_a := Lib.hid (BX_a.out.below HE.out)
      replace FA_b := Lib.hid (FA_b.out.below HE.out)
      replace BX_b := Lib.hid (BX_b.out.below HE.out)
      replace FA_x := Lib.hid (FA_x.out.below HE.out)
      replace BX_x := Lib.hid (BX_x.out.below HE.out)
      replace FA_y := Lib.hid (FA_y.out.below HE.out)
      replace BX_y := Lib.hid (BX_y.out.below HE.out)
      replace FA_d := Lib.hid (FA_d.out.below HE.out)
      replace BX_d := Lib.hid (BX_d.out.below HE.out)
      replace FA_z := Lib.hid (FA_z.out.below HE.out)
      replace BX_z := Lib.hid (BX_z.out.below HE.out)
      replace HVW := Lib.hid (HVW.out.below HE.out)
      replace HXW := Lib.hid (HXW.out.below HE.out)
      replace HB := Lib.hid (HB.out.trans (HE.out.mono HB.out.size))
      clear HE
      obtain ⟨z0, z1, z2, z3, z4⟩ := BX_z.out
      obtain ⟨b0, b1, b2, b3, b4⟩ := BX_b.out
      go_wp2_with fail
      refine (same_yes _ _ Z G _ FA_z.out FA_b.out (by rw [HX_z.out]; exact key_dark HPE.out HDK.out)).mono ?_
      rintro e w11 ⟨rfl, hb⟩
      have HE := Lib.hid hb
      clear hb
      clear z0 z1 z2 z3 z4 b0 b1 b2 b3 b4
      replace FA_a := Lib.hid (FA_a.out.below HE.out)
      replace BX_a := Lib.hid (BX_a.out.below HE.out)
      replace FA_b := Lib.hid (FA_b.out.below HE.out)
      replace BX_b := Lib.hid (BX_b.out.below HE.out)
      replace FA_x := Lib.hid (FA_x.out.below HE.out)
      replace BX_x := Lib.hid (BX_x.out.below HE.out)
      replace FA_y := Lib.hid (FA_y.out.below HE.out)
      replace BX_y := Lib.hid (BX_y.out.below HE.out)
      replace FA_d := Lib.hid (FA_d.out.below HE.out)
      replace BX_d := Lib.hid (BX_d.out.below HE.out)
      replace FA_z := Lib.hid (FA_z.out.below HE.out)
      replace BX_z := Lib.hid (BX_z.out.below HE.out)
      replace HVW := Lib.hid (HVW.out.below HE.out)
      replace HXW := Lib.hid (HXW.out.below HE.out)
      replace HB := Lib.hid (HB.out.trans (HE.out.mono HB.out.size))
      clear HE
      go_wp2_with fail
      refine (awake_any _).mono ?_
      rintro e wz ⟨rfl, hb5⟩
      have HB5 := Lib.hid hb5
      clear hb5
      go_wp2_with fail
      go_ret
      exact ⟨rfl, HB.out.trans (HB5.out.mono HB.out.size)⟩

end Go.Proofs.Ytnnobdcbmagbaaa
