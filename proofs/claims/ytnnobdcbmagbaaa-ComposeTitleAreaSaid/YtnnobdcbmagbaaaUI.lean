/- The contract of cutroomlaw26.ComposeTitleArea: it answers true. -/
import Derived.Test.YtnnobdcbmagbaaaUG
import Derived.Test.YtnnobdcbmagbaaaLE
namespace Go.Proofs.Ytnnobdcbmagbaaa
open Go.RowKit
set_option linter.unusedVariables false

theorem frSame_blank (F : Fr) : frSame F (titleFr [] F) = true :=
  frSame_of rfl rfl rfl rfl rfl (fun i _ => (pY_nil F.W.toNat F.Y i).symm) (fun i _ => (pC_nil F.W.toNat F.U i).symm) (fun i _ => (pC_nil F.W.toNat F.V i).symm)
theorem blanks (F : Fr) : titleL F (sB ({ data := #[32, 32, 32] } : ByteArray)) (({ data := #[32, 32, 32] } : ByteArray)).size = [] := pixT_blank (n := 3) (fun i hi => by
  rcases (show i = 0 ∨ i = 1 ∨ i = 2 by omega) with rfl | rfl | rfl <;> decide +kernel)
theorem ok_title {F : Fr} {L : List (Nat × Nat)} (h : F.ok = true) : (titleFr L F).ok = true := h
/-- Where the title's luma differs from the frame's. -/
theorem area_at {F : Fr} (hF : F.ok = true) {s : Nat → Int} {n j : Nat} (h : mY F.W.toNat (titleL F s n) j = true) : F.H - 7 ≤ (j : Int) / F.W ∧ (j : Int) / F.W ≤ F.H - 3 ∧ 2 ≤ (j : Int) % F.W := by
  obtain ⟨s1, s2, s3, s4, _⟩ := okSize_bd (ok_dims hF).1
  obtain ⟨Wn, hW⟩ := Int.eq_ofNat_of_zero_le (show 0 ≤ F.W by omega)
  obtain ⟨Hn, hH⟩ := Int.eq_ofNat_of_zero_le (show 0 ≤ F.H by omega)
  unfold titleL at h
  rw [hW, hH] at h ⊢
  simp only [Int.toNat_natCast] at h
  obtain ⟨a, b, c⟩ := title_area (by omega) h
  have e1 : ((j / Wn : Nat) : Int) = (j : Int) / (Wn : Int) := by simp
  have e2 : ((j % Wn : Nat) : Int) = (j : Int) % (Wn : Int) := by simp
  omega

set_option maxRecDepth 100000 in
set_option maxHeartbeats 4000000 in
theorem law_titlearea (v : Value) (t : Int) (w : World) (hv : RI w v) :
    Calls Try.prog 13 #[v, .int .i64 t] w fun e w' => e = .returned (.bool true) ∧ Below w.heap.size w w' := by
  have HV := Lib.hid hv
  obtain ⟨ao, n, c, rfl, _⟩ := hv
  obtain ⟨z1, z2⟩ := and_mask t 3 (by decide)
  obtain ⟨nn, hnn⟩ := Int.eq_ofNat_of_zero_le z1
  rw [hnn] at z2
  have hn4 : nn < 4 := by omega
  have hnn' : bits BinOp.and IntKind.i64 t 3 = (nn : Int) := hnn
  have HNN := Lib.hid hnn'
  clear z1 z2 hnn hnn'
  go_enter Try.func13, Try.ntmps13
  go_wp2_with fail
  refine (two_any _ _ HV.out).mono ?_
  rintro e w1 ⟨v, u, F, G, p, k, rfl, o2, o3, f1, f2, hs, e1, e2, e3, ht, hk, hb⟩
  have hFA := o2.FA
  have hGA := o3.FA
  have hpp : pairOk F G = true := pairOk_of f1 f2 e2.symm (by rw [e1, e3])
  have HPP := Lib.hid hpp
  have HAA := Lib.hid (pairOk_of f1 f1 rfl rfl)
  have HBB := Lib.hid (pairOk_of f2 f2 rfl rfl)
  have HQQ := Lib.hid (pairOk_of f2 f1 e2 (by rw [e1, e3]))
  obtain ⟨paY, caY, paU, caU, paV, caV, rfl⟩ := hFA.shape
  obtain ⟨pbY, cbY, pbU, cbU, pbV, cbV, rfl⟩ := hGA.shapeAs (Dim.of_pair hpp)
  have HP := Lib.hid (And.intro f1 (And.intro f2 (And.intro hs (And.intro e1 (And.intro e2 e3)))))
  have HT := Lib.hid (And.intro ht hk)
  skip
  skip
  have FA_a := Lib.hid hFA
  have FA_b := Lib.hid hGA
  have HE0 := Lib.hid hb
  clear o2 o3 f1 f2 e1 e2 e3 hFA hGA hb ht hk hs hpp
  go_upto_region 2 with fail
  obtain ⟨w2, hw⟩ : ∃ x, x = (w1.alloc (.cells #[.int .i64 F.W, .int .i64 F.H, .slice paY F.nY caY, .slice paU F.nU caU, .slice paV F.nV caV] 26)).alloc (.cells #[.int .i64 F.W, .int .i64 F.H, .slice pbY F.nY cbY, .slice pbU F.nU cbU, .slice pbV F.nV cbV] 26) := ⟨_, rfl⟩
  rw [← hw]
  have hE : Below w1.heap.size w1 w2 := by rw [hw]; go_grown
  have BX_a := Lib.hid (show BX w2 w1.heap.size _ _ _ _ _ by rw [hw]; exact (BX.of_alloc _ _ _ _ _ _ _).below (below_box _ _))
  have BX_b := Lib.hid (show BX w2 (w1.heap.size + 1) _ _ _ _ _ by rw [hw]; exact BX.of_alloc' _ _ _ _ _ _ _ _ (by simp))
  obtain ⟨bla, hba⟩ : ∃ b, b = w1.heap.size := ⟨_, rfl⟩
  obtain ⟨blb, hbb⟩ : ∃ b, b = w1.heap.size + 1 := ⟨_, rfl⟩
  rw [← hbb] at BX_b ⊢
  rw [← hba] at BX_a ⊢
  replace FA_a := Lib.hid (FA_a.out.below hE)
  replace FA_b := Lib.hid (FA_b.out.below hE)
  have HE1 := Lib.hid (HE0.out.trans (hE.mono HE0.out.size))
  clear hw hE hba hbb HE0
  have HB := HE1
  clear HE1
  have hnn := HNN.out
  have hqt : ∃ tx : ByteArray, (w2.alloc (.cells #[.string { data := #[65] }, .string { data := #[72, 69, 76, 76, 79] }, .string { data := #[48, 49, 50, 51, 52, 53, 54, 55, 56, 57] }, .string { data := #[109, 105, 120, 101, 100, 32, 67, 97, 115, 101, 63] }] 9)).cell? ⟨w2.heap.size, nn, none⟩ = some (.string tx) ∧ (#[.string { data := #[65] }, .string { data := #[72, 69, 76, 76, 79] }, .string { data := #[48, 49, 50, 51, 52, 53, 54, 55, 56, 57] }, .string { data := #[109, 105, 120, 101, 100, 32, 67, 97, 115, 101, 63] }] : Array Value)[nn]? = some (.string tx) ∧ okText tx = true ∧ tx.size ≤ 9223372036854775807 := by
    rcases (show nn = 0 ∨ nn = 1 ∨ nn = 2 ∨ nn = 3 by omega) with rfl | rfl | rfl | rfl
    · exact ⟨({ data := #[65] } : ByteArray), by simp [go_sem], rfl, by decide +kernel, by decide⟩
    · exact ⟨({ data := #[72, 69, 76, 76, 79] } : ByteArray), by simp [go_sem], rfl, by decide +kernel, by decide⟩
    · exact ⟨({ data := #[48, 49, 50, 51, 52, 53, 54, 55, 56, 57] } : ByteArray), by simp [go_sem], rfl, by decide +kernel, by decide⟩
    · exact ⟨({ data := #[109, 105, 120, 101, 100, 32, 67, 97, 115, 101, 63] } : ByteArray), by simp [go_sem], rfl, by decide +kernel, by decide⟩
  obtain ⟨tx, htx, htx2, hok, hts⟩ := hqt
  have HOK := Lib.hid hok
  have HTS := Lib.hid hts
  clear hok hts
  go_upto_region 3 with fail
  clear hnn htx2
  obtain ⟨w3, hw⟩ : ∃ x, x = w2.alloc (.cells #[.string { data := #[65] }, .string { data := #[72, 69, 76, 76, 79] }, .string { data := #[48, 49, 50, 51, 52, 53, 54, 55, 56, 57] }, .string { data := #[109, 105, 120, 101, 100, 32, 67, 97, 115, 101, 63] }] 9) := ⟨_, rfl⟩
  rw [← hw]
  have hE : Below w2.heap.size w2 w3 := by rw [hw]; exact below_box _ _
  have HE := Lib.hid hE
  clear hw hE htx
  replace FA_a := Lib.hid (FA_a.out.below HE.out)
  replace BX_a := Lib.hid (BX_a.out.below HE.out)
  replace FA_b := Lib.hid (FA_b.out.below HE.out)
  replace BX_b := Lib.hid (BX_b.out.below HE.out)
  replace HB := Lib.hid (HB.out.trans (HE.out.mono HB.out.size))
  clear HE
  obtain ⟨a0, a1, a2, a3, a4⟩ := BX_a.out
  go_wp2_with fail
  refine (title_yes _ F tx _ FA_a.out HP.out.1 HOK.out HTS.out).mono ?_
  rintro e w4 ⟨r, rfl, hf, hb⟩
  obtain ⟨XA, hX⟩ : ∃ X, X = titleFr (titleL F (sB tx) tx.size) F := ⟨_, rfl⟩
  rw [← hX] at hf
  have HX_x := Lib.hid hX
  obtain ⟨pxY, cxY, pxU, cxU, pxV, cxV, rfl⟩ := hf.shapeAs (show Dim XA F by rw [hX]; exact Dim.refl _)
  have FA_x := Lib.hid hf
  have HE := Lib.hid hb
  clear hb hf hX
  clear a0 a1 a2 a3 a4
  go_upto_region 4 with fail
  obtain ⟨w5, hw⟩ : ∃ x, x = w4.alloc (.cells #[.int .i64 F.W, .int .i64 F.H, .slice pxY F.nY cxY, .slice pxU F.nU cxU, .slice pxV F.nV cxV] 26) := ⟨_, rfl⟩
  rw [← hw]
  have hE : Below w4.heap.size w4 w5 := by rw [hw]; exact below_box _ _
  have BX_x := Lib.hid (show BX w5 w4.heap.size _ _ _ _ _ by rw [hw]; exact BX.of_alloc _ _ _ _ _ _ _)
  obtain ⟨blx, hbx⟩ : ∃ b, b = w4.heap.size := ⟨_, rfl⟩
  rw [← hbx] at BX_x ⊢
  replace FA_x := Lib.hid (FA_x.out.below hE)
  have HE2 := Lib.hid (HE.out.trans (hE.mono HE.out.size))
  clear hw hE hbx HE
  replace FA_a := Lib.hid (FA_a.out.below HE2.out)
  replace BX_a := Lib.hid (BX_a.out.below HE2.out)
  replace FA_b := Lib.hid (FA_b.out.below HE2.out)
  replace BX_b := Lib.hid (BX_b.out.below HE2.out)
  replace HB := Lib.hid (HB.out.trans (HE2.out.mono HB.out.size))
  clear HE2
  have HXO := Lib.hid (show XA.ok = true by rw [HX_x.out]; exact ok_title HP.out.1)
  obtain ⟨x0, x1, x2, x3, x4⟩ := BX_x.out
  go_wp2_with fail
  refine (title_yes _ XA tx _ FA_x.out HXO.out HOK.out HTS.out).mono ?_
  rintro e w6 ⟨r, rfl, hf, hb⟩
  obtain ⟨Y, hX⟩ : ∃ X, X = titleFr (titleL XA (sB tx) tx.size) XA := ⟨_, rfl⟩
  rw [← hX] at hf
  have HX_y := Lib.hid hX
  obtain ⟨pyY, cyY, pyU, cyU, pyV, cyV, rfl⟩ := hf.shapeAs (show Dim Y F by rw [hX]; exact (by rw [HX_x.out]; exact Dim.refl _))
  have FA_y := Lib.hid hf
  have HE := Lib.hid hb
  clear hb hf hX
  clear x0 x1 x2 x3 x4
  go_upto_region 5 with fail
  obtain ⟨w7, hw⟩ : ∃ x, x = w6.alloc (.cells #[.int .i64 F.W, .int .i64 F.H, .slice pyY F.nY cyY, .slice pyU F.nU cyU, .slice pyV F.nV cyV] 26) := ⟨_, rfl⟩
  rw [← hw]
  have hE : Below w6.heap.size w6 w7 := by rw [hw]; exact below_box _ _
  have BX_y := Lib.hid (show BX w7 w6.heap.size _ _ _ _ _ by rw [hw]; exact BX.of_alloc _ _ _ _ _ _ _)
  obtain ⟨bly, hby⟩ : ∃ b, b = w6.heap.size := ⟨_, rfl⟩
  rw [← hby] at BX_y ⊢
  replace FA_y := Lib.hid (FA_y.out.below hE)
  have HE2 := Lib.hid (HE.out.trans (hE.mono HE.out.size))
  clear hw hE hby HE
  replace FA_a := Lib.hid (FA_a.out.below HE2.out)
  replace BX_a := Lib.hid (BX_a.out.below HE2.out)
  replace FA_b := Lib.hid (FA_b.out.below HE2.out)
  replace BX_b := Lib.hid (BX_b.out.below HE2.out)
  replace FA_x := Lib.hid (FA_x.out.below HE2.out)
  replace BX_x := Lib.hid (BX_x.out.below HE2.out)
  replace HB := Lib.hid (HB.out.trans (HE2.out.mono HB.out.size))
  clear HE2
  obtain ⟨a0, a1, a2, a3, a4⟩ := BX_a.out
  go_wp2_with fail
  refine (title_yes _ F ({ data := #[32, 32, 32] } : ByteArray) _ FA_a.out HP.out.1 (by decide +kernel) (by decide)).mono ?_
  rintro e w8 ⟨r, rfl, hf, hb⟩
  obtain ⟨D, hX⟩ : ∃ X, X = titleFr (titleL F (sB ({ data := #[32, 32, 32] } : ByteArray)) (({ data := #[32, 32, 32] } : ByteArray)).size) F := ⟨_, rfl⟩
  rw [← hX] at hf
  have HX_d := Lib.hid hX
  obtain ⟨pdY, cdY, pdU, cdU, pdV, cdV, rfl⟩ := hf.shapeAs (show Dim D F by rw [hX]; exact Dim.refl _)
  have FA_d := Lib.hid hf
  have HE := Lib.hid hb
  clear hb hf hX
  clear a0 a1 a2 a3 a4
  go_upto_region 6 with fail
  obtain ⟨w9, hw⟩ : ∃ x, x = w8.alloc (.cells #[.int .i64 F.W, .int .i64 F.H, .slice pdY F.nY cdY, .slice pdU F.nU cdU, .slice pdV F.nV cdV] 26) := ⟨_, rfl⟩
  rw [← hw]
  have hE : Below w8.heap.size w8 w9 := by rw [hw]; exact below_box _ _
  have BX_d := Lib.hid (show BX w9 w8.heap.size _ _ _ _ _ by rw [hw]; exact BX.of_alloc _ _ _ _ _ _ _)
  obtain ⟨bld, hbd⟩ : ∃ b, b = w8.heap.size := ⟨_, rfl⟩
  rw [← hbd] at BX_d ⊢
  replace FA_d := Lib.hid (FA_d.out.below hE)
  have HE2 := Lib.hid (HE.out.trans (hE.mono HE.out.size))
  clear hw hE hbd HE
  replace FA_a := Lib.hid (FA_a.out.below HE2.out)
  replace BX_a := Lib.hid (BX_a.out.below HE2.out)
  replace FA_b := Lib.hid (FA_b.out.below HE2.out)
  replace BX_b := Lib.hid (BX_b.out.below HE2.out)
  replace FA_x := Lib.hid (FA_x.out.below HE2.out)
  replace BX_x := Lib.hid (BX_x.out.below HE2.out)
  replace FA_y := Lib.hid (FA_y.out.below HE2.out)
  replace BX_y := Lib.hid (BX_y.out.below HE2.out)
  replace HB := Lib.hid (HB.out.trans (HE2.out.mono HB.out.size))
  clear HE2
  obtain ⟨x0, x1, x2, x3, x4⟩ := BX_x.out
  obtain ⟨y0, y1, y2, y3, y4⟩ := BX_y.out
  go_wp2_with fail
  refine (same_yes _ _ XA Y _ FA_x.out FA_y.out (by rw [HX_y.out, HX_x.out]; exact title_twice _ _)).mono ?_
  rintro e w10 ⟨rfl, hb⟩
  have HE := Lib.hid hb
  clear hb
  clear x0 x1 x2 x3 x4 y0 y1 y2 y3 y4
  replace FA_a := Lib.hid (FA_a.out.below HE.out)
  replace BX_a := Lib.hid (BX_a.out.below HE.out)
  replace FA_b := Lib.hid (FA_b.out.below HE.out)
  replace BX_b := Lib.hid (BX_b.out.below HE.out)
  replace FA_x := Lib.hid (FA_x.out.below HE.out)
  replace BX_x := Lib.hid (BX_x.out.below HE.out)
  replace FA_y := Lib.hid (FA_y.out.below HE.out)
  replace BX_y := Lib.hid (BX_y.out.below HE.out)
  replace FA_d := Lib.hid (FA_d.out.below HE.out)
  replace BX_d := Lib.hid (BX_d.out.below HE.out)
  replace HB := Lib.hid (HB.out.trans (HE.out.mono HB.out.size))
  clear HE
  obtain ⟨a0, a1, a2, a3, a4⟩ := BX_a.out
  obtain ⟨d0, d1, d2, d3, d4⟩ := BX_d.out
  go_wp2_with fail
  refine (same_yes _ _ F D _ FA_a.out FA_d.out (by rw [HX_d.out, blanks]; exact frSame_blank _)).mono ?_
  rintro e w11 ⟨rfl, hb⟩
  have HE := Lib.hid hb
  clear hb
  clear a0 a1 a2 a3 a4 d0 d1 d2 d3 d4
  replace FA_a := Lib.hid (FA_a.out.below HE.out)
  replace BX_a := Lib.hid (BX_a.out.below HE.out)
  replace FA_b := Lib.hid (FA_b.out.below HE.out)
  replace BX_b := Lib.hid (BX_b.out.below HE.out)
  replace FA_x := Lib.hid (FA_x.out.below HE.out)
  replace BX_x := Lib.hid (BX_x.out.below HE.out)
  replace FA_y := Lib.hid (FA_y.out.below HE.out)
  replace BX_y := Lib.hid (BX_y.out.below HE.out)
  replace FA_d := Lib.hid (FA_d.out.below HE.out)
  replace BX_d := Lib.hid (BX_d.out.below HE.out)
  replace HB := Lib.hid (HB.out.trans (HE.out.mono HB.out.size))
  clear HE
  obtain ⟨x0, x1, x2, x3, x4⟩ := BX_x.out
  obtain ⟨a0, a1, a2, a3, a4⟩ := BX_a.out
  go_wp2_with fail
  clear x0 x1 x2 x3 x4 a0 a1 a2 a3 a4
  have fb : 256 ≤ F.nY ∧ F.nY ≤ 4096 := ⟨(ok_bd HP.out.1).1, (ok_bd HP.out.1).2.1⟩
  obtain ⟨s1, s2, s3, s4, _⟩ := okSize_bd (ok_dims HP.out.1).1
  have fx : XA.nY = F.nY := by rw [HX_x.out]; rfl
  have lb : ∀ j, j < F.nY → XA.Y j = F.Y j ∨ (XA.Y j = 235 ∧ ¬ F.Y j = 235 ∧ F.H - 7 ≤ (j : Int) / F.W ∧ (j : Int) / F.W ≤ F.H - 3 ∧ 2 ≤ (j : Int) % F.W) := by
    intro j hj
    rw [HX_x.out]
    simp only [titleFr, pY]
    by_cases hm : mY F.W.toNat (titleL F (sB tx) tx.size) j = true
    · by_cases e : F.Y j = 235
      · exact .inl (by rw [if_pos hm, e])
      · exact .inr ⟨by rw [if_pos hm], e, area_at HP.out.1 hm⟩
    · exact .inl (by rw [if_neg hm])
  have HL := Lib.hid lb
  obtain ⟨q1, o1, rfl, hx⟩ := FA_x.out.plane.1 (by omega)
  obtain ⟨q2, o2, rfl, ha⟩ := FA_a.out.plane.1 (by omega)
  rw [fx] at hx
  have HC := Lib.hid (And.intro hx ha)
  clear hx ha lb fx
  go_loopw [4, 79] (fun r i wr => r = .bool false ∧ ∃ j : Nat, j ≤ F.nY ∧ i = .int .i64 (j : Int) ∧ Below w11.heap.size w11 wr) (fun _ i _ => F.nY - (intOf i).toNat)
  case atStart => exact ⟨rfl, 0, by omega, rfl, Below.refl _ _⟩
  case round =>
    obtain ⟨rfl, j, hj, rfl, hb⟩ := hrel
    by_cases hlt : j < F.nY
    · have a0 := (hb.cell (p := ⟨bla, 0, none⟩) BX_a.out.lt).trans BX_a.out.k0
      have a1 := (hb.cell (p := ⟨bla, 1, none⟩) BX_a.out.lt).trans BX_a.out.k1
      have a2 := (hb.cell (p := ⟨bla, 2, none⟩) BX_a.out.lt).trans BX_a.out.k2
      have x2 := (hb.cell (p := ⟨blx, 2, none⟩) BX_x.out.lt).trans BX_x.out.k2
      have ya := (hb.cell (p := ⟨q2, o2 + j, none⟩) (block_lt_of_cell (HC.out.2 j hlt))).trans (HC.out.2 j hlt)
      have yx := (hb.cell (p := ⟨q1, o1 + j, none⟩) (block_lt_of_cell (HC.out.1 j hlt))).trans (HC.out.1 j hlt)
      have HBW := Lib.hid hb
      clear hb
      obtain ⟨rw', hrw⟩ : ∃ z, (j : Int) / F.W = z := ⟨_, rfl⟩
      obtain ⟨rm, hrm⟩ : ∃ z, (j : Int) % F.W = z := ⟨_, rfl⟩
      have u1 : 0 ≤ rw' := by rw [← hrw]; exact Int.ediv_nonneg (by omega) (by omega)
      have u2 : 0 ≤ rm := by rw [← hrm]; exact Int.emod_nonneg _ (by omega)
      have u3 : rw' ≤ 4096 := by rw [← hrw]; exact Int.le_trans (Int.ediv_le_self _ (by omega)) (by omega)
      rcases HL.out j hlt with hc | ⟨hc, d0, d1, d2, d3⟩
      · rw [hc] at yx
        clear hc
        go_wp2_with fail
        refine Plan.wp_region_plan (fun w' => w'.cell? ⟨bla, 0, none⟩ = some (.int .i64 F.W) ∧ w'.cell? ⟨bla, 1, none⟩ = some (.int .i64 F.H) ∧ w'.cell? ⟨bla, 2, none⟩ = some (.slice (some ⟨q2, o2, none⟩) F.nY caY) ∧ w'.cell? ⟨blx, 2, none⟩ = some (.slice (some ⟨q1, o1, none⟩) F.nY cxY) ∧ w'.cell? ⟨q2, o2 + j, none⟩ = some (.int .u8 (F.Y j)) ∧ w'.cell? ⟨q1, o1 + j, none⟩ = some (.int .u8 (F.Y j))) (([0, 1, 2, 3, 4, 5, 6, 7, 8, 9, 10, 11, 12, 13, 14, 15, 16, 17, 18, 19, 20, 21, 22, 23, 24, 25, 26, 27, 28, 29, 30, 31, 32, 33, 34, 35, 36, 37, 38, 39].map (·, true))) (by kernel_rfl) (by kernel_rfl) (by kernel_rfl) (by exact ⟨a0, a1, a2, x2, ya, yx⟩) ?_
        refine' Plan.plan_seg _ [0, 1, 2, 3, 4, 5, 6, 7, 8, 9, 10, 11, 12, 13, 14, 15, 16, 17, 18, 19, 20, 21, 22, 23, 24, 25, 26, 27, 28, 29, 30, 31, 32, 33, 34, 35, 36, 37, 38, 39] ([]) (by kernel_rfl) (by kernel_rfl) rfl (by exact ⟨a0, a1, a2, x2, ya, yx⟩) (fun wx hS => ?_) ?_
        rotate_left
        · obtain ⟨x1, x2, x3, x4, x5, x6⟩ := hS
          go_light
          iterate 40 (apply Plan.seg_pick; rfl; intro K hK; go_wp; try any_goals (exfalso; rename_i hx1 _; exact absurd hx1 (by simp [undef]); done))
          exact Plan.seg_nil
        refine Plan.plan_done ?_
        go_wp2_with fail
        go_roundw
        case rel => exact ⟨rfl, j + 1, by omega, by go_num, HBW.out.drew⟩
        case measure => simp [intOf]; omega
      · rw [hc] at yx
        clear hc
        rw [hrw] at d1 d2
        rw [hrm] at d3
        have k1 : decide (rw' < F.H - 7) = false := by simp; omega
        have k2 : decide (F.H - 3 < rw') = false := by simp; omega
        have k4 : (F.Y j == 235) = false := by simpa using d0
        have k5 : (F.Y j != 235) = true := by simpa using d0
        have k3 : decide (rm < 2) = false := by simp; omega
        go_wp2_with fail
        refine Plan.wp_region_plan (fun w' => w'.cell? ⟨bla, 0, none⟩ = some (.int .i64 F.W) ∧ w'.cell? ⟨bla, 1, none⟩ = some (.int .i64 F.H) ∧ w'.cell? ⟨bla, 2, none⟩ = some (.slice (some ⟨q2, o2, none⟩) F.nY caY) ∧ w'.cell? ⟨blx, 2, none⟩ = some (.slice (some ⟨q1, o1, none⟩) F.nY cxY) ∧ w'.cell? ⟨q2, o2 + j, none⟩ = some (.int .u8 (F.Y j)) ∧ w'.cell? ⟨q1, o1 + j, none⟩ = some (.int .u8 (235))) (([0, 1, 2, 3, 4, 5, 6, 7, 8, 9, 10, 11, 12, 13, 14, 15, 16, 17, 18, 19, 20, 21, 22, 23, 24, 25, 26, 27, 28, 29, 30, 31, 32, 33, 34, 35, 36, 37, 38, 39].map (·, true))) (by kernel_rfl) (by kernel_rfl) (by kernel_rfl) (by exact ⟨a0, a1, a2, x2, ya, yx⟩) ?_
        refine' Plan.plan_seg _ [0, 1, 2, 3, 4, 5, 6, 7, 8, 9, 10, 11, 12, 13, 14, 15, 16, 17, 18, 19, 20, 21, 22, 23, 24, 25, 26, 27, 28, 29, 30, 31, 32, 33, 34, 35, 36, 37, 38, 39] ([]) (by kernel_rfl) (by kernel_rfl) rfl (by exact ⟨a0, a1, a2, x2, ya, yx⟩) (fun wx hS => ?_) ?_
        rotate_left
        · obtain ⟨x1, x2, x3, x4, x5, x6⟩ := hS
          go_light
          iterate 40 (apply Plan.seg_pick; rfl; intro K hK; go_wp)
          exact Plan.seg_nil
        refine Plan.plan_done ?_
        go_wp2_with fail
        go_roundw
        case rel => exact ⟨rfl, j + 1, by omega, by go_num, HBW.out.drew⟩
        case measure => simp [intOf]; omega
    · obtain rfl : j = F.nY := by omega
      have HBW := Lib.hid hb
      clear hb
      go_wp2_with fail
      refine (awake_any _).mono ?_
      rintro e w5 ⟨rfl, hb5⟩
      have HB5 := Lib.hid hb5
      clear hb5
      go_wp2_with fail
      go_ret
      exact ⟨rfl, HB.out.trans ((HBW.out.trans (HB5.out.mono HBW.out.size)).mono HB.out.size)⟩

end Go.Proofs.Ytnnobdcbmagbaaa
