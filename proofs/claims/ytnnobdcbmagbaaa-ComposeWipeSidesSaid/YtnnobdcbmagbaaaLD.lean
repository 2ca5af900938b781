/- The contract of cutroomlaw26.ComposeWipeSides: it answers true. -/
import Derived.Test.YtnnobdcbmagbaaaPB
import Derived.Deep.Cut
import Derived.Deep.Light
namespace Go.Proofs.Ytnnobdcbmagbaaa
open Go.RowKit

set_option maxRecDepth 100000 in
set_option maxHeartbeats 4000000 in
theorem law_wipesides_false (v : Value) (pos : Int) (w : World) (hv : RI w v) :
    Calls Try.prog 8 #[v, .int .i64 pos, .bool false] w fun e w' => e = .returned (.bool true) ∧ Below w.heap.size w w' := by
  have HV := Lib.hid hv
  obtain ⟨ao, n, c, rfl, _⟩ := hv
  obtain ⟨z1, z2⟩ := and_mask pos 7 (by decide)
  go_enter Try.func8, Try.ntmps8
  go_wp2_with fail
  refine (two_any _ _ HV.out).mono ?_
  rintro e w1 ⟨v, u, F, G, p, k, rfl, o2, o3, f1, f2, hs, e1, e2, e3, ht, hk, hb⟩
  have hFA := o2.FA
  have hGA := o3.FA
  have hpp : pairOk F G = true := pairOk_of f1 f2 e2.symm (by rw [e1, e3])
  have HPP := Lib.hid hpp
  have HAA := Lib.hid (pairOk_of f1 f1 rfl rfl)
  have HBB := Lib.hid (pairOk_of f2 f2 rfl rfl)
  have HQQ := Lib.hid (pairOk_of f2 f1 e2 (by rw [e1, e3]))
  obtain ⟨paY, caY, paU, caU, paV, caV, rfl⟩ := hFA.shape
  obtain ⟨pbY, cbY, pbU, cbU, pbV, cbV, rfl⟩ := hGA.shapeAs (Dim.of_pair hpp)
  have HP := Lib.hid (And.intro f1 (And.intro f2 (And.intro hs (And.intro e1 (And.intro e2 e3)))))
  have HT := Lib.hid (And.intro ht hk)
  have FA_a := Lib.hid hFA
  have FA_b := Lib.hid hGA
  have HB := Lib.hid hb
  clear o2 o3 f1 f2 e1 e2 e3 hFA hGA hb ht hk hs hpp
  go_upto_region 2 with fail
  obtain ⟨w2, hw⟩ : ∃ x, x = (w1.alloc (.cells #[.int .i64 F.W, .int .i64 F.H, .slice paY F.nY caY, .slice paU F.nU caU, .slice paV F.nV caV] 26)).alloc (.cells #[.int .i64 F.W, .int .i64 F.H, .slice pbY F.nY cbY, .slice pbU F.nU cbU, .slice pbV F.nV cbV] 26) := ⟨_, rfl⟩
  rw [← hw]
  have hE : Below w1.heap.size w1 w2 := by rw [hw]; go_grown
  have BX_a := Lib.hid (show BX w2 w1.heap.size _ _ _ _ _ by rw [hw]; exact (BX.of_alloc _ _ _ _ _ _ _).below (below_box _ _))
  have BX_b := Lib.hid (show BX w2 (w1.heap.size + 1) _ _ _ _ _ by rw [hw]; exact BX.of_alloc' _ _ _ _ _ _ _ _ (by simp))
  obtain ⟨bla, hba⟩ : ∃ b, b = w1.heap.size := ⟨_, rfl⟩
  obtain ⟨blb, hbb⟩ : ∃ b, b = w1.heap.size + 1 := ⟨_, rfl⟩
  rw [← hbb] at BX_b ⊢
  rw [← hba] at BX_a ⊢
  replace FA_a := Lib.hid (FA_a.out.below hE)
  replace FA_b := Lib.hid (FA_b.out.below hE)
  replace HB := Lib.hid (HB.out.trans (hE.mono HB.out.size))
  clear hw hE hba hbb
  go_upto_region 6 with fail
  obtain ⟨nn, hnn⟩ : ∃ nn, nn = bits BinOp.and IntKind.i64 pos 7 := ⟨_, rfl⟩
  rw [show ((7 : Nat) : Int) = 7 from rfl, ← hnn] at z1 z2
  rw [← hnn]
  clear hnn
  obtain ⟨a0, a1, a2, a3, a4⟩ := BX_a.out
  obtain ⟨b0, b1, b2, b3, b4⟩ := BX_b.out
  go_wp2_with fail
  refine (wipe_yes _ _ F G nn 8 0 _ FA_a.out FA_b.out HPP.out (okShare_of (by omega) (by omega) z1 (by omega)) (by decide)).mono ?_
  rintro e w3 ⟨r, rfl, hf, hb⟩
  obtain ⟨X, hX⟩ : ∃ X, X = wipeFr nn 8 0 F G := ⟨_, rfl⟩
  rw [← hX] at hf
  have HX_x := Lib.hid hX
  obtain ⟨pxY, cxY, pxU, cxU, pxV, cxV, rfl⟩ := hf.shapeAs (show Dim X F by rw [hX]; exact Dim.refl _)
  have FA_x := Lib.hid hf
  have HE := Lib.hid hb
  clear hb hf hX
  clear a0 a1 a2 a3 a4 b0 b1 b2 b3 b4
  go_upto_region 7 with fail
  obtain ⟨w4, hw⟩ : ∃ x, x = w3.alloc (.cells #[.int .i64 F.W, .int .i64 F.H, .slice pxY F.nY cxY, .slice pxU F.nU cxU, .slice pxV F.nV cxV] 26) := ⟨_, rfl⟩
  rw [← hw]
  have hE : Below w3.heap.size w3 w4 := by rw [hw]; exact below_box _ _
  have BX_x := Lib.hid (show BX w4 w3.heap.size _ _ _ _ _ by rw [hw]; exact BX.of_alloc _ _ _ _ _ _ _)
  obtain ⟨blx, hbx⟩ : ∃ b, b = w3.heap.size := ⟨_, rfl⟩
  rw [← hbx] at BX_x ⊢
  replace FA_x := Lib.hid (FA_x.out.below hE)
  have HE2 := Lib.hid (HE.out.trans (hE.mono HE.out.size))
  clear hw hE hbx HE
  replace FA_a := Lib.hid (FA_a.out.below HE2.out)
  replace BX_a := Lib.hid (BX_a.out.below HE2.out)
  replace FA_b := Lib.hid (FA_b.out.below HE2.out)
  replace BX_b := Lib.hid (BX_b.out.below HE2.out)
  replace HB := Lib.hid (HB.out.trans (HE2.out.mono HB.out.size))
  clear HE2
  obtain ⟨a0, a1, a2, a3, a4⟩ := BX_a.out
  obtain ⟨b0, b1, b2, b3, b4⟩ := BX_b.out
  go_wp2_with fail
  refine (wipe_yes _ _ G F (8 - nn) 8 1 _ FA_b.out FA_a.out HQQ.out (okShare_of (by omega) (by omega) (by omega) (by omega)) (by decide)).mono ?_
  rintro e w5 ⟨r, rfl, hf, hb⟩
  obtain ⟨Y, hX⟩ : ∃ X, X = wipeFr (8 - nn) 8 1 G F := ⟨_, rfl⟩
  rw [← hX] at hf
  have HX_y := Lib.hid hX
  obtain ⟨pyY, cyY, pyU, cyU, pyV, cyV, rfl⟩ := hf.shapeAs (show Dim Y F by rw [hX]; exact Dim.of_pair HPP.out)
  have FA_y := Lib.hid hf
  have HE := Lib.hid hb
  clear hb hf hX
  clear a0 a1 a2 a3 a4 b0 b1 b2 b3 b4
  go_upto_region 8 with fail
  obtain ⟨w6, hw⟩ : ∃ x, x = w5.alloc (.cells #[.int .i64 F.W, .int .i64 F.H, .slice pyY F.nY cyY, .slice pyU F.nU cyU, .slice pyV F.nV cyV] 26) := ⟨_, rfl⟩
  rw [← hw]
  have hE : Below w5.heap.size w5 w6 := by rw [hw]; exact below_box _ _
  have BX_y := Lib.hid (show BX w6 w5.heap.size _ _ _ _ _ by rw [hw]; exact BX.of_alloc _ _ _ _ _ _ _)
  obtain ⟨bly, hby⟩ : ∃ b, b = w5.heap.size := ⟨_, rfl⟩
  rw [← hby] at BX_y ⊢
  replace FA_y := Lib.hid (FA_y.out.below hE)
  have HE2 := Lib.hid (HE.out.trans (hE.mono HE.out.size))
  clear hw hE hby HE
  replace FA_a := Lib.hid (FA_a.out.below HE2.out)
  replace BX_a := Lib.hid (BX_a.out.below HE2.out)
  replace FA_b := Lib.hid (FA_b.out.below HE2.out)
  replace BX_b := Lib.hid (BX_b.out.below HE2.out)
  replace FA_x := Lib.hid (FA_x.out.below HE2.out)
  replace BX_x := Lib.hid (BX_x.out.below HE2.out)
  replace HB := Lib.hid (HB.out.trans (HE2.out.mono HB.out.size))
  clear HE2
  obtain ⟨a0, a1, a2, a3, a4⟩ := BX_a.out
  obtain ⟨b0, b1, b2, b3, b4⟩ := BX_b.out
  go_wp2_with fail
  refine (wipe_yes _ _ F G 0 8 0 _ FA_a.out FA_b.out HPP.out (okShare_of (by omega) (by omega) (by omega) (by omega)) (by decide)).mono ?_
  rintro e w7 ⟨r, rfl, hf, hb⟩
  obtain ⟨P, hX⟩ : ∃ X, X = wipeFr 0 8 0 F G := ⟨_, rfl⟩
  rw [← hX] at hf
  have HX_p := Lib.hid hX
  obtain ⟨ppY, cpY, ppU, cpU, ppV, cpV, rfl⟩ := hf.shapeAs (show Dim P F by rw [hX]; exact Dim.refl _)
  have FA_p := Lib.hid hf
  have HE := Lib.hid hb
  clear hb hf hX
  clear a0 a1 a2 a3 a4 b0 b1 b2 b3 b4
  go_upto_region 9 with fail
  obtain ⟨w8, hw⟩ : ∃ x, x = w7.alloc (.cells #[.int .i64 F.W, .int .i64 F.H, .slice ppY F.nY cpY, .slice ppU F.nU cpU, .slice ppV F.nV cpV] 26) := ⟨_, rfl⟩
  rw [← hw]
  have hE : Below w7.heap.size w7 w8 := by rw [hw]; exact below_box _ _
  have BX_p := Lib.hid (show BX w8 w7.heap.size _ _ _ _ _ by rw [hw]; exact BX.of_alloc _ _ _ _ _ _ _)
  obtain ⟨blp, hbp⟩ : ∃ b, b = w7.heap.size := ⟨_, rfl⟩
  rw [← hbp] at BX_p ⊢
  replace FA_p := Lib.hid (FA_p.out.below hE)
  have HE2 := Lib.hid (HE.out.trans (hE.mono HE.out.size))
  clear hw hE hbp HE
  replace FA_a := Lib.hid (FA_a.out.below HE2.out)
  replace BX_a := Lib.hid (BX_a.out.below HE2.out)
  replace FA_b := Lib.hid (FA_b.out.below HE2.out)
  replace BX_b := Lib.hid (BX_b.out.below HE2.out)
  replace FA_x := Lib.hid (FA_x.out.below HE2.out)
  replace BX_x := Lib.hid (BX_x.out.below HE2.out)
  replace FA_y := Lib.hid (FA_y.out.below HE2.out)
  replace BX_y := Lib.hid (BX_y.out.below HE2.out)
  replace HB := Lib.hid (HB.out.trans (HE2.out.mono HB.out.size))
  clear HE2
  obtain ⟨a0, a1, a2, a3, a4⟩ := BX_a.out
  obtain ⟨b0, b1, b2, b3, b4⟩ := BX_b.out
  go_wp2_with fail
  refine (wipe_yes _ _ F G 8 8 0 _ FA_a.out FA_b.out HPP.out (okShare_of (by omega) (by omega) (by omega) (by omega)) (by decide)).mono ?_
  rintro e w9 ⟨r, rfl, hf, hb⟩
  obtain ⟨Q, hX⟩ : ∃ X, X = wipeFr 8 8 0 F G := ⟨_, rfl⟩
  rw [← hX] at hf
  have HX_q := Lib.hid hX
  obtain ⟨pqY, cqY, pqU, cqU, pqV, cqV, rfl⟩ := hf.shapeAs (show Dim Q F by rw [hX]; exact Dim.refl _)
  have FA_q := Lib.hid hf
  have HE := Lib.hid hb
  clear hb hf hX
  clear a0 a1 a2 a3 a4 b0 b1 b2 b3 b4
  go_upto_region 10 with fail
  obtain ⟨w10, hw⟩ : ∃ x, x = w9.alloc (.cells #[.int .i64 F.W, .int .i64 F.H, .slice pqY F.nY cqY, .slice pqU F.nU cqU, .slice pqV F.nV cqV] 26) := ⟨_, rfl⟩
  rw [← hw]
  have hE : Below w9.heap.size w9 w10 := by rw [hw]; exact below_box _ _
  have BX_q := Lib.hid (show BX w10 w9.heap.size _ _ _ _ _ by rw [hw]; exact BX.of_alloc _ _ _ _ _ _ _)
  obtain ⟨blq, hbq⟩ : ∃ b, b = w9.heap.size := ⟨_, rfl⟩
  rw [← hbq] at BX_q ⊢
  replace FA_q := Lib.hid (FA_q.out.below hE)
  have HE2 := Lib.hid (HE.out.trans (hE.mono HE.out.size))
  clear hw hE hbq HE
  replace FA_a := Lib.hid (FA_a.out.below HE2.out)
  replace BX_a := Lib.hid (BX_a.out.below HE2.out)
  replace FA_b := Lib.hid (FA_b.out.below HE2.out)
  replace BX_b := Lib.hid (BX_b.out.below HE2.out)
  replace FA_x := Lib.hid (FA_x.out.below HE2.out)
  replace BX_x := Lib.hid (BX_x.out.below HE2.out)
  replace FA_y := Lib.hid (FA_y.out.below HE2.out)
  replace BX_y := Lib.hid (BX_y.out.below HE2.out)
  replace FA_p := Lib.hid (FA_p.out.below HE2.out)
  replace BX_p := Lib.hid (BX_p.out.below HE2.out)
  replace HB := Lib.hid (HB.out.trans (HE2.out.mono HB.out.size))
  clear HE2
  obtain ⟨x0, x1, x2, x3, x4⟩ := BX_x.out
  obtain ⟨y0, y1, y2, y3, y4⟩ := BX_y.out
  go_wp2_with fail
  refine (same_yes _ _ X Y _ FA_x.out FA_y.out (by rw [HX_x.out, HX_y.out]; exact wipe_mirror HPP.out HP.out.2.2.1)).mono ?_
  rintro e w11 ⟨rfl, hb⟩
  have HE := Lib.hid hb
  clear hb
  clear x0 x1 x2 x3 x4 y0 y1 y2 y3 y4
  replace FA_a := Lib.hid (FA_a.out.below HE.out)
  replace BX_a := Lib.hid (BX_a.out.below HE.out)
  replace FA_b := Lib.hid (FA_b.out.below HE.out)
  replace BX_b := Lib.hid (BX_b.out.below HE.out)
  replace FA_x := Lib.hid (FA_x.out.below HE.out)
  replace BX_x := Lib.hid (BX_x.out.below HE.out)
  replace FA_y := Lib.hid (FA_y.out.below HE.out)
  replace BX_y := Lib.hid (BX_y.out.below HE.out)
  replace FA_p := Lib.hid (FA_p.out.below HE.out)
  replace BX_p := Lib.hid (BX_p.out.below HE.out)
  replace FA_q := Lib.hid (FA_q.out.below HE.out)
  replace BX_q := Lib.hid (BX_q.out.below HE.out)
  replace HB := Lib.hid (HB.out.trans (HE.out.mono HB.out.size))
  clear HE
  obtain ⟨p0, p1, p2, p3, p4⟩ := BX_p.out
  obtain ⟨a0, a1, a2, a3, a4⟩ := BX_a.out
  go_wp2_with fail
  refine (same_yes _ _ P F _ FA_p.out FA_a.out (by rw [HX_p.out]; exact wipe_zero HP.out.1 (by decide))).mono ?_
  rintro e w12 ⟨rfl, hb⟩
  have HE := Lib.hid hb
  clear hb
  clear p0 p1 p2 p3 p4 a0 a1 a2 a3 a4
  replace FA_a := Lib.hid (FA_a.out.below HE.out)
  replace BX_a := Lib.hid (BX_a.out.below HE.out)
  replace FA_b := Lib.hid (FA_b.out.below HE.out)
  replace BX_b := Lib.hid (BX_b.out.below HE.out)
  replace FA_x := Lib.hid (FA_x.out.below HE.out)
  replace BX_x := Lib.hid (BX_x.out.below HE.out)
  replace FA_y := Lib.hid (FA_y.out.below HE.out)
  replace BX_y := Lib.hid (BX_y.out.below HE.out)
  replace FA_p := Lib.hid (FA_p.out.below HE.out)
  replace BX_p := Lib.hid (BX_p.out.below HE.out)
  replace FA_q := Lib.hid (FA_q.out.below HE.out)
  replace BX_q := Lib.hid (BX_q.out.below HE.out)
  replace HB := Lib.hid (HB.out.trans (HE.out.mono HB.out.size))
  clear HE
  obtain ⟨q0, q1, q2, q3, q4⟩ := BX_q.out
  obtain ⟨b0, b1, b2, b3, b4⟩ := BX_b.out
  go_wp2_with fail
  refine (same_yes _ _ Q G _ FA_q.out FA_b.out (by rw [HX_q.out]; exact wipe_full HPP.out)).mono ?_
  rintro e w13 ⟨rfl, hb⟩
  have HE := Lib.hid hb
  clear hb
  clear q0 q1 q2 q3 q4 b0 b1 b2 b3 b4
  replace FA_a := Lib.hid (FA_a.out.below HE.out)
  replace BX_a := Lib.hid (BX_a.out.below HE.out)
  replace FA_b := Lib.hid (FA_b.out.below HE.out)
  replace BX_b := Lib.hid (BX_b.out.below HE.out)
  replace FA_x := Lib.hid (FA_x.out.below HE.out)
  replace BX_x := Lib.hid (BX_x.out.below HE.out)
  replace FA_y := Lib.hid (FA_y.out.below HE.out)
  replace BX_y := Lib.hid (BX_y.out.below HE.out)
  replace FA_p := Lib.hid (FA_p.out.below HE.out)
  replace BX_p := Lib.hid (BX_p.out.below HE.out)
  replace FA_q := Lib.hid (FA_q.out.below HE.out)
  replace BX_q := Lib.hid (BX_q.out.below HE.out)
  replace HB := Lib.hid (HB.out.trans (HE.out.mono HB.out.size))
  clear HE
  go_wp2_with fail
  refine (awake_any _).mono ?_
  rintro e wz ⟨rfl, hb5⟩
  have HB5 := Lib.hid hb5
  clear hb5
  go_wp2_with fail
  go_ret
  exact ⟨rfl, HB.out.trans (HB5.out.mono HB.out.size)⟩

set_option maxRecDepth 100000 in
set_option maxHeartbeats 4000000 in
theorem law_wipesides_true (v : Value) (pos : Int) (w : World) (hv : RI w v) :
    Calls Try.prog 8 #[v, .int .i64 pos, .bool true] w fun e w' => e = .returned (.bool true) ∧ Below w.heap.size w w' := by
  have HV := Lib.hid hv
  obtain ⟨ao, n, c, rfl, _⟩ := hv
  obtain ⟨z1, z2⟩ := and_mask pos 7 (by decide)
  go_enter Try.func8, Try.ntmps8
  go_wp2_with fail
  refine (two_any _ _ HV.out).mono ?_
  rintro e w1 ⟨v, u, F, G, p, k, rfl, o2, o3, f1, f2, hs, e1, e2, e3, ht, hk, hb⟩
  have hFA := o2.FA
  have hGA := o3.FA
  have hpp : pairOk F G = true := pairOk_of f1 f2 e2.symm (by rw [e1, e3])
  have HPP := Lib.hid hpp
  have HAA := Lib.hid (pairOk_of f1 f1 rfl rfl)
  have HBB := Lib.hid (pairOk_of f2 f2 rfl rfl)
  have HQQ := Lib.hid (pairOk_of f2 f1 e2 (by rw [e1, e3]))
  obtain ⟨paY, caY, paU, caU, paV, caV, rfl⟩ := hFA.shape
  obtain ⟨pbY, cbY, pbU, cbU, pbV, cbV, rfl⟩ := hGA.shapeAs (Dim.of_pair hpp)
  have HP := Lib.hid (And.intro f1 (And.intro f2 (And.intro hs (And.intro e1 (And.intro e2 e3)))))
  have HT := Lib.hid (And.intro ht hk)
  have FA_a := Lib.hid hFA
  have FA_b := Lib.hid hGA
  have HB := Lib.hid hb
  clear o2 o3 f1 f2 e1 e2 e3 hFA hGA hb ht hk hs hpp
  go_upto_region 2 with fail
  obtain ⟨w2, hw⟩ : ∃ x, x = (w1.alloc (.cells #[.int .i64 F.W, .int .i64 F.H, .slice paY F.nY caY, .slice paU F.nU caU, .slice paV F.nV caV] 26)).alloc (.cells #[.int .i64 F.W, .int .i64 F.H, .slice pbY F.nY cbY, .slice pbU F.nU cbU, .slice pbV F.nV cbV] 26) := ⟨_, rfl⟩
  rw [← hw]
  have hE : Below w1.heap.size w1 w2 := by rw [hw]; go_grown
  have BX_a := Lib.hid (show BX w2 w1.heap.size _ _ _ _ _ by rw [hw]; exact (BX.of_alloc _ _ _ _ _ _ _).below (below_box _ _))
  have BX_b := Lib.hid (show BX w2 (w1.heap.size + 1) _ _ _ _ _ by rw [hw]; exact BX.of_alloc' _ _ _ _ _ _ _ _ (by simp))
  obtain ⟨bla, hba⟩ : ∃ b, b = w1.heap.size := ⟨_, rfl⟩
  obtain ⟨blb, hbb⟩ : ∃ b, b = w1.heap.size + 1 := ⟨_, rfl⟩
  rw [← hbb] at BX_b ⊢
  rw [← hba] at BX_a ⊢
  replace FA_a := Lib.hid (FA_a.out.below hE)
  replace FA_b := Lib.hid (FA_b.out.below hE)
  replace HB := Lib.hid (HB.out.trans (hE.mono HB.out.size))
  clear hw hE hba hbb
  go_upto_region 6 with fail
  obtain ⟨nn, hnn⟩ : ∃ nn, nn = bits BinOp.and IntKind.i64 pos 7 := ⟨_, rfl⟩
  rw [show ((7 : Nat) : Int) = 7 from rfl, ← hnn] at z1 z2
  rw [← hnn]
  clear hnn
  obtain ⟨a0, a1, a2, a3, a4⟩ := BX_a.out
  obtain ⟨b0, b1, b2, b3, b4⟩ := BX_b.out
  go_wp2_with fail
  refine (wipe_yes _ _ F G nn 8 2 _ FA_a.out FA_b.out HPP.out (okShare_of (by omega) (by omega) z1 (by omega)) (by decide)).mono ?_
  rintro e w3 ⟨r, rfl, hf, hb⟩
  obtain ⟨X, hX⟩ : ∃ X, X = wipeFr nn 8 2 F G := ⟨_, rfl⟩
  rw [← hX] at hf
  have HX_x := Lib.hid hX
  obtain ⟨pxY, cxY, pxU, cxU, pxV, cxV, rfl⟩ := hf.shapeAs (show Dim X F by rw [hX]; exact Dim.refl _)
  have FA_x := Lib.hid hf
  have HE := Lib.hid hb
  clear hb hf hX
  clear a0 a1 a2 a3 a4 b0 b1 b2 b3 b4
  go_upto_region 7 with fail
  obtain ⟨w4, hw⟩ : ∃ x, x = w3.alloc (.cells #[.int .i64 F.W, .int .i64 F.H, .slice pxY F.nY cxY, .slice pxU F.nU cxU, .slice pxV F.nV cxV] 26) := ⟨_, rfl⟩
  rw [← hw]
  have hE : Below w3.heap.size w3 w4 := by rw [hw]; exact below_box _ _
  have BX_x := Lib.hid (show BX w4 w3.heap.size _ _ _ _ _ by rw [hw]; exact BX.of_alloc _ _ _ _ _ _ _)
  obtain ⟨blx, hbx⟩ : ∃ b, b = w3.heap.size := ⟨_, rfl⟩
  rw [← hbx] at BX_x ⊢
  replace FA_x := Lib.hid (FA_x.out.below hE)
  have HE2 := Lib.hid (HE.out.trans (hE.mono HE.out.size))
  clear hw hE hbx HE
  replace FA_a := Lib.hid (FA_a.out.below HE2.out)
  replace BX_a := Lib.hid (BX_a.out.below HE2.out)
  replace FA_b := Lib.hid (FA_b.out.below HE2.out)
  replace BX_b := Lib.hid (BX_b.out.below HE2.out)
  replace HB := Lib.hid (HB.out.trans (HE2.out.mono HB.out.size))
  clear HE2
  obtain ⟨a0, a1, a2, a3, a4⟩ := BX_a.out
  obtain ⟨b0, b1, b2, b3, b4⟩ := BX_b.out
  go_wp2_with fail
  refine (wipe_yes _ _ G F (8 - nn) 8 3 _ FA_b.out FA_a.out HQQ.out (okShare_of (by omega) (by omega) (by omega) (by omega)) (by decide)).mono ?_
  rintro e w5 ⟨r, rfl, hf, hb⟩
  obtain ⟨Y, hX⟩ : ∃ X, X = wipeFr (8 - nn) 8 3 G F := ⟨_, rfl⟩
  rw [← hX] at hf
  have HX_y := Lib.hid hX
  obtain ⟨pyY, cyY, pyU, cyU, pyV, cyV, rfl⟩ := hf.shapeAs (show Dim Y F by rw [hX]; exact Dim.of_pair HPP.out)
  have FA_y := Lib.hid hf
  have HE := Lib.hid hb
  clear hb hf hX
  clear a0 a1 a2 a3 a4 b0 b1 b2 b3 b4
  go_upto_region 8 with fail
  obtain ⟨w6, hw⟩ : ∃ x, x = w5.alloc (.cells #[.int .i64 F.W, .int .i64 F.H, .slice pyY F.nY cyY, .slice pyU F.nU cyU, .slice pyV F.nV cyV] 26) := ⟨_, rfl⟩
  rw [← hw]
  have hE : Below w5.heap.size w5 w6 := by rw [hw]; exact below_box _ _
  have BX_y := Lib.hid (show BX w6 w5.heap.size _ _ _ _ _ by rw [hw]; exact BX.of_alloc _ _ _ _ _ _ _)
  obtain ⟨bly, hby⟩ : ∃ b, b = w5.heap.size := ⟨_, rfl⟩
  rw [← hby] at BX_y ⊢
  replace FA_y := Lib.hid (FA_y.out.below hE)
  have HE2 := Lib.hid (HE.out.trans (hE.mono HE.out.size))
  clear hw hE hby HE
  replace FA_a := Lib.hid (FA_a.out.below HE2.out)
  replace BX_a := Lib.hid (BX_a.out.below HE2.out)
  replace FA_b := Lib.hid (FA_b.out.below HE2.out)
  replace BX_b := Lib.hid (BX_b.out.below HE2.out)
  replace FA_x := Lib.hid (FA_x.out.below HE2.out)
  replace BX_x := Lib.hid (BX_x.out.below HE2.out)
  replace HB := Lib.hid (HB.out.trans (HE2.out.mono HB.out.size))
  clear HE2
  obtain ⟨a0, a1, a2, a3, a4⟩ := BX_a.out
  obtain ⟨b0, b1, b2, b3, b4⟩ := BX_b.out
  go_wp2_with fail
  refine (wipe_yes _ _ F G 0 8 2 _ FA_a.out FA_b.out HPP.out (okShare_of (by omega) (by omega) (by omega) (by omega)) (by decide)).mono ?_
  rintro e w7 ⟨r, rfl, hf, hb⟩
  obtain ⟨P, hX⟩ : ∃ X, X = wipeFr 0 8 2 F G := ⟨_, rfl⟩
  rw [← hX] at hf
  have HX_p := Lib.hid hX
  obtain ⟨ppY, cpY, ppU, cpU, ppV, cpV, rfl⟩ := hf.shapeAs (show Dim P F by rw [hX]; exact Dim.refl _)
  have FA_p := Lib.hid hf
  have HE := Lib.hid hb
  clear hb hf hX
  clear a0 a1 a2 a3 a4 b0 b1 b2 b3 b4
  go_upto_region 9 with fail
  obtain ⟨w8, hw⟩ : ∃ x, x = w7.alloc (.cells #[.int .i64 F.W, .int .i64 F.H, .slice ppY F.nY cpY, .slice ppU F.nU cpU, .slice ppV F.nV cpV] 26) := ⟨_, rfl⟩
  rw [← hw]
  have hE : Below w7.heap.size w7 w8 := by rw [hw]; exact below_box _ _
  have BX_p := Lib.hid (show BX w8 w7.heap.size _ _ _ _ _ by rw [hw]; exact BX.of_alloc _ _ _ _ _ _ _)
  obtain ⟨blp, hbp⟩ : ∃ b, b = w7.heap.size := ⟨_, rfl⟩
  rw [← hbp] at BX_p ⊢
  replace FA_p := Lib.hid (FA_p.out.below hE)
  have HE2 := Lib.hid (HE.out.trans (hE.mono HE.out.size))
  clear hw hE hbp HE
  replace FA_a := Lib.hid (FA_a.out.below HE2.out)
  replace BX_a := Lib.hid (BX_a.out.below HE2.out)
  replace FA_b := Lib.hid (FA_b.out.below HE2.out)
  replace BX_b := Lib.hid (BX_b.out.below HE2.out)
  replace FA_x := Lib.hid (FA_x.out.below HE2.out)
  replace BX_x := Lib.hid (BX_x.out.below HE2.out)
  replace FA_y := Lib.hid (FA_y.out.below HE2.out)
  replace BX_y := Lib.hid (BX_y.out.below HE2.out)
  replace HB := Lib.hid (HB.out.trans (HE2.out.mono HB.out.size))
  clear HE2
  obtain ⟨a0, a1, a2, a3, a4⟩ := BX_a.out
  obtain ⟨b0, b1, b2, b3, b4⟩ := BX_b.out
  go_wp2_with fail
  refine (wipe_yes _ _ F G 8 8 2 _ FA_a.out FA_b.out HPP.out (okShare_of (by omega) (by omega) (by omega) (by omega)) (by decide)).mono ?_
  rintro e w9 ⟨r, rfl, hf, hb⟩
  obtain ⟨Q, hX⟩ : ∃ X, X = wipeFr 8 8 2 F G := ⟨_, rfl⟩
  rw [← hX] at hf
  have HX_q := Lib.hid hX
  obtain ⟨pqY, cqY, pqU, cqU, pqV, cqV, rfl⟩ := hf.shapeAs (show Dim Q F by rw [hX]; exact Dim.refl _)
  have FA_q := Lib.hid hf
  have HE := Lib.hid hb
  clear hb hf hX
  clear a0 a1 a2 a3 a4 b0 b1 b2 b3 b4
  go_upto_region 10 with fail
  obtain ⟨w10, hw⟩ : ∃ x, x = w9.alloc (.cells #[.int .i64 F.W, .int .i64 F.H, .slice pqY F.nY cqY, .slice pqU F.nU cqU, .slice pqV F.nV cqV] 26) := ⟨_, rfl⟩
  rw [← hw]
  have hE : Below w9.heap.size w9 w10 := by rw [hw]; exact below_box _ _
  have BX_q := Lib.hid (show BX w10 w9.heap.size _ _ _ _ _ by rw [hw]; exact BX.of_alloc _ _ _ _ _ _ _)
  obtain ⟨blq, hbq⟩ : ∃ b, b = w9.heap.size := ⟨_, rfl⟩
  rw [← hbq] at BX_q ⊢
  replace FA_q := Lib.hid (FA_q.out.below hE)
  have HE2 := Lib.hid (HE.out.trans (hE.mono HE.out.size))
  clear hw hE hbq HE
  replace FA_a := Lib.hid (FA_a.out.below HE2.out)
  replace BX_a := Lib.hid (BX_a.out.below HE2.out)
  replace FA_b := Lib.hid (FA_b.out.below HE2.out)
  replace BX_b := Lib.hid (BX_b.out.below HE2.out)
  replace FA_x := Lib.hid (FA_x.out.below HE2.out)
  replace BX_x := Lib.hid (BX_x.out.below HE2.out)
  replace FA_y := Lib.hid (FA_y.out.below HE2.out)
  replace BX_y := Lib.hid (BX_y.out.below HE2.out)
  replace FA_p := Lib.hid (FA_p.out.below HE2.out)
  replace BX_p := Lib.hid (BX_p.out.below HE2.out)
  replace HB := Lib.hid (HB.out.trans (HE2.out.mono HB.out.size))
  clear HE2
  obtain ⟨x0, x1, x2, x3, x4⟩ := BX_x.out
  obtain ⟨y0, y1, y2, y3, y4⟩ := BX_y.out
  go_wp2_with fail
  refine (same_yes _ _ X Y _ FA_x.out FA_y.out (by rw [HX_x.out, HX_y.out]; exact wipe_mirror2 HPP.out HP.out.2.2.1 HP.out.2.2.2.1)).mono ?_
  rintro e w11 ⟨rfl, hb⟩
  have HE := Lib.hid hb
  clear hb
  clear x0 x1 x2 x3 x4 y0 y1 y2 y3 y4
  replace FA_a := Lib.hid (FA_a.out.below HE.out)
  replace BX_a := Lib.hid (BX_a.out.below HE.out)
  replace FA_b := Lib.hid (FA_b.out.below HE.out)
  replace BX_b := Lib.hid (BX_b.out.below HE.out)
  replace FA_x := Lib.hid (FA_x.out.below HE.out)
  replace BX_x := Lib.hid (BX_x.out.below HE.out)
  replace FA_y := Lib.hid (FA_y.out.below HE.out)
  replace BX_y := Lib.hid (BX_y.out.below HE.out)
  replace FA_p := Lib.hid (FA_p.out.below HE.out)
  replace BX_p := Lib.hid (BX_p.out.below HE.out)
  replace FA_q := Lib.hid (FA_q.out.below HE.out)
  replace BX_q := Lib.hid (BX_q.out.below HE.out)
  replace HB := Lib.hid (HB.out.trans (HE.out.mono HB.out.size))
  clear HE
  obtain ⟨p0, p1, p2, p3, p4⟩ := BX_p.out
  obtain ⟨a0, a1, a2, a3, a4⟩ := BX_a.out
  go_wp2_with fail
  refine (same_yes _ _ P F _ FA_p.out FA_a.out (by rw [HX_p.out]; exact wipe_zero HP.out.1 (by decide))).mono ?_
  rintro e w12 ⟨rfl, hb⟩
  have HE := Lib.hid hb
  clear hb
  clear p0 p1 p2 p3 p4 a0 a1 a2 a3 a4
  replace FA_a := Lib.hid (FA_a.out.below HE.out)
  replace BX_a := Lib.hid (BX_a.out.below HE.out)
  replace FA_b := Lib.hid (FA_b.out.below HE.out)
  replace BX_b := Lib.hid (BX_b.out.below HE.out)
  replace FA_x := Lib.hid (FA_x.out.below HE.out)
  replace BX_x := Lib.hid (BX_x.out.below HE.out)
  replace FA_y := Lib.hid (FA_y.out.below HE.out)
  replace BX_y := Lib.hid (BX_y.out.below HE.out)
  replace FA_p := Lib.hid (FA_p.out.below HE.out)
  replace BX_p := Lib.hid (BX_p.out.below HE.out)
  replace FA_q := Lib.hid (FA_q.out.below HE.out)
  replace BX_q := Lib.hid (BX_q.out.below HE.out)
  replace HB := Lib.hid (HB.out.trans (HE.out.mono HB.out.size))
  clear HE
  obtain ⟨q0, q1, q2, q3, q4⟩ := BX_q.out
  obtain ⟨b0, b1, b2, b3, b4⟩ := BX_b.out
  go_wp2_with fail
  refine (same_yes _ _ Q G _ FA_q.out FA_b.out (by rw [HX_q.out]; exact wipe_full HPP.out)).mono ?_
  rintro e w13 ⟨rfl, hb⟩
  have HE := Lib.hid hb
  clear hb
  clear q0 q1 q2 q3 q4 b0 b1 b2 b3 b4
  replace FA_a := Lib.hid (FA_a.out.below HE.out)
  replace BX_a := Lib.hid (BX_a.out.below HE.out)
  replace FA_b := Lib.hid (FA_b.out.below HE.out)
  replace BX_b := Lib.hid (BX_b.out.below HE.out)
  replace FA_x := Lib.hid (FA_x.out.below HE.out)
  replace BX_x := Lib.hid (BX_x.out.below HE.out)
  replace FA_y := Lib.hid (FA_y.out.below HE.out)
  replace BX_y := Lib.hid (BX_y.out.below HE.out)
  replace FA_p := Lib.hid (FA_p.out.below HE.out)
  replace BX_p := Lib.hid (BX_p.out.below HE.out)
  replace FA_q := Lib.hid (FA_q.out.below HE.out)
  replace BX_q := Lib.hid (BX_q.out.below HE.out)
  replace HB := Lib.hid (HB.out.trans (HE.out.mono HB.out.size))
  clear HE
  go_wp2_with fail
  refine (awake_any _).mono ?_
  rintro e wz ⟨rfl, hb5⟩
  have HB5 := Lib.hid hb5
  clear hb5
  go_wp2_with fail
  go_ret
  exact ⟨rfl, HB.out.trans (HB5.out.mono HB.out.size)⟩

theorem law_wipesides (v : Value) (pos : Int) (b : Bool) (w : World) (hv : RI w v) :
    Calls Try.prog 8 #[v, .int .i64 pos, .bool b] w fun e w' => e = .returned (.bool true) ∧ Below w.heap.size w w' := by
  cases b
  · exact law_wipesides_false v pos w hv
  · exact law_wipesides_true v pos w hv

end Go.Proofs.Ytnnobdcbmagbaaa
