/- Texts of this claim joined: RQ. -/
import Derived.Deep.Cut
import Derived.Deep.Light
import Derived.Test.YtnnobdcbmagbaaaEv05
set_option linter.unusedVariables false
set_option linter.unusedSimpArgs false

/- The contract of cutroomref26.Wipe, by directions. -/
namespace Go.Proofs.Ytnnobdcbmagbaaa
open Go.RowKit
set_option linter.unusedVariables false

set_option maxRecDepth 100000 in
set_option maxHeartbeats 4000000 in
theorem rwipe_yes2 (v u : Value) (F G : Fr) (num den : Int) (w : World) (hv : FA w v F) (hu : FA w u G) (hp : pairOk F G = true) (hs : okShare num den = true) :
    Calls Try.prog 25 #[v, u, .int .i64 num, .int .i64 den, .int .i64 2] w fun e w' => ∃ r, e = .returned (.tuple #[r, .int .i64 0]) ∧ FA w' r (wipeFr num den 2 F G) ∧ Below w.heap.size w w' := by
  obtain ⟨paY, caY, paU, caU, paV, caV, rfl⟩ := hv.shape
  obtain ⟨pbY, cbY, pbU, cbU, pbV, cbV, rfl⟩ := hu.shapeAs (Dim.of_pair hp)
  have hd := Dim.of_pair hp
  obtain ⟨xd1, xd2, xd3, xd4, xd5⟩ := hd
  have fb := ok_bd (pair_dims hp).1
  obtain ⟨f1, f2, f3, f4, f5⟩ := fb
  have hpa := hv.plane
  have hpb := hu.plane
  obtain ⟨ha1, ha2, ha3, -, -, -, la1, la2, la3⟩ := hpa
  obtain ⟨hb1, hb2, hb3, -, -, -, lb1, lb2, lb3⟩ := hpb
  obtain ⟨qa1, oa1, rfl, ca1⟩ := ha1 (by omega)
  obtain ⟨qb1, ob1, rfl, cb1⟩ := hb1 (by omega)
  obtain ⟨qa2, oa2, rfl, ca2⟩ := ha2 (by omega)
  obtain ⟨qb2, ob2, rfl, cb2⟩ := hb2 (by omega)
  obtain ⟨qa3, oa3, rfl, ca3⟩ := ha3 (by omega)
  obtain ⟨qb3, ob3, rfl, cb3⟩ := hb3 (by omega)
  have ba1 := hv.bdY
  have ba2 := hv.bdU
  have ba3 := hv.bdV
  have bb1 := hu.bdY
  have bb2 := hu.bdU
  have bb3 := hu.bdV
  rw [xd3] at cb1 bb1 lb1
  rw [xd4] at cb2 bb2 lb2
  rw [xd5] at cb3 bb3 lb3
  have HC1 := Lib.hid (And.intro ca1 (And.intro cb1 (And.intro ba1 bb1)))
  have HC2 := Lib.hid (And.intro ca2 (And.intro cb2 (And.intro ba2 bb2)))
  have HC3 := Lib.hid (And.intro ca3 (And.intro cb3 (And.intro ba3 bb3)))
  have FA_a := Lib.hid hv
  have FA_b := Lib.hid hu
  have HP := Lib.hid hp
  have HF := Lib.hid (pair_dims hp).1
  have i1 : F.nY ≤ 4096 := f2
  have i2 : F.nU ≤ 1024 := f4
  have i3 : F.nV ≤ 1024 := by omega
  obtain ⟨s1, s2, s3, s4, _, _, _, _⟩ := okSize_bd (ok_dims HF.out).1
  have HB := Lib.hid (Below.refl w.heap.size w)
  clear ca1 ca2 ca3 cb1 cb2 cb3 ba1 ba2 ba3 bb1 bb2 bb3 xd1 xd2 xd3 xd4 xd5 f1 f2 f3 f4 f5 hv hu hp
  have HS := Lib.hid hs
  simp only [okShare, decide_eq_true_eq] at hs
  obtain ⟨d1, d2, d3, d4⟩ := hs
  have HLT := Lib.hid (ok_lt3 HF.out)
  go_enter Try.func25, Try.ntmps25
  go_upto_region 1 with fail
  obtain ⟨w1, hw⟩ : ∃ x, x = ((w.alloc (.cells #[.int .i64 F.W, .int .i64 F.H, .slice (some ⟨qa1, oa1, none⟩) F.nY caY, .slice (some ⟨qa2, oa2, none⟩) F.nU caU, .slice (some ⟨qa3, oa3, none⟩) F.nV caV] 26)).alloc (.cells #[.int .i64 F.W, .int .i64 F.H, .slice (some ⟨qb1, ob1, none⟩) F.nY cbY, .slice (some ⟨qb2, ob2, none⟩) F.nU cbU, .slice (some ⟨qb3, ob3, none⟩) F.nV cbV] 26)).alloc (.cells #[.int .i64 0, .int .i64 0, .slice none 0 0, .slice none 0 0, .slice none 0 0] 26) := ⟨_, rfl⟩
  rw [← hw]
  have hE : Below w.heap.size w w1 := by rw [hw]; go_grown
  have BX_a := Lib.hid (show BX w1 w.heap.size _ _ _ _ _ by rw [hw]; exact ((BX.of_alloc _ _ _ _ _ _ _).below (below_box _ _)).below (below_box _ _))
  have BX_b := Lib.hid (show BX w1 (w.heap.size + 1) _ _ _ _ _ by rw [hw]; exact (BX.of_alloc' _ _ _ _ _ _ _ _ (by simp)).below (below_box _ _))
  have BX_r := Lib.hid (show BX w1 (w.heap.size + 1 + 1) _ _ _ _ _ by rw [hw]; exact BX.of_alloc' _ _ _ _ _ _ _ _ (by simp))
  have FZ_r := Lib.hid (show Fz w1 (w.heap.size + 1 + 1) from ⟨by rw [hw]; simp, fun o => by rw [hw]; simp [go_sem]⟩)
  replace FA_a := Lib.hid (FA_a.out.below hE)
  replace FA_b := Lib.hid (FA_b.out.below hE)
  replace HB := Lib.hid hE
  clear hw hE
  obtain ⟨bla, hbla⟩ : ∃ b, b = w.heap.size := ⟨_, rfl⟩
  obtain ⟨blb, hblb⟩ : ∃ b, b = w.heap.size + 1 := ⟨_, rfl⟩
  obtain ⟨blr, hblr⟩ : ∃ b, b = w.heap.size + 1 + 1 := ⟨_, rfl⟩
  rw [← hblr] at BX_r FZ_r ⊢
  rw [← hblb] at BX_b ⊢
  rw [← hbla] at BX_a ⊢
  have n0 : w.heap.size ≤ blr := by omega
  clear hbla hblb hblr
  obtain ⟨a0, a1, a2, a3, a4⟩ := BX_a.out
  obtain ⟨b0, b1, b2, b3, b4⟩ := BX_b.out
  go_wp2_with fail
  refine (pair_any _ _ F G _ FA_a.out FA_b.out).mono ?_
  rintro e w2 ⟨rfl, hb⟩
  rw [HP.out]
  have HE := Lib.hid hb
  clear hb
  clear a0 a1 a2 a3 a4
  clear b0 b1 b2 b3 b4
  replace FA_a := Lib.hid (FA_a.out.below HE.out)
  replace FA_b := Lib.hid (FA_b.out.below HE.out)
  replace BX_a := Lib.hid (BX_a.out.below HE.out)
  replace BX_b := Lib.hid (BX_b.out.below HE.out)
  replace BX_r := Lib.hid (BX_r.out.below HE.out)
  replace FZ_r := Lib.hid (FZ_r.out.below HE.out)
  replace HB := Lib.hid (HB.out.trans (HE.out.mono HB.out.size))
  clear HE
  go_wp2_with fail
  refine (ratio_any _ _ _).mono ?_
  rintro e w' ⟨rfl, rfl⟩
  rw [HS.out]
  go_upto_region 3 with fail
  obtain ⟨a0, a1, a2, a3, a4⟩ := BX_a.out
  go_wp2_with fail
  refine (blank_fr F _ HF.out).mono ?_
  rintro e w3 ⟨g1, g2, g3, rfl, hR, d12, d13, d23, hb⟩
  have na := BX_a.out.lt
  have nb := BX_b.out.lt
  have nr := BX_r.out.lt
  have m0 := HB.out.size
  obtain ⟨B, hB⟩ : ∃ B, B = w2.heap.size := ⟨_, rfl⟩
  rw [← hB] at hR na nb nr m0
  have l1 := hR.r1.le
  have l2 := hR.r2.le
  have l3 := hR.r3.le
  have RR := Lib.hid hR
  have HE := Lib.hid hb
  clear hb hR hB
  clear a0 a1 a2 a3 a4
  go_upto_region 4 with fail
  obtain ⟨w4, hw⟩ : ∃ x, x = w3.alloc (.cells #[(.int .i64 F.W), (.int .i64 F.H), (.slice (some ⟨g1, 0, none⟩) F.nY F.nY), (.slice (some ⟨g2, 0, none⟩) F.nU F.nU), (.slice (some ⟨g3, 0, none⟩) F.nV F.nV)] 26) := ⟨_, rfl⟩
  rw [← hw]
  have hE : Below w3.heap.size w3 w4 := by rw [hw]; exact below_box _ _
  have BX_t := Lib.hid (show BX w4 w3.heap.size _ _ _ _ _ by rw [hw]; exact BX.of_alloc _ _ _ _ _ _ _)
  replace RR := Lib.hid (RR.out.below hE)
  have HE2 := Lib.hid (HE.out.trans (hE.mono HE.out.size))
  obtain ⟨blt, hblt⟩ : ∃ b, b = w3.heap.size := ⟨_, rfl⟩
  rw [← hblt] at BX_t l1 l2 l3 ⊢
  clear hw hE HE hblt
  replace FA_a := Lib.hid (FA_a.out.below HE2.out)
  replace FA_b := Lib.hid (FA_b.out.below HE2.out)
  replace BX_a := Lib.hid (BX_a.out.below HE2.out)
  replace BX_b := Lib.hid (BX_b.out.below HE2.out)
  replace BX_r := Lib.hid (BX_r.out.below HE2.out)
  replace FZ_r := Lib.hid (FZ_r.out.below HE2.out)
  replace HB := Lib.hid (HB.out.trans (HE2.out.mono HB.out.size))
  clear HE2
  obtain ⟨a0, a1, a2, a3, a4⟩ := BX_a.out
  go_wp2_with fail
  refine (planes_fr F F.W F.H _ _ _ _ _ _ _ _ _ _ (by omega) s2 (by omega) s4).mono ?_
  rintro e w5 ⟨rfl, hb⟩
  have nbx := (BX_t.out.lt)
  have HE := Lib.hid hb
  have m1 := hb.size
  clear hb
  clear a0 a1 a2 a3 a4
  go_upto_region 5 with fail
  obtain ⟨w6, hw⟩ : ∃ x, x = ((w5.alloc (.cells #[(.slice (some ⟨qa1, oa1, none⟩) F.nY caY), (.slice (some ⟨qa2, oa2, none⟩) F.nU caU), (.slice (some ⟨qa3, oa3, none⟩) F.nV caV)] 74)).alloc (.cells #[.int .i64 F.W, .int .i64 (F.W / 2), .int .i64 (F.W / 2)] 75)).alloc (.cells #[.int .i64 F.H, .int .i64 (F.H / 2), .int .i64 (F.H / 2)] 75) := ⟨_, rfl⟩
  rw [← hw]
  have hE : Below w5.heap.size w5 w6 := by rw [hw]; go_grown
  have TX := Lib.hid (show T3 w6 w5.heap.size _ _ _ by rw [hw]; exact ((T3.of_alloc _ _ _ _ _ _ rfl).below (below_box _ _)).below (below_box _ _))
  have HE2 := Lib.hid (HE.out.trans (hE.mono HE.out.size))

  have TW := Lib.hid (show T3 w6 (w5.heap.size + 1) _ _ _ by rw [hw]; exact (T3.of_alloc _ _ _ _ _ _ (by simp)).below (below_box _ _))
  have TH := Lib.hid (show T3 w6 (w5.heap.size + 1 + 1) _ _ _ by rw [hw]; exact T3.of_alloc _ _ _ _ _ _ (by simp))
  obtain ⟨bw, hbw'⟩ : ∃ b, b = w5.heap.size + 1 := ⟨_, rfl⟩
  obtain ⟨bh, hbh'⟩ : ∃ b, b = w5.heap.size + 1 + 1 := ⟨_, rfl⟩
  rw [← hbh'] at TH ⊢
  rw [← hbw'] at TW ⊢
  obtain ⟨bx, hblk⟩ : ∃ b, b = w5.heap.size := ⟨_, rfl⟩
  rw [← hblk] at TX ⊢
  have nbx : blt < bx := by omega
  have nbw : blt < bw := by omega
  have nbh : blt < bh := by omega
  clear hbw' hbh'
  clear hw hE HE hblk m1
  replace FA_a := Lib.hid (FA_a.out.below HE2.out)
  replace FA_b := Lib.hid (FA_b.out.below HE2.out)
  replace BX_a := Lib.hid (BX_a.out.below HE2.out)
  replace BX_b := Lib.hid (BX_b.out.below HE2.out)
  replace BX_r := Lib.hid (BX_r.out.below HE2.out)
  replace FZ_r := Lib.hid (FZ_r.out.below HE2.out)
  replace BX_t := Lib.hid (BX_t.out.below HE2.out)
  replace RR := Lib.hid (RR.out.below HE2.out)
  replace HB := Lib.hid (HB.out.trans (HE2.out.mono HB.out.size))
  clear HE2
  obtain ⟨b0, b1, b2, b3, b4⟩ := BX_b.out
  go_wp2_with fail
  refine (planes_fr F F.W F.H _ _ _ _ _ _ _ _ _ _ (by omega) s2 (by omega) s4).mono ?_
  rintro e w7 ⟨rfl, hb⟩
  have nbY := (BX_t.out.lt)
  have HE := Lib.hid hb
  have m1 := hb.size
  clear hb
  clear b0 b1 b2 b3 b4
  go_upto_region 6 with fail
  obtain ⟨w8, hw⟩ : ∃ x, x = ((w7.alloc (.cells #[(.slice (some ⟨qb1, ob1, none⟩) F.nY cbY), (.slice (some ⟨qb2, ob2, none⟩) F.nU cbU), (.slice (some ⟨qb3, ob3, none⟩) F.nV cbV)] 74)).alloc (.cells #[.int .i64 F.W, .int .i64 (F.W / 2), .int .i64 (F.W / 2)] 75)).alloc (.cells #[.int .i64 F.H, .int .i64 (F.H / 2), .int .i64 (F.H / 2)] 75) := ⟨_, rfl⟩
  rw [← hw]
  have hE : Below w7.heap.size w7 w8 := by rw [hw]; go_grown
  have TY := Lib.hid (show T3 w8 w7.heap.size _ _ _ by rw [hw]; exact ((T3.of_alloc _ _ _ _ _ _ rfl).below (below_box _ _)).below (below_box _ _))
  have HE2 := Lib.hid (HE.out.trans (hE.mono HE.out.size))

  obtain ⟨bY, hblk⟩ : ∃ b, b = w7.heap.size := ⟨_, rfl⟩
  rw [← hblk] at TY ⊢
  have nbY : blt < bY := by omega
  clear hw hE HE hblk m1
  replace FA_a := Lib.hid (FA_a.out.below HE2.out)
  replace FA_b := Lib.hid (FA_b.out.below HE2.out)
  replace BX_a := Lib.hid (BX_a.out.below HE2.out)
  replace BX_b := Lib.hid (BX_b.out.below HE2.out)
  replace BX_r := Lib.hid (BX_r.out.below HE2.out)
  replace FZ_r := Lib.hid (FZ_r.out.below HE2.out)
  replace BX_t := Lib.hid (BX_t.out.below HE2.out)
  replace RR := Lib.hid (RR.out.below HE2.out)
  replace TX := Lib.hid (TX.out.below HE2.out)
  replace TW := Lib.hid (TW.out.below HE2.out)
  replace TH := Lib.hid (TH.out.below HE2.out)
  replace HB := Lib.hid (HB.out.trans (HE2.out.mono HB.out.size))
  clear HE2
  obtain ⟨t0, t1, t2, t3, t4⟩ := BX_t.out
  go_wp2_with fail
  refine (planes_fr F F.W F.H _ _ _ _ _ _ _ _ _ _ (by omega) s2 (by omega) s4).mono ?_
  rintro e w9 ⟨rfl, hb⟩
  have nbz := (BX_t.out.lt)
  have HE := Lib.hid hb
  have m1 := hb.size
  clear hb
  clear t0 t1 t2 t3 t4
  go_upto_region 7 with fail
  obtain ⟨w10, hw⟩ : ∃ x, x = ((w9.alloc (.cells #[(.slice (some ⟨g1, 0, none⟩) F.nY F.nY), (.slice (some ⟨g2, 0, none⟩) F.nU F.nU), (.slice (some ⟨g3, 0, none⟩) F.nV F.nV)] 74)).alloc (.cells #[.int .i64 F.W, .int .i64 (F.W / 2), .int .i64 (F.W / 2)] 75)).alloc (.cells #[.int .i64 F.H, .int .i64 (F.H / 2), .int .i64 (F.H / 2)] 75) := ⟨_, rfl⟩
  rw [← hw]
  have hE : Below w9.heap.size w9 w10 := by rw [hw]; go_grown
  have TZ := Lib.hid (show T3 w10 w9.heap.size _ _ _ by rw [hw]; exact ((T3.of_alloc _ _ _ _ _ _ rfl).below (below_box _ _)).below (below_box _ _))
  have HE2 := Lib.hid (HE.out.trans (hE.mono HE.out.size))

  obtain ⟨bz, hblk⟩ : ∃ b, b = w9.heap.size := ⟨_, rfl⟩
  rw [← hblk] at TZ ⊢
  have nbz : blt < bz := by omega
  clear hw hE HE hblk m1
  replace FA_a := Lib.hid (FA_a.out.below HE2.out)
  replace FA_b := Lib.hid (FA_b.out.below HE2.out)
  replace BX_a := Lib.hid (BX_a.out.below HE2.out)
  replace BX_b := Lib.hid (BX_b.out.below HE2.out)
  replace BX_r := Lib.hid (BX_r.out.below HE2.out)
  replace FZ_r := Lib.hid (FZ_r.out.below HE2.out)
  replace BX_t := Lib.hid (BX_t.out.below HE2.out)
  replace RR := Lib.hid (RR.out.below HE2.out)
  replace TX := Lib.hid (TX.out.below HE2.out)
  replace TW := Lib.hid (TW.out.below HE2.out)
  replace TH := Lib.hid (TH.out.below HE2.out)
  replace TY := Lib.hid (TY.out.below HE2.out)
  replace HB := Lib.hid (HB.out.trans (HE2.out.mono HB.out.size))
  clear HE2
  go_wp2_with fail
  refine wp_loop_rounds 4 ?_
  rw [rounds_succ]
  go_wp2_with fail
  go_loopw [23] (fun i wr => ∃ k : Nat, k ≤ F.nY ∧ i = .int .i64 (k : Int) ∧ w10.grownBy wr (some g1) ∧ Row wr B g1 F.nY F.nY (fun j => if j < k then wipeF (F.W) (F.H) 2 num den F.Y G.Y j else 0)) (fun i _ => F.nY - (intOf i).toNat)
  case atStart => exact ⟨0, Nat.zero_le _, rfl, only_refl _ _, by simpa using RR.out.r1⟩
  case round =>
    obtain ⟨k, hk, rfl, hgr, ho⟩ := hrel
    have zc := (TZ.out.only hgr (by omega)).k0
    by_cases hlt : k < F.nY
    · have xc := (TX.out.only hgr (by omega)).k0
      have yc := (TY.out.only hgr (by omega)).k0
      have wc := (TW.out.only hgr (by omega)).k0
      have hc' := (TH.out.only hgr (by omega)).k0
      have hbw := HB.out.trans (only_below hgr (by omega) HB.out.size)
      have xb := (hbw.cell (p := ⟨qa1, oa1 + k, none⟩) (block_lt_of_cell (HC1.out.1 k hlt))).trans (HC1.out.1 k hlt)
      have yb := (hbw.cell (p := ⟨qb1, ob1 + k, none⟩) (block_lt_of_cell (HC1.out.2.1 k hlt))).trans (HC1.out.2.1 k hlt)
      have lxa : qa1 < w.heap.size := block_lt_of_cell (HC1.out.1 k hlt)
      have lyb : qb1 < w.heap.size := block_lt_of_cell (HC1.out.2.1 k hlt)
      have hc := ho.cell k hlt
      rw [if_neg (by omega)] at hc
      have hf := World.ownsRow.frozenAt ho k
      obtain ⟨v1, v2, v3, v4⟩ := div_bd (k := k) (W := F.W) (H := F.H) (by omega) (HLT.out.1 k hlt)
      have hpl : placeF ((k : Int) % (F.W)) ((k : Int) / (F.W)) (F.W) (F.H) 2 = (((k : Int) / (F.W)), (F.H)) := rfl
      have HPL := Lib.hid hpl
      obtain ⟨m1, m2⟩ := mul_bd (x := ((k : Int) / (F.W))) (y := den) (by omega) (by omega) (by omega) d2
      obtain ⟨m3, m4⟩ := mul_bd (x := (F.H)) (y := num) (by omega) (by omega) d3 (by omega)
      have e1 := IntWalk.i64_in (((k : Int) / (F.W)) * den) (by omega)
      have e2 := IntWalk.i64_in ((F.H) * num) (by omega)
      have HO := Lib.hid ho
      have HG := Lib.hid hgr
      clear ho hgr hbw hpl
      go_wp2_with fail
      refine Plan.wp_region_plan (fun w' => w'.cell? ⟨bw, 0, none⟩ = some (.int .i64 (F.W))) (([0, 1, 2, 3, 4, 5, 6, 7, 8, 9, 10, 11].map (·, true))) (by kernel_rfl) (by kernel_rfl) (by kernel_rfl) wc ?_
      refine' Plan.plan_seg _ [0, 1, 2, 3, 4, 5, 6, 7, 8, 9, 10, 11] ([]) (by kernel_rfl) (by kernel_rfl) rfl (by exact wc) (fun wx hS => ?_) ?_
      rotate_left
      · obtain x1 := hS
        go_light
        iterate 12 (apply Plan.seg_pick; rfl; intro K hK; go_wp)
        exact Plan.seg_nil
      refine Plan.plan_done ?_
      go_wp2_with fail
      refine Plan.wp_region_plan (fun w' => w'.cell? ⟨bw, 0, none⟩ = some (.int .i64 (F.W))) (([0, 1, 2, 3, 4, 5].map (·, true))) (by kernel_rfl) (by kernel_rfl) (by kernel_rfl) wc ?_
      refine' Plan.plan_seg _ [0, 1, 2, 3, 4, 5] ([]) (by kernel_rfl) (by kernel_rfl) rfl (by exact wc) (fun wx hS => ?_) ?_
      rotate_left
      · obtain x1 := hS
        go_light
        iterate 6 (apply Plan.seg_pick; rfl; intro K hK; go_wp)
        exact Plan.seg_nil
      refine Plan.plan_done ?_
      go_wp2_with fail
      refine Plan.wp_region_plan (fun w' => w'.cell? ⟨bh, 0, none⟩ = some (.int .i64 (F.H))) (([0, 1, 2, 3, 4, 5].map (·, true))) (by kernel_rfl) (by kernel_rfl) (by kernel_rfl) hc' ?_
      refine' Plan.plan_seg _ [0, 1, 2, 3, 4, 5] ([]) (by kernel_rfl) (by kernel_rfl) rfl (by exact hc') (fun wx hS => ?_) ?_
      rotate_left
      · obtain x1 := hS
        go_light
        iterate 6 (apply Plan.seg_pick; rfl; intro K hK; go_wp)
        exact Plan.seg_nil
      refine Plan.plan_done ?_
      go_wp2_with fail
      by_cases hcmp : ((k : Int) / (F.W)) * den < (F.H) * num
      · have hw1 : wipeF (F.W) (F.H) 2 num den F.Y G.Y k = G.Y k := by rw [wipe_at HPL.out]; exact if_pos hcmp
        have HW1 := Lib.hid hw1
        clear hw1
        refine Plan.wp_region_planz (fun w' => w'.cell? ⟨bz, 0, none⟩ = some (.slice (some ⟨g1, 0, none⟩) F.nY F.nY) ∧ w'.cell? ⟨bx, 0, none⟩ = some (.slice (some ⟨qa1, oa1, none⟩) F.nY caY) ∧ w'.cell? ⟨qa1, oa1 + k, none⟩ = some (.int .u8 (F.Y k))) 11 (([0, 1, 2, 3, 4, 5, 6, 7, 8, 9, 10].map (·, true)) ++ (([11].map (·, false)))) (by kernel_rfl) (by kernel_rfl) (by kernel_rfl) ⟨zc, xc, xb⟩ ?_
        refine' Plan.plan_seg _ [0, 1, 2, 3, 4, 5, 6, 7, 8, 9, 10] (([11].map (·, false))) (by kernel_rfl) (by kernel_rfl) rfl (by exact ⟨zc, xc, xb⟩) (fun wx hS => ?_) ?_
        rotate_left
        · obtain ⟨x1, x2, x3⟩ := hS
          go_light
          iterate 11 (apply Plan.seg_pick; rfl; intro K hK; go_wp)
          exact Plan.seg_nil
        refine Plan.plan_of_last rfl (fun K hK => ?_)
        go_wp2_with fail
        refine Plan.plan_done ?_
        go_wp2_with fail
        refine Plan.wp_region_planz (fun w' => w'.cell? ⟨bz, 0, none⟩ = some (.slice (some ⟨g1, 0, none⟩) F.nY F.nY) ∧ w'.cell? ⟨bY, 0, none⟩ = some (.slice (some ⟨qb1, ob1, none⟩) F.nY cbY) ∧ w'.cell? ⟨qb1, ob1 + k, none⟩ = some (.int .u8 (G.Y k))) 11 (([0, 1, 2, 3, 4, 5, 6, 7, 8, 9, 10].map (·, true)) ++ (([11].map (·, false)))) (by kernel_rfl) (by kernel_rfl) (by kernel_rfl) ⟨(by simp only [World.cell?_drew]; rw [World.cell?_setCell_far _ _ _ _ (by simp; omega)]; exact zc), (by simp only [World.cell?_drew]; rw [World.cell?_setCell_far _ _ _ _ (by simp; omega)]; exact yc), (by simp only [World.cell?_drew]; rw [World.cell?_setCell_far _ _ _ _ (by simp; omega)]; exact yb)⟩ ?_
        refine' Plan.plan_seg _ [0, 1, 2, 3, 4, 5, 6, 7, 8, 9, 10] (([11].map (·, false))) (by kernel_rfl) (by kernel_rfl) rfl (by exact ⟨(by simp only [World.cell?_drew]; rw [World.cell?_setCell_far _ _ _ _ (by simp; omega)]; exact zc), (by simp only [World.cell?_drew]; rw [World.cell?_setCell_far _ _ _ _ (by simp; omega)]; exact yc), (by simp only [World.cell?_drew]; rw [World.cell?_setCell_far _ _ _ _ (by simp; omega)]; exact yb)⟩) (fun wx hS => ?_) ?_
        rotate_left
        · obtain ⟨x1, x2, x3⟩ := hS
          go_light
          iterate 11 (apply Plan.seg_pick; rfl; intro K hK; go_wp)
          exact Plan.seg_nil
        refine Plan.plan_of_last rfl (fun K hK => ?_)
        go_wp2_with fail
        refine Plan.plan_done ?_
        go_wp2_with fail
        go_roundw
        case rel =>
          refine ⟨k + 1, by omega, by go_num, by repeat (first | exact HG.out | refine only_drew ?_ | refine only_store ?_ _ _), ?_⟩
          have h1 := HO.out.store k (F' := fun j => if j = k then F.Y k else if j < k then wipeF (F.W) (F.H) 2 num den F.Y G.Y j else 0) (u := F.Y k) (by simp) (fun i _ hik => by simp [hik])
          repeat refine Row.drew ?_
          refine h1.store k (F' := fun j => if j < k + 1 then wipeF (F.W) (F.H) 2 num den F.Y G.Y j else 0) (u := G.Y k) ?_ (fun i _ hik => ?_)
          · simp only [show k < k + 1 by omega, if_true]; exact HW1.out
          · simp only [hik, if_false]; exact ite_iff (by omega)
        case measure => simp [intOf]; omega
      · have hw1 : wipeF (F.W) (F.H) 2 num den F.Y G.Y k = F.Y k := by rw [wipe_at HPL.out]; exact if_neg hcmp
        have HW1 := Lib.hid hw1
        clear hw1
        refine Plan.wp_region_planz (fun w' => w'.cell? ⟨bz, 0, none⟩ = some (.slice (some ⟨g1, 0, none⟩) F.nY F.nY) ∧ w'.cell? ⟨bx, 0, none⟩ = some (.slice (some ⟨qa1, oa1, none⟩) F.nY caY) ∧ w'.cell? ⟨qa1, oa1 + k, none⟩ = some (.int .u8 (F.Y k))) 11 (([0, 1, 2, 3, 4, 5, 6, 7, 8, 9, 10].map (·, true)) ++ (([11].map (·, false)))) (by kernel_rfl) (by kernel_rfl) (by kernel_rfl) ⟨zc, xc, xb⟩ ?_
        refine' Plan.plan_seg _ [0, 1, 2, 3, 4, 5, 6, 7, 8, 9, 10] (([11].map (·, false))) (by kernel_rfl) (by kernel_rfl) rfl (by exact ⟨zc, xc, xb⟩) (fun wx hS => ?_) ?_
        rotate_left
        · obtain ⟨x1, x2, x3⟩ := hS
          go_light
          iterate 11 (apply Plan.seg_pick; rfl; intro K hK; go_wp)
          exact Plan.seg_nil
        refine Plan.plan_of_last rfl (fun K hK => ?_)
        go_wp2_with fail
        refine Plan.plan_done ?_
        go_wp2_with fail
        go_roundw
        case rel =>
          refine ⟨k + 1, by omega, by go_num, by repeat (first | exact HG.out | refine only_drew ?_ | refine only_store ?_ _ _), ?_⟩
          repeat refine Row.drew ?_
          refine HO.out.store k (F' := fun j => if j < k + 1 then wipeF (F.W) (F.H) 2 num den F.Y G.Y j else 0) (u := F.Y k) ?_ (fun i _ hik => ite_iff (by omega))
          simp only [show k < k + 1 by omega, if_true]; exact HW1.out
        case measure => simp [intOf]; omega
    · obtain rfl : k = F.nY := by omega
      have hRow := ho.congr (F' := wipeF (F.W) (F.H) 2 num den F.Y G.Y) (fun i hi => if_pos hi)
      obtain ⟨r1, r2, r3⟩ := RR.out
      replace r1 := hRow
      replace r2 := only_row hgr r2 (by omega)
      replace r3 := only_row hgr r3 (by omega)
      replace RR := Lib.hid (R3.mk r1 r2 r3)
      replace TX := Lib.hid (TX.out.only hgr (by omega))
      replace TY := Lib.hid (TY.out.only hgr (by omega))
      replace TZ := Lib.hid (TZ.out.only hgr (by omega))
      replace TW := Lib.hid (TW.out.only hgr (by omega))
      replace TH := Lib.hid (TH.out.only hgr (by omega))
      replace BX_t := Lib.hid (BX_t.out.only hgr (by omega))
      replace BX_r := Lib.hid (BX_r.out.only hgr (by omega))
      replace FZ_r := Lib.hid (FZ_r.out.only hgr (by omega))
      replace HB := Lib.hid (HB.out.trans (only_below hgr (by omega) HB.out.size))
      clear hRow r1 r2 r3 ho hgr
      go_wp2_with fail
      obtain ⟨v11, hw⟩ : ∃ x, x = wr := ⟨_, rfl⟩
      rw [← hw] at RR TX TY TZ TW TH BX_t BX_r FZ_r HB ⊢
      clear hw zc
      rw [rounds_succ]
      go_wp2_with fail
      go_loopw [23] (fun i wr => ∃ k : Nat, k ≤ F.nU ∧ i = .int .i64 (k : Int) ∧ v11.grownBy wr (some g2) ∧ Row wr B g2 F.nU F.nU (fun j => if j < k then wipeF (F.W / 2) (F.H / 2) 2 num den F.U G.U j else 0)) (fun i _ => F.nU - (intOf i).toNat)
      case atStart => exact ⟨0, Nat.zero_le _, rfl, only_refl _ _, by simpa using RR.out.r2⟩
      case round =>
        obtain ⟨k, hk, rfl, hgr, ho⟩ := hrel
        have zc := (TZ.out.only hgr (by omega)).k1
        by_cases hlt : k < F.nU
        · have xc := (TX.out.only hgr (by omega)).k1
          have yc := (TY.out.only hgr (by omega)).k1
          have wc := (TW.out.only hgr (by omega)).k1
          have hc' := (TH.out.only hgr (by omega)).k1
          have hbw := HB.out.trans (only_below hgr (by omega) HB.out.size)
          have xb := (hbw.cell (p := ⟨qa2, oa2 + k, none⟩) (block_lt_of_cell (HC2.out.1 k hlt))).trans (HC2.out.1 k hlt)
          have yb := (hbw.cell (p := ⟨qb2, ob2 + k, none⟩) (block_lt_of_cell (HC2.out.2.1 k hlt))).trans (HC2.out.2.1 k hlt)
          have lxa : qa2 < w.heap.size := block_lt_of_cell (HC2.out.1 k hlt)
          have lyb : qb2 < w.heap.size := block_lt_of_cell (HC2.out.2.1 k hlt)
          have hc := ho.cell k hlt
          rw [if_neg (by omega)] at hc
          have hf := World.ownsRow.frozenAt ho k
          obtain ⟨v1, v2, v3, v4⟩ := div_bd (k := k) (W := F.W / 2) (H := F.H / 2) (by omega) (HLT.out.2.1 k hlt)
          have hpl : placeF ((k : Int) % (F.W / 2)) ((k : Int) / (F.W / 2)) (F.W / 2) (F.H / 2) 2 = (((k : Int) / (F.W / 2)), (F.H / 2)) := rfl
          have HPL := Lib.hid hpl
          obtain ⟨m1, m2⟩ := mul_bd (x := ((k : Int) / (F.W / 2))) (y := den) (by omega) (by omega) (by omega) d2
          obtain ⟨m3, m4⟩ := mul_bd (x := (F.H / 2)) (y := num) (by omega) (by omega) d3 (by omega)
          have e1 := IntWalk.i64_in (((k : Int) / (F.W / 2)) * den) (by omega)
          have e2 := IntWalk.i64_in ((F.H / 2) * num) (by omega)
          have HO := Lib.hid ho
          have HG := Lib.hid hgr
          clear ho hgr hbw hpl
          go_wp2_with fail
          refine Plan.wp_region_plan (fun w' => w'.cell? ⟨bw, 1, none⟩ = some (.int .i64 (F.W / 2))) (([0, 1, 2, 3, 4, 5, 6, 7, 8, 9, 10, 11].map (·, true))) (by kernel_rfl) (by kernel_rfl) (by kernel_rfl) wc ?_
          refine' Plan.plan_seg _ [0, 1, 2, 3, 4, 5, 6, 7, 8, 9, 10, 11] ([]) (by kernel_rfl) (by kernel_rfl) rfl (by exact wc) (fun wx hS => ?_) ?_
          rotate_left
          · obtain x1 := hS
            go_light
            iterate 12 (apply Plan.seg_pick; rfl; intro K hK; go_wp)
            exact Plan.seg_nil
          refine Plan.plan_done ?_
          go_wp2_with fail
          refine Plan.wp_region_plan (fun w' => w'.cell? ⟨bw, 1, none⟩ = some (.int .i64 (F.W / 2))) (([0, 1, 2, 3, 4, 5].map (·, true))) (by kernel_rfl) (by kernel_rfl) (by kernel_rfl) wc ?_
          refine' Plan.plan_seg _ [0, 1, 2, 3, 4, 5] ([]) (by kernel_rfl) (by kernel_rfl) rfl (by exact wc) (fun wx hS => ?_) ?_
          rotate_left
          · obtain x1 := hS
            go_light
            iterate 6 (apply Plan.seg_pick; rfl; intro K hK; go_wp)
            exact Plan.seg_nil
          refine Plan.plan_done ?_
          go_wp2_with fail
          refine Plan.wp_region_plan (fun w' => w'.cell? ⟨bh, 1, none⟩ = some (.int .i64 (F.H / 2))) (([0, 1, 2, 3, 4, 5].map (·, true))) (by kernel_rfl) (by kernel_rfl) (by kernel_rfl) hc' ?_
          refine' Plan.plan_seg _ [0, 1, 2, 3, 4, 5] ([]) (by kernel_rfl) (by kernel_rfl) rfl (by exact hc') (fun wx hS => ?_) ?_
          rotate_left
          · obtain x1 := hS
            go_light
            iterate 6 (apply Plan.seg_pick; rfl; intro K hK; go_wp)
            exact Plan.seg_nil
          refine Plan.plan_done ?_
          go_wp2_with fail
          by_cases hcmp : ((k : Int) / (F.W / 2)) * den < (F.H / 2) * num
          · have hw1 : wipeF (F.W / 2) (F.H / 2) 2 num den F.U G.U k = G.U k := by rw [wipe_at HPL.out]; exact if_pos hcmp
            have HW1 := Lib.hid hw1
            clear hw1
            refine Plan.wp_region_planz (fun w' => w'.cell? ⟨bz, 1, none⟩ = some (.slice (some ⟨g2, 0, none⟩) F.nU F.nU) ∧ w'.cell? ⟨bx, 1, none⟩ = some (.slice (some ⟨qa2, oa2, none⟩) F.nU caU) ∧ w'.cell? ⟨qa2, oa2 + k, none⟩ = some (.int .u8 (F.U k))) 11 (([0, 1, 2, 3, 4, 5, 6, 7, 8, 9, 10].map (·, true)) ++ (([11].map (·, false)))) (by kernel_rfl) (by kernel_rfl) (by kernel_rfl) ⟨zc, xc, xb⟩ ?_
            refine' Plan.plan_seg _ [0, 1, 2, 3, 4, 5, 6, 7, 8, 9, 10] (([11].map (·, false))) (by kernel_rfl) (by kernel_rfl) rfl (by exact ⟨zc, xc, xb⟩) (fun wx hS => ?_) ?_
            rotate_left
            · obtain ⟨x1, x2, x3⟩ := hS
              go_light
              iterate 11 (apply Plan.seg_pick; rfl; intro K hK; go_wp)
              exact Plan.seg_nil
            refine Plan.plan_of_last rfl (fun K hK => ?_)
            go_wp2_with fail
            refine Plan.plan_done ?_
            go_wp2_with fail
            refine Plan.wp_region_planz (fun w' => w'.cell? ⟨bz, 1, none⟩ = some (.slice (some ⟨g2, 0, none⟩) F.nU F.nU) ∧ w'.cell? ⟨bY, 1, none⟩ = some (.slice (some ⟨qb2, ob2, none⟩) F.nU cbU) ∧ w'.cell? ⟨qb2, ob2 + k, none⟩ = some (.int .u8 (G.U k))) 11 (([0, 1, 2, 3, 4, 5, 6, 7, 8, 9, 10].map (·, true)) ++ (([11].map (·, false)))) (by kernel_rfl) (by kernel_rfl) (by kernel_rfl) ⟨(by simp only [World.cell?_drew]; rw [World.cell?_setCell_far _ _ _ _ (by simp; omega)]; exact zc), (by simp only [World.cell?_drew]; rw [World.cell?_setCell_far _ _ _ _ (by simp; omega)]; exact yc), (by simp only [World.cell?_drew]; rw [World.cell?_setCell_far _ _ _ _ (by simp; omega)]; exact yb)⟩ ?_
            refine' Plan.plan_seg _ [0, 1, 2, 3, 4, 5, 6, 7, 8, 9, 10] (([11].map (·, false))) (by kernel_rfl) (by kernel_rfl) rfl (by exact ⟨(by simp only [World.cell?_drew]; rw [World.cell?_setCell_far _ _ _ _ (by simp; omega)]; exact zc), (by simp only [World.cell?_drew]; rw [World.cell?_setCell_far _ _ _ _ (by simp; omega)]; exact yc), (by simp only [World.cell?_drew]; rw [World.cell?_setCell_far _ _ _ _ (by simp; omega)]; exact yb)⟩) (fun wx hS => ?_) ?_
            rotate_left
            · obtain ⟨x1, x2, x3⟩ := hS
              go_light
              iterate 11 (apply Plan.seg_pick; rfl; intro K hK; go_wp)
              exact Plan.seg_nil
            refine Plan.plan_of_last rfl (fun K hK => ?_)
            go_wp2_with fail
            refine Plan.plan_done ?_
            go_wp2_with fail
            go_roundw
            case rel =>
              refine ⟨k + 1, by omega, by go_num, by repeat (first | exact HG.out | refine only_drew ?_ | refine only_store ?_ _ _), ?_⟩
              have h1 := HO.out.store k (F' := fun j => if j = k then F.U k else if j < k then wipeF (F.W / 2) (F.H / 2) 2 num den F.U G.U j else 0) (u := F.U k) (by simp) (fun i _ hik => by simp [hik])
              repeat refine Row.drew ?_
              refine h1.store k (F' := fun j => if j < k + 1 then wipeF (F.W / 2) (F.H / 2) 2 num den F.U G.U j else 0) (u := G.U k) ?_ (fun i _ hik => ?_)
              · simp only [show k < k + 1 by omega, if_true]; exact HW1.out
              · simp only [hik, if_false]; exact ite_iff (by omega)
            case measure => simp [intOf]; omega
          · have hw1 : wipeF (F.W / 2) (F.H / 2) 2 num den F.U G.U k = F.U k := by rw [wipe_at HPL.out]; exact if_neg hcmp
            have HW1 := Lib.hid hw1
            clear hw1
            refine Plan.wp_region_planz (fun w' => w'.cell? ⟨bz, 1, none⟩ = some (.slice (some ⟨g2, 0, none⟩) F.nU F.nU) ∧ w'.cell? ⟨bx, 1, none⟩ = some (.slice (some ⟨qa2, oa2, none⟩) F.nU caU) ∧ w'.cell? ⟨qa2, oa2 + k, none⟩ = some (.int .u8 (F.U k))) 11 (([0, 1, 2, 3, 4, 5, 6, 7, 8, 9, 10].map (·, true)) ++ (([11].map (·, false)))) (by kernel_rfl) (by kernel_rfl) (by kernel_rfl) ⟨zc, xc, xb⟩ ?_
            refine' Plan.plan_seg _ [0, 1, 2, 3, 4, 5, 6, 7, 8, 9, 10] (([11].map (·, false))) (by kernel_rfl) (by kernel_rfl) rfl (by exact ⟨zc, xc, xb⟩) (fun wx hS => ?_) ?_
            rotate_left
            · obtain ⟨x1, x2, x3⟩ := hS
              go_light
              iterate 11 (apply Plan.seg_pick; rfl; intro K hK; go_wp)
              exact Plan.seg_nil
            refine Plan.plan_of_last rfl (fun K hK => ?_)
            go_wp2_with fail
            refine Plan.plan_done ?_
            go_wp2_with fail
            go_roundw
            case rel =>
              refine ⟨k + 1, by omega, by go_num, by repeat (first | exact HG.out | refine only_drew ?_ | refine only_store ?_ _ _), ?_⟩
              repeat refine Row.drew ?_
              refine HO.out.store k (F' := fun j => if j < k + 1 then wipeF (F.W / 2) (F.H / 2) 2 num den F.U G.U j else 0) (u := F.U k) ?_ (fun i _ hik => ite_iff (by omega))
              simp only [show k < k + 1 by omega, if_true]; exact HW1.out
            case measure => simp [intOf]; omega
        · obtain rfl : k = F.nU := by omega
          have hRow := ho.congr (F' := wipeF (F.W / 2) (F.H / 2) 2 num den F.U G.U) (fun i hi => if_pos hi)
          obtain ⟨r1, r2, r3⟩ := RR.out
          replace r1 := only_row hgr r1 (by omega)
          replace r2 := hRow
          replace r3 := only_row hgr r3 (by omega)
          replace RR := Lib.hid (R3.mk r1 r2 r3)
          replace TX := Lib.hid (TX.out.only hgr (by omega))
          replace TY := Lib.hid (TY.out.only hgr (by omega))
          replace TZ := Lib.hid (TZ.out.only hgr (by omega))
          replace TW := Lib.hid (TW.out.only hgr (by omega))
          replace TH := Lib.hid (TH.out.only hgr (by omega))
          replace BX_t := Lib.hid (BX_t.out.only hgr (by omega))
          replace BX_r := Lib.hid (BX_r.out.only hgr (by omega))
          replace FZ_r := Lib.hid (FZ_r.out.only hgr (by omega))
          replace HB := Lib.hid (HB.out.trans (only_below hgr (by omega) HB.out.size))
          clear hRow r1 r2 r3 ho hgr
          go_wp2_with fail
          obtain ⟨v12, hw⟩ : ∃ x, x = wr := ⟨_, rfl⟩
          rw [← hw] at RR TX TY TZ TW TH BX_t BX_r FZ_r HB ⊢
          clear hw zc
          rw [rounds_succ]
          go_wp2_with fail
          go_loopw [23] (fun i wr => ∃ k : Nat, k ≤ F.nV ∧ i = .int .i64 (k : Int) ∧ v12.grownBy wr (some g3) ∧ Row wr B g3 F.nV F.nV (fun j => if j < k then wipeF (F.W / 2) (F.H / 2) 2 num den F.V G.V j else 0)) (fun i _ => F.nV - (intOf i).toNat)
          case atStart => exact ⟨0, Nat.zero_le _, rfl, only_refl _ _, by simpa using RR.out.r3⟩
          case round =>
            obtain ⟨k, hk, rfl, hgr, ho⟩ := hrel
            have zc := (TZ.out.only hgr (by omega)).k2
            by_cases hlt : k < F.nV
            · have xc := (TX.out.only hgr (by omega)).k2
              have yc := (TY.out.only hgr (by omega)).k2
              have wc := (TW.out.only hgr (by omega)).k2
              have hc' := (TH.out.only hgr (by omega)).k2
              have hbw := HB.out.trans (only_below hgr (by omega) HB.out.size)
              have xb := (hbw.cell (p := ⟨qa3, oa3 + k, none⟩) (block_lt_of_cell (HC3.out.1 k hlt))).trans (HC3.out.1 k hlt)
              have yb := (hbw.cell (p := ⟨qb3, ob3 + k, none⟩) (block_lt_of_cell (HC3.out.2.1 k hlt))).trans (HC3.out.2.1 k hlt)
              have lxa : qa3 < w.heap.size := block_lt_of_cell (HC3.out.1 k hlt)
              have lyb : qb3 < w.heap.size := block_lt_of_cell (HC3.out.2.1 k hlt)
              have hc := ho.cell k hlt
              rw [if_neg (by omega)] at hc
              have hf := World.ownsRow.frozenAt ho k
              obtain ⟨v1, v2, v3, v4⟩ := div_bd (k := k) (W := F.W / 2) (H := F.H / 2) (by omega) (HLT.out.2.2 k hlt)
              have hpl : placeF ((k : Int) % (F.W / 2)) ((k : Int) / (F.W / 2)) (F.W / 2) (F.H / 2) 2 = (((k : Int) / (F.W / 2)), (F.H / 2)) := rfl
              have HPL := Lib.hid hpl
              obtain ⟨m1, m2⟩ := mul_bd (x := ((k : Int) / (F.W / 2))) (y := den) (by omega) (by omega) (by omega) d2
              obtain ⟨m3, m4⟩ := mul_bd (x := (F.H / 2)) (y := num) (by omega) (by omega) d3 (by omega)
              have e1 := IntWalk.i64_in (((k : Int) / (F.W / 2)) * den) (by omega)
              have e2 := IntWalk.i64_in ((F.H / 2) * num) (by omega)
              have HO := Lib.hid ho
              have HG := Lib.hid hgr
              clear ho hgr hbw hpl
              go_wp2_with fail
              refine Plan.wp_region_plan (fun w' => w'.cell? ⟨bw, 2, none⟩ = some (.int .i64 (F.W / 2))) (([0, 1, 2, 3, 4, 5, 6, 7, 8, 9, 10, 11].map (·, true))) (by kernel_rfl) (by kernel_rfl) (by kernel_rfl) wc ?_
              refine' Plan.plan_seg _ [0, 1, 2, 3, 4, 5, 6, 7, 8, 9, 10, 11] ([]) (by kernel_rfl) (by kernel_rfl) rfl (by exact wc) (fun wx hS => ?_) ?_
              rotate_left
              · obtain x1 := hS
                go_light
                iterate 12 (apply Plan.seg_pick; rfl; intro K hK; go_wp)
                exact Plan.seg_nil
              refine Plan.plan_done ?_
              go_wp2_with fail
              refine Plan.wp_region_plan (fun w' => w'.cell? ⟨bw, 2, none⟩ = some (.int .i64 (F.W / 2))) (([0, 1, 2, 3, 4, 5].map (·, true))) (by kernel_rfl) (by kernel_rfl) (by kernel_rfl) wc ?_
              refine' Plan.plan_seg _ [0, 1, 2, 3, 4, 5] ([]) (by kernel_rfl) (by kernel_rfl) rfl (by exact wc) (fun wx hS => ?_) ?_
              rotate_left
              · obtain x1 := hS
                go_light
                iterate 6 (apply Plan.seg_pick; rfl; intro K hK; go_wp)
                exact Plan.seg_nil
              refine Plan.plan_done ?_
              go_wp2_with fail
              refine Plan.wp_region_plan (fun w' => w'.cell? ⟨bh, 2, none⟩ = some (.int .i64 (F.H / 2))) (([0, 1, 2, 3, 4, 5].map (·, true))) (by kernel_rfl) (by kernel_rfl) (by kernel_rfl) hc' ?_
              refine' Plan.plan_seg _ [0, 1, 2, 3, 4, 5] ([]) (by kernel_rfl) (by kernel_rfl) rfl (by exact hc') (fun wx hS => ?_) ?_
              rotate_left
              · obtain x1 := hS
                go_light
                iterate 6 (apply Plan.seg_pick; rfl; intro K hK; go_wp)
                exact Plan.seg_nil
              refine Plan.plan_done ?_
              go_wp2_with fail
              by_cases hcmp : ((k : Int) / (F.W / 2)) * den < (F.H / 2) * num
              · have hw1 : wipeF (F.W / 2) (F.H / 2) 2 num den F.V G.V k = G.V k := by rw [wipe_at HPL.out]; exact if_pos hcmp
                have HW1 := Lib.hid hw1
                clear hw1
                refine Plan.wp_region_planz (fun w' => w'.cell? ⟨bz, 2, none⟩ = some (.slice (some ⟨g3, 0, none⟩) F.nV F.nV) ∧ w'.cell? ⟨bx, 2, none⟩ = some (.slice (some ⟨qa3, oa3, none⟩) F.nV caV) ∧ w'.cell? ⟨qa3, oa3 + k, none⟩ = some (.int .u8 (F.V k))) 11 (([0, 1, 2, 3, 4, 5, 6, 7, 8, 9, 10].map (·, true)) ++ (([11].map (·, false)))) (by kernel_rfl) (by kernel_rfl) (by kernel_rfl) ⟨zc, xc, xb⟩ ?_
                refine' Plan.plan_seg _ [0, 1, 2, 3, 4, 5, 6, 7, 8, 9, 10] (([11].map (·, false))) (by kernel_rfl) (by kernel_rfl) rfl (by exact ⟨zc, xc, xb⟩) (fun wx hS => ?_) ?_
                rotate_left
                · obtain ⟨x1, x2, x3⟩ := hS
                  go_light
                  iterate 11 (apply Plan.seg_pick; rfl; intro K hK; go_wp)
                  exact Plan.seg_nil
                refine Plan.plan_of_last rfl (fun K hK => ?_)
                go_wp2_with fail
                refine Plan.plan_done ?_
                go_wp2_with fail
                refine Plan.wp_region_planz (fun w' => w'.cell? ⟨bz, 2, none⟩ = some (.slice (some ⟨g3, 0, none⟩) F.nV F.nV) ∧ w'.cell? ⟨bY, 2, none⟩ = some (.slice (some ⟨qb3, ob3, none⟩) F.nV cbV) ∧ w'.cell? ⟨qb3, ob3 + k, none⟩ = some (.int .u8 (G.V k))) 11 (([0, 1, 2, 3, 4, 5, 6, 7, 8, 9, 10].map (·, true)) ++ (([11].map (·, false)))) (by kernel_rfl) (by kernel_rfl) (by kernel_rfl) ⟨(by simp only [World.cell?_drew]; rw [World.cell?_setCell_far _ _ _ _ (by simp; omega)]; exact zc), (by simp only [World.cell?_drew]; rw [World.cell?_setCell_far _ _ _ _ (by simp; omega)]; exact yc), (by simp only [World.cell?_drew]; rw [World.cell?_setCell_far _ _ _ _ (by simp; omega)]; exact yb)⟩ ?_
                refine' Plan.plan_seg _ [0, 1, 2, 3, 4, 5, 6, 7, 8, 9, 10] (([11].map (·, false))) (by kernel_rfl) (by kernel_rfl) rfl (by exact ⟨(by simp only [World.cell?_drew]; rw [World.cell?_setCell_far _ _ _ _ (by simp; omega)]; exact zc), (by simp only [World.cell?_drew]; rw [World.cell?_setCell_far _ _ _ _ (by simp; omega)]; exact yc), (by simp only [World.cell?_drew]; rw [World.cell?_setCell_far _ _ _ _ (by simp; omega)]; exact yb)⟩) (fun wx hS => ?_) ?_
                rotate_left
                · obtain ⟨x1, x2, x3⟩ := hS
                  go_light
                  iterate 11 (apply Plan.seg_pick; rfl; intro K hK; go_wp)
                  exact Plan.seg_nil
                refine Plan.plan_of_last rfl (fun K hK => ?_)
                go_wp2_with fail
                refine Plan.plan_done ?_
                go_wp2_with fail
                go_roundw
                case rel =>
                  refine ⟨k + 1, by omega, by go_num, by repeat (first | exact HG.out | refine only_drew ?_ | refine only_store ?_ _ _), ?_⟩
                  have h1 := HO.out.store k (F' := fun j => if j = k then F.V k else if j < k then wipeF (F.W / 2) (F.H / 2) 2 num den F.V G.V j else 0) (u := F.V k) (by simp) (fun i _ hik => by simp [hik])
                  repeat refine Row.drew ?_
                  refine h1.store k (F' := fun j => if j < k + 1 then wipeF (F.W / 2) (F.H / 2) 2 num den F.V G.V j else 0) (u := G.V k) ?_ (fun i _ hik => ?_)
                  · simp only [show k < k + 1 by omega, if_true]; exact HW1.out
                  · simp only [hik, if_false]; exact ite_iff (by omega)
                case measure => simp [intOf]; omega
              · have hw1 : wipeF (F.W / 2) (F.H / 2) 2 num den F.V G.V k = F.V k := by rw [wipe_at HPL.out]; exact if_neg hcmp
                have HW1 := Lib.hid hw1
                clear hw1
                refine Plan.wp_region_planz (fun w' => w'.cell? ⟨bz, 2, none⟩ = some (.slice (some ⟨g3, 0, none⟩) F.nV F.nV) ∧ w'.cell? ⟨bx, 2, none⟩ = some (.slice (some ⟨qa3, oa3, none⟩) F.nV caV) ∧ w'.cell? ⟨qa3, oa3 + k, none⟩ = some (.int .u8 (F.V k))) 11 (([0, 1, 2, 3, 4, 5, 6, 7, 8, 9, 10].map (·, true)) ++ (([11].map (·, false)))) (by kernel_rfl) (by kernel_rfl) (by kernel_rfl) ⟨zc, xc, xb⟩ ?_
                refine' Plan.plan_seg _ [0, 1, 2, 3, 4, 5, 6, 7, 8, 9, 10] (([11].map (·, false))) (by kernel_rfl) (by kernel_rfl) rfl (by exact ⟨zc, xc, xb⟩) (fun wx hS => ?_) ?_
                rotate_left
                · obtain ⟨x1, x2, x3⟩ := hS
                  go_light
                  iterate 11 (apply Plan.seg_pick; rfl; intro K hK; go_wp)
                  exact Plan.seg_nil
                refine Plan.plan_of_last rfl (fun K hK => ?_)
                go_wp2_with fail
                refine Plan.plan_done ?_
                go_wp2_with fail
                go_roundw
                case rel =>
                  refine ⟨k + 1, by omega, by go_num, by repeat (first | exact HG.out | refine only_drew ?_ | refine only_store ?_ _ _), ?_⟩
                  repeat refine Row.drew ?_
                  refine HO.out.store k (F' := fun j => if j < k + 1 then wipeF (F.W / 2) (F.H / 2) 2 num den F.V G.V j else 0) (u := F.V k) ?_ (fun i _ hik => ite_iff (by omega))
                  simp only [show k < k + 1 by omega, if_true]; exact HW1.out
                case measure => simp [intOf]; omega
            · obtain rfl : k = F.nV := by omega
              have hRow := ho.congr (F' := wipeF (F.W / 2) (F.H / 2) 2 num den F.V G.V) (fun i hi => if_pos hi)
              obtain ⟨r1, r2, r3⟩ := RR.out
              replace r1 := only_row hgr r1 (by omega)
              replace r2 := only_row hgr r2 (by omega)
              replace r3 := hRow
              replace RR := Lib.hid (R3.mk r1 r2 r3)
              replace TX := Lib.hid (TX.out.only hgr (by omega))
              replace TY := Lib.hid (TY.out.only hgr (by omega))
              replace TZ := Lib.hid (TZ.out.only hgr (by omega))
              replace TW := Lib.hid (TW.out.only hgr (by omega))
              replace TH := Lib.hid (TH.out.only hgr (by omega))
              replace BX_t := Lib.hid (BX_t.out.only hgr (by omega))
              replace BX_r := Lib.hid (BX_r.out.only hgr (by omega))
              replace FZ_r := Lib.hid (FZ_r.out.only hgr (by omega))
              replace HB := Lib.hid (HB.out.trans (only_below hgr (by omega) HB.out.size))
              clear hRow r1 r2 r3 ho hgr
              go_wp2_with fail
              obtain ⟨v13, hw⟩ : ∃ x, x = wr := ⟨_, rfl⟩
              rw [← hw] at RR TX TY TZ TW TH BX_t BX_r FZ_r HB ⊢
              clear hw zc
              rw [rounds_succ]
              obtain ⟨t0, t1, t2, t3, t4⟩ := BX_t.out
              obtain ⟨r0, r1, r2, r3, r4⟩ := BX_r.out
              have fz := FZ_r.out.2
              go_wp2_with fail
              refine bodyPost_ret (results_cell_tmp rfl _ _ _ rfl rfl (load_fr (BX_r.out.put5 _ _ _ _ _))) rfl ?_
              refine ⟨_, rfl, ?_, below_put5 HB.out n0 _ _ _ _ _⟩
              exact R3.FA (((((RR.out.far (by omega) _ _).far (by omega) _ _).far (by omega) _ _).far (by omega) _ _).far (by omega) _ _) (fun i hi => wipe_bd HC1.out.2.2.1 HC1.out.2.2.2 i hi) (fun i hi => wipe_bd HC2.out.2.2.1 HC2.out.2.2.2 i hi) (fun i hi => wipe_bd HC3.out.2.2.1 HC3.out.2.2.2 i hi)

end Go.Proofs.Ytnnobdcbmagbaaa
