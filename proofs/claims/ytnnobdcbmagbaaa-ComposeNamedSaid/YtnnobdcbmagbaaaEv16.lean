/- Texts of this claim joined: KD. -/
import Derived.Test.YtnnobdcbmagbaaaEv15
set_option linter.unusedVariables false
set_option linter.unusedSimpArgs false

/- The contract of cutroomref26.Key where it answers a frame. -/
namespace Go.Proofs.Ytnnobdcbmagbaaa
open Go.RowKit
set_option linter.unusedVariables false

theorem blank_as (F : Fr) (Wn : Nat) (w : World) (hF : F.ok = true) (hW : F.W = (Wn : Int)) :
    Calls Try.prog 42 #[.int .i64 (Wn : Int), .int .i64 F.H] w fun e w' => ∃ g1 g2 g3, e = .returned (.agg #[.int .i64 (Wn : Int), .int .i64 F.H, .slice (some ⟨g1, 0, none⟩) F.nY F.nY, .slice (some ⟨g2, 0, none⟩) F.nU F.nU, .slice (some ⟨g3, 0, none⟩) F.nV F.nV]) ∧
      R3 w' w.heap.size g1 g2 g3 F.nY F.nU F.nV (fun _ => 0) (fun _ => 0) (fun _ => 0) ∧ g1 ≠ g2 ∧ g1 ≠ g3 ∧ g2 ≠ g3 ∧ Below w.heap.size w w' := by
  rw [← hW]; exact blank_fr F w hF

set_option maxRecDepth 100000 in
set_option maxHeartbeats 4000000 in
theorem rkey_yes (v u : Value) (F G : Fr) (t : Int) (w : World) (hv : FA w v F) (hu : FA w u G) (hp : pairOk F G = true) (ht : okThr t = true) :
    Calls Try.prog 27 #[v, u, .int .i64 t] w fun e w' => ∃ r, e = .returned (.tuple #[r, .int .i64 0]) ∧ FA w' r (keyFr t F G) ∧ Below w.heap.size w w' := by
  obtain ⟨paY, caY, paU, caU, paV, caV, rfl⟩ := hv.shape
  obtain ⟨pbY, cbY, pbU, cbU, pbV, cbV, rfl⟩ := hu.shapeAs (Dim.of_pair hp)
  have hd := Dim.of_pair hp
  obtain ⟨xd1, xd2, xd3, xd4, xd5⟩ := hd
  have fb := ok_bd (pair_dims hp).1
  obtain ⟨f1, f2, f3, f4, f5⟩ := fb
  have hpa := hv.plane
  have hpb := hu.plane
  obtain ⟨ha1, ha2, ha3, -, -, -, la1, la2, la3⟩ := hpa
  obtain ⟨hb1, hb2, hb3, -, -, -, lb1, lb2, lb3⟩ := hpb
  obtain ⟨qa1, oa1, rfl, ca1⟩ := ha1 (by omega)
  obtain ⟨qb1, ob1, rfl, cb1⟩ := hb1 (by omega)
  obtain ⟨qa2, oa2, rfl, ca2⟩ := ha2 (by omega)
  obtain ⟨qb2, ob2, rfl, cb2⟩ := hb2 (by omega)
  obtain ⟨qa3, oa3, rfl, ca3⟩ := ha3 (by omega)
  obtain ⟨qb3, ob3, rfl, cb3⟩ := hb3 (by omega)
  have ba1 := hv.bdY
  have ba2 := hv.bdU
  have ba3 := hv.bdV
  have bb1 := hu.bdY
  have bb2 := hu.bdU
  have bb3 := hu.bdV
  rw [xd3] at cb1 bb1 lb1
  rw [xd4] at cb2 bb2 lb2
  rw [xd5] at cb3 bb3 lb3
  have HC1 := Lib.hid (And.intro ca1 (And.intro cb1 (And.intro ba1 bb1)))
  have HC2 := Lib.hid (And.intro ca2 (And.intro cb2 (And.intro ba2 bb2)))
  have HC3 := Lib.hid (And.intro ca3 (And.intro cb3 (And.intro ba3 bb3)))
  have FA_a := Lib.hid hv
  have FA_b := Lib.hid hu
  have HP := Lib.hid hp
  have HF := Lib.hid (pair_dims hp).1
  have i1 : F.nY ≤ 4096 := f2
  have i2 : F.nU ≤ 1024 := f4
  have i3 : F.nV ≤ 1024 := by omega
  obtain ⟨s1, s2, s3, s4, _, _, _, _⟩ := okSize_bd (ok_dims HF.out).1
  have HB := Lib.hid (Below.refl w.heap.size w)
  clear ca1 ca2 ca3 cb1 cb2 cb3 ba1 ba2 ba3 bb1 bb2 bb3 xd1 xd2 xd3 xd4 xd5 f1 f2 f3 f4 f5 hv hu hp
  simp only [okThr, decide_eq_true_eq] at ht
  obtain ⟨th0, th1⟩ := ht
  obtain ⟨Wn, hWn⟩ := Int.eq_ofNat_of_zero_le (show 0 ≤ F.W by omega)
  have wn1 : 16 ≤ Wn := by omega
  have wn2 : Wn ≤ 64 := by omega
  have nv1 : F.nV ≤ F.nU := by have := (ok_bd HF.out).2.2.2.2; omega
  have nv2 : F.nU ≤ F.nV := by have := (ok_bd HF.out).2.2.2.2; omega
  rw [hWn] at FA_a FA_b ⊢
  have EW := Lib.hid hWn
  clear hWn s1 s2
  go_enter Try.func27, Try.ntmps27
  go_upto_region 1 with fail
  obtain ⟨w1, hw⟩ : ∃ x, x = ((w.alloc (.cells #[.int .i64 (Wn : Int), .int .i64 F.H, .slice (some ⟨qa1, oa1, none⟩) F.nY caY, .slice (some ⟨qa2, oa2, none⟩) F.nU caU, .slice (some ⟨qa3, oa3, none⟩) F.nV caV] 26)).alloc (.cells #[.int .i64 (Wn : Int), .int .i64 F.H, .slice (some ⟨qb1, ob1, none⟩) F.nY cbY, .slice (some ⟨qb2, ob2, none⟩) F.nU cbU, .slice (some ⟨qb3, ob3, none⟩) F.nV cbV] 26)).alloc (.cells #[.int .i64 0, .int .i64 0, .slice none 0 0, .slice none 0 0, .slice none 0 0] 26) := ⟨_, rfl⟩
  rw [← hw]
  have hE : Below w.heap.size w w1 := by rw [hw]; go_grown
  have BX_a := Lib.hid (show BX w1 w.heap.size _ _ _ _ _ by rw [hw]; exact ((BX.of_alloc _ _ _ _ _ _ _).below (below_box _ _)).below (below_box _ _))
  have BX_b := Lib.hid (show BX w1 (w.heap.size + 1) _ _ _ _ _ by rw [hw]; exact (BX.of_alloc' _ _ _ _ _ _ _ _ (by simp)).below (below_box _ _))
  have BX_r := Lib.hid (show BX w1 (w.heap.size + 1 + 1) _ _ _ _ _ by rw [hw]; exact BX.of_alloc' _ _ _ _ _ _ _ _ (by simp))
  have FZ_r := Lib.hid (show Fz w1 (w.heap.size + 1 + 1) from ⟨by rw [hw]; simp, fun o => by rw [hw]; simp [go_sem]⟩)
  replace FA_a := Lib.hid (FA_a.out.below hE)
  replace FA_b := Lib.hid (FA_b.out.below hE)
  replace HB := Lib.hid hE
  clear hw hE
  obtain ⟨bla, hbla⟩ : ∃ b, b = w.heap.size := ⟨_, rfl⟩
  obtain ⟨blb, hblb⟩ : ∃ b, b = w.heap.size + 1 := ⟨_, rfl⟩
  obtain ⟨blr, hblr⟩ : ∃ b, b = w.heap.size + 1 + 1 := ⟨_, rfl⟩
  rw [← hblr] at BX_r FZ_r ⊢
  rw [← hblb] at BX_b ⊢
  rw [← hbla] at BX_a ⊢
  have n0 : w.heap.size ≤ blr := by omega
  clear hbla hblb hblr
  obtain ⟨a0, a1, a2, a3, a4⟩ := BX_a.out
  obtain ⟨b0, b1, b2, b3, b4⟩ := BX_b.out
  go_wp2_with fail
  refine (pair_any _ _ F G _ FA_a.out FA_b.out).mono ?_
  rintro e w2 ⟨rfl, hb⟩
  rw [HP.out]
  have HE := Lib.hid hb
  clear hb
  clear a0 a1 a2 a3 a4
  clear b0 b1 b2 b3 b4
  replace FA_a := Lib.hid (FA_a.out.below HE.out)
  replace FA_b := Lib.hid (FA_b.out.below HE.out)
  replace BX_a := Lib.hid (BX_a.out.below HE.out)
  replace BX_b := Lib.hid (BX_b.out.below HE.out)
  replace BX_r := Lib.hid (BX_r.out.below HE.out)
  replace FZ_r := Lib.hid (FZ_r.out.below HE.out)
  replace HB := Lib.hid (HB.out.trans (HE.out.mono HB.out.size))
  clear HE
  go_upto_region 3 with fail
  obtain ⟨a0, a1, a2, a3, a4⟩ := BX_a.out
  go_wp2_with fail
  refine (blank_as F Wn _ HF.out EW.out).mono ?_
  rintro e w3 ⟨g1, g2, g3, rfl, hR, d12, d13, d23, hb⟩
  have na := BX_a.out.lt
  have nb := BX_b.out.lt
  have nr := BX_r.out.lt
  have m0 := HB.out.size
  obtain ⟨B, hB⟩ : ∃ B, B = w2.heap.size := ⟨_, rfl⟩
  rw [← hB] at hR na nb nr m0
  have l1 := hR.r1.le
  have l2 := hR.r2.le
  have l3 := hR.r3.le
  have RR := Lib.hid hR
  have HE := Lib.hid hb
  clear hb hR hB
  clear a0 a1 a2 a3 a4
  go_upto_region 4 with fail
  obtain ⟨w4, hw⟩ : ∃ x, x = w3.alloc (.cells #[(.int .i64 (Wn : Int)), (.int .i64 F.H), (.slice (some ⟨g1, 0, none⟩) F.nY F.nY), (.slice (some ⟨g2, 0, none⟩) F.nU F.nU), (.slice (some ⟨g3, 0, none⟩) F.nV F.nV)] 26) := ⟨_, rfl⟩
  rw [← hw]
  have hE : Below w3.heap.size w3 w4 := by rw [hw]; exact below_box _ _
  have BX_t := Lib.hid (show BX w4 w3.heap.size _ _ _ _ _ by rw [hw]; exact BX.of_alloc _ _ _ _ _ _ _)
  replace RR := Lib.hid (RR.out.below hE)
  have HE2 := Lib.hid (HE.out.trans (hE.mono HE.out.size))
  obtain ⟨blt, hblt⟩ : ∃ b, b = w3.heap.size := ⟨_, rfl⟩
  rw [← hblt] at BX_t l1 l2 l3 ⊢
  clear hw hE HE hblt
  replace FA_a := Lib.hid (FA_a.out.below HE2.out)
  replace FA_b := Lib.hid (FA_b.out.below HE2.out)
  replace BX_a := Lib.hid (BX_a.out.below HE2.out)
  replace BX_b := Lib.hid (BX_b.out.below HE2.out)
  replace BX_r := Lib.hid (BX_r.out.below HE2.out)
  replace FZ_r := Lib.hid (FZ_r.out.below HE2.out)
  replace HB := Lib.hid (HB.out.trans (HE2.out.mono HB.out.size))
  clear HE2
  go_wp2_with fail
  go_loopw [9] (fun i wr => ∃ k : Nat, k ≤ F.nY ∧ i = .int .i64 (k : Int) ∧ w4.grownBy wr (some g1) ∧ Row wr B g1 F.nY F.nY (fun j => if j < k then keyY t F.Y G.Y j else 0)) (fun i _ => F.nY - (intOf i).toNat)
  case atStart => exact ⟨0, Nat.zero_le _, rfl, only_refl _ _, RR.out.r1.congr (fun i _ => by simp)⟩
  case round =>
    obtain ⟨k, hk, rfl, hgr, ho⟩ := hrel
    have zc := (BX_t.out.only hgr (by omega)).k2
    by_cases hlt : k < F.nY
    · have yc := (BX_b.out.only hgr (by omega)).k2
      have hbw := HB.out.trans (only_below hgr (by omega) HB.out.size)
      have yb := (hbw.cell (p := ⟨qb1, ob1 + k, none⟩) (block_lt_of_cell (HC1.out.2.1 k hlt))).trans (HC1.out.2.1 k hlt)
      have hc := ho.cell k hlt
      rw [if_neg (by omega)] at hc
      have hf := World.ownsRow.frozenAt ho k
      have HO := Lib.hid ho
      have HGR := Lib.hid hgr
      clear ho hgr hbw
      go_wp2_with fail
      refine Plan.wp_region_planz (fun w' => w'.cell? ⟨blt, 2, none⟩ = some (.slice (some ⟨g1, 0, none⟩) F.nY F.nY) ∧ w'.cell? ⟨blb, 2, none⟩ = some (.slice (some ⟨qb1, ob1, none⟩) F.nY cbY) ∧ w'.cell? ⟨qb1, ob1 + k, none⟩ = some (.int .u8 (G.Y k))) 9 (([0, 1, 2, 3, 4, 5, 6, 7, 8].map (·, true)) ++ (([9].map (·, false)))) (by kernel_rfl) (by kernel_rfl) (by kernel_rfl) ⟨zc, yc, yb⟩ ?_
      refine' Plan.plan_seg _ [0, 1, 2, 3, 4, 5, 6, 7, 8] (([9].map (·, false))) (by kernel_rfl) (by kernel_rfl) rfl (by exact ⟨zc, yc, yb⟩) (fun wx hS => ?_) ?_
      rotate_left
      · obtain ⟨z1, z2, z3⟩ := hS
        go_light
        iterate 9 (apply Plan.seg_pick; rfl; intro K hK; go_wp)
        exact Plan.seg_nil
      refine Plan.plan_of_last rfl (fun K hK => ?_)
      go_wp2_with fail
      refine Plan.plan_done ?_
      obtain ⟨w7, hw⟩ : ∃ x, x = (wr.setCell ⟨g1, k, none⟩ (.int .u8 (G.Y k))).drew := ⟨_, rfl⟩
      rw [← hw]
      have hgr : w4.grownBy w7 (some g1) := by rw [hw]; exact only_drew (only_store HGR.out _ _)
      have ho : Row w7 B g1 F.nY F.nY (fun j => if j < k then keyY t F.Y G.Y j else if j = k then G.Y k else 0) := by
        rw [hw]
        exact (HO.out.store k (F' := fun j => if j < k then keyY t F.Y G.Y j else if j = k then G.Y k else 0) (u := G.Y k) (by simp) (fun i _ hik => by by_cases e : i < k <;> simp [e, hik])).drew
      clear hw zc yc yb hc hf HO HGR
      have zc := (BX_t.out.only hgr (by omega)).k2
      have xc := (BX_a.out.only hgr (by omega)).k2
      have hbw := HB.out.trans (only_below hgr (by omega) HB.out.size)
      have xb := (hbw.cell (p := ⟨qa1, oa1 + k, none⟩) (block_lt_of_cell (HC1.out.1 k hlt))).trans (HC1.out.1 k hlt)
      have b1 := HC1.out.2.2.1 k hlt
      have hc := ho.cell k hlt
      rw [if_neg (by omega), if_pos rfl] at hc
      have hf := World.ownsRow.frozenAt ho k
      have HO := Lib.hid ho
      have HGR := Lib.hid hgr
      clear ho hgr hbw
      by_cases hge : t ≤ F.Y k
      · go_wp2_with fail
        refine Plan.wp_region_planz (fun w' => w'.cell? ⟨blt, 2, none⟩ = some (.slice (some ⟨g1, 0, none⟩) F.nY F.nY) ∧ w'.cell? ⟨bla, 2, none⟩ = some (.slice (some ⟨qa1, oa1, none⟩) F.nY caY) ∧ w'.cell? ⟨qa1, oa1 + k, none⟩ = some (.int .u8 (F.Y k))) 9 (([0, 1, 2, 3, 4, 5, 6, 7, 8].map (·, true)) ++ (([9].map (·, false)))) (by kernel_rfl) (by kernel_rfl) (by kernel_rfl) ⟨zc, xc, xb⟩ ?_
        refine' Plan.plan_seg _ [0, 1, 2, 3, 4, 5, 6, 7, 8] (([9].map (·, false))) (by kernel_rfl) (by kernel_rfl) rfl (by exact ⟨zc, xc, xb⟩) (fun wx hS => ?_) ?_
        rotate_left
        · obtain ⟨z1, z2, z3⟩ := hS
          go_light
          iterate 9 (apply Plan.seg_pick; rfl; intro K hK; go_wp)
          exact Plan.seg_nil
        refine Plan.plan_of_last rfl (fun K hK => ?_)
        go_wp2_with fail
        refine Plan.plan_done ?_
        go_wp2_with fail
        go_roundw
        case rel =>
          refine ⟨k + 1, by omega, by go_num, only_drew (only_store HGR.out _ _), (HO.out.store k (F' := fun j => if j < k + 1 then keyY t F.Y G.Y j else 0) (u := F.Y k) (by simp [keyY, hge]) (fun i _ hik => ?_)).drew⟩
          by_cases e : i < k
          · simp [e, show i < k + 1 by omega]
          · simp [e, hik, show ¬ i < k + 1 by omega]
        case measure => simp [intOf]; omega
      · go_wp2_with fail
        go_roundw
        case rel =>
          refine ⟨k + 1, by omega, by go_num, HGR.out, HO.out.congr (fun i hi => ?_)⟩
          by_cases e : i = k
          · subst e; simp [keyY, hge]
          · by_cases e' : i < k
            · simp [e', show i < k + 1 by omega]
            · simp [e', e, show ¬ i < k + 1 by omega]
        case measure => simp [intOf]; omega
    · obtain rfl : k = F.nY := by omega
      have hRow := ho.congr (F' := keyY t F.Y G.Y) (fun i hi => if_pos hi)
      replace RR := Lib.hid (R3.mk hRow (only_row hgr RR.out.r2 (by omega)) (only_row hgr RR.out.r3 (by omega)))
      replace BX_t := Lib.hid (BX_t.out.only hgr (by omega))
      replace BX_a := Lib.hid (BX_a.out.only hgr (by omega))
      replace BX_b := Lib.hid (BX_b.out.only hgr (by omega))
      replace BX_r := Lib.hid (BX_r.out.only hgr (by omega))
      replace FZ_r := Lib.hid (FZ_r.out.only hgr (by omega))
      replace HB := Lib.hid (HB.out.trans (only_below hgr (by omega) HB.out.size))
      clear hRow ho hgr
      go_wp2_with fail
      obtain ⟨w5, hw⟩ : ∃ x, x = wr := ⟨_, rfl⟩
      rw [← hw] at RR BX_t BX_a BX_b BX_r FZ_r HB ⊢
      clear hw zc
      go_loopw [10] (fun i wr => ∃ k : Nat, k ≤ F.nU ∧ i = .int .i64 (k : Int) ∧ Only2 w5 wr g2 g3 ∧ Row wr B g2 F.nU F.nU (fun j => if j < k then keyC t F.W F.Y F.U G.U j else 0) ∧ Row wr B g3 F.nV F.nV (fun j => if j < k then keyC t F.W F.Y F.V G.V j else 0)) (fun i _ => F.nU - (intOf i).toNat)
      case atStart => exact ⟨0, Nat.zero_le _, rfl, Only2.refl _ _ _, RR.out.r2.congr (fun i _ => by simp), RR.out.r3.congr (fun i _ => by simp)⟩
      case round =>
        obtain ⟨k, hk, rfl, hgr, ho, hv⟩ := hrel
        have t3 := (BX_t.out.only2 hgr (by omega) (by omega)).k3
        by_cases hlt : k < F.nU
        · obtain ⟨m, hm, hm1, hm2, hm3, e1, e2, e3, e4, e5, e6, e7⟩ := corner_all HF.out EW.out hlt
          have xt := BX_t.out.only2 hgr (by omega) (by omega)
          have xa := BX_a.out.only2 hgr (by omega) (by omega)
          have xbb := BX_b.out.only2 hgr (by omega) (by omega)
          have t4 := xt.k4
          have a0 := xa.k0
          have a2 := xa.k2
          have b3' := xbb.k3
          have b4' := xbb.k4
          have hbw := HB.out.trans (hgr.below (by omega) (by omega) HB.out.size)
          have by1 : ∀ i, i < F.nY → wr.cell? ⟨qa1, oa1 + i, none⟩ = some (.int .u8 (F.Y i)) := fun i hi => (hbw.cell (p := ⟨qa1, oa1 + i, none⟩) (block_lt_of_cell (HC1.out.1 i hi))).trans (HC1.out.1 i hi)
          have y0 := by1 m (by omega)
          have y1 := by1 (m + 1) (by omega)
          have y2 := by1 (m + Wn) (by omega)
          have y3 := by1 (m + Wn + 1) (by omega)
          have x2 := (hbw.cell (p := ⟨qb2, ob2 + k, none⟩) (block_lt_of_cell (HC2.out.2.1 k hlt))).trans (HC2.out.2.1 k hlt)
          have x3 := (hbw.cell (p := ⟨qb3, ob3 + k, none⟩) (block_lt_of_cell (HC3.out.2.1 k (by omega)))).trans (HC3.out.2.1 k (by omega))
          have b0 := HC1.out.2.2.1 m (by omega)
          have b1 := HC1.out.2.2.1 (m + 1) (by omega)
          have b2 := HC1.out.2.2.1 (m + Wn) (by omega)
          have b3 := HC1.out.2.2.1 (m + Wn + 1) (by omega)
          have hc2 := ho.cell k hlt
          have hc3 := hv.cell k (by omega)
          rw [if_neg (by omega)] at hc2 hc3
          have hf2 := World.ownsRow.frozenAt ho k
          have hf3 := World.ownsRow.frozenAt hv k
          have HO := Lib.hid (And.intro ho hv)
          have HGR := Lib.hid hgr
          have hmean : keyMean F.W F.Y k = (F.Y m + F.Y (m + 1) + F.Y (m + Wn) + F.Y (m + Wn + 1) + 2) / 4 := by unfold keyMean; rw [hm2, hm3]; congr 2; omega
          have HME := Lib.hid hmean
          clear ho hv hgr hbw by1 xt xa xbb hm2 hm3 hmean
          go_wp2_with fail
          have lqb2 : qb2 < w.heap.size := block_lt_of_cell (HC2.out.2.1 k hlt)
          have lqb3 : qb3 < w.heap.size := block_lt_of_cell (HC3.out.2.1 k (by omega))
          refine Plan.wp_region_plan (fun w' => w'.cell? ⟨bla, 0, none⟩ = some (.int .i64 (Wn : Int))) (([0, 1, 2, 3, 4, 5, 6, 7, 8, 9, 10, 11, 12, 13, 14, 15, 16].map (·, true))) (by kernel_rfl) (by kernel_rfl) (by kernel_rfl) a0 ?_
          refine' Plan.plan_seg _ [0, 1, 2, 3, 4, 5, 6, 7, 8, 9, 10, 11, 12, 13, 14, 15, 16] ([]) (by kernel_rfl) (by kernel_rfl) rfl (by exact a0) (fun wx hS => ?_) ?_
          rotate_left
          · obtain x0 := hS
            go_light
            iterate 17 (apply Plan.seg_pick; rfl; intro K hK; go_wp)
            exact Plan.seg_nil
          refine Plan.plan_done ?_
          go_wp2_with fail
          refine Plan.wp_region_plan (fun w' => w'.cell? ⟨bla, 2, none⟩ = some (.slice (some ⟨qa1, oa1, none⟩) F.nY caY) ∧ w'.cell? ⟨bla, 0, none⟩ = some (.int .i64 (Wn : Int)) ∧ w'.cell? ⟨qa1, oa1 + m, none⟩ = some (.int .u8 (F.Y m)) ∧ w'.cell? ⟨qa1, oa1 + (m + 1), none⟩ = some (.int .u8 (F.Y (m + 1))) ∧ w'.cell? ⟨qa1, oa1 + (m + Wn), none⟩ = some (.int .u8 (F.Y (m + Wn))) ∧ w'.cell? ⟨qa1, oa1 + (m + Wn + 1), none⟩ = some (.int .u8 (F.Y (m + Wn + 1)))) (([0, 1, 2, 3, 4, 5, 6, 7, 8, 9, 10, 11, 12, 13, 14, 15, 16, 17, 18, 19, 20, 21, 22, 23, 24, 25, 26, 27, 28, 29, 30, 31, 32, 33, 34, 35, 36, 37].map (·, true))) (by kernel_rfl) (by kernel_rfl) (by kernel_rfl) ⟨a2, a0, y0, y1, y2, y3⟩ ?_
          refine' Plan.plan_seg _ [0, 1, 2, 3, 4, 5, 6, 7, 8, 9, 10, 11, 12, 13, 14, 15, 16, 17, 18, 19, 20, 21, 22, 23, 24, 25, 26, 27, 28, 29, 30, 31, 32, 33, 34, 35, 36, 37] ([]) (by kernel_rfl) (by kernel_rfl) rfl (by exact ⟨a2, a0, y0, y1, y2, y3⟩) (fun wx hS => ?_) ?_
          rotate_left
          · obtain ⟨x0, x1, x9, x8, x7, x6⟩ := hS
            go_light
            iterate 38 (apply Plan.seg_pick; rfl; intro K hK; go_wp)
            exact Plan.seg_nil
          refine Plan.plan_done ?_
          go_wp2_with fail
          refine Plan.wp_region_planz (fun w' => w'.cell? ⟨blt, 3, none⟩ = some (.slice (some ⟨g2, 0, none⟩) F.nU F.nU) ∧ w'.cell? ⟨blt, 4, none⟩ = some (.slice (some ⟨g3, 0, none⟩) F.nV F.nV) ∧ w'.cell? ⟨blb, 3, none⟩ = some (.slice (some ⟨qb2, ob2, none⟩) F.nU cbU) ∧ w'.cell? ⟨blb, 4, none⟩ = some (.slice (some ⟨qb3, ob3, none⟩) F.nV cbV) ∧ w'.cell? ⟨qb2, ob2 + k, none⟩ = some (.int .u8 (G.U k)) ∧ w'.cell? ⟨qb3, ob3 + k, none⟩ = some (.int .u8 (G.V k))) 19 (([0, 1, 2, 3, 4, 5, 6, 7, 8, 9, 10, 11, 12, 13, 14, 15, 16].map (·, true)) ++ (([17].map (·, false)) ++ (([18].map (·, true)) ++ (([19].map (·, false)))))) (by kernel_rfl) (by kernel_rfl) (by kernel_rfl) ⟨t3, t4, b3', b4', x2, x3⟩ ?_
          refine' Plan.plan_seg _ [0, 1, 2, 3, 4, 5, 6, 7, 8, 9, 10, 11, 12, 13, 14, 15, 16] (([17].map (·, false)) ++ (([18].map (·, true)) ++ (([19].map (·, false))))) (by kernel_rfl) (by kernel_rfl) rfl (by exact ⟨t3, t4, b3', b4', x2, x3⟩) (fun wx hS => ?_) ?_
          rotate_left
          · obtain ⟨z1, z2, z3, z4, z5, z6⟩ := hS
            go_light
            iterate 17 (apply Plan.seg_pick; rfl; intro K hK; go_wp)
            exact Plan.seg_nil
          refine Plan.plan_of_effect rfl (fun K hK => ?_)
          go_wp2_with fail
          refine ⟨⟨(by simp only [World.cell?_drew]; rw [World.cell?_setCell_far _ _ _ _ (by simp; omega)]; exact t3), (by simp only [World.cell?_drew]; rw [World.cell?_setCell_far _ _ _ _ (by simp; omega)]; exact t4), (by simp only [World.cell?_drew]; rw [World.cell?_setCell_far _ _ _ _ (by simp; omega)]; exact b3'), (by simp only [World.cell?_drew]; rw [World.cell?_setCell_far _ _ _ _ (by simp; omega)]; exact b4'), (by simp only [World.cell?_drew]; rw [World.cell?_setCell_far _ _ _ _ (by simp; omega)]; exact x2), (by simp only [World.cell?_drew]; rw [World.cell?_setCell_far _ _ _ _ (by simp; omega)]; exact x3)⟩, ?_⟩
          refine' Plan.plan_seg _ [18] (([19].map (·, false))) (by kernel_rfl) (by kernel_rfl) rfl (by exact ⟨(by simp only [World.cell?_drew]; rw [World.cell?_setCell_far _ _ _ _ (by simp; omega)]; exact t3), (by simp only [World.cell?_drew]; rw [World.cell?_setCell_far _ _ _ _ (by simp; omega)]; exact t4), (by simp only [World.cell?_drew]; rw [World.cell?_setCell_far _ _ _ _ (by simp; omega)]; exact b3'), (by simp only [World.cell?_drew]; rw [World.cell?_setCell_far _ _ _ _ (by simp; omega)]; exact b4'), (by simp only [World.cell?_drew]; rw [World.cell?_setCell_far _ _ _ _ (by simp; omega)]; exact x2), (by simp only [World.cell?_drew]; rw [World.cell?_setCell_far _ _ _ _ (by simp; omega)]; exact x3)⟩) (fun wx hS => ?_) ?_
          rotate_left
          · obtain ⟨z1, z2, z3, z4, z5, z6⟩ := hS
            go_light
            iterate 1 (apply Plan.seg_pick; rfl; intro K hK; go_wp)
            exact Plan.seg_nil
          refine Plan.plan_of_last rfl (fun K hK => ?_)
          go_wp2_with fail
          refine Plan.plan_done ?_
          obtain ⟨w7, hw⟩ : ∃ x, x = ((wr.setCell ⟨g2, k, none⟩ (.int .u8 (G.U k))).setCell ⟨g3, k, none⟩ (.int .u8 (G.V k))).drew.drew.drew := ⟨_, rfl⟩
          rw [← hw]
          have hgr : Only2 w5 w7 g2 g3 := by rw [hw]; repeat (first | with_reducible exact HGR.out | with_reducible refine Only2.drew ?_ | with_reducible refine Only2.set1 ?_ _ _ | with_reducible refine Only2.set2 ?_ _ _)
          have ho : Row w7 B g2 F.nU F.nU (fun j => if j < k then keyC t F.W F.Y F.U G.U j else if j = k then G.U k else 0) := by
            rw [hw]
            repeat (with_reducible refine Row.drew ?_)
            exact (HO.out.1.store k (F' := fun j => if j < k then keyC t F.W F.Y F.U G.U j else if j = k then G.U k else 0) (u := G.U k) (by simp) (fun i _ hik => by by_cases e : i < k <;> simp [e, hik])).far (by simp; omega) _
          have hv : Row w7 B g3 F.nV F.nV (fun j => if j < k then keyC t F.W F.Y F.V G.V j else if j = k then G.V k else 0) := by
            rw [hw]
            repeat (with_reducible refine Row.drew ?_)
            exact (HO.out.2.far (by simp; omega) _).store k (F' := fun j => if j < k then keyC t F.W F.Y F.V G.V j else if j = k then G.V k else 0) (u := G.V k) (by simp) (fun i _ hik => by by_cases e : i < k <;> simp [e, hik])
          clear hw HO HGR hc2 hc3 hf2 hf3 t3 t4 a0 a2 b3' b4' y0 y1 y2 y3 x2 x3
          have xt := BX_t.out.only2 hgr (by omega) (by omega)
          have xa := BX_a.out.only2 hgr (by omega) (by omega)
          have t3 := xt.k3
          have t4 := xt.k4
          have a3 := xa.k3
          have a4 := xa.k4
          have hbw := HB.out.trans (hgr.below (by omega) (by omega) HB.out.size)
          have x2 := (hbw.cell (p := ⟨qa2, oa2 + k, none⟩) (block_lt_of_cell (HC2.out.1 k hlt))).trans (HC2.out.1 k hlt)
          have x3 := (hbw.cell (p := ⟨qa3, oa3 + k, none⟩) (block_lt_of_cell (HC3.out.1 k (by omega)))).trans (HC3.out.1 k (by omega))
          have hc2 := ho.cell k hlt
          have hc3 := hv.cell k (by omega)
          rw [if_neg (by omega), if_pos rfl] at hc2 hc3
          have hf2 := World.ownsRow.frozenAt ho k
          have hf3 := World.ownsRow.frozenAt hv k
          have HO := Lib.hid (And.intro ho hv)
          have HGR := Lib.hid hgr
          clear ho hv hgr hbw xt xa
          have lq2 : qa2 < w.heap.size := block_lt_of_cell (HC2.out.1 k hlt)
          have lq3 : qa3 < w.heap.size := block_lt_of_cell (HC3.out.1 k (by omega))
          by_cases hge : t ≤ (F.Y m + F.Y (m + 1) + F.Y (m + Wn) + F.Y (m + Wn + 1) + 2) / 4
          · have HGE := Lib.hid (show t ≤ keyMean F.W F.Y k by rw [HME.out]; exact hge)
            go_wp2_with fail
            refine Plan.wp_region_planz (fun w' => w'.cell? ⟨blt, 3, none⟩ = some (.slice (some ⟨g2, 0, none⟩) F.nU F.nU) ∧ w'.cell? ⟨blt, 4, none⟩ = some (.slice (some ⟨g3, 0, none⟩) F.nV F.nV) ∧ w'.cell? ⟨bla, 3, none⟩ = some (.slice (some ⟨qa2, oa2, none⟩) F.nU caU) ∧ w'.cell? ⟨bla, 4, none⟩ = some (.slice (some ⟨qa3, oa3, none⟩) F.nV caV) ∧ w'.cell? ⟨qa2, oa2 + k, none⟩ = some (.int .u8 (F.U k)) ∧ w'.cell? ⟨qa3, oa3 + k, none⟩ = some (.int .u8 (F.V k))) 19 (([0, 1, 2, 3, 4, 5, 6, 7, 8, 9, 10, 11, 12, 13, 14, 15, 16].map (·, true)) ++ (([17].map (·, false)) ++ (([18].map (·, true)) ++ (([19].map (·, false)))))) (by kernel_rfl) (by kernel_rfl) (by kernel_rfl) ⟨t3, t4, a3, a4, x2, x3⟩ ?_
            refine' Plan.plan_seg _ [0, 1, 2, 3, 4, 5, 6, 7, 8, 9, 10, 11, 12, 13, 14, 15, 16] (([17].map (·, false)) ++ (([18].map (·, true)) ++ (([19].map (·, false))))) (by kernel_rfl) (by kernel_rfl) rfl (by exact ⟨t3, t4, a3, a4, x2, x3⟩) (fun wx hS => ?_) ?_
            rotate_left
            · obtain ⟨z1, z2, z3, z4, z5, z6⟩ := hS
              go_light
              iterate 17 (apply Plan.seg_pick; rfl; intro K hK; go_wp)
              exact Plan.seg_nil
            refine Plan.plan_of_effect rfl (fun K hK => ?_)
            go_wp2_with fail
            refine ⟨⟨(by simp only [World.cell?_drew]; rw [World.cell?_setCell_far _ _ _ _ (by simp; omega)]; exact t3), (by simp only [World.cell?_drew]; rw [World.cell?_setCell_far _ _ _ _ (by simp; omega)]; exact t4), (by simp only [World.cell?_drew]; rw [World.cell?_setCell_far _ _ _ _ (by simp; omega)]; exact a3), (by simp only [World.cell?_drew]; rw [World.cell?_setCell_far _ _ _ _ (by simp; omega)]; exact a4), (by simp only [World.cell?_drew]; rw [World.cell?_setCell_far _ _ _ _ (by simp; omega)]; exact x2), (by simp only [World.cell?_drew]; rw [World.cell?_setCell_far _ _ _ _ (by simp; omega)]; exact x3)⟩, ?_⟩
            refine' Plan.plan_seg _ [18] (([19].map (·, false))) (by kernel_rfl) (by kernel_rfl) rfl (by exact ⟨(by simp only [World.cell?_drew]; rw [World.cell?_setCell_far _ _ _ _ (by simp; omega)]; exact t3), (by simp only [World.cell?_drew]; rw [World.cell?_setCell_far _ _ _ _ (by simp; omega)]; exact t4), (by simp only [World.cell?_drew]; rw [World.cell?_setCell_far _ _ _ _ (by simp; omega)]; exact a3), (by simp only [World.cell?_drew]; rw [World.cell?_setCell_far _ _ _ _ (by simp; omega)]; exact a4), (by simp only [World.cell?_drew]; rw [World.cell?_setCell_far _ _ _ _ (by simp; omega)]; exact x2), (by simp only [World.cell?_drew]; rw [World.cell?_setCell_far _ _ _ _ (by simp; omega)]; exact x3)⟩) (fun wx hS => ?_) ?_
            rotate_left
            · obtain ⟨z1, z2, z3, z4, z5, z6⟩ := hS
              go_light
              iterate 1 (apply Plan.seg_pick; rfl; intro K hK; go_wp)
              exact Plan.seg_nil
            refine Plan.plan_of_last rfl (fun K hK => ?_)
            go_wp2_with fail
            refine Plan.plan_done ?_
            go_wp2_with fail
            go_roundw
            case rel =>
              refine ⟨k + 1, by omega, by go_num, by repeat (first | with_reducible exact HGR.out | with_reducible refine Only2.drew ?_ | with_reducible refine Only2.set1 ?_ _ _ | with_reducible refine Only2.set2 ?_ _ _), ?_, ?_⟩
              · repeat (with_reducible refine Row.drew ?_)
                refine (HO.out.1.store k (F' := fun j => if j < k + 1 then keyC t F.W F.Y F.U G.U j else 0) (u := F.U k) ?_ (fun i _ hik => ?_)).far (by simp; omega) _
                · simp only [show k < k + 1 by omega, if_true]; exact if_pos HGE.out
                · by_cases e : i < k
                  · simp [e, show i < k + 1 by omega]
                  · simp [e, hik, show ¬ i < k + 1 by omega]
              · repeat (with_reducible refine Row.drew ?_)
                refine (HO.out.2.far (by simp; omega) _).store k (F' := fun j => if j < k + 1 then keyC t F.W F.Y F.V G.V j else 0) (u := F.V k) ?_ (fun i _ hik => ?_)
                · simp only [show k < k + 1 by omega, if_true]; exact if_pos HGE.out
                · by_cases e : i < k
                  · simp [e, show i < k + 1 by omega]
                  · simp [e, hik, show ¬ i < k + 1 by omega]
            case measure => simp [intOf]; omega
          · have HGE := Lib.hid (show ¬ t ≤ keyMean F.W F.Y k by rw [HME.out]; exact hge)
            go_wp2_with fail
            go_roundw
            case rel =>
              refine ⟨k + 1, by omega, by go_num, by repeat (first | with_reducible exact HGR.out | with_reducible refine Only2.drew ?_ | with_reducible refine Only2.set1 ?_ _ _ | with_reducible refine Only2.set2 ?_ _ _), ?_, ?_⟩
              · repeat (with_reducible refine Row.drew ?_)
                refine HO.out.1.congr (fun i hi => ?_)
                by_cases e : i = k
                · subst e; simp only [show i < i + 1 by omega, if_true, show ¬ i < i by omega, if_false]; exact (if_neg HGE.out).symm
                · by_cases e' : i < k
                  · simp [e', show i < k + 1 by omega]
                  · simp [e', e, show ¬ i < k + 1 by omega]
              · repeat (with_reducible refine Row.drew ?_)
                refine HO.out.2.congr (fun i hi => ?_)
                by_cases e : i = k
                · subst e; simp only [show i < i + 1 by omega, if_true, show ¬ i < i by omega, if_false]; exact (if_neg HGE.out).symm
                · by_cases e' : i < k
                  · simp [e', show i < k + 1 by omega]
                  · simp [e', e, show ¬ i < k + 1 by omega]
            case measure => simp [intOf]; omega
        · obtain rfl : k = F.nU := by omega
          have r1 := hgr.row RR.out.r1 (by omega) (by omega)
          have r2 := ho.congr (F' := keyC t F.W F.Y F.U G.U) (fun i hi => if_pos hi)
          have r3 := hv.congr (F' := keyC t F.W F.Y F.V G.V) (fun i hi => if_pos (by omega))
          replace RR := Lib.hid (R3.mk r1 r2 r3)
          replace BX_t := Lib.hid (BX_t.out.only2 hgr (by omega) (by omega))
          replace BX_r := Lib.hid (BX_r.out.only2 hgr (by omega) (by omega))
          replace FZ_r := Lib.hid (FZ_r.out.only2 hgr (by omega) (by omega))
          replace HB := Lib.hid (HB.out.trans (hgr.below (by omega) (by omega) HB.out.size))
          clear r1 r2 r3 ho hv hgr t3
          obtain ⟨t0, t1, t2, t3, t4⟩ := BX_t.out
          obtain ⟨r0, r1, r2, r3, r4⟩ := BX_r.out
          have fz := FZ_r.out.2
          go_wp2_with fail
          refine bodyPost_ret (results_cell_tmp rfl _ _ _ rfl rfl (load_fr (BX_r.out.put5 _ _ _ _ _))) rfl ?_
          have e : keyFr t F G = ⟨(Wn : Int), F.H, F.nY, F.nU, F.nV, keyY t F.Y G.Y, keyC t F.W F.Y F.U G.U, keyC t F.W F.Y F.V G.V⟩ := by unfold keyFr; rw [EW.out]
          rw [e]
          refine ⟨_, rfl, ?_, below_put5 HB.out n0 _ _ _ _ _⟩
          exact R3.FA (((((RR.out.far (by omega) _ _).far (by omega) _ _).far (by omega) _ _).far (by omega) _ _).far (by omega) _ _) (fun i hi => keyY_bd HC1.out.2.2.1 HC1.out.2.2.2 i hi) (fun i hi => keyC_bd HC2.out.2.2.1 HC2.out.2.2.2 i hi) (fun i hi => keyC_bd HC3.out.2.2.1 HC3.out.2.2.2 i hi)

end Go.Proofs.Ytnnobdcbmagbaaa
