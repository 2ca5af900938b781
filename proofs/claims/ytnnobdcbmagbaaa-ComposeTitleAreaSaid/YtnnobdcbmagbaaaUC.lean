/- The contract of compose.draw: the glyph's samples are painted. -/
import Derived.Test.YtnnobdcbmagbaaaUB
namespace Go.Proofs.Ytnnobdcbmagbaaa
open Go.RowKit
set_option linter.unusedVariables false

theorem and_sh (r : Int) (k : Nat) (hk : k < 3) (h : 0 ≤ r ∧ r ≤ 7) : ∃ v, bits BinOp.and IntKind.i64 r (4 / 2 ^ k) = v ∧ (v == 0) = !tst r k := by
  rcases (show k = 0 ∨ k = 1 ∨ k = 2 by omega) with rfl | rfl | rfl <;> rcases (show r = 0 ∨ r = 1 ∨ r = 2 ∨ r = 3 ∨ r = 4 ∨ r = 5 ∨ r = 6 ∨ r = 7 by omega) with rfl | rfl | rfl | rfl | rfl | rfl | rfl | rfl <;> exact ⟨_, rfl, by decide +kernel⟩
/-- The indexes that a covered sample has. -/
theorem pix_ix {Wn Hn x y n1 n2 : Nat} (hW : okSize (Wn : Int) (Hn : Int) = true) (h1 : (n1 : Int) = (Wn : Int) * (Hn : Int)) (h2 : (n2 : Int) = (Wn : Int) / 2 * ((Hn : Int) / 2)) (hx : x < Wn) (hy : y < Hn) :
    ∃ a b : Nat, (y : Int) * (Wn : Int) + (x : Int) = (a : Int) ∧ (y : Int) / 2 * ((Wn : Int) / 2) + (x : Int) / 2 = (b : Int) ∧ a < n1 ∧ b < n2 ∧ a = y * Wn + x ∧ b = y / 2 * (Wn / 2) + x / 2 ∧
      IntKind.i64.wrap ((y : Int) * (Wn : Int)) = (y : Int) * (Wn : Int) ∧ 0 ≤ (y : Int) * (Wn : Int) ∧ (y : Int) * (Wn : Int) ≤ 4096 ∧
      IntKind.i64.wrap ((y : Int) / 2 * ((Wn : Int) / 2)) = (y : Int) / 2 * ((Wn : Int) / 2) ∧ 0 ≤ (y : Int) / 2 * ((Wn : Int) / 2) ∧ (y : Int) / 2 * ((Wn : Int) / 2) ≤ 4096 := by
  obtain ⟨s1, s2, s3, s4, s5, s6, s7, s8⟩ := okSize_bd hW
  obtain ⟨p1, p2⟩ := pix_in (W := Wn) (H := Hn) hx hy (by omega) (by omega)
  have e1 : (n1 : Int) = ((Wn * Hn : Nat) : Int) := by rw [h1]; simp
  have e2 : (n2 : Int) = ((Wn / 2 * (Hn / 2) : Nat) : Int) := by rw [h2]; simp
  have f1 : 0 ≤ (y : Int) * (Wn : Int) := Int.mul_nonneg (by omega) (by omega)
  have f2 : (y : Int) * (Wn : Int) ≤ 64 * 64 := Int.mul_le_mul (by omega) (by omega) (by omega) (by omega)
  have f3 : 0 ≤ (y : Int) / 2 * ((Wn : Int) / 2) := Int.mul_nonneg (by omega) (by omega)
  have f4 : (y : Int) / 2 * ((Wn : Int) / 2) ≤ 64 * 64 := Int.mul_le_mul (by omega) (by omega) (by omega) (by omega)
  exact ⟨y * Wn + x, y / 2 * (Wn / 2) + x / 2, by simp, by simp, by omega, by omega, rfl, rfl, IntWalk.i64_in _ (by omega), f1, by omega, IntWalk.i64_in _ (by omega), f3, by omega⟩

set_option maxRecDepth 100000 in
set_option maxHeartbeats 4000000 in
theorem draw_any (Wn Hn lf : Nat) (n1 n2 n3 g1 g2 g3 c1 c2 c3 B : Nat) (left : Int) (gl : Nat → Int) (L : List (Nat × Nat)) (Y U V : Nat → Int) (w : World)
    (hl : left = (lf : Int)) (hlf : lf ≤ 300) (hW : okSize (Wn : Int) (Hn : Int) = true) (h1 : (n1 : Int) = (Wn : Int) * (Hn : Int)) (h2 : (n2 : Int) = (Wn : Int) / 2 * ((Hn : Int) / 2)) (h3 : n3 = n2)
    (hg : ∀ j, j < 5 → 0 ≤ gl j ∧ gl j ≤ 7) (d12 : g1 ≠ g2) (d13 : g1 ≠ g3) (d23 : g2 ≠ g3)
    (hr : K3 w B g1 g2 g3 n1 n2 n3 c1 c2 c3 (pY Wn L Y) (pC Wn L U) (pC Wn L V)) :
    Calls Try.prog 59 #[.agg #[.int .i64 (Wn : Int), .int .i64 (Hn : Int), .slice (some ⟨g1, 0, none⟩) n1 c1, .slice (some ⟨g2, 0, none⟩) n2 c2, .slice (some ⟨g3, 0, none⟩) n3 c3], .int .i64 left, .agg #[.int .i64 (gl 0), .int .i64 (gl 1), .int .i64 (gl 2), .int .i64 (gl 3), .int .i64 (gl 4)]] w fun e w' => e = .returned (.tuple #[]) ∧
      K3 w' B g1 g2 g3 n1 n2 n3 c1 c2 c3 (pY Wn (L ++ pixG Wn (Hn - 7) lf gl 5) Y) (pC Wn (L ++ pixG Wn (Hn - 7) lf gl 5) U) (pC Wn (L ++ pixG Wn (Hn - 7) lf gl 5) V) ∧ OnlyP w w' (In3 g1 g2 g3) := by
  subst hl
  obtain ⟨s1, s2, s3, s4, s5, s6, s7, s8⟩ := okSize_bd hW
  have hgi : ∀ (j : Nat), j < 5 → ∀ w, (Instr.index 49 (.agg #[.int .i64 (gl 0), .int .i64 (gl 1), .int .i64 (gl 2), .int .i64 (gl 3), .int .i64 (gl 4)]) (.int .i64 (j : Int))).run Try.prog w = .ok (.int .i64 (gl j)) w := by
    intro j hj w
    rcases (show j = 0 ∨ j = 1 ∨ j = 2 ∨ j = 3 ∨ j = 4 by omega) with rfl | rfl | rfl | rfl | rfl <;> kernel_rfl
  have HGI := Lib.hid hgi
  have HG := Lib.hid hg
  have l1 := hr.r1.le
  have l2 := hr.r2.le
  have l3 := hr.r3.le
  have RR := Lib.hid hr
  obtain ⟨bla, hbla⟩ : ∃ b, b = w.heap.size := ⟨_, rfl⟩
  have HN := Lib.hid (And.intro hW (And.intro h1 (And.intro h2 h3)))
  clear hgi hg hr hW h1 h2 h3
  go_enter Try.func59, Try.ntmps59
  go_upto_region 1 with fail
  obtain ⟨w1, hw⟩ : ∃ x, x = (w.alloc (.cells #[.int .i64 (Wn : Int), .int .i64 (Hn : Int), .slice (some ⟨g1, 0, none⟩) n1 c1, .slice (some ⟨g2, 0, none⟩) n2 c2, .slice (some ⟨g3, 0, none⟩) n3 c3] 26)).alloc (.cells #[.int .i64 (gl 0), .int .i64 (gl 1), .int .i64 (gl 2), .int .i64 (gl 3), .int .i64 (gl 4)] 49) := ⟨_, rfl⟩
  rw [← hw]
  have hE : Below w.heap.size w w1 := by rw [hw]; go_grown
  have BX_a := Lib.hid (show BX w1 w.heap.size _ _ _ _ _ by rw [hw]; exact (BX.of_alloc _ _ _ _ _ _ _).below (below_box _ _))
  have BX_g := Lib.hid (show BX w1 (w.heap.size + 1) _ _ _ _ _ by rw [hw]; exact BX.of_alloc' _ _ _ _ _ _ _ _ (by simp))
  replace RR := Lib.hid (RR.out.below hE)
  have OB := Lib.hid (OnlyP.of_below hE (P := In3 g1 g2 g3))
  rw [← hbla] at BX_a l1 l2 l3 ⊢
  obtain ⟨blg, hblg⟩ : ∃ b, b = w.heap.size + 1 := ⟨_, rfl⟩
  rw [← hblg] at BX_g
  rw [hbla, ← hblg, ← hbla]
  clear hw hE hblg hbla
  obtain ⟨q0, q1, q2, q3, q4⟩ := BX_g.out
  go_wp2_with fail
  clear q0 q1 q2 q3 q4 BX_g
  obtain ⟨w2, hw⟩ : ∃ x, x = w1 := ⟨_, rfl⟩
  rw [← hw] at BX_a RR OB ⊢
  clear hw
  go_loopw [13] (fun i wr => ∃ j : Nat, j ≤ 5 ∧ i = .int .i64 (j : Int) ∧ OnlyP w2 wr (In3 g1 g2 g3) ∧ K3 wr B g1 g2 g3 n1 n2 n3 c1 c2 c3 (pY Wn (L ++ pixG Wn (Hn - 7) lf gl j) Y) (pC Wn (L ++ pixG Wn (Hn - 7) lf gl j) U) (pC Wn (L ++ pixG Wn (Hn - 7) lf gl j) V)) (fun i _ => 5 - (intOf i).toNat)
  case atStart => exact ⟨0, by omega, rfl, OnlyP.refl _ _, by simpa [pixG] using RR.out⟩
  case round =>
    obtain ⟨j, hj, rfl, hgr, ho⟩ := hrel
    have nin : ¬ In3 g1 g2 g3 bla := In3.no (by omega) (by omega) (by omega)
    have xa := Lib.hid (BX_a.out.onlyP hgr nin)
    by_cases hlt : j < 5
    · have a1 := xa.out.k1
      obtain ⟨y, hy⟩ := Int.eq_ofNat_of_zero_le (show 0 ≤ (Hn : Int) - 7 + (j : Int) by omega)
      have EY := Lib.hid (show y = Hn - 7 + j by omega)
      have y1 : y < Hn := by omega
      have gi := HGI.out j hlt
      have hjd : decide ((j : Int) < 5) = true := by simp; omega
      have HK := Lib.hid ho
      have HGR := Lib.hid hgr
      clear ho hgr
      go_wp2_with fail
      obtain ⟨wo, hwo⟩ : ∃ x, x = wr := ⟨_, rfl⟩
      rw [← hwo] at xa HK HGR ⊢
      clear hwo a1 gi
      have HY := Lib.hid hy
      clear hy
      go_loopw [22] (fun i wr => ∃ k : Nat, k ≤ 3 ∧ i = .int .i64 (k : Int) ∧ OnlyP wo wr (In3 g1 g2 g3) ∧ K3 wr B g1 g2 g3 n1 n2 n3 c1 c2 c3 (pY Wn (L ++ pixG Wn (Hn - 7) lf gl j ++ pixS Wn (Hn - 7 + j) lf (gl j) k) Y) (pC Wn (L ++ pixG Wn (Hn - 7) lf gl j ++ pixS Wn (Hn - 7 + j) lf (gl j) k) U) (pC Wn (L ++ pixG Wn (Hn - 7) lf gl j ++ pixS Wn (Hn - 7 + j) lf (gl j) k) V)) (fun i _ => 3 - (intOf i).toNat)
      case atStart => exact ⟨0, by omega, rfl, OnlyP.refl _ _, by simpa [pixS] using HK.out⟩
      case round =>
        obtain ⟨k, hk, rfl, hgr, ho⟩ := hrel
        by_cases hlk : k < 3
        · obtain ⟨M, hM⟩ : ∃ M, M = L ++ pixG Wn (Hn - 7) lf gl j ++ pixS Wn (Hn - 7 + j) lf (gl j) k := ⟨_, rfl⟩
          rw [← hM] at ho
          have EM := Lib.hid hM
          clear hM
          have xb := xa.out.onlyP hgr nin
          have a0 := xb.k0
          have a2 := xb.k2
          have a3 := xb.k3
          have a4 := xb.k4
          obtain ⟨x, hx⟩ := Int.eq_ofNat_of_zero_le (show 0 ≤ (lf : Int) + (k : Int) by omega)
          have x1 : x ≤ 302 := by omega
          have EX := Lib.hid (show x = lf + k by omega)
          obtain ⟨bv, bt, bz⟩ := and_sh (gl j) k hlk (HG.out j hlt)
          have HO := Lib.hid ho
          have HGI2 := Lib.hid hgr
          clear ho hgr
          cases ht : tst (gl j) k
          · rw [ht] at bz
            have HT := Lib.hid ht
            clear ht
            go_wp2_with fail
            go_roundw
            case rel =>
              refine ⟨k + 1, by omega, by go_num, HGI2.out, ?_⟩
              have e : pixS Wn (Hn - 7 + j) lf (gl j) (k + 1) = pixS Wn (Hn - 7 + j) lf (gl j) k := by simp [pixS, HT.out]
              rw [e, ← EM.out]; exact HO.out
            case measure => simp [intOf]; omega
          · rw [ht] at bz
            have HT := Lib.hid ht
            clear ht
            by_cases hw : x < Wn
            · have hwd : decide (Wn ≤ x) = false := by simp; omega
              obtain ⟨ca, cb, ha, hb, ia, ib, ea, eb, v1, v2, v3, v4, v5, v6⟩ := pix_ix HN.out.1 HN.out.2.1 HN.out.2.2.1 hw y1
              have nn3 := HN.out.2.2.2
              have hc1 := HO.out.r1.cell ca ia
              have hc2 := HO.out.r2.cell cb ib
              have hc3 := HO.out.r3.cell cb (by omega)
              have hf1 := World.ownsRow.frozenAt HO.out.r1 ca
              have hf2 := World.ownsRow.frozenAt HO.out.r2 cb
              have hf3 := World.ownsRow.frozenAt HO.out.r3 cb
              have EN := Lib.hid nn3
              have EA := Lib.hid (And.intro ea eb)
              have ib' : cb < n3 := by omega
              clear nn3 ea eb
              go_wp2_with fail
              obtain ⟨w7, hw7⟩ : ∃ z, z = wr.setCell ⟨g1, ca, none⟩ (.int .u8 235) := ⟨_, rfl⟩
              rw [← hw7]
              have hgr : OnlyP wo w7 (In3 g1 g2 g3) := by rw [hw7]; exact HGI2.out.set (In3.a _ _ _) _ _
              have r1 : Row w7 B g1 n1 c1 (pY Wn (M ++ [(x, y)]) Y) := by
                rw [hw7]
                refine HO.out.r1.store ca (u := 235) ?_ (fun i _ hik => ?_)
                · rw [EA.out.1]; exact pY_at _ _ _ _ _
                · exact pY_off _ _ _ _ _ _ (by rw [← EA.out.1]; exact hik)
              have r2 : Row w7 B g2 n2 c2 (pC Wn M U) := by rw [hw7]; exact HO.out.r2.far (by simp; omega) _
              have r3 : Row w7 B g3 n3 c3 (pC Wn M V) := by rw [hw7]; exact HO.out.r3.far (by simp; omega) _
              clear hw7 hc1 hc2 hc3 hf1 hf2 hf3 HGI2 HO a0 a2 a3 a4 xb
              have xb := xa.out.onlyP hgr nin
              have a3 := xb.k3
              have a4 := xb.k4
              have hc2 := r2.cell cb ib
              have hc3 := r3.cell cb ib'
              have hf2 := World.ownsRow.frozenAt r2 cb
              have hf3 := World.ownsRow.frozenAt r3 cb
              have HO := Lib.hid (And.intro r1 (And.intro r2 r3))
              have HGI2 := Lib.hid hgr
              clear r1 r2 r3 hgr xb
              refine Plan.wp_region_planz (fun w' => w'.cell? ⟨bla, 3, none⟩ = some (.slice (some ⟨g2, 0, none⟩) n2 c2) ∧ w'.cell? ⟨bla, 4, none⟩ = some (.slice (some ⟨g3, 0, none⟩) n3 c3)) 9 (([0, 1, 2, 3, 4, 5, 6].map (·, true)) ++ (([7].map (·, false)) ++ (([8].map (·, true)) ++ (([9].map (·, false)))))) (by kernel_rfl) (by kernel_rfl) (by kernel_rfl) ⟨a3, a4⟩ ?_
              refine' Plan.plan_seg _ [0, 1, 2, 3, 4, 5, 6] (([7].map (·, false)) ++ (([8].map (·, true)) ++ (([9].map (·, false))))) (by kernel_rfl) (by kernel_rfl) rfl (by exact ⟨a3, a4⟩) (fun wx hS => ?_) ?_
              rotate_left
              · obtain ⟨z1, z2⟩ := hS
                go_light
                iterate 7 (apply Plan.seg_pick; rfl; intro K hK; go_wp)
                exact Plan.seg_nil
              refine Plan.plan_of_effect rfl (fun K hK => ?_)
              go_wp2_with fail
              refine ⟨⟨(by simp only [World.cell?_drew]; rw [World.cell?_setCell_far _ _ _ _ (by simp; omega)]; exact a3), (by simp only [World.cell?_drew]; rw [World.cell?_setCell_far _ _ _ _ (by simp; omega)]; exact a4)⟩, ?_⟩
              refine' Plan.plan_seg _ [8] (([9].map (·, false))) (by kernel_rfl) (by kernel_rfl) rfl (by exact ⟨(by simp only [World.cell?_drew]; rw [World.cell?_setCell_far _ _ _ _ (by simp; omega)]; exact a3), (by simp only [World.cell?_drew]; rw [World.cell?_setCell_far _ _ _ _ (by simp; omega)]; exact a4)⟩) (fun wx hS => ?_) ?_
              rotate_left
              · obtain ⟨z1, z2⟩ := hS
                go_light
                iterate 1 (apply Plan.seg_pick; rfl; intro K hK; go_wp)
                exact Plan.seg_nil
              refine Plan.plan_of_last rfl (fun K hK => ?_)
              go_wp2_with fail
              refine Plan.plan_done ?_
              go_wp2_with fail
              go_roundw
              case rel =>
                have e : L ++ pixG Wn (Hn - 7) lf gl j ++ pixS Wn (Hn - 7 + j) lf (gl j) (k + 1) = M ++ [(x, y)] := by
                  have h2 : lf + k < Wn := by have := EX.out; omega
                  rw [EM.out, pixS, if_pos (by simp [HT.out, h2]), ← EX.out, ← EY.out, ← List.append_assoc]
                refine ⟨k + 1, by omega, by go_num, ?_, ?_⟩
                · repeat (with_reducible refine OnlyP.drew ?_)
                  exact (HGI2.out.set (In3.b _ _ _) _ _).set (In3.c _ _ _) _ _
                rw [e]
                refine ⟨?_, ?_, ?_⟩
                · repeat (with_reducible refine Row.drew ?_)
                  exact (HO.out.1.far (by simp; omega) _).far (by simp; omega) _
                · repeat (with_reducible refine Row.drew ?_)
                  refine (HO.out.2.1.store cb (F' := pC Wn (M ++ [(x, y)]) U) (u := 128) ?_ (fun i _ hik => ?_)).far (by simp; omega) _
                  · rw [EA.out.2]; exact pC_at _ _ _ _ _
                  · exact pC_off _ _ _ _ _ _ (by rw [← EA.out.2]; exact hik)
                · repeat (with_reducible refine Row.drew ?_)
                  refine (HO.out.2.2.far (by simp; omega) _).store cb (F' := pC Wn (M ++ [(x, y)]) V) (u := 128) ?_ (fun i _ hik => ?_)
                  · rw [EA.out.2]; exact pC_at _ _ _ _ _
                  · exact pC_off _ _ _ _ _ _ (by rw [← EA.out.2]; exact hik)
              case measure => simp [intOf]; omega
            · have hwd : decide (Wn ≤ x) = true := by simp; omega
              go_wp2_with fail
              go_roundw
              case rel =>
                refine ⟨k + 1, by omega, by go_num, HGI2.out, ?_⟩
                have e : pixS Wn (Hn - 7 + j) lf (gl j) (k + 1) = pixS Wn (Hn - 7 + j) lf (gl j) k := by
                  have h2 : ¬ lf + k < Wn := by have := EX.out; omega
                  simp [pixS, h2]
                rw [e, ← EM.out]; exact HO.out
              case measure => simp [intOf]; omega
        · obtain rfl : k = 3 := by omega
          have hgr2 := HGR.out.trans hgr
          have HO := Lib.hid ho
          have HGI2 := Lib.hid hgr2
          clear ho hgr hgr2
          go_wp2_with fail
          go_roundw
          case rel =>
            refine ⟨j + 1, by omega, by go_num, HGI2.out, ?_⟩
            have e : L ++ pixG Wn (Hn - 7) lf gl (j + 1) = L ++ pixG Wn (Hn - 7) lf gl j ++ pixS Wn (Hn - 7 + j) lf (gl j) 3 := by rw [pixG, List.append_assoc]
            rw [e]; exact HO.out
          case measure => simp [intOf]; omega
    · obtain rfl : j = 5 := by omega
      have HO := Lib.hid ho
      have HGI2 := Lib.hid (OB.out.trans hgr)
      clear ho hgr
      go_wp2_with fail
      go_end0
      exact ⟨rfl, HO.out, HGI2.out⟩

end Go.Proofs.Ytnnobdcbmagbaaa
