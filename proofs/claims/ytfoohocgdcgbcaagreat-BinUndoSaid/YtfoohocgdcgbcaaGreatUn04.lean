/- Texts of this claim joined: WA WI NI NN NO NQ ZA ZB QA QD QF NR. -/
import Derived.Handy
import Derived.OwnWalk
import Derived.Test.YtfoohocgdcgbcaaGreatBs17
import Derived.Test.YtfoohocgdcgbcaaGreatUn03
set_option linter.unusedVariables false
set_option linter.unusedSimpArgs false
namespace Go.Proofs.YtfoohocgdcgbcaaGreat
open Go.RowKit
set_option maxRecDepth 100000 in
set_option maxHeartbeats 16000000 in
theorem apply_clip {L M : Int} (v u : Value) (t l : List Trk.Clip) (k p m c d sn sd a b uk code : Int) (ok : Bool) (w : World) (h : Tk w v t) (ins : List Trk.Clip) (hu : Tk w u ins) (hV : VT L t) (hL : L ≤ 140737488355328) (hk : 5 ≤ k ∧ k ≤ 10)
  (hOK : ∀ w', Tk w' u ins → Calls Tryz.prog 84 #[edV k p m c d sn sd u] w' fun e w'' => e = .returned (.bool ok) ∧ Below w'.heap.size w' w'')
  (hM : ok = true → ∀ w' vn, Tk w' vn (Trk.nf t) → Tk w' u ins → Calls Tryz.prog 86 #[vn, edV k p m c d sn sd u] w' (MidPost w' (Trk.nf t) l a b uk code))
  (hl : code = 0 → Trk.VL M l ∧ Trk.total l ≤ 2147483647 ∧ l.length ≤ 1048576 ∧ (Trk.nf l).length ≤ 64) (hM2 : M ≤ 140737488355328) (hc : -1000 ≤ code ∧ code ≤ 1000) :
  Calls Tryz.prog 45 #[v, edV k p m c d sn sd u] w fun e w' => (ok = true ∧ code = 0 ∧ EdPost w (Trk.nf t) (Trk.nf l) a b uk e w') ∨
   ((ok = false ∨ code ≠ 0) ∧ e = .returned (.tuple #[.slice none 0 0, edV 0 0 0 0 0 0 0 (.slice none 0 0), .int .i64 (if ok = true then code else 1)]) ∧ Below w.heap.size w w') := by
 have HT := Lib.hid h
 have HU := Lib.hid hu
 have HOK := Lib.hid hOK
 have HM := Lib.hid hM
 have HL := Lib.hid hl
 have HK := Lib.hid hk
 have HVT := Lib.hid (fun w (h : Tk w v t) => vtrack_any v t w h hV hL)
 have HNO := Lib.hid (fun w (h : Tk w v t) => normal_any v t w h hV hL)
 obtain ⟨ua, um, uc, rfl⟩ : ∃ ao m cp, u = .slice ao m cp := by obtain ⟨ao, cp, e, _⟩ := hu; exact ⟨_, _, _, e⟩
 obtain ⟨hc1, hc2⟩ := hc
 unfold edV at HOK HM
 clear h hu hV hOK hM hl hk
 unfold edV
 go_enter_defers Tryz.func45, Tryz.ntmps45
 go_upto_region 2 with fail
 obtain ⟨w1, hw1⟩ : ∃ y, y = (((w.alloc (.cells (edC k p m c d sn sd (.slice ua um uc)) 40)).alloc (.cells #[.slice none 0 0] 23)).alloc (.cells (edC 0 0 0 0 0 0 0 (.slice none 0 0)) 40)).alloc (.cells #[.int .i64 0] 30) := ⟨_, rfl⟩
 have hw1' := hw1
 unfold edC at hw1'
 unfold edC
 rw [← hw1']
 clear hw1'
 obtain ⟨g3, hg3⟩ : ∃ g, g = w.heap.size := ⟨_, rfl⟩
 obtain ⟨g4, hg4⟩ : ∃ g, g = w.heap.size + 1 := ⟨_, rfl⟩
 obtain ⟨g5, hg5⟩ : ∃ g, g = w.heap.size + 1 + 1 := ⟨_, rfl⟩
 obtain ⟨g6, hg6⟩ : ∃ g, g = w.heap.size + 1 + 1 + 1 := ⟨_, rfl⟩
 have hab : AB w w1 g3 g4 g5 g6 k p m c d sn sd (.slice ua um uc) (.slice none 0 0) 0 0 0 (.slice none 0 0) 0 := by
  rw [hw1, hg3, hg4, hg5, hg6]
  refine ⟨?_, ?_, ?_, ?_, ?_, ?_, by go_grown⟩
  ·constructor <;> simp [go_sem, edC]
  ·simp [go_sem, edC]
  ·simp [go_sem, edC]
  ·constructor <;> simp [go_sem, edC]
  ·simp [go_sem, edC]
  ·simp [go_sem, edC]
 rw [← hg6, ← hg5, ← hg4, ← hg3]
 have h34 : g3 < g4 := by omega
 have h45 : g4 < g5 := by omega
 have h56 : g5 < g6 := by omega
 have h03 : w.heap.size ≤ g3 := by omega
 have HA := Lib.hid hab
 have HN := Lib.hid (And.intro h34 (And.intro h45 (And.intro h56 h03)))
 clear hw1 hab hg3 hg4 hg5 hg6 h34 h45 h56 h03
 go_wp2_with fail
 refine (HVT.out _ (HT.out.below HA.out.b)).mono ?_
 rintro e w2 ⟨rfl, hb⟩
 replace HA := Lib.hid (HA.out.below hb)
 clear hb HVT
 obtain ⟨e0, e1, e2, e3, e4, e5, e6, e7, ef⟩ := HA.out.a
 go_wp2_with fail
 refine (HOK.out _ (HU.out.below HA.out.b)).mono ?_
 rintro e w3 ⟨rfl, hb⟩
 replace HA := Lib.hid (HA.out.below hb)
 clear hb e0 e1 e2 e3 e4 e5 e6 e7 ef HOK
 cases ok
 case false =>
  go_upto_region 3 with fail
  apply wp_region_lit
  iterate 3 go_step
  have z4 := HA.out.c4
  have zf4 := HA.out.f4
  iterate 3 go_step
  have ha := HA.out.set4 HN.out.1 HN.out.2.1 HN.out.2.2.1 HN.out.2.2.2 (.slice none 0 0)
  obtain ⟨w4, hwn⟩ : ∃ y, y = World.setCell w3 ⟨g4, 0, none⟩ (.slice none 0 0) := ⟨_, rfl⟩
  rw [← hwn] at ha ⊢
  replace HA := Lib.hid ha
  clear ha hwn z4 zf4
  refine wpl_storeE 0 0 0 0 0 0 0 none 0 0 HA.out.r rfl rfl rfl rfl ?_
  intro w5 q1 q2 q3 q4 q5
  simp only [Act.put, List.setIfInBounds_toArray, List.set_cons_succ, List.set_cons_zero]
  replace HA := Lib.hid (HA.out.set5 HN.out.1 HN.out.2.1 HN.out.2.2.1 HN.out.2.2.2 q1 q2 q4)
  clear q1 q2 q3 q4 q5
  have z6 := HA.out.c6
  have zf6 := HA.out.f6
  iterate 3 go_step
  have ha := HA.out.set6 HN.out.1 HN.out.2.1 HN.out.2.2.1 HN.out.2.2.2 (1)
  obtain ⟨w6, hwn⟩ : ∃ y, y = World.setCell w5 ⟨g6, 0, none⟩ (.int .i64 (1)) := ⟨_, rfl⟩
  rw [← hwn] at ha ⊢
  replace HA := Lib.hid ha
  clear ha hwn z6 zf6
  iterate 4 go_step
  refine leaves_cons (f := 83) (args := #[.pointer (some ⟨g4, 0, none⟩), .pointer (some ⟨g5, 0, none⟩), .pointer (some ⟨g6, 0, none⟩)]) (by simp) (by simp [go_sem]) ?_
  refine (idle43 _ _ _ _).mono ?_
  rintro e u' w'' ⟨rfl, rfl, rfl⟩
  refine ⟨_, results_apply Tryz.results45 rfl rfl rfl HA.out, ?_⟩
  exact .inr ⟨.inl rfl, rfl, HA.out.b⟩
 have HM2 := Lib.hid (HM.out rfl)
 clear HM
 go_wp2_with fail
 refine (HNO.out _ (HT.out.below HA.out.b)).mono ?_
 rintro e w4 ⟨vn, rfl, ho, hb⟩
 replace HA := Lib.hid (HA.out.below hb)
 have HTN := Lib.hid ho.tk
 clear ho hb HNO
 have e0 := HA.out.a.k0
 go_upto_if 30 with fail
 go_cut [30] from 31 (fun v30 wx => v30 = .bool false ∧ wx = w4)
 case first =>
  have b1 : (k == 1) = false := by have := HK.out; simp; omega
  have b2 : (k == 2) = false := by have := HK.out; simp; omega
  have b3 : (k == 3) = false := by have := HK.out; simp; omega
  have b4 : (k == 4) = false := by have := HK.out; simp; omega
  go_wp2_with fail
  go_meet
  case rel => exact ⟨rfl, rfl⟩
 obtain ⟨rfl, rfl⟩ := hcut
 clear e0
 go_upto_region 7 with fail
 apply wp_region_lit
 iterate 3 go_step
 refine wpl_loadE HA.out.a rfl rfl rfl ?_
 simp only [Act.put, List.setIfInBounds_toArray, List.set_cons_succ, List.set_cons_zero]
 iterate 2 go_step
 refine (HM2.out _ _ HTN.out (HU.out.below HA.out.b)).mono ?_
 rintro e w5 (⟨hc0, v', vr, rfl, ho, hor, hb⟩ | ⟨hc0, rfl, hb⟩)
 ·subst hc0
  obtain ⟨hl1, hl2, hl3, hl4⟩ := HL.out rfl
  obtain ⟨mm, hmm⟩ : ∃ mm, mm = (if uk = 2 then b - a else 0) := ⟨_, rfl⟩
  have hE : EdV (Trk.backOf (Trk.nf t) a b uk) vr = .agg (edC uk a mm 0 0 0 0 vr) := by rw [hmm]; rfl
  rw [hE]
  have HE := Lib.hid hE
  have HEN := Lib.hid (fun w v (h : Tk w v l) => enormal_any v l w h hl1 hM2 hl2 hl3)
  obtain ⟨ra, rc, rfl, -⟩ := hor.tk
  obtain ⟨rl, hrl⟩ : ∃ m, m = (Trk.backOf (Trk.nf t) a b uk).ins.length := ⟨_, rfl⟩
  rw [← hrl] at hor HE ⊢
  have HGR := Lib.hid (show ∀ g kk cp, Value.slice ra rl rc = .slice (some ⟨g, 0, none⟩) kk cp → g6 < g from fun g kk cp e => by have h1 := (hor.blk e).1; have h2 := block_lt_of_cell HA.out.c6; simp only at h2; omega)
  have HOR := Lib.hid (hor.lower HA.out.b.size)
  have HGL := Lib.hid (show ∀ g kk cp, v' = .slice (some ⟨g, 0, none⟩) kk cp → g6 < g from fun g kk cp e => by have h1 := (ho.blk e).1; have h2 := block_lt_of_cell HA.out.c6; simp only at h2; omega)
  have HOL := Lib.hid ho
  replace HA := Lib.hid (HA.out.below hb)
  clear hE hor ho hb hmm hrl hl1 hl2 hl3
  dsimp only
  iterate 16 go_step
  refine wpl_storeE uk a mm 0 0 0 0 ra rl rc HA.out.r rfl rfl rfl rfl ?_
  intro w6 q1 q2 q3 q4 q5
  simp only [Act.put, List.setIfInBounds_toArray, List.set_cons_succ, List.set_cons_zero]
  replace HA := Lib.hid (HA.out.set5 HN.out.1 HN.out.2.1 HN.out.2.2.1 HN.out.2.2.2 q1 q2 q4)
  replace HOL := Lib.hid (HOL.out.blocks (fun g kk cp e => q2 g (by have := HGL.out g kk cp e; have := HN.out.2.2.1; omega)))
  replace HOR := Lib.hid (HOR.out.blocks (fun g kk cp e => q2 g (by have := HGR.out g kk cp e; have := HN.out.2.2.1; omega)))
  clear q1 q2 q3 q4 q5
  have z6 := HA.out.c6
  have zf6 := HA.out.f6
  go_upto_region 13 with fail
  have ha := HA.out.set6 HN.out.1 HN.out.2.1 HN.out.2.2.1 HN.out.2.2.2 0
  have ho := HOL.out.apart (p := ⟨g6, 0, none⟩) (fun g kk cp e => Nat.ne_of_lt (HGL.out g kk cp e)) (.int .i64 0)
  have hor := HOR.out.apart (p := ⟨g6, 0, none⟩) (fun g kk cp e => Nat.ne_of_lt (HGR.out g kk cp e)) (.int .i64 0)
  obtain ⟨w7, hw7⟩ : ∃ y, y = World.setCell w6 ⟨g6, 0, none⟩ (.int .i64 0) := ⟨_, rfl⟩
  rw [← hw7] at ha ho hor ⊢
  replace HA := Lib.hid ha
  replace HOL := Lib.hid ho
  replace HOR := Lib.hid hor
  clear ha ho hor hw7 z6 zf6
  have z6 := HA.out.c6
  go_wp2_with fail
  refine (HEN.out _ _ HOL.out.tk).mono ?_
  rintro e w8 ⟨va, rfl, ho, hb⟩
  obtain ⟨na, ca, rfl, -⟩ := ho.tk
  obtain ⟨la, hla⟩ : ∃ m, m = (Trk.nf l).length := ⟨_, rfl⟩
  rw [← hla] at ho hl4 ⊢
  have HGV := Lib.hid (show ∀ g kk cp, Value.slice na la ca = .slice (some ⟨g, 0, none⟩) kk cp → g6 < g from fun g kk cp e => by have h1 := (ho.blk e).1; have h2 := block_lt_of_cell HA.out.c6; simp only at h2; omega)
  have HOV := Lib.hid (ho.lower HA.out.b.size)
  replace HA := Lib.hid (HA.out.below hb)
  replace HOR := Lib.hid (HOR.out.below hb)
  clear ho hb hla z6 HOL HGL
  have z4 := HA.out.c4
  have zf4 := HA.out.f4
  go_upto_region 16 with fail
  have ha := HA.out.set4 HN.out.1 HN.out.2.1 HN.out.2.2.1 HN.out.2.2.2 (.slice na la ca)
  have ho := HOV.out.apart (p := ⟨g4, 0, none⟩) (fun g kk cp e => by have := HGV.out g kk cp e; have := HN.out; show g4 ≠ g; omega) (.slice na la ca)
  have hor := HOR.out.apart (p := ⟨g4, 0, none⟩) (fun g kk cp e => by have := HGR.out g kk cp e; have := HN.out; show g4 ≠ g; omega) (.slice na la ca)
  obtain ⟨w9, hw9⟩ : ∃ y, y = World.setCell w8 ⟨g4, 0, none⟩ (.slice na la ca) := ⟨_, rfl⟩
  rw [← hw9] at ha ho hor ⊢
  replace HA := Lib.hid ha
  replace HOV := Lib.hid ho
  replace HOR := Lib.hid hor
  clear ha ho hor hw9 z4 zf4
  have z4 := HA.out.c4
  have hl4' : ¬ (64 : Int) < (la : Int) := by omega
  go_upto_region 18 with fail
  clear z4
  refine Plan.wp_region_plan (fun w' => w'.cell? ⟨g4, 0, none⟩ = some (.slice na la ca) ∧ ED w' g5 uk a mm 0 0 0 0 (.slice ra rl rc)) (([0, 1].map (·, true)) ++ ([2, 3, 4].map (·, false))) (by kernel_rfl) (by kernel_rfl) (by kernel_rfl) ⟨(HA.out.below (Below.refl _ _).drew).c4, (HA.out.below (Below.refl _ _).drew).r⟩ ?_
  refine' Plan.plan_seg _ [0, 1] ([2, 3, 4].map (·, false)) (by kernel_rfl) (by kernel_rfl) rfl (by exact ⟨(HA.out.below (Below.refl _ _).drew).c4, (HA.out.below (Below.refl _ _).drew).r⟩) (fun wx hS => ?_) ?_
  rotate_left
  ·obtain ⟨S1, S2⟩ := hS
   have HS2 := Lib.hid S2
   clear S2
   go_light
   iterate 1 (apply Plan.seg_pick; rfl; intro K hK; go_wp)
   (apply Plan.seg_pick; rfl; intro K hK)
   refine wpl_loadE HS2.out rfl rfl rfl ?_
   go_wp
   exact Plan.seg_nil
  obtain ⟨w10, hw10⟩ : ∃ y, y = World.drew w9 := ⟨_, rfl⟩
  rw [← hw10]
  have hb10 : Below w9.heap.size w9 w10 := by rw [hw10]; exact (Below.refl _ _).drew
  replace HA := Lib.hid (HA.out.below hb10)
  replace HOV := Lib.hid (HOV.out.below hb10)
  replace HOR := Lib.hid (HOR.out.below hb10)
  clear hb10 hw10
  refine Plan.plan_of_effect rfl (fun K hK => ?_)
  have z4 := HA.out.c4
  have zf4 := HA.out.f4
  go_wp2_with fail
  have ha := HA.out.set4 HN.out.1 HN.out.2.1 HN.out.2.2.1 HN.out.2.2.2 (.slice na la ca)
  have ho := HOV.out.apart (p := ⟨g4, 0, none⟩) (fun g kk cp e => by have := HGV.out g kk cp e; have := HN.out; show g4 ≠ g; omega) (.slice na la ca)
  have hor := HOR.out.apart (p := ⟨g4, 0, none⟩) (fun g kk cp e => by have := HGR.out g kk cp e; have := HN.out; show g4 ≠ g; omega) (.slice na la ca)
  obtain ⟨w11, hw11⟩ : ∃ y, y = World.setCell w10 ⟨g4, 0, none⟩ (.slice na la ca) := ⟨_, rfl⟩
  rw [← hw11] at ha ho hor ⊢
  replace HA := Lib.hid ha
  replace HOV := Lib.hid ho
  replace HOR := Lib.hid hor
  clear ha ho hor hw11 z4 zf4
  first | refine ⟨⟨HA.out.c4, HA.out.r⟩, ?_⟩ | refine ⟨HA.out.r, ?_⟩ | refine ⟨HA.out.c4, HA.out.r, ?_⟩
  refine Plan.plan_of_effect rfl (fun K hK => ?_)
  refine wpl_storeE uk a mm 0 0 0 0 ra rl rc HA.out.r rfl rfl rfl rfl ?_
  intro w12 q1 q2 q3 q4 q5
  simp only [Act.put, List.setIfInBounds_toArray, List.set_cons_succ, List.set_cons_zero]
  replace HA := Lib.hid (HA.out.set5 HN.out.1 HN.out.2.1 HN.out.2.2.1 HN.out.2.2.2 q1 q2 q4)
  replace HOV := Lib.hid (HOV.out.blocks (fun g kk cp e => q2 g (by have := HGV.out g kk cp e; have := HN.out.2.2.1; omega)))
  replace HOR := Lib.hid (HOR.out.blocks (fun g kk cp e => q2 g (by have := HGR.out g kk cp e; have := HN.out.2.2.1; omega)))
  clear q1 q2 q3 q4 q5
  go_wp2_with fail
  first | refine ⟨⟨HA.out.c4, HA.out.r⟩, ?_⟩ | refine ⟨HA.out.r, ?_⟩ | refine ⟨HA.out.c4, HA.out.r, ?_⟩
  refine Plan.plan_of_effect rfl (fun K hK => ?_)
  have z6 := HA.out.c6
  have zf6 := HA.out.f6
  go_wp2_with fail
  have ha := HA.out.set6 HN.out.1 HN.out.2.1 HN.out.2.2.1 HN.out.2.2.2 0
  have ho := HOV.out.apart (p := ⟨g6, 0, none⟩) (fun g kk cp e => Nat.ne_of_lt (HGV.out g kk cp e)) (.int .i64 0)
  have hor := HOR.out.apart (p := ⟨g6, 0, none⟩) (fun g kk cp e => Nat.ne_of_lt (HGR.out g kk cp e)) (.int .i64 0)
  obtain ⟨w13, hw13⟩ : ∃ y, y = World.setCell w12 ⟨g6, 0, none⟩ (.int .i64 0) := ⟨_, rfl⟩
  rw [← hw13] at ha ho hor ⊢
  replace HA := Lib.hid ha
  replace HOV := Lib.hid ho
  replace HOR := Lib.hid hor
  clear ha ho hor hw13 z6 zf6
  first | refine ⟨⟨HA.out.c4, HA.out.r⟩, ?_⟩ | refine ⟨HA.out.r, ?_⟩ | refine ⟨HA.out.c4, HA.out.r, ?_⟩
  refine Plan.plan_done ?_
  iterate 3 go_step
  refine leaves_cons (f := 83) (args := #[.pointer (some ⟨g4, 0, none⟩), .pointer (some ⟨g5, 0, none⟩), .pointer (some ⟨g6, 0, none⟩)]) (by simp) (by simp [go_sem]) ?_
  refine (idle43 _ _ _ _).mono ?_
  rintro e u' w'' ⟨rfl, rfl, rfl⟩
  refine ⟨_, results_apply Tryz.results45 rfl rfl rfl HA.out, ?_⟩
  refine .inl ⟨rfl, rfl, .slice na la ca, .slice ra rl rc, ?_, HOV.out, HOR.out, HA.out.b⟩
  rw [HE.out]
  rfl
 ·have hcb : (code == 0) = false := by simpa using hc0
  have HC0 := Lib.hid hc0
  replace HA := Lib.hid (HA.out.below hb)
  clear hb hc0
  dsimp only
  iterate 16 go_step
  refine wpl_storeE 0 0 0 0 0 0 0 none 0 0 HA.out.r rfl rfl rfl rfl ?_
  intro w6 q1 q2 q3 q4 q5
  simp only [Act.put, List.setIfInBounds_toArray, List.set_cons_succ, List.set_cons_zero]
  replace HA := Lib.hid (HA.out.set5 HN.out.1 HN.out.2.1 HN.out.2.2.1 HN.out.2.2.2 q1 q2 q4)
  clear q1 q2 q3 q4 q5
  have z6 := HA.out.c6
  have zf6 := HA.out.f6
  go_upto_region 13 with fail
  have ha := HA.out.set6 HN.out.1 HN.out.2.1 HN.out.2.2.1 HN.out.2.2.2 code
  obtain ⟨w7, hw7⟩ : ∃ y, y = World.setCell w6 ⟨g6, 0, none⟩ (.int .i64 code) := ⟨_, rfl⟩
  rw [← hw7] at ha ⊢
  replace HA := Lib.hid ha
  clear ha hw7 z6 zf6
  have z6 := HA.out.c6
  go_upto_region 14 with fail
  clear z6
  refine Plan.wp_region_plan (fun w' => w'.cell? ⟨g6, 0, none⟩ = some (.int .i64 code)) (([0, 1].map (·, true)) ++ ([2, 3, 4].map (·, false))) (by kernel_rfl) (by kernel_rfl) (by kernel_rfl) (HA.out.below (Below.refl _ _).drew).c6 ?_
  refine' Plan.plan_seg _ [0, 1] ([2, 3, 4].map (·, false)) (by kernel_rfl) (by kernel_rfl) rfl (by exact (HA.out.below (Below.refl _ _).drew).c6) (fun wx hS => ?_) ?_
  rotate_left
  ·go_light
   iterate 2 (apply Plan.seg_pick; rfl; intro K hK; go_wp)
   exact Plan.seg_nil
  obtain ⟨w10, hw10⟩ : ∃ y, y = World.drew w7 := ⟨_, rfl⟩
  rw [← hw10]
  replace HA := Lib.hid (HA.out.below (show Below w7.heap.size w7 w10 by rw [hw10]; exact (Below.refl _ _).drew))
  clear hw10
  refine Plan.plan_of_effect rfl (fun K hK => ?_)
  have z4 := HA.out.c4
  have zf4 := HA.out.f4
  go_wp2_with fail
  have ha := HA.out.set4 HN.out.1 HN.out.2.1 HN.out.2.2.1 HN.out.2.2.2 (.slice none 0 0)
  obtain ⟨w11, hw11⟩ : ∃ y, y = World.setCell w10 ⟨g4, 0, none⟩ (.slice none 0 0) := ⟨_, rfl⟩
  rw [← hw11] at ha ⊢
  replace HA := Lib.hid ha
  clear ha hw11 z4 zf4
  refine ⟨HA.out.c6, ?_⟩
  refine Plan.plan_of_effect rfl (fun K hK => ?_)
  refine wpl_storeE 0 0 0 0 0 0 0 none 0 0 HA.out.r rfl rfl rfl rfl ?_
  intro w12 q1 q2 q3 q4 q5
  simp only [Act.put, List.setIfInBounds_toArray, List.set_cons_succ, List.set_cons_zero]
  replace HA := Lib.hid (HA.out.set5 HN.out.1 HN.out.2.1 HN.out.2.2.1 HN.out.2.2.2 q1 q2 q4)
  clear q1 q2 q3 q4 q5
  go_wp2_with fail
  refine ⟨HA.out.c6, ?_⟩
  refine Plan.plan_of_effect rfl (fun K hK => ?_)
  have z6 := HA.out.c6
  have zf6 := HA.out.f6
  go_wp2_with fail
  have ha := HA.out.set6 HN.out.1 HN.out.2.1 HN.out.2.2.1 HN.out.2.2.2 code
  obtain ⟨w13, hw13⟩ : ∃ y, y = World.setCell w12 ⟨g6, 0, none⟩ (.int .i64 code) := ⟨_, rfl⟩
  rw [← hw13] at ha ⊢
  replace HA := Lib.hid ha
  clear ha hw13 z6 zf6
  refine ⟨HA.out.c6, ?_⟩
  refine Plan.plan_done ?_
  iterate 4 go_step
  refine leaves_cons (f := 83) (args := #[.pointer (some ⟨g4, 0, none⟩), .pointer (some ⟨g5, 0, none⟩), .pointer (some ⟨g6, 0, none⟩)]) (by simp) (by simp [go_sem]) ?_
  refine (idle43 _ _ _ _).mono ?_
  rintro e u' w'' ⟨rfl, rfl, rfl⟩
  refine ⟨_, results_apply Tryz.results45 rfl rfl rfl HA.out, ?_⟩
  exact .inr ⟨.inr HC0.out, rfl, HA.out.b⟩
theorem adj_ok {L : Int} {n : List Trk.Clip} {k : Int} {c : Nat} {d sn sd : Int} (hV : VT L n) (hd : d.natAbs ≤ 2147483648) (hk : k = 10 → Trk.SpeedOK sn sd) (hk2 : 5 ≤ k ∧ k ≤ 10) (h0 : Trk.adjCode n k c d sn sd = 0) :
  Trk.VL (L + 2147483648 * 18018 + 2147483648 * 18018 + 2147483647 * 18018) (Trk.adjL n k c d sn sd) ∧ Trk.total (Trk.adjL n k c d sn sd) ≤ 2147483647 ∧ Trk.missingL n k c = false := by
 unfold Trk.adjCode at h0
 split at h0
 ·cases h0
 rename_i hm
 split at h0
 ·cases h0
 rename_i hb
 split at h0
 ·cases h0
 rename_i hx
 have hm' : Trk.missingL n k c = false := by simpa using hm
 have hx1 : Trk.total (Trk.adjL n k c d sn sd) ≤ 2147483647 := by
  rcases Int.lt_or_le 2147483647 (Trk.total (Trk.adjL n k c d sn sd)) with h | h
  ·exact absurd (.inl h) hx
  ·exact h
 have hx2 : ∀ x ∈ Trk.adjL n k c d sn sd, Trk.okLen x := Classical.not_not.1 fun h => hx (.inr h)
 have hcl := Trk.adj_cls (L := L) (D := 2147483648) (M := 2147483647) (n := n) (k := k) (d := d) (sn := sn) (sd := sd) (c := c) (fun y hy => (hV.v y hy).c) (by omega) (by omega)
  (fun y hy => ⟨by have := (hV.v y hy).l.1; omega, (hV.v y hy).l.2.1⟩) (by decide) (by
   by_cases h10 : k = 10
   ·exact .inr (.inr (.inr (.inr (.inr ⟨hk h10, fun h => hb ⟨h10, h⟩⟩))))
   ·omega)
 exact ⟨fun x hx => ⟨hcl x hx, hx2 x hx⟩, hx1, hm'⟩
def ClipsPost (w : World) (n : List Trk.Clip) (k : Int) (c : Nat) (d sn sd : Int) (ok : Bool) (e : Ending) (w' : World) : Prop :=
 (ok = true ∧ Trk.adjCode n k c d sn sd = 0 ∧ EdPost w n (Trk.nf (Trk.adjL n k c d sn sd)) (Trk.fromL n k c d) (Trk.toL n k c d) (Trk.undK k d) e w') ∨
 ((ok = false ∨ Trk.adjCode n k c d sn sd ≠ 0) ∧ e = .returned (.tuple #[.slice none 0 0, edV 0 0 0 0 0 0 0 (.slice none 0 0), .int .i64 (if ok = true then Trk.adjCode n k c d sn sd else 1)]) ∧ Below w.heap.size w w')
theorem code_bd (n : List Trk.Clip) (k : Int) (c : Nat) (d sn sd : Int) : -1000 ≤ Trk.adjCode n k c d sn sd ∧ Trk.adjCode n k c d sn sd ≤ 1000 := by
 unfold Trk.adjCode
 split
 ·decide
 split
 ·decide
 split <;> decide
theorem apply_c {L : Int} (v : Value) (t : List Trk.Clip) (k : Int) (c : Nat) (d : Int) (cap : Nat) (ao : Option Addr) (w : World) (h : Tk w v t) (hV : VT L t) (hL : L ≤ 1000000000) (hn : (Trk.nf t).length ≤ 63) (hk : 5 ≤ k ∧ k ≤ 9) (hc : c ≤ 1048576) (hcap : cap ≤ maxLen)
  (hd : -2147483648 ≤ d ∧ d ≤ 2147483648) :
  Calls Tryz.prog 45 #[v, edV k 0 0 (c : Int) d 0 0 (.slice ao 0 cap)] w (ClipsPost w (Trk.nf t) k c d 0 0 (decide (d ≠ 0 ∧ -2147483647 ≤ d ∧ d ≤ 2147483647))) := by
 obtain ⟨ok, hok⟩ : ∃ b, b = decide (d ≠ 0 ∧ -2147483647 ≤ d ∧ d ≤ 2147483647) := ⟨_, rfl⟩
 rw [← hok]
 have hu : Tk w (.slice ao 0 cap) [] := ⟨ao, cap, rfl, Nat.zero_le _, hcap, fun i x hi => by simp at hi⟩
 refine apply_clip (M := L + 2147483648 * 18018 + 2147483648 * 18018 + 2147483647 * 18018) v (.slice ao 0 cap) t (Trk.adjL (Trk.nf t) k c d 0 0) k 0 0 (c : Int) d 0 0 (Trk.fromL (Trk.nf t) k c d) (Trk.toL (Trk.nf t) k c d) (Trk.undK k d) (Trk.adjCode (Trk.nf t) k c d 0 0) ok w h [] hu hV (by omega) (by omega)
  (fun w' _ => by rw [hok]; exact valid_adj k c d ao cap w' hk hc)
  (fun ho w' vn hn' _ => ?_) (fun h0 => ?_) (by omega) (code_bd _ _ _ _ _ _)
 ·have hd2 := of_decide_eq_true (hok ▸ ho : decide (d ≠ 0 ∧ -2147483647 ≤ d ∧ d ≤ 2147483647) = true)
  exact adjust_any (D := 0) vn (.slice ao 0 cap) (Trk.nf t) k 0 0 c d 0 0 w' hn' ⟨_, _, _, rfl⟩ (nf_vt hV) hn (by omega) (fun _ => ⟨by omega, hd2.1⟩) (fun h => by omega) (by omega) hc
 ·have ha := adj_ok (nf_vt hV) (by omega) (fun h => by omega) (by omega) h0
  have hl : (Trk.adjL (Trk.nf t) k c d 0 0).length = (Trk.nf t).length := Trk.adjL_length _ _ _ _ _ _
  exact ⟨ha.1, ha.2.1, by omega, Nat.le_trans (Trk.nf_length ha.1.good) (by omega)⟩
theorem apply_r {L : Int} (v : Value) (t : List Trk.Clip) (c : Nat) (sn sd : Int) (cap : Nat) (ao : Option Addr) (w : World) (h : Tk w v t) (hV : VT L t) (hL : L ≤ 1000000000) (hn : (Trk.nf t).length ≤ 63) (hc : c ≤ 1048576) (hcap : cap ≤ maxLen) (hs : Trk.SpeedOK sn sd) :
  Calls Tryz.prog 45 #[v, edV 10 0 0 (c : Int) 0 sn sd (.slice ao 0 cap)] w (ClipsPost w (Trk.nf t) 10 c 0 sn sd true) := by
 have hu : Tk w (.slice ao 0 cap) [] := ⟨ao, cap, rfl, Nat.zero_le _, hcap, fun i x hi => by simp at hi⟩
 refine apply_clip (M := L + 2147483648 * 18018 + 2147483648 * 18018 + 2147483647 * 18018) v (.slice ao 0 cap) t (Trk.adjL (Trk.nf t) 10 c 0 sn sd) 10 0 0 (c : Int) 0 sn sd (Trk.fromL (Trk.nf t) 10 c 0) (Trk.toL (Trk.nf t) 10 c 0) (Trk.undK 10 0) (Trk.adjCode (Trk.nf t) 10 c 0 sn sd) true w h [] hu hV (by omega) (by omega)
  (fun w' _ => valid_ret c sn sd ao cap w' hc hs)
  (fun ho w' vn hn' _ => ?_) (fun h0 => ?_) (by omega) (code_bd _ _ _ _ _ _)
 ·exact adjust_any (D := 0) vn (.slice ao 0 cap) (Trk.nf t) 10 0 0 c 0 sn sd w' hn' ⟨_, _, _, rfl⟩ (nf_vt hV) hn (by omega) (fun h => by omega) (fun _ => ⟨rfl, hs⟩) (by omega) hc
 ·have ha := adj_ok (nf_vt hV) (by decide) (fun _ => hs) (by decide) h0
  have hl : (Trk.adjL (Trk.nf t) 10 c 0 sn sd).length = (Trk.nf t).length := Trk.adjL_length _ _ _ _ _ _
  exact ⟨ha.1, ha.2.1, by omega, Nat.le_trans (Trk.nf_length ha.1.good) (by omega)⟩
section
variable {L : Int} {now : Int} {v : Value} {d : Dc} {w : World} {u nm : ByteArray}
theorem bigstep_redo (h : Dcs w v [d]) (hd : DocOK L now d) (hL : L ≤ 140737488355328) (h0 : 0 ≤ now) (h1 : now ≤ 1099511627776) (hu : okWord u) (hn : okWord nm) :
  Calls Tryz.prog 26 #[.agg #[.int .i64 now, v], .agg #[.int .i64 6, .string u, .string nm, .int .i64 0, .int .i64 0, .slice none 0 0]] w (StepPost w (OneR now [d] 6 u nm (fun d c d' => RedoR d u c d'))) :=
 bigstep_any now v d 6 u nm 0 0 none 0 0 152 (.agg #[.int .i64 6, .string u, .string nm]) _ w h hd hL h0 h1
  (OneR.fine (L := L) (by simp) (fun x hx => by rw [List.mem_singleton.1 hx]; exact hd) (fun d d' h hr => RedoR.keeps h hu hr))
  (fun w1 hb => convert_redo u nm w1 hu hn)
  (fun w1 hb => step_redo [d] v now u nm w1 (h.below hb) (by simp) (by simp) (fun x hx => by rw [List.mem_singleton.1 hx]; exact ⟨hd.own, hd.rvs⟩) (fun x hx => by rw [List.mem_singleton.1 hx]; exact hd.base4) hL)
end
theorem Back.redo {t a : List Trk.Clip} {k : Nat} {d d' : Dc} {c : Int} (h : Back t a k d) (hk : k ≤ 5) (ht : Trk.Norm t) (ha : Trk.Norm a) (hne : t ≠ a) (hu : RedoR d annB c d') : c = 0 ∧ Hist t a (k + 1) d' := by
 have hl := h.l
 obtain ⟨r0, e0, k0, t0⟩ := h.r0
 obtain ⟨r1, e1, k1, b1, bk1, t1⟩ := h.r1
 obtain ⟨rb, eb, tb⟩ := h.b
 obtain ⟨rc, ec, kc, bc, sc, oc, tc⟩ := h.c
 have htake : takeB d annB (2 + 2 * k) = true := by unfold takeB; rw [ec]; simp [kc, bc, oc]
 have hhit : hitB d annB (2 + 2 * k) = false := by unfold hitB changedB; rw [ec]; simp [kc]
 have hskip : skipB d annB (2 + 2 * k) = false := by unfold skipB; rw [htake]; simp
 have aux2 : ∀ j, j < d.revs.length → (∀ i, j < i → skipB d annB i = true) → (hitB d annB j = true ∨ takeB d annB j = true) → j = 2 + 2 * k := by
  intro j hj hn hh
  by_cases h1 : j < 2 + 2 * k
  ·have := hn _ h1
   rw [hskip] at this
   cases this
  ·omega
 have hj0 : ∀ j, hitB d annB j = true → j < d.revs.length := by
  intro j hj
  unfold hitB at hj
  split at hj
  ·rename_i x hx
   exact (List.getElem?_eq_some_iff.1 hx).1
  ·cases hj
 have aux : ∀ cur r p x c, curR d cur → d.revs[2 + 2 * k]? = some r → d.revs[2 + 2 * k - 1]? = some p → MergeR r.t cur.t p.t c x → c = 0 ∧ x = a := by
  intro cur r p x c hc hr' hp hm
  unfold curR at hc
  rw [hl, show 3 + 2 * k - 1 = 2 + 2 * k by omega, ec] at hc
  rw [ec] at hr'
  rw [show 2 + 2 * k - 1 = 1 + 2 * k by omega, eb] at hp
  cases hc; cases hr'; cases hp
  rw [tc, tb] at hm
  exact merge_back ha ht (Ne.symm hne) hm
 cases hu with
 | locked hh => exact absurd hh (free_held h.o)
 | none _ hn => rw [hn _ (show 1 ≤ 2 + 2 * k by omega)] at hskip; cases hskip
 | hit _ j j0 hh hn =>
  obtain rfl := aux2 j (hj0 j hh) hn (.inl hh)
  rw [hhit] at hh
  cases hh
 | fails _ j j0 j1 hh ho hn _ _ hz hr =>
  obtain rfl := aux2 j j1 hn (.inr ho)
  cases hr with
  | full hf => omega
  | fails _ cur r p hc hr' hp _ x hm _ => exact absurd (aux cur r p x _ hc hr' hp hm).1 hz
  | done _ cur r p hc hr' hp x hm => exact absurd rfl hz
 | done _ j j0 j1 hh ho hn d1 hr r hj b hb =>
  obtain rfl := aux2 j j1 hn (.inr ho)
  rw [ec] at hj
  cases hj
  obtain rfl : b = 1 := by rw [sc] at hb; omega
  cases hr with
  | fails _ cur r p hc hr' hp _ x hm hz => exact absurd rfl hz
  | done _ cur r p hc hr' hp x hm =>
   obtain ⟨-, rfl⟩ := aux cur r p x _ hc hr' hp hm
   rw [ec] at hr'
   cases hr'
   obtain ⟨rs, hrs⟩ : ∃ rs, rs = (d.revs ++ [(⟨5, annB, ((2 + 2 * k : Nat) : Int), false, x⟩ : Rv)]).set (2 + 2 * k) { rc with back := true } := ⟨_, rfl⟩
   have hlen : rs.length = 4 + 2 * k := by rw [hrs]; simp [hl]; omega
   have hg : ∀ j r, j ≠ 2 + 2 * k → j < 3 + 2 * k → d.revs[j]? = some r → rs[j]? = some r := by
    intro j r h1 h2 hx
    rw [hrs, List.getElem?_set, if_neg (Ne.symm h1), List.getElem?_append_left (by omega)]
    exact hx
   have hg2 : rs[2 + 2 * k]? = some { rc with back := true } := by
    rw [hrs, List.getElem?_set, if_pos rfl, if_pos (by simp; omega)]
   have hg3 : rs[3 + 2 * k]? = some ⟨5, annB, ((2 + 2 * k : Nat) : Int), false, x⟩ := by
    rw [hrs, List.getElem?_set, if_neg (by omega), List.getElem?_append_right (by omega), hl, Nat.sub_self]
    rfl
   have hs1 : rs[1]? = some r1 := hg 1 r1 (by omega) (by omega) e1
   rw [← hrs]
   clear hrs
   have hub : unback { d with revs := rs } 1 = { d with revs := rs.set 1 { r1 with back := false } } := by
    unfold unback
    dsimp only
    rw [hs1]
   rw [hub]
   refine ⟨rfl, h.o, h.n, by simp [hlen]; omega, ⟨r0, ?_, k0, t0⟩, ⟨{ r1 with back := false }, ?_, k1, b1, rfl, t1⟩, ?_, ⟨⟨5, annB, ((2 + 2 * k : Nat) : Int), false, x⟩, ?_, rfl⟩⟩
   ·dsimp only
    rw [List.getElem?_set, if_neg (by decide)]
    exact hg 0 r0 (by omega) (by omega) e0
   ·dsimp only
    rw [List.getElem?_set, if_pos rfl, if_pos (by omega)]
   ·intro j r hj hx
    dsimp only at hx
    rw [List.getElem?_set, if_neg (by omega)] at hx
    by_cases h1 : j < 2 + 2 * k
    ·have : ∃ q, d.revs[j]? = some q := ⟨_, List.getElem?_eq_getElem (by omega)⟩
     obtain ⟨q, hq⟩ := this
     rw [hg j q (by omega) (by omega) hq] at hx
     cases hx
     exact h.r2 j r hj h1 hq
    ·by_cases h2 : j = 2 + 2 * k
     ·subst h2
      rw [hg2] at hx
      cases hx
      exact .inl ⟨kc, rfl⟩
     ·have := (List.getElem?_eq_some_iff.1 hx).1
      obtain rfl : j = 3 + 2 * k := by omega
      rw [hg3] at hx
      cases hx
      exact .inr rfl
   ·dsimp only
    rw [List.getElem?_set, if_neg (by omega), show 2 + 2 * (k + 1) - 1 = 3 + 2 * k by omega]
    exact hg3
theorem undo_run {t a : List Trk.Clip} (ht : Trk.Norm t) (ha : Trk.Norm a) (hne : t ≠ a) {now : Int} {ds : List Dc} {cs : List Int} (h : RunR StpS [⟨1, annB, docB, 0, 0, t⟩, ⟨4, annB, docB, 0, 0, a⟩] now ds cs) :
  now = 0 ∧ cs = [0, 0] ∧ ∃ d, ds = [d] ∧ Hist t a 0 d := by
 obtain ⟨cs0, c, d', hr, rfl, rfl, rfl, hc⟩ := next_run (es := [⟨1, annB, docB, 0, 0, t⟩]) (show (4 : Int) ≠ 1 by decide) (d := madeD annB docB t) (fun now ds cs hr => ⟨(first_run (L := 0) rfl hr).1, (first_run (L := 0) rfl hr).2.2⟩) rfl h
 obtain ⟨-, rfl, -⟩ := first_run (L := 0) rfl hr
 unfold ChR at hc
 simp only [show (4 : Int) ≠ 2 by decide, show (4 : Int) ≠ 3 by decide, if_false, if_true] at hc
 have hcur : ∀ cur, curR (madeD annB docB t) cur → cur = ⟨1, annB, 0, false, Trk.nf t⟩ := fun cur h => (Option.some.inj h).symm
 cases hc with
 | locked hh => exact absurd rfl hh.1
 | range _ h2 => simp [madeD] at h2
 | full _ _ h3 => simp [madeD] at h3
 | last _ h2 h3 cur hcr =>
  obtain rfl := hcur cur hcr
  refine ⟨rfl, rfl, _, rfl, ?_⟩
  rw [if_pos rfl, ht.nf, ha.nf]
  unfold addR
  rw [if_neg (by dsimp only; rw [ha.nf, ht.nf]; exact Ne.symm hne)]
  unfold madeD
  rw [ht.nf]
  exact ⟨rfl, rfl, rfl, ⟨_, rfl, rfl, rfl⟩, ⟨_, rfl, rfl, rfl, rfl, rfl⟩, fun j r hj hx => by
   have := (List.getElem?_eq_some_iff.1 hx).1
   simp at this
   omega, ⟨_, rfl, rfl⟩⟩
 | merge _ k h2 h2' h3 cur b hcr hb x hm => simp [madeD] at h2'
 | fails _ k h2 h2' h3 cur b hcr hb _ x hm hz => simp [madeD] at h2'
theorem evs_two (w : World) (e1 e2 : Ev) (t1 t2 : Value) (k1 : Tk w t1 e1.t) (k2 : Tk w t2 e2.t) (n1 : e1.kind = 1 ∨ e1.kind = 4 ∨ t1 = .slice none 0 0) (n2 : e2.kind = 1 ∨ e2.kind = 4 ∨ t2 = .slice none 0 0) :
  Evs (w.alloc (.cells (evtL e1 t1 ++ evtL e2 t2).toArray 59)) (.slice (some ⟨w.heap.size, 0, none⟩) 2 2) [e1, e2] := by
 have hb : Below w.heap.size w (w.alloc (.cells (evtL e1 t1 ++ evtL e2 t2).toArray 59)) := below_box _ _
 refine ⟨_, _, rfl, Nat.le_refl _, by unfold maxLen; omega, fun i e hi => ?_⟩
 match i, hi with
 | 0, hi =>
  obtain rfl := Option.some.inj hi
  exact ⟨_, 0, t1, rfl, range_box w _ 59 _ _ (fun j u hj => by
   have hlt := (List.getElem?_eq_some_iff.1 hj).1
   rw [show 0 + 0 * 6 + j = j by omega, List.getElem?_append_left hlt]
   exact hj), k1.below hb, fun h1 h4 => by rcases n1 with h | h | h <;> first | exact absurd h h1 | exact absurd h h4 | exact h⟩
 | 1, hi =>
  obtain rfl := Option.some.inj hi
  exact ⟨_, 0, t2, rfl, range_box w _ 59 _ _ (fun j u hj => by
   rw [show 0 + 1 * 6 + j = 6 + j by omega, List.getElem?_append_right (by simp [evtL])]
   rw [show 6 + j - (evtL e1 t1).length = j by simp [evtL]]
   exact hj), k2.below hb, fun h1 h4 => by rcases n2 with h | h | h <;> first | exact absurd h h1 | exact absurd h h4 | exact h⟩
theorem built_ev2 (e1 e2 : Ev) (t1 t2 : Value) : Tryz.prog.builtSlice 59 2 [(0, .agg (evtL e1 t1).toArray), (1, .agg (evtL e2 t2).toArray)] = some (evtL e1 t1 ++ evtL e2 t2).toArray := by kernel_rfl
structure EV (w wc : World) (B p kc g4 g5 : Nat) (k a m c d sn sd : Int) (V : Value) : Prop where
 t : TP wc B p kc
 u : Turn p w wc
 e : ED wc g5 k a m c d sn sd V
 z : ED wc g4 0 0 0 0 0 0 0 (.slice none 0 0)
 p : p < w.heap.size
 q4 : w.heap.size ≤ g4
 q5 : w.heap.size ≤ g5
 n : g4 ≠ g5
theorem EV.turn {w wc wd : World} {B p kc kd g4 g5 : Nat} {k a m c d sn sd : Int} {V : Value} (h : EV w wc B p kc g4 g5 k a m c d sn sd V) (ht : Turn p wc wd) (hT : TP wd B p kd) : EV w wd B p kd g4 g5 k a m c d sn sd V :=
 ⟨hT, h.u.trans ht, ht.ed (by have := h.p; have := h.q5; omega) h.e, ht.ed (by have := h.p; have := h.q4; omega) h.z, h.p, h.q4, h.q5, h.n⟩
theorem EV.low {w wc wd : World} {B p kc g4 g5 n : Nat} {k a m c d sn sd : Int} {V : Value} (h : EV w wc B p kc g4 g5 k a m c d sn sd V) (hb : Below n wc wd) (h4 : g4 < n) (h5 : g5 < n) : EV w wd B p kc g4 g5 k a m c d sn sd V := by
 have hB := h.t.1
 have hp := h.p
 have h4' := h.q4
 refine ⟨h.t.low (n := n) (by omega) (by omega) hb, ⟨Nat.le_trans h.u.s hb.size, fun b hb' hne => (hb.block b (by omega)).trans (h.u.o b hb' hne), fun q w0 hq hb0 => ?_⟩, h.e.lim hb h5, h.z.lim hb h4, h.p, h.q4, h.q5, h.n⟩
 exact (h.u.b q w0 hq hb0).trans (hb.mono (by omega))
theorem EV.set {w wc wd : World} {B p kc g4 g5 : Nat} {k a m c d sn sd k' a' m' c' d' sn' sd' : Int} {V V' : Value} (h : EV w wc B p kc g4 g5 k a m c d sn sd V) (ht : Turn g5 wc wd) (he : ED wd g5 k' a' m' c' d' sn' sd' V') : EV w wd B p kc g4 g5 k' a' m' c' d' sn' sd' V' := by
 have hp := h.p
 have h5 := h.q5
 have hB := h.t.1
 exact ⟨h.t.turn ht (by omega) (by omega), h.u.into h5 (by omega) ht, he, ht.ed h.n h.z, h.p, h.q4, h.q5, h.n⟩
theorem ED.set3 {w : World} {b : Nat} {k p n c d sn sd : Int} {v : Value} (h : ED w b k p n c d sn sd v) (x : Int) : ED (w.setCell ⟨b, 3, none⟩ (.int .i64 x)) b k p n x d sn sd v := by
 obtain ⟨x0, x1, x2, x3, x4, x5, x6, x7, f⟩ := h
 exact ⟨by simp [go_sem, x0], by simp [go_sem, x1], by simp [go_sem, x2], by simp [go_sem, x3], by simp [go_sem, x4], by simp [go_sem, x5], by simp [go_sem, x6], by simp [go_sem, x7], fun o => (World.frozen?_setCell ..).trans (f o)⟩
theorem ED.set4 {w : World} {b : Nat} {k p n c d sn sd : Int} {v : Value} (h : ED w b k p n c d sn sd v) (x : Int) : ED (w.setCell ⟨b, 4, none⟩ (.int .i64 x)) b k p n c x sn sd v := by
 obtain ⟨x0, x1, x2, x3, x4, x5, x6, x7, f⟩ := h
 exact ⟨by simp [go_sem, x0], by simp [go_sem, x1], by simp [go_sem, x2], by simp [go_sem, x3], by simp [go_sem, x4], by simp [go_sem, x5], by simp [go_sem, x6], by simp [go_sem, x7], fun o => (World.frozen?_setCell ..).trans (f o)⟩
theorem ED.set56 {w : World} {b : Nat} {k p n c d sn sd : Int} {v : Value} (h : ED w b k p n c d sn sd v) (x y : Int) : ED ((w.setCell ⟨b, 5, none⟩ (.int .i64 x)).setCell ⟨b, 6, none⟩ (.int .i64 y)) b k p n c d x y v := by
 obtain ⟨x0, x1, x2, x3, x4, x5, x6, x7, f⟩ := h
 exact ⟨by simp [go_sem, x0], by simp [go_sem, x1], by simp [go_sem, x2], by simp [go_sem, x3], by simp [go_sem, x4], by simp [go_sem, x5], by simp [go_sem, x6], by simp [go_sem, x7], fun o => ((World.frozen?_setCell ..).trans (World.frozen?_setCell ..)).trans (f o)⟩
theorem results_ed1 {fn : Func} {tmps : Array Value} {w : World} {t : Tmp} {b : Nat} {k p n c d sn sd : Int} {v : Value} (hr : fn.results = #[.cell t 40]) (ht : tmps.getD t undef = .pointer (some ⟨b, 0, none⟩))
  (hc : ED w b k p n c d sn sd v) (hv : (∃ ao m cp, v = .slice ao m cp)) : (results fn tmps).run Tryz.prog w = .ok (edV k p n c d sn sd v) w := by
 obtain ⟨ao, m, cp, rfl⟩ := hv
 have h := run_loadVar_mid (P := Tryz.prog) w b 0 40 (edC k p n c d sn sd (.slice ao m cp)).toList _ hc.range Tryz.underlying40 rfl (by kernel_rfl)
 obtain ⟨C, hC⟩ : ∃ C, C = (edC k p n c d sn sd (.slice ao m cp)).toList.toArray := ⟨_, rfl⟩
 rw [← hC] at h
 unfold results
 rw [hr]
 have ht2 : tmps[t]?.getD undef = .pointer (some ⟨b, 0, none⟩) := by rw [← Array.getD_eq_getD_getElem?]; exact ht
 simp [ht2, asAddr, h]
 rw [hC]
 rfl
inductive TE (n : Nat) : Trk.Ed → Prop where
 | ins (k a : Int) (cl : List Trk.Clip) (hk : k = 1 ∨ k = 3) (a0 : 0 ≤ a) (a1 : a < 60) (h : ClipsOK cl 7) : TE n ⟨k, a, 0, 0, 0, 0, 0, cl⟩
 | rem (k a m : Int) (hk : k = 2 ∨ k = 4) (a0 : 0 ≤ a) (a1 : a < 60) (m0 : 1 ≤ m) (m1 : m ≤ 20) : TE n ⟨k, a, m, 0, 0, 0, 0, []⟩
 | clip (k d : Int) (c : Nat) (hk : 5 ≤ k ∧ k ≤ 9) (hc : c ≤ n) (d0 : d ≠ 0) (d1 : -5 ≤ d ∧ d ≤ 6) : TE n ⟨k, 0, 0, (c : Int), d, 0, 0, []⟩
 | speed (sn sd : Int) (c : Nat) (hc : c ≤ n) (h : Trk.SpeedOK sn sd) : TE n ⟨10, 0, 0, (c : Int), 0, sn, sd, []⟩
theorem Turn.ofStore {g : Nat} {w w' : World} (h2 : ∀ b, b ≠ g → w'.heap[b]? = w.heap[b]?) (h3 : w'.heap.size = w.heap.size) (h4 : ∀ n w0, n ≤ g → Below n w0 w → Below n w0 w') : Turn g w w' :=
 ⟨Nat.le_of_eq h3.symm, fun b _ hn => h2 b hn, h4⟩
theorem EV.fin {w wc wd : World} {B p kc g4 g5 : Nat} {k a m c d sn sd : Int} {V : Value} (h : EV w wc B p kc g4 g5 k a m c d sn sd V) (ht : Turn g4 wc wd) : TP wd B p kc ∧ Turn p w wd := by
 have hp := h.p
 have h4 := h.q4
 have hB := h.t.1
 exact ⟨h.t.turn ht (by omega) (by omega), h.u.into h4 (by omega) ht⟩
def TEPost (w : World) (B p k j n : Nat) (e : Ending) (w' : World) : Prop := (∃ ed ao l cp, e = .returned (EdV ed (.slice ao l cp)) ∧ TE n ed ∧ OT w' w.heap.size (.slice ao l cp) ed.ins) ∧ TQ w B p k j w'
set_option maxRecDepth 100000 in
set_option maxHeartbeats 16000000 in
theorem tedit_any (B p k n : Nat) (w : World) (ht : TP w B p k) (hk : k < 400000) (hn : n ≤ 1000) :
  Calls Tryz.prog 46 #[.pointer (some ⟨p, 0, none⟩), .int .i64 (n : Int)] w (TEPost w B p k 200 n) := by
 have hp := ht.2.1
 have hB := ht.1
 have HTP := Lib.hid ht
 clear ht
 go_enter Tryz.func46, Tryz.ntmps46
 go_upto_region 1 with fail
 obtain ⟨w1, hw1⟩ : ∃ y, y = w.alloc (.cells #[.int .i64 0, .int .i64 0, .int .i64 0, .int .i64 0, .int .i64 0, .int .i64 0, .int .i64 0, .slice none 0 0] 40) := ⟨_, rfl⟩
 rw [← hw1]
 have HZ := Lib.hid (show ED w1 w.heap.size 0 0 0 0 0 0 0 (.slice none 0 0) by rw [hw1]; exact ED.box w 0 0 0 0 0 0 0 (.slice none 0 0) rfl 40)
 have hb : Below w.heap.size w w1 := by rw [hw1]; exact below_box _ _
 have HT := Lib.hid (HTP.out.below (by omega) hb)
 have HU := Lib.hid (Turn.of (g := p) (Nat.le_of_lt hp) hb)
 obtain ⟨g4, hg4⟩ : ∃ y, y = w.heap.size := ⟨_, rfl⟩
 rw [← hg4] at HZ ⊢
 have HG4 := Lib.hid hg4
 clear hw1 hg4 hb
 go_wp2_with fail
 refine (next_any B p k 10 _ HT.out (by omega) (by omega) (by omega)).mono ?_
 rintro e w2 ⟨r, rfl, r0, r1, hT_, hg_⟩
 have ht := Turn.grown hg_ HT.out.2.1
 replace HU := Lib.hid (HU.out.trans ht)
 replace HZ := Lib.hid (ht.ed (show g4 ≠ p by have := HG4.out; omega) HZ.out)
 replace HT := Lib.hid hT_
 clear hT_ hg_ ht
 try dsimp only
 iterate 10 go_step
 have hv : ED (w2.alloc (.cells (edC 0 0 0 0 0 0 0 (.slice none 0 0)) 40)) w2.heap.size 0 0 0 0 0 0 0 (.slice none 0 0) := ED.box w2 0 0 0 0 0 0 0 (.slice none 0 0) rfl 40
 have hb0 : Below w2.heap.size w2 (w2.alloc (.cells (edC 0 0 0 0 0 0 0 (.slice none 0 0)) 40)) := below_box _ _
 refine wpl_storeE (1 + r) 0 0 0 0 0 0 none 0 0 hv rfl rfl rfl rfl ?_
 intro w3 q1 q2 q3 q4 q5
 have hb : Below w2.heap.size w2 w3 := q4 _ _ (Nat.le_refl _) hb0
 have hp2 : p < w2.heap.size := HT.out.2.1
 have hEV : EV w w3 B p (k + 1) g4 w2.heap.size (1 + r) 0 0 0 0 0 0 (.slice none 0 0) := by
  have h4 := HZ.out.lt
  have h5 := HU.out.s
  have h6 := HG4.out
  exact ⟨HT.out.low (n := w2.heap.size) (by omega) hp2 hb, HU.out.trans (Turn.of (g := p) (by omega) hb), q1, HZ.out.below hb, hp, by omega, by omega, by omega⟩
 have H := Lib.hid hEV
 have HS0 := Lib.hid (show w.heap.size ≤ w3.heap.size from hEV.u.s)
 obtain ⟨g5, hg5⟩ : ∃ g, g = w2.heap.size := ⟨_, rfl⟩
 rw [← hg5] at H ⊢
 clear hg5 q1 q2 q3 q4 q5 hb0 hb hv hp2 hEV HT HU HZ HTP HG4
 simp only [Act.put, List.setIfInBounds_toArray, List.set_cons_succ, List.set_cons_zero]
 obtain ⟨K, hK⟩ : ∃ K, K = 1 + r := ⟨_, rfl⟩
 rw [← hK] at H ⊢
 have K0 : 1 ≤ K := by omega
 have K1 : K ≤ 10 := by omega
 clear hK r0 r1
 have e0 := H.out.e.k0
 rcases (show K = 1 ∨ K = 2 ∨ K = 3 ∨ K = 4 ∨ K = 5 ∨ K = 6 ∨ K = 7 ∨ K = 8 ∨ K = 9 ∨ K = 10 by omega) with rfl | rfl | rfl | rfl | rfl | rfl | rfl | rfl | rfl | rfl
 ·clear K0 K1
  go_wp2_with fail
  refine (next_any B p (k + 1) 60 _ H.out.t (by omega) (by omega) (by omega)).mono ?_
  rintro e wn ⟨a, rfl, a0, a1, hT_, hg_⟩
  have ht := Turn.grown hg_ H.out.t.2.1
  replace H := Lib.hid (H.out.turn ht hT_)
  clear hT_ hg_ ht
  have y1 := H.out.e.k1
  have f1 := H.out.e.fz 1
  go_upto_region 9 with fail
  obtain ⟨wq, hw⟩ : ∃ q, q = wn.setCell ⟨g5, 1, none⟩ (.int .i64 a) := ⟨_, rfl⟩
  rw [← hw]
  have ht : Turn g5 wn wq := by rw [hw]; exact (Turn.refl _ _).trans (Turn.cell g5 1 (.int .i64 a) _)
  replace H := Lib.hid (H.out.set ht (by rw [hw]; exact H.out.e.set1 a))
  clear hw ht
  clear y1 f1
  have HL4 := Lib.hid H.out.z.lt
  have HL5 := Lib.hid H.out.e.lt
  have HPW := Lib.hid H.out.t.2.1
  have HSQ := Lib.hid H.out.u.s
  clear e0
  go_wp2_with fail
  refine (track_any B p (k + 1 + 1) 3 wq H.out.t (by omega) (by omega)).mono ?_
  rintro e v2 ⟨⟨vl, l, rfl, ho, hs, hl⟩, ⟨k2, hk2, hT_⟩, ht⟩
  have HL := Lib.hid ho
  have HS := Lib.hid hs
  have HLL := Lib.hid hl
  have HS1 := Lib.hid (show wq.heap.size ≤ v2.heap.size from ht.s)
  replace H := Lib.hid (H.out.turn ht hT_)
  have HK2 := Lib.hid hk2
  clear ho hs hl hT_ ht hk2
  go_wp2_with fail
  refine (clip_any B p k2 _ H.out.t (by have := HK2.out; omega)).mono ?_
  rintro e v3 ⟨⟨z, rfl, hz⟩, ⟨k3, hk3, hT_⟩, ht⟩
  replace H := Lib.hid (H.out.turn ht hT_)
  replace HL := Lib.hid (HL.out.turn ht HPW.out)
  have HSZ := Lib.hid (Nat.le_trans HS1.out ht.s)
  have HK3 := Lib.hid hk3
  have HZ := Lib.hid hz
  clear hz hT_ ht hk3
  unfold clipV
  obtain ⟨C, hC⟩ : ∃ C, C = (clipC z).toArray := ⟨_, rfl⟩
  rw [← hC]
  have HCC := Lib.hid hC
  clear hC
  dsimp only
  iterate 1 go_step
  refine Great.wpList_buildSliceTo rfl 23 48 1 #[(0, .tmp 34)] rfl v3.heap.size rfl _ rfl Tryz.underlying23 C ?_ ?_
  ·simp only [List.map_toArray, List.map_cons, List.map_nil, List.toList_toArray]
   rw [HCC.out]
   exact built_clip z
  have hbx : CA (v3.alloc (.cells C 48)) v3.heap.size 0 z := by rw [HCC.out]; exact CA.box v3 z 48
  have hb : Below v3.heap.size v3 (v3.alloc (.cells C 48)) := below_box _ _
  have hsz : wq.heap.size ≤ (v3.alloc (.cells C 48)).heap.size := Nat.le_trans HSZ.out hb.size
  replace HL := Lib.hid (HL.out.below hb)
  have HBX := Lib.hid hb
  clear hb
  simp only [Act.put, List.setIfInBounds_toArray, List.set_cons_succ, List.set_cons_zero]
  refine wpList_appT 23 Tryz.underlying23 _ rfl (.tmp 32) (.tmp 35) rfl rfl wq.heap.size vl l rfl HL.out hsz v3.heap.size 1 z rfl hbx (by have := HLL.out; omega) ?_
  intro vn v5 q1 q2 q3 q4
  simp only [Act.put, List.setIfInBounds_toArray, List.set_cons_succ, List.set_cons_zero]
  have hbl : Below wq.heap.size v3 v5 := (HBX.out.mono HSZ.out).trans q2
  have HC := Lib.hid q1
  replace H := Lib.hid (H.out.low hbl HL4.out HL5.out)
  have HCO := Lib.hid (clipsOK_snoc HS.out HLL.out HZ.out (by omega))
  obtain ⟨cl, hcl⟩ : ∃ cl, cl = l ++ [z] := ⟨_, rfl⟩
  rw [← hcl] at HC HCO
  clear q1 q2 q3 q4 hbl hbx hsz hcl HBX HCC HZ HS HLL HL HSZ
  obtain ⟨ca, cc, rfl, hcc⟩ := HC.out.tk
  clear hcc
  obtain ⟨J, hJ⟩ : ∃ J, J = cl.length := ⟨_, rfl⟩
  rw [← hJ] at HC ⊢
  clear hJ
  have y7 := H.out.e.k7
  have f7 := H.out.e.fz 7
  go_upto_region 15 with fail
  obtain ⟨w6, hw⟩ : ∃ q, q = v5.setCell ⟨g5, 7, none⟩ (.slice ca J cc) := ⟨_, rfl⟩
  rw [← hw]
  have ht : Turn g5 v5 w6 := by rw [hw]; exact (Turn.refl _ _).trans (Turn.cell g5 7 (.slice ca J cc) _)
  replace H := Lib.hid (H.out.set ht (by rw [hw]; exact H.out.e.set7 (.slice ca J cc)))
  replace HC := Lib.hid (show OT w6 wq.heap.size (.slice ca J cc) cl by rw [hw]; exact HC.out.far (p := ⟨g5, 7, none⟩) HL5.out _)
  clear hw ht
  clear y7 f7
  apply wp_region_lit
  refine wpl_loadE H.out.e rfl rfl rfl ?_
  refine wpl_storeE (1) (a) (0) (0) (0) (0) (0) ca J cc H.out.z rfl rfl rfl rfl ?_
  intro wz q1 q2 q3 q4 q5
  have hfin := H.out.fin (Turn.ofStore q2 q3 q4)
  have HOT := Lib.hid ((HC.out.blocks (fun g kk cap e => q2 g (by have h1 := (HC.out.blk e).1; have h2 := HL4.out; omega))).lower HSQ.out)
  have HQ1 := Lib.hid q1
  have HFI := Lib.hid hfin
  clear q1 q2 q3 q4 q5 hfin
  simp only [Act.put, List.setIfInBounds_toArray, List.set_cons_succ, List.set_cons_zero]
  iterate 4 go_step
  exact bodyPost_ret (results_ed1 Tryz.results46 rfl HQ1.out ⟨_, _, _, rfl⟩) rfl ⟨⟨⟨1, a, 0, 0, 0, 0, 0, cl⟩, ca, J, cc, rfl, TE.ins 1 a cl (by decide) a0 (by omega) HCO.out, HOT.out⟩, TQ.of (k' := k3) (by have := HK2.out; have := HK3.out; omega) HFI.out.1 HFI.out.2⟩
 ·clear K0 K1
  go_wp2_with fail
  refine (next_any B p (k + 1) 60 _ H.out.t (by omega) (by omega) (by omega)).mono ?_
  rintro e wn ⟨a, rfl, a0, a1, hT_, hg_⟩
  have ht := Turn.grown hg_ H.out.t.2.1
  replace H := Lib.hid (H.out.turn ht hT_)
  clear hT_ hg_ ht
  go_wp2_with fail
  refine (next_any B p (k + 1 + 1) 20 _ H.out.t (by omega) (by omega) (by omega)).mono ?_
  rintro e wm ⟨m, rfl, m0, m1, hT_, hg_⟩
  have ht := Turn.grown hg_ H.out.t.2.1
  replace H := Lib.hid (H.out.turn ht hT_)
  clear hT_ hg_ ht
  have y1 := H.out.e.k1
  have f1 := H.out.e.fz 1
  have y2 := H.out.e.k2
  have f2 := H.out.e.fz 2
  go_upto_region 15 with fail
  obtain ⟨w6, hw⟩ : ∃ q, q = (wm.setCell ⟨g5, 1, none⟩ (.int .i64 a)).setCell ⟨g5, 2, none⟩ (.int .i64 (1 + m)) := ⟨_, rfl⟩
  rw [← hw]
  have ht : Turn g5 wm w6 := by rw [hw]; exact ((Turn.refl _ _).trans (Turn.cell g5 1 (.int .i64 a) _)).trans (Turn.cell g5 2 (.int .i64 (1 + m)) _)
  replace H := Lib.hid (H.out.set ht (by rw [hw]; exact (H.out.e.set1 a).set2 (1 + m)))
  clear hw ht
  clear y1 f1 y2 f2
  apply wp_region_lit
  refine wpl_loadE H.out.e rfl rfl rfl ?_
  refine wpl_storeE (2) (a) (1 + m) (0) (0) (0) (0) none 0 0 H.out.z rfl rfl rfl rfl ?_
  intro wz q1 q2 q3 q4 q5
  have hfin := H.out.fin (Turn.ofStore q2 q3 q4)
  have HOT := Lib.hid (OT.nil wz w.heap.size)
  have HQ1 := Lib.hid q1
  have HFI := Lib.hid hfin
  clear q1 q2 q3 q4 q5 hfin
  simp only [Act.put, List.setIfInBounds_toArray, List.set_cons_succ, List.set_cons_zero]
  iterate 4 go_step
  exact bodyPost_ret (results_ed1 Tryz.results46 rfl HQ1.out ⟨_, _, _, rfl⟩) rfl ⟨⟨⟨2, a, 1 + m, 0, 0, 0, 0, []⟩, none, 0, 0, rfl, TE.rem 2 a (1 + m) (by decide) a0 (by omega) (by omega) (by omega), HOT.out⟩, TQ.of (k' := k + 1 + 1 + 1) (by omega) HFI.out.1 HFI.out.2⟩
 ·clear K0 K1
  go_wp2_with fail
  refine (next_any B p (k + 1) 60 _ H.out.t (by omega) (by omega) (by omega)).mono ?_
  rintro e wn ⟨a, rfl, a0, a1, hT_, hg_⟩
  have ht := Turn.grown hg_ H.out.t.2.1
  replace H := Lib.hid (H.out.turn ht hT_)
  clear hT_ hg_ ht
  have y1 := H.out.e.k1
  have f1 := H.out.e.fz 1
  go_upto_region 9 with fail
  obtain ⟨wq, hw⟩ : ∃ q, q = wn.setCell ⟨g5, 1, none⟩ (.int .i64 a) := ⟨_, rfl⟩
  rw [← hw]
  have ht : Turn g5 wn wq := by rw [hw]; exact (Turn.refl _ _).trans (Turn.cell g5 1 (.int .i64 a) _)
  replace H := Lib.hid (H.out.set ht (by rw [hw]; exact H.out.e.set1 a))
  clear hw ht
  clear y1 f1
  have HL4 := Lib.hid H.out.z.lt
  have HL5 := Lib.hid H.out.e.lt
  have HPW := Lib.hid H.out.t.2.1
  have HSQ := Lib.hid H.out.u.s
  clear e0
  go_wp2_with fail
  refine (track_any B p (k + 1 + 1) 3 wq H.out.t (by omega) (by omega)).mono ?_
  rintro e v2 ⟨⟨vl, l, rfl, ho, hs, hl⟩, ⟨k2, hk2, hT_⟩, ht⟩
  have HL := Lib.hid ho
  have HS := Lib.hid hs
  have HLL := Lib.hid hl
  have HS1 := Lib.hid (show wq.heap.size ≤ v2.heap.size from ht.s)
  replace H := Lib.hid (H.out.turn ht hT_)
  have HK2 := Lib.hid hk2
  clear ho hs hl hT_ ht hk2
  go_wp2_with fail
  refine (clip_any B p k2 _ H.out.t (by have := HK2.out; omega)).mono ?_
  rintro e v3 ⟨⟨z, rfl, hz⟩, ⟨k3, hk3, hT_⟩, ht⟩
  replace H := Lib.hid (H.out.turn ht hT_)
  replace HL := Lib.hid (HL.out.turn ht HPW.out)
  have HSZ := Lib.hid (Nat.le_trans HS1.out ht.s)
  have HK3 := Lib.hid hk3
  have HZ := Lib.hid hz
  clear hz hT_ ht hk3
  unfold clipV
  obtain ⟨C, hC⟩ : ∃ C, C = (clipC z).toArray := ⟨_, rfl⟩
  rw [← hC]
  have HCC := Lib.hid hC
  clear hC
  dsimp only
  iterate 1 go_step
  refine Great.wpList_buildSliceTo rfl 23 48 1 #[(0, .tmp 34)] rfl v3.heap.size rfl _ rfl Tryz.underlying23 C ?_ ?_
  ·simp only [List.map_toArray, List.map_cons, List.map_nil, List.toList_toArray]
   rw [HCC.out]
   exact built_clip z
  have hbx : CA (v3.alloc (.cells C 48)) v3.heap.size 0 z := by rw [HCC.out]; exact CA.box v3 z 48
  have hb : Below v3.heap.size v3 (v3.alloc (.cells C 48)) := below_box _ _
  have hsz : wq.heap.size ≤ (v3.alloc (.cells C 48)).heap.size := Nat.le_trans HSZ.out hb.size
  replace HL := Lib.hid (HL.out.below hb)
  have HBX := Lib.hid hb
  clear hb
  simp only [Act.put, List.setIfInBounds_toArray, List.set_cons_succ, List.set_cons_zero]
  refine wpList_appT 23 Tryz.underlying23 _ rfl (.tmp 32) (.tmp 35) rfl rfl wq.heap.size vl l rfl HL.out hsz v3.heap.size 1 z rfl hbx (by have := HLL.out; omega) ?_
  intro vn v5 q1 q2 q3 q4
  simp only [Act.put, List.setIfInBounds_toArray, List.set_cons_succ, List.set_cons_zero]
  have hbl : Below wq.heap.size v3 v5 := (HBX.out.mono HSZ.out).trans q2
  have HC := Lib.hid q1
  replace H := Lib.hid (H.out.low hbl HL4.out HL5.out)
  have HCO := Lib.hid (clipsOK_snoc HS.out HLL.out HZ.out (by omega))
  obtain ⟨cl, hcl⟩ : ∃ cl, cl = l ++ [z] := ⟨_, rfl⟩
  rw [← hcl] at HC HCO
  clear q1 q2 q3 q4 hbl hbx hsz hcl HBX HCC HZ HS HLL HL HSZ
  obtain ⟨ca, cc, rfl, hcc⟩ := HC.out.tk
  clear hcc
  obtain ⟨J, hJ⟩ : ∃ J, J = cl.length := ⟨_, rfl⟩
  rw [← hJ] at HC ⊢
  clear hJ
  have y7 := H.out.e.k7
  have f7 := H.out.e.fz 7
  go_upto_region 15 with fail
  obtain ⟨w6, hw⟩ : ∃ q, q = v5.setCell ⟨g5, 7, none⟩ (.slice ca J cc) := ⟨_, rfl⟩
  rw [← hw]
  have ht : Turn g5 v5 w6 := by rw [hw]; exact (Turn.refl _ _).trans (Turn.cell g5 7 (.slice ca J cc) _)
  replace H := Lib.hid (H.out.set ht (by rw [hw]; exact H.out.e.set7 (.slice ca J cc)))
  replace HC := Lib.hid (show OT w6 wq.heap.size (.slice ca J cc) cl by rw [hw]; exact HC.out.far (p := ⟨g5, 7, none⟩) HL5.out _)
  clear hw ht
  clear y7 f7
  apply wp_region_lit
  refine wpl_loadE H.out.e rfl rfl rfl ?_
  refine wpl_storeE (3) (a) (0) (0) (0) (0) (0) ca J cc H.out.z rfl rfl rfl rfl ?_
  intro wz q1 q2 q3 q4 q5
  have hfin := H.out.fin (Turn.ofStore q2 q3 q4)
  have HOT := Lib.hid ((HC.out.blocks (fun g kk cap e => q2 g (by have h1 := (HC.out.blk e).1; have h2 := HL4.out; omega))).lower HSQ.out)
  have HQ1 := Lib.hid q1
  have HFI := Lib.hid hfin
  clear q1 q2 q3 q4 q5 hfin
  simp only [Act.put, List.setIfInBounds_toArray, List.set_cons_succ, List.set_cons_zero]
  iterate 4 go_step
  exact bodyPost_ret (results_ed1 Tryz.results46 rfl HQ1.out ⟨_, _, _, rfl⟩) rfl ⟨⟨⟨3, a, 0, 0, 0, 0, 0, cl⟩, ca, J, cc, rfl, TE.ins 3 a cl (by decide) a0 (by omega) HCO.out, HOT.out⟩, TQ.of (k' := k3) (by have := HK2.out; have := HK3.out; omega) HFI.out.1 HFI.out.2⟩
 ·clear K0 K1
  go_wp2_with fail
  refine (next_any B p (k + 1) 60 _ H.out.t (by omega) (by omega) (by omega)).mono ?_
  rintro e wn ⟨a, rfl, a0, a1, hT_, hg_⟩
  have ht := Turn.grown hg_ H.out.t.2.1
  replace H := Lib.hid (H.out.turn ht hT_)
  clear hT_ hg_ ht
  go_wp2_with fail
  refine (next_any B p (k + 1 + 1) 20 _ H.out.t (by omega) (by omega) (by omega)).mono ?_
  rintro e wm ⟨m, rfl, m0, m1, hT_, hg_⟩
  have ht := Turn.grown hg_ H.out.t.2.1
  replace H := Lib.hid (H.out.turn ht hT_)
  clear hT_ hg_ ht
  have y1 := H.out.e.k1
  have f1 := H.out.e.fz 1
  have y2 := H.out.e.k2
  have f2 := H.out.e.fz 2
  go_upto_region 15 with fail
  obtain ⟨w6, hw⟩ : ∃ q, q = (wm.setCell ⟨g5, 1, none⟩ (.int .i64 a)).setCell ⟨g5, 2, none⟩ (.int .i64 (1 + m)) := ⟨_, rfl⟩
  rw [← hw]
  have ht : Turn g5 wm w6 := by rw [hw]; exact ((Turn.refl _ _).trans (Turn.cell g5 1 (.int .i64 a) _)).trans (Turn.cell g5 2 (.int .i64 (1 + m)) _)
  replace H := Lib.hid (H.out.set ht (by rw [hw]; exact (H.out.e.set1 a).set2 (1 + m)))
  clear hw ht
  clear y1 f1 y2 f2
  apply wp_region_lit
  refine wpl_loadE H.out.e rfl rfl rfl ?_
  refine wpl_storeE (4) (a) (1 + m) (0) (0) (0) (0) none 0 0 H.out.z rfl rfl rfl rfl ?_
  intro wz q1 q2 q3 q4 q5
  have hfin := H.out.fin (Turn.ofStore q2 q3 q4)
  have HOT := Lib.hid (OT.nil wz w.heap.size)
  have HQ1 := Lib.hid q1
  have HFI := Lib.hid hfin
  clear q1 q2 q3 q4 q5 hfin
  simp only [Act.put, List.setIfInBounds_toArray, List.set_cons_succ, List.set_cons_zero]
  iterate 4 go_step
  exact bodyPost_ret (results_ed1 Tryz.results46 rfl HQ1.out ⟨_, _, _, rfl⟩) rfl ⟨⟨⟨4, a, 1 + m, 0, 0, 0, 0, []⟩, none, 0, 0, rfl, TE.rem 4 a (1 + m) (by decide) a0 (by omega) (by omega) (by omega), HOT.out⟩, TQ.of (k' := k + 1 + 1 + 1) (by omega) HFI.out.1 HFI.out.2⟩
 ·clear K0 K1
  have hn1 : (1 : Int) ≤ (n : Int) + 1 := by omega
  go_wp2_with fail
  refine (next_any B p (k + 1) ((n : Int) + 1) _ H.out.t (by omega) (by omega) (by omega)).mono ?_
  rintro e wn ⟨c, rfl, c0, c1, hT_, hg_⟩
  have ht := Turn.grown hg_ H.out.t.2.1
  replace H := Lib.hid (H.out.turn ht hT_)
  clear hT_ hg_ ht
  go_wp2_with fail
  refine (next_any B p (k + 1 + 1) 11 _ H.out.t (by omega) (by omega) (by omega)).mono ?_
  rintro e wm ⟨d, rfl, d0, d1, hT_, hg_⟩
  have ht := Turn.grown hg_ H.out.t.2.1
  replace H := Lib.hid (H.out.turn ht hT_)
  clear hT_ hg_ ht
  obtain ⟨cn, hcn⟩ : ∃ cn : Nat, c = (cn : Int) := ⟨c.toNat, by omega⟩
  subst hcn
  have y3 := H.out.e.k3
  have f3 := H.out.e.fz 3
  have y4 := H.out.e.k4
  have f4 := H.out.e.fz 4
  by_cases hd5 : d = 5
  ·subst hd5
   go_upto_region 15 with fail
   obtain ⟨w6, hw⟩ : ∃ q, q = ((wm.setCell ⟨g5, 3, none⟩ (.int .i64 (cn : Int))).setCell ⟨g5, 4, none⟩ (.int .i64 0)).setCell ⟨g5, 4, none⟩ (.int .i64 6) := ⟨_, rfl⟩
   rw [← hw]
   have ht : Turn g5 wm w6 := by rw [hw]; exact (((Turn.refl _ _).trans (Turn.cell g5 3 (.int .i64 (cn : Int)) _)).trans (Turn.cell g5 4 (.int .i64 0) _)).trans (Turn.cell g5 4 (.int .i64 6) _)
   replace H := Lib.hid (H.out.set ht (by rw [hw]; exact ((H.out.e.set3 (cn : Int)).set4 0).set4 6))
   clear hw ht
   clear y3 f3 y4 f4
   apply wp_region_lit
   refine wpl_loadE H.out.e rfl rfl rfl ?_
   refine wpl_storeE (5) (0) (0) ((cn : Int)) (6) (0) (0) none 0 0 H.out.z rfl rfl rfl rfl ?_
   intro wz q1 q2 q3 q4 q5
   have hfin := H.out.fin (Turn.ofStore q2 q3 q4)
   have HOT := Lib.hid (OT.nil wz w.heap.size)
   have HQ1 := Lib.hid q1
   have HFI := Lib.hid hfin
   clear q1 q2 q3 q4 q5 hfin
   simp only [Act.put, List.setIfInBounds_toArray, List.set_cons_succ, List.set_cons_zero]
   iterate 4 go_step
   exact bodyPost_ret (results_ed1 Tryz.results46 rfl HQ1.out ⟨_, _, _, rfl⟩) rfl ⟨⟨⟨5, 0, 0, (cn : Int), 6, 0, 0, []⟩, none, 0, 0, rfl, TE.clip 5 6 cn (by decide) (by omega) (by decide) (by decide), HOT.out⟩, TQ.of (k' := k + 1 + 1 + 1) (by omega) HFI.out.1 HFI.out.2⟩
  ·have hd6 : (d - 5 == 0) = false := by simp; omega
   go_upto_region 15 with fail
   obtain ⟨w6, hw⟩ : ∃ q, q = (wm.setCell ⟨g5, 3, none⟩ (.int .i64 (cn : Int))).setCell ⟨g5, 4, none⟩ (.int .i64 (d - 5)) := ⟨_, rfl⟩
   rw [← hw]
   have ht : Turn g5 wm w6 := by rw [hw]; exact ((Turn.refl _ _).trans (Turn.cell g5 3 (.int .i64 (cn : Int)) _)).trans (Turn.cell g5 4 (.int .i64 (d - 5)) _)
   replace H := Lib.hid (H.out.set ht (by rw [hw]; exact (H.out.e.set3 (cn : Int)).set4 (d - 5)))
   clear hw ht
   clear y3 f3 y4 f4
   apply wp_region_lit
   refine wpl_loadE H.out.e rfl rfl rfl ?_
   refine wpl_storeE (5) (0) (0) ((cn : Int)) (d - 5) (0) (0) none 0 0 H.out.z rfl rfl rfl rfl ?_
   intro wz q1 q2 q3 q4 q5
   have hfin := H.out.fin (Turn.ofStore q2 q3 q4)
   have HOT := Lib.hid (OT.nil wz w.heap.size)
   have HQ1 := Lib.hid q1
   have HFI := Lib.hid hfin
   clear q1 q2 q3 q4 q5 hfin
   simp only [Act.put, List.setIfInBounds_toArray, List.set_cons_succ, List.set_cons_zero]
   iterate 4 go_step
   exact bodyPost_ret (results_ed1 Tryz.results46 rfl HQ1.out ⟨_, _, _, rfl⟩) rfl ⟨⟨⟨5, 0, 0, (cn : Int), d - 5, 0, 0, []⟩, none, 0, 0, rfl, TE.clip 5 (d - 5) cn (by decide) (by omega) (by omega) (by omega), HOT.out⟩, TQ.of (k' := k + 1 + 1 + 1) (by omega) HFI.out.1 HFI.out.2⟩
 ·clear K0 K1
  have hn1 : (1 : Int) ≤ (n : Int) + 1 := by omega
  go_wp2_with fail
  refine (next_any B p (k + 1) ((n : Int) + 1) _ H.out.t (by omega) (by omega) (by omega)).mono ?_
  rintro e wn ⟨c, rfl, c0, c1, hT_, hg_⟩
  have ht := Turn.grown hg_ H.out.t.2.1
  replace H := Lib.hid (H.out.turn ht hT_)
  clear hT_ hg_ ht
  go_wp2_with fail
  refine (next_any B p (k + 1 + 1) 11 _ H.out.t (by omega) (by omega) (by omega)).mono ?_
  rintro e wm ⟨d, rfl, d0, d1, hT_, hg_⟩
  have ht := Turn.grown hg_ H.out.t.2.1
  replace H := Lib.hid (H.out.turn ht hT_)
  clear hT_ hg_ ht
  obtain ⟨cn, hcn⟩ : ∃ cn : Nat, c = (cn : Int) := ⟨c.toNat, by omega⟩
  subst hcn
  have y3 := H.out.e.k3
  have f3 := H.out.e.fz 3
  have y4 := H.out.e.k4
  have f4 := H.out.e.fz 4
  by_cases hd5 : d = 5
  ·subst hd5
   go_upto_region 15 with fail
   obtain ⟨w6, hw⟩ : ∃ q, q = ((wm.setCell ⟨g5, 3, none⟩ (.int .i64 (cn : Int))).setCell ⟨g5, 4, none⟩ (.int .i64 0)).setCell ⟨g5, 4, none⟩ (.int .i64 6) := ⟨_, rfl⟩
   rw [← hw]
   have ht : Turn g5 wm w6 := by rw [hw]; exact (((Turn.refl _ _).trans (Turn.cell g5 3 (.int .i64 (cn : Int)) _)).trans (Turn.cell g5 4 (.int .i64 0) _)).trans (Turn.cell g5 4 (.int .i64 6) _)
   replace H := Lib.hid (H.out.set ht (by rw [hw]; exact ((H.out.e.set3 (cn : Int)).set4 0).set4 6))
   clear hw ht
   clear y3 f3 y4 f4
   apply wp_region_lit
   refine wpl_loadE H.out.e rfl rfl rfl ?_
   refine wpl_storeE (6) (0) (0) ((cn : Int)) (6) (0) (0) none 0 0 H.out.z rfl rfl rfl rfl ?_
   intro wz q1 q2 q3 q4 q5
   have hfin := H.out.fin (Turn.ofStore q2 q3 q4)
   have HOT := Lib.hid (OT.nil wz w.heap.size)
   have HQ1 := Lib.hid q1
   have HFI := Lib.hid hfin
   clear q1 q2 q3 q4 q5 hfin
   simp only [Act.put, List.setIfInBounds_toArray, List.set_cons_succ, List.set_cons_zero]
   iterate 4 go_step
   exact bodyPost_ret (results_ed1 Tryz.results46 rfl HQ1.out ⟨_, _, _, rfl⟩) rfl ⟨⟨⟨6, 0, 0, (cn : Int), 6, 0, 0, []⟩, none, 0, 0, rfl, TE.clip 6 6 cn (by decide) (by omega) (by decide) (by decide), HOT.out⟩, TQ.of (k' := k + 1 + 1 + 1) (by omega) HFI.out.1 HFI.out.2⟩
  ·have hd6 : (d - 5 == 0) = false := by simp; omega
   go_upto_region 15 with fail
   obtain ⟨w6, hw⟩ : ∃ q, q = (wm.setCell ⟨g5, 3, none⟩ (.int .i64 (cn : Int))).setCell ⟨g5, 4, none⟩ (.int .i64 (d - 5)) := ⟨_, rfl⟩
   rw [← hw]
   have ht : Turn g5 wm w6 := by rw [hw]; exact ((Turn.refl _ _).trans (Turn.cell g5 3 (.int .i64 (cn : Int)) _)).trans (Turn.cell g5 4 (.int .i64 (d - 5)) _)
   replace H := Lib.hid (H.out.set ht (by rw [hw]; exact (H.out.e.set3 (cn : Int)).set4 (d - 5)))
   clear hw ht
   clear y3 f3 y4 f4
   apply wp_region_lit
   refine wpl_loadE H.out.e rfl rfl rfl ?_
   refine wpl_storeE (6) (0) (0) ((cn : Int)) (d - 5) (0) (0) none 0 0 H.out.z rfl rfl rfl rfl ?_
   intro wz q1 q2 q3 q4 q5
   have hfin := H.out.fin (Turn.ofStore q2 q3 q4)
   have HOT := Lib.hid (OT.nil wz w.heap.size)
   have HQ1 := Lib.hid q1
   have HFI := Lib.hid hfin
   clear q1 q2 q3 q4 q5 hfin
   simp only [Act.put, List.setIfInBounds_toArray, List.set_cons_succ, List.set_cons_zero]
   iterate 4 go_step
   exact bodyPost_ret (results_ed1 Tryz.results46 rfl HQ1.out ⟨_, _, _, rfl⟩) rfl ⟨⟨⟨6, 0, 0, (cn : Int), d - 5, 0, 0, []⟩, none, 0, 0, rfl, TE.clip 6 (d - 5) cn (by decide) (by omega) (by omega) (by omega), HOT.out⟩, TQ.of (k' := k + 1 + 1 + 1) (by omega) HFI.out.1 HFI.out.2⟩
 ·clear K0 K1
  have hn1 : (1 : Int) ≤ (n : Int) + 1 := by omega
  go_wp2_with fail
  refine (next_any B p (k + 1) ((n : Int) + 1) _ H.out.t (by omega) (by omega) (by omega)).mono ?_
  rintro e wn ⟨c, rfl, c0, c1, hT_, hg_⟩
  have ht := Turn.grown hg_ H.out.t.2.1
  replace H := Lib.hid (H.out.turn ht hT_)
  clear hT_ hg_ ht
  go_wp2_with fail
  refine (next_any B p (k + 1 + 1) 11 _ H.out.t (by omega) (by omega) (by omega)).mono ?_
  rintro e wm ⟨d, rfl, d0, d1, hT_, hg_⟩
  have ht := Turn.grown hg_ H.out.t.2.1
  replace H := Lib.hid (H.out.turn ht hT_)
  clear hT_ hg_ ht
  obtain ⟨cn, hcn⟩ : ∃ cn : Nat, c = (cn : Int) := ⟨c.toNat, by omega⟩
  subst hcn
  have y3 := H.out.e.k3
  have f3 := H.out.e.fz 3
  have y4 := H.out.e.k4
  have f4 := H.out.e.fz 4
  by_cases hd5 : d = 5
  ·subst hd5
   go_upto_region 15 with fail
   obtain ⟨w6, hw⟩ : ∃ q, q = ((wm.setCell ⟨g5, 3, none⟩ (.int .i64 (cn : Int))).setCell ⟨g5, 4, none⟩ (.int .i64 0)).setCell ⟨g5, 4, none⟩ (.int .i64 6) := ⟨_, rfl⟩
   rw [← hw]
   have ht : Turn g5 wm w6 := by rw [hw]; exact (((Turn.refl _ _).trans (Turn.cell g5 3 (.int .i64 (cn : Int)) _)).trans (Turn.cell g5 4 (.int .i64 0) _)).trans (Turn.cell g5 4 (.int .i64 6) _)
   replace H := Lib.hid (H.out.set ht (by rw [hw]; exact ((H.out.e.set3 (cn : Int)).set4 0).set4 6))
   clear hw ht
   clear y3 f3 y4 f4
   apply wp_region_lit
   refine wpl_loadE H.out.e rfl rfl rfl ?_
   refine wpl_storeE (7) (0) (0) ((cn : Int)) (6) (0) (0) none 0 0 H.out.z rfl rfl rfl rfl ?_
   intro wz q1 q2 q3 q4 q5
   have hfin := H.out.fin (Turn.ofStore q2 q3 q4)
   have HOT := Lib.hid (OT.nil wz w.heap.size)
   have HQ1 := Lib.hid q1
   have HFI := Lib.hid hfin
   clear q1 q2 q3 q4 q5 hfin
   simp only [Act.put, List.setIfInBounds_toArray, List.set_cons_succ, List.set_cons_zero]
   iterate 4 go_step
   exact bodyPost_ret (results_ed1 Tryz.results46 rfl HQ1.out ⟨_, _, _, rfl⟩) rfl ⟨⟨⟨7, 0, 0, (cn : Int), 6, 0, 0, []⟩, none, 0, 0, rfl, TE.clip 7 6 cn (by decide) (by omega) (by decide) (by decide), HOT.out⟩, TQ.of (k' := k + 1 + 1 + 1) (by omega) HFI.out.1 HFI.out.2⟩
  ·have hd6 : (d - 5 == 0) = false := by simp; omega
   go_upto_region 15 with fail
   obtain ⟨w6, hw⟩ : ∃ q, q = (wm.setCell ⟨g5, 3, none⟩ (.int .i64 (cn : Int))).setCell ⟨g5, 4, none⟩ (.int .i64 (d - 5)) := ⟨_, rfl⟩
   rw [← hw]
   have ht : Turn g5 wm w6 := by rw [hw]; exact ((Turn.refl _ _).trans (Turn.cell g5 3 (.int .i64 (cn : Int)) _)).trans (Turn.cell g5 4 (.int .i64 (d - 5)) _)
   replace H := Lib.hid (H.out.set ht (by rw [hw]; exact (H.out.e.set3 (cn : Int)).set4 (d - 5)))
   clear hw ht
   clear y3 f3 y4 f4
   apply wp_region_lit
   refine wpl_loadE H.out.e rfl rfl rfl ?_
   refine wpl_storeE (7) (0) (0) ((cn : Int)) (d - 5) (0) (0) none 0 0 H.out.z rfl rfl rfl rfl ?_
   intro wz q1 q2 q3 q4 q5
   have hfin := H.out.fin (Turn.ofStore q2 q3 q4)
   have HOT := Lib.hid (OT.nil wz w.heap.size)
   have HQ1 := Lib.hid q1
   have HFI := Lib.hid hfin
   clear q1 q2 q3 q4 q5 hfin
   simp only [Act.put, List.setIfInBounds_toArray, List.set_cons_succ, List.set_cons_zero]
   iterate 4 go_step
   exact bodyPost_ret (results_ed1 Tryz.results46 rfl HQ1.out ⟨_, _, _, rfl⟩) rfl ⟨⟨⟨7, 0, 0, (cn : Int), d - 5, 0, 0, []⟩, none, 0, 0, rfl, TE.clip 7 (d - 5) cn (by decide) (by omega) (by omega) (by omega), HOT.out⟩, TQ.of (k' := k + 1 + 1 + 1) (by omega) HFI.out.1 HFI.out.2⟩
 ·clear K0 K1
  have hn1 : (1 : Int) ≤ (n : Int) + 1 := by omega
  go_wp2_with fail
  refine (next_any B p (k + 1) ((n : Int) + 1) _ H.out.t (by omega) (by omega) (by omega)).mono ?_
  rintro e wn ⟨c, rfl, c0, c1, hT_, hg_⟩
  have ht := Turn.grown hg_ H.out.t.2.1
  replace H := Lib.hid (H.out.turn ht hT_)
  clear hT_ hg_ ht
  go_wp2_with fail
  refine (next_any B p (k + 1 + 1) 11 _ H.out.t (by omega) (by omega) (by omega)).mono ?_
  rintro e wm ⟨d, rfl, d0, d1, hT_, hg_⟩
  have ht := Turn.grown hg_ H.out.t.2.1
  replace H := Lib.hid (H.out.turn ht hT_)
  clear hT_ hg_ ht
  obtain ⟨cn, hcn⟩ : ∃ cn : Nat, c = (cn : Int) := ⟨c.toNat, by omega⟩
  subst hcn
  have y3 := H.out.e.k3
  have f3 := H.out.e.fz 3
  have y4 := H.out.e.k4
  have f4 := H.out.e.fz 4
  by_cases hd5 : d = 5
  ·subst hd5
   go_upto_region 15 with fail
   obtain ⟨w6, hw⟩ : ∃ q, q = ((wm.setCell ⟨g5, 3, none⟩ (.int .i64 (cn : Int))).setCell ⟨g5, 4, none⟩ (.int .i64 0)).setCell ⟨g5, 4, none⟩ (.int .i64 6) := ⟨_, rfl⟩
   rw [← hw]
   have ht : Turn g5 wm w6 := by rw [hw]; exact (((Turn.refl _ _).trans (Turn.cell g5 3 (.int .i64 (cn : Int)) _)).trans (Turn.cell g5 4 (.int .i64 0) _)).trans (Turn.cell g5 4 (.int .i64 6) _)
   replace H := Lib.hid (H.out.set ht (by rw [hw]; exact ((H.out.e.set3 (cn : Int)).set4 0).set4 6))
   clear hw ht
   clear y3 f3 y4 f4
   apply wp_region_lit
   refine wpl_loadE H.out.e rfl rfl rfl ?_
   refine wpl_storeE (8) (0) (0) ((cn : Int)) (6) (0) (0) none 0 0 H.out.z rfl rfl rfl rfl ?_
   intro wz q1 q2 q3 q4 q5
   have hfin := H.out.fin (Turn.ofStore q2 q3 q4)
   have HOT := Lib.hid (OT.nil wz w.heap.size)
   have HQ1 := Lib.hid q1
   have HFI := Lib.hid hfin
   clear q1 q2 q3 q4 q5 hfin
   simp only [Act.put, List.setIfInBounds_toArray, List.set_cons_succ, List.set_cons_zero]
   iterate 4 go_step
   exact bodyPost_ret (results_ed1 Tryz.results46 rfl HQ1.out ⟨_, _, _, rfl⟩) rfl ⟨⟨⟨8, 0, 0, (cn : Int), 6, 0, 0, []⟩, none, 0, 0, rfl, TE.clip 8 6 cn (by decide) (by omega) (by decide) (by decide), HOT.out⟩, TQ.of (k' := k + 1 + 1 + 1) (by omega) HFI.out.1 HFI.out.2⟩
  ·have hd6 : (d - 5 == 0) = false := by simp; omega
   go_upto_region 15 with fail
   obtain ⟨w6, hw⟩ : ∃ q, q = (wm.setCell ⟨g5, 3, none⟩ (.int .i64 (cn : Int))).setCell ⟨g5, 4, none⟩ (.int .i64 (d - 5)) := ⟨_, rfl⟩
   rw [← hw]
   have ht : Turn g5 wm w6 := by rw [hw]; exact ((Turn.refl _ _).trans (Turn.cell g5 3 (.int .i64 (cn : Int)) _)).trans (Turn.cell g5 4 (.int .i64 (d - 5)) _)
   replace H := Lib.hid (H.out.set ht (by rw [hw]; exact (H.out.e.set3 (cn : Int)).set4 (d - 5)))
   clear hw ht
   clear y3 f3 y4 f4
   apply wp_region_lit
   refine wpl_loadE H.out.e rfl rfl rfl ?_
   refine wpl_storeE (8) (0) (0) ((cn : Int)) (d - 5) (0) (0) none 0 0 H.out.z rfl rfl rfl rfl ?_
   intro wz q1 q2 q3 q4 q5
   have hfin := H.out.fin (Turn.ofStore q2 q3 q4)
   have HOT := Lib.hid (OT.nil wz w.heap.size)
   have HQ1 := Lib.hid q1
   have HFI := Lib.hid hfin
   clear q1 q2 q3 q4 q5 hfin
   simp only [Act.put, List.setIfInBounds_toArray, List.set_cons_succ, List.set_cons_zero]
   iterate 4 go_step
   exact bodyPost_ret (results_ed1 Tryz.results46 rfl HQ1.out ⟨_, _, _, rfl⟩) rfl ⟨⟨⟨8, 0, 0, (cn : Int), d - 5, 0, 0, []⟩, none, 0, 0, rfl, TE.clip 8 (d - 5) cn (by decide) (by omega) (by omega) (by omega), HOT.out⟩, TQ.of (k' := k + 1 + 1 + 1) (by omega) HFI.out.1 HFI.out.2⟩
 ·clear K0 K1
  have hn1 : (1 : Int) ≤ (n : Int) + 1 := by omega
  go_wp2_with fail
  refine (next_any B p (k + 1) ((n : Int) + 1) _ H.out.t (by omega) (by omega) (by omega)).mono ?_
  rintro e wn ⟨c, rfl, c0, c1, hT_, hg_⟩
  have ht := Turn.grown hg_ H.out.t.2.1
  replace H := Lib.hid (H.out.turn ht hT_)
  clear hT_ hg_ ht
  go_wp2_with fail
  refine (next_any B p (k + 1 + 1) 11 _ H.out.t (by omega) (by omega) (by omega)).mono ?_
  rintro e wm ⟨d, rfl, d0, d1, hT_, hg_⟩
  have ht := Turn.grown hg_ H.out.t.2.1
  replace H := Lib.hid (H.out.turn ht hT_)
  clear hT_ hg_ ht
  obtain ⟨cn, hcn⟩ : ∃ cn : Nat, c = (cn : Int) := ⟨c.toNat, by omega⟩
  subst hcn
  have y3 := H.out.e.k3
  have f3 := H.out.e.fz 3
  have y4 := H.out.e.k4
  have f4 := H.out.e.fz 4
  by_cases hd5 : d = 5
  ·subst hd5
   go_upto_region 15 with fail
   obtain ⟨w6, hw⟩ : ∃ q, q = ((wm.setCell ⟨g5, 3, none⟩ (.int .i64 (cn : Int))).setCell ⟨g5, 4, none⟩ (.int .i64 0)).setCell ⟨g5, 4, none⟩ (.int .i64 6) := ⟨_, rfl⟩
   rw [← hw]
   have ht : Turn g5 wm w6 := by rw [hw]; exact (((Turn.refl _ _).trans (Turn.cell g5 3 (.int .i64 (cn : Int)) _)).trans (Turn.cell g5 4 (.int .i64 0) _)).trans (Turn.cell g5 4 (.int .i64 6) _)
   replace H := Lib.hid (H.out.set ht (by rw [hw]; exact ((H.out.e.set3 (cn : Int)).set4 0).set4 6))
   clear hw ht
   clear y3 f3 y4 f4
   apply wp_region_lit
   refine wpl_loadE H.out.e rfl rfl rfl ?_
   refine wpl_storeE (9) (0) (0) ((cn : Int)) (6) (0) (0) none 0 0 H.out.z rfl rfl rfl rfl ?_
   intro wz q1 q2 q3 q4 q5
   have hfin := H.out.fin (Turn.ofStore q2 q3 q4)
   have HOT := Lib.hid (OT.nil wz w.heap.size)
   have HQ1 := Lib.hid q1
   have HFI := Lib.hid hfin
   clear q1 q2 q3 q4 q5 hfin
   simp only [Act.put, List.setIfInBounds_toArray, List.set_cons_succ, List.set_cons_zero]
   iterate 4 go_step
   exact bodyPost_ret (results_ed1 Tryz.results46 rfl HQ1.out ⟨_, _, _, rfl⟩) rfl ⟨⟨⟨9, 0, 0, (cn : Int), 6, 0, 0, []⟩, none, 0, 0, rfl, TE.clip 9 6 cn (by decide) (by omega) (by decide) (by decide), HOT.out⟩, TQ.of (k' := k + 1 + 1 + 1) (by omega) HFI.out.1 HFI.out.2⟩
  ·have hd6 : (d - 5 == 0) = false := by simp; omega
   go_upto_region 15 with fail
   obtain ⟨w6, hw⟩ : ∃ q, q = (wm.setCell ⟨g5, 3, none⟩ (.int .i64 (cn : Int))).setCell ⟨g5, 4, none⟩ (.int .i64 (d - 5)) := ⟨_, rfl⟩
   rw [← hw]
   have ht : Turn g5 wm w6 := by rw [hw]; exact ((Turn.refl _ _).trans (Turn.cell g5 3 (.int .i64 (cn : Int)) _)).trans (Turn.cell g5 4 (.int .i64 (d - 5)) _)
   replace H := Lib.hid (H.out.set ht (by rw [hw]; exact (H.out.e.set3 (cn : Int)).set4 (d - 5)))
   clear hw ht
   clear y3 f3 y4 f4
   apply wp_region_lit
   refine wpl_loadE H.out.e rfl rfl rfl ?_
   refine wpl_storeE (9) (0) (0) ((cn : Int)) (d - 5) (0) (0) none 0 0 H.out.z rfl rfl rfl rfl ?_
   intro wz q1 q2 q3 q4 q5
   have hfin := H.out.fin (Turn.ofStore q2 q3 q4)
   have HOT := Lib.hid (OT.nil wz w.heap.size)
   have HQ1 := Lib.hid q1
   have HFI := Lib.hid hfin
   clear q1 q2 q3 q4 q5 hfin
   simp only [Act.put, List.setIfInBounds_toArray, List.set_cons_succ, List.set_cons_zero]
   iterate 4 go_step
   exact bodyPost_ret (results_ed1 Tryz.results46 rfl HQ1.out ⟨_, _, _, rfl⟩) rfl ⟨⟨⟨9, 0, 0, (cn : Int), d - 5, 0, 0, []⟩, none, 0, 0, rfl, TE.clip 9 (d - 5) cn (by decide) (by omega) (by omega) (by omega), HOT.out⟩, TQ.of (k' := k + 1 + 1 + 1) (by omega) HFI.out.1 HFI.out.2⟩
 ·clear K0 K1
  have hn1 : (1 : Int) ≤ (n : Int) + 1 := by omega
  go_wp2_with fail
  refine (next_any B p (k + 1) ((n : Int) + 1) _ H.out.t (by omega) (by omega) (by omega)).mono ?_
  rintro e wn ⟨c, rfl, c0, c1, hT_, hg_⟩
  have ht := Turn.grown hg_ H.out.t.2.1
  replace H := Lib.hid (H.out.turn ht hT_)
  clear hT_ hg_ ht
  go_wp2_with fail
  refine (speed_any B p (k + 1 + 1) _ H.out.t (by omega)).mono ?_
  rintro e wm ⟨⟨sn, sd, rfl, hsp⟩, ⟨k3, hk3, hT_⟩, ht⟩
  replace H := Lib.hid (H.out.turn ht hT_)
  have HSP := Lib.hid hsp
  have HK3 := Lib.hid hk3
  clear hsp hT_ ht hk3
  obtain ⟨cn, hcn⟩ : ∃ cn : Nat, c = (cn : Int) := ⟨c.toNat, by omega⟩
  subst hcn
  have y3 := H.out.e.k3
  have f3 := H.out.e.fz 3
  have y5 := H.out.e.k5
  have f5 := H.out.e.fz 5
  have y6 := H.out.e.k6
  have f6 := H.out.e.fz 6
  go_upto_region 15 with fail
  obtain ⟨w6, hw⟩ : ∃ q, q = ((wm.setCell ⟨g5, 3, none⟩ (.int .i64 (cn : Int))).setCell ⟨g5, 5, none⟩ (.int .i64 sn)).setCell ⟨g5, 6, none⟩ (.int .i64 sd) := ⟨_, rfl⟩
  rw [← hw]
  have ht : Turn g5 wm w6 := by rw [hw]; exact (((Turn.refl _ _).trans (Turn.cell g5 3 (.int .i64 (cn : Int)) _)).trans (Turn.cell g5 5 (.int .i64 sn) _)).trans (Turn.cell g5 6 (.int .i64 sd) _)
  replace H := Lib.hid (H.out.set ht (by rw [hw]; exact (H.out.e.set3 (cn : Int)).set56 sn sd))
  clear hw ht
  clear y3 f3 y5 f5 y6 f6
  apply wp_region_lit
  refine wpl_loadE H.out.e rfl rfl rfl ?_
  refine wpl_storeE (10) (0) (0) ((cn : Int)) (0) (sn) (sd) none 0 0 H.out.z rfl rfl rfl rfl ?_
  intro wz q1 q2 q3 q4 q5
  have hfin := H.out.fin (Turn.ofStore q2 q3 q4)
  have HOT := Lib.hid (OT.nil wz w.heap.size)
  have HQ1 := Lib.hid q1
  have HFI := Lib.hid hfin
  clear q1 q2 q3 q4 q5 hfin
  simp only [Act.put, List.setIfInBounds_toArray, List.set_cons_succ, List.set_cons_zero]
  iterate 4 go_step
  exact bodyPost_ret (results_ed1 Tryz.results46 rfl HQ1.out ⟨_, _, _, rfl⟩) rfl ⟨⟨⟨10, 0, 0, (cn : Int), 0, sn, sd, []⟩, none, 0, 0, rfl, TE.speed sn sd cn (by omega) HSP.out, HOT.out⟩, TQ.of (k' := k3) (by have := HK3.out; omega) HFI.out.1 HFI.out.2⟩
structure Out where
 code : Int
 u : List Trk.Clip
 b : Trk.Ed
def zeroEd : Trk.Ed := ⟨0, 0, 0, 0, 0, 0, 0, []⟩
def outOf (n : List Trk.Clip) (e : Trk.Ed) : Out :=
 if e.k ≤ 4 then ⟨0, Trk.nf (e.exl n), Trk.backOf n e.p (e.p + e.T) (Trk.undoK e.k)⟩ else
 if Trk.adjCode n e.k e.c.toNat e.d e.sn e.sd = 0 then
  ⟨0, Trk.nf (Trk.adjL n e.k e.c.toNat e.d e.sn e.sd), Trk.backOf n (Trk.fromL n e.k e.c.toNat e.d) (Trk.toL n e.k e.c.toNat e.d) (Trk.undK e.k e.d)⟩
 else ⟨Trk.adjCode n e.k e.c.toNat e.d e.sn e.sd, [], zeroEd⟩
def OutPost (w : World) (o : Out) (e : Ending) (w' : World) : Prop :=
 ∃ v' ra rl rc, e = .returned (.tuple #[v', EdV o.b (.slice ra rl rc), .int .i64 o.code]) ∧ OT w' w.heap.size v' o.u ∧ OT w' w.heap.size (.slice ra rl rc) o.b.ins ∧ Below w.heap.size w w'
theorem out_of_ed {w : World} {n l : List Trk.Clip} {a b uk : Int} {e : Ending} {w' : World} (h : EdPost w n l a b uk e w') : OutPost w ⟨0, l, Trk.backOf n a b uk⟩ e w' := by
 obtain ⟨v', vr, rfl, hou, hor, hb⟩ := h
 obtain ⟨ra, rc, rfl, -⟩ := hor.tk
 exact ⟨_, _, _, _, rfl, hou, hor, hb⟩
theorem out_of_no {w w' : World} {n : List Trk.Clip} {k : Int} {c : Nat} {d sn sd : Int} (hb : Below w.heap.size w w') :
  OutPost w ⟨Trk.adjCode n k c d sn sd, [], zeroEd⟩ (.returned (.tuple #[.slice none 0 0, edV 0 0 0 0 0 0 0 (.slice none 0 0), .int .i64 (if True then Trk.adjCode n k c d sn sd else 1)])) w' := by
 rw [if_pos trivial]
 exact ⟨_, _, _, _, rfl, OT.nil _ _, OT.nil _ _, hb⟩
end Go.Proofs.YtfoohocgdcgbcaaGreat
namespace Go.Trk
theorem total_set {l : List Clip} {i : Nat} {x y : Clip} (h : l[i]? = some x) : total (l.set i y) = total l - x.len + y.len := by
 induction l generalizing i with
 | nil => simp at h
 | cons c l ih =>
  cases i with
  | zero =>
   simp only [List.getElem?_cons_zero, Option.some.injEq] at h
   subst h
   rw [List.set_cons_zero, total_cons, total_cons]
   omega
  | succ i =>
   rw [List.getElem?_cons_succ] at h
   rw [List.set_cons_succ, total_cons, total_cons, ih h]
   omega
theorem total_upd_le (l : List Clip) (i : Nat) {f : Clip → Clip} {D : Int} (hf : ∀ x, (f x).len ≤ x.len + D) (hD : 0 ≤ D) : total (upd l i f) ≤ total l + D := by
 unfold upd
 cases h : l[i]? with
 | none => dsimp only; omega
 | some x =>
  dsimp only
  rw [total_set h]
  have := hf x
  omega
theorem adj_total (n : List Clip) (k : Int) (c : Nat) (d sn sd : Int) {D : Int} (h0 : -D ≤ d) (h1 : d ≤ D) : total (adjL n k c d sn sd) ≤ total n + D + D := by
 have hD : 0 ≤ D := by omega
 have a : ∀ l i, total (upd l i (lenBy d)) ≤ total l + D := fun l i => total_upd_le l i (fun x => by show x.len + d ≤ _; omega) hD
 have b : ∀ l i, total (upd l i (later d)) ≤ total l + D := fun l i => total_upd_le l i (fun x => by show x.len - d ≤ _; omega) hD
 unfold adjL
 split
 ·have := a n c; omega
 split
 ·have := b n c; omega
 split
 ·have h1 := a n c; have h2 := b (upd n c (lenBy d)) (c + 1); omega
 split
 ·have := total_upd_le n c (f := slipBy d) (D := 0) (fun x => by show x.len ≤ _; omega) (Int.le_refl _); omega
 split
 ·have h1 := a n (c - 1); have h2 := b (upd n (c - 1) (lenBy d)) (c + 1); omega
 ·have := total_upd_le n c (f := speedy sn sd) (D := 0) (fun x => by show x.len ≤ _; omega) (Int.le_refl _); omega
end Go.Trk
namespace Go.Proofs.YtfoohocgdcgbcaaGreat
open Go.RowKit
def Lk (i : Nat) : Int := 1000000 + 12000000 * (i : Int)
structure Mk (i : Nat) (t : List Trk.Clip) : Prop where
 v : Trk.VL (Lk i) t
 n : Trk.Norm t
 l : t.length ≤ 13 + 10 * i
 tt : Trk.total t ≤ 117 + 130 * (i : Int)
theorem Lk_mono {i j : Nat} (h : i ≤ j) : Lk i ≤ Lk j := by unfold Lk; omega
theorem Lk_ge (i : Nat) : 1000000 ≤ Lk i := by unfold Lk; omega
theorem Mk.mono {i j : Nat} {t : List Trk.Clip} (h : Mk i t) (hij : i ≤ j) : Mk j t := ⟨h.v.mono (Lk_mono hij), h.n, by have := h.l; omega, by have := h.tt; omega⟩
theorem Mk.vt {i : Nat} {t : List Trk.Clip} (h : Mk i t) (hi : i ≤ 4) : VT (Lk i) t := ⟨h.v, by have := h.l; omega, by have := h.tt; omega⟩
theorem VT.mono {L M : Int} {l : List Trk.Clip} (h : VT L l) (hl : L ≤ M) : VT M l := ⟨h.v.mono hl, h.n, h.t⟩
theorem ExV.mono {L M : Int} {e : Trk.Ed} (h : ExV L e) (hl : L ≤ M) : ExV M e := ⟨h.x, h.v.mono hl, h.m, h.p, h.t, h.c, h.d, h.sn, h.sd⟩
theorem te_exM {n : Nat} {e : Trk.Ed} (he : TE n e) (hk : e.k ≤ 4) : ExV 1000000 e ∧ e.put.length ≤ 7 ∧ e.T ≤ 63 ∧ e.p ≤ 60 := by
 cases he with
 | ins k a cl hk' a0 a1 hc =>
  obtain ⟨hE, eT, eP⟩ := insert_v hc (by decide) k a hk' a0 (by omega)
  refine ⟨hE, by rw [eP]; exact hc.n, by rw [eT]; have := hc.t2; omega, by show a ≤ 60; omega⟩
 | rem k a m hk' a0 a1 m0 m1 =>
  rcases hk' with rfl | rfl
  ·exact ⟨extract_v a m a0 (by omega) m0 (by omega), by show 0 ≤ 7; decide, by show m ≤ 63; omega, by show a ≤ 60; omega⟩
  ·exact ⟨lift_v a m a0 (by omega) m0 (by omega), by show 1 ≤ 7; decide, by show m ≤ 63; omega, by show a ≤ 60; omega⟩
 | clip k d c hk' hc d0 d1 => exact absurd hk (by show ¬ k ≤ 4; omega)
 | speed sn sd c hc hs => exact absurd hk (by show ¬ (10 : Int) ≤ 4; decide)
theorem heeM {i : Nat} {t : List Trk.Clip} (h : Mk i t) (hi : i ≤ 4) {e : Trk.Ed} (hT : e.T ≤ 63) (hp : e.p ≤ 60) : (if e.k = 1 then max e.p (Trk.total t) else e.p) + e.T ≤ 2147483647 := by
 have := h.tt
 split <;> omega
theorem ex_mk {i n : Nat} {t : List Trk.Clip} (h : Mk i t) (hi : i ≤ 3) {e : Trk.Ed} (he : TE n e) (hk : e.k ≤ 4) : Mk (i + 1) (Trk.nf (e.exl t)) := by
 obtain ⟨hE, hpl, hT, hp⟩ := te_exM he hk
 have hE' := hE.mono (Lk_ge i)
 have hx := hE.x
 have o := hx.of h.v.good
 have q := exl_vl (h.vt (by omega)) hE' (heeM h (by omega) hT hp)
 have ln : (e.exl t).length ≤ t.length + 2 + e.put.length := Trk.exL_length h.v.good hx.p hx.rem_nonneg
 have hln := Nat.le_trans (Trk.nf_length q.1.good) ln
 have hr := hx.rem_nonneg
 have hput := hx.put_total
 have h1 := h.l
 have h2 := h.tt
 refine ⟨(Trk.nf_vl q.1 q.2.1).mono (Lk_mono (by omega)), Trk.nf_norm q.1.good, by omega, ?_⟩
 refine Int.le_trans (Trk.nf_total q.1.good) ?_
 rw [o.t]
 omega
theorem adj_mk {i : Nat} {t : List Trk.Clip} (h : Mk i t) (hi : i ≤ 3) {k : Int} {c : Nat} {d sn sd : Int} (hd : -6 ≤ d ∧ d ≤ 6) (hs : k = 10 → Trk.SpeedOK sn sd) (hk2 : 5 ≤ k ∧ k ≤ 10) (h0 : Trk.adjCode t k c d sn sd = 0) : Mk (i + 1) (Trk.nf (Trk.adjL t k c d sn sd)) := by
 unfold Trk.adjCode at h0
 split at h0
 ·cases h0
 split at h0
 ·cases h0
 rename_i hb
 split at h0
 ·cases h0
 rename_i hx
 have h1 := h.l
 have h2 := h.tt
 have ht := Trk.adj_total t k c d sn sd (D := 6) hd.1 hd.2
 have hx2 : ∀ x ∈ Trk.adjL t k c d sn sd, Trk.okLen x := Classical.not_not.1 fun h => hx (.inr h)
 have hlen : ∀ x ∈ t, -507 ≤ x.len ∧ x.len ≤ 507 := fun x hx => by
  have h3 := Trk.len_le_total h.v.good hx
  have h4 := (h.v x hx).l.1
  omega
 have hcl := Trk.adj_cls (L := Lk i) (D := 6) (M := 507) (n := t) (k := k) (d := d) (sn := sn) (sd := sd) (c := c) (fun y hy => (h.v y hy).c) hd.1 hd.2 hlen (by decide) (by
   by_cases h10 : k = 10
   ·exact .inr (.inr (.inr (.inr (.inr ⟨hs h10, fun h => hb ⟨h10, h⟩⟩))))
   ·omega)
 have hvl : Trk.VL (Lk (i + 1)) (Trk.adjL t k c d sn sd) := fun x hx => ⟨(hcl x hx).mono (by unfold Lk; omega), hx2 x hx⟩
 have hl : (Trk.adjL t k c d sn sd).length = t.length := Trk.adjL_length _ _ _ _ _ _
 have hln := Nat.le_trans (Trk.nf_length hvl.good) (Nat.le_of_eq hl)
 exact ⟨Trk.nf_vl hvl (by omega), Trk.nf_norm hvl.good, by omega, by have := Trk.nf_total hvl.good; omega⟩
theorem out_mk {i n : Nat} {t : List Trk.Clip} (h : Mk i t) (hi : i ≤ 3) {e : Trk.Ed} (he : TE n e) (h0 : (outOf t e).code = 0) : Mk (i + 1) (outOf t e).u := by
 unfold outOf at h0 ⊢
 by_cases hk : e.k ≤ 4
 ·rw [if_pos hk]
  exact ex_mk h hi he hk
 ·rw [if_neg hk] at h0 ⊢
  by_cases hc : Trk.adjCode t e.k e.c.toNat e.d e.sn e.sd = 0
  ·rw [if_pos hc]
   cases he with
   | ins k a cl hk' a0 a1 hc => exact absurd (show k ≤ 4 by omega) hk
   | rem k a m hk' a0 a1 m0 m1 => exact absurd (show k ≤ 4 by omega) hk
   | clip k d c hk' hc' d0 d1 => exact adj_mk h hi (show -6 ≤ d ∧ d ≤ 6 by omega) (fun h => absurd (show k = 10 from h) (by omega)) (show 5 ≤ k ∧ k ≤ 10 by omega) hc
   | speed sn sd c hc' hs => exact adj_mk h hi (show -6 ≤ (0 : Int) ∧ (0 : Int) ≤ 6 by decide) (fun _ => hs) (show (5 : Int) ≤ 10 ∧ (10 : Int) ≤ 10 by decide) hc
  ·rw [if_neg hc] at h0
   exact absurd h0 hc
theorem apply_outM (v V : Value) (t : List Trk.Clip) (e : Trk.Ed) (i n : Nat) (w : World) (h : Tk w v t) (hu : Tk w V e.ins) (hM : Mk i t) (hi : i ≤ 3) (he : TE n e) (hn : n ≤ 1000) :
  Calls Tryz.prog 45 #[v, EdV e V] w (OutPost w (outOf t e)) := by
 have hl := hM.l
 have hnf := hM.n.nf
 have hL : Lk i ≤ 1000000000 := by unfold Lk; omega
 by_cases hk : e.k ≤ 4
 ·obtain ⟨hE, hpl, hT, hp⟩ := te_exM he hk
  have hx := ex_mk hM hi he hk
  have h1 := apply_x (L := Lk i) v V t e w h hu (hM.vt (by omega)) (hE.mono (Lk_ge i)) (by omega) (by rw [hnf]; omega) (by rw [hnf]; exact heeM hM (by omega) hT hp) (by rw [hnf]; have := hx.l; omega)
  rw [hnf] at h1
  refine h1.mono fun ev w' hp => ?_
  unfold outOf
  rw [if_pos hk]
  exact out_of_ed hp
 ·cases he with
  | ins k a cl hk' a0 a1 hc => exact absurd (show k ≤ 4 by omega) hk
  | rem k a m hk' a0 a1 m0 m1 => exact absurd (show k ≤ 4 by omega) hk
  | clip k d c hk' hc d0 d1 =>
   obtain ⟨ao, cap, rfl, _, hcap, -⟩ := hu
   have h1 := apply_c (L := Lk i) v t k c d cap ao w h (hM.vt (by omega)) hL (by rw [hnf]; omega) hk' (by omega) hcap (by omega)
   rw [hnf, decide_eq_true (show d ≠ 0 ∧ -2147483647 ≤ d ∧ d ≤ 2147483647 by omega)] at h1
   refine h1.mono fun ev w' hp => ?_
   unfold outOf
   rw [if_neg hk]
   simp only [Int.toNat_natCast]
   rcases hp with ⟨-, h0, hp⟩ | ⟨ho, rfl, hb⟩
   ·rw [if_pos h0]
    exact out_of_ed hp
   ·have hne : Trk.adjCode t k c d 0 0 ≠ 0 := ho.resolve_left (by decide)
    rw [if_neg hne]
    exact out_of_no hb
  | speed sn sd c hc hs =>
   obtain ⟨ao, cap, rfl, _, hcap, -⟩ := hu
   have h1 := apply_r (L := Lk i) v t c sn sd cap ao w h (hM.vt (by omega)) hL (by rw [hnf]; omega) (by omega) hcap hs
   rw [hnf] at h1
   refine h1.mono fun ev w' hp => ?_
   unfold outOf
   rw [if_neg hk]
   simp only [Int.toNat_natCast]
   rcases hp with ⟨-, h0, hp⟩ | ⟨ho, rfl, hb⟩
   ·rw [if_pos h0]
    exact out_of_ed hp
   ·have hne : Trk.adjCode t 10 c 0 sn sd ≠ 0 := ho.resolve_left (by decide)
    rw [if_neg hne]
    exact out_of_no hb
theorem mk_of {l : List Trk.Clip} {c : Trk.Clip} (h : ShortL l) (hl : l.length ≤ 12) (hc : Short c) : Mk 0 (Trk.nf (l ++ [c])) := by
 have hs := h.snoc hc
 have hv : Trk.VL 1000000 (l ++ [c]) := fun x hx => (hs x hx).1
 have ht := short_total hs
 have hlen : (l ++ [c]).length ≤ 13 := by simp; omega
 have htt : Trk.total (l ++ [c]) ≤ 117 := by omega
 exact ⟨Trk.nf_vl hv (by omega), Trk.nf_norm hv.good, Nat.le_trans (Trk.nf_length hv.good) hlen, Int.le_trans (Trk.nf_total hv.good) htt⟩
def ThreePost (w : World) (e : Ending) (w' : World) : Prop := ∃ v a b l m n, e = .returned (.tuple #[v, a, b]) ∧ OT w' w.heap.size v l ∧ OT w' w.heap.size a m ∧ OT w' w.heap.size b n ∧ Mk 3 l ∧ Mk 3 m ∧ Mk 3 n ∧ Below w.heap.size w w'
set_option maxRecDepth 100000 in
set_option maxHeartbeats 16000000 in
theorem three_any (v : Value) (w : World) (h : Ints w v) : Calls Tryz.prog 15 #[v] w (ThreePost w) := by
 obtain ⟨ao, n, cp, rfl, hnc, hn, hI⟩ := h
 have HI := Lib.hid hI
 clear hI
 go_enter Tryz.func15, Tryz.ntmps15
 go_upto_region 2 with fail
 obtain ⟨w1, hw1⟩ : ∃ y, y = w.alloc (.cells #[.slice ao n cp, .int .i64 0] 52) := ⟨_, rfl⟩
 rw [← hw1]
 obtain ⟨p, hp⟩ : ∃ y, y = w.heap.size := ⟨_, rfl⟩
 have HB := Lib.hid (show Below w.heap.size w w1 by rw [hw1]; exact below_box _ _)
 have HT := Lib.hid (show TP w1 w.heap.size p 0 by
  refine ⟨by omega, by rw [hw1, hp]; simp [go_sem], ao, n, cp, by rw [hw1, hp]; simp [go_sem], by rw [hw1, hp]; simp [go_sem], by rw [hw1, hp]; simp [go_sem], hnc, hn, fun i hi => ?_⟩
  obtain ⟨b, o, x, e, hc⟩ := HI.out i hi
  exact ⟨b, o, x, e, block_lt_of_cell hc, (HB.out.cell (block_lt_of_cell hc)).trans hc⟩)
 have HP := Lib.hid hp
 have HP1 := Lib.hid HT.out.2.1
 have HLW := Lib.hid (show w.heap.size ≤ w1.heap.size from HB.out.size)
 rw [← hp]
 clear hw1 hp
 go_wp2_with fail
 refine (track_any w.heap.size p 0 5 w1 HT.out (by omega) (by omega)).mono ?_
 rintro e w2 ⟨⟨vt, l, rfl, ho, hs, hl⟩, ⟨k2, hk2, hT_⟩, ht⟩
 have HO := Lib.hid ho
 have HS := Lib.hid hs
 replace HB := Lib.hid (ht.b _ _ (by have := HP.out; omega) HB.out)
 have HS1 := Lib.hid (show w1.heap.size ≤ w2.heap.size from ht.s)
 replace HT := Lib.hid hT_
 clear ho hs hT_ ht
 go_wp2_with fail
 refine (clip_any w.heap.size p k2 _ HT.out (by omega)).mono ?_
 rintro e w4 ⟨⟨z, rfl, hz⟩, ⟨k4, hk4, hT_⟩, ht⟩
 replace HO := Lib.hid (HO.out.turn ht HP1.out)
 replace HS1 := Lib.hid (Nat.le_trans HS1.out ht.s)
 replace HB := Lib.hid (ht.b _ _ (by have := HP.out; omega) HB.out)
 replace HT := Lib.hid hT_
 have HZ := Lib.hid hz
 clear hT_ ht hz
 unfold clipV
 obtain ⟨C, hC⟩ : ∃ C, C = (clipC z).toArray := ⟨_, rfl⟩
 rw [← hC]
 have HCC := Lib.hid hC
 clear hC
 dsimp only
 iterate 1 go_step
 refine Great.wpList_buildSliceTo rfl 23 48 1 #[(0, .tmp 22)] rfl w4.heap.size rfl _ rfl Tryz.underlying23 C ?_ ?_
 ·simp only [List.map_toArray, List.map_cons, List.map_nil, List.toList_toArray]
  rw [HCC.out]
  exact built_clip z
 have hbx : CA (w4.alloc (.cells C 48)) w4.heap.size 0 z := by rw [HCC.out]; exact CA.box w4 z 48
 have hb : Below w4.heap.size w4 (w4.alloc (.cells C 48)) := below_box _ _
 have hsz : w1.heap.size ≤ (w4.alloc (.cells C 48)).heap.size := Nat.le_trans HS1.out hb.size
 replace HO := Lib.hid (HO.out.below hb)
 have HBX := Lib.hid hb
 clear hb
 simp only [Act.put, List.setIfInBounds_toArray, List.set_cons_succ, List.set_cons_zero]
 refine wpList_appT 23 Tryz.underlying23 _ rfl (.tmp 20) (.tmp 23) rfl rfl w1.heap.size vt l rfl HO.out hsz w4.heap.size 1 z rfl hbx (by omega) ?_
 intro vn w5 q1 q2 q3 q4
 simp only [Act.put, List.setIfInBounds_toArray, List.set_cons_succ, List.set_cons_zero]
 have hbl : Below w1.heap.size w4 w5 := (HBX.out.mono HS1.out).trans q2
 have HTK := Lib.hid q1.tk
 replace HT := Lib.hid (HT.out.low (n := w1.heap.size) (by have := HP1.out; have := HP.out; omega) HP1.out hbl)
 replace HB := Lib.hid (HB.out.trans (hbl.mono (by have := HP1.out; have := HP.out; omega)))
 have hsl := HS.out.snoc HZ.out.short
 have hv : Trk.VL 1000000 (l ++ [z]) := fun x hx => (hsl x hx).1
 have htl := short_total hsl
 have hll : (l ++ [z]).length ≤ 13 := by simp; omega
 have HNO := Lib.hid (fun w (h : Tk w vn (l ++ [z])) => normal_any (L := 1000000) vn (l ++ [z]) w h ⟨hv, by omega, by omega⟩ (by decide))
 have HMA := Lib.hid (mk_of HS.out (by omega) HZ.out.short)
 have HS5 := Lib.hid (show w1.heap.size ≤ w5.heap.size from Nat.le_trans HS1.out (Nat.le_trans HBX.out.size q4))
 clear q1 q2 q3 q4 hbl hbx hsz hsl hv htl hll
 go_wp2_with fail
 refine (HNO.out _ HTK.out).mono ?_
 rintro e w6 ⟨vm, rfl, ho, hb⟩
 obtain ⟨t, ht⟩ : ∃ t, t = Trk.nf (l ++ [z]) := ⟨_, rfl⟩
 rw [← ht] at ho HMA
 clear ht
 have HO2 := Lib.hid (ho.lower HS5.out)
 replace HT := Lib.hid (HT.out.low (n := w5.heap.size) (Nat.le_of_lt (Nat.lt_of_le_of_lt HT.out.1 HT.out.2.1)) HT.out.2.1 hb)
 replace HB := Lib.hid (HB.out.trans (hb.mono HB.out.size))
 replace HS1 := Lib.hid (show w1.heap.size ≤ w6.heap.size from Nat.le_trans HS5.out hb.size)
 clear ho hb HNO HTK HO HS HZ HCC HBX HS5 HI
 go_wp2_with fail
 refine (next_any w.heap.size p k4 3 _ HT.out (by omega) (by omega) (by omega)).mono ?_
 rintro e w7 ⟨r, rfl, r0, r1, hT_, hg_⟩
 have ht := Turn.grown hg_ HT.out.2.1
 replace HO2 := Lib.hid (HO2.out.turn ht HP1.out)
 replace HS1 := Lib.hid (Nat.le_trans HS1.out ht.s)
 replace HB := Lib.hid (ht.b _ _ (by have := HP.out; omega) HB.out)
 replace HT := Lib.hid hT_
 clear hT_ hg_ ht
 obtain ⟨K, hK⟩ : ∃ K, K = k4 + 1 := ⟨_, rfl⟩
 rw [← hK] at HT
 have hK2 : K ≤ 200 := by omega
 clear hK hk4 hk2 hl
 go_upto_region 4 with fail
 go_loopw [7, 8, 9] (fun v7 v8 v9 wr => ∃ (i : Int) (k : Nat) (a b : List Trk.Clip), v9 = .int .i64 i ∧ -1 ≤ i ∧ i ≤ 2 ∧ (k : Int) ≤ 200 + 500 * (2 - i) ∧ OT wr w1.heap.size vm t ∧ OT wr w1.heap.size v7 a ∧ OT wr w1.heap.size v8 b ∧ Mk (2 - i).toNat a ∧ Mk (2 - i).toNat b ∧ TP wr w.heap.size p k ∧ Below w.heap.size w wr ∧ w1.heap.size ≤ wr.heap.size) (fun _ _ i _ => (intOf i + 1).toNat)
 case atStart => exact ⟨r, K, t, t, rfl, by omega, by omega, by omega, HO2.out, HO2.out, HO2.out, HMA.out.mono (Nat.zero_le _), HMA.out.mono (Nat.zero_le _), HT.out, HB.out, HS1.out⟩
 case round =>
  clear HO2 HT HB HS1 hK2 r0 r1 K
  obtain ⟨i, k, a, b, rfl, i0, i1, hk, hot, hoa, hob, hma, hmb, htp, hb, hs⟩ := hrel
  have HO := Lib.hid hot
  have HOA := Lib.hid hoa
  have HOB := Lib.hid hob
  have HA := Lib.hid hma
  have HBB := Lib.hid hmb
  have HT := Lib.hid htp
  have HB := Lib.hid hb
  have HS1 := Lib.hid hs
  clear hot hoa hob hma hmb htp hb hs
  by_cases hi : 0 ≤ i
  ·obtain ⟨j, hj⟩ : ∃ j, j = (2 - i).toNat := ⟨_, rfl⟩
   rw [← hj] at HA HBB
   have hj2 : (j : Int) = 2 - i := by omega
   clear hj
   obtain ⟨x, c, rfl, hxc⟩ := HOA.out.tk
   clear hxc
   obtain ⟨N, hN⟩ : ∃ N, N = a.length := ⟨_, rfl⟩
   have hN2 : N ≤ 33 := by rw [hN]; have := HA.out.l; omega
   rw [← hN] at HOA ⊢
   clear hN
   have HTE0 := Lib.hid (tedit_any w.heap.size p k N wr HT.out (by omega) (by omega))
   go_upto_region 7 with fail
   apply wp_region_lit
   iterate 14 go_step
   refine HTE0.out.mono ?_
   rintro e w2 ⟨⟨ed, ao2, l2, cp2, rfl, hte, hcl⟩, ⟨k2, hk2, hT_⟩, ht⟩
   replace HO := Lib.hid (HO.out.turn ht HP1.out)
   replace HOA := Lib.hid (HOA.out.turn ht HP1.out)
   replace HOB := Lib.hid (HOB.out.turn ht HP1.out)
   replace HS1 := Lib.hid (Nat.le_trans HS1.out ht.s)
   replace HB := Lib.hid (ht.b _ _ (by have := HP.out; omega) HB.out)
   replace HT := Lib.hid hT_
   have HTE := Lib.hid hte
   have HCL := Lib.hid hcl
   clear hte hcl hT_ ht HTE0
   have HAP := Lib.hid (fun w (h : Tk w (.slice x N c) a) (hu : Tk w (.slice ao2 l2 cp2) ed.ins) => apply_outM (.slice x N c) (.slice ao2 l2 cp2) a ed j N w h hu HA.out (by omega) HTE.out (by omega))
   have HOK := Lib.hid (out_mk HA.out (by omega) HTE.out)
   obtain ⟨O, hO⟩ : ∃ O, O = outOf a ed := ⟨_, rfl⟩
   rw [← hO] at HAP HOK
   clear hO HTE
   unfold EdV edV
   try dsimp only
   iterate 3 go_step
   refine (HAP.out _ HOA.out.tk HCL.out.tk).mono ?_
   rintro e w3 ⟨vu, ra, rl, rc, rfl, hou, hor, hb⟩
   have HU := Lib.hid (hou.lower HS1.out)
   replace HO := Lib.hid (HO.out.below hb)
   replace HOA := Lib.hid (HOA.out.below hb)
   replace HOB := Lib.hid (HOB.out.below hb)
   replace HT := Lib.hid (HT.out.low (n := w2.heap.size) (Nat.le_of_lt (Nat.lt_of_le_of_lt HT.out.1 HT.out.2.1)) HT.out.2.1 hb)
   replace HB := Lib.hid (HB.out.trans (hb.mono HB.out.size))
   replace HS1 := Lib.hid (Nat.le_trans HS1.out hb.size)
   clear hb hou hor HAP HCL
   unfold EdV edV
   try dsimp only
   iterate 19 go_step
   have hv : ED (w3.alloc (.cells (edC 0 0 0 0 0 0 0 (.slice none 0 0)) 40)) w3.heap.size 0 0 0 0 0 0 0 (.slice none 0 0) := ED.box w3 0 0 0 0 0 0 0 (.slice none 0 0) rfl 40
   have hb0 : Below w3.heap.size w3 (w3.alloc (.cells (edC 0 0 0 0 0 0 0 (.slice none 0 0)) 40)) := below_box _ _
   refine wpl_storeE O.b.k O.b.p O.b.m O.b.c O.b.d O.b.sn O.b.sd ra rl rc hv rfl rfl rfl rfl ?_
   intro w4 q1 q2 q3 q4 q5
   have hb : Below w3.heap.size w3 w4 := q4 _ _ (Nat.le_refl _) hb0
   obtain ⟨g7, hgE⟩ : ∃ g, g = w3.heap.size := ⟨_, rfl⟩
   rw [← hgE]
   clear q1 q2 q3 q4 q5 hb0 hv hgE
   replace HU := Lib.hid (HU.out.below hb)
   replace HO := Lib.hid (HO.out.below hb)
   replace HOA := Lib.hid (HOA.out.below hb)
   replace HOB := Lib.hid (HOB.out.below hb)
   replace HT := Lib.hid (HT.out.low (n := w3.heap.size) (Nat.le_of_lt (Nat.lt_of_le_of_lt HT.out.1 HT.out.2.1)) HT.out.2.1 hb)
   replace HB := Lib.hid (HB.out.trans (hb.mono HB.out.size))
   replace HS1 := Lib.hid (Nat.le_trans HS1.out hb.size)
   clear hb
   simp only [Act.put, List.setIfInBounds_toArray, List.set_cons_succ, List.set_cons_zero]
   obtain ⟨k', hk'⟩ : ∃ k', k' = k2 := ⟨_, rfl⟩
   rw [← hk'] at HT
   have hk3 : (k' : Int) ≤ 200 + 500 * (2 - i) + 200 := by omega
   clear hk hk2 hk'
   obtain ⟨k, hk⟩ : ∃ k, k = k' := ⟨_, rfl⟩
   rw [← hk] at HT hk3
   clear hk
   have hk := hk3
   clear hk3
   go_upto_if 45 with fail
   go_cut [7] from 46 to 46 (fun v7' wx => wx = w4 ∧ ∃ a', OT w4 w1.heap.size v7' a' ∧ Mk (j + 1) a')
   case first =>
    by_cases hc : O.code = 0
    ·have HM3 := Lib.hid (HOK.out hc)
     go_wp2_with fail
     go_meet
     case rel => exact ⟨rfl, _, HU.out, HM3.out⟩
    ·have HM3 := Lib.hid (HA.out.mono (Nat.le_succ j))
     go_wp2_with fail
     go_meet
     case rel => exact ⟨rfl, _, HOA.out, HM3.out⟩
   case rest =>
   obtain ⟨rfl, a', hoa', hma'⟩ := hcut
   replace HOA := Lib.hid hoa'
   replace HA := Lib.hid hma'
   clear hoa' hma' HU HOK
   obtain ⟨x, c, rfl, hxc⟩ := HOB.out.tk
   clear hxc
   obtain ⟨N, hN⟩ : ∃ N, N = b.length := ⟨_, rfl⟩
   have hN2 : N ≤ 33 := by rw [hN]; have := HBB.out.l; omega
   rw [← hN] at HOB ⊢
   clear hN
   have HTE0 := Lib.hid (tedit_any w.heap.size p k N wc HT.out (by omega) (by omega))
   go_upto_region 10 with fail
   apply wp_region_lit
   iterate 14 go_step
   refine HTE0.out.mono ?_
   rintro e w2 ⟨⟨ed, ao2, l2, cp2, rfl, hte, hcl⟩, ⟨k2, hk2, hT_⟩, ht⟩
   replace HO := Lib.hid (HO.out.turn ht HP1.out)
   replace HOA := Lib.hid (HOA.out.turn ht HP1.out)
   replace HOB := Lib.hid (HOB.out.turn ht HP1.out)
   replace HS1 := Lib.hid (Nat.le_trans HS1.out ht.s)
   replace HB := Lib.hid (ht.b _ _ (by have := HP.out; omega) HB.out)
   replace HT := Lib.hid hT_
   have HTE := Lib.hid hte
   have HCL := Lib.hid hcl
   clear hte hcl hT_ ht HTE0
   have HAP := Lib.hid (fun w (h : Tk w (.slice x N c) b) (hu : Tk w (.slice ao2 l2 cp2) ed.ins) => apply_outM (.slice x N c) (.slice ao2 l2 cp2) b ed j N w h hu HBB.out (by omega) HTE.out (by omega))
   have HOK := Lib.hid (out_mk HBB.out (by omega) HTE.out)
   obtain ⟨O, hO⟩ : ∃ O, O = outOf b ed := ⟨_, rfl⟩
   rw [← hO] at HAP HOK
   clear hO HTE
   unfold EdV edV
   try dsimp only
   iterate 3 go_step
   refine (HAP.out _ HOB.out.tk HCL.out.tk).mono ?_
   rintro e w3 ⟨vu, ra, rl, rc, rfl, hou, hor, hb⟩
   have HU := Lib.hid (hou.lower HS1.out)
   replace HO := Lib.hid (HO.out.below hb)
   replace HOA := Lib.hid (HOA.out.below hb)
   replace HOB := Lib.hid (HOB.out.below hb)
   replace HT := Lib.hid (HT.out.low (n := w2.heap.size) (Nat.le_of_lt (Nat.lt_of_le_of_lt HT.out.1 HT.out.2.1)) HT.out.2.1 hb)
   replace HB := Lib.hid (HB.out.trans (hb.mono HB.out.size))
   replace HS1 := Lib.hid (Nat.le_trans HS1.out hb.size)
   clear hb hou hor HAP HCL
   unfold EdV edV
   try dsimp only
   iterate 19 go_step
   have hv : ED (w3.alloc (.cells (edC 0 0 0 0 0 0 0 (.slice none 0 0)) 40)) w3.heap.size 0 0 0 0 0 0 0 (.slice none 0 0) := ED.box w3 0 0 0 0 0 0 0 (.slice none 0 0) rfl 40
   have hb0 : Below w3.heap.size w3 (w3.alloc (.cells (edC 0 0 0 0 0 0 0 (.slice none 0 0)) 40)) := below_box _ _
   refine wpl_storeE O.b.k O.b.p O.b.m O.b.c O.b.d O.b.sn O.b.sd ra rl rc hv rfl rfl rfl rfl ?_
   intro w4 q1 q2 q3 q4 q5
   have hb : Below w3.heap.size w3 w4 := q4 _ _ (Nat.le_refl _) hb0
   obtain ⟨g7, hgE⟩ : ∃ g, g = w3.heap.size := ⟨_, rfl⟩
   rw [← hgE]
   clear q1 q2 q3 q4 q5 hb0 hv hgE
   replace HU := Lib.hid (HU.out.below hb)
   replace HO := Lib.hid (HO.out.below hb)
   replace HOA := Lib.hid (HOA.out.below hb)
   replace HOB := Lib.hid (HOB.out.below hb)
   replace HT := Lib.hid (HT.out.low (n := w3.heap.size) (Nat.le_of_lt (Nat.lt_of_le_of_lt HT.out.1 HT.out.2.1)) HT.out.2.1 hb)
   replace HB := Lib.hid (HB.out.trans (hb.mono HB.out.size))
   replace HS1 := Lib.hid (Nat.le_trans HS1.out hb.size)
   clear hb
   simp only [Act.put, List.setIfInBounds_toArray, List.set_cons_succ, List.set_cons_zero]
   obtain ⟨k', hk'⟩ : ∃ k', k' = k2 := ⟨_, rfl⟩
   rw [← hk'] at HT
   have hk3 : (k' : Int) ≤ 200 + 500 * (2 - i) + 400 := by omega
   clear hk hk2 hk'
   obtain ⟨k, hk⟩ : ∃ k, k = k' := ⟨_, rfl⟩
   rw [← hk] at HT hk3
   clear hk
   have hk := hk3
   clear hk3
   go_upto_region 11 with fail
   by_cases hc : O.code = 0
   ·have HM3 := Lib.hid (HOK.out hc)
    go_wp2_with fail
    refine (next_any w.heap.size p k 3 _ HT.out (by omega) (by omega) (by omega)).mono ?_
    rintro e w5 ⟨r, rfl, r0, r1, hT_, hg_⟩
    have ht := Turn.grown hg_ HT.out.2.1
    replace HO := Lib.hid (HO.out.turn ht HP1.out)
    replace HOA := Lib.hid (HOA.out.turn ht HP1.out)
    replace HOB := Lib.hid (HOB.out.turn ht HP1.out)
    replace HU := Lib.hid (HU.out.turn ht HP1.out)
    replace HS1 := Lib.hid (Nat.le_trans HS1.out ht.s)
    replace HB := Lib.hid (ht.b _ _ (by have := HP.out; omega) HB.out)
    replace HT := Lib.hid hT_
    clear hT_ hg_ ht
    by_cases hr : 0 < r
    ·go_wp2_with fail
     go_roundw
     case rel => exact ⟨i - 1, k + 1, _, _, rfl, by omega, by omega, by omega, HO.out, HOA.out, HU.out, by rw [show (2 - (i - 1)).toNat = j + 1 by omega]; exact HA.out, by rw [show (2 - (i - 1)).toNat = j + 1 by omega]; exact HM3.out, HT.out, HB.out, HS1.out⟩
     case measure =>
      simp [intOf]
      omega
    ·go_wp2_with fail
     go_roundw
     case rel => exact ⟨i - 1, k + 1, _, _, rfl, by omega, by omega, by omega, HO.out, HOA.out, HOB.out, by rw [show (2 - (i - 1)).toNat = j + 1 by omega]; exact HA.out, by rw [show (2 - (i - 1)).toNat = j + 1 by omega]; exact HBB.out.mono (Nat.le_succ j), HT.out, HB.out, HS1.out⟩
     case measure =>
      simp [intOf]
      omega
   ·go_wp2_with fail
    go_roundw
    case rel => exact ⟨i - 1, k, _, _, rfl, by omega, by omega, by omega, HO.out, HOA.out, HOB.out, by rw [show (2 - (i - 1)).toNat = j + 1 by omega]; exact HA.out, by rw [show (2 - (i - 1)).toNat = j + 1 by omega]; exact HBB.out.mono (Nat.le_succ j), HT.out, HB.out, HS1.out⟩
    case measure =>
     simp [intOf]
     omega
  ·have hi2 : i = -1 := by omega
   subst hi2
   have HA3 := Lib.hid (show Mk 3 a from HA.out)
   have HB3 := Lib.hid (show Mk 3 b from HBB.out)
   go_wp2_with fail
   go_ret3
   exact ⟨_, _, _, _, _, _, rfl, HO.out.lower HLW.out, HOA.out.lower HLW.out, HOB.out.lower HLW.out, HMA.out.mono (by decide), HA3.out, HB3.out, HB.out⟩
theorem Mk.vtk {t : List Trk.Clip} (h : Mk 3 t) : VT (Lk 3) t := h.vt (by decide)
section
variable {L : Int} {v : Value} {d : Dc} {w : World} {t a : List Trk.Clip} {k : Nat}
theorem undo_step (h : Hist t a k d) (hk : k ≤ 5) (ht : Trk.Norm t) (ha : Trk.Norm a) (hne : t ≠ a) (hd : DocOK L 0 d) (hL : L ≤ 140737488355328) (hv : Dcs w v [d]) :
  Calls Tryz.prog 26 #[.agg #[.int .i64 0, v], .agg #[.int .i64 5, .string annB, .string docB, .int .i64 0, .int .i64 0, .slice none 0 0]] w (OnePost w 0 fun d' => Back t a k d' ∧ DocOK L 0 d') :=
 (bigstep_undo (L := L) hv hd hL (Int.le_refl 0) (by decide) ann_ok doc_ok).mono fun e w' hs => one_post hs h.n fun code d' hr => by
  obtain ⟨h1, h2⟩ := h.undo hk ht ha hne hr
  exact ⟨h1, h2, UndoR.keeps hd ann_ok hr⟩
theorem undo_again (h : Back t a k d) (hd : DocOK L 0 d) (hL : L ≤ 140737488355328) (hv : Dcs w v [d]) :
  Calls Tryz.prog 26 #[.agg #[.int .i64 0, v], .agg #[.int .i64 5, .string annB, .string docB, .int .i64 0, .int .i64 0, .slice none 0 0]] w (OnePost w 13 fun d' => True) :=
 (bigstep_undo (L := L) hv hd hL (Int.le_refl 0) (by decide) ann_ok doc_ok).mono fun e w' hs => one_post hs h.n fun code d' hr => ⟨h.undo hr, trivial⟩
theorem redo_step (h : Back t a k d) (hk : k ≤ 5) (ht : Trk.Norm t) (ha : Trk.Norm a) (hne : t ≠ a) (hd : DocOK L 0 d) (hL : L ≤ 140737488355328) (hv : Dcs w v [d]) :
  Calls Tryz.prog 26 #[.agg #[.int .i64 0, v], .agg #[.int .i64 6, .string annB, .string docB, .int .i64 0, .int .i64 0, .slice none 0 0]] w (OnePost w 0 fun d' => Hist t a (k + 1) d' ∧ DocOK L 0 d') :=
 (bigstep_redo (L := L) hv hd hL (Int.le_refl 0) (by decide) ann_ok doc_ok).mono fun e w' hs => one_post hs h.n fun code d' hr => by
  obtain ⟨h1, h2⟩ := h.redo hk ht ha hne hr
  exact ⟨h1, h2, RedoR.keeps hd ann_ok hr⟩
theorem Hist.cur (h : Hist t a k d) : ∃ r, curR d r ∧ r.t = a := by
 obtain ⟨r, e, h2⟩ := h.c
 exact ⟨r, by unfold curR; rw [h.l]; exact e, h2⟩
theorem Back.cur (h : Back t a k d) : ∃ r, curR d r ∧ r.t = t := by
 obtain ⟨r, e, -, -, -, -, h2⟩ := h.c
 exact ⟨r, by unfold curR; rw [h.l, show 3 + 2 * k - 1 = 2 + 2 * k by omega]; exact e, h2⟩
end
theorem undo_evs {t a : List Trk.Clip} {L : Int} (ht : VT L t) (ha : VT L a) : EvsOK L [⟨1, annB, docB, 0, 0, t⟩, ⟨4, annB, docB, 0, 0, a⟩] := by
 constructor
 ·intro i e hi
  match i, hi with
  | 0, hi => obtain rfl := Option.some.inj hi; exact ⟨.inl rfl, ann_ok, doc_ok, ht, fun _ => rfl, fun _ => rfl, fun h => absurd (show (1 : Int) = 2 from h) (by decide)⟩
  | 1, hi => obtain rfl := Option.some.inj hi; exact ⟨.inr (.inr (.inr (.inl rfl))), ann_ok, doc_ok, ha, fun _ => rfl, fun _ => rfl, fun h => absurd (show (4 : Int) = 2 from h) (by decide)⟩
 ·intro i e hi
  match i, hi with
  | 0, hi => obtain rfl := Option.some.inj hi; exact ⟨fun _ => rfl, fun _ => rfl⟩
  | 1, hi => obtain rfl := Option.some.inj hi; exact ⟨fun h => absurd (show (4 : Int) = 1 from h) (by decide), fun h => absurd h (by decide)⟩
theorem undo_ran {t a : List Trk.Clip} {L : Int} {w w' : World} {e : Ending} (Vt : VT L t) (Va : VT L a) (ht : Trk.Norm t) (ha : Trk.Norm a) (hne : t ≠ a) (h : RunPost w StpS [⟨1, annB, docB, 0, 0, t⟩, ⟨4, annB, docB, 0, 0, a⟩] e w') :
  ∃ sa cap ov ec d, e = .returned (.tuple #[.agg #[.int .i64 0, .slice sa 1 cap], ov, ec]) ∧ Hist t a 0 d ∧ DocOK L 0 d ∧ Dcs w' (.slice sa 1 cap) [d] ∧ Ers w' ec [0, 0] ∧ Below w.heap.size w w' := by
 obtain ⟨now, v, ov, ec, ds, cs, rfl, hr, hd, hx, hb⟩ := h
 obtain ⟨rfl, rfl, d, rfl, hh⟩ := undo_run ht ha hne hr
 obtain ⟨-, hi⟩ := run_inv (L := L) hr (undo_evs Vt Va)
 have hok : DocOK L 0 d := by
  rcases hi with ⟨h1, -⟩ | ⟨-, d2, h1, h2⟩
  ·cases h1
  ·cases h1; exact h2
 obtain ⟨sa, cap, hv, -⟩ := id hd
 subst hv
 exact ⟨sa, cap, ov, ec, d, rfl, hh, hok, hd, .of_row hx rfl, hb⟩
set_option maxRecDepth 100000 in
set_option maxHeartbeats 16000000 in
theorem law_undo (v : Value) (m : Int) (w : World) (h : Ints w v) (m0 : 0 ≤ m) (m1 : m ≤ 255) : Calls Tryz.prog 13 #[v, .int .u8 m] w fun e w' => e = .returned (.bool true) ∧ Below w.heap.size w w' := by
 have H3 := Lib.hid (three_any v w h)
 clear h
 obtain ⟨N, hmod⟩ : ∃ N : Nat, m % 5 = (N : Int) := ⟨(m % 5).toNat, by omega⟩
 have HNN := Lib.hid (show N ≤ 4 by omega)
 have HMOD := Lib.hid hmod
 clear hmod
 go_enter Tryz.func13, Tryz.ntmps13
 go_wp2_with fail
 refine H3.out.mono ?_
 rintro e w1 ⟨x, a, b, l, n, n2, rfl, hol, hom, -, hl, hm, -, hb⟩
 have HL := Lib.hid hol.tk
 have HM := Lib.hid hom.tk
 have VL := Lib.hid hl.vtk
 have VM := Lib.hid hm.vtk
 have NL := Lib.hid hl.n
 have NM := Lib.hid hm.n
 have HB := Lib.hid hb
 clear hol hom hl hm hb H3
 have S1 := Lib.hid (fun w h h' => same_any (L := Lk 3) x a l n w h h' VL.out VM.out (by decide))
 by_cases hs : l = n
 ·rw [decide_eq_true (congrArg Trk.nf hs)] at S1
  clear hs
  go_wp2_with fail
  refine (S1.out _ HL.out HM.out).mono ?_
  rintro e w3 ⟨rfl, hb⟩
  replace HB := Lib.hid (HB.out.trans (hb.mono HB.out.size))
  clear hb
  go_wp2_with fail
  refine (awake_any _).mono ?_
  rintro e w4 ⟨rfl, hb⟩
  replace HB := Lib.hid (HB.out.trans (hb.mono HB.out.size))
  clear hb
  go_wp2_with fail
  go_ret
  exact ⟨rfl, HB.out⟩
 ·have HNE := Lib.hid hs
  rw [decide_eq_false (by rw [NL.out.nf, NM.out.nf]; exact hs)] at S1
  clear hs
  go_wp2_with fail
  refine (S1.out _ HL.out HM.out).mono ?_
  rintro e w2 ⟨rfl, hb⟩
  replace HL := Lib.hid (HL.out.below hb)
  replace HM := Lib.hid (HM.out.below hb)
  replace HB := Lib.hid (HB.out.trans (hb.mono HB.out.size))
  clear hb S1
  obtain ⟨xa, xc, hx, -⟩ := id HL.out
  obtain ⟨aa, ac, ha, -⟩ := id HM.out
  obtain ⟨xn, hxn⟩ : ∃ y, y = l.length := ⟨_, rfl⟩
  obtain ⟨an, han⟩ : ∃ y, y = n.length := ⟨_, rfl⟩
  rw [← hxn] at hx
  rw [← han] at ha
  subst hx ha
  clear hxn han
  go_upto_region 4 with fail
  apply wp_region_lit
  iterate 15 go_step
  refine Great.wpList_buildSliceTo rfl 56 59 2 #[(0, .tmp 34), (1, .tmp 36)] rfl w2.heap.size rfl (some 37) rfl Tryz.underlying56 (evtL ⟨1, annB, docB, 0, 0, l⟩ (.slice xa xn xc) ++ evtL ⟨4, annB, docB, 0, 0, n⟩ (.slice aa an ac)).toArray ?_ ?_
  ·simp only [List.map_toArray, List.map_cons, List.map_nil, List.toList_toArray]
   exact built_ev2 ⟨1, annB, docB, 0, 0, l⟩ ⟨4, annB, docB, 0, 0, n⟩ _ _
  have hev := evs_two w2 ⟨1, annB, docB, 0, 0, l⟩ ⟨4, annB, docB, 0, 0, n⟩ _ _ HL.out HM.out (.inl rfl) (.inr (.inl rfl))
  obtain ⟨w3, hw3⟩ : ∃ y, y = w2.alloc (.cells (evtL ⟨1, annB, docB, 0, 0, l⟩ (.slice xa xn xc) ++ evtL ⟨4, annB, docB, 0, 0, n⟩ (.slice aa an ac)).toArray 59) := ⟨_, rfl⟩
  obtain ⟨ge, hge⟩ : ∃ y, y = w2.heap.size := ⟨_, rfl⟩
  have hb : Below w2.heap.size w2 w3 := by rw [hw3]; exact below_box _ _
  rw [← hw3, ← hge] at hev ⊢
  have HEV := Lib.hid hev
  replace HL := Lib.hid (HL.out.below hb)
  replace HM := Lib.hid (HM.out.below hb)
  replace HB := Lib.hid (HB.out.trans (hb.mono HB.out.size))
  clear hb hw3 hge hev
  simp only [Act.put, List.setIfInBounds_toArray, List.set_cons_succ, List.set_cons_zero]
  have RN := Lib.hid (runs_any (L := Lk 3) _ _ w3 HEV.out (by show (2 : Nat) ≤ 1000; decide) (undo_evs VL.out VM.out) (by decide))
  go_wp2_with fail
  refine RN.out.mono ?_
  intro e w4 hr
  obtain ⟨sa, cap, ov, ec, d, rfl, hh, hok, hd, he, hb⟩ := undo_ran VL.out VM.out NL.out NM.out HNE.out hr
  have HH := Lib.hid hh
  have HOK := Lib.hid hok
  have HD := Lib.hid hd
  have HER := Lib.hid he
  replace HL := Lib.hid (HL.out.below hb)
  replace HM := Lib.hid (HM.out.below hb)
  replace HB := Lib.hid (HB.out.trans (hb.mono HB.out.size))
  obtain ⟨ea, ecap, hec, -⟩ := id he
  rw [show [(0 : Int), 0].length = 2 from rfl] at hec
  subst hec
  clear hr hh hok hd he hb RN HEV
  go_upto_region 5 with fail
  obtain ⟨w5, hw5⟩ : ∃ y, y = w4.alloc (.cells #[.int .i64 0, .slice sa 1 cap] 55) := ⟨_, rfl⟩
  obtain ⟨g8, hg8⟩ : ∃ y, y = w4.heap.size := ⟨_, rfl⟩
  have hb : Below w4.heap.size w4 w5 := by rw [hw5]; exact below_box _ _
  have HS := Lib.hid (show SB w5 g8 0 sa 1 cap by rw [hw5, hg8]; exact (MapKept.heap_alloc w4 _).1)
  have HG0 : w.heap.size ≤ g8 := by have := HB.out.size; omega
  rw [← hw5, ← hg8]
  replace HL := Lib.hid (HL.out.below hb)
  replace HM := Lib.hid (HM.out.below hb)
  replace HD := Lib.hid (HD.out.below hb)
  replace HER := Lib.hid (HER.out.below hb)
  replace HB := Lib.hid (HB.out.trans (hb.mono HB.out.size))
  clear hb hw5 hg8
  apply wp_region_lit
  iterate 3 go_step
  refine Great.wpList_buildSliceTo rfl 75 30 2 #[(0, .const (.int .i64 0)), (1, .const (.int .i64 0))] rfl w5.heap.size rfl (some 43) rfl Tryz.underlying75 ([(0 : Int), 0].map fun c => Value.int .i64 c).toArray ?_ ?_
  ·kernel_rfl
  obtain ⟨w6, hw6⟩ : ∃ y, y = w5.alloc (.cells ([(0 : Int), 0].map fun c => Value.int .i64 c).toArray 30) := ⟨_, rfl⟩
  obtain ⟨gz, hgz⟩ : ∃ y, y = w5.heap.size := ⟨_, rfl⟩
  have hb : Below w5.heap.size w5 w6 := by rw [hw6]; exact below_box _ _
  have HZ := Lib.hid (show Ers w6 (.slice (some ⟨gz, 0, none⟩) 2 2) [0, 0] by rw [hw6, hgz]; exact Ers.box w5 [0, 0] (by unfold maxLen; decide))
  rw [← hw6, ← hgz]
  replace HL := Lib.hid (HL.out.below hb)
  replace HM := Lib.hid (HM.out.below hb)
  replace HD := Lib.hid (HD.out.below hb)
  replace HER := Lib.hid (HER.out.below hb)
  replace HS := Lib.hid (HS.out.below hb)
  replace HB := Lib.hid (HB.out.trans (hb.mono HB.out.size))
  clear hb
  clear hw6 hgz
  simp only [Act.put, List.setIfInBounds_toArray, List.set_cons_succ, List.set_cons_zero]
  go_wp2_with fail
  refine (errnos_self _ _ _ _ HER.out HZ.out).mono ?_
  rintro e w7 ⟨rfl, hb⟩
  replace HL := Lib.hid (HL.out.below hb)
  replace HM := Lib.hid (HM.out.below hb)
  replace HD := Lib.hid (HD.out.below hb)
  replace HS := Lib.hid (HS.out.below hb)
  replace HB := Lib.hid (HB.out.trans (hb.mono HB.out.size))
  clear hb
  clear HER HZ
  go_upto_region 8 with fail
  have HG8 := Lib.hid (show w.heap.size ≤ g8 from HG0)
  go_loopw [11] (fun i wr => ∃ k : Nat, k ≤ N ∧ i = .int .i64 (k : Int) ∧ ∃ sa cap d, Hist l n k d ∧ DocOK (Lk 3) 0 d ∧ SB wr g8 0 sa 1 cap ∧ Dcs wr (.slice sa 1 cap) [d] ∧ Tk wr (.slice xa xn xc) l ∧ Tk wr (.slice aa an ac) n ∧ Below w.heap.size w wr) (fun i _ => N - (intOf i).toNat)
  case atStart => exact ⟨0, Nat.zero_le _, rfl, sa, cap, d, HH.out, HOK.out, HS.out, HD.out, HL.out, HM.out, HB.out⟩
  case round =>
   clear HH HOK HS HD HL HM HB
   obtain ⟨k, hk, rfl, sa, cap, d, hh, hok, hs, hd, hl, hm, hb⟩ := hrel
   have HH := Lib.hid hh
   have HOK := Lib.hid hok
   have HS := Lib.hid hs
   have HD := Lib.hid hd
   have HL := Lib.hid hl
   have HM := Lib.hid hm
   have HB := Lib.hid hb
   have HK := Lib.hid hk
   clear hh hok hs hd hl hm hb hk
   by_cases hlt : k < N
   ·have hlt' : (k : Int) < (N : Int) := by omega
    have HLT := Lib.hid hlt
    have hmod := HMOD.out
    have hw9 : (k : Int) + 1 ≤ 9223372036854775807 := by have := HNN.out; omega
    have HW9 := Lib.hid hw9
    have k0 := HS.out.c0
    have k1 := HS.out.c1
    clear hlt hw9
    have U1 := Lib.hid (undo_step (L := Lk 3) HH.out (by have := HNN.out; have := HLT.out; omega) NL.out NM.out HNE.out HOK.out (by decide) HD.out)
    go_upto_region 10 with fail
    clear hmod hlt'
    go_wp2_with fail
    refine U1.out.mono ?_
    rintro e w8 ⟨n1, sa1, sn1, cap1, ov1, d1, rfl, ⟨hbk, hok1⟩, hx, hb⟩
    obtain ⟨rfl, rfl, hd1⟩ := hx rfl
    have HBK := Lib.hid hbk
    have HOK1 := Lib.hid hok1
    have HD1 := Lib.hid hd1
    replace HL := Lib.hid (HL.out.below hb)
    replace HM := Lib.hid (HM.out.below hb)
    replace HS := Lib.hid (HS.out.below hb)
    replace HD := Lib.hid (HD.out.below hb)
    replace HB := Lib.hid (HB.out.trans (hb.mono HB.out.size))
    clear hb
    clear hbk hok1 hd1 hx U1 k0 k1 HH
    go_upto_region 11 with fail
    obtain ⟨w9, hwx⟩ : ∃ y, y = w8.alloc (.cells #[.int .i64 0, .slice sa1 1 cap1] 55) := ⟨_, rfl⟩
    obtain ⟨g12, hgx⟩ : ∃ y, y = w8.heap.size := ⟨_, rfl⟩
    have hb : Below w8.heap.size w8 w9 := by rw [hwx]; exact below_box _ _
    have HS2 := Lib.hid (show SB w9 g12 0 sa1 1 cap1 by rw [hwx, hgx]; exact (MapKept.heap_alloc w8 _).1)
    rw [← hwx, ← hgx]
    clear hwx hgx
    replace HL := Lib.hid (HL.out.below hb)
    replace HM := Lib.hid (HM.out.below hb)
    replace HS := Lib.hid (HS.out.below hb)
    replace HD1 := Lib.hid (HD1.out.below hb)
    replace HB := Lib.hid (HB.out.trans (hb.mono HB.out.size))
    clear hb
    have k0 := HS2.out.c0
    have k1 := HS2.out.c1
    have U2 := Lib.hid (undo_again (L := Lk 3) HBK.out HOK1.out (by decide) HD1.out)
    go_wp2_with fail
    refine U2.out.mono ?_
    rintro e w10 ⟨n2, sa2, sn2, cap2, ov2, d2, rfl, -, -, hb⟩
    replace HL := Lib.hid (HL.out.below hb)
    replace HM := Lib.hid (HM.out.below hb)
    replace HS := Lib.hid (HS.out.below hb)
    replace HS2 := Lib.hid (HS2.out.below hb)
    replace HD1 := Lib.hid (HD1.out.below hb)
    replace HB := Lib.hid (HB.out.trans (hb.mono HB.out.size))
    clear hb
    clear U2 k0 k1
    go_upto_region 12 with fail
    obtain ⟨w11, hwx⟩ : ∃ y, y = w10.alloc (.cells #[.int .i64 n2, .slice sa2 sn2 cap2] 55) := ⟨_, rfl⟩
    obtain ⟨g15, hgx⟩ : ∃ y, y = w10.heap.size := ⟨_, rfl⟩
    have hb : Below w10.heap.size w10 w11 := by rw [hwx]; exact below_box _ _
    have HS3 := Lib.hid (show SB w11 g15 n2 sa2 sn2 cap2 by rw [hwx, hgx]; exact (MapKept.heap_alloc w10 _).1)
    rw [← hwx, ← hgx]
    clear hwx hgx
    replace HL := Lib.hid (HL.out.below hb)
    replace HM := Lib.hid (HM.out.below hb)
    replace HS := Lib.hid (HS.out.below hb)
    replace HS2 := Lib.hid (HS2.out.below hb)
    replace HD1 := Lib.hid (HD1.out.below hb)
    replace HB := Lib.hid (HB.out.trans (hb.mono HB.out.size))
    clear hb
    have k0 := HS2.out.c0
    have k1 := HS2.out.c1
    have U3 := Lib.hid (redo_step (L := Lk 3) HBK.out (by have := HNN.out; have := HLT.out; omega) NL.out NM.out HNE.out HOK1.out (by decide) HD1.out)
    go_wp2_with fail
    refine U3.out.mono ?_
    rintro e w12 ⟨n3, sa3, sn3, cap3, ov3, d3, rfl, ⟨hh3, hok3⟩, hx, hb⟩
    obtain ⟨rfl, rfl, hd3⟩ := hx rfl
    have HH3 := Lib.hid hh3
    have HOK3 := Lib.hid hok3
    have HD3 := Lib.hid hd3
    replace HL := Lib.hid (HL.out.below hb)
    replace HM := Lib.hid (HM.out.below hb)
    replace HS := Lib.hid (HS.out.below hb)
    replace HS2 := Lib.hid (HS2.out.below hb)
    replace HD1 := Lib.hid (HD1.out.below hb)
    replace HB := Lib.hid (HB.out.trans (hb.mono HB.out.size))
    clear hb
    clear U3 k0 k1 hh3 hok3 hd3 hx HS3
    go_upto_region 13 with fail
    obtain ⟨w13, hwx⟩ : ∃ y, y = w12.alloc (.cells #[.int .i64 0, .slice sa3 1 cap3] 55) := ⟨_, rfl⟩
    obtain ⟨g18, hgx⟩ : ∃ y, y = w12.heap.size := ⟨_, rfl⟩
    have hb : Below w12.heap.size w12 w13 := by rw [hwx]; exact below_box _ _
    have HS4 := Lib.hid (show SB w13 g18 0 sa3 1 cap3 by rw [hwx, hgx]; exact (MapKept.heap_alloc w12 _).1)
    rw [← hwx, ← hgx]
    clear hwx hgx
    replace HL := Lib.hid (HL.out.below hb)
    replace HM := Lib.hid (HM.out.below hb)
    replace HS := Lib.hid (HS.out.below hb)
    replace HS2 := Lib.hid (HS2.out.below hb)
    replace HD1 := Lib.hid (HD1.out.below hb)
    replace HD3 := Lib.hid (HD3.out.below hb)
    replace HB := Lib.hid (HB.out.trans (hb.mono HB.out.size))
    clear hb
    have k0 := HS2.out.c0
    have k1 := HS2.out.c1
    have j0 := HS4.out.c0
    have j1 := HS4.out.c1
    have C1 := Lib.hid (cur_any (now := 0) HD1.out HOK1.out HBK.out.cur)
    have S1 := Lib.hid (fun (v : Value) (w : World) (h : Tk w v l) (h' : Tk w (.slice xa xn xc) l) => same_any (L := Lk 3) v _ l l w h h' VL.out VL.out (by decide))
    have S2 := Lib.hid (fun (v : Value) (w : World) (h : Tk w v n) (h' : Tk w (.slice aa an ac) n) => same_any (L := Lk 3) v _ n n w h h' VM.out VM.out (by decide))
    rw [decide_eq_true rfl] at S1 S2
    go_wp2_with fail
    refine C1.out.mono ?_
    rintro e w14 ⟨tv, rfl, ht, hb⟩
    have HTV := Lib.hid ht
    obtain ⟨ta, tc, htv, -⟩ := id ht
    obtain ⟨tn, htn⟩ : ∃ y, y = l.length := ⟨_, rfl⟩
    rw [← htn] at htv
    subst htv
    replace HL := Lib.hid (HL.out.below hb)
    replace HM := Lib.hid (HM.out.below hb)
    replace HS := Lib.hid (HS.out.below hb)
    replace HS4 := Lib.hid (HS4.out.below hb)
    replace HD3 := Lib.hid (HD3.out.below hb)
    replace HB := Lib.hid (HB.out.trans (hb.mono HB.out.size))
    clear hb
    clear ht htn C1 k0 k1 HS2 HD1
    go_wp2_with fail
    refine (S1.out _ _ HTV.out HL.out).mono ?_
    rintro e w15 ⟨rfl, hb⟩
    replace HL := Lib.hid (HL.out.below hb)
    replace HM := Lib.hid (HM.out.below hb)
    replace HS := Lib.hid (HS.out.below hb)
    replace HS4 := Lib.hid (HS4.out.below hb)
    replace HD3 := Lib.hid (HD3.out.below hb)
    replace HB := Lib.hid (HB.out.trans (hb.mono HB.out.size))
    clear hb
    clear HTV S1 j0 j1
    have j0 := HS4.out.c0
    have j1 := HS4.out.c1
    have C2 := Lib.hid (cur_any (now := 0) HD3.out HOK3.out HH3.out.cur)
    go_wp2_with fail
    refine C2.out.mono ?_
    rintro e w16 ⟨tv, rfl, ht, hb⟩
    have HTV := Lib.hid ht
    obtain ⟨ta', tc', htv, -⟩ := id ht
    obtain ⟨tn', htn⟩ : ∃ y, y = n.length := ⟨_, rfl⟩
    rw [← htn] at htv
    subst htv
    replace HL := Lib.hid (HL.out.below hb)
    replace HM := Lib.hid (HM.out.below hb)
    replace HS := Lib.hid (HS.out.below hb)
    replace HS4 := Lib.hid (HS4.out.below hb)
    replace HD3 := Lib.hid (HD3.out.below hb)
    replace HB := Lib.hid (HB.out.trans (hb.mono HB.out.size))
    clear hb
    clear ht htn C2 j0 j1
    go_wp2_with fail
    refine (S2.out _ _ HTV.out HM.out).mono ?_
    rintro e w17 ⟨rfl, hb⟩
    replace HL := Lib.hid (HL.out.below hb)
    replace HM := Lib.hid (HM.out.below hb)
    replace HS := Lib.hid (HS.out.below hb)
    replace HS4 := Lib.hid (HS4.out.below hb)
    replace HD3 := Lib.hid (HD3.out.below hb)
    replace HB := Lib.hid (HB.out.trans (hb.mono HB.out.size))
    clear hb
    clear HTV S2
    have j0 := HS4.out.c0
    have j1 := HS4.out.c1
    have e0 := HS.out.c0
    have e1 := HS.out.c1
    have f0 := HS.out.f 0
    have f1 := HS.out.f 1
    have hw9 := HW9.out
    go_wp2_with fail
    have hput := HS.out.put 0 sa3 1 cap3
    have hoth : ∀ x, x ≠ g8 → ((w17.setCell ⟨g8, 0, none⟩ (.int .i64 0)).setCell ⟨g8, 1, none⟩ (.slice sa3 1 cap3)).heap[x]? = w17.heap[x]? := fun x hx => (setCells_other g8 x hx [_] 1 _).trans (setCells_other g8 x hx [_] 0 w17)
    have hbf := below_setCells g8 HG8.out [.slice sa3 1 cap3] 1 _ (below_setCells g8 HG8.out [.int .i64 0] 0 _ HB.out)
    simp only [World.setCells] at hbf
    exact ⟨⟨k + 1, by have := HLT.out; omega, by simp, sa3, cap3, d3, HH3.out, HOK3.out, hput, HD3.out.skipS HS.out.noStr hoth, HL.out.skipS HS.out.noStr hoth, HM.out.skipS HS.out.noStr hoth, hbf⟩, by have := HLT.out; simp [intOf]; omega⟩
   ·have hkn : k = N := by have := HK.out; omega
    have hmod := HMOD.out
    subst hkn
    have hlt' : ¬ ((k : Int) < (k : Int)) := by omega
    go_wp2_with fail
    refine (awake_any _).mono ?_
    rintro e w4 ⟨rfl, hb⟩
    replace HB := Lib.hid (HB.out.trans (hb.mono HB.out.size))
    clear hb
    go_wp2_with fail
    go_ret
    exact ⟨rfl, HB.out⟩
end Go.Proofs.YtfoohocgdcgbcaaGreat
