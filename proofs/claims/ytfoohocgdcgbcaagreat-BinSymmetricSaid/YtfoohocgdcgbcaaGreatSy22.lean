/- Texts of this claim joined: HW HX HZ HY AV QE QG IA IB. -/
import Derived.Test.YtfoohocgdcgbcaaGreatSy21
set_option linter.unusedVariables false
set_option linter.unusedSimpArgs false
namespace Go.Proofs.YtfoohocgdcgbcaaGreat
open Go.RowKit
theorem flatK_vgl {P : List (List Trk.Clip)} (h : ∀ l ∈ P, VGL l) (k : Nat) : VGL (flatK P k) := fun c hc => by
 obtain ⟨l, hl, hcl⟩ := List.mem_flatten.1 hc
 exact h l (List.mem_of_mem_take hl) c hcl
def five (a b c d e : Int) (k : Nat) : Int := [a, b, c, d, e].getD k 0
theorem five_or {a b c d e : Int} (ha : a = 0 ∨ a = 2) (hb : b = 0 ∨ b = 2) (hc : c = 0 ∨ c = 2) (hd : d = 0 ∨ d = 2) (he : e = 0 ∨ e = 2) (k : Nat) (hk : k < 5) : five a b c d e k = 0 ∨ five a b c d e k = 2 := by
 rcases (show k = 0 ∨ k = 1 ∨ k = 2 ∨ k = 3 ∨ k = 4 by omega) with rfl | rfl | rfl | rfl | rfl
 ·exact ha
 ·exact hb
 ·exact hc
 ·exact hd
 ·exact he
theorem five_zeros {a b c d e : Int} (h : a = 0 ∧ b = 0 ∧ c = 0 ∧ d = 0 ∧ e = 0) (k : Nat) : five a b c d e k = 0 := by
 obtain ⟨rfl, rfl, rfl, rfl, rfl⟩ := h
 unfold five
 rcases k with _ | _ | _ | _ | _ | k <;> rfl
set_option maxRecDepth 100000 in
theorem five_any (w : World) (a b c d e : Int) (k : Nat) (h : k < 5) : Sem.run Tryz.prog (Instr.index 137 (Value.agg #[.int .i64 a, .int .i64 b, .int .i64 c, .int .i64 d, .int .i64 e]) (.int .i64 (k : Int))) w = .ok (.int .i64 (five a b c d e k)) w := by
 rcases (show k = 0 ∨ k = 1 ∨ k = 2 ∨ k = 3 ∨ k = 4 by omega) with rfl | rfl | rfl | rfl | rfl <;> simp [Instr.index, run_underlying Tryz.underlying137, part, sizeOf, asIntOf, go_sem, Tryz.t30, five]
def okRep (n : List Trk.Clip) (E1 p1 q1 E2 p2 q2 : Int) : Prop := E1 = 0 ∧ E2 = 0 ∧ partE n 0 p1 = 0 ∧ partE n q1 p2 = 0 ∧ partE n q2 (Trk.total n) = 0
def RepPG (w : World) (n : List Trk.Clip) (E1 p1 q1 : Int) (x1 : List Trk.Clip) (E2 p2 q2 : Int) (x2 : List Trk.Clip) (e : Ending) (w' : World) : Prop :=
 ∃ v' code x, e = .returned (.tuple #[v', .int .i64 code]) ∧ OG w' w.heap.size 0 v' x ∧ Below w.heap.size w w' ∧
  ((¬ okRep n E1 p1 q1 E2 p2 q2 ∧ code = 2 ∧ x = []) ∨ (okRep n E1 p1 q1 E2 p2 q2 ∧ ((2147483647 < Trk.total (pieces n p1 q1 x1 p2 q2 x2).flatten ∧ code = 2 ∧ x = []) ∨ (Trk.total (pieces n p1 q1 x1 p2 q2 x2).flatten ≤ 2147483647 ∧ GlueR (pieces n p1 q1 x1 p2 q2 x2) code x))))
set_option maxRecDepth 100000 in
set_option maxHeartbeats 16000000 in
theorem replaceg_any (D1 D2 D3 : Nat) (v xv yv : Value) (n x1 x2 : List Trk.Clip) (p1 q1 p2 q2 E1 E2 : Int) (w : World) (h : TG w D1 v n) (hx : TG w D2 xv x1) (hy : TG w D3 yv x2) (Vn : TV n) (Vx : TV x1) (Vy : TV x2) (he1 : E1 = 0 ∨ E1 = 2) (he2 : E2 = 0 ∨ E2 = 2)
  (i0 : 0 ≤ p1) (i1 : p1 ≤ q1) (i2 : q1 ≤ p2) (i3 : p2 ≤ q2) (i4 : q2 ≤ Trk.total n) :
  Calls Tryz.prog 50 #[v, .agg #[.int .i64 p1, .int .i64 q1, xv, .int .i64 E1], .agg #[.int .i64 p2, .int .i64 q2, yv, .int .i64 E2]] w (RepPG w n E1 p1 q1 x1 E2 p2 q2 x2) := by
 have HT := Lib.hid h
 have HX := Lib.hid hx
 have HY := Lib.hid hy
 have LN := Lib.hid (fun (w : World) (h : TG w D1 v n) => lengthg_any D1 v n w h Vn)
 have LX := Lib.hid (fun (w : World) (h : TG w D2 xv x1) => lengthg_any D2 xv x1 w h Vx)
 have LY := Lib.hid (fun (w : World) (h : TG w D3 yv x2) => lengthg_any D3 yv x2 w h Vy)
 have P1 := Lib.hid (fun (w : World) (h : TG w D1 v n) => partg_any D1 v n 0 p1 w h Vn (Int.le_refl 0) i0 (by omega))
 have P2 := Lib.hid (fun (w : World) (h : TG w D1 v n) => partg_any D1 v n q1 p2 w h Vn (by omega) i2 (by omega))
 have P3 := Lib.hid (fun (w : World) (h : TG w D1 v n) => partg_any D1 v n q2 (Trk.total n) w h Vn (by omega) i4 (Int.le_refl _))
 have VA := Lib.hid (fun hz => partL_tv Vn (Int.le_refl 0) i0 (by omega) hz)
 have VB := Lib.hid (fun hz => partL_tv Vn (show 0 ≤ q1 by omega) i2 (by omega) hz)
 have VC' := Lib.hid (fun hz => partL_tv Vn (show 0 ≤ q2 by omega) i4 (Int.le_refl _) hz)
 have tA := partL_total Vn.good (Int.le_refl 0) i0
 have tB := partL_total Vn.good (show 0 ≤ q1 by omega) i2
 have tC := partL_total Vn.good (show 0 ≤ q2 by omega) i4
 have tn := Vn.t
 have tx := Vx.t
 have ty := Vy.t
 have tx0 := Trk.total_nonneg Vx.good
 have ty0 := Trk.total_nonneg Vy.good
 have HVL := Lib.hid (show partE n 0 p1 = 0 → partE n q1 p2 = 0 → partE n q2 (Trk.total n) = 0 → ∀ l ∈ pieces n p1 q1 x1 p2 q2 x2, TV l from fun z3 z4 z5 l hl => by
  simp only [pieces, List.mem_cons, List.not_mem_nil, or_false] at hl
  rcases hl with rfl | rfl | rfl | rfl | rfl
  ·exact VA.out z3
  ·exact Vx
  ·exact VB.out z4
  ·exact Vy
  ·exact VC'.out z5)
 have HTF := Lib.hid (show Trk.total (pieces n p1 q1 x1 p2 q2 x2).flatten = Trk.total n - (q1 - p1 + q2 - p2) + Trk.total x1 + Trk.total x2 by
  simp only [pieces, List.flatten_cons, List.flatten_nil, List.append_nil, Trk.total_append, tA, tB, tC]
  omega)
 obtain ⟨ao, ca, rfl⟩ := h.form
 obtain ⟨xo, cx, rfl⟩ := hx.form
 obtain ⟨yo, cy, rfl⟩ := hy.form
 clear Vn Vx Vy tA tB tC h hx hy VA VB VC'
 obtain ⟨N, hN⟩ : ∃ N, N = Trk.total n := ⟨_, rfl⟩
 obtain ⟨X, hX⟩ : ∃ N, N = Trk.total x1 := ⟨_, rfl⟩
 obtain ⟨Y, hY⟩ : ∃ N, N = Trk.total x2 := ⟨_, rfl⟩
 rw [← hN] at LN P3 i4 tn HVL
 rw [← hX] at LX tx tx0
 rw [← hY] at LY ty ty0
 rw [← hN, ← hX, ← hY] at HTF
 have HP := Lib.hid (show pieces n p1 q1 x1 p2 q2 x2 = [partL n 0 p1, x1, partL n q1 p2, x2, partL n q2 N] by rw [hN]; rfl)
 obtain ⟨nn, hnn⟩ : ∃ k, k = n.length := ⟨_, rfl⟩
 obtain ⟨nx, hnx⟩ : ∃ k, k = x1.length := ⟨_, rfl⟩
 obtain ⟨ny, hny⟩ : ∃ k, k = x2.length := ⟨_, rfl⟩
 rw [← hnn] at HT LN P1 P2 P3 ⊢
 rw [← hnx] at HX LX ⊢
 rw [← hny] at HY LY ⊢
 have HNT := Lib.hid hN
 clear hN hX hY hnn hnx hny
 have hOk : okRep n E1 p1 q1 E2 p2 q2 ↔ (E1 = 0 ∧ E2 = 0 ∧ partE n 0 p1 = 0 ∧ partE n q1 p2 = 0 ∧ partE n q2 N = 0) := by rw [HNT.out]; exact Iff.rfl
 obtain ⟨E3, hE3⟩ : ∃ k, k = partE n 0 p1 := ⟨_, rfl⟩
 obtain ⟨E4, hE4⟩ : ∃ k, k = partE n q1 p2 := ⟨_, rfl⟩
 obtain ⟨E5, hE5⟩ : ∃ k, k = partE n q2 N := ⟨_, rfl⟩
 have H5O := Lib.hid (five_or he1 he2 (hE3 ▸ partE_or n 0 p1 : E3 = 0 ∨ E3 = 2) (hE4 ▸ partE_or n q1 p2 : E4 = 0 ∨ E4 = 2) (hE5 ▸ partE_or n q2 N : E5 = 0 ∨ E5 = 2))
 have HR3 := Lib.hid (fun (z : E3 = 0) => partR_of (l := n) (a := 0) (b := p1) (hE3.symm.trans z))
 have HR4 := Lib.hid (fun (z : E4 = 0) => partR_of (l := n) (a := q1) (b := p2) (hE4.symm.trans z))
 have HR5 := Lib.hid (fun (z : E5 = 0) => partR_of (l := n) (a := q2) (b := N) (hE5.symm.trans z))
 rw [← hE3] at P1 HVL hOk
 rw [← hE4] at P2 HVL hOk
 rw [← hE5] at P3 HVL hOk
 have HOk := Lib.hid hOk
 clear hE3 hE4 hE5 hOk he1 he2
 unfold RepPG
 obtain ⟨OK, hOK⟩ : ∃ P, P = okRep n E1 p1 q1 E2 p2 q2 := ⟨_, rfl⟩
 rw [← hOK] at HOk ⊢
 clear hOK
 obtain ⟨PP, hPP⟩ : ∃ P, P = pieces n p1 q1 x1 p2 q2 x2 := ⟨_, rfl⟩
 rw [← hPP] at HVL HTF HP ⊢
 clear hPP
 go_enter Tryz.func50, Tryz.ntmps50
 go_upto_region 1 with fail
 obtain ⟨w1, hw1⟩ : ∃ z, z = (w.alloc (.cells #[.int .i64 p1, .int .i64 q1, .slice xo nx cx, .int .i64 E1] 98)).alloc (.cells #[.int .i64 p2, .int .i64 q2, .slice yo ny cy, .int .i64 E2] 98) := ⟨_, rfl⟩
 obtain ⟨g1, hg1⟩ : ∃ g, g = w.heap.size := ⟨_, rfl⟩
 obtain ⟨g2, hg2⟩ : ∃ g, g = w.heap.size + 1 := ⟨_, rfl⟩
 have hb : Below w.heap.size w w1 := by rw [hw1]; go_grown
 have HD := Lib.hid (show D4 w1 g1 p1 q1 (.slice xo nx cx) E1 by rw [hw1, hg1]; exact ⟨by simp [go_sem], by simp [go_sem], by simp [go_sem], by simp [go_sem], fun o => by simp [go_sem]⟩)
 have HE := Lib.hid (show D4 w1 g2 p2 q2 (.slice yo ny cy) E2 by rw [hw1, hg2]; exact ⟨by simp [go_sem], by simp [go_sem], by simp [go_sem], by simp [go_sem], fun o => by simp [go_sem]⟩)
 rw [← hw1, ← hg2, ← hg1]
 have HB := Lib.hid hb
 replace HT := Lib.hid (HT.out.below hb)
 replace HX := Lib.hid (HX.out.below hb)
 replace HY := Lib.hid (HY.out.below hb)
 clear hb hw1 hg1 hg2
 go_wp2_with fail
 refine (LN.out _ HT.out).mono ?_
 rintro e w2 ⟨rfl, hb⟩
 replace HT := Lib.hid (HT.out.below hb)
 replace HX := Lib.hid (HX.out.below hb)
 replace HY := Lib.hid (HY.out.below hb)
 replace HD := Lib.hid (HD.out.below hb)
 replace HE := Lib.hid (HE.out.below hb)
 replace HB := Lib.hid (HB.out.trans (hb.mono HB.out.size))
 clear hb
 obtain ⟨d0, d1, d2, d3, df⟩ := HD.out
 go_wp2_with fail
 refine (P1.out _ HT.out).mono ?_
 rintro e w3 ⟨v3, rfl, ho, hb⟩
 have H3 := Lib.hid ho.tg
 clear d0 d1 d2 d3 df
 replace HT := Lib.hid (HT.out.below hb)
 replace HX := Lib.hid (HX.out.below hb)
 replace HY := Lib.hid (HY.out.below hb)
 replace HD := Lib.hid (HD.out.below hb)
 replace HE := Lib.hid (HE.out.below hb)
 replace HB := Lib.hid (HB.out.trans (hb.mono HB.out.size))
 clear hb
 obtain ⟨d0, d1, d2, d3, df⟩ := HD.out
 obtain ⟨e0, e1, e2, e3, ef⟩ := HE.out
 go_wp2_with fail
 refine (P2.out _ HT.out).mono ?_
 rintro e w4 ⟨v4, rfl, ho, hb⟩
 have H4 := Lib.hid ho.tg
 clear d0 d1 d2 d3 df e0 e1 e2 e3 ef
 replace HT := Lib.hid (HT.out.below hb)
 replace HX := Lib.hid (HX.out.below hb)
 replace HY := Lib.hid (HY.out.below hb)
 replace HD := Lib.hid (HD.out.below hb)
 replace HE := Lib.hid (HE.out.below hb)
 replace H3 := Lib.hid (H3.out.below hb)
 replace HB := Lib.hid (HB.out.trans (hb.mono HB.out.size))
 clear hb
 obtain ⟨e0, e1, e2, e3, ef⟩ := HE.out
 go_wp2_with fail
 refine (P3.out _ HT.out).mono ?_
 rintro e w5 ⟨v5, rfl, ho, hb⟩
 have H5 := Lib.hid ho.tg
 clear e0 e1 e2 e3 ef
 replace HX := Lib.hid (HX.out.below hb)
 replace HY := Lib.hid (HY.out.below hb)
 replace HD := Lib.hid (HD.out.below hb)
 replace HE := Lib.hid (HE.out.below hb)
 replace H3 := Lib.hid (H3.out.below hb)
 replace H4 := Lib.hid (H4.out.below hb)
 replace HB := Lib.hid (HB.out.trans (hb.mono HB.out.size))
 clear hb
 clear HT P1 P2 P3 LN
 obtain ⟨d0, d1, d2, d3, df⟩ := HD.out
 obtain ⟨e0, e1, e2, e3, ef⟩ := HE.out
 go_upto_region 6 with fail
 go_loopw [57] (fun i wr => ∃ k : Nat, k ≤ 5 ∧ i = .int .i64 (k : Int) ∧ (∀ j, j < k → five E1 E2 E3 E4 E5 j = 0) ∧ wr = w5) (fun i _ => 5 - (intOf i).toNat)
 case atStart => exact ⟨0, Nat.zero_le _, rfl, fun j hj => by omega, rfl⟩
 case round =>
  obtain ⟨k, hk, rfl, hz, rfl⟩ := hrel
  have HZ := Lib.hid hz
  clear hz
  by_cases hlt : k < 5
  ·have hlt' : (k : Int) < 5 := by omega
   go_wp2_with fail
   rw [five_any _ _ _ _ _ _ k hlt]
   rcases H5O.out k hlt with hv | hv
   ·have HV := Lib.hid hv
    rw [hv]
    clear hv
    go_wp2_with fail
    go_roundw
    case rel =>
     refine ⟨k + 1, by omega, by simp, fun j hj => ?_, trivial⟩
     by_cases hjk : j = k
     ·rw [hjk]; exact HV.out
     ·exact HZ.out j (by omega)
    case measure =>
     simp [intOf]
     omega
   ·have HV := Lib.hid hv
    rw [hv]
    clear hv
    go_wp2_with fail
    go_ret2
    refine ⟨_, _, _, rfl, OG.nil _ _ _, HB.out, .inl ⟨fun h => ?_, rfl, rfl⟩⟩
    have h2 := HV.out
    rw [five_zeros (HOk.out.1 h) k] at h2
    exact absurd h2 (by decide)
  have e5 : (k : Int) = 5 := by omega
  have hz : E1 = 0 ∧ E2 = 0 ∧ E3 = 0 ∧ E4 = 0 ∧ E5 = 0 := ⟨HZ.out 0 (by omega), HZ.out 1 (by omega), HZ.out 2 (by omega), HZ.out 3 (by omega), HZ.out 4 (by omega)⟩
  have HOKK := Lib.hid (HOk.out.2 hz)
  replace HVL := Lib.hid (HVL.out hz.2.2.1 hz.2.2.2.1 hz.2.2.2.2)
  replace H3 := Lib.hid (show TG wr 0 v3 (partL n 0 p1) from HR3.out hz.2.2.1 ▸ H3.out)
  replace H4 := Lib.hid (show TG wr 0 v4 (partL n q1 p2) from HR4.out hz.2.2.2.1 ▸ H4.out)
  replace H5 := Lib.hid (show TG wr 0 v5 (partL n q2 N) from HR5.out hz.2.2.2.2 ▸ H5.out)
  rw [e5]
  clear e5 hz HZ hlt hk HOk H5O
  obtain ⟨dd, hdd⟩ : ∃ dd, dd = q1 - p1 + q2 - p2 := ⟨_, rfl⟩
  have hd1 : q1 - p1 + q2 - p2 = dd := hdd.symm
  have hd2 : 0 ≤ dd ∧ dd ≤ N := by omega
  have HDD := Lib.hid hdd
  clear hdd
  go_upto_region 12 with fail
  clear d0 d1 d2 d3 df e0 e1 e2 e3 ef hd1
  have hd3 := hd2.1
  have hd4 := hd2.2
  refine Plan.wp_region_fresh (fun w' => Below wr.heap.size wr w') 12 (rpG X Y (N - dd + X)) ([0, 1, 2, 3, 4, 7, 8].map (·, true)) rpS ([10, 11].map (·, true)) 114 (by kernel_rfl) (by kernel_rfl) (by kernel_rfl) (Below.refl _ _).drew (fun wa wb ha hb => ha.trans (hb.mono ha.size)) rpG.ext ?_
  refine' Plan.plan_seg _ [0, 1, 2, 3, 4, 7, 8] [] (by kernel_rfl) (by kernel_rfl) rfl (by exact (Below.refl _ _).drew) (fun wx hS => ?_) ?_
  rotate_left
  ·obtain ⟨d0, d1, d2, d3, df⟩ := HD.out.below hS
   obtain ⟨e0, e1, e2, e3, ef⟩ := HE.out.below hS
   clear hS
   go_light
   iterate 7 (apply Plan.seg_pick; rfl; intro K hK; go_wp)
   exact Plan.seg_nil
  refine Plan.plan_nil ?_
  refine Plan.fresh_at_gen (fun A => A.tmps.size = 114 ∧ A.tmps[79]? = some (.slice xo nx cx) ∧ A.tmps[83]? = some (.slice yo ny cy) ∧ A.tmps[77]? = some (.int .i64 (N - dd))) ⟨rfl, rfl, rfl, rfl⟩ rfl (fun Aq hA => ?_) ?_
  ·obtain ⟨hsz, e79, e83, e77⟩ := hA
   intro p' hp o ho vs wx lo hi hS hE hG K hK
   simp only [rpS, List.mem_cons, List.not_mem_nil, or_false] at hp
   rcases hp with rfl | rfl | rfl
   all_goals obtain rfl := Option.some.inj ho
   ·have t9 : (Plan.puts vs rpS Aq).eval (.tmp 79) = .slice xo nx cx := by rw [Plan.eval_out (by decide)]; simp [Act.eval, Array.getD_eq_getD_getElem?, e79]
    refine Plan.one_call rfl 31 Tryz.func31 (by kernel_rfl) (by kernel_rfl) #[.tmp 79] #[23] rfl #[.slice xo nx cx] (by simp only [List.map_toArray, List.map_cons, List.map_nil, t9]) (fun r w' => r = .int .i64 X ∧ Below wx.heap.size wx w') ?_ (fun r w' hR => hK _ _ hR.1 hR.2)
    refine (LX.out wx (HX.out.below hS)).mono ?_
    rintro e w' ⟨rfl, hb⟩
    exact ⟨_, rfl, rfl, hb⟩
   ·have h5 : vs 5 = .int .i64 X := hG (5, 80) (by decide) (by decide)
    have t80 : (Plan.puts vs rpS Aq).tmps[80]? = some (.int .i64 X) := by
     rw [← h5]
     exact Plan.puts_in vs rpS Aq (i := 5) (s := 80) (by decide) (by decide) (by rw [hsz]; decide)
    have t77 : (Plan.puts vs rpS Aq).tmps[77]? = some (.int .i64 (N - dd)) := by
     rw [Plan.puts_out vs rpS Aq (s := 77) (by decide)]
     exact e77
    clear hG
    obtain ⟨Bq, hBq⟩ : ∃ Bq, Bq = Plan.puts vs rpS Aq := ⟨_, rfl⟩
    rw [← hBq] at hK t80 t77 ⊢
    clear hBq hsz e79 e83 e77
    go_wp2
    exact hK _ _ rfl (Below.refl _ _)
   ·have t9 : (Plan.puts vs rpS Aq).eval (.tmp 83) = .slice yo ny cy := by rw [Plan.eval_out (by decide)]; simp [Act.eval, Array.getD_eq_getD_getElem?, e83]
    refine Plan.one_call rfl 31 Tryz.func31 (by kernel_rfl) (by kernel_rfl) #[.tmp 83] #[23] rfl #[.slice yo ny cy] (by simp only [List.map_toArray, List.map_cons, List.map_nil, t9]) (fun r w' => r = .int .i64 Y ∧ Below wx.heap.size wx w') ?_ (fun r w' hR => hK _ _ hR.1 hR.2)
    refine (LY.out wx (HY.out.below hS)).mono ?_
    rintro e w' ⟨rfl, hb⟩
    exact ⟨_, rfl, rfl, hb⟩
  intro vs lo hi w6 hS hE hall hap
  have h2 : vs 5 = .int .i64 X := (hall (5, 80) (by decide)).1
  have h5 : vs 9 = .int .i64 Y := (hall (9, 84) (by decide)).1
  have h6 : vs 6 = .int .i64 (N - dd + X) := (hall (6, 81) (by decide)).1
  have hSk := Lib.hid hS
  have hb := hS
  simp only [rpS, Plan.puts, h2, h5, h6]
  clear hall hap hE hS h2 h5 h6
  replace HX := Lib.hid (HX.out.below hb)
  replace HY := Lib.hid (HY.out.below hb)
  replace HD := Lib.hid (HD.out.below hb)
  replace HE := Lib.hid (HE.out.below hb)
  replace H3 := Lib.hid (H3.out.below hb)
  replace H4 := Lib.hid (H4.out.below hb)
  replace H5 := Lib.hid (H5.out.below hb)
  replace HB := Lib.hid (HB.out.trans (hb.mono HB.out.size))
  clear hb
  obtain ⟨S, hS⟩ : ∃ S, S = N - dd + X + Y := ⟨_, rfl⟩
  have hs1 : N - dd + X + Y = S := hS.symm
  have HSS := Lib.hid (show Trk.total PP.flatten = S by rw [HTF.out, hS, HDD.out])
  clear hS
  refine' Plan.plan_seg _ [10, 11] [] (by kernel_rfl) (by kernel_rfl) rfl (by exact hSk.out) (fun wy hS => ?_) ?_
  rotate_left
  ·clear hS
   go_light
   iterate 2 (apply Plan.seg_pick; rfl; intro K hK; go_wp)
   exact Plan.seg_nil
  refine Plan.plan_done ?_
  clear hs1
  by_cases hlong : 2147483647 < S
  ·have HLG := Lib.hid hlong
   go_wp2_with fail
   go_ret2
   exact ⟨_, _, _, rfl, OG.nil _ _ _, HB.out, .inr ⟨HOKK.out, .inl ⟨by rw [HSS.out]; exact HLG.out, rfl, rfl⟩⟩⟩
  have HLG := Lib.hid (show Trk.total PP.flatten ≤ 2147483647 by rw [HSS.out]; omega)
  obtain ⟨d0, d1, d2, d3, df⟩ := HD.out
  obtain ⟨e0, e1, e2, e3, ef⟩ := HE.out
  obtain ⟨a3, c3, h3⟩ := H3.out.form
  obtain ⟨a4, c4, h4⟩ := H4.out.form
  obtain ⟨a5, c5, h5⟩ := H5.out.form
  obtain ⟨n3, hn3⟩ : ∃ k, k = (partL n 0 p1).length := ⟨_, rfl⟩
  obtain ⟨n4, hn4⟩ : ∃ k, k = (partL n q1 p2).length := ⟨_, rfl⟩
  obtain ⟨n5, hn5⟩ : ∃ k, k = (partL n q2 N).length := ⟨_, rfl⟩
  rw [← hn3] at h3
  rw [← hn4] at h4
  rw [← hn5] at h5
  subst h3 h4 h5
  clear hn3 hn4 hn5
  go_upto_region 15 with fail
  apply wp_region_lit
  iterate 21 go_step
  refine Great.wpList_buildSliceTo rfl 68 23 5 #[(0, .tmp 87), (1, .tmp 89), (2, .tmp 90), (3, .tmp 92), (4, .tmp 93)] rfl w6.heap.size rfl (some 94) rfl Tryz.underlying68 #[.slice a3 n3 c3, .slice xo nx cx, .slice a4 n4 c4, .slice yo ny cy, .slice a5 n5 c5] ?_ ?_
  ·simp only [List.map_toArray, List.map_cons, List.map_nil, List.toList_toArray]
   kernel_rfl
  obtain ⟨w7, hw7⟩ : ∃ z, z = w6.alloc (.cells #[.slice a3 n3 c3, .slice xo nx cx, .slice a4 n4 c4, .slice yo ny cy, .slice a5 n5 c5] 23) := ⟨_, rfl⟩
  obtain ⟨gs, hgs⟩ : ∃ g, g = w6.heap.size := ⟨_, rfl⟩
  have hb : Below w6.heap.size w6 w7 := by rw [hw7]; exact below_box _ _
  have f0 : w7.cell? ⟨gs, 0, none⟩ = some (.slice a3 n3 c3) := by rw [hw7, hgs]; simp [go_sem]
  have f1 : w7.cell? ⟨gs, 1, none⟩ = some (.slice xo nx cx) := by rw [hw7, hgs]; simp [go_sem]
  have f2 : w7.cell? ⟨gs, 2, none⟩ = some (.slice a4 n4 c4) := by rw [hw7, hgs]; simp [go_sem]
  have f3 : w7.cell? ⟨gs, 3, none⟩ = some (.slice yo ny cy) := by rw [hw7, hgs]; simp [go_sem]
  have f4 : w7.cell? ⟨gs, 4, none⟩ = some (.slice a5 n5 c5) := by rw [hw7, hgs]; simp [go_sem]
  rw [← hw7, ← hgs]
  clear hw7 hgs d0 d1 d2 d3 df e0 e1 e2 e3 ef
  replace HX := Lib.hid (HX.out.below hb)
  replace HY := Lib.hid (HY.out.below hb)
  replace H3 := Lib.hid (H3.out.below hb)
  replace H4 := Lib.hid (H4.out.below hb)
  replace H5 := Lib.hid (H5.out.below hb)
  replace HB := Lib.hid (HB.out.trans (hb.mono HB.out.size))
  clear hb
  have HC := Lib.hid (show ∀ i x, PP[i]? = some x → ∃ a m c, w7.cell? ⟨gs, i, none⟩ = some (.slice a m c) ∧ TG w7 w7.heap.size (.slice a m c) x from fun i x hi => by
   rw [HP.out] at hi
   have hlt := (List.getElem?_eq_some_iff.1 hi).1
   rcases (show i = 0 ∨ i = 1 ∨ i = 2 ∨ i = 3 ∨ i = 4 by simp at hlt; omega) with rfl | rfl | rfl | rfl | rfl
   all_goals
    simp only [List.getElem?_cons_zero, List.getElem?_cons_succ, Option.some.injEq] at hi
    subst hi
   ·exact ⟨_, _, _, f0, H3.out.base⟩
   ·exact ⟨_, _, _, f1, HX.out.base⟩
   ·exact ⟨_, _, _, f2, H4.out.base⟩
   ·exact ⟨_, _, _, f3, HY.out.base⟩
   ·exact ⟨_, _, _, f4, H5.out.base⟩)
  have HPL := Lib.hid (show PP.length = 5 by rw [HP.out]; rfl)
  clear f0 f1 f2 f3 f4 H3 H4 H5 HX HY HD HE HSS
  have hgl : ∀ l ∈ PP, Trk.GoodL l := fun l hl => (HVL.out l hl).good
  have HGL := Lib.hid hgl
  have HVF := Lib.hid (show ∀ k, (Trk.pk (flatK PP k)).length ≤ 64 → TV (Trk.pk (flatK PP k)) from fun k hk => by
   have hv := flatK_vgl (fun l hl => (HVL.out l hl).l) k
   have ht := flatK_total_le HGL.out k
   have h2 := HLG.out
   refine ⟨hk, pk_vg hv (by omega), ?_⟩
   rw [(Trk.pk_of hv.good).s.t]
   omega)
  clear hgl
  go_upto_region 16 with fail
  go_loopw [18, 96] (fun v18 v96 wl => ∃ k : Nat, k ≤ 5 ∧ v96 = .int .i64 (k : Int) ∧ TG wl 0 v18 (Trk.pk (flatK PP k)) ∧ (∀ j, j ≤ k → (Trk.pk (flatK PP j)).length ≤ 64) ∧ Below w7.heap.size w7 wl) (fun _ i _ => 5 - (intOf i).toNat)
  case atStart =>
   refine ⟨0, Nat.zero_le _, rfl, TG.nil _ _, fun j hj => ?_, Below.refl _ _⟩
   have : j = 0 := by omega
   subst this
   exact Nat.zero_le _
  case round =>
   obtain ⟨k, hk, rfl, ht, hl, hb⟩ := hrel
   have HT := Lib.hid ht
   have HLL := Lib.hid hl
   have HBK := Lib.hid hb
   clear ht hl hb
   by_cases hlt : k < 5
   ·have hlt' : (k : Int) < 5 := by omega
    obtain ⟨x, hx⟩ : ∃ x, PP[k]? = some x := ⟨_, List.getElem?_eq_getElem (by rw [HPL.out]; exact hlt)⟩
    obtain ⟨xa, xm, xc, hcell, htk⟩ := HC.out k x hx
    have cx := (HBK.out.cell (p := ⟨gs, k, none⟩) (block_lt_of_cell hcell)).trans hcell
    have HXT := Lib.hid (htk.below HBK.out)
    have VX := HVL.out x (List.mem_of_getElem? hx)
    have hsum : Trk.total (Trk.pk (flatK PP k)) + Trk.total x ≤ 2147483647 := by
     have h1 := flatK_total_le HGL.out (k + 1)
     rw [flatK_succ hx, Trk.total_append] at h1
     have h2 := HLG.out
     rw [(Trk.pk_of (flatK_vgl (fun l hl => (HVL.out l hl).l) k).good).s.t]
     omega
    have HJ := Lib.hid (fun (v : Value) (w : World) (h : TG w 0 v (Trk.pk (flatK PP k))) (h' : TG w w7.heap.size (.slice xa xm xc) x) => joing_any 0 w7.heap.size v (.slice xa xm xc) _ x w h h' (HVF.out k (HLL.out k (Nat.le_refl _))) VX hsum)
    unfold JoinG at HJ
    rw [pk_pk_append (flatK_vgl (fun l hl => (HVL.out l hl).l) k).good VX.good, ← flatK_succ hx] at HJ
    clear hcell htk VX hsum hx
    go_wp2_with fail
    refine (HJ.out _ _ HT.out HXT.out).mono ?_
    rintro e w8 ⟨v8, code, rfl, hj, hb⟩
    have HB8 := Lib.hid (HBK.out.trans (hb.mono HBK.out.size))
    clear cx hb
    rcases hj with ⟨h1, rfl, ho⟩ | ⟨h1, rfl, rfl⟩
    ·have HO := Lib.hid ho.tg
     have HL1 := Lib.hid h1
     clear ho h1
     go_wp2_with fail
     go_roundw
     case rel =>
      refine ⟨k + 1, by omega, by simp, HO.out, fun j hj => ?_, HB8.out⟩
      by_cases hjk : j = k + 1
      ·rw [hjk]; exact HL1.out
      ·exact HLL.out j (by omega)
     case measure =>
      simp [intOf]
      omega
    ·have HL1 := Lib.hid h1
     clear h1
     go_wp2_with fail
     go_ret2
     exact ⟨_, _, _, rfl, OG.nil _ _ _, HB.out.trans (HB8.out.mono HB.out.size), .inr ⟨HOKK.out, .inr ⟨HLG.out, .inl ⟨rfl, rfl, k + 1, by rw [HPL.out]; omega, HL1.out⟩⟩⟩⟩
   ·have hk5 : k = 5 := by omega
    subst hk5
    have e5 : flatK PP 5 = PP.flatten := by unfold flatK; rw [List.take_of_length_le (by rw [HPL.out]; omega)]
    have VV := HVF.out 5 (HLL.out 5 (Nat.le_refl _))
    have HLF := Lib.hid (fun j (hj : j ≤ PP.length) => HLL.out j (by rw [HPL.out] at hj; exact hj))
    rw [e5] at HT VV
    have gf : Trk.GoodL PP.flatten := by rw [← e5]; exact (flatK_vgl (fun l hl => (HVL.out l hl).l) 5).good
    have NO := Lib.hid (fun (v : Value) (w : World) (h : TG w 0 v (Trk.pk PP.flatten)) => normalg_any 0 v _ w h VV)
    rw [nf_pk gf] at NO
    have CL := Lib.hid (fun (v : Value) (w : World) (h : TG w 0 v (Trk.nf PP.flatten)) => clonetrackg_any 0 v _ w h (by have := VV.nf.n; rw [nf_pk gf] at this; omega) (by have := VV.nf.cl; rw [nf_pk gf] at this; exact this))
    clear VV gf e5
    go_wp2_with fail
    refine (NO.out _ _ HT.out).mono ?_
    rintro e w8 ⟨v8, rfl, ho, hb⟩
    have HO := Lib.hid ho.tg
    have HB8 := Lib.hid (HBK.out.trans (hb.mono HBK.out.size))
    clear hb ho
    go_wp2_with fail
    refine (CL.out _ _ HO.out).mono ?_
    rintro e w9 ⟨v9, rfl, ho, hb⟩
    have HO9 := Lib.hid (ho.lower (Nat.le_trans HB.out.size HB8.out.size))
    have HB9 := Lib.hid (HB8.out.trans (hb.mono HB8.out.size))
    clear hb ho
    go_wp2_with fail
    go_ret2
    exact ⟨_, _, _, rfl, HO9.out, HB.out.trans (HB9.out.mono HB.out.size), .inr ⟨HOKK.out, .inr ⟨HLG.out, .inr ⟨rfl, rfl, HLF.out⟩⟩⟩⟩
structure DG (n m : List Trk.Clip) (p q : Int) (x : List Trk.Clip) (e : Int) : Prop where
 d : Trk.Diff n m p q (partL m p (Trk.total m - (Trk.total n - q)))
 x : x = partR m p (Trk.total m - (Trk.total n - q))
 e : e = partE m p (Trk.total m - (Trk.total n - q))
theorem DG.tv {n m x : List Trk.Clip} {p q e : Int} (h : DG n m p q x e) (hm : TV m) : TV x := by
 rw [h.x]
 exact partR_tv hm h.d.le.1 h.d.le.2.2.2.1 (by have := h.d.le; omega)
def RepG (n : List Trk.Clip) (E1 p1 q1 : Int) (x1 : List Trk.Clip) (E2 p2 q2 : Int) (x2 : List Trk.Clip) (code : Int) (x : List Trk.Clip) : Prop :=
 (¬ okRep n E1 p1 q1 E2 p2 q2 ∧ code = 2 ∧ x = []) ∨ (okRep n E1 p1 q1 E2 p2 q2 ∧ RepR n p1 q1 x1 p2 q2 x2 code x)
def TwoG (n a b : List Trk.Clip) (p1 q1 : Int) (x1 : List Trk.Clip) (E1 p2 q2 : Int) (x2 : List Trk.Clip) (E2 : Int) : Prop :=
 (DG n a p1 q1 x1 E1 ∧ DG n b p2 q2 x2 E2 ∧ ¬ q2 < p1) ∨ (DG n b p1 q1 x1 E1 ∧ DG n a p2 q2 x2 E2 ∧ q1 < p2)
def LongG (n a b : List Trk.Clip) (code : Int) (x : List Trk.Clip) : Prop :=
 ∃ p1 q1 x1 E1 p2 q2 x2 E2, TwoG n a b p1 q1 x1 E1 p2 q2 x2 E2 ∧ ((p2 ≤ q1 ∧ code = 12 ∧ x = []) ∨ (q1 < p2 ∧ RepG n E1 p1 q1 x1 E2 p2 q2 x2 code x))
def MergeVG (n a b : List Trk.Clip) (code : Int) (x : List Trk.Clip) : Prop :=
 (shortC n a b ∧ code = 0 ∧ x = shortL n a b) ∨ (¬ shortC n a b ∧ LongG (Trk.nf n) (Trk.nf a) (Trk.nf b) code x)
def MergeG (w : World) (n a b : List Trk.Clip) (e : Ending) (w' : World) : Prop :=
 ∃ v' code x, e = .returned (.tuple #[v', .int .i64 code]) ∧ OG w' w.heap.size 0 v' x ∧ Below w.heap.size w w' ∧ MergeVG n a b code x
set_option maxRecDepth 100000 in
set_option maxHeartbeats 16000000 in
theorem mergeg_short (D1 D2 D3 : Nat) (vn va vb : Value) (n a b : List Trk.Clip) (w : World) (hn : TG w D1 vn n) (ha : TG w D2 va a) (hb : TG w D3 vb b) (Vn : TV n) (Va : TV a) (Vb : TV b)
  (hs : Trk.nf b = Trk.nf n ∨ Trk.nf b = Trk.nf a ∨ Trk.nf a = Trk.nf n) :
  Calls Tryz.prog 17 #[vn, va, vb] w fun e w' => ∃ v', e = .returned (.tuple #[v', .int .i64 0]) ∧ OG w' w.heap.size 0 v' (shortL n a b) ∧ Below w.heap.size w w' := by
 have HN := Lib.hid hn
 have HA := Lib.hid ha
 have HBB := Lib.hid hb
 have V1 := Lib.hid (fun (w : World) (h : TG w D1 vn n) => vtrackg_yes D1 vn n w h Vn)
 have V2 := Lib.hid (fun (w : World) (h : TG w D2 va a) => vtrackg_yes D2 va a w h Va)
 have V3 := Lib.hid (fun (w : World) (h : TG w D3 vb b) => vtrackg_yes D3 vb b w h Vb)
 have S1 := Lib.hid (fun (w : World) (h : TG w D3 vb b) (h' : TG w D1 vn n) => sameg_any D3 D1 vb vn b n w h h' Vb Vn)
 have S2 := Lib.hid (fun (w : World) (h : TG w D3 vb b) (h' : TG w D2 va a) => sameg_any D3 D2 vb va b a w h h' Vb Va)
 have S3 := Lib.hid (fun (w : World) (h : TG w D2 va a) (h' : TG w D1 vn n) => sameg_any D2 D1 va vn a n w h h' Va Vn)
 have NA := Lib.hid (fun (w : World) (h : TG w D2 va a) => normalg_any D2 va a w h Va)
 have NB := Lib.hid (fun (w : World) (h : TG w D3 vb b) => normalg_any D3 vb b w h Vb)
 have CA' := Lib.hid (fun (v : Value) (w : World) (h : TG w 0 v (Trk.nf a)) => clonetrackg_any 0 v (Trk.nf a) w h (by have := Va.nf.n; omega) Va.nf.cl)
 have CB' := Lib.hid (fun (v : Value) (w : World) (h : TG w 0 v (Trk.nf b)) => clonetrackg_any 0 v (Trk.nf b) w h (by have := Vb.nf.n; omega) Vb.nf.cl)
 obtain ⟨xn, cn, rfl⟩ := hn.form
 obtain ⟨xa, ca, rfl⟩ := ha.form
 obtain ⟨xb, cb, rfl⟩ := hb.form
 obtain ⟨nn, hnn⟩ : ∃ k, k = n.length := ⟨_, rfl⟩
 obtain ⟨na, hna⟩ : ∃ k, k = a.length := ⟨_, rfl⟩
 obtain ⟨nb, hnb⟩ : ∃ k, k = b.length := ⟨_, rfl⟩
 rw [← hnn] at HN V1 S1 S3 ⊢
 rw [← hna] at HA V2 S2 S3 NA ⊢
 rw [← hnb] at HBB V3 S1 S2 NB ⊢
 obtain ⟨R, hR⟩ : ∃ R, R = shortL n a b := ⟨_, rfl⟩
 rw [← hR]
 have HR := Lib.hid hR
 have HS := Lib.hid hs
 clear hn ha hb Vn Va Vb hnn hna hnb hs hR
 go_enter Tryz.func17, Tryz.ntmps17
 go_wp2_with fail
 refine (V1.out w HN.out).mono ?_
 rintro e w1 ⟨rfl, hb⟩
 have HB := Lib.hid hb
 clear hb
 go_wp2_with fail
 refine (V2.out w1 (HA.out.below HB.out)).mono ?_
 rintro e w2 ⟨rfl, hb⟩
 replace HB := Lib.hid (HB.out.trans (hb.mono HB.out.size))
 clear hb
 go_wp2_with fail
 refine (V3.out w2 (HBB.out.below HB.out)).mono ?_
 rintro e w3 ⟨rfl, hb⟩
 replace HB := Lib.hid (HB.out.trans (hb.mono HB.out.size))
 clear hb
 go_wp2_with fail
 refine (S1.out w3 (HBB.out.below HB.out) (HN.out.below HB.out)).mono ?_
 rintro e w4 ⟨rfl, hb⟩
 replace HB := Lib.hid (HB.out.trans (hb.mono HB.out.size))
 clear hb
 by_cases c1 : Trk.nf b = Trk.nf n
 ·have HC1 := Lib.hid c1
  have d1 : decide (Trk.nf b = Trk.nf n) = true := decide_eq_true c1
  rw [d1]
  clear c1 d1
  go_wp2_with fail
  refine (NA.out w4 (HA.out.below HB.out)).mono ?_
  rintro e wp ⟨r1, rfl, ho, hb⟩
  replace HB := Lib.hid (HB.out.trans (hb.mono HB.out.size))
  have HO := Lib.hid ho.tg
  clear hb ho
  go_wp2_with fail
  refine (CA'.out r1 wp HO.out).mono ?_
  rintro e wq ⟨r2, rfl, ho, hb⟩
  have HO2 := Lib.hid ho
  have HB2 := Lib.hid (HB.out.trans (hb.mono HB.out.size))
  have HLE := Lib.hid HB.out.size
  clear hb ho
  go_wp2_with fail
  go_ret2
  exact ⟨_, rfl, by rw [HR.out]; unfold shortL; rw [if_pos (Or.inl HC1.out)]; exact HO2.out.lower HLE.out, HB2.out⟩
 have HC1 := Lib.hid c1
 have d1 : decide (Trk.nf b = Trk.nf n) = false := decide_eq_false c1
 rw [d1]
 clear c1 d1
 go_wp2_with fail
 refine (S2.out w4 (HBB.out.below HB.out) (HA.out.below HB.out)).mono ?_
 rintro e w5 ⟨rfl, hb⟩
 replace HB := Lib.hid (HB.out.trans (hb.mono HB.out.size))
 clear hb
 by_cases c2 : Trk.nf b = Trk.nf a
 ·have HC2 := Lib.hid c2
  have d1 : decide (Trk.nf b = Trk.nf a) = true := decide_eq_true c2
  rw [d1]
  clear c2 d1
  go_wp2_with fail
  refine (NA.out w5 (HA.out.below HB.out)).mono ?_
  rintro e wp ⟨r1, rfl, ho, hb⟩
  replace HB := Lib.hid (HB.out.trans (hb.mono HB.out.size))
  have HO := Lib.hid ho.tg
  clear hb ho
  go_wp2_with fail
  refine (CA'.out r1 wp HO.out).mono ?_
  rintro e wq ⟨r2, rfl, ho, hb⟩
  have HO2 := Lib.hid ho
  have HB2 := Lib.hid (HB.out.trans (hb.mono HB.out.size))
  have HLE := Lib.hid HB.out.size
  clear hb ho
  go_wp2_with fail
  go_ret2
  exact ⟨_, rfl, by rw [HR.out]; unfold shortL; rw [if_pos (Or.inr HC2.out)]; exact HO2.out.lower HLE.out, HB2.out⟩
 have HC2 := Lib.hid c2
 have d1 : decide (Trk.nf b = Trk.nf a) = false := decide_eq_false c2
 have c3 : Trk.nf a = Trk.nf n := by rcases HS.out with h | h | h; exact absurd h HC1.out; exact absurd h c2; exact h
 have d3 : decide (Trk.nf a = Trk.nf n) = true := decide_eq_true c3
 rw [d1]
 clear c2 d1 c3
 go_wp2_with fail
 refine (S3.out w5 (HA.out.below HB.out) (HN.out.below HB.out)).mono ?_
 rintro e w6 ⟨rfl, hb⟩
 replace HB := Lib.hid (HB.out.trans (hb.mono HB.out.size))
 clear hb
 rw [d3]
 clear d3
 go_wp2_with fail
 refine (NB.out w6 (HBB.out.below HB.out)).mono ?_
 rintro e wp ⟨r1, rfl, ho, hb⟩
 replace HB := Lib.hid (HB.out.trans (hb.mono HB.out.size))
 have HO := Lib.hid ho.tg
 clear hb ho
 go_wp2_with fail
 refine (CB'.out r1 wp HO.out).mono ?_
 rintro e wq ⟨r2, rfl, ho, hb⟩
 have HO2 := Lib.hid ho
 have HB2 := Lib.hid (HB.out.trans (hb.mono HB.out.size))
 have HLE := Lib.hid HB.out.size
 clear hb ho
 go_wp2_with fail
 go_ret2
 exact ⟨_, rfl, by rw [HR.out]; unfold shortL; rw [if_neg (fun h => h.elim HC1.out HC2.out)]; exact HO2.out.lower HLE.out, HB2.out⟩
set_option maxRecDepth 100000 in
set_option maxHeartbeats 16000000 in
theorem mergeg_long (D1 D2 D3 : Nat) (vn va vb : Value) (n a b : List Trk.Clip) (w : World) (hn : TG w D1 vn n) (ha : TG w D2 va a) (hb : TG w D3 vb b) (Vn : TV n) (Va : TV a) (Vb : TV b) (hs : ¬ shortC n a b) :
  Calls Tryz.prog 17 #[vn, va, vb] w (MergeG w n a b) := by
 have HN := Lib.hid hn
 have HA := Lib.hid ha
 have HBB := Lib.hid hb
 have V1 := Lib.hid (fun (w : World) (h : TG w D1 vn n) => vtrackg_yes D1 vn n w h Vn)
 have V2 := Lib.hid (fun (w : World) (h : TG w D2 va a) => vtrackg_yes D2 va a w h Va)
 have V3 := Lib.hid (fun (w : World) (h : TG w D3 vb b) => vtrackg_yes D3 vb b w h Vb)
 have S1 := Lib.hid (fun (w : World) (h : TG w D3 vb b) (h' : TG w D1 vn n) => sameg_any D3 D1 vb vn b n w h h' Vb Vn)
 have S2 := Lib.hid (fun (w : World) (h : TG w D3 vb b) (h' : TG w D2 va a) => sameg_any D3 D2 vb va b a w h h' Vb Va)
 have S3 := Lib.hid (fun (w : World) (h : TG w D2 va a) (h' : TG w D1 vn n) => sameg_any D2 D1 va vn a n w h h' Va Vn)
 have HS := Lib.hid hs
 rw [decide_eq_false (fun h => hs (.inl h))] at S1
 rw [decide_eq_false (fun h => hs (.inr (.inl h)))] at S2
 rw [decide_eq_false (fun h => hs (.inr (.inr h)))] at S3
 have NN := Lib.hid (fun (w : World) (h : TG w D1 vn n) => normalg_any D1 vn n w h Vn)
 have NA := Lib.hid (fun (w : World) (h : TG w D2 va a) => normalg_any D2 va a w h Va)
 have NB := Lib.hid (fun (w : World) (h : TG w D3 vb b) => normalg_any D3 vb b w h Vb)
 have C1 := Lib.hid (fun (v u : Value) (w : World) (h : TG w 0 v (Trk.nf n)) (h' : TG w 0 u (Trk.nf a)) => compareg_any 0 0 v u _ _ w h h' Vn.nf Va.nf)
 have C2 := Lib.hid (fun (v u : Value) (w : World) (h : TG w 0 v (Trk.nf n)) (h' : TG w 0 u (Trk.nf b)) => compareg_any 0 0 v u _ _ w h h' Vn.nf Vb.nf)
 have RP := Lib.hid (fun (v xv yv : Value) (x1 x2 : List Trk.Clip) (p1 q1 p2 q2 E1 E2 : Int) (w : World) (h : TG w 0 v (Trk.nf n)) (hx : TG w 0 xv x1) (hy : TG w 0 yv x2) (Vx : TV x1) (Vy : TV x2) (he1 : E1 = 0 ∨ E1 = 2) (he2 : E2 = 0 ∨ E2 = 2) (i0 : 0 ≤ p1) (i1 : p1 ≤ q1) (i2 : q1 ≤ p2) (i3 : p2 ≤ q2) (i4 : q2 ≤ Trk.total (Trk.nf n)) =>
  replaceg_any 0 0 0 v xv yv _ x1 x2 p1 q1 p2 q2 E1 E2 w h hx hy Vn.nf Vx Vy he1 he2 i0 i1 i2 i3 i4)
 have VD1 := Lib.hid (fun (p q E : Int) (x : List Trk.Clip) (h : DG (Trk.nf n) (Trk.nf a) p q x E) => h.tv Va.nf)
 have VD2 := Lib.hid (fun (p q E : Int) (x : List Trk.Clip) (h : DG (Trk.nf n) (Trk.nf b) p q x E) => h.tv Vb.nf)
 obtain ⟨xn, cn, rfl⟩ := hn.form
 obtain ⟨xa, ca, rfl⟩ := ha.form
 obtain ⟨xb, cb, rfl⟩ := hb.form
 obtain ⟨nn, hnn⟩ : ∃ k, k = n.length := ⟨_, rfl⟩
 obtain ⟨na, hna⟩ : ∃ k, k = a.length := ⟨_, rfl⟩
 obtain ⟨nb, hnb⟩ : ∃ k, k = b.length := ⟨_, rfl⟩
 rw [← hnn] at HN V1 S1 S3 NN ⊢
 rw [← hna] at HA V2 S2 S3 NA ⊢
 rw [← hnb] at HBB V3 S1 S2 NB ⊢
 clear hn ha hb Vn Va Vb hnn hna hnb hs
 go_enter Tryz.func17, Tryz.ntmps17
 go_wp2_with fail
 refine (V1.out w HN.out).mono ?_
 rintro e w1 ⟨rfl, hb⟩
 have HB := Lib.hid hb
 clear hb
 go_wp2_with fail
 refine (V2.out w1 (HA.out.below HB.out)).mono ?_
 rintro e w2 ⟨rfl, hb⟩
 replace HB := Lib.hid (HB.out.trans (hb.mono HB.out.size))
 clear hb
 go_wp2_with fail
 refine (V3.out w2 (HBB.out.below HB.out)).mono ?_
 rintro e w3 ⟨rfl, hb⟩
 replace HB := Lib.hid (HB.out.trans (hb.mono HB.out.size))
 clear hb
 go_wp2_with fail
 refine (S1.out w3 (HBB.out.below HB.out) (HN.out.below HB.out)).mono ?_
 rintro e w4 ⟨rfl, hb⟩
 replace HB := Lib.hid (HB.out.trans (hb.mono HB.out.size))
 clear hb
 go_wp2_with fail
 refine (S2.out w4 (HBB.out.below HB.out) (HA.out.below HB.out)).mono ?_
 rintro e w5 ⟨rfl, hb⟩
 replace HB := Lib.hid (HB.out.trans (hb.mono HB.out.size))
 clear hb
 go_wp2_with fail
 refine (S3.out w5 (HA.out.below HB.out) (HN.out.below HB.out)).mono ?_
 rintro e w6 ⟨rfl, hb⟩
 replace HB := Lib.hid (HB.out.trans (hb.mono HB.out.size))
 clear hb
 go_wp2_with fail
 refine (NN.out w6 (HN.out.below HB.out)).mono ?_
 rintro e w7 ⟨v7, rfl, ho, hb⟩
 have H7 := Lib.hid ho.tg
 clear ho
 replace HB := Lib.hid (HB.out.trans (hb.mono HB.out.size))
 clear hb
 go_wp2_with fail
 refine (NA.out w7 (HA.out.below HB.out)).mono ?_
 rintro e w8 ⟨v8, rfl, ho, hb⟩
 have H8 := Lib.hid ho.tg
 clear ho
 replace H7 := Lib.hid (H7.out.below hb)
 replace HB := Lib.hid (HB.out.trans (hb.mono HB.out.size))
 clear hb
 go_wp2_with fail
 refine (C1.out _ _ w8 H7.out H8.out).mono ?_
 rintro e w9 ⟨p1, q1, xv, rfl, hdd, ho, hb⟩
 obtain ⟨E1, hE1, hEE1, hd⟩ : ∃ E, E = partE (Trk.nf a) p1 (Trk.total (Trk.nf a) - (Trk.total (Trk.nf n) - q1)) ∧ (E = 0 ∨ E = 2) ∧ True := ⟨_, rfl, partE_or _ _ _, trivial⟩
 obtain ⟨x1, hxx1⟩ : ∃ x, x = partR (Trk.nf a) p1 (Trk.total (Trk.nf a) - (Trk.total (Trk.nf n) - q1)) := ⟨_, rfl⟩
 rw [← hE1]
 rw [← hxx1] at ho
 have D1 := Lib.hid (show DG (Trk.nf n) (Trk.nf a) p1 q1 x1 E1 from ⟨hdd, hxx1, hE1⟩)
 have H9 := Lib.hid ho.tg
 have HEE1 := Lib.hid hEE1
 clear ho hd hdd hEE1 hE1 hxx1 H8
 replace H7 := Lib.hid (H7.out.below hb)
 replace HB := Lib.hid (HB.out.trans (hb.mono HB.out.size))
 clear hb
 go_wp2_with fail
 refine (NB.out w9 (HBB.out.below HB.out)).mono ?_
 rintro e w10 ⟨v10, rfl, ho, hb⟩
 have H10 := Lib.hid ho.tg
 clear ho
 replace H7 := Lib.hid (H7.out.below hb)
 replace H9 := Lib.hid (H9.out.below hb)
 replace HB := Lib.hid (HB.out.trans (hb.mono HB.out.size))
 clear hb
 go_wp2_with fail
 refine (C2.out _ _ w10 H7.out H10.out).mono ?_
 rintro e w11 ⟨p2, q2, yv, rfl, hdd, ho, hb⟩
 obtain ⟨E2, hE2, hEE2, hd⟩ : ∃ E, E = partE (Trk.nf b) p2 (Trk.total (Trk.nf b) - (Trk.total (Trk.nf n) - q2)) ∧ (E = 0 ∨ E = 2) ∧ True := ⟨_, rfl, partE_or _ _ _, trivial⟩
 obtain ⟨x2, hxx2⟩ : ∃ x, x = partR (Trk.nf b) p2 (Trk.total (Trk.nf b) - (Trk.total (Trk.nf n) - q2)) := ⟨_, rfl⟩
 rw [← hE2]
 rw [← hxx2] at ho
 have D2 := Lib.hid (show DG (Trk.nf n) (Trk.nf b) p2 q2 x2 E2 from ⟨hdd, hxx2, hE2⟩)
 have H11 := Lib.hid ho.tg
 have HEE2 := Lib.hid hEE2
 clear ho hd hdd hEE2 hE2 hxx2 H10
 replace H7 := Lib.hid (H7.out.below hb)
 replace H9 := Lib.hid (H9.out.below hb)
 replace HB := Lib.hid (HB.out.trans (hb.mono HB.out.size))
 clear hb
 clear V1 V2 V3 S1 S2 S3 NN NA NB C1 C2 HN HA HBB
 obtain ⟨xo, xc, hxv⟩ := H9.out.form
 obtain ⟨yo, yc, hyv⟩ := H11.out.form
 obtain ⟨lx, hlx⟩ : ∃ k, k = x1.length := ⟨_, rfl⟩
 obtain ⟨ly, hly⟩ : ∃ k, k = x2.length := ⟨_, rfl⟩
 rw [← hlx] at hxv
 rw [← hly] at hyv
 subst hxv hyv
 clear hlx hly
 go_upto_region 9 with fail
 obtain ⟨w12, hw12⟩ : ∃ z, z = (w11.alloc (.cells #[.int .i64 p1, .int .i64 q1, .slice xo lx xc, .int .i64 E1] 98)).alloc (.cells #[.int .i64 p2, .int .i64 q2, .slice yo ly yc, .int .i64 E2] 98) := ⟨_, rfl⟩
 obtain ⟨g1, hg1⟩ : ∃ g, g = w11.heap.size := ⟨_, rfl⟩
 obtain ⟨g2, hg2⟩ : ∃ g, g = w11.heap.size + 1 := ⟨_, rfl⟩
 have hb : Below w11.heap.size w11 w12 := by rw [hw12]; go_grown
 have HD := Lib.hid (show D4 w12 g1 p1 q1 (.slice xo lx xc) E1 by rw [hw12, hg1]; exact ⟨by simp [go_sem], by simp [go_sem], by simp [go_sem], by simp [go_sem], fun o => by simp [go_sem]⟩)
 have HE := Lib.hid (show D4 w12 g2 p2 q2 (.slice yo ly yc) E2 by rw [hw12, hg2]; exact ⟨by simp [go_sem], by simp [go_sem], by simp [go_sem], by simp [go_sem], fun o => by simp [go_sem]⟩)
 rw [← hw12, ← hg2, ← hg1]
 have HG := Lib.hid (show w11.heap.size ≤ g1 ∧ w11.heap.size ≤ g2 ∧ g1 ≠ g2 by omega)
 have HBW := Lib.hid hb
 have HLE := Lib.hid HB.out
 clear hb hw12 hg1 hg2 HB
 obtain ⟨d0, d1, d2, d3, df⟩ := HD.out
 obtain ⟨e0, e1, e2, e3, ef⟩ := HE.out
 have n12 := HG.out.2.2
 have n21 := Ne.symm n12
 by_cases hsw : q2 < p1
 ·have hz : decide (q2 < p1) = true := decide_eq_true hsw
  go_upto_region 11 with fail
  obtain ⟨w13, hw13⟩ : ∃ z, z = (((((((w12.setCell ⟨g1, 0, none⟩ (.int .i64 p2)).setCell ⟨g1, 1, none⟩ (.int .i64 q2)).setCell ⟨g1, 2, none⟩ (.slice yo ly yc)).setCell ⟨g1, 3, none⟩ (.int .i64 E2)).setCell ⟨g2, 0, none⟩ (.int .i64 p1)).setCell ⟨g2, 1, none⟩ (.int .i64 q1)).setCell ⟨g2, 2, none⟩ (.slice xo lx xc)).setCell ⟨g2, 3, none⟩ (.int .i64 E1) := ⟨_, rfl⟩
  rw [← hw13]
  have h13 : D4 w13 g1 p2 q2 (.slice yo ly yc) E2 ∧ D4 w13 g2 p1 q1 (.slice xo lx xc) E1 := by
   rw [hw13]
   have hd := HD.out.put p2 q2 (.slice yo ly yc) E2
   have he := (((HE.out.other n21 0 (.int .i64 p2)).other n21 1 (.int .i64 q2)).other n21 2 (.slice yo ly yc)).other n21 3 (.int .i64 E2)
   exact ⟨(((hd.other n12 _ _).other n12 _ _).other n12 _ _).other n12 _ _, he.put p1 q1 (.slice xo lx xc) E1⟩
  have hb13 : Below w11.heap.size w11 w13 := by
   rw [hw13]
   have l1 := HG.out.1
   have l2 := HG.out.2.1
   exact (((((((HBW.out.setCell (p := ⟨g1, 0, none⟩) l1 _).setCell (p := ⟨g1, 1, none⟩) l1 _).setCell (p := ⟨g1, 2, none⟩) l1 _).setCell (p := ⟨g1, 3, none⟩) l1 _).setCell (p := ⟨g2, 0, none⟩) l2 _).setCell (p := ⟨g2, 1, none⟩) l2 _).setCell (p := ⟨g2, 2, none⟩) l2 _).setCell (p := ⟨g2, 3, none⟩) l2 _
  replace HBW := Lib.hid hb13
  replace H7 := Lib.hid (H7.out.below hb13)
  replace H9 := Lib.hid (H9.out.below hb13)
  replace H11 := Lib.hid (H11.out.below hb13)
  have H13 := Lib.hid h13
  clear hw13 hb13 h13 HD HE d0 d1 d2 d3 df e0 e1 e2 e3 ef hz
  obtain ⟨d0, d1, d2, d3, df⟩ := H13.out.1
  obtain ⟨e0, e1, e2, e3, ef⟩ := H13.out.2
  have hz2 : ¬ p1 ≤ q2 := by omega
  obtain ⟨a0, a1, a2, a3, a4⟩ := D1.out.d.le
  obtain ⟨b0, b1, b2, b3, b4⟩ := D2.out.d.le
  clear a3 a4 b3 b4
  go_wp2_with fail
  refine (RP.out v7 (.slice yo ly yc) (.slice xo lx xc) x2 x1 p2 q2 p1 q1 E2 E1 _ H7.out H11.out H9.out (VD2.out _ _ _ _ D2.out) (VD1.out _ _ _ _ D1.out) HEE2.out HEE1.out (by omega) (by omega) (by omega) (by omega) (by omega)).mono ?_
  rintro e w14 ⟨v14, code, x, rfl, ho, hb, hr⟩
  have HO := Lib.hid (ho.lower (Nat.le_trans HLE.out.size HBW.out.size))
  have HR := Lib.hid hr
  have HBZ := Lib.hid (HLE.out.trans ((HBW.out.trans (hb.mono HBW.out.size)).mono HLE.out.size))
  clear ho hb hr
  go_wp2_with fail
  go_ret2
  exact ⟨_, _, _, rfl, HO.out, HBZ.out, .inr ⟨HS.out, _, _, _, _, _, _, _, _, .inr ⟨D2.out, D1.out, hsw⟩, .inr ⟨hsw, HR.out⟩⟩⟩
 ·replace H7 := Lib.hid (H7.out.below HBW.out)
  replace H9 := Lib.hid (H9.out.below HBW.out)
  replace H11 := Lib.hid (H11.out.below HBW.out)
  obtain ⟨a0, a1, a2, a3, a4⟩ := D1.out.d.le
  obtain ⟨b0, b1, b2, b3, b4⟩ := D2.out.d.le
  clear a3 a4 b3 b4
  by_cases hcf : p2 ≤ q1
  ·have HBZ := Lib.hid (HLE.out.trans (HBW.out.mono HLE.out.size))
   go_wp2_with fail
   go_ret2
   exact ⟨_, _, _, rfl, OG.nil _ _ _, HBZ.out, .inr ⟨HS.out, _, _, _, _, _, _, _, _, .inl ⟨D1.out, D2.out, by omega⟩, .inl ⟨hcf, rfl, rfl⟩⟩⟩
  go_wp2_with fail
  refine (RP.out v7 (.slice xo lx xc) (.slice yo ly yc) x1 x2 p1 q1 p2 q2 E1 E2 _ H7.out H9.out H11.out (VD1.out _ _ _ _ D1.out) (VD2.out _ _ _ _ D2.out) HEE1.out HEE2.out (by omega) (by omega) (by omega) (by omega) (by omega)).mono ?_
  rintro e w14 ⟨v14, code, x, rfl, ho, hb, hr⟩
  have HO := Lib.hid (ho.lower (Nat.le_trans HLE.out.size HBW.out.size))
  have HR := Lib.hid hr
  have HBZ := Lib.hid (HLE.out.trans ((HBW.out.trans (hb.mono HBW.out.size)).mono HLE.out.size))
  clear ho hb hr
  go_wp2_with fail
  go_ret2
  exact ⟨_, _, _, rfl, HO.out, HBZ.out, .inr ⟨HS.out, _, _, _, _, _, _, _, _, .inl ⟨D1.out, D2.out, by omega⟩, .inr ⟨(by omega), HR.out⟩⟩⟩
theorem mergeg_any (D1 D2 D3 : Nat) (vn va vb : Value) (n a b : List Trk.Clip) (w : World) (hn : TG w D1 vn n) (ha : TG w D2 va a) (hb : TG w D3 vb b) (Vn : TV n) (Va : TV a) (Vb : TV b) :
  Calls Tryz.prog 17 #[vn, va, vb] w (MergeG w n a b) := by
 by_cases hs : shortC n a b
 ·refine (mergeg_short D1 D2 D3 vn va vb n a b w hn ha hb Vn Va Vb hs).mono ?_
  rintro e w' ⟨v', rfl, ho, hbb⟩
  exact ⟨_, _, _, rfl, ho, hbb, .inl ⟨hs, rfl, rfl⟩⟩
 ·exact mergeg_long D1 D2 D3 vn va vb n a b w hn ha hb Vn Va Vb hs
end Go.Proofs.YtfoohocgdcgbcaaGreat
namespace Go.Trk
theorem Pre.uniq {n m : List Clip} {p q : Int} (h : Pre n m p) (k : Pre n m q) : p = q := by
 have h1 := h.h1
 have h2 := h.h2
 have k1 := k.h1
 have k2 := k.h2
 rcases Int.lt_trichotomy p q with e | e | e
 ·exact absurd (k.f p h.h0 e) (h.x (by omega) (by omega))
 ·exact e
 ·exact absurd (h.f q k.h0 e) (k.x (by omega) (by omega))
theorem Suf.uniq {n m : List Clip} {lim p q : Int} (h : Suf n m lim p) (k : Suf n m lim q) : p = q := by
 have h1 := h.h1
 have k1 := k.h1
 rcases Int.lt_trichotomy p q with e | e | e
 ·exact absurd (k.f p h.h0 e) (h.x (by omega))
 ·exact e
 ·exact absurd (h.f q k.h0 e) (k.x (by omega))
theorem Diff.uniq {n m x y : List Clip} {p q p' q' : Int} (h : Diff n m p q x) (k : Diff n m p' q' y) : p = p' ∧ q = q' := by
 have e := h.pre.uniq k.pre
 subst e
 have := h.suf.uniq k.suf
 exact ⟨rfl, by omega⟩
end Go.Trk
namespace Go.Proofs.YtfoohocgdcgbcaaGreat
open Go.RowKit
theorem DG.uniq {n m x y : List Trk.Clip} {p q e p' q' e' : Int} (h : DG n m p q x e) (k : DG n m p' q' y e') : p = p' ∧ q = q' ∧ x = y ∧ e = e' := by
 obtain ⟨rfl, rfl⟩ := h.d.uniq k.d
 exact ⟨rfl, rfl, h.x.trans k.x.symm, h.e.trans k.e.symm⟩
theorem GlueR.uniq {P : List (List Trk.Clip)} {c d : Int} {x y : List Trk.Clip} (h : GlueR P c x) (k : GlueR P d y) : c = d ∧ x = y := by
 rcases h with ⟨rfl, rfl, i, hi, hl⟩ | ⟨rfl, rfl, hl⟩ <;> rcases k with ⟨rfl, rfl, j, hj, kl⟩ | ⟨rfl, rfl, kl⟩
 ·exact ⟨rfl, rfl⟩
 ·have := kl i hi; omega
 ·have := hl j hj; omega
 ·exact ⟨rfl, rfl⟩
theorem RepG.uniq {n x1 x2 x y : List Trk.Clip} {E1 p1 q1 E2 p2 q2 c d : Int} (h : RepG n E1 p1 q1 x1 E2 p2 q2 x2 c x) (k : RepG n E1 p1 q1 x1 E2 p2 q2 x2 d y) : c = d ∧ x = y := by
 rcases h with ⟨h, rfl, rfl⟩ | ⟨h, hr⟩ <;> rcases k with ⟨k, rfl, rfl⟩ | ⟨k, kr⟩
 ·exact ⟨rfl, rfl⟩
 ·exact absurd k h
 ·exact absurd h k
 ·rcases hr with ⟨h1, rfl, rfl⟩ | ⟨h1, hg⟩ <;> rcases kr with ⟨k1, rfl, rfl⟩ | ⟨k1, kg⟩
  ·exact ⟨rfl, rfl⟩
  ·omega
  ·omega
  ·exact hg.uniq kg
def OutG (n : List Trk.Clip) (E1 p1 q1 : Int) (x1 : List Trk.Clip) (E2 p2 q2 : Int) (x2 : List Trk.Clip) (code : Int) (x : List Trk.Clip) : Prop :=
 (p2 ≤ q1 ∧ code = 12 ∧ x = []) ∨ (q1 < p2 ∧ RepG n E1 p1 q1 x1 E2 p2 q2 x2 code x)
theorem OutG.uniq {n x1 x2 x y : List Trk.Clip} {E1 p1 q1 E2 p2 q2 c d : Int} (h : OutG n E1 p1 q1 x1 E2 p2 q2 x2 c x) (k : OutG n E1 p1 q1 x1 E2 p2 q2 x2 d y) : c = d ∧ x = y := by
 rcases h with ⟨h, rfl, rfl⟩ | ⟨h, hr⟩ <;> rcases k with ⟨k, rfl, rfl⟩ | ⟨k, kr⟩
 ·exact ⟨rfl, rfl⟩
 ·omega
 ·omega
 ·exact hr.uniq kr
theorem OutG.clash {n x1 x2 x : List Trk.Clip} {E1 p1 q1 E2 p2 q2 c : Int} (h : OutG n E1 p1 q1 x1 E2 p2 q2 x2 c x) (hp : p2 ≤ q1) : c = 12 ∧ x = [] := by
 rcases h with ⟨_, rfl, rfl⟩ | ⟨h, _⟩
 ·exact ⟨rfl, rfl⟩
 ·omega
theorem LongG.sym {n a b x y : List Trk.Clip} {c d : Int} (h : LongG n a b c x) (k : LongG n b a d y) : c = d ∧ x = y := by
 obtain ⟨p1, q1, x1, E1, p2, q2, x2, E2, ht, ho⟩ := h
 obtain ⟨r1, s1, y1, F1, r2, s2, y2, F2, kt, ko⟩ := k
 replace ho : OutG n E1 p1 q1 x1 E2 p2 q2 x2 c x := ho
 replace ko : OutG n F1 r1 s1 y1 F2 r2 s2 y2 d y := ko
 rcases ht with ⟨ha, hb, hn⟩ | ⟨hb, ha, hn⟩ <;> rcases kt with ⟨kb, ka, kn⟩ | ⟨ka, kb, kn⟩
 ·obtain ⟨rfl, rfl, rfl, rfl⟩ := ha.uniq ka
  obtain ⟨rfl, rfl, rfl, rfl⟩ := hb.uniq kb
  have e1 := ho.clash (by omega)
  have e2 := ko.clash (by omega)
  exact ⟨e1.1.trans e2.1.symm, e1.2.trans e2.2.symm⟩
 ·obtain ⟨rfl, rfl, rfl, rfl⟩ := ha.uniq ka
  obtain ⟨rfl, rfl, rfl, rfl⟩ := hb.uniq kb
  exact ho.uniq ko
 ·obtain ⟨rfl, rfl, rfl, rfl⟩ := ha.uniq ka
  obtain ⟨rfl, rfl, rfl, rfl⟩ := hb.uniq kb
  exact ho.uniq ko
 ·obtain ⟨rfl, rfl, rfl, rfl⟩ := ha.uniq ka
  obtain ⟨rfl, rfl, rfl, rfl⟩ := hb.uniq kb
  have h1 := ha.d.le
  have h2 := hb.d.le
  omega
theorem shortC_sym {n a b : List Trk.Clip} : shortC n a b ↔ shortC n b a := by
 unfold shortC
 constructor
 ·rintro (h | h | h)
  ·exact .inr (.inr h)
  ·exact .inr (.inl h.symm)
  ·exact .inl h
 ·rintro (h | h | h)
  ·exact .inr (.inr h)
  ·exact .inr (.inl h.symm)
  ·exact .inl h
theorem shortL_sym {n a b : List Trk.Clip} (h : shortC n a b) : shortL n a b = shortL n b a := by
 unfold shortL
 by_cases h1 : Trk.nf b = Trk.nf n
 ·rw [if_pos (.inl h1)]
  by_cases h2 : Trk.nf a = Trk.nf n ∨ Trk.nf a = Trk.nf b
  ·rw [if_pos h2]
   rcases h2 with h2 | h2
   ·rw [h1, h2]
   ·exact h2
  ·rw [if_neg h2]
 ·by_cases h2 : Trk.nf b = Trk.nf a
  ·rw [if_pos (.inr h2), if_pos (.inr h2.symm)]
   exact h2.symm
  ·have h3 : Trk.nf a = Trk.nf n := by
    rcases h with h | h | h
    ·exact absurd h h1
    ·exact absurd h h2
    ·exact h
   rw [if_neg (fun h => h.elim h1 h2), if_pos (.inl h3)]
def MergeAG (n a b : List Trk.Clip) (code : Int) (x : List Trk.Clip) : Prop :=
 (¬ (TV n ∧ TV a ∧ TV b) ∧ code = 1 ∧ x = []) ∨ ((TV n ∧ TV a ∧ TV b) ∧ MergeVG n a b code x)
theorem MergeAG.sym {n a b x y : List Trk.Clip} {c d : Int} (h : MergeAG n a b c x) (k : MergeAG n b a d y) : c = d ∧ x = y := by
 rcases h with ⟨h, rfl, rfl⟩ | ⟨h, hr⟩ <;> rcases k with ⟨k, rfl, rfl⟩ | ⟨k, kr⟩
 ·exact ⟨rfl, rfl⟩
 ·exact absurd ⟨k.1, k.2.2, k.2.1⟩ h
 ·exact absurd ⟨h.1, h.2.2, h.2.1⟩ k
 ·rcases hr with ⟨h1, rfl, rfl⟩ | ⟨h1, hl⟩ <;> rcases kr with ⟨k1, rfl, rfl⟩ | ⟨k1, kl⟩
  ·exact ⟨rfl, shortL_sym h1⟩
  ·exact absurd (shortC_sym.1 h1) k1
  ·exact absurd (shortC_sym.1 k1) h1
  ·exact hl.sym kl
def MergeAP (w : World) (n a b : List Trk.Clip) (e : Ending) (w' : World) : Prop :=
 ∃ v' code x, e = .returned (.tuple #[v', .int .i64 code]) ∧ OG w' w.heap.size 0 v' x ∧ Below w.heap.size w w' ∧ MergeAG n a b code x
set_option maxRecDepth 100000 in
set_option maxHeartbeats 8000000 in
theorem merge_bad (D1 D2 D3 : Nat) (vn va vb : Value) (n a b : List Trk.Clip) (w : World) (hn : TG w D1 vn n) (ha : TG w D2 va a) (hb : TG w D3 vb b) (In : ∀ c ∈ n, InC c) (Ia : ∀ c ∈ a, InC c) (Ib : ∀ c ∈ b, InC c) (hbad : ¬ (TV n ∧ TV a ∧ TV b)) :
  Calls Tryz.prog 17 #[vn, va, vb] w fun e w' => e = .returned (.tuple #[.slice none 0 0, .int .i64 1]) ∧ Below w.heap.size w w' := by
 have HN := Lib.hid hn
 have HA := Lib.hid ha
 have HBB := Lib.hid hb
 have V1 := Lib.hid (fun (w : World) (h : TG w D1 vn n) => vtrackg_any D1 vn n w h In)
 have V2 := Lib.hid (fun (w : World) (h : TG w D2 va a) => vtrackg_any D2 va a w h Ia)
 have V3 := Lib.hid (fun (w : World) (h : TG w D3 vb b) => vtrackg_any D3 vb b w h Ib)
 have HBAD := Lib.hid hbad
 obtain ⟨xn, cn, rfl⟩ := hn.form
 obtain ⟨xa, ca, rfl⟩ := ha.form
 obtain ⟨xb, cb, rfl⟩ := hb.form
 obtain ⟨nn, hnn⟩ : ∃ k, k = n.length := ⟨_, rfl⟩
 obtain ⟨na, hna⟩ : ∃ k, k = a.length := ⟨_, rfl⟩
 obtain ⟨nb, hnb⟩ : ∃ k, k = b.length := ⟨_, rfl⟩
 rw [← hnn] at HN V1 ⊢
 rw [← hna] at HA V2 ⊢
 rw [← hnb] at HBB V3 ⊢
 clear hn ha hb In Ia Ib hnn hna hnb hbad
 go_enter Tryz.func17, Tryz.ntmps17
 go_wp2_with fail
 refine (V1.out w HN.out).mono ?_
 rintro e w1 ⟨rfl, hb⟩
 have HB := Lib.hid hb
 clear hb
 cases h1 : trackB n with
 | false =>
  go_wp2_with fail
  go_ret2
  exact ⟨rfl, HB.out⟩
 | true =>
  have T1 := Lib.hid (trackB_iff.1 h1)
  clear h1
  go_wp2_with fail
  refine (V2.out w1 (HA.out.below HB.out)).mono ?_
  rintro e w2 ⟨rfl, hb⟩
  replace HB := Lib.hid (HB.out.trans (hb.mono HB.out.size))
  clear hb
  cases h2 : trackB a with
  | false =>
   go_wp2_with fail
   go_ret2
   exact ⟨rfl, HB.out⟩
  | true =>
   have T2 := Lib.hid (trackB_iff.1 h2)
   clear h2
   go_wp2_with fail
   refine (V3.out w2 (HBB.out.below HB.out)).mono ?_
   rintro e w3 ⟨rfl, hb⟩
   replace HB := Lib.hid (HB.out.trans (hb.mono HB.out.size))
   clear hb
   cases h3 : trackB b with
   | false =>
    go_wp2_with fail
    go_ret2
    exact ⟨rfl, HB.out⟩
   | true => exact absurd ⟨T1.out, T2.out, trackB_iff.1 h3⟩ HBAD.out
open Classical in
theorem merge_all (D1 D2 D3 : Nat) (vn va vb : Value) (n a b : List Trk.Clip) (w : World) (hn : TG w D1 vn n) (ha : TG w D2 va a) (hb : TG w D3 vb b) (In : ∀ c ∈ n, InC c) (Ia : ∀ c ∈ a, InC c) (Ib : ∀ c ∈ b, InC c) :
  Calls Tryz.prog 17 #[vn, va, vb] w (MergeAP w n a b) := by
 by_cases h : TV n ∧ TV a ∧ TV b
 ·refine (mergeg_any D1 D2 D3 vn va vb n a b w hn ha hb h.1 h.2.1 h.2.2).mono ?_
  rintro e w' ⟨v', code, x, rfl, ho, hbb, hr⟩
  exact ⟨_, _, _, rfl, ho, hbb, .inr ⟨h, hr⟩⟩
 ·refine (merge_bad D1 D2 D3 vn va vb n a b w hn ha hb In Ia Ib h).mono ?_
  rintro e w' ⟨rfl, hbb⟩
  exact ⟨_, _, _, rfl, OG.nil _ _ _, hbb, .inl ⟨h, rfl, rfl⟩⟩
set_option maxRecDepth 100000 in
set_option maxHeartbeats 16000000 in
theorem sameclipg_self (c : Trk.Clip) (x y : Value) (w : World) (hx : IT w x c.chan) (hy : IT w y c.chan) : Calls Tryz.prog 59 #[clipGV c x, clipGV c y] w fun e w' => e = .returned (.bool true) ∧ Below w.heap.size w w' := by
 unfold clipGV
 have HX := Lib.hid hx
 have HY := Lib.hid hy
 obtain ⟨ax, cx, rfl, hx1, hx2, -⟩ := hx
 obtain ⟨ay, cy, rfl, hy1, hy2, -⟩ := hy
 obtain ⟨l, hl⟩ : ∃ l, l = c.chan := ⟨_, rfl⟩
 rw [← hl] at HX HY hx1 hy1 ⊢
 clear hl
 obtain ⟨N, hN⟩ : ∃ n, n = l.length := ⟨_, rfl⟩
 have hn63 : N ≤ 9223372036854775807 := by unfold maxLen at hx2; omega
 rw [← hN] at hx1 hy1 HX HY ⊢
 have HN := Lib.hid hN
 clear hN hx2 hy2
 obtain ⟨C, hC⟩ : ∃ C, C = (clipG c (.slice ax N cx)).toArray := ⟨_, rfl⟩
 obtain ⟨D, hD⟩ : ∃ D, D = (clipG c (.slice ay N cy)).toArray := ⟨_, rfl⟩
 rw [← hC, ← hD]
 have HCC := Lib.hid hC
 have HDD := Lib.hid hD
 clear hC hD
 have hqa := fun w => run_eq_src c.a c.a w
 have hqb := fun w => run_eq_src c.b c.b w
 simp only [decide_true] at hqa hqb
 have HQ := Lib.hid (And.intro hqa hqb)
 clear hqa hqb
 go_enter Tryz.func59, Tryz.ntmps59
 go_upto_region 1 with fail
 obtain ⟨w1, hw1⟩ : ∃ x, x = (w.alloc (.cells C 48)).alloc (.cells D 48) := ⟨_, rfl⟩
 rw [← hw1]
 rw [HCC.out, HDD.out] at hw1
 obtain ⟨hx, hy, hb1⟩ := boxG2_facts hw1
 obtain ⟨g1, hg1⟩ : ∃ g, g = w.heap.size := ⟨_, rfl⟩
 obtain ⟨g2, hg2⟩ : ∃ g, g = w.heap.size + 1 := ⟨_, rfl⟩
 rw [← hg2] at hy ⊢
 rw [← hg1] at hx ⊢
 replace HX := Lib.hid (HX.out.below hb1)
 replace HY := Lib.hid (HY.out.below hb1)
 have HB := Lib.hid hb1
 clear hw1 hb1 hg1 hg2
 obtain ⟨x0, x1, x2, x3, x4, x5, x6, x7, x8, x9, x10, x11, x12, x13, x14, x15, x16, x17, x18, x19, x20, x21⟩ := hx.c.at0
 obtain ⟨y0, y1, y2, y3, y4, y5, y6, y7, y8, y9, y10, y11, y12, y13, y14, y15, y16, y17, y18, y19, y20, y21⟩ := hy.c.at0
 clear hx hy
 go_wp2_with fail
 go_loopw [5] (fun i wr => ∃ k : Nat, k ≤ N ∧ i = .int .i64 (k : Int) ∧ ∃ n, wr = w1.drewN n) (fun i _ => N - (intOf i).toNat)
 case atStart => exact ⟨0, Nat.zero_le _, rfl, 0, rfl⟩
 case round =>
  obtain ⟨k, hk, rfl, n, rfl⟩ := hrel
  by_cases hlt : k < N
  ·have hlt' : (k : Int) < (N : Int) := by omega
   obtain ⟨c', hc⟩ : ∃ c, l[k]? = some c := ⟨_, List.getElem?_eq_getElem (by rw [← HN.out]; exact hlt)⟩
   have HC := Lib.hid hc
   obtain ⟨b1, o1, rfl, d1⟩ : ∃ b o, ax = some ⟨b, o, none⟩ ∧ (w1.cell? ⟨b, o + k, none⟩ = some (.int .i64 c')) := by
    obtain ⟨a', c2, e, _, _, h3⟩ := HX.out
    obtain ⟨b, o, e2, _, h4⟩ := h3 k c' HC.out
    simp only [Value.slice.injEq] at e
    exact ⟨b, o, e.1.trans e2, h4⟩
   obtain ⟨b2, o2, rfl, d2⟩ : ∃ b o, ay = some ⟨b, o, none⟩ ∧ (w1.cell? ⟨b, o + k, none⟩ = some (.int .i64 c')) := by
    obtain ⟨a', c2, e, _, _, h3⟩ := HY.out
    obtain ⟨b, o, e2, _, h4⟩ := h3 k c' HC.out
    simp only [Value.slice.injEq] at e
    exact ⟨b, o, e.1.trans e2, h4⟩
   clear hc
   have hcd' : (c' != c') = false := by simp
   clear x0 x1 x2 x3 x4 x5 x6 x7 x8 x9 x10 x11 x12 x13 x14 x15 x16 x17 x18 x19 x20 y0 y1 y2 y3 y4 y5 y6 y7 y8 y9 y10 y11 y12 y13 y14 y15 y16 y17 y18 y19 y20
   go_wp2_with fail
   go_quiet (fail)
   go_wp2_with fail
   go_roundw
   case rel => exact ⟨k + 1, by omega, by simp, _, rfl⟩
   case measure =>
    show N - (intOf (.int .i64 ((k : Int) + 1))).toNat < N - (intOf (.int .i64 (k : Int))).toNat
    simp [intOf]
    omega
  ·have hkl : k = N := by omega
   subst hkl
   clear hlt
   obtain ⟨hqa, hqb⟩ := HQ.out
   go_wp2_with fail
   go_ret
   exact ⟨rfl, below_drewN HB.out _⟩
set_option maxRecDepth 100000 in
set_option maxHeartbeats 16000000 in
theorem equalg_self (C1 C2 : Nat) (v u : Value) (l : List Trk.Clip) (w : World) (h : TG w C1 v l) (h' : TG w C2 u l) :
  Calls Tryz.prog 19 #[v, u] w fun e w' => e = .returned (.bool true) ∧ Below w.heap.size w w' := by
 obtain ⟨ao, cap, rfl, hc1, hc2, hT⟩ := h
 obtain ⟨bo, dap, rfl, hd1, hd2, hU⟩ := h'
 have HT := Lib.hid (show TG w C1 (.slice ao l.length cap) l from ⟨ao, cap, rfl, hc1, hc2, hT⟩)
 have HU := Lib.hid (show TG w C2 (.slice bo l.length dap) l from ⟨bo, dap, rfl, hd1, hd2, hU⟩)
 clear hT hU
 obtain ⟨N, hN⟩ : ∃ N, N = l.length := ⟨_, rfl⟩
 rw [← hN] at hc1 hd1
 have hNm : N ≤ 9223372036854775807 := Nat.le_trans hc1 (by unfold maxLen at hc2; omega)
 have HLe := Lib.hid hN
 rw [← hN]
 clear hN hc2 hd2
 go_enter Tryz.func19, Tryz.ntmps19
 go_wp2_with fail
 go_loopw [5] (fun v5 wr => ∃ k : Nat, k ≤ N ∧ v5 = .int .i64 (k : Int) ∧ Below w.heap.size w wr) (fun i _ => N - (intOf i).toNat)
 case atStart => exact ⟨0, Nat.zero_le _, rfl, Below.refl _ _⟩
 case round =>
  obtain ⟨k, hk, rfl, hb⟩ := hrel
  by_cases hlt : k < N
  ·have hlt' : (k : Int) < (N : Int) := by omega
   have hkl : k < l.length := by rw [← HLe.out]; exact hlt
   obtain ⟨c, hc⟩ : ∃ c, l[k]? = some c := ⟨_, List.getElem?_eq_getElem hkl⟩
   obtain ⟨ao', cap', e, _, _, hT⟩ := HT.out.below hb
   simp only [Value.slice.injEq, true_and] at e
   obtain ⟨rfl, rfl⟩ := e
   obtain ⟨b, o, x, rfl, hA, hX⟩ := hT k c hc
   obtain ⟨ax, cx, ex⟩ := hX.form
   obtain ⟨nx, hnx⟩ : ∃ n, n = c.chan.length := ⟨_, rfl⟩
   rw [← hnx] at ex
   subst ex
   obtain ⟨bo', dap', e, _, _, hU⟩ := HU.out.below hb
   simp only [Value.slice.injEq, true_and] at e
   obtain ⟨rfl, rfl⟩ := e
   obtain ⟨b2, o2, y, rfl, hA2, hY⟩ := hU k c hc
   obtain ⟨ay, cy, ey⟩ := hY.form
   rw [← hnx] at ey
   subst ey
   have HIX := Lib.hid (And.intro hX.it hY.it)
   have HA := Lib.hid hA
   have HA2 := Lib.hid hA2
   have HB := Lib.hid hb
   have HSC := Lib.hid (fun (w1 : World) (h1 : IT w1 (.slice ax nx cx) c.chan) (h2 : IT w1 (.slice ay nx cy) c.chan) => sameclipg_self c _ _ w1 h1 h2)
   unfold clipGV at HSC
   obtain ⟨C, hC⟩ : ∃ C, C = (clipG c (.slice ax nx cx)).toArray := ⟨_, rfl⟩
   obtain ⟨D, hD⟩ : ∃ D, D = (clipG c (.slice ay nx cy)).toArray := ⟨_, rfl⟩
   rw [← hC, ← hD] at HSC
   have HC := Lib.hid hC
   have HD := Lib.hid hD
   clear hT hU hA hA2 hb hc hkl hC hD hX hY hnx
   go_upto_region 6 with fail
   refine Plan.wp_region_plan (fun w' => GA w' b (o + k * 22) c (.slice ax nx cx) ∧ GA w' b2 (o2 + k * 22) c (.slice ay nx cy)) (([0, 1, 2, 3, 4, 5, 6, 7].map (·, true)) ++ (([8].map (·, false)) ++ ([9].map (·, true)))) (by kernel_rfl) (by kernel_rfl) (by kernel_rfl) ⟨HA.out.below (Below.refl _ _).drew, HA2.out.below (Below.refl _ _).drew⟩ ?_
   refine' Plan.plan_seg _ [0, 1, 2, 3, 4, 5, 6, 7] (([8].map (·, false)) ++ ([9].map (·, true))) (by kernel_rfl) (by kernel_rfl) rfl (by exact ⟨HA.out.below (Below.refl _ _).drew, HA2.out.below (Below.refl _ _).drew⟩) (fun wx hS => ?_) ?_
   rotate_left
   ·obtain ⟨S1, S2⟩ := hS
    have HS1 := Lib.hid S1
    have HS2 := Lib.hid S2
    clear S1 S2
    go_light
    iterate 3 (apply Plan.seg_pick; rfl; intro K hK; go_wp)
    (apply Plan.seg_pick; rfl; intro K hK)
    refine wpl_loadG HS1.out rfl rfl rfl ?_
    rw [← HC.out]
    go_wp
    iterate 3 (apply Plan.seg_pick; rfl; intro K hK; go_wp)
    (apply Plan.seg_pick; rfl; intro K hK)
    refine wpl_loadG HS2.out rfl rfl rfl ?_
    rw [← HD.out]
    go_wp
    exact Plan.seg_nil
   obtain ⟨w4, hw4⟩ : ∃ x, x = wr.drew := ⟨_, rfl⟩
   rw [← hw4]
   have hb : Below wr.heap.size wr w4 := by rw [hw4]; exact (Below.refl _ _).drew
   replace HA := Lib.hid (HA.out.below hb)
   replace HA2 := Lib.hid (HA2.out.below hb)
   replace HIX := Lib.hid (And.intro (HIX.out.1.below hb) (HIX.out.2.below hb))
   replace HB := Lib.hid (HB.out.trans (hb.mono HB.out.size))
   clear hb hw4
   refine Plan.plan_of_effect rfl (fun K hK => ?_)
   go_wp2_with fail
   refine (HSC.out _ HIX.out.1 HIX.out.2).mono ?_
   rintro e w5 ⟨rfl, hb⟩
   replace HA := Lib.hid (HA.out.below hb)
   replace HA2 := Lib.hid (HA2.out.below hb)
   replace HIX := Lib.hid (And.intro (HIX.out.1.below hb) (HIX.out.2.below hb))
   replace HB := Lib.hid (HB.out.trans (hb.mono HB.out.size))
   clear hb
   go_wp2_with fail
   refine ⟨⟨HA.out, HA2.out⟩, ?_⟩
   refine' Plan.plan_seg _ [9] [] (by kernel_rfl) (by kernel_rfl) rfl (by exact ⟨HA.out, HA2.out⟩) (fun wx hS => ?_) ?_
   rotate_left
   ·clear hS
    go_light
    iterate 1 (apply Plan.seg_pick; rfl; intro K hK; go_wp)
    exact Plan.seg_nil
   refine Plan.plan_done ?_
   go_wp2_with fail
   go_roundw
   case rel => exact ⟨k + 1, by omega, by simp, HB.out⟩
   case measure =>
    show N - (intOf (.int .i64 ((k : Int) + 1))).toNat < N - (intOf (.int .i64 (k : Int))).toNat
    simp [intOf]
    omega
  ·have hkl : k = N := by omega
   have HB := Lib.hid hb
   clear hb
   subst hkl
   go_wp2_with fail
   go_ret
   exact ⟨rfl, HB.out⟩
theorem two_text {c d : UInt8} {P : Nat → Prop} {m : Nat} (hm : 2 ≤ m) (hc : P c.toNat) (hd : P d.toNat) : TextP P m ⟨#[c, d]⟩ :=
 ⟨show 1 ≤ 2 by decide, hm, fun i hi => by
  have hi2 : i < 2 := hi
  rcases (show i = 0 ∨ i = 1 by omega) with rfl | rfl
  ·exact hc
  ·exact hd⟩
theorem one_text {c : UInt8} {P : Nat → Prop} {m : Nat} (hm : 1 ≤ m) (hc : P c.toNat) : TextP P m ⟨#[c]⟩ :=
 ⟨show 1 ≤ 1 by decide, hm, fun i hi => by
  have hi2 : i < 1 := hi
  obtain rfl : i = 0 := by omega
  exact hc⟩
theorem okName_text {s : ByteArray} (h : Trk.okName s) : TextP NC 32 s ∧ s.size ≤ 2 := by
 rcases h with ⟨c, d, rfl, h0, h1, h2, h3⟩ | ⟨c, rfl, h0, h1⟩
 ·exact ⟨two_text (by decide) (.inl ⟨by omega, by omega⟩) (.inr (.inl ⟨by omega, by omega⟩)), Nat.le_refl 2⟩
 ·exact ⟨one_text (by decide) (.inl ⟨by omega, by omega⟩), show 1 ≤ 2 by decide⟩
theorem okLine_text {s : ByteArray} (h : Trk.okLine s) : TextP LC 64 s :=
 ⟨h.1, h.2.1, fun i hi => by have := h.2.2 i hi; exact ⟨by omega, by omega⟩⟩
theorem srcOK_of {L n : Int} {s : Trk.Src} (h : Trk.SrcP L n s) (hL : L ≤ 140737488355328) : SrcOK s ∧ InS s := by
 obtain ⟨a0, a1, s0, s1, n0, n1, v0, v1⟩ := h.nums
 obtain ⟨f0, f1⟩ := h.far hL
 have hda : s.ad.toNat ∣ 6006 := by
  have := h.lat.a
  rw [show s.ad = ((s.ad.toNat : Nat) : Int) by omega] at this
  exact Int.natCast_dvd_natCast.1 this
 have hds : s.sd.toNat ∣ 6006 := by
  have := h.lat.s
  rw [show s.sd = ((s.sd.toNat : Nat) : Int) by omega] at this
  exact Int.natCast_dvd_natCast.1 this
 have hl := lcm_le hda hds (by omega)
 have ga := h.lat.g.a1
 have gs := h.lat.g.s1
 have hn := okName_text h.nm
 refine ⟨⟨h.k, hn.1, ?_, ?_, by omega, by omega, by omega, by omega, by omega⟩, ⟨by rcases h.k with e | e <;> rw [e] <;> decide, by rcases h.k with e | e <;> rw [e] <;> decide, by have := hn.2; omega, by omega, by omega, by omega, by omega, by omega, by omega, by omega, by omega⟩⟩
 ·rw [validR_yes a0 (by omega), ga]; rfl
 ·rw [validR_yes s0 (by omega), gs]; rfl
theorem srcIn_ok {L n : Int} {s : Trk.Src} (h : Trk.SrcIn L n s) (hL : L ≤ 140737488355328) : srcB s = true ∧ InS s := by
 rcases h with rfl | h
 ·exact ⟨srcB_yes (.inl rfl), by constructor <;> decide⟩
 ·exact ⟨srcB_yes (.inr (srcOK_of h hL).1), (srcOK_of h hL).2⟩
theorem chansB_nil : chansB [] = true := chansB_yes ⟨by decide, fun i c h => by simp at h⟩
theorem vc_valid {L : Int} {c : Trk.Clip} (h : Trk.VC L c) (hL : L ≤ 140737488355328) : clipB c c.chan = true ∧ InC c := by
 have ha := srcIn_ok h.c.a hL
 have hb := srcIn_ok h.c.b hL
 have hs : ∀ k, (k = 2 ∨ k = 3) → Trk.shares k = true := by rintro k (rfl | rfl) <;> rfl
 obtain ⟨l0, l1, l2⟩ := h.l
 have ht : c.text.size < 9223372036854775808 := by
  rcases h.c.kd with ⟨_, _, _, _, _, _, e⟩ | ⟨_, _, _, _, _, e⟩ | ⟨_, _, e⟩ | ⟨_, _, _, e⟩ | ⟨_, _, _, _, _, e⟩ | ⟨_, _, _, _, _, e⟩
  iterate 5 rw [e]; decide
  have := e.2.1; omega
 refine ⟨?_, ha.2, hb.2, ht⟩
 rw [h.c.ch]
 unfold clipB headB bodyB tailB
 rw [decide_eq_true l0, decide_eq_true l1, h.c.gn, chansB_nil, ha.1, hb.1]
 rcases h.c.kd with ⟨h0, h1, h2, h3, h4, h5, h6⟩ | ⟨h0, h2, h3, h4, h5, h6⟩ | ⟨h0, h5, h6⟩ | ⟨h0, h5, h5', h6⟩ | ⟨h0, h3, h4, h5, h5', h6⟩ | ⟨h0, h2, h3, h4, h5, h6⟩
 ·simp [h0, h1, h2, h3, h4, h5, h6]
 ·simp [h0, h2, h3, h4, h5, h6]
 ·obtain ⟨o0, o1, o2, o3⟩ := l2 (hs _ (.inl h0))
  simp [h0, h5, h6, o0, o1, o2, o3]
 ·obtain ⟨o0, o1, o2, o3⟩ := l2 (hs _ (.inr h0))
  simp [h0, h5, h5', h6, o0, o1, o2, o3]
 ·simp [h0, h3, h4, h5, h5', h6]
 ·simp [h0, h2, h3, h4, h5, lineB_yes (okLine_text h6)]
theorem Tk.gt {L : Int} {w : World} {v : Value} {l : List Trk.Clip} (h : Tk w v l) (hV : Trk.VL L l) (hL : L ≤ 140737488355328) : GT w v l := by
 obtain ⟨ao, cap, e, h1, h2, h3⟩ := h
 refine ⟨ao, cap, e, h1, h2, fun i c hi => ?_⟩
 obtain ⟨b, o, e2, hA⟩ := h3 i c hi
 have hv := hV c (List.mem_of_getElem? hi)
 exact ⟨b, o, .slice none 0 0, e2, GA.of hA.get, by rw [hv.c.ch]; exact IT.nil w, (vc_valid hv hL).2⟩
theorem trackB_vt {L : Int} {l : List Trk.Clip} (h : VT L l) (hL : L ≤ 140737488355328) : trackB l = true :=
 trackB_yes ⟨h.n, fun i c hi => (vc_valid (h.v c (List.mem_of_getElem? hi)) hL).1, h.t⟩
theorem VT.tv {L : Int} {l : List Trk.Clip} (h : VT L l) (hL : L ≤ 140737488355328) : TV l := trackB_iff.1 (trackB_vt h hL)
theorem VT.inc {L : Int} {l : List Trk.Clip} (h : VT L l) (hL : L ≤ 140737488355328) : ∀ c ∈ l, InC c := fun c hc => (vc_valid (h.v c hc) hL).2
set_option maxRecDepth 100000 in
set_option maxHeartbeats 8000000 in
theorem docs_nil (w : World) : Calls Tryz.prog 102 #[.slice none 0 0] w fun e w' => e = .returned (.slice none 0 0) ∧ w' = w := by
 have hnil := fun w => Go.run_eql_slice_nil (P := Tryz.prog) w 53 65 none 0 0 Tryz.underlying53
 go_enter Tryz.func102, Tryz.ntmps102
 go_wp2_with fail
 go_ret
 exact ⟨rfl, rfl⟩
set_option maxRecDepth 100000 in
set_option maxHeartbeats 8000000 in
theorem fields_tick (w : World) : Calls Tryz.prog 101 #[.agg #[.int .i64 7, .string ⟨#[]⟩, .string ⟨#[]⟩, .int .i64 0, .int .i64 1, .slice none 0 0]] w fun e w' => e = .returned (.bool true) ∧ w' = w.alloc (.cells #[.int .i64 7, .string ⟨#[]⟩, .string ⟨#[]⟩, .int .i64 0, .int .i64 1, .slice none 0 0] 59) := by
 go_enter Tryz.func101, Tryz.ntmps101
 go_wp2_with fail
 go_ret
 exact ⟨rfl, rfl⟩
set_option maxRecDepth 100000 in
set_option maxHeartbeats 8000000 in
theorem convert_tick (w : World) : Calls Tryz.prog 62 #[.agg #[.int .i64 7, .string ⟨#[]⟩, .string ⟨#[]⟩, .int .i64 0, .int .i64 1, .slice none 0 0]] w fun e w' => e = .returned (.tuple #[.iface 154 (.agg #[.int .i64 1]), .bool true]) ∧ w' = ((w.alloc (.cells #[.int .i64 7, .string ⟨#[]⟩, .string ⟨#[]⟩, .int .i64 0, .int .i64 1, .slice none 0 0] 59)).alloc (.cells #[.int .i64 7, .string ⟨#[]⟩, .string ⟨#[]⟩, .int .i64 0, .int .i64 1, .slice none 0 0] 59)).alloc (.cells #[.int .i64 7, .string ⟨#[]⟩, .string ⟨#[]⟩] 142) := by
 go_enter Tryz.func62, Tryz.ntmps62
 go_wp2_with fail
 refine (fields_tick _).mono ?_
 rintro e w1 ⟨rfl, rfl⟩
 go_wp2_with fail
 go_ret2
 exact ⟨rfl, rfl⟩
set_option maxRecDepth 100000 in
set_option maxHeartbeats 8000000 in
theorem tick_none (w : World) : Calls Tryz.prog 103 #[.agg #[.int .i64 0, .slice none 0 0], .int .i64 1] w fun e w' => e = .returned (.tuple #[.agg #[.int .i64 1, .slice none 0 0], .slice none 0 0, .int .i64 0]) ∧ w' = (w.alloc (.cells #[.int .i64 1, .slice none 0 0] 55)).alloc (.cells #[.int .i64 1, .slice none 0 0] 55) := by
 go_enter Tryz.func103, Tryz.ntmps103
 go_wp2_with fail
 go_loop [7, 24] (fun v7 i => v7 = .slice none 0 0 ∧ i = .int .i64 0) (fun _ _ => 0)
 case atStart => exact ⟨rfl, rfl⟩
 case round =>
  obtain ⟨rfl, rfl⟩ := hrel
  go_wp2_with fail
  go_returns
  exact ⟨rfl, rfl⟩
set_option maxRecDepth 100000 in
set_option maxHeartbeats 8000000 in
theorem clone_none (n : Int) (w : World) : Calls Tryz.prog 64 #[.agg #[.int .i64 n, .slice none 0 0]] w fun e w' => e = .returned (.agg #[.int .i64 n, .slice none 0 0]) ∧ w' = (w.alloc (.cells #[.int .i64 n, .slice none 0 0] 55)).alloc (.cells #[.int .i64 n, .slice none 0 0] 55) := by
 go_enter Tryz.func64, Tryz.ntmps64
 go_wp2_with fail
 refine (docs_nil _).mono ?_
 rintro e w1 ⟨rfl, rfl⟩
 go_wp2_with fail
 go_loop [13] (fun i => i = .int .i64 0) (fun _ => 0)
 case atStart => rfl
 case round =>
  subst hrel
  go_wp2_with fail
  go_returns
  exact ⟨rfl, rfl⟩
set_option maxRecDepth 100000 in
set_option maxHeartbeats 8000000 in
theorem valid_none (w : World) : Calls Tryz.prog 38 #[.agg #[.int .i64 0, .slice none 0 0]] w fun e w' => e = .returned (.bool true) ∧ w' = (w.alloc (.cells #[.int .i64 0, .slice none 0 0] 55)).alloc (.map #[] 0) := by
 have hmm := @run_makeMap Tryz.prog
 go_enter Tryz.func38, Tryz.ntmps38
 go_wp2_with fail
 go_loop [24] (fun i => i = .int .i64 0) (fun _ => 0)
 case atStart => rfl
 case round =>
  subst hrel
  go_wp2_with fail
  go_returns
  exact ⟨rfl, rfl⟩
theorem ta_154_154 (x : Value) (w : World) : (Instr.typeAssert (.iface 154 x) 20 154 true).run Tryz.prog w = .ok (.tuple #[x, .bool true]) w := by
 simp [Instr.typeAssert, run_underlying Tryz.underlying154]
set_option maxRecDepth 100000 in
set_option maxHeartbeats 8000000 in
theorem step_none (w : World) : Calls Tryz.prog 63 #[.agg #[.int .i64 0, .slice none 0 0], .iface 154 (.agg #[.int .i64 1])] w fun e w' => e = .returned (.tuple #[.agg #[.int .i64 1, .slice none 0 0], .slice none 0 0, .int .i64 0]) ∧ w' = ((((w.alloc (.cells #[.int .i64 0, .slice none 0 0] 55)).alloc (.cells #[.int .i64 1, .slice none 0 0] 55)).alloc (.cells #[.int .i64 1] 154)).alloc (.cells #[.int .i64 1, .slice none 0 0] 55)).alloc (.cells #[.int .i64 1, .slice none 0 0] 55) := by
 have hta := ta_154_154
 go_enter Tryz.func63, Tryz.ntmps63
 go_wp2_with fail
 refine (docs_nil _).mono ?_
 rintro e w1 ⟨rfl, rfl⟩
 go_wp2_with fail
 refine (tick_none _).mono ?_
 rintro e w1 ⟨rfl, rfl⟩
 go_wp2_with fail
 go_returns
 exact ⟨rfl, rfl⟩
set_option maxRecDepth 100000 in
set_option maxHeartbeats 8000000 in
theorem step_tick (w : World) : Calls Tryz.prog 26 #[.agg #[.int .i64 0, .slice none 0 0], .agg #[.int .i64 7, .string ⟨#[]⟩, .string ⟨#[]⟩, .int .i64 0, .int .i64 1, .slice none 0 0]] w fun e w' => e = .returned (.tuple #[.agg #[.int .i64 1, .slice none 0 0], .slice none 0 0, .int .i64 0]) ∧ Below w.heap.size w w' := by
 go_enter Tryz.func26, Tryz.ntmps26
 go_wp2_with fail
 refine (valid_none _).mono ?_
 rintro e w1 ⟨rfl, rfl⟩
 go_wp2_with fail
 refine (convert_tick _).mono ?_
 rintro e w1 ⟨rfl, rfl⟩
 go_wp2_with fail
 refine (step_none _).mono ?_
 rintro e w1 ⟨rfl, rfl⟩
 go_wp2_with fail
 refine (clone_none _ _).mono ?_
 rintro e w1 ⟨rfl, rfl⟩
 go_wp2_with fail
 go_returns
 exact ⟨rfl, by go_grown⟩
def longC : Trk.Clip := ⟨150, 1, ⟨1, ⟨#[122]⟩, 0, 1, 1, 1, false⟩, Trk.black, 0, 0, 0, ByteArray.empty, 0, []⟩
theorem long_vt : VT 1000000 [longC] := by
 refine ⟨fun c hc => ?_, by decide, by decide⟩
 rw [List.mem_singleton] at hc
 subst hc
 have hn : Trk.okName ⟨#[122]⟩ := .inr ⟨122, rfl, by decide, by decide⟩
 have ha := tape_src0 (nm := ⟨#[122]⟩) (k := 1) (n := 0) (d := 1) (sn := 1) (sd := 1) (sm := false) (.inl rfl) hn ⟨by decide, by decide, by decide, by decide, by decide⟩ ⟨by decide, by decide, by decide, by decide, by decide⟩
 have hs : Trk.SrcIn 1000000 150 longC.a := by
  obtain ⟨h1, h2, h3, -, -, -, -⟩ := ha
  exact .inr ⟨h1, h2, h3, by decide, by decide, by decide, by decide, by decide, by decide⟩
 exact ⟨⟨hs, .inl rfl, rfl, rfl, .inr (.inl ⟨rfl, rfl, rfl, rfl, rfl, rfl⟩)⟩, by decide, by decide, fun h => by simp [longC, Trk.shares] at h⟩
theorem gap1_vt : VT 1000000 [Trk.gap 1] := by
 refine ⟨fun c hc => ?_, by decide, by decide⟩
 rw [List.mem_singleton] at hc
 subst hc
 exact ⟨⟨.inl rfl, .inl rfl, rfl, rfl, .inl ⟨rfl, rfl, rfl, rfl, rfl, rfl, rfl⟩⟩, by decide, by decide, fun h => by simp [Trk.gap, Trk.shares] at h⟩
theorem nil_vt : VT 1000000 [] := ⟨Trk.VL.nil, by decide, by decide⟩
set_option maxRecDepth 100000 in
set_option maxHeartbeats 8000000 in
theorem long_any (w : World) : Calls Tryz.prog 23 #[] w (OTPost w [longC]) := by
 go_enter Tryz.func23, Tryz.ntmps23
 go_wp2_with fail
 go_ret
 exact ⟨_, rfl, OT.box w longC, below_box _ _⟩
set_option maxRecDepth 100000 in
set_option maxHeartbeats 8000000 in
theorem awake_any (w : World) : Calls Tryz.prog 20 #[] w fun e w' => e = .returned (.bool true) ∧ Below w.heap.size w w' := by
 go_enter Tryz.func20, Tryz.ntmps20
 go_wp2_with fail
 refine (long_any _).mono ?_
 rintro e w1 ⟨v1, rfl, ho, hb⟩
 have HO := Lib.hid ho
 have HB := Lib.hid hb
 clear ho hb
 go_wp2_with fail
 refine (merge_short (.slice none 0 0) (.slice none 0 0) v1 [] [] [longC] w1 (OT.nil _ 0).tk (OT.nil _ 0).tk HO.out.tk nil_vt nil_vt long_vt (by decide) (.inr (.inr rfl))).mono ?_
 rintro e w2 ⟨m1, rfl, ho, hb⟩
 have e1 : shortL [] [] [longC] = [longC] := rfl
 rw [e1] at ho
 have HM := Lib.hid ho
 replace HB := Lib.hid (HB.out.trans (hb.mono HB.out.size))
 clear ho hb e1
 go_wp2_with fail
 refine (long_any _).mono ?_
 rintro e w3 ⟨v2, rfl, ho, hb⟩
 replace HO := Lib.hid ho
 replace HM := Lib.hid (HM.out.below hb)
 replace HB := Lib.hid (HB.out.trans (hb.mono HB.out.size))
 clear ho hb
 go_wp2_with fail
 have hgv : OT (w3.alloc (.cells (clipC (Trk.gap 1)).toArray 48)) w3.heap.size (.slice (some ⟨w3.heap.size, 0, none⟩) 1 1) [Trk.gap 1] := OT.box w3 (Trk.gap 1)
 have hbb : Below w3.heap.size w3 (w3.alloc (.cells (clipC (Trk.gap 1)).toArray 48)) := below_box _ _
 refine (merge_short v2 (.slice (some ⟨w3.heap.size, 0, none⟩) 1 1) (.slice none 0 0) [longC] [Trk.gap 1] [] _ (HO.out.below hbb).tk hgv.tk (OT.nil _ 0).tk long_vt gap1_vt nil_vt (by decide) (.inr (.inl rfl))).mono ?_
 rintro e w4 ⟨m2, rfl, ho, hb⟩
 replace HM := Lib.hid ((HM.out.below hbb).below hb)
 replace HB := Lib.hid ((HB.out.trans (hbb.mono HB.out.size)).trans (hb.mono (Nat.le_trans HB.out.size hbb.size)))
 clear ho hb hbb hgv HO
 go_wp2_with fail
 refine (step_tick _).mono ?_
 rintro e w5 ⟨rfl, hb⟩
 replace HM := Lib.hid (HM.out.below hb)
 replace HB := Lib.hid (HB.out.trans (hb.mono HB.out.size))
 clear hb
 go_upto_region 4 with fail
 obtain ⟨w6, hw6⟩ : ∃ y, y = w5.alloc (.cells #[.int .i64 1, .slice none 0 0] 55) := ⟨_, rfl⟩
 obtain ⟨g, hg⟩ : ∃ y, y = w5.heap.size := ⟨_, rfl⟩
 rw [← hw6]
 have hb : Below w5.heap.size w5 w6 := by rw [hw6]; exact below_box _ _
 have C0 := Lib.hid (show w6.cell? ⟨g, 0, none⟩ = some (.int .i64 1) by rw [hw6, hg]; simp [go_sem])
 have C1 := Lib.hid (show w6.cell? ⟨g, 1, none⟩ = some (.slice none 0 0) by rw [hw6, hg]; simp [go_sem])
 rw [← hg]
 replace HM := Lib.hid (HM.out.below hb)
 replace HB := Lib.hid (HB.out.trans (hb.mono HB.out.size))
 have HG := Lib.hid (block_lt_of_cell C0.out)
 clear hb hw6 hg
 go_wp2_with fail
 refine (long_any _).mono ?_
 rintro e w7 ⟨v3, rfl, ho, hb⟩
 have HO := Lib.hid ho
 replace HM := Lib.hid (HM.out.below hb)
 replace HB := Lib.hid (HB.out.trans (hb.mono HB.out.size))
 replace C0 := Lib.hid ((hb.cell (p := ⟨g, 0, none⟩) HG.out).trans C0.out)
 replace C1 := Lib.hid ((hb.cell (p := ⟨g, 1, none⟩) HG.out).trans C1.out)
 replace HG := Lib.hid (Nat.lt_of_lt_of_le HG.out hb.size)
 clear ho hb
 go_wp2_with fail
 refine (equal_self m1 v3 [longC] w7 HM.out.tk HO.out.tk).mono ?_
 rintro e w8 ⟨rfl, hb⟩
 replace HB := Lib.hid (HB.out.trans (hb.mono HB.out.size))
 have c0 := (hb.cell (p := ⟨g, 0, none⟩) HG.out).trans C0.out
 have c1 := (hb.cell (p := ⟨g, 1, none⟩) HG.out).trans C1.out
 clear hb C0 C1 HG
 go_wp2_with fail
 go_ret
 exact ⟨rfl, HB.out⟩
structure TI (w : World) (v : Value) (l : List Trk.Clip) : Prop where
 t : ∃ D, TG w D v l
 i : ∀ c ∈ l, InC c
theorem TI.below {w w' : World} {v : Value} {l : List Trk.Clip} (h : TI w v l) (hb : Below w.heap.size w w') : TI w' v l := by
 obtain ⟨D, hD⟩ := h.t
 exact ⟨⟨D, hD.below hb⟩, h.i⟩
theorem GT.ti {w : World} {v : Value} {l : List Trk.Clip} (h : GT w v l) : TI w v l := by
 refine ⟨⟨_, h.tg⟩, fun c hc => ?_⟩
 obtain ⟨i, hi, e⟩ := List.getElem_of_mem hc
 obtain ⟨ao, cap, _, _, _, h3⟩ := h
 obtain ⟨b, o, x, _, _, _, hi⟩ := h3 i c (by rw [List.getElem?_eq_getElem hi, e])
 exact hi
theorem OT.ti {L : Int} {w : World} {B : Nat} {v : Value} {l : List Trk.Clip} (h : OT w B v l) (hV : VT L l) (hL : L ≤ 140737488355328) : TI w v l :=
 ⟨⟨0, h.tk.tg (fun c hc => (hV.v c hc).c.ch) 0⟩, hV.inc hL⟩
theorem merge_ti (vn va vb : Value) (n a b : List Trk.Clip) (w : World) (hn : TI w vn n) (ha : TI w va a) (hb : TI w vb b) : Calls Tryz.prog 17 #[vn, va, vb] w (MergeAP w n a b) := by
 obtain ⟨D1, h1⟩ := hn.t
 obtain ⟨D2, h2⟩ := ha.t
 obtain ⟨D3, h3⟩ := hb.t
 exact merge_all D1 D2 D3 vn va vb n a b w h1 h2 h3 hn.i ha.i hb.i
set_option maxRecDepth 100000 in
set_option maxHeartbeats 8000000 in
theorem cut_ti (v : Value) (l : List Trk.Clip) (w : World) (h : TI w v l) : Calls Tryz.prog 16 #[v] w fun e w' => ∃ v', e = .returned v' ∧ TI w' v' (l.take 80) ∧ Below w.heap.size w w' := by
 have HI := Lib.hid h.i
 obtain ⟨D, ao, cap, rfl, h1, h2, h3⟩ := h.t
 have H3 := Lib.hid h3
 have HT := Lib.hid h
 clear h h3
 obtain ⟨N, hN⟩ : ∃ N, N = l.length := ⟨_, rfl⟩
 rw [← hN] at h1 ⊢
 have HN := Lib.hid hN
 clear hN
 have h4 := Lib.hid h2
 by_cases hlt : 80 < N
 ·have hlt' : (80 : Int) < (N : Int) := by omega
  have hc : 80 ≤ cap := by omega
  clear h2
  go_enter Tryz.func16, Tryz.ntmps16
  go_wp2_with fail
  go_ret
  refine ⟨.slice ao 80 cap, rfl, ⟨⟨D, ao, cap, by rw [List.length_take, ← HN.out, Nat.min_eq_left (by omega)], by rw [List.length_take, ← HN.out]; omega, h4.out, fun i c hi => ?_⟩, fun c hc => HI.out c (List.mem_of_mem_take hc)⟩, Below.refl _ _⟩
  rw [List.getElem?_take] at hi
  split at hi
  ·exact H3.out i c hi
  ·simp at hi
 ·have hlt' : ¬ (80 : Int) < (N : Int) := by omega
  clear h2
  go_enter Tryz.func16, Tryz.ntmps16
  go_wp2_with fail
  go_ret
  refine ⟨.slice ao N cap, rfl, ?_, Below.refl _ _⟩
  rw [List.take_of_length_le (by rw [← HN.out]; omega)]
  have h := HT.out
  rw [← HN.out] at h
  exact h
def ThreeTI (w : World) (e : Ending) (w' : World) : Prop := ∃ v a b l m n, e = .returned (.tuple #[v, a, b]) ∧ TI w' v l ∧ TI w' a m ∧ TI w' b n ∧ Below w.heap.size w w'
theorem TI.form {w : World} {v : Value} {l : List Trk.Clip} (h : TI w v l) : ∃ ao n cap, v = .slice ao n cap := by
 obtain ⟨D, hD⟩ := h.t
 obtain ⟨ao, cap, e⟩ := hD.form
 exact ⟨ao, _, cap, e⟩
set_option maxRecDepth 100000 in
set_option maxHeartbeats 16000000 in
theorem symmetric_of (v0 v1 v2 v3 : Value) (l0 l1 l2 : List Trk.Clip) (w : World) (h0 : TI w v0 l0) (h1 : TI w v1 l1) (h2 : TI w v2 l2) (h3 : Calls Tryz.prog 15 #[v3] w (ThreeTI w)) :
  Calls Tryz.prog 4 #[v0, v1, v2, v3] w fun e w' => e = .returned (.bool true) ∧ Below w.heap.size w w' := by
 have H0 := Lib.hid h0
 have H1 := Lib.hid h1
 have H2 := Lib.hid h2
 have H3 := Lib.hid h3
 clear h0 h1 h2 h3
 go_enter Tryz.func4, Tryz.ntmps4
 go_wp2_with fail
 refine H3.out.mono ?_
 rintro e w1 ⟨x, a, b, l, m, n, rfl, hx, ha, hb', hb⟩
 obtain ⟨o3, n3, k3, rfl⟩ := hx.form
 obtain ⟨o4, n4, k4, rfl⟩ := ha.form
 obtain ⟨o5, n5, k5, rfl⟩ := hb'.form
 have HX := Lib.hid hx
 have HA := Lib.hid ha
 have HB' := Lib.hid hb'
 have HB := Lib.hid hb
 replace H0 := Lib.hid (H0.out.below hb)
 replace H1 := Lib.hid (H1.out.below hb)
 replace H2 := Lib.hid (H2.out.below hb)
 clear hx ha hb' hb H3
 go_wp2_with fail
 refine (cut_ti _ _ _ H0.out).mono ?_
 rintro e w2 ⟨c0, rfl, hc, hb⟩
 obtain ⟨o0, n0, k0, rfl⟩ := hc.form
 have C0 := Lib.hid hc
 replace H1 := Lib.hid (H1.out.below hb)
 replace H2 := Lib.hid (H2.out.below hb)
 replace HX := Lib.hid (HX.out.below hb)
 replace HA := Lib.hid (HA.out.below hb)
 replace HB' := Lib.hid (HB'.out.below hb)
 replace HB := Lib.hid (HB.out.trans (hb.mono HB.out.size))
 clear hc hb H0
 go_wp2_with fail
 refine (cut_ti _ _ _ H1.out).mono ?_
 rintro e w3 ⟨c1, rfl, hc, hb⟩
 obtain ⟨o1, n1, k1, rfl⟩ := hc.form
 have C1 := Lib.hid hc
 replace C0 := Lib.hid (C0.out.below hb)
 replace H2 := Lib.hid (H2.out.below hb)
 replace HX := Lib.hid (HX.out.below hb)
 replace HA := Lib.hid (HA.out.below hb)
 replace HB' := Lib.hid (HB'.out.below hb)
 replace HB := Lib.hid (HB.out.trans (hb.mono HB.out.size))
 clear hc hb H1
 go_wp2_with fail
 refine (cut_ti _ _ _ H2.out).mono ?_
 rintro e w4 ⟨c2, rfl, hc, hb⟩
 obtain ⟨o2, n2, k2, rfl⟩ := hc.form
 have C2 := Lib.hid hc
 replace C0 := Lib.hid (C0.out.below hb)
 replace C1 := Lib.hid (C1.out.below hb)
 replace HX := Lib.hid (HX.out.below hb)
 replace HA := Lib.hid (HA.out.below hb)
 replace HB' := Lib.hid (HB'.out.below hb)
 replace HB := Lib.hid (HB.out.trans (hb.mono HB.out.size))
 clear hc hb H2
 dsimp only
 apply_assumption
 iterate 27 go_step
 refine Great.wpList_buildSliceTo rfl 29 28 3 #[(0, .tmp 30), (1, .tmp 34), (2, .tmp 38)] rfl w4.heap.size rfl (some 39) rfl Tryz.underlying29 #[.slice o0 n0 k0, .slice o1 n1 k1, .slice o2 n2 k2, .slice o3 n3 k3, .slice o4 n4 k4, .slice o5 n5 k5, .slice o4 n4 k4, .slice o3 n3 k3, .slice o5 n5 k5] ?_ ?_
 ·simp only [List.map_toArray, List.map_cons, List.map_nil, List.toList_toArray]
  kernel_rfl
 obtain ⟨w5, hw5⟩ : ∃ z, z = w4.alloc (.cells #[.slice o0 n0 k0, .slice o1 n1 k1, .slice o2 n2 k2, .slice o3 n3 k3, .slice o4 n4 k4, .slice o5 n5 k5, .slice o4 n4 k4, .slice o3 n3 k3, .slice o5 n5 k5] 28) := ⟨_, rfl⟩
 obtain ⟨gs, hgs⟩ : ∃ g, g = w4.heap.size := ⟨_, rfl⟩
 have hb : Below w4.heap.size w4 w5 := by rw [hw5]; exact below_box _ _
 have f0 : ∀ i v, i < 9 → (#[.slice o0 n0 k0, .slice o1 n1 k1, .slice o2 n2 k2, .slice o3 n3 k3, .slice o4 n4 k4, .slice o5 n5 k5, .slice o4 n4 k4, .slice o3 n3 k3, .slice o5 n5 k5] : Array Value)[i]? = some v → w5.cell? ⟨gs, i, none⟩ = some v := by
  intro i v hi hv
  rw [hw5, hgs]
  rcases (show i = 0 ∨ i = 1 ∨ i = 2 ∨ i = 3 ∨ i = 4 ∨ i = 5 ∨ i = 6 ∨ i = 7 ∨ i = 8 by omega) with rfl | rfl | rfl | rfl | rfl | rfl | rfl | rfl | rfl <;> (simp at hv; subst hv; simp [go_sem])
 rw [← hw5, ← hgs]
 replace C0 := Lib.hid (C0.out.below hb)
 replace C1 := Lib.hid (C1.out.below hb)
 replace C2 := Lib.hid (C2.out.below hb)
 replace HX := Lib.hid (HX.out.below hb)
 replace HA := Lib.hid (HA.out.below hb)
 replace HB' := Lib.hid (HB'.out.below hb)
 replace HB := Lib.hid (HB.out.trans (hb.mono HB.out.size))
 have HF := Lib.hid f0
 clear f0 hb hw5 hgs
 have HK := Lib.hid (show ∀ k, k < 3 → ∃ oa na ka ob nb kb oc nc kc n' a' b', w5.cell? ⟨gs, k * 3, none⟩ = some (.slice oa na ka) ∧ w5.cell? ⟨gs, k * 3 + 1, none⟩ = some (.slice ob nb kb) ∧ w5.cell? ⟨gs, k * 3 + 2, none⟩ = some (.slice oc nc kc) ∧ TI w5 (.slice oa na ka) n' ∧ TI w5 (.slice ob nb kb) a' ∧ TI w5 (.slice oc nc kc) b' from fun k hk => by
  rcases (show k = 0 ∨ k = 1 ∨ k = 2 by omega) with rfl | rfl | rfl
  ·exact ⟨_, _, _, _, _, _, _, _, _, _, _, _, HF.out 0 _ (by decide) rfl, HF.out 1 _ (by decide) rfl, HF.out 2 _ (by decide) rfl, C0.out, C1.out, C2.out⟩
  ·exact ⟨_, _, _, _, _, _, _, _, _, _, _, _, HF.out 3 _ (by decide) rfl, HF.out 4 _ (by decide) rfl, HF.out 5 _ (by decide) rfl, HX.out, HA.out, HB'.out⟩
  ·exact ⟨_, _, _, _, _, _, _, _, _, _, _, _, HF.out 6 _ (by decide) rfl, HF.out 7 _ (by decide) rfl, HF.out 8 _ (by decide) rfl, HA.out, HX.out, HB'.out⟩)
 clear HF C0 C1 C2 HX HA HB'
 go_upto_region 3 with fail
 go_loopw [41] (fun i wr => ∃ k : Nat, k ≤ 3 ∧ i = .int .i64 (k : Int) ∧ Below w5.heap.size w5 wr) (fun i _ => 3 - (intOf i).toNat)
 case atStart => exact ⟨0, Nat.zero_le _, rfl, Below.refl _ _⟩
 case round =>
  obtain ⟨k, hk, rfl, hb⟩ := hrel
  have HBK := Lib.hid hb
  clear hb
  by_cases hlt : k < 3
  ·have hlt' : (k : Int) < 3 := by omega
   obtain ⟨oa, na, ka, ob, nb, kb, oc, nc, kc, n', a', b', h0, h1, h2, t0, t1, t2⟩ := HK.out k hlt
   replace h0 := (HBK.out.cell (p := ⟨gs, k * 3, none⟩) (block_lt_of_cell h0)).trans h0
   replace h1 := (HBK.out.cell (p := ⟨gs, k * 3 + 1, none⟩) (block_lt_of_cell h1)).trans h1
   replace h2 := (HBK.out.cell (p := ⟨gs, k * 3 + 2, none⟩) (block_lt_of_cell h2)).trans h2
   have T0 := Lib.hid (t0.below HBK.out)
   have T1 := Lib.hid (t1.below HBK.out)
   have T2 := Lib.hid (t2.below HBK.out)
   clear t0 t1 t2 HK
   go_upto_region 5 with fail
   obtain ⟨w6, hw6⟩ : ∃ z, z = wr.alloc (.cells #[.slice oa na ka, .slice ob nb kb, .slice oc nc kc] 28) := ⟨_, rfl⟩
   obtain ⟨g, hg⟩ : ∃ g, g = wr.heap.size := ⟨_, rfl⟩
   have hb : Below wr.heap.size wr w6 := by rw [hw6]; exact below_box _ _
   have HG := Lib.hid (show w6.cell? ⟨g, 0, none⟩ = some (.slice oa na ka) ∧ w6.cell? ⟨g, 1, none⟩ = some (.slice ob nb kb) ∧ w6.cell? ⟨g, 2, none⟩ = some (.slice oc nc kc) by
    rw [hw6, hg]
    exact ⟨by simp [go_sem], by simp [go_sem], by simp [go_sem]⟩)
   rw [← hw6, ← hg]
   replace T0 := Lib.hid (T0.out.below hb)
   replace T1 := Lib.hid (T1.out.below hb)
   replace T2 := Lib.hid (T2.out.below hb)
   replace HBK := Lib.hid (HBK.out.trans (hb.mono HBK.out.size))
   clear hb hw6 hg h0 h1 h2
   have MA := Lib.hid (fun (w : World) (t0 : TI w (.slice oa na ka) n') (t1 : TI w (.slice ob nb kb) a') (t2 : TI w (.slice oc nc kc) b') => merge_ti _ _ _ n' a' b' w t0 t1 t2)
   have MB := Lib.hid (fun (w : World) (t0 : TI w (.slice oa na ka) n') (t1 : TI w (.slice ob nb kb) a') (t2 : TI w (.slice oc nc kc) b') => merge_ti _ _ _ n' b' a' w t0 t2 t1)
   obtain ⟨d0, d1, d2⟩ := HG.out
   go_wp2_with fail
   refine (MA.out _ T0.out T1.out T2.out).mono ?_
   rintro e w7 ⟨r1, e1, y1, rfl, ho, hb, hm⟩
   have R1 := Lib.hid ho.tg
   have M1 := Lib.hid hm
   obtain ⟨or, cr, er⟩ := ho.tg.form
   obtain ⟨nr, hnr⟩ : ∃ k, k = y1.length := ⟨_, rfl⟩
   rw [← hnr] at er
   subst er
   replace d0 := (hb.cell (p := ⟨g, 0, none⟩) (block_lt_of_cell d0)).trans d0
   replace d1 := (hb.cell (p := ⟨g, 1, none⟩) (block_lt_of_cell d1)).trans d1
   replace d2 := (hb.cell (p := ⟨g, 2, none⟩) (block_lt_of_cell d2)).trans d2
   replace T0 := Lib.hid (T0.out.below hb)
   replace T1 := Lib.hid (T1.out.below hb)
   replace T2 := Lib.hid (T2.out.below hb)
   replace HBK := Lib.hid (HBK.out.trans (hb.mono HBK.out.size))
   clear ho hb hm hnr MA HG
   go_wp2_with fail
   refine (MB.out _ T0.out T1.out T2.out).mono ?_
   rintro e w8 ⟨r2, e2, y2, rfl, ho, hb, hm⟩
   obtain ⟨rfl, rfl⟩ := M1.out.sym hm
   have R2 := Lib.hid ho.tg
   obtain ⟨os, cs, es⟩ := ho.tg.form
   obtain ⟨ns, hns⟩ : ∃ k, k = y1.length := ⟨_, rfl⟩
   rw [← hns] at es
   subst es
   replace R1 := Lib.hid (R1.out.below hb)
   replace HBK := Lib.hid (HBK.out.trans (hb.mono HBK.out.size))
   clear ho hb hm hns MB M1 T0 T1 T2 d0 d1 d2
   go_wp2_with fail
   refine (equalg_self _ _ _ _ y1 _ R1.out R2.out).mono ?_
   rintro e w9 ⟨rfl, hb⟩
   replace HBK := Lib.hid (HBK.out.trans (hb.mono HBK.out.size))
   clear hb R1 R2
   go_wp2_with fail
   go_roundw
   case rel => exact ⟨k + 1, by omega, by simp, HBK.out⟩
   case measure =>
    simp [intOf]
    omega
  ·have hk3 : k = 3 := by omega
   subst hk3
   clear HK
   go_wp2_with fail
   refine (awake_any _).mono ?_
   rintro e w6 ⟨rfl, hb⟩
   have HB6 := Lib.hid (HB.out.trans ((HBK.out.trans (hb.mono HBK.out.size)).mono HB.out.size))
   clear hb
   go_wp2_with fail
   go_ret
   exact ⟨rfl, HB6.out⟩
end Go.Proofs.YtfoohocgdcgbcaaGreat
