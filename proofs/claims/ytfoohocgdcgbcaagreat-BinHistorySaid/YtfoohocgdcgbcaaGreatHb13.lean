/- Texts of this claim joined: MD ME XA TN MF MG MH MJ MK. -/
import Derived.Deep.CutRange
import Derived.Test.YtfoohocgdcgbcaaGreatHb12
set_option linter.unusedVariables false
set_option linter.unusedSimpArgs false
namespace Go.Proofs.YtfoohocgdcgbcaaGreat
open Go.RowKit
theorem base_lat {s : Trk.Src} (h : Trk.Lat s) : Trk.baseN s ≤ 6006 := by
 have a0 := h.g.a0
 have d0 := h.g.s0
 obtain ⟨A, hA⟩ := Int.eq_ofNat_of_zero_le (show 0 ≤ s.ad by omega)
 obtain ⟨D, hD⟩ := Int.eq_ofNat_of_zero_le (show 0 ≤ s.sd by omega)
 have ha : A ∣ 6006 := by have := h.a; rw [hA] at this; exact Int.ofNat_dvd.1 this
 have hd : D ∣ 6006 := by have := h.s; rw [hD] at this; exact Int.ofNat_dvd.1 this
 have e : Trk.baseN s = A.lcm D := by
  unfold Trk.baseN Nat.lcm
  rw [hA, hD, Int.toNat_natCast, Int.toNat_natCast, Nat.div_mul_right_comm (Nat.gcd_dvd_left _ _)]
 rw [e]
 exact Nat.le_of_dvd (by decide) (Nat.lcm_dvd ha hd)
theorem posB_of {L n : Int} {s : Trk.Src} (h : Trk.SrcP L n s) (hL : L ≤ 140737488355328) {k : Int} (k0 : -4294967296 ≤ k) (k1 : k ≤ 4294967296) : PosB s k := by
 obtain ⟨a0, a1, d0, d1, n0, n1, v0, v1⟩ := h.nums
 have hf := h.far hL
 have hb := base_lat h.lat
 exact ⟨by omega, by omega, by omega, by omega, by omega, by omega, by omega, k0, k1⟩
theorem frB_of {L : Int} {c : Trk.Clip} (h : Trk.VC L c) (hL : L ≤ 140737488355328) {k : Int} (k0 : -4294967296 ≤ k) (k1 : k ≤ 4294967296) : FrB c k := by
 have ho := off_le h
 refine ⟨h.c.a.okay, h.c.b.okay, h.c.a.imp id fun h => posB_of h hL k0 k1, h.c.b.imp id fun h => posB_of h hL k0 k1, fun hs => ?_, ho.1, ho.2.1, k0, k1⟩
 rcases h.c.kd with ⟨-, -, -, e, -⟩ | ⟨-, -, e, -⟩ | ⟨e, -⟩ | ⟨e, -⟩ | ⟨-, e, -⟩ | ⟨-, -, e, -⟩
 ·exact e
 ·exact e
 ·rw [e] at hs; simp [Trk.shares] at hs
 ·rw [e] at hs; simp [Trk.shares] at hs
 ·exact e
 ·exact e
theorem VT.good {L : Int} {l : List Trk.Clip} (h : VT L l) : Trk.GoodL l := h.v.good
set_option maxRecDepth 100000 in
set_option maxHeartbeats 16000000 in
theorem prefix_any {L : Int} (v u : Value) (n m : List Trk.Clip) (w : World) (h : Tk w v n) (h' : Tk w u m) (Vn : VT L n) (Vm : VT L m) (hL : L ≤ 140737488355328) :
  Calls Tryz.prog 92 #[v, u] w fun e w' => ∃ p, e = .returned (.int .i64 p) ∧ Trk.Pre n m p ∧ Below w.heap.size w w' := by
 have HT := Lib.hid h
 have HU := Lib.hid h'
 obtain ⟨ao, cap, rfl, hc1, hc2, -⟩ := h
 obtain ⟨bo, dap, rfl, hd1, hd2, -⟩ := h'
 have HGN := Lib.hid Vn.good
 have HGM := Lib.hid Vm.good
 have tn := Vn.t
 have tm := Vm.t
 have HSF := Lib.hid (fun (c d : Trk.Clip) (hc : c ∈ n) (hd : d ∈ m) (j k : Int) (j0 : -4294967296 ≤ j) (j1 : j ≤ 4294967296) (k0 : -4294967296 ≤ k) (k1 : k ≤ 4294967296) (w : World) =>
  sameframe_any c d j k w (Vn.v c hc).c.ch (Vm.v d hd).c.ch (frB_of (Vn.v c hc) hL j0 j1) (frB_of (Vm.v d hd) hL k0 k1))
 have HLN := Lib.hid (fun (c : Trk.Clip) (hc : c ∈ n) => And.intro (Vn.v c hc).l.1 (Vn.v c hc).l.2.1)
 have HLM := Lib.hid (fun (c : Trk.Clip) (hc : c ∈ m) => And.intro (Vm.v c hc).l.1 (Vm.v c hc).l.2.1)
 have nn := Vn.n
 have nm := Vm.n
 obtain ⟨N, hN⟩ : ∃ N, N = n.length := ⟨_, rfl⟩
 obtain ⟨M, hM⟩ : ∃ M, M = m.length := ⟨_, rfl⟩
 rw [← hN] at HT nn hc1 ⊢
 rw [← hM] at HU nm hd1 ⊢
 have HN := Lib.hid hN
 have HM := Lib.hid hM
 have TT := Lib.hid (And.intro tn tm)
 clear Vn Vm hN hM hc1 hc2 hd1 hd2 tn tm
 go_enter Tryz.func92, Tryz.ntmps92
 go_upto_region 4 with fail
 go_loopw [5, 6, 7, 8, 9] (fun v5 v6 v7 v8 v9 wr => ∃ (i j : Nat) (b s p : Int), v5 = .int .i64 p ∧ v6 = .int .i64 (i : Int) ∧ v7 = .int .i64 (j : Int) ∧ v8 = .int .i64 b ∧ v9 = .int .i64 s ∧ Trk.PreAt n m i j b s p ∧ Below w.heap.size w wr) (fun _ i j _ _ _ => (N - (intOf i).toNat) + (M - (intOf j).toNat))
 case atStart => exact ⟨0, 0, 0, 0, 0, rfl, rfl, rfl, rfl, rfl, Trk.PreAt.zero HGN.out HGM.out, Below.refl _ _⟩
 case round =>
  obtain ⟨i, j, b, s, p, rfl, rfl, rfl, rfl, rfl, hp, hb⟩ := hrel
  have HP := Lib.hid hp
  have HB := Lib.hid hb
  have li : i ≤ N := by have := hp.a.il; have := HN.out; omega
  have lj : j ≤ M := by have := hp.c.il; have := HM.out; omega
  have pb := hp.a.le HGN.out
  have pb2 : 0 ≤ p ∧ p ≤ 2147483647 := ⟨pb.1, Int.le_trans pb.2 TT.out.1⟩
  clear hp hb pb
  by_cases hi : i < N
  rotate_left
  ·have d1 : decide ((i : Int) < (N : Int)) = false := decide_eq_false (by omega)
   have hiN : i = N := by omega
   go_upto_region 4 with fail
   go_quiet (fail)
   go_wp2_with fail
   go_ret
   exact ⟨p, rfl, HP.out.done HGN.out HGM.out (.inl (hiN.trans HN.out)), below_drewN HB.out _⟩
  have d1 : decide ((i : Int) < (N : Int)) = true := decide_eq_true (by omega)
  by_cases hj : j < M
  rotate_left
  ·have d2 : decide ((j : Int) < (M : Int)) = false := decide_eq_false (by omega)
   have hjM : j = M := by omega
   go_upto_region 4 with fail
   go_quiet (fail)
   go_wp2_with fail
   go_ret
   exact ⟨p, rfl, HP.out.done HGN.out HGM.out (.inr (.inl (hjM.trans HM.out))), below_drewN HB.out _⟩
  have d2 : decide ((j : Int) < (M : Int)) = true := decide_eq_true (by omega)
  obtain ⟨c, hc⟩ : ∃ c, n[i]? = some c := ⟨_, List.getElem?_eq_getElem (by have := HN.out; omega)⟩
  obtain ⟨d, hd⟩ : ∃ d, m[j]? = some d := ⟨_, List.getElem?_eq_getElem (by have := HM.out; omega)⟩
  obtain ⟨ao', cap', e, _, _, hT⟩ := HT.out.below HB.out
  have e1 := HN.out
  simp only [Value.slice.injEq] at e
  obtain ⟨rfl, -, rfl⟩ := e
  obtain ⟨b1, o1, rfl, hA⟩ := hT i c hc
  obtain ⟨bo', dap', e, _, _, hU⟩ := HU.out.below HB.out
  simp only [Value.slice.injEq] at e
  obtain ⟨rfl, -, rfl⟩ := e
  obtain ⟨b2, o2, rfl, hA2⟩ := hU j d hd
  have HA := Lib.hid hA
  have HA2 := Lib.hid hA2
  have HQ := Lib.hid (And.intro hc hd)
  have cl := HLN.out c (List.mem_of_getElem? hc)
  have dl := HLM.out d (List.mem_of_getElem? hd)
  have b0 := HP.out.a.b0
  have b01 := HP.out.a.b1 c hc
  have s0 := HP.out.c.b0
  have s01 := HP.out.c.b1 d hd
  have HSC := Lib.hid (HSF.out c d (List.mem_of_getElem? hc) (List.mem_of_getElem? hd) b s (by omega) (by omega) (by omega) (by omega))
  unfold clipV at HSC
  clear hT hU hA hA2 hc hd e1
  obtain ⟨C, hC⟩ : ∃ C, C = (clipC c).toArray := ⟨_, rfl⟩
  obtain ⟨D, hD⟩ : ∃ D, D = (clipC d).toArray := ⟨_, rfl⟩
  rw [← hC, ← hD] at HSC
  have HC := Lib.hid hC
  have HD := Lib.hid hD
  clear hC hD
  have i1 : (i : Int) < (N : Int) := by omega
  have j1 : (j : Int) < (M : Int) := by omega
  go_upto_region 4 with fail
  refine Plan.wp_region_plan (fun w' => CA w' b1 (o1 + i * 22) c ∧ CA w' b2 (o2 + j * 22) d) (([0, 1, 2, 3, 4, 5, 6, 7, 8, 9, 10, 11, 12, 13, 14, 15, 16, 17, 18, 19, 20].map (·, true)) ++ (([21].map (·, false)) ++ ([22].map (·, true)))) (by kernel_rfl) (by kernel_rfl) (by kernel_rfl) ⟨HA.out.below (Below.refl _ _).drew, HA2.out.below (Below.refl _ _).drew⟩ ?_
  refine' Plan.plan_seg _ [0, 1, 2, 3, 4, 5, 6, 7, 8, 9, 10, 11, 12, 13, 14, 15, 16, 17, 18, 19, 20] (([21].map (·, false)) ++ ([22].map (·, true))) (by kernel_rfl) (by kernel_rfl) rfl (by exact ⟨HA.out.below (Below.refl _ _).drew, HA2.out.below (Below.refl _ _).drew⟩) (fun wx hS => ?_) ?_
  rotate_left
  ·obtain ⟨S1, S2⟩ := hS
   have HS1 := Lib.hid S1
   have HS2 := Lib.hid S2
   clear S1 S2
   go_light
   iterate 14 (apply Plan.seg_pick; rfl; intro K hK; go_wp)
   (apply Plan.seg_pick; rfl; intro K hK)
   go_guarded
   refine wp_load_mid 48 _ rfl b1 (o1 + i * 22) rfl (clipC c) _ HS1.out.range Tryz.underlying48 rfl (by kernel_rfl) ?_
   rw [← HC.out]
   go_wp
   iterate 4 (apply Plan.seg_pick; rfl; intro K hK; go_wp)
   (apply Plan.seg_pick; rfl; intro K hK)
   go_guarded
   refine wp_load_mid 48 _ rfl b2 (o2 + j * 22) rfl (clipC d) _ HS2.out.range Tryz.underlying48 rfl (by kernel_rfl) ?_
   rw [← HD.out]
   go_wp
   iterate 1 (apply Plan.seg_pick; rfl; intro K hK; go_wp)
   exact Plan.seg_nil
  obtain ⟨w4, hw4⟩ : ∃ x, x = wr.drew := ⟨_, rfl⟩
  rw [← hw4]
  have hb : Below wr.heap.size wr w4 := by rw [hw4]; exact (Below.refl _ _).drew
  replace HA := Lib.hid (HA.out.below hb)
  replace HA2 := Lib.hid (HA2.out.below hb)
  replace HB := Lib.hid (HB.out.trans (hb.mono HB.out.size))
  clear hb hw4
  obtain ⟨r, hr⟩ : ∃ r, r = decide (Trk.one c b = Trk.one d s) := ⟨_, rfl⟩
  rw [← hr] at HSC
  have HR := Lib.hid hr
  clear hr
  refine Plan.plan_of_effect rfl (fun K hK => ?_)
  go_wp2_with fail
  refine (HSC.out _).mono ?_
  rintro e w5 ⟨rfl, hb⟩
  replace HA := Lib.hid (HA.out.below hb)
  replace HA2 := Lib.hid (HA2.out.below hb)
  replace HB := Lib.hid (HB.out.trans (hb.mono HB.out.size))
  clear hb HSC
  go_wp2_with fail
  refine ⟨⟨HA.out, HA2.out⟩, ?_⟩
  refine' Plan.plan_seg _ [22] [] (by kernel_rfl) (by kernel_rfl) rfl (by exact ⟨HA.out, HA2.out⟩) (fun wx hS => ?_) ?_
  rotate_left
  ·clear hS
   go_light
   iterate 1 (apply Plan.seg_pick; rfl; intro K hK; go_wp)
   exact Plan.seg_nil
  refine Plan.plan_done ?_
  cases r with
  | false =>
   go_wp2_with fail
   go_ret
   exact ⟨p, rfl, HP.out.done HGN.out HGM.out (.inr (.inr ⟨c, d, HQ.out.1, HQ.out.2, of_decide_eq_false HR.out.symm⟩)), HB.out⟩
  | true =>
   obtain ⟨t, ht⟩ : ∃ t, t = min (c.len - b) (d.len - s) := ⟨_, rfl⟩
   have HN2 := Lib.hid (HP.out.step HGN.out HGM.out HQ.out.1 HQ.out.2 (of_decide_eq_true HR.out.symm) ht)
   have pt := HN2.out.a.le HGN.out
   have pt2 : p + t ≤ 2147483647 := Int.le_trans pt.2 TT.out.1
   have x0 := HA.out.k0
   have y0 := HA2.out.k0
   have t1 : 1 ≤ t := by omega
   have t2 : t ≤ c.len - b := by omega
   have t3 : t ≤ d.len - s := by omega
   have HBT := Lib.hid (show b + t = c.len ∨ s + t = d.len by omega)
   obtain ⟨x, hx⟩ : ∃ x, x = c.len - b := ⟨_, rfl⟩
   obtain ⟨y, hy⟩ : ∃ y, y = d.len - s := ⟨_, rfl⟩
   have e1 : c.len - b = x := hx.symm
   have e2 : d.len - s = y := hy.symm
   have HM1 := Lib.hid (show (x ≤ y ∧ t = x) ∨ (y < x ∧ t = y) by omega)
   have x1 : x ≤ 2147483647 := by omega
   have y1 : y ≤ 2147483647 := by omega
   have x2 : 1 ≤ x := by omega
   have y2 : 1 ≤ y := by omega
   clear pt ht hx hy
   go_upto_region 5 with fail
   go_cut [10] from 34 to 75 (fun v10 wx => v10 = .int .i64 (min x y) ∧ ∃ k, wx = w5.drewN k)
   case first J K' h1 h2 =>
    go_quiet (fail)
    refine h2 _ _ (Met.intro (h1 _ _ ?_))
    (repeat apply Exists.intro)
    exact ⟨⟨rfl, _, rfl⟩, rfl⟩
   case rest =>
   obtain ⟨rfl, k5, rfl⟩ := hcut
   have hc1 : min x y = t := by have := HM1.out; omega
   rw [hc1]
   clear e1 e2 x1 x2 y1 y2 hc1
   by_cases h1 : b + t = c.len
   ·have z1 : (b + t == c.len) = true := by simpa using h1
    by_cases h2 : s + t = d.len
    ·have z2 : (s + t == d.len) = true := by simpa using h2
     have HN3 := HN2.out
     rw [if_pos h1, if_pos h2, if_pos h1, if_pos h2] at HN3
     replace HN2 := Lib.hid HN3
     clear HN3 h1 h2
     go_wp2_with fail
     go_roundw
     case rel => exact ⟨i + 1, j + 1, 0, 0, p + t, rfl, by simp, by simp, rfl, rfl, HN2.out, below_drewN HB.out _⟩
     case measure => simp [intOf]; omega
    ·have z2 : (s + t == d.len) = false := by simpa using h2
     have HN3 := HN2.out
     rw [if_pos h1, if_neg h2, if_pos h1, if_neg h2] at HN3
     replace HN2 := Lib.hid HN3
     clear HN3 h1 h2
     go_wp2_with fail
     go_roundw
     case rel => exact ⟨i + 1, j, 0, s + t, p + t, rfl, by simp, by simp, rfl, rfl, HN2.out, below_drewN HB.out _⟩
     case measure => simp [intOf]; omega
   ·have z1 : (b + t == c.len) = false := by simpa using h1
    by_cases h2 : s + t = d.len
    ·have z2 : (s + t == d.len) = true := by simpa using h2
     have HN3 := HN2.out
     rw [if_neg h1, if_pos h2, if_neg h1, if_pos h2] at HN3
     replace HN2 := Lib.hid HN3
     clear HN3 h1 h2
     go_wp2_with fail
     go_roundw
     case rel => exact ⟨i, j + 1, b + t, 0, p + t, rfl, by simp, by simp, rfl, rfl, HN2.out, below_drewN HB.out _⟩
     case measure => simp [intOf]; omega
    ·exfalso
     exact HBT.out.elim h1 h2
set_option maxRecDepth 100000 in
set_option maxHeartbeats 32000000 in
theorem suffix_any {L : Int} (v u : Value) (n m : List Trk.Clip) (lim : Int) (w : World) (h : Tk w v n) (h' : Tk w u m) (Vn : VT L n) (Vm : VT L m) (hL : L ≤ 140737488355328) (l0 : 0 ≤ lim) (l1 : lim ≤ Trk.total n) (l2 : lim ≤ Trk.total m) :
  Calls Tryz.prog 93 #[v, u, .int .i64 lim] w fun e w' => ∃ s, e = .returned (.int .i64 s) ∧ Trk.Suf n m lim s ∧ Below w.heap.size w w' := by
 have HT := Lib.hid h
 have HU := Lib.hid h'
 obtain ⟨ao, cap, rfl, hc1, hc2, -⟩ := h
 obtain ⟨bo, dap, rfl, hd1, hd2, -⟩ := h'
 have HGN := Lib.hid Vn.good
 have HGM := Lib.hid Vm.good
 have tn := Vn.t
 have tm := Vm.t
 have HSF := Lib.hid (fun (c d : Trk.Clip) (hc : c ∈ n) (hd : d ∈ m) (j k : Int) (j0 : -4294967296 ≤ j) (j1 : j ≤ 4294967296) (k0 : -4294967296 ≤ k) (k1 : k ≤ 4294967296) (w : World) =>
  sameframe_any c d j k w (Vn.v c hc).c.ch (Vm.v d hd).c.ch (frB_of (Vn.v c hc) hL j0 j1) (frB_of (Vm.v d hd) hL k0 k1))
 have HLN := Lib.hid (fun (c : Trk.Clip) (hc : c ∈ n) => And.intro (Vn.v c hc).l.1 (Vn.v c hc).l.2.1)
 have HLM := Lib.hid (fun (c : Trk.Clip) (hc : c ∈ m) => And.intro (Vm.v c hc).l.1 (Vm.v c hc).l.2.1)
 have nn := Vn.n
 have nm := Vm.n
 have lb : lim ≤ 2147483647 := by omega
 obtain ⟨N, hN⟩ : ∃ N, N = n.length := ⟨_, rfl⟩
 obtain ⟨M, hM⟩ : ∃ M, M = m.length := ⟨_, rfl⟩
 rw [← hN] at HT nn hc1 ⊢
 rw [← hM] at HU nm hd1 ⊢
 have HN := Lib.hid hN
 have HM := Lib.hid hM
 have TT := Lib.hid (And.intro l1 l2)
 have HL0 := Lib.hid l0
 have HZ := Lib.hid (show Trk.SufAt n m N M 0 0 0 by rw [hN, hM]; exact Trk.SufAt.zero Vn.good Vm.good)
 clear Vn Vm hN hM hc1 hc2 hd1 hd2 tn tm l1 l2
 go_enter Tryz.func93, Tryz.ntmps93
 go_upto_region 4 with fail
 go_loopw [7, 8, 9, 10, 11] (fun v7 v8 v9 v10 v11 wr => ∃ (i j : Nat) (b s p : Int), v7 = .int .i64 p ∧ v8 = .int .i64 ((i : Int) - 1) ∧ v9 = .int .i64 ((j : Int) - 1) ∧ v10 = .int .i64 b ∧ v11 = .int .i64 s ∧ Trk.SufAt n m i j b s p ∧ Below w.heap.size w wr) (fun _ i j _ _ _ => (intOf i + 1).toNat + (intOf j + 1).toNat)
 case atStart => exact ⟨N, M, 0, 0, 0, rfl, rfl, rfl, rfl, rfl, HZ.out, Below.refl _ _⟩
 case round =>
  obtain ⟨i, j, b, s, p, rfl, rfl, rfl, rfl, rfl, hp, hb⟩ := hrel
  have HP := Lib.hid hp
  have HB := Lib.hid hb
  have li : i ≤ N := by have := hp.a.il; have := HN.out; omega
  have lj : j ≤ M := by have := hp.c.il; have := HM.out; omega
  have p0 := hp.a.nonneg HGN.out
  have HDN := Lib.hid (fun hx => hp.done HGN.out HGM.out HL0.out TT.out.1 TT.out.2 hx)
  clear hp hb
  by_cases hpl : p < lim
  rotate_left
  ·have d1 : decide (p < lim) = false := decide_eq_false hpl
   have HD := Lib.hid (HDN.out (.inl (by omega)))
   clear hpl
   go_upto_region 4 with fail
   go_quiet (fail)
   go_wp2_with fail
   all_goals
    go_ret
    exact ⟨min p lim, ret_int (by omega), HD.out, below_drewN HB.out _⟩
  have d1 : decide (p < lim) = true := decide_eq_true hpl
  cases i with
  | zero =>
   have HD := Lib.hid (HDN.out (.inr (.inl rfl)))
   have ei : (((0 : Nat) : Int) - 1) = -1 := by omega
   rw [ei]
   clear ei
   have d2 : decide ((0 : Int) ≤ -1) = false := rfl
   go_upto_region 4 with fail
   go_quiet (fail)
   go_wp2_with fail
   all_goals
    go_ret
    exact ⟨min p lim, ret_int (by omega), HD.out, below_drewN HB.out _⟩
  | succ i =>
  cases j with
  | zero =>
   have HD := Lib.hid (HDN.out (.inr (.inr (.inl rfl))))
   have ei : (((0 : Nat) : Int) - 1) = -1 := by omega
   have ej : (((i + 1 : Nat) : Int) - 1) = (i : Int) := by omega
   rw [ei, ej]
   clear ei ej
   have d2 : decide ((0 : Int) ≤ (i : Int)) = true := decide_eq_true (by omega)
   have d3 : decide ((0 : Int) ≤ -1) = false := rfl
   go_upto_region 4 with fail
   go_quiet (fail)
   go_wp2_with fail
   all_goals
    go_ret
    exact ⟨min p lim, ret_int (by omega), HD.out, below_drewN HB.out _⟩
  | succ j =>
  have ei : (((i + 1 : Nat) : Int) - 1) = (i : Int) := by omega
  have ej : (((j + 1 : Nat) : Int) - 1) = (j : Int) := by omega
  rw [ei, ej]
  clear ei ej
  obtain ⟨c, hc⟩ : ∃ c, n[i]? = some c := ⟨_, List.getElem?_eq_getElem (by have := HN.out; omega)⟩
  obtain ⟨d, hd⟩ : ∃ d, m[j]? = some d := ⟨_, List.getElem?_eq_getElem (by have := HM.out; omega)⟩
  obtain ⟨ao', cap', e, _, _, hT⟩ := HT.out.below HB.out
  have e1 := HN.out
  simp only [Value.slice.injEq] at e
  obtain ⟨rfl, -, rfl⟩ := e
  obtain ⟨b1, o1, rfl, hA⟩ := hT i c hc
  obtain ⟨bo', dap', e, _, _, hU⟩ := HU.out.below HB.out
  simp only [Value.slice.injEq] at e
  obtain ⟨rfl, -, rfl⟩ := e
  obtain ⟨b2, o2, rfl, hA2⟩ := hU j d hd
  have HA := Lib.hid hA
  have HA2 := Lib.hid hA2
  have HQ := Lib.hid (And.intro hc hd)
  have cl := HLN.out c (List.mem_of_getElem? hc)
  have dl := HLM.out d (List.mem_of_getElem? hd)
  have b0 := HP.out.a.b0
  have b01 := HP.out.a.b1 i c rfl hc
  have s0 := HP.out.c.b0
  have s01 := HP.out.c.b1 j d rfl hd
  have HSC := Lib.hid (HSF.out c d (List.mem_of_getElem? hc) (List.mem_of_getElem? hd) (c.len - 1 - b) (d.len - 1 - s) (by omega) (by omega) (by omega) (by omega))
  unfold clipV at HSC
  clear hT hU hA hA2 hc hd e1
  obtain ⟨C, hC⟩ : ∃ C, C = (clipC c).toArray := ⟨_, rfl⟩
  obtain ⟨D, hD⟩ : ∃ D, D = (clipC d).toArray := ⟨_, rfl⟩
  rw [← hC, ← hD] at HSC
  have HC := Lib.hid hC
  have HD := Lib.hid hD
  clear hC hD
  have i1 : (i : Int) < (N : Int) := by omega
  have j1 : (j : Int) < (M : Int) := by omega
  have d2 : decide ((0 : Int) ≤ (i : Int)) = true := decide_eq_true (by omega)
  have d3 : decide ((0 : Int) ≤ (j : Int)) = true := decide_eq_true (by omega)
  go_upto_region 4 with fail
  refine Plan.wp_region_plan (fun w' => CA w' b1 (o1 + i * 22) c ∧ CA w' b2 (o2 + j * 22) d) (([0, 1, 2, 3, 4, 5, 6, 7, 8, 9, 10, 11, 12, 13, 14, 15, 16, 17, 18, 19, 20, 21, 22, 23, 24, 25, 26, 27, 28, 29, 30, 31, 32, 33, 34, 35].map (·, true)) ++ (([36].map (·, false)) ++ ([37].map (·, true)))) (by kernel_rfl) (by kernel_rfl) (by kernel_rfl) ⟨HA.out.below (Below.refl _ _).drew, HA2.out.below (Below.refl _ _).drew⟩ ?_
  refine' Plan.plan_seg _ [0, 1, 2, 3, 4, 5, 6, 7, 8, 9, 10, 11, 12, 13, 14, 15, 16, 17, 18, 19, 20, 21, 22, 23, 24, 25, 26, 27, 28, 29, 30, 31, 32, 33, 34, 35] (([36].map (·, false)) ++ ([37].map (·, true))) (by kernel_rfl) (by kernel_rfl) rfl (by exact ⟨HA.out.below (Below.refl _ _).drew, HA2.out.below (Below.refl _ _).drew⟩) (fun wx hS => ?_) ?_
  rotate_left
  ·obtain ⟨S1, S2⟩ := hS
   have HS1 := Lib.hid S1
   have HS2 := Lib.hid S2
   have x0 := S1.k0
   have y0 := S2.k0
   clear S1 S2
   go_light
   iterate 15 (apply Plan.seg_pick; rfl; intro K hK; go_wp)
   (apply Plan.seg_pick; rfl; intro K hK)
   go_guarded
   refine wp_load_mid 48 _ rfl b1 (o1 + i * 22) rfl (clipC c) _ HS1.out.range Tryz.underlying48 rfl (by kernel_rfl) ?_
   rw [← HC.out]
   go_wp
   iterate 11 (apply Plan.seg_pick; rfl; intro K hK; go_wp)
   (apply Plan.seg_pick; rfl; intro K hK)
   go_guarded
   refine wp_load_mid 48 _ rfl b2 (o2 + j * 22) rfl (clipC d) _ HS2.out.range Tryz.underlying48 rfl (by kernel_rfl) ?_
   rw [← HD.out]
   go_wp
   iterate 8 (apply Plan.seg_pick; rfl; intro K hK; go_wp)
   exact Plan.seg_nil
  obtain ⟨w4, hw4⟩ : ∃ x, x = wr.drew := ⟨_, rfl⟩
  rw [← hw4]
  have hb : Below wr.heap.size wr w4 := by rw [hw4]; exact (Below.refl _ _).drew
  replace HA := Lib.hid (HA.out.below hb)
  replace HA2 := Lib.hid (HA2.out.below hb)
  replace HB := Lib.hid (HB.out.trans (hb.mono HB.out.size))
  clear hb hw4
  obtain ⟨r, hr⟩ : ∃ r, r = decide (Trk.one c (c.len - 1 - b) = Trk.one d (d.len - 1 - s)) := ⟨_, rfl⟩
  rw [← hr] at HSC
  have HR := Lib.hid hr
  clear hr
  refine Plan.plan_of_effect rfl (fun K hK => ?_)
  go_wp2_with fail
  refine (HSC.out _).mono ?_
  rintro e w5 ⟨rfl, hb⟩
  replace HA := Lib.hid (HA.out.below hb)
  replace HA2 := Lib.hid (HA2.out.below hb)
  replace HB := Lib.hid (HB.out.trans (hb.mono HB.out.size))
  clear hb HSC
  go_wp2_with fail
  refine ⟨⟨HA.out, HA2.out⟩, ?_⟩
  refine' Plan.plan_seg _ [37] [] (by kernel_rfl) (by kernel_rfl) rfl (by exact ⟨HA.out, HA2.out⟩) (fun wx hS => ?_) ?_
  rotate_left
  ·clear hS
   go_light
   iterate 1 (apply Plan.seg_pick; rfl; intro K hK; go_wp)
   exact Plan.seg_nil
  refine Plan.plan_done ?_
  cases r with
  | false =>
   have HD := Lib.hid (HDN.out (.inr (.inr (.inr ⟨i, j, c, d, rfl, rfl, HQ.out.1, HQ.out.2, of_decide_eq_false HR.out.symm⟩))))
   go_wp2_with fail
   all_goals
    go_ret
    exact ⟨min p lim, ret_int (by omega), HD.out, HB.out⟩
  | true =>
   obtain ⟨t, ht⟩ : ∃ t, t = min (c.len - b) (d.len - s) := ⟨_, rfl⟩
   have HN2 := Lib.hid (HP.out.step HGN.out HGM.out HQ.out.1 HQ.out.2 (of_decide_eq_true HR.out.symm) ht)
   have x0 := HA.out.k0
   have y0 := HA2.out.k0
   have t1 : 1 ≤ t := by omega
   have t2 : t ≤ c.len - b := by omega
   have t3 : t ≤ d.len - s := by omega
   have HBT := Lib.hid (show b + t = c.len ∨ s + t = d.len by omega)
   obtain ⟨x, hx⟩ : ∃ x, x = c.len - b := ⟨_, rfl⟩
   obtain ⟨y, hy⟩ : ∃ y, y = d.len - s := ⟨_, rfl⟩
   have e1 : c.len - b = x := hx.symm
   have e2 : d.len - s = y := hy.symm
   have HM1 := Lib.hid (show (x ≤ y ∧ t = x) ∨ (y < x ∧ t = y) by omega)
   have x1 : x ≤ 2147483647 := by omega
   have y1 : y ≤ 2147483647 := by omega
   have x2 : 1 ≤ x := by omega
   have y2 : 1 ≤ y := by omega
   clear ht hx hy
   go_upto_region 5 with fail
   go_cut [12] from 57 to 98 (fun v12 wx => v12 = .int .i64 (min x y) ∧ ∃ k, wx = w5.drewN k)
   case first J K' h1 h2 =>
    go_quiet (fail)
    refine h2 _ _ (Met.intro (h1 _ _ ?_))
    (repeat apply Exists.intro)
    exact ⟨⟨rfl, _, rfl⟩, rfl⟩
   case rest =>
   obtain ⟨rfl, k5, rfl⟩ := hcut
   have hc1 : min x y = t := by have := HM1.out; omega
   rw [hc1]
   clear e1 e2 x1 x2 y1 y2 hc1
   by_cases h1 : b + t = c.len
   ·have z1 : (b + t == c.len) = true := by simpa using h1
    by_cases h2 : s + t = d.len
    ·have z2 : (s + t == d.len) = true := by simpa using h2
     have HN3 := HN2.out
     rw [if_pos h1, if_pos h2, if_pos h1, if_pos h2] at HN3
     replace HN2 := Lib.hid HN3
     clear HN3 h1 h2
     go_wp2_with fail
     go_roundw
     case rel => exact ⟨i, j, 0, 0, p + t, rfl, rfl, rfl, rfl, rfl, HN2.out, below_drewN HB.out _⟩
     case measure => simp [intOf] <;> omega
    ·have z2 : (s + t == d.len) = false := by simpa using h2
     have HN3 := HN2.out
     rw [if_pos h1, if_neg h2, if_pos h1, if_neg h2] at HN3
     replace HN2 := Lib.hid HN3
     clear HN3 h1 h2
     go_wp2_with fail
     go_roundw
     case rel => exact ⟨i, j + 1, 0, s + t, p + t, rfl, rfl, by simp, rfl, rfl, HN2.out, below_drewN HB.out _⟩
     case measure => simp [intOf] <;> omega
   ·have z1 : (b + t == c.len) = false := by simpa using h1
    by_cases h2 : s + t = d.len
    ·have z2 : (s + t == d.len) = true := by simpa using h2
     have HN3 := HN2.out
     rw [if_neg h1, if_pos h2, if_neg h1, if_pos h2] at HN3
     replace HN2 := Lib.hid HN3
     clear HN3 h1 h2
     go_wp2_with fail
     go_roundw
     case rel => exact ⟨i + 1, j, b + t, 0, p + t, rfl, by simp, rfl, rfl, rfl, HN2.out, below_drewN HB.out _⟩
     case measure => simp [intOf] <;> omega
    ·exfalso
     exact HBT.out.elim h1 h2
end Go.Proofs.YtfoohocgdcgbcaaGreat
namespace Go.Trk
theorem cutRaw_none (l : List Clip) (f : Int) {n : Int} (hn : n ≤ 0) : cutRaw l f n = [] := by
 cases l with
 | nil => unfold cutRaw; rw [if_neg (by omega)]
 | cons c l => unfold cutRaw; rw [if_pos hn]
theorem cutRaw_len2 : ∀ {l : List Clip} {f n : Int}, GoodL l → 0 ≤ f → f + n ≤ total l → (cutRaw l f n).length ≤ l.length
 | [], f, n, _, hf, h => by
  have : total ([] : List Clip) = 0 := rfl
  rw [cutRaw_none _ _ (by omega)]
  simp
 | c :: l, f, n, g, hf, h => by
  have c1 := g.head.l
  have t1 := total_nonneg g.tail
  rw [total_cons] at h
  unfold cutRaw
  split
  ·simp
  split
  ·have := cutRaw_len2 (l := l) (f := f - c.len) (n := n) g.tail (by omega) (by omega)
   simp only [List.length_cons]
   omega
  ·have := cutRaw_len2 (l := l) (f := 0) (n := n - min (c.len - f) n) g.tail (by omega) (by omega)
   simp only [List.length_cons]
   omega
theorem cutRaw_both : ∀ {l : List Clip} {a b n : Int}, GoodL l → 0 ≤ a → a ≤ b → a ≤ total l → b + n ≤ total l → (cutRaw l 0 a).length + (cutRaw l b n).length ≤ l.length + 1
 | [], a, b, n, _, ha, hb, ht, h => by
  have : total ([] : List Clip) = 0 := rfl
  rw [cutRaw_none _ _ (show a ≤ 0 by omega)]
  have := cutRaw_length [] b n
  simpa using this
 | c :: l, a, b, n, g, ha, hb, ht, h => by
  have c1 := g.head.l
  by_cases h0 : a ≤ 0
  ·rw [cutRaw_none _ _ h0]
   have := cutRaw_length (c :: l) b n
   simpa using this
  ·by_cases h1 : a ≤ c.len
   ·have e : cutRaw (c :: l) 0 a = [withLen (shift c 0) (min (c.len - 0) a)] := by
     show (if a ≤ 0 then [] else if c.len ≤ 0 then cutRaw l (0 - c.len) a else withLen (shift c 0) (min (c.len - 0) a) :: cutRaw l 0 (a - min (c.len - 0) a)) = _
     rw [if_neg h0, if_neg (by omega), cutRaw_none _ _ (by omega)]
    have := cutRaw_len2 (l := c :: l) (f := b) (n := n) g (by omega) h
    rw [e]
    simp only [List.length_cons, List.length_nil] at this ⊢
    omega
   ·have e : cutRaw (c :: l) 0 a = withLen (shift c 0) (min (c.len - 0) a) :: cutRaw l 0 (a - min (c.len - 0) a) := by
     show (if a ≤ 0 then [] else if c.len ≤ 0 then cutRaw l (0 - c.len) a else withLen (shift c 0) (min (c.len - 0) a) :: cutRaw l 0 (a - min (c.len - 0) a)) = _
     rw [if_neg h0, if_neg (by omega)]
    rw [total_cons] at ht h
    have e2 : min (c.len - 0) a = c.len := by omega
    by_cases hn : n ≤ 0
    ·rw [cutRaw_none _ _ hn]
     have := cutRaw_len2 (l := c :: l) (f := 0) (n := a) g (Int.le_refl 0) (by rw [total_cons]; omega)
     simp only [List.length_nil]
     omega
    have e3 : cutRaw (c :: l) b n = cutRaw l (b - c.len) n := by
     show (if n ≤ 0 then [] else if c.len ≤ b then cutRaw l (b - c.len) n else withLen (shift c b) (min (c.len - b) n) :: cutRaw l 0 (n - min (c.len - b) n)) = _
     rw [if_neg hn, if_pos (by omega)]
    have ih := cutRaw_both (l := l) (a := a - c.len) (b := b - c.len) (n := n) g.tail (by omega) (by omega) (by omega) (by omega)
    rw [e, e2, e3]
    simp only [List.length_cons]
    omega
theorem exL_length {n ins : List Clip} {p rem : Int} (gn : GoodL n) (hp : 0 ≤ p) (hr : 0 ≤ rem) : (exL n p rem ins).length ≤ n.length + 2 + ins.length := by
 have tn := total_nonneg gn
 have lg := gapL_len (p - total n)
 have hb := (pk_of (cutRaw_spec (l := n) (f := 0) (n := min p (total n) - 0) gn (Int.le_refl 0) (by omega)).1).n
 have hb' : (cut n 0 (min p (total n))).length ≤ (cutRaw n 0 (min p (total n))).length := by
  have e : min p (total n) - 0 = min p (total n) := by omega
  unfold cut
  rw [e] at hb ⊢
  exact hb
 have ha : (cut n 0 (min p (total n))).length + (aft n (p + rem)).length ≤ n.length + 1 := by
  unfold aft
  split
  ·rename_i h
   have h2 := (pk_of (cutRaw_spec (l := n) (f := p + rem) (n := total n - (p + rem)) gn (by omega) (by omega)).1).n
   have h3 := cutRaw_both (l := n) (a := min p (total n)) (b := p + rem) (n := total n - (p + rem)) gn (by omega) (by omega) (by omega) (by omega)
   have h4 : (cut n (p + rem) (total n)).length ≤ (cutRaw n (p + rem) (total n - (p + rem))).length := h2
   omega
  ·have h3 := cutRaw_length n 0 (min p (total n))
   simp only [List.length_nil]
   omega
 unfold exL
 simp only [List.length_append]
 omega
end Go.Trk
namespace Go.Proofs.YtfoohocgdcgbcaaGreat
open Go.RowKit
structure ExF (t u put : List Trk.Clip) (p rem : Int) : Prop where
 v : VT 1000000 u
 n : Trk.Norm u
 l : u.length ≤ t.length + 2 + put.length
 tt : Trk.total u ≤ max p (Trk.total t) + Trk.total put
 f : ∀ i, 0 ≤ i → Trk.fr u i = if i < p then Trk.fr t i else if i < p + Trk.total put then Trk.fr put (i - p) else Trk.fr t (i - Trk.total put + rem)
theorem exch_of {t : List Trk.Clip} (hV : VT 1000000 t) {e : Trk.Ed} (hE : ExV 1000000 e) (hl : t.length + 2 + e.put.length ≤ 64) (hee : (if e.k = 1 then max e.p (Trk.total t) else e.p) + e.T ≤ 2147483647) :
  ExF t (Trk.nf (e.exl t)) e.put e.p e.rem := by
 have hx := hE.x
 have o := hx.of hV.v.good
 have q := exl_vl hV hE hee
 have ln : (e.exl t).length ≤ t.length + 2 + e.put.length := Trk.exL_length hV.v.good hx.p hx.rem_nonneg
 have hln := Nat.le_trans (Trk.nf_length q.1.good) ln
 have hr := hx.rem_nonneg
 refine ⟨⟨Trk.nf_vl q.1 q.2.1, by omega, Int.le_trans (Trk.nf_total q.1.good) q.2.1⟩, Trk.nf_norm q.1.good, hln, ?_, fun i i0 => ?_⟩
 ·refine Int.le_trans (Trk.nf_total q.1.good) ?_
  rw [o.t]
  omega
 ·rw [Trk.nf_fr q.1.good i0]
  exact o.f i i0
def ExRes (w : World) (u : List Trk.Clip) (e : Ending) (w' : World) : Prop :=
 ∃ vu x1 x2 x3 ra rl rc, e = .returned (.tuple #[vu, .agg (edC x1 x2 x3 0 0 0 0 (.slice ra rl rc)), .int .i64 0]) ∧ OT w' w.heap.size vu u ∧ Below w.heap.size w w'
theorem apply_f (v u : Value) (t : List Trk.Clip) (e : Trk.Ed) (w : World) (h : Tk w v t) (hu : Tk w u e.ins) (hV : VT 1000000 t) (hN : Trk.Norm t) (hE : ExV 1000000 e) (hl : t.length + 2 + e.put.length ≤ 63)
  (hee : (if e.k = 1 then max e.p (Trk.total t) else e.p) + e.T ≤ 2147483647) : Calls Tryz.prog 45 #[v, EdV e u] w (ExRes w (Trk.nf (e.exl t))) := by
 have hx := exch_of hV hE (by omega) hee
 have h1 := apply_x (L := 1000000) v u t e w h hu hV hE (by decide) (by rw [hN.nf]; omega) (by rw [hN.nf]; exact hee) (by rw [hN.nf]; have := hx.l; omega)
 rw [hN.nf] at h1
 refine h1.mono ?_
 rintro ev w' ⟨v', vr, rfl, hou, hor, hb⟩
 obtain ⟨ra, rc, rfl, -⟩ := hor.tk
 exact ⟨_, _, _, _, _, _, _, rfl, hou, hb⟩
theorem OT.first {w : World} {B : Nat} {v : Value} {l : List Trk.Clip} (h : OT w B v l) (hl : l ≠ []) : ∃ g cap, v = .slice (some ⟨g, 0, none⟩) l.length cap ∧ B ≤ g ∧ l.length ≤ cap ∧ ∀ i c, l[i]? = some c → CA w g (i * 22) c := by
 obtain ⟨_, e⟩ | ⟨g, cap, rfl⟩ := h.shape
 ·exact absurd e hl
 ·obtain ⟨ao, cp, e, h1, _⟩ := h.tk
  simp only [Value.slice.injEq] at e
  exact ⟨g, cap, rfl, h.own.1, by omega, h.own.2.2.2⟩
theorem OT.tape {w w' : World} {B B' p k : Nat} {v : Value} {l : List Trk.Clip} (h : OT w B v l) (hn : l ≠ []) (ht : TP w B' p k) (hT : Turn p w w') : OT w' B v l := by
 refine h.blocks (fun g kk cap e => hT.o g (h.blk e).2 (fun hg => ?_))
 subst hg
 obtain ⟨g', cap', e', _, _, hc⟩ := h.first hn
 rw [e'] at e
 simp only [Value.slice.injEq, Option.some.injEq, Addr.mk.injEq, and_true] at e
 obtain ⟨rfl, -, -⟩ := e
 obtain ⟨_, _, ao, n, c, hp, _⟩ := ht
 cases l with
 | nil => exact hn rfl
 | cons x l =>
  have := (hc 0 x rfl).k0
  simp only [Nat.zero_mul, Nat.zero_add, Nat.add_zero] at this
  rw [hp] at this
  cases this
structure ClipsOK (l : List Trk.Clip) (m : Nat) : Prop where
 v : VT 1000000 l
 n : l.length ≤ m
 t1 : 1 ≤ Trk.total l
 t2 : Trk.total l ≤ 9 * (m : Int)
theorem clipsOK_snoc {l : List Trk.Clip} {z : Trk.Clip} {m : Nat} (h : ShortL l) (hl : l.length ≤ m) (hz : TapeC z) (hm : m ≤ 40) : ClipsOK (l ++ [z]) (m + 1) := by
 have hs := h.snoc hz.short
 have ht := short_total hs
 have hv : Trk.VL 1000000 (l ++ [z]) := fun x hx => (hs x hx).1
 have hlen : (l ++ [z]).length ≤ m + 1 := by simp; omega
 have h1 := Trk.total_nonneg (l := l) (fun x hx => (h x hx).1.good)
 have h2 := hz.l0
 refine ⟨⟨hv, by omega, by omega⟩, hlen, ?_, by omega⟩
 rw [Trk.total_append, Trk.total_one]
 omega
theorem ClipsOK.mono {l : List Trk.Clip} {m n : Nat} (h : ClipsOK l m) (hm : m ≤ n) : ClipsOK l n := ⟨h.v, Nat.le_trans h.n hm, h.t1, by have := h.t2; omega⟩
theorem insert_v {cl : List Trk.Clip} {m : Nat} (h : ClipsOK cl m) (hm : m ≤ 40) (k n : Int) (hk : k = 1 ∨ k = 3) (n0 : 0 ≤ n) (n1 : n ≤ 1000) : ExV 1000000 ⟨k, n, 0, 0, 0, 0, 0, cl⟩ ∧ (⟨k, n, 0, 0, 0, 0, 0, cl⟩ : Trk.Ed).T = Trk.total cl ∧ (⟨k, n, 0, 0, 0, 0, 0, cl⟩ : Trk.Ed).put = cl := by
 have t1 := h.t1
 have t2 := h.t2
 have eT : (⟨k, n, 0, 0, 0, 0, 0, cl⟩ : Trk.Ed).T = Trk.total cl := by unfold Trk.Ed.T; rw [if_pos hk]
 refine ⟨⟨⟨?_, n0, h.v.v.good, fun e => ?_, by rw [eT]; exact t1⟩, h.v, fun _ => rfl, ?_, by rw [eT]; omega, rfl, rfl, rfl, rfl⟩, eT, ?_⟩
 ·rcases hk with e | e
  ·exact .inl e
  ·exact .inr (.inr (.inl e))
 ·have e' : k = 2 ∨ k = 4 := e
  omega
 ·show n ≤ _; omega
 ·unfold Trk.Ed.put
  rw [if_neg (by show ¬ k = 4; omega)]
theorem extract_v (n k : Int) (n0 : 0 ≤ n) (n1 : n ≤ 1000) (k0 : 1 ≤ k) (k1 : k ≤ 1000) : ExV 1000000 ⟨2, n, k, 0, 0, 0, 0, []⟩ :=
 ⟨⟨.inr (.inl rfl), n0, Trk.GoodL.nil, fun _ => rfl, k0⟩, ⟨Trk.VL.nil, by simp, by show (0 : Int) ≤ _; decide⟩, fun h => by rcases h with h | h <;> (have h2 : (2 : Int) = _ := h; omega), by show n ≤ _; omega, by show k ≤ _; omega, rfl, rfl, rfl, rfl⟩
theorem lift_v (n m : Int) (n0 : 0 ≤ n) (n1 : n ≤ 1000) (m0 : 1 ≤ m) (m1 : m ≤ 1000) : ExV 1000000 ⟨4, n, m, 0, 0, 0, 0, []⟩ :=
 ⟨⟨.inr (.inr (.inr rfl)), n0, Trk.GoodL.nil, fun _ => rfl, m0⟩, ⟨Trk.VL.nil, by simp, by show (0 : Int) ≤ _; decide⟩, fun h => by rcases h with h | h <;> (have h2 : (4 : Int) = _ := h; omega), by show n ≤ _; omega, by show m ≤ _; omega, rfl, rfl, rfl, rfl⟩
theorem vt_nil : VT 1000000 [] := ⟨Trk.VL.nil, by simp, by show (0 : Int) ≤ _; decide⟩
end Go.Proofs.YtfoohocgdcgbcaaGreat
namespace Go.Trk
theorem Diff.fr {n m x : List Clip} {p q : Int} (h : Diff n m p q x) (gn : GoodL n) (gm : GoodL m) {i : Int} (hi : 0 ≤ i) :
  fr m i = if i < p then fr n i else if i < p + total x then fr x (i - p) else fr n (i - (p + total x) + q) := by
 obtain ⟨h0, h1, h2, h3, h4⟩ := h.le
 have hc := h.cut gm
 have ht := hc.t
 by_cases c1 : i < p
 ·rw [if_pos c1]; exact (h.pre.f i hi c1).symm
 rw [if_neg c1]
 by_cases c2 : i < p + total x
 ·rw [if_pos c2]
  have := hc.f (i - p) (by omega) (by omega)
  rw [this]; congr 1; omega
 rw [if_neg c2]
 by_cases c3 : i < total m
 ·have := h.suf.f (total m - 1 - i) (by omega) (by omega)
  rw [show total m - 1 - (total m - 1 - i) = i by omega] at this
  rw [← this]; congr 1; omega
 ·rw [fr_beyond gm (by omega), fr_beyond gn (by omega)]
theorem Diff.total {n m x : List Clip} {p q : Int} (h : Diff n m p q x) (gm : GoodL m) : total x = total m - (total n - q) - p := by
 have := (h.cut gm).t
 omega
theorem Diff.good {n m x : List Clip} {p q : Int} (h : Diff n m p q x) (gm : GoodL m) : GoodL x := (h.cut gm).g
theorem cut_len {l : List Clip} {a b : Int} (g : GoodL l) (h0 : 0 ≤ a) (h1 : a ≤ b) (h2 : b ≤ total l) : (cut l a b).length ≤ l.length :=
 Nat.le_trans (pk_of (cutRaw_spec (l := l) (f := a) (n := b - a) g h0 (by omega)).1).n (cutRaw_len2 g h0 (by omega))
theorem Diff.len {n m x : List Clip} {p q : Int} (h : Diff n m p q x) (gm : GoodL m) : x.length ≤ m.length := by
 obtain ⟨h0, h1, h2, h3, h4⟩ := h.le
 rw [h.x]
 split
 ·simp
 ·exact cut_len gm h0 h3 (by omega)
theorem Diff.vl {L : Int} {n m x : List Clip} {p q : Int} (h : Diff n m p q x) (v : VL L m) (ht : Trk.total m ≤ 2147483647) : VL L x := by
 obtain ⟨h0, h1, h2, h3, h4⟩ := h.le
 rw [h.x]
 split
 ·exact VL.nil
 ·exact cut_vl v h0 h3 (by omega)
theorem pk_id {l m : List Clip} (gl : GoodL l) (gm : GoodL m) (pm : Pk m) (ht : total l = total m) (hf : ∀ i, 0 ≤ i → i < total m → fr l i = fr m i) : pk l = m := by
 have h := pk_of gl
 have h1 := h.s.t
 refine pk_unique h.g gm h.p pm (by omega) fun i h0 h2 => ?_
 rw [h.s.f i h0]
 exact hf i h0 (by omega)
theorem Diff.back {n m x : List Clip} {p q : Int} (h : Diff n m p q x) (gn : GoodL n) (gm : GoodL m) (pm : Pk m) :
  pk (Trk.cut n 0 p ++ x) = Trk.cut m 0 (p + Trk.total x) ∧ pk (Trk.cut m 0 (p + Trk.total x) ++ Trk.cut n q (Trk.total n)) = m := by
 obtain ⟨h0, h1, h2, h3, h4⟩ := h.le
 have ht := h.total gm
 have gx := h.good gm
 have hx0 := total_nonneg gx
 have A := cut_of gn (Int.le_refl 0) h0
 have At := A.t
 have U := cut_of gm (Int.le_refl 0) (show 0 ≤ p + Trk.total x by omega)
 have Ut := U.t
 have R := cut_of gn (show 0 ≤ q by omega) h2
 have Rt := R.t
 constructor
 ·have hp := pk_of (A.g.append gx)
  refine CutOf.eq ⟨hp.g, hp.p, ?_, fun i i0 i1 => ?_⟩ gm (Int.le_refl 0) (by omega)
  ·rw [hp.s.t, total_append]; omega
  ·rw [hp.s.f i i0, Int.zero_add, h.fr gn gm i0]
   by_cases c1 : i < p
   ·rw [if_pos c1, fr_append_lt _ A.g i0 (by omega), A.f i i0 (by omega), Int.zero_add]
   ·rw [if_neg c1, if_pos (by omega), fr_append_ge _ A.g (by omega)]
    congr 1; omega
 ·refine pk_id (U.g.append R.g) gm pm (by rw [total_append]; omega) fun i i0 i1 => ?_
  by_cases c1 : i < p + Trk.total x
  ·rw [fr_append_lt _ U.g i0 (by omega), U.f i i0 (by omega), Int.zero_add]
  ·rw [fr_append_ge _ U.g (by omega), h.fr gn gm i0, if_neg (by omega), if_neg c1, R.f (i - Trk.total (Trk.cut m 0 (p + Trk.total x))) (by omega) (by omega)]
   congr 1; omega
end Go.Trk
namespace Go.Proofs.YtfoohocgdcgbcaaGreat
open Go.RowKit
structure D4 (w : World) (g : Nat) (p q : Int) (x : Value) (e : Int) : Prop where
 k0 : w.cell? ⟨g, 0, none⟩ = some (.int .i64 p)
 k1 : w.cell? ⟨g, 1, none⟩ = some (.int .i64 q)
 k2 : w.cell? ⟨g, 2, none⟩ = some x
 k3 : w.cell? ⟨g, 3, none⟩ = some (.int .i64 e)
 f : ∀ o, w.frozen? ⟨g, o, none⟩ = false
theorem D4.lt {w : World} {g : Nat} {p q : Int} {x : Value} {e : Int} (h : D4 w g p q x e) : g < w.heap.size := block_lt_of_cell h.k0
theorem D4.below {w w' : World} {g : Nat} {p q : Int} {x : Value} {e : Int} (h : D4 w g p q x e) (hb : Below w.heap.size w w') : D4 w' g p q x e :=
 ⟨(hb.cell h.lt).trans h.k0, (hb.cell h.lt).trans h.k1, (hb.cell h.lt).trans h.k2, (hb.cell h.lt).trans h.k3, fun o => (hb.frozen (p := ⟨g, o, none⟩) h.lt).trans (h.f o)⟩
theorem results_diff {fn : Func} {tmps : Array Value} {w : World} {t : Tmp} {g : Nat} {p q : Int} {x : Value} {e : Int} (hr : fn.results = #[.cell t 98]) (ht : tmps.getD t undef = .pointer (some ⟨g, 0, none⟩)) (h : D4 w g p q x e) :
  (results fn tmps).run Tryz.prog w = .ok (.agg #[.int .i64 p, .int .i64 q, x, .int .i64 e]) w := by
 have hc : w.rangeAt g 0 [.int .i64 p, .int .i64 q, x, .int .i64 e] := by
  intro j u hj
  have hl : j < 4 := (List.getElem?_eq_some_iff.1 hj).1
  rcases (show j = 0 ∨ j = 1 ∨ j = 2 ∨ j = 3 by omega) with rfl | rfl | rfl | rfl
  all_goals
   simp only [List.getElem?_cons_zero, List.getElem?_cons_succ, Option.some.injEq] at hj
   subst hj
  ·exact h.k0
  ·exact h.k1
  ·exact h.k2
  ·exact h.k3
 have h := run_loadVar_mid (P := Tryz.prog) w g 0 98 [.int .i64 p, .int .i64 q, x, .int .i64 e] _ hc Tryz.underlying98 rfl (by kernel_rfl)
 unfold results
 rw [hr]
 have ht2 : tmps[t]?.getD undef = .pointer (some ⟨g, 0, none⟩) := by rw [← Array.getD_eq_getD_getElem?]; exact ht
 simp [ht2, asAddr, h]
def partL (l : List Trk.Clip) (a b : Int) : List Trk.Clip := if a = b then [] else Trk.cut l a b
set_option maxRecDepth 100000 in
set_option maxHeartbeats 8000000 in
theorem part_any {L : Int} (v : Value) (l : List Trk.Clip) (a b : Int) (w : World) (h : Tk w v l) (hV : VT L l) (hL : L ≤ 140737488355328) (a0 : 0 ≤ a) (ab : a ≤ b) (b1 : b ≤ Trk.total l) :
  Calls Tryz.prog 94 #[v, .int .i64 a, .int .i64 b] w fun e w' => ∃ v', e = .returned (.tuple #[v', .int .i64 0]) ∧ OT w' w.heap.size v' (partL l a b) ∧ Below w.heap.size w w' := by
 have HC := Lib.hid (cut_any v l a b w h hV hL a0 ab (by have := hV.t; omega) (Nat.le_trans (Trk.cut_len hV.good a0 ab b1) hV.n))
 obtain ⟨ao, cap, rfl, -⟩ := h
 clear hV
 unfold partL
 by_cases he : a = b
 ·rw [if_pos he]
  subst he
  clear HC
  go_enter Tryz.func94, Tryz.ntmps94
  go_wp2_with fail
  go_ret2
  exact ⟨_, rfl, OT.nil _ _, Below.refl _ _⟩
 ·rw [if_neg he]
  have z : (a == b) = false := by simpa using he
  go_enter Tryz.func94, Tryz.ntmps94
  go_wp2_with fail
  refine HC.out.mono ?_
  rintro e w1 ⟨v', rfl, ho, hb⟩
  have HO := Lib.hid ho
  have HB := Lib.hid hb
  clear ho hb
  go_wp2_with fail
  go_ret2
  exact ⟨_, rfl, HO.out, HB.out⟩
def CmpPost (w : World) (n m : List Trk.Clip) (e : Ending) (w' : World) : Prop := ∃ p q x xv, e = .returned (.agg #[.int .i64 p, .int .i64 q, xv, .int .i64 0]) ∧ Trk.Diff n m p q x ∧ OT w' w.heap.size xv x ∧ Below w.heap.size w w'
set_option maxRecDepth 100000 in
set_option maxHeartbeats 8000000 in
theorem compare_any {L : Int} (v u : Value) (n m : List Trk.Clip) (w : World) (h : Tk w v n) (h' : Tk w u m) (Vn : VT L n) (Vm : VT L m) (hL : L ≤ 140737488355328) :
  Calls Tryz.prog 49 #[v, u] w (CmpPost w n m) := by
 have HT := Lib.hid h
 have HU := Lib.hid h'
 have L1 := Lib.hid (fun (w : World) (h : Tk w v n) => length_any v n w h Vn hL)
 have L2 := Lib.hid (fun (w : World) (h : Tk w u m) => length_any u m w h Vm hL)
 have PX := Lib.hid (fun (w : World) (h : Tk w v n) (h' : Tk w u m) => prefix_any v u n m w h h' Vn Vm hL)
 have SX := Lib.hid (fun (lim : Int) (w : World) (h : Tk w v n) (h' : Tk w u m) => suffix_any v u n m lim w h h' Vn Vm hL)
 have PA := Lib.hid (fun (a b : Int) (w : World) (h' : Tk w u m) => part_any u m a b w h' Vm hL)
 have tn := Vn.t
 have tm := Vm.t
 have t0 := Trk.total_nonneg Vn.good
 have t1 := Trk.total_nonneg Vm.good
 obtain ⟨ao, cap, rfl, -⟩ := h
 obtain ⟨bo, dap, rfl, -⟩ := h'
 clear Vn Vm
 obtain ⟨N, hN⟩ : ∃ N, N = Trk.total n := ⟨_, rfl⟩
 obtain ⟨M, hM⟩ : ∃ M, M = Trk.total m := ⟨_, rfl⟩
 rw [← hN] at tn t0
 rw [← hM] at tm t1
 have HN := Lib.hid hN
 have HM := Lib.hid hM
 clear hN hM
 obtain ⟨ln, hln⟩ : ∃ k, k = n.length := ⟨_, rfl⟩
 obtain ⟨lm, hlm⟩ : ∃ k, k = m.length := ⟨_, rfl⟩
 rw [← hln] at HT L1 PX SX ⊢
 rw [← hlm] at HU L2 PX SX PA ⊢
 clear hln hlm
 go_enter Tryz.func49, Tryz.ntmps49
 go_upto_region 1 with fail
 obtain ⟨w1, hw1⟩ : ∃ z, z = w.alloc (.cells #[.int .i64 0, .int .i64 0, .slice none 0 0, .int .i64 0] 98) := ⟨_, rfl⟩
 obtain ⟨g, hg⟩ : ∃ g, g = w.heap.size := ⟨_, rfl⟩
 have hb : Below w.heap.size w w1 := by rw [hw1]; exact below_box _ _
 have HD := Lib.hid (show D4 w1 g 0 0 (.slice none 0 0) 0 by rw [hw1, hg]; exact ⟨by simp [go_sem], by simp [go_sem], by simp [go_sem], by simp [go_sem], fun o => by simp [go_sem]⟩)
 rw [← hw1, ← hg]
 have HB := Lib.hid hb
 have HG := Lib.hid (show w.heap.size ≤ g by omega)
 replace HT := Lib.hid (HT.out.below hb)
 replace HU := Lib.hid (HU.out.below hb)
 clear hb hw1 hg
 go_wp2_with fail
 refine (L1.out _ HT.out).mono ?_
 rintro e w2 ⟨rfl, hb⟩
 replace HB := Lib.hid (HB.out.trans (hb.mono HB.out.size))
 replace HD := Lib.hid (HD.out.below hb)
 replace HT := Lib.hid (HT.out.below hb)
 replace HU := Lib.hid (HU.out.below hb)
 rw [← HN.out]
 clear hb
 go_wp2_with fail
 refine (L2.out _ HU.out).mono ?_
 rintro e w3 ⟨rfl, hb⟩
 replace HB := Lib.hid (HB.out.trans (hb.mono HB.out.size))
 replace HD := Lib.hid (HD.out.below hb)
 replace HT := Lib.hid (HT.out.below hb)
 replace HU := Lib.hid (HU.out.below hb)
 rw [← HM.out]
 clear hb
 go_wp2_with fail
 refine (PX.out _ HT.out HU.out).mono ?_
 rintro e w4 ⟨p, rfl, hp, hb⟩
 replace HB := Lib.hid (HB.out.trans (hb.mono HB.out.size))
 replace HD := Lib.hid (HD.out.below hb)
 replace HT := Lib.hid (HT.out.below hb)
 replace HU := Lib.hid (HU.out.below hb)
 have HP := Lib.hid hp
 have p0 := hp.h0
 have p1 : p ≤ N := by rw [HN.out]; exact hp.h1
 have p2 : p ≤ M := by rw [HM.out]; exact hp.h2
 clear hb hp
 obtain ⟨k, hk⟩ : ∃ k, k = min N M := ⟨_, rfl⟩
 have HK := Lib.hid hk
 have k1 : k ≤ N := by omega
 have k2 : k ≤ M := by omega
 have k3 : p ≤ k := by omega
 clear hk
 go_upto_region 3 with fail
 apply wp_region_lit
 iterate 15 go_step
 rw [← HK.out]
 go_wp2_with fail
 refine (SX.out (k - p) _ HT.out HU.out (by omega) (by have := HN.out; omega) (by have := HM.out; omega)).mono ?_
 rintro e w5 ⟨s, rfl, hs, hb⟩
 replace HB := Lib.hid (HB.out.trans (hb.mono HB.out.size))
 replace HD := Lib.hid (HD.out.below hb)
 replace HU := Lib.hid (HU.out.below hb)
 have HS := Lib.hid hs
 have s0 := hs.h0
 have s1 := hs.h1
 clear hb hs HT
 obtain ⟨q, hq⟩ : ∃ q, q = N - s := ⟨_, rfl⟩
 obtain ⟨r, hr⟩ : ∃ r, r = M - s := ⟨_, rfl⟩
 have eq1 : N - s = q := hq.symm
 have er1 : M - s = r := hr.symm
 have HQR := Lib.hid (And.intro hq hr)
 have q0 : p ≤ q := by omega
 have q1 : q ≤ 2147483647 := by omega
 have r0 : p ≤ r := by omega
 have r1 : r ≤ 2147483647 := by omega
 have r2 : r ≤ M := by omega
 clear hq hr
 go_upto_region 5 with fail
 obtain ⟨w6, hw6⟩ : ∃ z, z = w5.alloc (.cells #[.int .i64 p, .int .i64 q, .slice none 0 0, .int .i64 0] 98) := ⟨_, rfl⟩
 obtain ⟨g2, hg2⟩ : ∃ g, g = w5.heap.size := ⟨_, rfl⟩
 have hb : Below w5.heap.size w5 w6 := by rw [hw6]; exact below_box _ _
 have HE := Lib.hid (show D4 w6 g2 p q (.slice none 0 0) 0 by rw [hw6, hg2]; exact ⟨by simp [go_sem], by simp [go_sem], by simp [go_sem], by simp [go_sem], fun o => by simp [go_sem]⟩)
 rw [← hw6, ← hg2]
 have HG2 := Lib.hid (show w.heap.size ≤ g2 ∧ g ≠ g2 by have := HB.out.size; have := HD.out.lt; omega)
 replace HB := Lib.hid (HB.out.trans (hb.mono HB.out.size))
 replace HD := Lib.hid (HD.out.below hb)
 replace HU := Lib.hid (HU.out.below hb)
 clear hb hw6 hg2
 go_wp2_with fail
 refine (PA.out p r _ HU.out p0 r0 (by have := HM.out; omega)).mono ?_
 rintro e w7 ⟨xv, rfl, ho, hb⟩
 obtain ⟨xa, xc, hxv, -⟩ := ho.tk
 have HO := Lib.hid ho
 have HLE := Lib.hid (And.intro HB.out.size (And.intro HD.out.lt HE.out.lt))
 replace HB := Lib.hid (HB.out.trans (hb.mono HB.out.size))
 replace HD := Lib.hid (HD.out.below hb)
 replace HE := Lib.hid (HE.out.below hb)
 clear hb ho
 obtain ⟨xn, hxn⟩ : ∃ k, k = (partL m p r).length := ⟨_, rfl⟩
 rw [← hxn] at hxv
 subst hxv
 clear hxn
 obtain ⟨e0, e1, e2, e3, ef⟩ := HE.out
 obtain ⟨d0, d1, d2, d3, df⟩ := HD.out
 have n1 := HG2.out.2
 have n2 : g2 ≠ g := Ne.symm n1
 go_wp2_with fail
 have hxp : partL m p r = if p = Trk.total m - (Trk.total n - q) then [] else Trk.cut m p (Trk.total m - (Trk.total n - q)) := by
  have h1 : r = Trk.total m - (Trk.total n - q) := by
   rw [← HN.out, ← HM.out]
   have := HQR.out
   omega
  rw [← h1]
  rfl
 have hdf : Trk.Diff n m p q (partL m p r) := by
  refine ⟨HP.out, ?_, hxp⟩
  have h1 : Trk.total n - q = s := by rw [← HN.out]; have := HQR.out; omega
  rw [h1, ← HN.out, ← HM.out, ← HK.out]
  exact HS.out
 have hg := HG.out
 have hg2 := HG2.out.1
 refine bodyPost_ret (results_diff (g := g) (p := p) (q := q) (x := .slice xa xn xc) (e := 0) Tryz.results49 rfl ?_) rfl ⟨p, q, _, _, rfl, hdf, ?_, ?_⟩
 ·exact ⟨by simp [go_sem, d0, d1, d2, d3, df], by simp [go_sem, d0, d1, d2, d3, df], by simp [go_sem, d0, d1, d2, d3, df], by simp [go_sem, d0, d1, d2, d3, df], fun o => by simp [go_sem, df]⟩
 ·obtain ⟨l1, l2, l3⟩ := HLE.out
  have h := HO.out
  exact ((((((h.far (p := ⟨g2, 2, none⟩) l3 _).far (p := ⟨g2, 3, none⟩) l3 _).far (p := ⟨g, 0, none⟩) l2 _).far (p := ⟨g, 1, none⟩) l2 _).far (p := ⟨g, 2, none⟩) l2 _).far (p := ⟨g, 3, none⟩) l2 _).lower l1
 ·have h := HB.out
  exact (((((h.setCell (p := ⟨g2, 2, none⟩) hg2 _).setCell (p := ⟨g2, 3, none⟩) hg2 _).setCell (p := ⟨g, 0, none⟩) hg _).setCell (p := ⟨g, 1, none⟩) hg _).setCell (p := ⟨g, 2, none⟩) hg _).setCell (p := ⟨g, 3, none⟩) hg _
theorem idle72 (p q : Addr) (w : World) : CallsD Tryz.prog 72 #[.pointer (some p), .pointer (some q)] .returning w fun e u' w' => e = .returned (.tuple #[]) ∧ u' = .returning ∧ w' = w := by
 refine callsD_of_wpS Tryz.func72 rfl fun c₀ cs hu => ?_
 apply wpS_seq
 apply wpS_region
 simp [wpOpsS, go_sem, recoverD, hu, Tryz.ntmps72, Exit.thenS]
 refine wpS_cond (t := false) (by simp [Act.eval, Array.replicate]) ?_
 simp only [Bool.false_eq_true, if_false]
 refine wpS_of_wp (wp_skip ?_)
 cases c₀
 simp_all [bodyPostS, results, Tryz.results72]
def JoinPost (w : World) (a b : List Trk.Clip) (e : Ending) (w' : World) : Prop :=
 ∃ v' code, e = .returned (.tuple #[v', .int .i64 code]) ∧ (((Trk.pk (a ++ b)).length ≤ 64 ∧ code = 0 ∧ OT w' w.heap.size v' (Trk.pk (a ++ b))) ∨ (64 < (Trk.pk (a ++ b)).length ∧ code = 5 ∧ v' = .slice none 0 0)) ∧ Below w.heap.size w w'
set_option maxRecDepth 100000 in
set_option maxHeartbeats 8000000 in
theorem join_any {L : Int} (v u : Value) (a b : List Trk.Clip) (w : World) (h : Tk w v a) (h' : Tk w u b) (Va : VT L a) (Vb : VT L b) (hL : L ≤ 140737488355328) (ht : Trk.total a + Trk.total b ≤ 2147483647) :
  Calls Tryz.prog 32 #[v, u] w (JoinPost w a b) := by
 have HT := Lib.hid h
 have HU := Lib.hid h'
 have V1 := Lib.hid (fun (w : World) (h : Tk w v a) => vtrack_any v a w h Va hL)
 have V2 := Lib.hid (fun (w : World) (h : Tk w u b) => vtrack_any u b w h Vb hL)
 have T1 := Lib.hid (fun (w : World) (h : Tk w v a) => total_any v a w h Va.good (by have := Va.t; omega) (by have := Va.n; omega))
 have T2 := Lib.hid (fun (w : World) (h : Tk w u b) => total_any u b w h Vb.good (by have := Vb.t; omega) (by have := Vb.n; omega))
 have CC := Lib.hid (fun (b' o c : Nat) (w : World) (c1 : w.cell? ⟨b', o, none⟩ = some v) (c2 : w.cell? ⟨b', o + 1, none⟩ = some u) (h1 : Tk w v a) (h2 : Tk w u b) (hc : 2 ≤ c) => concat_two b' o c v u a b w c1 c2 h1 h2 hc (by have := Va.n; have := Vb.n; omega))
 have hO : ∀ c ∈ a ++ b, OkC c := fun c hc => VC.okC ((List.mem_append.1 hc).elim (Va.v c) (Vb.v c)) hL
 have PK := Lib.hid (fun (x : Value) (w : World) (h : Tk w x (a ++ b)) => pack_any x (a ++ b) w h hO (by have := Va.n; have := Vb.n; simp; omega) (by rw [Trk.total_append]; omega))
 have t0 := Trk.total_nonneg Va.good
 have t1 := Trk.total_nonneg Vb.good
 have la := Va.n
 have lb := Vb.n
 obtain ⟨ao, ca, rfl, -⟩ := h
 obtain ⟨bo, cb, rfl, -⟩ := h'
 clear Va Vb hO
 obtain ⟨A, hA⟩ : ∃ A, A = Trk.total a := ⟨_, rfl⟩
 obtain ⟨B, hB⟩ : ∃ B, B = Trk.total b := ⟨_, rfl⟩
 rw [← hA] at T1 t0 ht
 rw [← hB] at T2 t1 ht
 obtain ⟨na, hna⟩ : ∃ k, k = a.length := ⟨_, rfl⟩
 obtain ⟨nb, hnb⟩ : ∃ k, k = b.length := ⟨_, rfl⟩
 rw [← hna] at HT V1 T1 CC la ⊢
 rw [← hnb] at HU V2 T2 CC lb ⊢
 clear hA hB hna hnb
 obtain ⟨R, hR⟩ : ∃ R, R = Trk.pk (a ++ b) := ⟨_, rfl⟩
 rw [← hR] at PK
 unfold JoinPost
 rw [← hR]
 clear hR
 go_enter_defers Tryz.func32, Tryz.ntmps32
 go_upto_region 2 with fail
 obtain ⟨w1, hw1⟩ : ∃ x, x = (w.alloc (.cells #[.slice none 0 0] 23)).alloc (.cells #[.int .i64 0] 30) := ⟨_, rfl⟩
 rw [← hw1]
 have hE1 : Below w.heap.size w w1 := by rw [hw1]; go_grown
 obtain ⟨g1, hg1⟩ : ∃ g, g = w.heap.size := ⟨_, rfl⟩
 obtain ⟨g2, hg2⟩ : ∃ g, g = w.heap.size + 1 := ⟨_, rfl⟩
 have hr : RV w1 g1 g2 (.slice none 0 0) (.int .i64 0) := by rw [hw1, hg1, hg2]; constructor <;> simp [go_sem]
 have hz : w1.heap.size = g2 + 1 := by rw [hw1, hg2]; simp [go_sem]
 rw [← hg2, ← hg1]
 have hn1 : w.heap.size ≤ g1 := by omega
 have hn2 : w.heap.size ≤ g2 := by omega
 have h12 : g1 < g2 := by omega
 have HR := Lib.hid hr
 have HB := Lib.hid hE1
 have HS := Lib.hid (Nat.le_of_eq hz.symm)
 clear hw1 hE1 hg1 hg2 hr hz
 go_wp2_with fail
 refine (V1.out _ (HT.out.below HB.out)).mono ?_
 rintro e w2 ⟨rfl, hb⟩
 replace HR := Lib.hid (HR.out.up hb)
 replace HB := Lib.hid (HB.out.trans (hb.mono HB.out.size))
 replace HS := Lib.hid (Nat.le_trans HS.out hb.size)
 clear hb V1
 go_wp2_with fail
 refine (V2.out _ (HU.out.below HB.out)).mono ?_
 rintro e w3 ⟨rfl, hb⟩
 replace HR := Lib.hid (HR.out.up hb)
 replace HB := Lib.hid (HB.out.trans (hb.mono HB.out.size))
 replace HS := Lib.hid (Nat.le_trans HS.out hb.size)
 clear hb V2
 go_wp2_with fail
 refine (T1.out _ (HT.out.below HB.out)).mono ?_
 rintro e w4 ⟨rfl, hb⟩
 replace HR := Lib.hid (HR.out.up hb)
 replace HB := Lib.hid (HB.out.trans (hb.mono HB.out.size))
 replace HS := Lib.hid (Nat.le_trans HS.out hb.size)
 clear hb T1
 go_wp2_with fail
 refine (T2.out _ (HU.out.below HB.out)).mono ?_
 rintro e w5 ⟨rfl, hb⟩
 replace HR := Lib.hid (HR.out.up hb)
 replace HB := Lib.hid (HB.out.trans (hb.mono HB.out.size))
 replace HS := Lib.hid (Nat.le_trans HS.out hb.size)
 clear hb T2
 have hte : ¬ 2147483647 < A + B := by omega
 go_upto_region 6 with fail
 apply wp_region_lit
 iterate 6 go_step
 refine Great.wpList_buildSliceTo rfl 68 23 2 #[(0, .tmp 21), (1, .tmp 22)] rfl w5.heap.size rfl (some 23) rfl Tryz.underlying68 #[.slice ao na ca, .slice bo nb cb] ?_ ?_
 ·simp only [List.map_toArray, List.map_cons, List.map_nil, List.toList_toArray]
  kernel_rfl
 have hb := below_box w5 (.cells #[.slice ao na ca, .slice bo nb cb] 23)
 have hx1 : (w5.alloc (.cells #[.slice ao na ca, .slice bo nb cb] 23)).cell? ⟨w5.heap.size, 0, none⟩ = some (.slice ao na ca) := by simp [go_sem]
 have hx2 : (w5.alloc (.cells #[.slice ao na ca, .slice bo nb cb] 23)).cell? ⟨w5.heap.size, 0 + 1, none⟩ = some (.slice bo nb cb) := by simp [go_sem]
 obtain ⟨w6, hw6⟩ : ∃ x, x = w5.alloc (.cells #[.slice ao na ca, .slice bo nb cb] 23) := ⟨_, rfl⟩
 rw [← hw6] at hb hx1 hx2 ⊢
 obtain ⟨g5, hg5⟩ : ∃ x, x = w5.heap.size := ⟨_, rfl⟩
 rw [← hg5] at hx1 hx2 ⊢
 have HX := Lib.hid (And.intro hx1 hx2)
 replace HR := Lib.hid (HR.out.up hb)
 replace HB := Lib.hid (HB.out.trans (hb.mono HB.out.size))
 replace HS := Lib.hid (Nat.le_trans HS.out hb.size)
 clear hb hx1 hx2 hw6 hg5
 go_wp2_with fail
 refine (CC.out g5 0 2 _ HX.out.1 HX.out.2 (HT.out.below HB.out) (HU.out.below HB.out) (Nat.le_refl _)).mono ?_
 rintro e w7 ⟨x7, rfl, ho, hb⟩
 obtain ⟨xa, xc, hx7, -⟩ := ho.tk
 obtain ⟨nx, hnx⟩ : ∃ k, k = (a ++ b).length := ⟨_, rfl⟩
 rw [← hnx] at hx7
 subst hx7
 clear hnx
 replace HR := Lib.hid (HR.out.up hb)
 replace HB := Lib.hid (HB.out.trans (hb.mono HB.out.size))
 replace HS := Lib.hid (Nat.le_trans HS.out hb.size)
 have HO := Lib.hid ho.tk
 clear hb ho HX CC
 go_wp2_with fail
 refine (PK.out _ _ HO.out).mono ?_
 rintro e w8 ⟨x8, rfl, ho, hb⟩
 obtain ⟨ya, yc, hx8, -⟩ := ho.tk
 have HQ := Lib.hid (ho.lower HS.out)
 replace HR := Lib.hid (HR.out.up hb)
 replace HB := Lib.hid (HB.out.trans (hb.mono HB.out.size))
 clear hb ho PK
 obtain ⟨nr, hnr⟩ : ∃ nr, nr = R.length := ⟨_, rfl⟩
 rw [← hnr] at hx8
 subst hx8
 have HNR := Lib.hid hnr
 clear hnr HO
 have r1 := HR.out.c1
 have r2 := HR.out.f1
 have r3 := HR.out.c2
 have r4 := HR.out.f2
 have n12 : g1 ≠ g2 := by omega
 have n21 : g2 ≠ g1 := by omega
 by_cases hle : nr ≤ 64
 ·have hz : ¬ (64 : Int) < (nr : Int) := by omega
  go_wp2_with fail
  refine leaves_cons (f := 72) (args := #[.pointer (some ⟨g1, 0, none⟩), .pointer (some ⟨g2, 0, none⟩)]) (by simp) (by simp [go_sem]) ?_
  refine (idle72 _ _ _).mono ?_
  rintro e u' w'' ⟨rfl, rfl, rfl⟩
  simp [Leaves, settle, results, Tryz.results32, go_sem, r1, r3, n12, n21]
  exact ⟨_, _, ⟨rfl, rfl⟩, .inl ⟨by rw [← HNR.out]; exact hle, rfl, (((HQ.out.far (p := ⟨g1, 0, none⟩) (by show g1 < g2 + 1; omega) _).far (p := ⟨g1, 0, none⟩) (by show g1 < g2 + 1; omega) _).far (p := ⟨g2, 0, none⟩) (by show g2 < g2 + 1; omega) _).lower (by omega)⟩,
   ((HB.out.setCell (p := ⟨g1, 0, none⟩) hn1 _).setCell (p := ⟨g1, 0, none⟩) hn1 _).setCell (p := ⟨g2, 0, none⟩) hn2 _⟩
 ·have hz : (64 : Int) < (nr : Int) := by omega
  go_wp2_with fail
  refine leaves_cons (f := 72) (args := #[.pointer (some ⟨g1, 0, none⟩), .pointer (some ⟨g2, 0, none⟩)]) (by simp) (by simp [go_sem]) ?_
  refine (idle72 _ _ _).mono ?_
  rintro e u' w'' ⟨rfl, rfl, rfl⟩
  simp [Leaves, settle, results, Tryz.results32, go_sem, r1, r3, n12, n21]
  exact ⟨_, _, ⟨rfl, rfl⟩, .inr ⟨by rw [← HNR.out]; omega, rfl, rfl⟩,
   ((HB.out.setCell (p := ⟨g1, 0, none⟩) hn1 _).setCell (p := ⟨g1, 0, none⟩) hn1 _).setCell (p := ⟨g2, 0, none⟩) hn2 _⟩
theorem cut_vt {L : Int} {l : List Trk.Clip} (h : VT L l) {a b : Int} (a0 : 0 ≤ a) (ab : a ≤ b) (b1 : b ≤ Trk.total l) : VT L (Trk.cut l a b) := by
 have ht := h.t
 refine ⟨Trk.cut_vl h.v a0 ab (by omega), Nat.le_trans (Trk.cut_len h.good a0 ab b1) h.n, ?_⟩
 rw [(Trk.cut_of h.good a0 ab).t]
 omega
theorem diff_vt {L : Int} {n m x : List Trk.Clip} {p q : Int} (h : Trk.Diff n m p q x) (hm : VT L m) : VT L x := by
 have ht := h.total hm.good
 obtain ⟨h0, h1, h2, h3, h4⟩ := h.le
 have := hm.t
 exact ⟨h.vl hm.v hm.t, Nat.le_trans (h.len hm.good) hm.n, by omega⟩
def pieces (n : List Trk.Clip) (p1 q1 : Int) (x1 : List Trk.Clip) (p2 q2 : Int) (x2 : List Trk.Clip) : List (List Trk.Clip) := [partL n 0 p1, x1, partL n q1 p2, x2, partL n q2 (Trk.total n)]
def flatK (P : List (List Trk.Clip)) (k : Nat) : List Trk.Clip := (P.take k).flatten
theorem flatK_succ {P : List (List Trk.Clip)} {k : Nat} {x : List Trk.Clip} (h : P[k]? = some x) : flatK P (k + 1) = flatK P k ++ x := by
 unfold flatK
 rw [List.take_add_one, h]
 simp
theorem flatK_total_le {P : List (List Trk.Clip)} (h : ∀ l ∈ P, Trk.GoodL l) : ∀ k, Trk.total (flatK P k) ≤ Trk.total P.flatten := by
 intro k
 have e : P.flatten = flatK P k ++ (P.drop k).flatten := by unfold flatK; rw [← List.flatten_append, List.take_append_drop]
 rw [e, Trk.total_append]
 have : Trk.GoodL (P.drop k).flatten := fun c hc => by
  obtain ⟨l, hl, hcl⟩ := List.mem_flatten.1 hc
  exact h l (List.mem_of_mem_drop hl) c hcl
 have := Trk.total_nonneg this
 omega
theorem flatK_vl {L : Int} {P : List (List Trk.Clip)} (h : ∀ l ∈ P, Trk.VL L l) (k : Nat) : Trk.VL L (flatK P k) := fun c hc => by
 obtain ⟨l, hl, hcl⟩ := List.mem_flatten.1 hc
 exact h l (List.mem_of_mem_take hl) c hcl
theorem pk_pk_append {u v : List Trk.Clip} (gu : Trk.GoodL u) (gv : Trk.GoodL v) : Trk.pk (Trk.pk u ++ v) = Trk.pk (u ++ v) :=
 Trk.pk_eq ((Trk.pk_of gu).g.append gv) (gu.append gv) (Trk.Same.append (Trk.pk_of gu).g gu (Trk.pk_of gu).s (Trk.Same.refl _))
def GlueR (P : List (List Trk.Clip)) (code : Int) (x : List Trk.Clip) : Prop :=
 (code = 5 ∧ x = [] ∧ ∃ k, k ≤ P.length ∧ 64 < (Trk.pk (flatK P k)).length) ∨ (code = 0 ∧ x = Trk.nf P.flatten ∧ ∀ k, k ≤ P.length → (Trk.pk (flatK P k)).length ≤ 64)
set_option maxRecDepth 100000 in
theorem five_zero (w : World) (k : Int) (h : k = 0 ∨ k = 1 ∨ k = 2 ∨ k = 3 ∨ k = 4) : Sem.run Tryz.prog (Instr.index 137 (Value.agg #[.int .i64 0, .int .i64 0, .int .i64 0, .int .i64 0, .int .i64 0]) (.int .i64 k)) w = .ok (.int .i64 0) w := by
 rcases h with rfl | rfl | rfl | rfl | rfl <;> simp [Instr.index, run_underlying Tryz.underlying137, part, sizeOf, asIntOf, go_sem, Tryz.t30]
def rpG (x y z : Int) (i lo hi : Nat) (v : Value) (w : World) : Prop := v = if i = 5 then .int .i64 x else if i = 6 then .int .i64 z else .int .i64 y
theorem rpG.ext {x y z : Int} (i lo hi : Nat) (v : Value) (w w' : World) (h : rpG x y z i lo hi v w) (hb : Plan.Ext w w') : rpG x y z i lo hi v w' := h
def rpS : List (Nat × Tmp) := [(5, 80), (6, 81), (9, 84)]
theorem nf_pk {u : List Trk.Clip} (g : Trk.GoodL u) : Trk.nf (Trk.pk u) = Trk.nf u := by
 unfold Trk.nf
 rw [Trk.pk_pk g]
theorem partL_vt {L : Int} {l : List Trk.Clip} (h : VT L l) {a b : Int} (a0 : 0 ≤ a) (ab : a ≤ b) (b1 : b ≤ Trk.total l) : VT L (partL l a b) := by
 unfold partL
 split
 ·exact ⟨Trk.VL.nil, by simp, by show (0 : Int) ≤ _; decide⟩
 ·exact cut_vt h a0 ab b1
theorem partL_total {l : List Trk.Clip} (h : Trk.GoodL l) {a b : Int} (a0 : 0 ≤ a) (ab : a ≤ b) : Trk.total (partL l a b) = b - a := by
 unfold partL
 split
 ·show (0 : Int) = _; omega
 ·exact (Trk.cut_of h a0 ab).t
def RepPost (w : World) (n : List Trk.Clip) (p1 q1 : Int) (x1 : List Trk.Clip) (p2 q2 : Int) (x2 : List Trk.Clip) (e : Ending) (w' : World) : Prop :=
 ∃ v' code x, e = .returned (.tuple #[v', .int .i64 code]) ∧ OT w' w.heap.size v' x ∧ Below w.heap.size w w' ∧
  ((2147483647 < Trk.total (pieces n p1 q1 x1 p2 q2 x2).flatten ∧ code = 2 ∧ x = []) ∨ (Trk.total (pieces n p1 q1 x1 p2 q2 x2).flatten ≤ 2147483647 ∧ GlueR (pieces n p1 q1 x1 p2 q2 x2) code x))
set_option maxRecDepth 100000 in
set_option maxHeartbeats 16000000 in
theorem replace_any {L : Int} (v xv yv : Value) (n x1 x2 : List Trk.Clip) (p1 q1 p2 q2 : Int) (w : World) (h : Tk w v n) (hx : Tk w xv x1) (hy : Tk w yv x2) (Vn : VT L n) (Vx : VT L x1) (Vy : VT L x2) (hL : L ≤ 140737488355328)
  (i0 : 0 ≤ p1) (i1 : p1 ≤ q1) (i2 : q1 ≤ p2) (i3 : p2 ≤ q2) (i4 : q2 ≤ Trk.total n) :
  Calls Tryz.prog 50 #[v, .agg #[.int .i64 p1, .int .i64 q1, xv, .int .i64 0], .agg #[.int .i64 p2, .int .i64 q2, yv, .int .i64 0]] w (RepPost w n p1 q1 x1 p2 q2 x2) := by
 have HT := Lib.hid h
 have HX := Lib.hid hx
 have HY := Lib.hid hy
 have LN := Lib.hid (fun (w : World) (h : Tk w v n) => length_any v n w h Vn hL)
 have LX := Lib.hid (fun (w : World) (h : Tk w xv x1) => length_any xv x1 w h Vx hL)
 have LY := Lib.hid (fun (w : World) (h : Tk w yv x2) => length_any yv x2 w h Vy hL)
 have P1 := Lib.hid (fun (w : World) (h : Tk w v n) => part_any v n 0 p1 w h Vn hL (Int.le_refl 0) i0 (by omega))
 have P2 := Lib.hid (fun (w : World) (h : Tk w v n) => part_any v n q1 p2 w h Vn hL (by omega) i2 (by omega))
 have P3 := Lib.hid (fun (w : World) (h : Tk w v n) => part_any v n q2 (Trk.total n) w h Vn hL (by omega) i4 (Int.le_refl _))
 have VA := Lib.hid (partL_vt Vn (Int.le_refl 0) i0 (by omega))
 have VB := Lib.hid (partL_vt Vn (show 0 ≤ q1 by omega) i2 (by omega))
 have VC' := Lib.hid (partL_vt Vn (show 0 ≤ q2 by omega) i4 (Int.le_refl _))
 have tA := partL_total Vn.good (Int.le_refl 0) i0
 have tB := partL_total Vn.good (show 0 ≤ q1 by omega) i2
 have tC := partL_total Vn.good (show 0 ≤ q2 by omega) i4
 have tn := Vn.t
 have tx := Vx.t
 have ty := Vy.t
 have tx0 := Trk.total_nonneg Vx.good
 have ty0 := Trk.total_nonneg Vy.good
 have HVL := Lib.hid (show ∀ l ∈ pieces n p1 q1 x1 p2 q2 x2, VT L l from fun l hl => by
  simp only [pieces, List.mem_cons, List.not_mem_nil, or_false] at hl
  rcases hl with rfl | rfl | rfl | rfl | rfl
  ·exact VA.out
  ·exact Vx
  ·exact VB.out
  ·exact Vy
  ·exact VC'.out)
 have HTF := Lib.hid (show Trk.total (pieces n p1 q1 x1 p2 q2 x2).flatten = Trk.total n - (q1 - p1 + q2 - p2) + Trk.total x1 + Trk.total x2 by
  simp only [pieces, List.flatten_cons, List.flatten_nil, List.append_nil, Trk.total_append, tA, tB, tC]
  omega)
 obtain ⟨ao, ca, rfl, -⟩ := h
 obtain ⟨xo, cx, rfl, -⟩ := hx
 obtain ⟨yo, cy, rfl, -⟩ := hy
 clear Vn Vx Vy tA tB tC
 obtain ⟨N, hN⟩ : ∃ N, N = Trk.total n := ⟨_, rfl⟩
 obtain ⟨X, hX⟩ : ∃ N, N = Trk.total x1 := ⟨_, rfl⟩
 obtain ⟨Y, hY⟩ : ∃ N, N = Trk.total x2 := ⟨_, rfl⟩
 rw [← hN] at LN P3 i4 tn
 rw [← hX] at LX tx tx0
 rw [← hY] at LY ty ty0
 rw [← hN, ← hX, ← hY] at HTF
 have HP := Lib.hid (show pieces n p1 q1 x1 p2 q2 x2 = [partL n 0 p1, x1, partL n q1 p2, x2, partL n q2 N] by rw [hN]; rfl)
 obtain ⟨nn, hnn⟩ : ∃ k, k = n.length := ⟨_, rfl⟩
 obtain ⟨nx, hnx⟩ : ∃ k, k = x1.length := ⟨_, rfl⟩
 obtain ⟨ny, hny⟩ : ∃ k, k = x2.length := ⟨_, rfl⟩
 rw [← hnn] at HT LN P1 P2 P3 ⊢
 rw [← hnx] at HX LX ⊢
 rw [← hny] at HY LY ⊢
 clear hN hX hY hnn hnx hny
 unfold RepPost
 obtain ⟨PP, hPP⟩ : ∃ P, P = pieces n p1 q1 x1 p2 q2 x2 := ⟨_, rfl⟩
 rw [← hPP] at HVL HTF HP ⊢
 clear hPP
 go_enter Tryz.func50, Tryz.ntmps50
 go_upto_region 1 with fail
 obtain ⟨w1, hw1⟩ : ∃ z, z = (w.alloc (.cells #[.int .i64 p1, .int .i64 q1, .slice xo nx cx, .int .i64 0] 98)).alloc (.cells #[.int .i64 p2, .int .i64 q2, .slice yo ny cy, .int .i64 0] 98) := ⟨_, rfl⟩
 obtain ⟨g1, hg1⟩ : ∃ g, g = w.heap.size := ⟨_, rfl⟩
 obtain ⟨g2, hg2⟩ : ∃ g, g = w.heap.size + 1 := ⟨_, rfl⟩
 have hb : Below w.heap.size w w1 := by rw [hw1]; go_grown
 have HD := Lib.hid (show D4 w1 g1 p1 q1 (.slice xo nx cx) 0 by rw [hw1, hg1]; exact ⟨by simp [go_sem], by simp [go_sem], by simp [go_sem], by simp [go_sem], fun o => by simp [go_sem]⟩)
 have HE := Lib.hid (show D4 w1 g2 p2 q2 (.slice yo ny cy) 0 by rw [hw1, hg2]; exact ⟨by simp [go_sem], by simp [go_sem], by simp [go_sem], by simp [go_sem], fun o => by simp [go_sem]⟩)
 rw [← hw1, ← hg2, ← hg1]
 have HB := Lib.hid hb
 replace HT := Lib.hid (HT.out.below hb)
 replace HX := Lib.hid (HX.out.below hb)
 replace HY := Lib.hid (HY.out.below hb)
 clear hb hw1 hg1 hg2
 go_wp2_with fail
 refine (LN.out _ HT.out).mono ?_
 rintro e w2 ⟨rfl, hb⟩
 replace HT := Lib.hid (HT.out.below hb)
 replace HX := Lib.hid (HX.out.below hb)
 replace HY := Lib.hid (HY.out.below hb)
 replace HD := Lib.hid (HD.out.below hb)
 replace HE := Lib.hid (HE.out.below hb)
 replace HB := Lib.hid (HB.out.trans (hb.mono HB.out.size))
 clear hb
 obtain ⟨d0, d1, d2, d3, df⟩ := HD.out
 go_wp2_with fail
 refine (P1.out _ HT.out).mono ?_
 rintro e w3 ⟨v3, rfl, ho, hb⟩
 have H3 := Lib.hid ho.tk
 clear d0 d1 d2 d3 df
 replace HT := Lib.hid (HT.out.below hb)
 replace HX := Lib.hid (HX.out.below hb)
 replace HY := Lib.hid (HY.out.below hb)
 replace HD := Lib.hid (HD.out.below hb)
 replace HE := Lib.hid (HE.out.below hb)
 replace HB := Lib.hid (HB.out.trans (hb.mono HB.out.size))
 clear hb
 obtain ⟨d0, d1, d2, d3, df⟩ := HD.out
 obtain ⟨e0, e1, e2, e3, ef⟩ := HE.out
 go_wp2_with fail
 refine (P2.out _ HT.out).mono ?_
 rintro e w4 ⟨v4, rfl, ho, hb⟩
 have H4 := Lib.hid ho.tk
 clear d0 d1 d2 d3 df e0 e1 e2 e3 ef
 replace HT := Lib.hid (HT.out.below hb)
 replace HX := Lib.hid (HX.out.below hb)
 replace HY := Lib.hid (HY.out.below hb)
 replace HD := Lib.hid (HD.out.below hb)
 replace HE := Lib.hid (HE.out.below hb)
 replace H3 := Lib.hid (H3.out.below hb)
 replace HB := Lib.hid (HB.out.trans (hb.mono HB.out.size))
 clear hb
 obtain ⟨e0, e1, e2, e3, ef⟩ := HE.out
 go_wp2_with fail
 refine (P3.out _ HT.out).mono ?_
 rintro e w5 ⟨v5, rfl, ho, hb⟩
 have H5 := Lib.hid ho.tk
 clear e0 e1 e2 e3 ef
 replace HX := Lib.hid (HX.out.below hb)
 replace HY := Lib.hid (HY.out.below hb)
 replace HD := Lib.hid (HD.out.below hb)
 replace HE := Lib.hid (HE.out.below hb)
 replace H3 := Lib.hid (H3.out.below hb)
 replace H4 := Lib.hid (H4.out.below hb)
 replace HB := Lib.hid (HB.out.trans (hb.mono HB.out.size))
 clear hb
 clear HT P1 P2 P3 LN
 obtain ⟨d0, d1, d2, d3, df⟩ := HD.out
 obtain ⟨e0, e1, e2, e3, ef⟩ := HE.out
 go_upto_region 6 with fail
 go_loopw [57] (fun i wr => (i = .int .i64 0 ∨ i = .int .i64 1 ∨ i = .int .i64 2 ∨ i = .int .i64 3 ∨ i = .int .i64 4 ∨ i = .int .i64 5) ∧ wr = w5) (fun i _ => 5 - (intOf i).toNat)
 case atStart => exact ⟨.inl rfl, rfl⟩
 case round =>
  obtain ⟨hi, rfl⟩ := hrel
  rcases hi with rfl | rfl | rfl | rfl | rfl | rfl
  iterate 5
   ·go_wp2_with fail
    rw [five_zero _ _ (by decide)]
    go_wp2_with fail
    go_roundw
    case rel => exact ⟨by simp, trivial⟩
    case measure => simp [intOf]
  obtain ⟨dd, hdd⟩ : ∃ dd, dd = q1 - p1 + q2 - p2 := ⟨_, rfl⟩
  have hd1 : q1 - p1 + q2 - p2 = dd := hdd.symm
  have hd2 : 0 ≤ dd ∧ dd ≤ N := by omega
  have HDD := Lib.hid hdd
  clear hdd
  go_upto_region 12 with fail
  clear d0 d1 d2 d3 df e0 e1 e2 e3 ef hd1
  have hd3 := hd2.1
  have hd4 := hd2.2
  refine Plan.wp_region_fresh (fun w' => Below wr.heap.size wr w') 12 (rpG X Y (N - dd + X)) ([0, 1, 2, 3, 4, 7, 8].map (·, true)) rpS ([10, 11].map (·, true)) 114 (by kernel_rfl) (by kernel_rfl) (by kernel_rfl) (Below.refl _ _).drew (fun wa wb ha hb => ha.trans (hb.mono ha.size)) rpG.ext ?_
  refine' Plan.plan_seg _ [0, 1, 2, 3, 4, 7, 8] [] (by kernel_rfl) (by kernel_rfl) rfl (by exact (Below.refl _ _).drew) (fun wx hS => ?_) ?_
  rotate_left
  ·obtain ⟨d0, d1, d2, d3, df⟩ := HD.out.below hS
   obtain ⟨e0, e1, e2, e3, ef⟩ := HE.out.below hS
   clear hS
   go_light
   iterate 7 (apply Plan.seg_pick; rfl; intro K hK; go_wp)
   exact Plan.seg_nil
  refine Plan.plan_nil ?_
  refine Plan.fresh_at_gen (fun A => A.tmps.size = 114 ∧ A.tmps[79]? = some (.slice xo nx cx) ∧ A.tmps[83]? = some (.slice yo ny cy) ∧ A.tmps[77]? = some (.int .i64 (N - dd))) ⟨rfl, rfl, rfl, rfl⟩ rfl (fun Aq hA => ?_) ?_
  ·obtain ⟨hsz, e79, e83, e77⟩ := hA
   intro p' hp o ho vs wx lo hi hS hE hG K hK
   simp only [rpS, List.mem_cons, List.not_mem_nil, or_false] at hp
   rcases hp with rfl | rfl | rfl
   all_goals obtain rfl := Option.some.inj ho
   ·have t9 : (Plan.puts vs rpS Aq).eval (.tmp 79) = .slice xo nx cx := by rw [Plan.eval_out (by decide)]; simp [Act.eval, Array.getD_eq_getD_getElem?, e79]
    refine Plan.one_call rfl 31 Tryz.func31 (by kernel_rfl) (by kernel_rfl) #[.tmp 79] #[23] rfl #[.slice xo nx cx] (by simp only [List.map_toArray, List.map_cons, List.map_nil, t9]) (fun r w' => r = .int .i64 X ∧ Below wx.heap.size wx w') ?_ (fun r w' hR => hK _ _ hR.1 hR.2)
    refine (LX.out wx (HX.out.below hS)).mono ?_
    rintro e w' ⟨rfl, hb⟩
    exact ⟨_, rfl, rfl, hb⟩
   ·have h5 : vs 5 = .int .i64 X := hG (5, 80) (by decide) (by decide)
    have t80 : (Plan.puts vs rpS Aq).tmps[80]? = some (.int .i64 X) := by
     rw [← h5]
     exact Plan.puts_in vs rpS Aq (i := 5) (s := 80) (by decide) (by decide) (by rw [hsz]; decide)
    have t77 : (Plan.puts vs rpS Aq).tmps[77]? = some (.int .i64 (N - dd)) := by
     rw [Plan.puts_out vs rpS Aq (s := 77) (by decide)]
     exact e77
    clear hG
    obtain ⟨Bq, hBq⟩ : ∃ Bq, Bq = Plan.puts vs rpS Aq := ⟨_, rfl⟩
    rw [← hBq] at hK t80 t77 ⊢
    clear hBq hsz e79 e83 e77
    go_wp2
    exact hK _ _ rfl (Below.refl _ _)
   ·have t9 : (Plan.puts vs rpS Aq).eval (.tmp 83) = .slice yo ny cy := by rw [Plan.eval_out (by decide)]; simp [Act.eval, Array.getD_eq_getD_getElem?, e83]
    refine Plan.one_call rfl 31 Tryz.func31 (by kernel_rfl) (by kernel_rfl) #[.tmp 83] #[23] rfl #[.slice yo ny cy] (by simp only [List.map_toArray, List.map_cons, List.map_nil, t9]) (fun r w' => r = .int .i64 Y ∧ Below wx.heap.size wx w') ?_ (fun r w' hR => hK _ _ hR.1 hR.2)
    refine (LY.out wx (HY.out.below hS)).mono ?_
    rintro e w' ⟨rfl, hb⟩
    exact ⟨_, rfl, rfl, hb⟩
  intro vs lo hi w6 hS hE hall hap
  have h2 : vs 5 = .int .i64 X := (hall (5, 80) (by decide)).1
  have h5 : vs 9 = .int .i64 Y := (hall (9, 84) (by decide)).1
  have h6 : vs 6 = .int .i64 (N - dd + X) := (hall (6, 81) (by decide)).1
  have hSk := Lib.hid hS
  have hb := hS
  simp only [rpS, Plan.puts, h2, h5, h6]
  clear hall hap hE hS h2 h5 h6
  replace HX := Lib.hid (HX.out.below hb)
  replace HY := Lib.hid (HY.out.below hb)
  replace HD := Lib.hid (HD.out.below hb)
  replace HE := Lib.hid (HE.out.below hb)
  replace H3 := Lib.hid (H3.out.below hb)
  replace H4 := Lib.hid (H4.out.below hb)
  replace H5 := Lib.hid (H5.out.below hb)
  replace HB := Lib.hid (HB.out.trans (hb.mono HB.out.size))
  clear hb
  obtain ⟨S, hS⟩ : ∃ S, S = N - dd + X + Y := ⟨_, rfl⟩
  have hs1 : N - dd + X + Y = S := hS.symm
  have HSS := Lib.hid (show Trk.total PP.flatten = S by rw [HTF.out, hS, HDD.out])
  clear hS
  refine' Plan.plan_seg _ [10, 11] [] (by kernel_rfl) (by kernel_rfl) rfl (by exact hSk.out) (fun wy hS => ?_) ?_
  rotate_left
  ·clear hS
   go_light
   iterate 2 (apply Plan.seg_pick; rfl; intro K hK; go_wp)
   exact Plan.seg_nil
  refine Plan.plan_done ?_
  clear hs1
  by_cases hlong : 2147483647 < S
  ·have HLG := Lib.hid hlong
   go_wp2_with fail
   go_ret2
   exact ⟨_, _, _, rfl, OT.nil _ _, HB.out, .inl ⟨by rw [HSS.out]; exact HLG.out, rfl, rfl⟩⟩
  have HLG := Lib.hid (show Trk.total PP.flatten ≤ 2147483647 by rw [HSS.out]; omega)
  obtain ⟨d0, d1, d2, d3, df⟩ := HD.out
  obtain ⟨e0, e1, e2, e3, ef⟩ := HE.out
  obtain ⟨a3, c3, h3, -⟩ := H3.out
  obtain ⟨a4, c4, h4, -⟩ := H4.out
  obtain ⟨a5, c5, h5, -⟩ := H5.out
  obtain ⟨n3, hn3⟩ : ∃ k, k = (partL n 0 p1).length := ⟨_, rfl⟩
  obtain ⟨n4, hn4⟩ : ∃ k, k = (partL n q1 p2).length := ⟨_, rfl⟩
  obtain ⟨n5, hn5⟩ : ∃ k, k = (partL n q2 N).length := ⟨_, rfl⟩
  rw [← hn3] at h3
  rw [← hn4] at h4
  rw [← hn5] at h5
  subst h3 h4 h5
  clear hn3 hn4 hn5
  go_upto_region 15 with fail
  apply wp_region_lit
  iterate 21 go_step
  refine Great.wpList_buildSliceTo rfl 68 23 5 #[(0, .tmp 87), (1, .tmp 89), (2, .tmp 90), (3, .tmp 92), (4, .tmp 93)] rfl w6.heap.size rfl (some 94) rfl Tryz.underlying68 #[.slice a3 n3 c3, .slice xo nx cx, .slice a4 n4 c4, .slice yo ny cy, .slice a5 n5 c5] ?_ ?_
  ·simp only [List.map_toArray, List.map_cons, List.map_nil, List.toList_toArray]
   kernel_rfl
  obtain ⟨w7, hw7⟩ : ∃ z, z = w6.alloc (.cells #[.slice a3 n3 c3, .slice xo nx cx, .slice a4 n4 c4, .slice yo ny cy, .slice a5 n5 c5] 23) := ⟨_, rfl⟩
  obtain ⟨gs, hgs⟩ : ∃ g, g = w6.heap.size := ⟨_, rfl⟩
  have hb : Below w6.heap.size w6 w7 := by rw [hw7]; exact below_box _ _
  have f0 : w7.cell? ⟨gs, 0, none⟩ = some (.slice a3 n3 c3) := by rw [hw7, hgs]; simp [go_sem]
  have f1 : w7.cell? ⟨gs, 1, none⟩ = some (.slice xo nx cx) := by rw [hw7, hgs]; simp [go_sem]
  have f2 : w7.cell? ⟨gs, 2, none⟩ = some (.slice a4 n4 c4) := by rw [hw7, hgs]; simp [go_sem]
  have f3 : w7.cell? ⟨gs, 3, none⟩ = some (.slice yo ny cy) := by rw [hw7, hgs]; simp [go_sem]
  have f4 : w7.cell? ⟨gs, 4, none⟩ = some (.slice a5 n5 c5) := by rw [hw7, hgs]; simp [go_sem]
  rw [← hw7, ← hgs]
  clear hw7 hgs d0 d1 d2 d3 df e0 e1 e2 e3 ef
  replace HX := Lib.hid (HX.out.below hb)
  replace HY := Lib.hid (HY.out.below hb)
  replace H3 := Lib.hid (H3.out.below hb)
  replace H4 := Lib.hid (H4.out.below hb)
  replace H5 := Lib.hid (H5.out.below hb)
  replace HB := Lib.hid (HB.out.trans (hb.mono HB.out.size))
  clear hb
  have HC := Lib.hid (show ∀ i x, PP[i]? = some x → ∃ a m c, w7.cell? ⟨gs, i, none⟩ = some (.slice a m c) ∧ Tk w7 (.slice a m c) x from fun i x hi => by
   rw [HP.out] at hi
   have hlt := (List.getElem?_eq_some_iff.1 hi).1
   rcases (show i = 0 ∨ i = 1 ∨ i = 2 ∨ i = 3 ∨ i = 4 by simp at hlt; omega) with rfl | rfl | rfl | rfl | rfl
   all_goals
    simp only [List.getElem?_cons_zero, List.getElem?_cons_succ, Option.some.injEq] at hi
    subst hi
   ·exact ⟨_, _, _, f0, H3.out⟩
   ·exact ⟨_, _, _, f1, HX.out⟩
   ·exact ⟨_, _, _, f2, H4.out⟩
   ·exact ⟨_, _, _, f3, HY.out⟩
   ·exact ⟨_, _, _, f4, H5.out⟩)
  have HPL := Lib.hid (show PP.length = 5 by rw [HP.out]; rfl)
  clear f0 f1 f2 f3 f4 H3 H4 H5 HX HY HD HE HSS
  have hgl : ∀ l ∈ PP, Trk.GoodL l := fun l hl => (HVL.out l hl).good
  have HGL := Lib.hid hgl
  have HVF := Lib.hid (show ∀ k, (Trk.pk (flatK PP k)).length ≤ 64 → VT L (Trk.pk (flatK PP k)) from fun k hk => by
   have hv := flatK_vl (L := L) (fun l hl => (HVL.out l hl).v) k
   have ht := flatK_total_le HGL.out k
   have h2 := HLG.out
   refine ⟨Trk.pk_vl hv (by omega), hk, ?_⟩
   rw [(Trk.pk_of hv.good).s.t]
   omega)
  clear hgl
  go_upto_region 16 with fail
  go_loopw [18, 96] (fun v18 v96 wl => ∃ k : Nat, k ≤ 5 ∧ v96 = .int .i64 (k : Int) ∧ Tk wl v18 (Trk.pk (flatK PP k)) ∧ (∀ j, j ≤ k → (Trk.pk (flatK PP j)).length ≤ 64) ∧ Below w7.heap.size w7 wl) (fun _ i _ => 5 - (intOf i).toNat)
  case atStart =>
   refine ⟨0, Nat.zero_le _, rfl, Tk.nil _, fun j hj => ?_, Below.refl _ _⟩
   have : j = 0 := by omega
   subst this
   exact Nat.zero_le _
  case round =>
   obtain ⟨k, hk, rfl, ht, hl, hb⟩ := hrel
   have HT := Lib.hid ht
   have HLL := Lib.hid hl
   have HBK := Lib.hid hb
   clear ht hl hb
   by_cases hlt : k < 5
   ·have hlt' : (k : Int) < 5 := by omega
    obtain ⟨x, hx⟩ : ∃ x, PP[k]? = some x := ⟨_, List.getElem?_eq_getElem (by rw [HPL.out]; exact hlt)⟩
    obtain ⟨xa, xm, xc, hcell, htk⟩ := HC.out k x hx
    have cx := (HBK.out.cell (p := ⟨gs, k, none⟩) (block_lt_of_cell hcell)).trans hcell
    have HXT := Lib.hid (htk.below HBK.out)
    have VX := HVL.out x (List.mem_of_getElem? hx)
    have hsum : Trk.total (Trk.pk (flatK PP k)) + Trk.total x ≤ 2147483647 := by
     have h1 := flatK_total_le HGL.out (k + 1)
     rw [flatK_succ hx, Trk.total_append] at h1
     have h2 := HLG.out
     rw [(Trk.pk_of (flatK_vl (L := L) (fun l hl => (HVL.out l hl).v) k).good).s.t]
     omega
    have HJ := Lib.hid (fun (v : Value) (w : World) (h : Tk w v (Trk.pk (flatK PP k))) (h' : Tk w (.slice xa xm xc) x) => join_any v (.slice xa xm xc) _ x w h h' (HVF.out k (HLL.out k (Nat.le_refl _))) VX hL hsum)
    unfold JoinPost at HJ
    rw [pk_pk_append (flatK_vl (L := L) (fun l hl => (HVL.out l hl).v) k).good VX.good, ← flatK_succ hx] at HJ
    clear hcell htk VX hsum hx
    go_wp2_with fail
    refine (HJ.out _ _ HT.out HXT.out).mono ?_
    rintro e w8 ⟨v8, code, rfl, hj, hb⟩
    have HB8 := Lib.hid (HBK.out.trans (hb.mono HBK.out.size))
    clear cx hb
    rcases hj with ⟨h1, rfl, ho⟩ | ⟨h1, rfl, rfl⟩
    ·have HO := Lib.hid ho.tk
     have HL1 := Lib.hid h1
     clear ho h1
     go_wp2_with fail
     go_roundw
     case rel =>
      refine ⟨k + 1, by omega, by simp, HO.out, fun j hj => ?_, HB8.out⟩
      by_cases hjk : j = k + 1
      ·rw [hjk]; exact HL1.out
      ·exact HLL.out j (by omega)
     case measure =>
      simp [intOf]
      omega
    ·have HL1 := Lib.hid h1
     clear h1
     go_wp2_with fail
     go_ret2
     exact ⟨_, _, _, rfl, OT.nil _ _, HB.out.trans (HB8.out.mono HB.out.size), .inr ⟨HLG.out, .inl ⟨rfl, rfl, k + 1, by rw [HPL.out]; omega, HL1.out⟩⟩⟩
   ·have hk5 : k = 5 := by omega
    subst hk5
    have e5 : flatK PP 5 = PP.flatten := by unfold flatK; rw [List.take_of_length_le (by rw [HPL.out]; omega)]
    have VV := HVF.out 5 (HLL.out 5 (Nat.le_refl _))
    have HLF := Lib.hid (fun j (hj : j ≤ PP.length) => HLL.out j (by rw [HPL.out] at hj; exact hj))
    rw [e5] at HT VV
    have gf : Trk.GoodL PP.flatten := by rw [← e5]; exact (flatK_vl (L := L) (fun l hl => (HVL.out l hl).v) 5).good
    have NO := Lib.hid (fun (v : Value) (w : World) (h : Tk w v (Trk.pk PP.flatten)) => normal_any v _ w h VV hL)
    rw [nf_pk gf] at NO
    have CL := Lib.hid (fun (v : Value) (w : World) (h : Tk w v (Trk.nf PP.flatten)) => clonetrack_any v _ w h (by have := (nf_vt VV).n; rw [nf_pk gf] at this; omega))
    clear VV gf e5
    go_wp2_with fail
    refine (NO.out _ _ HT.out).mono ?_
    rintro e w8 ⟨v8, rfl, ho, hb⟩
    have HO := Lib.hid ho.tk
    have HB8 := Lib.hid (HBK.out.trans (hb.mono HBK.out.size))
    clear hb ho
    go_wp2_with fail
    refine (CL.out _ _ HO.out).mono ?_
    rintro e w9 ⟨v9, rfl, ho, hb⟩
    have HO9 := Lib.hid (ho.lower (Nat.le_trans HB.out.size HB8.out.size))
    have HB9 := Lib.hid (HB8.out.trans (hb.mono HB8.out.size))
    clear hb ho
    go_wp2_with fail
    go_ret2
    exact ⟨_, _, _, rfl, HO9.out, HB.out.trans (HB9.out.mono HB.out.size), .inr ⟨HLG.out, .inr ⟨rfl, rfl, HLF.out⟩⟩⟩
def RepR (n : List Trk.Clip) (p1 q1 : Int) (x1 : List Trk.Clip) (p2 q2 : Int) (x2 : List Trk.Clip) (code : Int) (x : List Trk.Clip) : Prop :=
 (2147483647 < Trk.total (pieces n p1 q1 x1 p2 q2 x2).flatten ∧ code = 2 ∧ x = []) ∨ (Trk.total (pieces n p1 q1 x1 p2 q2 x2).flatten ≤ 2147483647 ∧ GlueR (pieces n p1 q1 x1 p2 q2 x2) code x)
def Two (n a b : List Trk.Clip) (p1 q1 : Int) (x1 : List Trk.Clip) (p2 q2 : Int) (x2 : List Trk.Clip) : Prop :=
 (Trk.Diff n a p1 q1 x1 ∧ Trk.Diff n b p2 q2 x2 ∧ ¬ q2 < p1) ∨ (Trk.Diff n b p1 q1 x1 ∧ Trk.Diff n a p2 q2 x2 ∧ q1 < p2)
def LongR (n a b : List Trk.Clip) (code : Int) (x : List Trk.Clip) : Prop :=
 ∃ p1 q1 x1 p2 q2 x2, Two n a b p1 q1 x1 p2 q2 x2 ∧ ((p2 ≤ q1 ∧ code = 12 ∧ x = []) ∨ (q1 < p2 ∧ RepR n p1 q1 x1 p2 q2 x2 code x))
def shortC (n a b : List Trk.Clip) : Prop := Trk.nf b = Trk.nf n ∨ Trk.nf b = Trk.nf a ∨ Trk.nf a = Trk.nf n
def MergeR (n a b : List Trk.Clip) (code : Int) (x : List Trk.Clip) : Prop :=
 (shortC n a b ∧ code = 0 ∧ x = shortL n a b) ∨ (¬ shortC n a b ∧ LongR (Trk.nf n) (Trk.nf a) (Trk.nf b) code x)
def MergePost (w : World) (n a b : List Trk.Clip) (e : Ending) (w' : World) : Prop :=
 ∃ v' code x, e = .returned (.tuple #[v', .int .i64 code]) ∧ OT w' w.heap.size v' x ∧ Below w.heap.size w w' ∧ MergeR n a b code x
theorem D4.put {w : World} {g : Nat} {p q : Int} {x : Value} {e : Int} (h : D4 w g p q x e) (p' q' : Int) (x' : Value) (e' : Int) :
  D4 ((((w.setCell ⟨g, 0, none⟩ (.int .i64 p')).setCell ⟨g, 1, none⟩ (.int .i64 q')).setCell ⟨g, 2, none⟩ x').setCell ⟨g, 3, none⟩ (.int .i64 e')) g p' q' x' e' := by
 obtain ⟨h0, h1, h2, h3, hf⟩ := h
 exact ⟨by simp [go_sem, h0, h1, h2, h3, hf], by simp [go_sem, h0, h1, h2, h3, hf], by simp [go_sem, h0, h1, h2, h3, hf], by simp [go_sem, h0, h1, h2, h3, hf], fun o => by simp [go_sem, hf]⟩
theorem D4.other {w : World} {g : Nat} {p q : Int} {x : Value} {e : Int} (h : D4 w g p q x e) {g2 : Nat} (hn : g ≠ g2) (o : Nat) (u : Value) : D4 (w.setCell ⟨g2, o, none⟩ u) g p q x e := by
 obtain ⟨h0, h1, h2, h3, hf⟩ := h
 have hn2 := Ne.symm hn
 exact ⟨by simp [go_sem, h0, hn, hn2], by simp [go_sem, h1, hn, hn2], by simp [go_sem, h2, hn, hn2], by simp [go_sem, h3, hn, hn2], fun o => by simp [go_sem, hf]⟩
set_option maxRecDepth 100000 in
set_option maxHeartbeats 16000000 in
theorem merge_long {L : Int} (vn va vb : Value) (n a b : List Trk.Clip) (w : World) (hn : Tk w vn n) (ha : Tk w va a) (hb : Tk w vb b) (Vn : VT L n) (Va : VT L a) (Vb : VT L b) (hL : L ≤ 140737488355328) (hs : ¬ shortC n a b) :
  Calls Tryz.prog 17 #[vn, va, vb] w (MergePost w n a b) := by
 have HN := Lib.hid hn
 have HA := Lib.hid ha
 have HBB := Lib.hid hb
 have V1 := Lib.hid (fun (w : World) (h : Tk w vn n) => vtrack_any vn n w h Vn hL)
 have V2 := Lib.hid (fun (w : World) (h : Tk w va a) => vtrack_any va a w h Va hL)
 have V3 := Lib.hid (fun (w : World) (h : Tk w vb b) => vtrack_any vb b w h Vb hL)
 have S1 := Lib.hid (fun (w : World) (h : Tk w vb b) (h' : Tk w vn n) => same_any vb vn b n w h h' Vb Vn hL)
 have S2 := Lib.hid (fun (w : World) (h : Tk w vb b) (h' : Tk w va a) => same_any vb va b a w h h' Vb Va hL)
 have S3 := Lib.hid (fun (w : World) (h : Tk w va a) (h' : Tk w vn n) => same_any va vn a n w h h' Va Vn hL)
 have HS := Lib.hid hs
 rw [decide_eq_false (fun h => hs (.inl h))] at S1
 rw [decide_eq_false (fun h => hs (.inr (.inl h)))] at S2
 rw [decide_eq_false (fun h => hs (.inr (.inr h)))] at S3
 have NN := Lib.hid (fun (w : World) (h : Tk w vn n) => normal_any vn n w h Vn hL)
 have NA := Lib.hid (fun (w : World) (h : Tk w va a) => normal_any va a w h Va hL)
 have NB := Lib.hid (fun (w : World) (h : Tk w vb b) => normal_any vb b w h Vb hL)
 have C1 := Lib.hid (fun (v u : Value) (w : World) (h : Tk w v (Trk.nf n)) (h' : Tk w u (Trk.nf a)) => compare_any v u _ _ w h h' (nf_vt Vn) (nf_vt Va) hL)
 have C2 := Lib.hid (fun (v u : Value) (w : World) (h : Tk w v (Trk.nf n)) (h' : Tk w u (Trk.nf b)) => compare_any v u _ _ w h h' (nf_vt Vn) (nf_vt Vb) hL)
 have RP := Lib.hid (fun (v xv yv : Value) (x1 x2 : List Trk.Clip) (p1 q1 p2 q2 : Int) (w : World) (h : Tk w v (Trk.nf n)) (hx : Tk w xv x1) (hy : Tk w yv x2) (Vx : VT L x1) (Vy : VT L x2) (i0 : 0 ≤ p1) (i1 : p1 ≤ q1) (i2 : q1 ≤ p2) (i3 : p2 ≤ q2) (i4 : q2 ≤ Trk.total (Trk.nf n)) =>
  replace_any v xv yv _ x1 x2 p1 q1 p2 q2 w h hx hy (nf_vt Vn) Vx Vy hL i0 i1 i2 i3 i4)
 have VD1 := Lib.hid (fun (p q : Int) (x : List Trk.Clip) (h : Trk.Diff (Trk.nf n) (Trk.nf a) p q x) => diff_vt h (nf_vt Va))
 have VD2 := Lib.hid (fun (p q : Int) (x : List Trk.Clip) (h : Trk.Diff (Trk.nf n) (Trk.nf b) p q x) => diff_vt h (nf_vt Vb))
 obtain ⟨xn, cn, rfl, -⟩ := hn
 obtain ⟨xa, ca, rfl, -⟩ := ha
 obtain ⟨xb, cb, rfl, -⟩ := hb
 obtain ⟨nn, hnn⟩ : ∃ k, k = n.length := ⟨_, rfl⟩
 obtain ⟨na, hna⟩ : ∃ k, k = a.length := ⟨_, rfl⟩
 obtain ⟨nb, hnb⟩ : ∃ k, k = b.length := ⟨_, rfl⟩
 rw [← hnn] at HN V1 S1 S3 NN ⊢
 rw [← hna] at HA V2 S2 S3 NA ⊢
 rw [← hnb] at HBB V3 S1 S2 NB ⊢
 clear Vn Va Vb hnn hna hnb hs
 go_enter Tryz.func17, Tryz.ntmps17
 go_wp2_with fail
 refine (V1.out w HN.out).mono ?_
 rintro e w1 ⟨rfl, hb⟩
 have HB := Lib.hid hb
 clear hb
 go_wp2_with fail
 refine (V2.out w1 (HA.out.below HB.out)).mono ?_
 rintro e w2 ⟨rfl, hb⟩
 replace HB := Lib.hid (HB.out.trans (hb.mono HB.out.size))
 clear hb
 go_wp2_with fail
 refine (V3.out w2 (HBB.out.below HB.out)).mono ?_
 rintro e w3 ⟨rfl, hb⟩
 replace HB := Lib.hid (HB.out.trans (hb.mono HB.out.size))
 clear hb
 go_wp2_with fail
 refine (S1.out w3 (HBB.out.below HB.out) (HN.out.below HB.out)).mono ?_
 rintro e w4 ⟨rfl, hb⟩
 replace HB := Lib.hid (HB.out.trans (hb.mono HB.out.size))
 clear hb
 go_wp2_with fail
 refine (S2.out w4 (HBB.out.below HB.out) (HA.out.below HB.out)).mono ?_
 rintro e w5 ⟨rfl, hb⟩
 replace HB := Lib.hid (HB.out.trans (hb.mono HB.out.size))
 clear hb
 go_wp2_with fail
 refine (S3.out w5 (HA.out.below HB.out) (HN.out.below HB.out)).mono ?_
 rintro e w6 ⟨rfl, hb⟩
 replace HB := Lib.hid (HB.out.trans (hb.mono HB.out.size))
 clear hb
 go_wp2_with fail
 refine (NN.out w6 (HN.out.below HB.out)).mono ?_
 rintro e w7 ⟨v7, rfl, ho, hb⟩
 have H7 := Lib.hid ho.tk
 clear ho
 replace HB := Lib.hid (HB.out.trans (hb.mono HB.out.size))
 clear hb
 go_wp2_with fail
 refine (NA.out w7 (HA.out.below HB.out)).mono ?_
 rintro e w8 ⟨v8, rfl, ho, hb⟩
 have H8 := Lib.hid ho.tk
 clear ho
 replace H7 := Lib.hid (H7.out.below hb)
 replace HB := Lib.hid (HB.out.trans (hb.mono HB.out.size))
 clear hb
 go_wp2_with fail
 refine (C1.out _ _ w8 H7.out H8.out).mono ?_
 rintro e w9 ⟨p1, q1, x1, xv, rfl, hd, ho, hb⟩
 have H9 := Lib.hid ho.tk
 have D1 := Lib.hid hd
 clear ho hd H8
 replace H7 := Lib.hid (H7.out.below hb)
 replace HB := Lib.hid (HB.out.trans (hb.mono HB.out.size))
 clear hb
 go_wp2_with fail
 refine (NB.out w9 (HBB.out.below HB.out)).mono ?_
 rintro e w10 ⟨v10, rfl, ho, hb⟩
 have H10 := Lib.hid ho.tk
 clear ho
 replace H7 := Lib.hid (H7.out.below hb)
 replace H9 := Lib.hid (H9.out.below hb)
 replace HB := Lib.hid (HB.out.trans (hb.mono HB.out.size))
 clear hb
 go_wp2_with fail
 refine (C2.out _ _ w10 H7.out H10.out).mono ?_
 rintro e w11 ⟨p2, q2, x2, yv, rfl, hd, ho, hb⟩
 have H11 := Lib.hid ho.tk
 have D2 := Lib.hid hd
 clear ho hd H10
 replace H7 := Lib.hid (H7.out.below hb)
 replace H9 := Lib.hid (H9.out.below hb)
 replace HB := Lib.hid (HB.out.trans (hb.mono HB.out.size))
 clear hb
 clear V1 V2 V3 S1 S2 S3 NN NA NB C1 C2 HN HA HBB
 obtain ⟨xo, xc, hxv, -⟩ := H9.out
 obtain ⟨yo, yc, hyv, -⟩ := H11.out
 obtain ⟨lx, hlx⟩ : ∃ k, k = x1.length := ⟨_, rfl⟩
 obtain ⟨ly, hly⟩ : ∃ k, k = x2.length := ⟨_, rfl⟩
 rw [← hlx] at hxv
 rw [← hly] at hyv
 subst hxv hyv
 clear hlx hly
 go_upto_region 9 with fail
 obtain ⟨w12, hw12⟩ : ∃ z, z = (w11.alloc (.cells #[.int .i64 p1, .int .i64 q1, .slice xo lx xc, .int .i64 0] 98)).alloc (.cells #[.int .i64 p2, .int .i64 q2, .slice yo ly yc, .int .i64 0] 98) := ⟨_, rfl⟩
 obtain ⟨g1, hg1⟩ : ∃ g, g = w11.heap.size := ⟨_, rfl⟩
 obtain ⟨g2, hg2⟩ : ∃ g, g = w11.heap.size + 1 := ⟨_, rfl⟩
 have hb : Below w11.heap.size w11 w12 := by rw [hw12]; go_grown
 have HD := Lib.hid (show D4 w12 g1 p1 q1 (.slice xo lx xc) 0 by rw [hw12, hg1]; exact ⟨by simp [go_sem], by simp [go_sem], by simp [go_sem], by simp [go_sem], fun o => by simp [go_sem]⟩)
 have HE := Lib.hid (show D4 w12 g2 p2 q2 (.slice yo ly yc) 0 by rw [hw12, hg2]; exact ⟨by simp [go_sem], by simp [go_sem], by simp [go_sem], by simp [go_sem], fun o => by simp [go_sem]⟩)
 rw [← hw12, ← hg2, ← hg1]
 have HG := Lib.hid (show w11.heap.size ≤ g1 ∧ w11.heap.size ≤ g2 ∧ g1 ≠ g2 by omega)
 have HBW := Lib.hid hb
 have HLE := Lib.hid HB.out
 clear hb hw12 hg1 hg2 HB
 obtain ⟨d0, d1, d2, d3, df⟩ := HD.out
 obtain ⟨e0, e1, e2, e3, ef⟩ := HE.out
 have n12 := HG.out.2.2
 have n21 := Ne.symm n12
 by_cases hsw : q2 < p1
 ·have hz : decide (q2 < p1) = true := decide_eq_true hsw
  go_upto_region 11 with fail
  obtain ⟨w13, hw13⟩ : ∃ z, z = (((((((w12.setCell ⟨g1, 0, none⟩ (.int .i64 p2)).setCell ⟨g1, 1, none⟩ (.int .i64 q2)).setCell ⟨g1, 2, none⟩ (.slice yo ly yc)).setCell ⟨g1, 3, none⟩ (.int .i64 0)).setCell ⟨g2, 0, none⟩ (.int .i64 p1)).setCell ⟨g2, 1, none⟩ (.int .i64 q1)).setCell ⟨g2, 2, none⟩ (.slice xo lx xc)).setCell ⟨g2, 3, none⟩ (.int .i64 0) := ⟨_, rfl⟩
  rw [← hw13]
  have h13 : D4 w13 g1 p2 q2 (.slice yo ly yc) 0 ∧ D4 w13 g2 p1 q1 (.slice xo lx xc) 0 := by
   rw [hw13]
   have hd := HD.out.put p2 q2 (.slice yo ly yc) 0
   have he := (((HE.out.other n21 0 (.int .i64 p2)).other n21 1 (.int .i64 q2)).other n21 2 (.slice yo ly yc)).other n21 3 (.int .i64 0)
   exact ⟨(((hd.other n12 _ _).other n12 _ _).other n12 _ _).other n12 _ _, he.put p1 q1 (.slice xo lx xc) 0⟩
  have hb13 : Below w11.heap.size w11 w13 := by
   rw [hw13]
   have l1 := HG.out.1
   have l2 := HG.out.2.1
   exact (((((((HBW.out.setCell (p := ⟨g1, 0, none⟩) l1 _).setCell (p := ⟨g1, 1, none⟩) l1 _).setCell (p := ⟨g1, 2, none⟩) l1 _).setCell (p := ⟨g1, 3, none⟩) l1 _).setCell (p := ⟨g2, 0, none⟩) l2 _).setCell (p := ⟨g2, 1, none⟩) l2 _).setCell (p := ⟨g2, 2, none⟩) l2 _).setCell (p := ⟨g2, 3, none⟩) l2 _
  replace HBW := Lib.hid hb13
  replace H7 := Lib.hid (H7.out.below hb13)
  replace H9 := Lib.hid (H9.out.below hb13)
  replace H11 := Lib.hid (H11.out.below hb13)
  have H13 := Lib.hid h13
  clear hw13 hb13 h13 HD HE d0 d1 d2 d3 df e0 e1 e2 e3 ef hz
  obtain ⟨d0, d1, d2, d3, df⟩ := H13.out.1
  obtain ⟨e0, e1, e2, e3, ef⟩ := H13.out.2
  have hz2 : ¬ p1 ≤ q2 := by omega
  obtain ⟨a0, a1, a2, a3, a4⟩ := D1.out.le
  obtain ⟨b0, b1, b2, b3, b4⟩ := D2.out.le
  clear a3 a4 b3 b4
  go_wp2_with fail
  refine (RP.out v7 (.slice yo ly yc) (.slice xo lx xc) x2 x1 p2 q2 p1 q1 _ H7.out H11.out H9.out (VD2.out _ _ _ D2.out) (VD1.out _ _ _ D1.out) (by omega) (by omega) (by omega) (by omega) (by omega)).mono ?_
  rintro e w14 ⟨v14, code, x, rfl, ho, hb, hr⟩
  have HO := Lib.hid (ho.lower (Nat.le_trans HLE.out.size HBW.out.size))
  have HR := Lib.hid hr
  have HBZ := Lib.hid (HLE.out.trans ((HBW.out.trans (hb.mono HBW.out.size)).mono HLE.out.size))
  clear ho hb hr
  go_wp2_with fail
  go_ret2
  exact ⟨_, _, _, rfl, HO.out, HBZ.out, .inr ⟨HS.out, _, _, _, _, _, _, .inr ⟨D2.out, D1.out, hsw⟩, .inr ⟨hsw, HR.out⟩⟩⟩
 ·replace H7 := Lib.hid (H7.out.below HBW.out)
  replace H9 := Lib.hid (H9.out.below HBW.out)
  replace H11 := Lib.hid (H11.out.below HBW.out)
  obtain ⟨a0, a1, a2, a3, a4⟩ := D1.out.le
  obtain ⟨b0, b1, b2, b3, b4⟩ := D2.out.le
  clear a3 a4 b3 b4
  by_cases hcf : p2 ≤ q1
  ·have HBZ := Lib.hid (HLE.out.trans (HBW.out.mono HLE.out.size))
   go_wp2_with fail
   go_ret2
   exact ⟨_, _, _, rfl, OT.nil _ _, HBZ.out, .inr ⟨HS.out, _, _, _, _, _, _, .inl ⟨D1.out, D2.out, by omega⟩, .inl ⟨hcf, rfl, rfl⟩⟩⟩
  go_wp2_with fail
  refine (RP.out v7 (.slice xo lx xc) (.slice yo ly yc) x1 x2 p1 q1 p2 q2 _ H7.out H9.out H11.out (VD1.out _ _ _ D1.out) (VD2.out _ _ _ D2.out) (by omega) (by omega) (by omega) (by omega) (by omega)).mono ?_
  rintro e w14 ⟨v14, code, x, rfl, ho, hb, hr⟩
  have HO := Lib.hid (ho.lower (Nat.le_trans HLE.out.size HBW.out.size))
  have HR := Lib.hid hr
  have HBZ := Lib.hid (HLE.out.trans ((HBW.out.trans (hb.mono HBW.out.size)).mono HLE.out.size))
  clear ho hb hr
  go_wp2_with fail
  go_ret2
  exact ⟨_, _, _, rfl, HO.out, HBZ.out, .inr ⟨HS.out, _, _, _, _, _, _, .inl ⟨D1.out, D2.out, by omega⟩, .inr ⟨(by omega), HR.out⟩⟩⟩
theorem merge_any {L : Int} (vn va vb : Value) (n a b : List Trk.Clip) (w : World) (hn : Tk w vn n) (ha : Tk w va a) (hb : Tk w vb b) (Vn : VT L n) (Va : VT L a) (Vb : VT L b) (hL : L ≤ 140737488355328) :
  Calls Tryz.prog 17 #[vn, va, vb] w (MergePost w n a b) := by
 by_cases hs : shortC n a b
 ·refine (merge_short vn va vb n a b w hn ha hb Vn Va Vb hL hs).mono ?_
  rintro e w' ⟨v', rfl, ho, hbb⟩
  exact ⟨_, _, _, rfl, ho, hbb, .inl ⟨hs, rfl, rfl⟩⟩
 ·exact merge_long vn va vb n a b w hn ha hb Vn Va Vb hL hs
end Go.Proofs.YtfoohocgdcgbcaaGreat
