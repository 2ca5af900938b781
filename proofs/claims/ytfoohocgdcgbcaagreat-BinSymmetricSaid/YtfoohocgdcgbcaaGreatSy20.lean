/- Texts of this claim joined: HL HM HN HO HP. -/
import Derived.Test.YtfoohocgdcgbcaaGreatSy19
set_option linter.unusedVariables false
set_option linter.unusedSimpArgs false
namespace Go.Proofs.YtfoohocgdcgbcaaGreat
open Go.RowKit
theorem TG.gt {w : World} {C : Nat} {v : Value} {l : List Trk.Clip} (h : TG w C v l) (hi : ∀ c ∈ l, InC c) : GT w v l := by
 obtain ⟨ao, cap, e, h1, h2, h3⟩ := h
 refine ⟨ao, cap, e, h1, h2, fun i c hc => ?_⟩
 obtain ⟨b, o, x, e2, hA, hx⟩ := h3 i c hc
 exact ⟨b, o, x, e2, hA, hx.it, hi c (List.mem_of_getElem? hc)⟩
theorem GT.tg {w : World} {v : Value} {l : List Trk.Clip} (h : GT w v l) : TG w w.heap.size v l := by
 obtain ⟨ao, cap, e, h1, h2, h3⟩ := h
 refine ⟨ao, cap, e, h1, h2, fun i c hc => ?_⟩
 obtain ⟨b, o, x, e2, hA, hx, _⟩ := h3 i c hc
 exact ⟨b, o, x, e2, hA, hx.ch (Nat.le_refl _)⟩
theorem GT.inc {w : World} {v : Value} {l : List Trk.Clip} (h : GT w v l) : ∀ c ∈ l, InC c := fun c hc => by
 obtain ⟨ao, cap, e, h1, h2, h3⟩ := h
 obtain ⟨i, hi, e2⟩ := List.getElem_of_mem hc
 obtain ⟨_, _, _, _, _, _, h4⟩ := h3 i c (by rw [List.getElem?_eq_getElem hi, e2])
 exact h4
theorem vtrackg_any (C : Nat) (v : Value) (l : List Trk.Clip) (w : World) (h : TG w C v l) (hi : ∀ c ∈ l, InC c) : Calls Tryz.prog 47 #[v] w fun e w' => e = .returned (.bool (trackB l)) ∧ Below w.heap.size w w' :=
 vtrack_all v l w (h.gt hi) clip_says
theorem vtrackg_yes (C : Nat) (v : Value) (l : List Trk.Clip) (w : World) (h : TG w C v l) (hV : TV l) : Calls Tryz.prog 47 #[v] w fun e w' => e = .returned (.bool true) ∧ Below w.heap.size w w' := by
 have := vtrackg_any C v l w h hV.inc
 rw [trackB_iff.2 hV] at this
 exact this
theorem OG.drop {w : World} {B C g cap k : Nat} {q : List Trk.Clip} {p : Trk.Clip} (h : OG w B C (.slice (some ⟨g, 0, none⟩) k cap) (q ++ [p])) : OG w B C (.slice (some ⟨g, 0, none⟩) q.length cap) q := by
 obtain ⟨xs, h1, h2, h3⟩ := h
 obtain ⟨ys, y, rfl⟩ : ∃ ys y, xs = ys ++ [y] := by
  have hne : xs ≠ [] := by rintro rfl; simp at h1
  exact ⟨xs.dropLast, xs.getLast hne, (List.dropLast_concat_getLast hne).symm⟩
 have hyl : ys.length = q.length := by simpa using h1
 refine ⟨ys, hyl, ?_, fun i c x hi hx => h3 i c x (by rw [List.getElem?_append_left (List.getElem?_eq_some_iff.1 hi).1]; exact hi) (by rw [List.getElem?_append_left (List.getElem?_eq_some_iff.1 hx).1]; exact hx)⟩
 rcases h2 with ⟨e, _⟩ | ⟨g', cap', cur, e, hB, hg, hk, hc, hs, ht, hl⟩
 ·simp at e
 ·simp only [Value.slice.injEq, Option.some.injEq, Addr.mk.injEq, and_true, true_and] at e
  obtain ⟨rfl, rfl, rfl⟩ := e
  have hlen : (q ++ [p]).length = q.length + 1 := by simp
  refine Or.inr ⟨g, cap, cur, rfl, hB, hg, by omega, hc, hs, ?_, gcells_length hyl⟩
  rw [hlen, gcells_append _ _ hyl] at ht
  have h2 := congrArg (List.take (q.length * 22)) ht
  rw [List.take_take, Nat.min_eq_left (by omega), List.take_append_of_le_length (by rw [gcells_length hyl]; exact Nat.le_refl _), List.take_of_length_le (l := gcells q ys) (by rw [gcells_length hyl]; exact Nat.le_refl _)] at h2
  exact h2
set_option maxRecDepth 100000 in
set_option maxHeartbeats 8000000 in
theorem totalg_any (C : Nat) (v : Value) (l : List Trk.Clip) (w : World) (h : TG w C v l) (hG : Trk.GoodL l) (ht : Trk.total l ≤ 4611686018427387904) (hl : l.length ≤ 1048576) :
  Calls Tryz.prog 71 #[v] w fun e w' => e = .returned (.int .i64 (Trk.total l)) ∧ Below w.heap.size w w' := by
 obtain ⟨ao, cap, rfl, hc1, hc2, hT⟩ := h
 have HT := Lib.hid (show TG w C (.slice ao l.length cap) l from ⟨ao, cap, rfl, hc1, hc2, hT⟩)
 clear hT
 have HG := Lib.hid hG
 have HTT := Lib.hid ht
 obtain ⟨L, hL⟩ : ∃ L, L = l.length := ⟨_, rfl⟩
 rw [← hL] at hl hc1
 have HLe := Lib.hid hL
 rw [← hL]
 clear hG ht hL hc2
 go_enter Tryz.func71, Tryz.ntmps71
 go_wp2_with fail
 go_loopw [3, 8] (fun v3 v8 wr => ∃ k : Nat, k ≤ L ∧ v8 = .int .i64 (k : Int) ∧ v3 = .int .i64 (Trk.total (l.take k)) ∧ Below w.heap.size w wr) (fun _ i _ => L - (intOf i).toNat)
 case atStart => exact ⟨0, Nat.zero_le _, rfl, rfl, Below.refl _ _⟩
 case round =>
  obtain ⟨k, hk, rfl, rfl, hb⟩ := hrel
  by_cases hlt : k < L
  ·have hlt' : (k : Int) < (L : Int) := by omega
   have hkl : k < l.length := by rw [← HLe.out]; exact hlt
   obtain ⟨c, hc⟩ : ∃ c, l[k]? = some c := ⟨_, List.getElem?_eq_getElem hkl⟩
   obtain ⟨ao', cap', e, _, _, hT⟩ := HT.out.below hb
   simp only [Value.slice.injEq, true_and] at e
   obtain ⟨rfl, rfl⟩ := e
   obtain ⟨b, o, x, rfl, hA, hx⟩ := hT k c hc
   obtain ⟨ax, cx, ex⟩ := hx.form
   obtain ⟨nx, hnx⟩ : ∃ n, n = c.chan.length := ⟨_, rfl⟩
   rw [← hnx] at ex
   subst ex
   clear hT hnx hx
   have hn : Trk.total (l.take (k + 1)) = Trk.total (l.take k) + c.len := by
    rw [List.take_add_one, hc]
    show Trk.total (l.take k ++ [c]) = _
    rw [Trk.total_append]
    show _ + (c.len + 0) = _
    omega
   have h1 := total_take l HG.out (k + 1)
   have h2 := Trk.total_nonneg (l := l.take k) (fun x hx => HG.out x (List.mem_of_mem_take hx))
   have h3 := (HG.out c (List.mem_of_getElem? hc)).l
   have h4 := HTT.out
   obtain ⟨s, hs⟩ : ∃ s, s = Trk.total (l.take k) := ⟨_, rfl⟩
   rw [← hs] at hn h2 ⊢
   have h5 : s + c.len ≤ 4611686018427387904 := by omega
   have HN := Lib.hid hn
   have HA := Lib.hid hA
   have HB := Lib.hid hb
   have HC := Lib.hid hc
   clear hA hb hc hkl hn h1 h4 hs
   go_upto_region 4 with fail
   apply wp_region_lit
   iterate 3 go_step
   refine wpl_loadG HA.out rfl rfl rfl ?_
   refine wpl_allocB rfl rfl (fun w2 hg hb2 hs2 => ?_)
   obtain ⟨g, hgg⟩ : ∃ g, g = wr.heap.size := ⟨_, rfl⟩
   rw [← hgg] at hg ⊢
   have hgn : w.heap.size ≤ g := by rw [hgg]; exact HB.out.size
   have HB2 := Lib.hid (HB.out.trans (hb2.mono HB.out.size))
   clear hb2 hs2 hgg HA
   refine wpl_storeB2 c ax nx cx hg rfl rfl rfl rfl ?_
   intro w3 hv ho3 hs3 hb3
   have HB3 := Lib.hid (hb3 _ _ hgn HB2.out)
   have x0 := hv.ga.at0.1
   clear hv ho3 hs3 hb3 hg HB2
   simp only [Act.put, List.setIfInBounds_toArray, List.set_cons_succ, List.set_cons_zero]
   obtain ⟨C, hC⟩ : ∃ C, C = (clipG c (.slice ax nx cx)).toArray := ⟨_, rfl⟩
   rw [← hC]
   clear hC
   go_wp2_with fail
   go_roundw
   case rel => exact ⟨k + 1, by omega, by simp, by rw [HN.out], HB3.out⟩
   case measure =>
    show L - (intOf (.int .i64 ((k : Int) + 1))).toNat < L - (intOf (.int .i64 (k : Int))).toNat
    simp [intOf]
    omega
  ·have hkl : k = L := by omega
   have e : l.take k = l := List.take_of_length_le (by rw [← HLe.out]; omega)
   rw [e]
   have HB := Lib.hid hb
   clear hb e
   subst hkl
   go_wp2_with fail
   go_ret
   exact ⟨rfl, HB.out⟩
set_option maxRecDepth 100000 in
set_option maxHeartbeats 8000000 in
theorem packsg_any (C : Nat) (v : Value) (l : List Trk.Clip) (w : World) (h : TG w C v l) (hV : TV l) :
  Calls Tryz.prog 60 #[v] w (OGPost w (Trk.pk l)) := by
 have HT := Lib.hid h
 have H1 := Lib.hid (fun w (h : TG w C v l) => vtrackg_yes C v l w h hV)
 have H2 := Lib.hid (fun w (h : TG w C v l) => packg_any C v l w h hV.okg (by have := hV.n; omega) (by have := hV.t; omega))
 clear h hV
 go_enter Tryz.func60, Tryz.ntmps60
 go_wp2_with fail
 refine (H1.out _ HT.out).mono ?_
 rintro e w1 ⟨rfl, hb⟩
 have HB := Lib.hid hb
 clear hb
 go_wp2_with fail
 refine (H2.out _ (HT.out.below HB.out)).mono ?_
 rintro e w2 ⟨v', rfl, ho, hb⟩
 have HO := Lib.hid (And.intro ho hb)
 clear ho hb
 go_wp2_with fail
 go_ret
 exact ⟨_, rfl, HO.out.1.lower HB.out.size, HB.out.trans (HO.out.2.mono HB.out.size)⟩
set_option maxRecDepth 100000 in
set_option maxHeartbeats 8000000 in
theorem lengthg_any (C : Nat) (v : Value) (l : List Trk.Clip) (w : World) (h : TG w C v l) (hV : TV l) :
  Calls Tryz.prog 31 #[v] w fun e w' => e = .returned (.int .i64 (Trk.total l)) ∧ Below w.heap.size w w' := by
 have HT := Lib.hid h
 have H1 := Lib.hid (fun w (h : TG w C v l) => vtrackg_yes C v l w h hV)
 have H2 := Lib.hid (fun w (h : TG w C v l) => totalg_any C v l w h hV.good (by have := hV.t; omega) (by have := hV.n; omega))
 clear h hV
 go_enter Tryz.func31, Tryz.ntmps31
 go_wp2_with fail
 refine (H1.out _ HT.out).mono ?_
 rintro e w1 ⟨rfl, hb⟩
 have HB := Lib.hid hb
 clear hb
 go_wp2_with fail
 refine (H2.out _ (HT.out.below HB.out)).mono ?_
 rintro e w2 ⟨rfl, hb⟩
 have HO := Lib.hid hb
 clear hb
 go_wp2_with fail
 go_ret
 exact ⟨rfl, HB.out.trans (HO.out.mono HB.out.size)⟩
set_option maxRecDepth 100000 in
set_option maxHeartbeats 8000000 in
theorem normalg_any (C : Nat) (v : Value) (l : List Trk.Clip) (w : World) (h : TG w C v l) (hV : TV l) :
  Calls Tryz.prog 21 #[v] w (OGPost w (Trk.nf l)) := by
 have HT := Lib.hid h
 have H1 := Lib.hid (fun w (h : TG w C v l) => packsg_any C v l w h hV)
 have hn : (Trk.pk l).length ≤ 64 := Nat.le_trans (Trk.pk_of hV.good).n hV.n
 unfold Trk.nf
 obtain ⟨P, hP⟩ : ∃ P, P = Trk.pk l := ⟨_, rfl⟩
 rw [← hP] at H1 hn ⊢
 clear h hV hP
 go_enter Tryz.func21, Tryz.ntmps21
 go_wp2_with fail
 refine (H1.out _ HT.out).mono ?_
 rintro e w1 ⟨v', rfl, ho, hb⟩
 have HB := Lib.hid hb
 have HO := Lib.hid ho
 clear hb ho
 obtain ⟨rfl, rfl⟩ | ⟨g, cap, rfl⟩ := HO.out.shape
 ·go_wp2_with fail
  go_ret
  exact ⟨_, rfl, HO.out, HB.out⟩
 ·cases hp : P.getLast? with
  | none =>
   have e0 : P = [] := List.getLast?_eq_none_iff.1 hp
   subst e0
   clear hp
   simp only [List.length_nil]
   go_wp2_with fail
   go_ret
   exact ⟨_, rfl, HO.out, HB.out⟩
  | some p =>
   have hs := Trk.getLast_split hp
   have HD := Lib.hid (show Trk.dropGap P = if p.kind = 0 then P.dropLast else P by unfold Trk.dropGap; rw [hp])
   obtain ⟨q, hq⟩ : ∃ q, q = P.dropLast := ⟨_, rfl⟩
   rw [← hq] at hs HD
   clear hp hq
   subst hs
   have hlen : (q ++ [p]).length = q.length + 1 := by simp
   rw [hlen] at hn HO ⊢
   obtain ⟨xp, hcp, -⟩ := HO.out.cell (i := q.length) (c := p) (by simp)
   have HCP := Lib.hid hcp
   have HDR := Lib.hid HO.out.drop
   obtain ⟨n, hn2⟩ : ∃ n, n = q.length := ⟨_, rfl⟩
   rw [← hn2] at hn HO HCP HDR ⊢
   have hcap : n + 1 ≤ cap := HO.out.blk.2.2.1
   have z1 := HCP.out.k1
   clear hlen hcp hn2 HT H1 HCP
   by_cases hk : p.kind = 0
   ·have HR := Lib.hid (HD.out.trans (if_pos hk))
    rw [hk] at z1
    clear hk HD
    go_wp2_with fail
    go_ret
    rw [HR.out]
    exact ⟨_, rfl, HDR.out, HB.out⟩
   ·have HR := Lib.hid (HD.out.trans (if_neg hk))
    clear HD
    go_wp2_with fail
    go_ret
    rw [HR.out]
    exact ⟨_, rfl, HO.out, HB.out⟩
set_option maxRecDepth 100000 in
set_option maxHeartbeats 8000000 in
theorem eqfuncg_any (C1 C2 : Nat) (v u : Value) (l m : List Trk.Clip) (w : World) (h : TG w C1 v l) (h' : TG w C2 u m) :
  Calls Tryz.prog 65 #[v, u, .func (.func 66) #[] #[]] w fun e w' => e = .returned (.bool (decide (l = m))) ∧ Below w.heap.size w w' := by
 have HT := Lib.hid h
 have HU := Lib.hid h'
 obtain ⟨ao, cap, rfl, hc1, hc2, -⟩ := h
 obtain ⟨bo, dap, rfl, hd1, hd2, -⟩ := h'
 obtain ⟨N, hN⟩ : ∃ N, N = l.length := ⟨_, rfl⟩
 obtain ⟨M, hM⟩ : ∃ M, M = m.length := ⟨_, rfl⟩
 have hNm : N ≤ 9223372036854775807 := by unfold maxLen at hc2; omega
 have hMm : M ≤ 9223372036854775807 := by unfold maxLen at hd2; omega
 rw [← hN, ← hM]
 rw [← hN] at HT
 rw [← hM] at HU
 have HN := Lib.hid hN
 have HMM := Lib.hid hM
 clear hN hM hc1 hc2 hd1 hd2
 by_cases hlen : N = M
 rotate_left
 ·have hne : decide (l = m) = false := decide_eq_false fun e => hlen (by rw [HN.out, HMM.out, e])
  rw [hne]
  have z1 : ((N : Int) == (M : Int)) = false := by simp; omega
  have z2 : ((N : Int) != (M : Int)) = true := by simp; omega
  have z3 : ¬ ((N : Int) = (M : Int)) := by omega
  go_enter Tryz.func65, Tryz.ntmps65
  go_wp2_with fail
  go_ret
  exact ⟨rfl, Below.refl _ _⟩
 subst hlen
 obtain ⟨r, hr⟩ : ∃ r, r = decide (l = m) := ⟨_, rfl⟩
 have HR := Lib.hid hr
 rw [← hr]
 clear hr
 go_enter Tryz.func65, Tryz.ntmps65
 go_upto_region 4 with fail
 go_loopw [17] (fun i wr => ∃ k : Nat, k ≤ N ∧ i = .int .i64 (k : Int) ∧ l.take k = m.take k ∧ Below w.heap.size w wr) (fun i _ => N - (intOf i).toNat)
 case atStart => exact ⟨0, Nat.zero_le _, rfl, by simp, Below.refl _ _⟩
 case round =>
  obtain ⟨k, hk, rfl, hpre, hb⟩ := hrel
  have HP := Lib.hid hpre
  have HB := Lib.hid hb
  clear hpre hb
  by_cases hlt : k < N
  ·have hlt' : (k : Int) < (N : Int) := by omega
   obtain ⟨c, hc⟩ : ∃ c, l[k]? = some c := ⟨_, List.getElem?_eq_getElem (by have := HN.out; omega)⟩
   obtain ⟨d, hd⟩ : ∃ d, m[k]? = some d := ⟨_, List.getElem?_eq_getElem (by have := HMM.out; omega)⟩
   obtain ⟨ao', cap', e, _, _, hT⟩ := HT.out.below HB.out
   have e1 := HN.out
   simp only [Value.slice.injEq] at e
   obtain ⟨rfl, -, rfl⟩ := e
   obtain ⟨b, o, x, rfl, hA, hx⟩ := hT k c hc
   obtain ⟨ax, cx, ex⟩ := hx.form
   obtain ⟨nx, hnx⟩ : ∃ n, n = c.chan.length := ⟨_, rfl⟩
   rw [← hnx] at ex
   subst ex
   obtain ⟨bo', dap', e, _, _, hU⟩ := HU.out.below HB.out
   simp only [Value.slice.injEq] at e
   obtain ⟨rfl, -, rfl⟩ := e
   obtain ⟨b2, o2, y, rfl, hA2, hy⟩ := hU k d hd
   obtain ⟨ay, cy, ey⟩ := hy.form
   obtain ⟨ny, hny⟩ : ∃ n, n = d.chan.length := ⟨_, rfl⟩
   rw [← hny] at ey
   subst ey
   have HIX := Lib.hid (And.intro hx.it hy.it)
   have HA := Lib.hid hA
   have HA2 := Lib.hid hA2
   have HQ := Lib.hid (And.intro hc hd)
   have HEQ := Lib.hid (fun (w1 : World) (h1 : IT w1 (.slice ax nx cx) c.chan) (h2 : IT w1 (.slice ay ny cy) d.chan) => equalg_any c d _ _ w1 h1 h2)
   unfold clipGV at HEQ
   obtain ⟨C, hC⟩ : ∃ C, C = (clipG c (.slice ax nx cx)).toArray := ⟨_, rfl⟩
   obtain ⟨D, hD⟩ : ∃ D, D = (clipG d (.slice ay ny cy)).toArray := ⟨_, rfl⟩
   rw [← hC, ← hD] at HEQ
   have HC := Lib.hid hC
   have HD := Lib.hid hD
   clear hT hU hA hA2 hc hd e1 hC hD hx hy hnx hny
   go_upto_region 5 with fail
   apply wp_region_lit
   iterate 6 go_step
   refine wpl_loadG HA.out rfl rfl rfl ?_
   rw [← HC.out]
   refine wpl_allocB rfl rfl (fun w3 hcv hb3 hs3 => ?_)
   iterate 3 go_step
   refine wpl_storeB2 c ax nx cx hcv rfl rfl rfl (by rw [← HC.out]; rfl) ?_
   intro w4 hv4 ho4 hz4 hb4
   have hb : Below wr.heap.size wr w4 := hb4 _ _ (Nat.le_refl _) hb3
   have HV8 := Lib.hid hv4
   obtain ⟨g8, hg8⟩ : ∃ y, y = wr.heap.size := ⟨_, rfl⟩
   rw [← hg8] at HV8 ⊢
   have HA4 := Lib.hid (HA2.out.below hb)
   replace HIX := Lib.hid (And.intro (HIX.out.1.below hb) (HIX.out.2.below hb))
   have HB4 := Lib.hid (HB.out.trans (hb.mono HB.out.size))
   clear hcv hb3 hs3 hv4 ho4 hz4 hb4 hb hg8 HA HA2 HB
   simp only [Act.put, List.setIfInBounds_toArray, List.set_cons_succ, List.set_cons_zero]
   go_upto_region 6 with fail
   apply wp_region_lit
   iterate 9 go_step
   refine wpl_loadG HA4.out rfl rfl rfl ?_
   rw [← HD.out]
   refine wpl_allocB rfl rfl (fun w5 hcv hb3 hs3 => ?_)
   refine wpl_storeB2 d ay ny cy hcv rfl rfl rfl (by rw [← HD.out]; rfl) ?_
   intro w6 hv6 ho6 hz6 hb6
   have hb : Below w4.heap.size w4 w6 := hb6 _ _ (Nat.le_refl _) hb3
   have HV9 := Lib.hid hv6
   obtain ⟨g9, hg9⟩ : ∃ y, y = w4.heap.size := ⟨_, rfl⟩
   rw [← hg9] at HV9 ⊢
   replace HV8 := Lib.hid (HV8.out.below hb)
   replace HIX := Lib.hid (And.intro (HIX.out.1.below hb) (HIX.out.2.below hb))
   have HB6 := Lib.hid (HB4.out.trans (hb.mono HB4.out.size))
   clear hcv hb3 hs3 hv6 ho6 hz6 hb6 hb hg9 HA4 HB4
   simp only [Act.put, List.setIfInBounds_toArray, List.set_cons_succ, List.set_cons_zero]
   go_upto_region 7 with fail
   apply wp_region_lit
   iterate 3 go_step
   refine wpl_loadG HV8.out.ga rfl rfl rfl ?_
   rw [← HC.out]
   refine wpl_loadG HV9.out.ga rfl rfl rfl ?_
   rw [← HD.out]
   simp only [Act.put, List.setIfInBounds_toArray, List.set_cons_succ, List.set_cons_zero]
   go_wp2_with fail
   refine (HEQ.out w6 HIX.out.1 HIX.out.2).mono ?_
   rintro e w7 ⟨rfl, hb⟩
   have HB7 := Lib.hid (HB6.out.trans (hb.mono HB6.out.size))
   clear hb HV8 HV9 HB6
   by_cases hcd : c = d
   ·have hdec : decide (c = d) = true := decide_eq_true hcd
    have HCD := Lib.hid hcd
    clear hcd
    rw [hdec]
    go_wp2_with fail
    go_roundw
    case rel => exact ⟨k + 1, by omega, by simp, take_eq HQ.out.1 (by rw [HQ.out.2, HCD.out]) HP.out, HB7.out⟩
    case measure =>
     simp [intOf]
     omega
   ·have hdec : decide (c = d) = false := decide_eq_false hcd
    rw [hdec]
    have hrf : r = false := by rw [HR.out]; exact decide_eq_false (take_ne HQ.out.1 HQ.out.2 hcd)
    subst hrf
    clear hcd
    go_wp2_with fail
    go_ret
    exact ⟨rfl, HB7.out⟩
  ·have hkn : k = N := by omega
   have hrt : r = true := by
    rw [HR.out]
    refine decide_eq_true ?_
    have h1 := HP.out
    rw [List.take_of_length_le (by have := HN.out; omega), List.take_of_length_le (by have := HMM.out; omega)] at h1
    exact h1
   subst hrt
   go_wp2_with fail
   go_ret
   exact ⟨rfl, HB.out⟩
set_option maxRecDepth 100000 in
set_option maxHeartbeats 8000000 in
theorem sameg_any (C1 C2 : Nat) (v u : Value) (l m : List Trk.Clip) (w : World) (h : TG w C1 v l) (h' : TG w C2 u m) (hl : TV l) (hm : TV m) :
  Calls Tryz.prog 29 #[v, u] w fun e w' => e = .returned (.bool (decide (Trk.nf l = Trk.nf m))) ∧ Below w.heap.size w w' := by
 have HT := Lib.hid h
 have HU := Lib.hid h'
 have HV1 := Lib.hid (fun (w : World) (h : TG w C1 v l) => vtrackg_yes C1 v l w h hl)
 have HV2 := Lib.hid (fun (w : World) (h : TG w C2 u m) => vtrackg_yes C2 u m w h hm)
 have HN1 := Lib.hid (fun (w : World) (h : TG w C1 v l) => normalg_any C1 v l w h hl)
 have HN2 := Lib.hid (fun (w : World) (h : TG w C2 u m) => normalg_any C2 u m w h hm)
 have HEQ := Lib.hid (fun (a b : Value) (w : World) (h : TG w 0 a (Trk.nf l)) (h' : TG w 0 b (Trk.nf m)) => eqfuncg_any 0 0 a b _ _ w h h')
 obtain ⟨ao, cap, rfl, -⟩ := h
 obtain ⟨bo, dap, rfl, -⟩ := h'
 clear hl hm
 go_enter Tryz.func29, Tryz.ntmps29
 go_wp2_with fail
 refine (HV1.out w HT.out).mono ?_
 rintro e w1 ⟨rfl, hb⟩
 have HB := Lib.hid hb
 clear hb
 go_wp2_with fail
 refine (HV2.out w1 (HU.out.below HB.out)).mono ?_
 rintro e w2 ⟨rfl, hb⟩
 replace HB := Lib.hid (HB.out.trans (hb.mono HB.out.size))
 clear hb
 go_wp2_with fail
 refine (HN1.out w2 (HT.out.below HB.out)).mono ?_
 rintro e w3 ⟨r1, rfl, ho, hb⟩
 replace HB := Lib.hid (HB.out.trans (hb.mono HB.out.size))
 have HO := Lib.hid ho.tg
 clear hb ho
 go_wp2_with fail
 refine (HN2.out w3 (HU.out.below HB.out)).mono ?_
 rintro e w4 ⟨r2, rfl, ho, hb⟩
 replace HB := Lib.hid (HB.out.trans (hb.mono HB.out.size))
 replace HO := Lib.hid (HO.out.below hb)
 have HO2 := Lib.hid ho.tg
 clear hb ho
 go_wp2_with fail
 refine (HEQ.out r1 r2 w4 HO.out HO2.out).mono ?_
 rintro e w5 ⟨rfl, hb⟩
 replace HB := Lib.hid (HB.out.trans (hb.mono HB.out.size))
 clear hb
 go_wp2_with fail
 go_ret
 exact ⟨rfl, HB.out⟩
open Classical in
noncomputable def plB (s : Trk.Src) : Bool := decide (PlOK s)
open Classical in
theorem plB_yes {s : Trk.Src} (h : PlOK s) : plB s = true := decide_eq_true h
open Classical in
theorem plB_no {s : Trk.Src} (h : ¬ PlOK s) : plB s = false := decide_eq_false h
set_option maxRecDepth 100000 in
set_option maxHeartbeats 8000000 in
theorem findg_any (D : Nat) (v : Value) (l : List Trk.Clip) (n : Int) (w : World) (h : TG w D v l) (hV : TV l) (n0 : 0 ≤ n) (n1 : n ≤ 2147483647) :
  Calls Tryz.prog 68 #[v, .int .i64 n] w fun e w' => e = .returned (findV (findL l n 0)) ∧ Below w.heap.size w w' := by
 obtain ⟨ao, cap, rfl, hc1, hc2, hT⟩ := h
 have HT := Lib.hid (show TG w D (.slice ao l.length cap) l from ⟨ao, cap, rfl, hc1, hc2, hT⟩)
 clear hT
 have HG := Lib.hid hV.c
 have hl := hV.n
 obtain ⟨R, hR⟩ : ∃ R, R = findV (findL l n 0) := ⟨_, rfl⟩
 rw [← hR]
 have HR := Lib.hid hR
 clear hR
 obtain ⟨N, hN⟩ : ∃ N, N = l.length := ⟨_, rfl⟩
 rw [← hN] at hl hc1
 have HLe := Lib.hid hN
 rw [← hN]
 clear hV hN hc2
 go_enter Tryz.func68, Tryz.ntmps68
 go_wp2_with fail
 go_loopw [1, 13] (fun v1 v13 wr => ∃ (k : Nat) (r : Int), k ≤ N ∧ v13 = .int .i64 (k : Int) ∧ v1 = .int .i64 r ∧ 0 ≤ r ∧ r ≤ 2147483647 ∧ Hid (R = findV (findL (l.drop k) r k)) ∧ Below w.heap.size w wr) (fun _ i _ => N - (intOf i).toNat)
 case atStart => exact ⟨0, n, Nat.zero_le _, rfl, rfl, n0, n1, HR, Below.refl _ _⟩
 case round =>
  obtain ⟨k, r, hk, rfl, rfl, r0, r1, HQ, hb⟩ := hrel
  by_cases hlt : k < N
  ·have hlt' : (k : Int) < (N : Int) := by omega
   have hkl : k < l.length := by rw [← HLe.out]; exact hlt
   obtain ⟨c, hc⟩ : ∃ c, l[k]? = some c := ⟨_, List.getElem?_eq_getElem hkl⟩
   obtain ⟨ao', cap', e, _, _, hT⟩ := HT.out.below hb
   simp only [Value.slice.injEq, true_and] at e
   obtain ⟨rfl, rfl⟩ := e
   obtain ⟨b, o, x, rfl, hA, hx⟩ := hT k c hc
   obtain ⟨ax, cx, ex⟩ := hx.form
   obtain ⟨nx, hnx⟩ : ∃ n, n = c.chan.length := ⟨_, rfl⟩
   rw [← hnx] at ex
   subst ex
   clear hT hx hnx
   have h3 := (HG.out c (List.mem_of_getElem? hc)).good.l
   have h4 := (HG.out c (List.mem_of_getElem? hc)).l1
   have HF := Lib.hid (HQ.out.trans (congrArg findV (findL_drop l n k hc r k)))
   have HA := Lib.hid hA
   have HB := Lib.hid hb
   have HC := Lib.hid hc
   clear hA hb hc hkl
   go_upto_region 5 with fail
   apply wp_region_lit
   iterate 6 go_step
   refine wpl_loadG HA.out rfl rfl rfl ?_
   refine wpl_allocB rfl rfl (fun w2 hg hb2 hs2 => ?_)
   obtain ⟨g, hgg⟩ : ∃ g, g = wr.heap.size := ⟨_, rfl⟩
   rw [← hgg] at hg ⊢
   have hgn : w.heap.size ≤ g := by rw [hgg]; exact HB.out.size
   have HB2 := Lib.hid (HB.out.trans (hb2.mono HB.out.size))
   clear hb2 hs2 hgg HA
   obtain ⟨C, hC⟩ : ∃ C, C = (clipG c (.slice ax nx cx)).toArray := ⟨_, rfl⟩
   rw [← hC]
   have HCC := Lib.hid hC
   clear hC
   simp only [Act.put, List.setIfInBounds_toArray, List.set_cons_succ, List.set_cons_zero]
   iterate 3 go_step
   refine wpl_storeB2 c ax nx cx hg rfl rfl rfl (by rw [← HCC.out]; rfl) ?_
   intro w3 hv ho3 hs3 hb3
   have HB3 := Lib.hid (hb3 _ _ hgn HB2.out)
   have x0 := hv.ga.at0.1
   clear hv ho3 hs3 hb3 hg HB2 HCC
   simp only [Act.put, List.setIfInBounds_toArray, List.set_cons_succ, List.set_cons_zero]
   by_cases hr : r < c.len
   ·have HF2 := Lib.hid (HF.out.trans (congrArg findV (if_pos hr)))
    go_wp2_with fail
    refine bodyPost_ret (v := findV (some (k, r))) (by simp [results, Tryz.results68, go_sem, findV]) rfl ⟨?_, HB3.out⟩
    rw [HF2.out]
   ·have HF2 := Lib.hid (HF.out.trans (congrArg findV (if_neg hr)))
    go_wp2_with fail
    go_roundw
    case rel => exact ⟨k + 1, r - c.len, by omega, by simp, rfl, by omega, by omega, HF2, HB3.out⟩
    case measure =>
     show N - (intOf (.int .i64 ((k : Int) + 1))).toNat < N - (intOf (.int .i64 (k : Int))).toNat
     simp [intOf]
     omega
  ·have hkl : k = N := by omega
   have e : l.drop k = [] := List.drop_eq_nil_of_le (by rw [← HLe.out]; omega)
   have HF2 := Lib.hid (show R = findV none by rw [HQ.out, e]; rfl)
   have HB := Lib.hid hb
   clear hb e
   subst hkl
   go_wp2_with fail
   refine bodyPost_ret (v := findV none) (by simp [results, Tryz.results68, go_sem, findV]) rfl ⟨?_, HB.out⟩
   rw [HF2.out]
set_option maxRecDepth 100000 in
set_option maxHeartbeats 8000000 in
theorem placedg_any (s : Trk.Src) (w : World) (h : s = Trk.black ∨ ((s.kind = 1 ∨ s.kind = 2) ∧ Trk.Wide 8796093022208 s)) :
  Calls Tryz.prog 111 #[srcV s] w fun e w' => e = .returned (.bool (plB s)) ∧ Below w.heap.size w w' := by
 rcases h with rfl | ⟨hk, h⟩
 ·rw [plB_yes (.inl rfl)]
  simp only [srcV, srcC, Trk.black]
  go_enter Tryz.func111, Tryz.ntmps111
  go_upto_region 1 with fail
  obtain ⟨w1, hw1⟩ : ∃ x, x = w.alloc (.cells #[.int .i64 0, .string ByteArray.empty, .int .i64 0, .int .i64 0, .int .i64 0, .int .i64 0, .bool false] 46) := ⟨_, rfl⟩
  rw [← hw1]
  have hb1 : Below w.heap.size w w1 := by rw [hw1]; exact below_box _ _
  obtain ⟨b, hb⟩ : ∃ b, b = w.heap.size := ⟨_, rfl⟩
  have c0 : C7 w1 b 0 (.int .i64 0) (.string ByteArray.empty) (.int .i64 0) (.int .i64 0) (.int .i64 0) (.int .i64 0) (.bool false) := by rw [hw1, hb]; constructor <;> simp [go_sem]
  rw [← hb]
  have HB := Lib.hid hb1
  clear hw1 hb1
  obtain ⟨x0, x1, x2, x3, x4, x5, x6⟩ := c0.at0
  have hq := run_eq_src Trk.black Trk.black w1
  simp only [Trk.black] at hq
  clear c0 hb
  go_wp2_with fail
  all_goals go_ret
  all_goals exact ⟨rfl, HB.out⟩
 ·have hb := h.bounds
  have hne := h.g.ne
  have HA := Lib.hid (fun w => bounded_all s.an s.ad 1099511627776 w (by omega) (by omega) (by omega) (by omega) (by decide) (by decide))
  have hbd : bndB s.an s.ad 1099511627776 = plB s := by
   unfold bndB
   rw [validR_of h.g.a0 h.g.a1 (by omega), decide_eq_true (show s.ad ≤ 65536 by omega), Bool.true_and, Bool.true_and]
   by_cases hp : -(1099511627776 * s.ad) ≤ s.an ∧ s.an ≤ 1099511627776 * s.ad
   ·rw [plB_yes (.inr hp), decide_eq_true hp.1, decide_eq_true hp.2]; rfl
   ·rw [plB_no (fun e => e.elim hne hp)]
    by_cases h1 : -(1099511627776 * s.ad) ≤ s.an
    ·rw [decide_eq_true h1, decide_eq_false (fun h2 => hp ⟨h1, h2⟩)]; rfl
    ·rw [decide_eq_false h1]; rfl
  rw [hbd] at HA
  obtain ⟨R, hR⟩ : ∃ R, R = plB s := ⟨_, rfl⟩
  rw [← hR] at HA ⊢
  clear h hb hne hbd hR
  obtain ⟨k, nm, an, ad, sn, sd, sm⟩ := s
  simp only at HA hk
  simp only [srcV, srcC]
  go_enter Tryz.func111, Tryz.ntmps111
  go_upto_region 1 with fail
  obtain ⟨w1, hw1⟩ : ∃ x, x = w.alloc (.cells #[.int .i64 k, .string nm, .int .i64 an, .int .i64 ad, .int .i64 sn, .int .i64 sd, .bool sm] 46) := ⟨_, rfl⟩
  rw [← hw1]
  have hb1 : Below w.heap.size w w1 := by rw [hw1]; exact below_box _ _
  obtain ⟨b, hb⟩ : ∃ b, b = w.heap.size := ⟨_, rfl⟩
  have c0 : C7 w1 b 0 (.int .i64 k) (.string nm) (.int .i64 an) (.int .i64 ad) (.int .i64 sn) (.int .i64 sd) (.bool sm) := by rw [hw1, hb]; constructor <;> simp [go_sem]
  rw [← hb]
  have HB := Lib.hid hb1
  clear hw1 hb1
  obtain ⟨x0, x1, x2, x3, x4, x5, x6⟩ := c0.at0
  clear c0 hb
  rcases hk with rfl | rfl
  all_goals
   go_wp2_with fail
   refine (HA.out _).mono ?_
   rintro e w2 ⟨rfl, hb⟩
   go_wp2_with fail
   go_ret
   exact ⟨rfl, HB.out.trans (hb.mono HB.out.size)⟩
theorem SrcV.far {s : Trk.Src} (h : SrcV s) (n : Int) (hn : n.natAbs ≤ 4294967296) : Trk.moved s n = Trk.black ∨ (((Trk.moved s n).kind = 1 ∨ (Trk.moved s n).kind = 2) ∧ Trk.Wide 8796093022208 (Trk.moved s n)) := by
 rcases h with rfl | h
 ·rw [Trk.moved_black]; exact .inl rfl
 ·exact .inr ⟨by rw [Trk.moved_kind]; exact h.k, (h.wide.moved n hn).mono (by decide)⟩
theorem results_clipG2 {fn : Func} {tmps : Array Value} {w : World} {s t : Tmp} {b : Nat} {c : Trk.Clip} {x v : Value} (hr : fn.results = #[.cell s 48, .tmp t]) (ht : tmps.getD s undef = .pointer (some ⟨b, 0, none⟩)) (hv : tmps.getD t undef = v) (hc : GA w b 0 c x) : (results fn tmps).run Tryz.prog w = .ok (.tuple #[.agg (clipG c x).toArray, v]) w := by
 have h := run_loadVar_mid (P := Tryz.prog) w b 0 48 (clipG c x) _ hc.range Tryz.underlying48 rfl (by kernel_rfl)
 obtain ⟨C, hC⟩ : ∃ C, C = (clipG c x).toArray := ⟨_, rfl⟩
 rw [← hC] at h ⊢
 unfold results
 rw [hr]
 have ht2 : tmps[s]?.getD undef = .pointer (some ⟨b, 0, none⟩) := by rw [← Array.getD_eq_getD_getElem?]; exact ht
 have hv2 : tmps[t]?.getD undef = v := by rw [← Array.getD_eq_getD_getElem?]; exact hv
 simp [ht2, hv2, asAddr, h]
theorem GB.srcb {w : World} {b : Nat} {c : Trk.Clip} {x : Value} (h : GB w b c x) : C7 w b 9 (.int .i64 c.b.kind) (.string c.b.name) (.int .i64 c.b.an) (.int .i64 c.b.ad) (.int .i64 c.b.sn) (.int .i64 c.b.sd) (.bool c.b.smooth) := by
 obtain ⟨x0, x1, x2, x3, x4, x5, x6, x7, x8, x9, x10, x11, x12, x13, x14, x15, x16, x17, x18, x19, x20, x21⟩ := h.ga.at0
 exact ⟨x9, x10, x11, x12, x13, x14, x15⟩
theorem Ch.far_a {w : World} {b : Nat} {c : Trk.Clip} {x y : Value} {l : List Int} (h : Ch w 0 y l) (hb : GB w b c x) (s : Trk.Src) : Ch (((((((w.setCell ⟨b, 2, none⟩ (.int .i64 s.kind)).setCell ⟨b, 3, none⟩ (.string s.name)).setCell ⟨b, 4, none⟩ (.int .i64 s.an)).setCell ⟨b, 5, none⟩ (.int .i64 s.ad)).setCell ⟨b, 6, none⟩ (.int .i64 s.sn)).setCell ⟨b, 7, none⟩ (.int .i64 s.sd)).setCell ⟨b, 8, none⟩ (.bool s.smooth)) 0 y l := by
 refine h.far (by simp) hb.e (by decide) (Nat.zero_le _) fun b2 _ hn => ?_
 exact setCells_other b b2 hn [.int .i64 s.kind, .string s.name, .int .i64 s.an, .int .i64 s.ad, .int .i64 s.sn, .int .i64 s.sd, .bool s.smooth] 2 w
theorem Ch.far_b {w : World} {b : Nat} {c : Trk.Clip} {x y : Value} {l : List Int} (h : Ch w 0 y l) (hb : GB w b c x) (s : Trk.Src) : Ch (((((((w.setCell ⟨b, 9, none⟩ (.int .i64 s.kind)).setCell ⟨b, 10, none⟩ (.string s.name)).setCell ⟨b, 11, none⟩ (.int .i64 s.an)).setCell ⟨b, 12, none⟩ (.int .i64 s.ad)).setCell ⟨b, 13, none⟩ (.int .i64 s.sn)).setCell ⟨b, 14, none⟩ (.int .i64 s.sd)).setCell ⟨b, 15, none⟩ (.bool s.smooth)) 0 y l := by
 refine h.far (by simp) hb.e (by decide) (Nat.zero_le _) fun b2 _ hn => ?_
 exact setCells_other b b2 hn [.int .i64 s.kind, .string s.name, .int .i64 s.an, .int .i64 s.ad, .int .i64 s.sn, .int .i64 s.sd, .bool s.smooth] 9 w
def AdvPost (c : Trk.Clip) (n : Int) (w : World) (e : Ending) (w' : World) : Prop :=
 (((plB (Trk.moved c.a n) && plB (Trk.moved c.b n)) = true ∧ ∃ x, e = .returned (.tuple #[clipGV (Trk.withLen (Trk.shift c n) (c.len - n)) x, .int .i64 0]) ∧ Ch w' 0 x c.chan) ∨
  ((plB (Trk.moved c.a n) && plB (Trk.moved c.b n)) = false ∧ e = .returned (.tuple #[.agg (clipG (Trk.gap 0) (.slice none 0 0)).toArray, .int .i64 2]))) ∧ Below w.heap.size w w'
set_option maxRecDepth 100000 in
set_option maxHeartbeats 8000000 in
theorem advanceg_any (c : Trk.Clip) (x : Value) (n : Int) (w : World) (hI : IT w x c.chan) (hV : VG c) (n0 : 0 ≤ n) (n1 : n < c.len) :
  Calls Tryz.prog 69 #[clipGV c x, .int .i64 n] w (AdvPost c n w) := by
 unfold AdvPost
 have hl := hV.l1
 have ho := hV.off
 have HVC := Lib.hid (show ∀ w1, Below w.heap.size w w1 → Calls Tryz.prog 89 #[clipGV c x] w1 fun e w' => e = .returned (.bool true) ∧ Below w1.heap.size w1 w' from fun w1 hb => by
  have h := clip_says c x w1 (hI.below hb) hV.inc
  rw [clipB_iff.2 hV] at h
  exact h)
 have HCP := Lib.hid (fun (w1 : World) (hb : Below w.heap.size w w1) => copiedg_any c x w1 (hI.below hb) (by have := hV.ch.1; omega))
 have HMA := Lib.hid (fun w => moved_wide c.a n w (hV.a.okw.mono (by decide)) (by omega))
 have HMB := Lib.hid (fun w => moved_wide c.b n w (hV.b.okw.mono (by decide)) (by omega))
 have HPA := Lib.hid (fun w => placedg_any (Trk.moved c.a n) w (hV.a.far n (by omega)))
 have HPB := Lib.hid (fun w => placedg_any (Trk.moved c.b n) w (hV.b.far n (by omega)))
 have HSH := Lib.hid (fun w => share_any c.kind w)
 obtain ⟨ma, hma⟩ : ∃ s, s = Trk.moved c.a n := ⟨_, rfl⟩
 obtain ⟨mb, hmb⟩ : ∃ s, s = Trk.moved c.b n := ⟨_, rfl⟩
 obtain ⟨of, hof2⟩ : ∃ x, x = (if Trk.shares c.kind = true then c.off + n else c.off) := ⟨_, rfl⟩
 have hres : Trk.withLen (Trk.shift c n) (c.len - n) = { c with len := c.len - n, a := ma, b := mb, off := of } := by rw [hma, hmb, hof2]; rfl
 rw [hres]
 rw [← hma] at HMA HPA ⊢
 rw [← hmb] at HMB HPB ⊢
 obtain ⟨pa, hpa⟩ : ∃ b, b = plB ma := ⟨_, rfl⟩
 obtain ⟨pb, hpb⟩ : ∃ b, b = plB mb := ⟨_, rfl⟩
 rw [← hpa] at HPA ⊢
 rw [← hpb] at HPB ⊢
 clear hma hmb hres hpa hpb hV
 obtain ⟨ax, cx, ex, -⟩ := id hI
 obtain ⟨nx, hnx⟩ : ∃ n, n = c.chan.length := ⟨_, rfl⟩
 rw [← hnx] at ex
 rw [ex] at HVC HCP ⊢
 clear hI ex
 unfold clipGV at HVC HCP ⊢
 simp only [srcV, srcC] at HMA HMB HPA HPB
 have HOF := Lib.hid hof2
 clear hof2
 obtain ⟨C, hC⟩ : ∃ C, C = (clipG c (.slice ax nx cx)).toArray := ⟨_, rfl⟩
 rw [← hC] at HVC HCP ⊢
 have HC := Lib.hid hC
 clear hC
 go_enter Tryz.func69, Tryz.ntmps69
 go_upto_region 1 with fail
 obtain ⟨w1, hw1⟩ : ∃ x, x = (w.alloc (.cells C 48)).alloc (.cells (clipC (Trk.gap 0)).toArray 48) := ⟨_, rfl⟩
 have hw1' := hw1
 simp only [clipC, Trk.gap, Trk.black, show (ByteArray.empty : ByteArray) = ⟨#[]⟩ from rfl] at hw1'
 rw [← hw1']
 clear hw1'
 rw [HC.out] at hw1
 obtain ⟨hx, hy, hb1⟩ : GB w1 w.heap.size c (.slice ax nx cx) ∧ GB w1 (w.heap.size + 1) (Trk.gap 0) (.slice none 0 0) ∧ Below w.heap.size w w1 := by
  subst hw1
  refine ⟨(GB.box w c _).below (below_box _ _), ?_, by go_grown⟩
  have h2 := GB.box (w.alloc (.cells (clipG c (.slice ax nx cx)).toArray 48)) (Trk.gap 0) (.slice none 0 0)
  rw [show (w.alloc (.cells (clipG c (.slice ax nx cx)).toArray 48)).heap.size = w.heap.size + 1 by simp] at h2
  exact h2
 obtain ⟨g1, hg1⟩ : ∃ g, g = w.heap.size := ⟨_, rfl⟩
 obtain ⟨g2, hg2⟩ : ∃ g, g = w.heap.size + 1 := ⟨_, rfl⟩
 rw [← hg2] at hy ⊢
 rw [← hg1] at hx ⊢
 have hne : g1 ≠ g2 := by omega
 have hn1 : w.heap.size ≤ g1 := by omega
 have hn2 : w.heap.size ≤ g2 := by omega
 clear hw1 hg1 hg2
 apply wp_region_lit
 refine wpl_loadG hx.ga rfl rfl rfl ?_
 rw [← HC.out]
 simp only [Act.put, List.setIfInBounds_toArray, List.set_cons_succ, List.set_cons_zero]
 have HX := Lib.hid hx
 have HY := Lib.hid hy
 have HB := Lib.hid hb1
 clear hx hy hb1
 go_wp2_with fail
 refine (HVC.out _ HB.out).mono ?_
 rintro e w2 ⟨rfl, hb⟩
 replace HX := Lib.hid (HX.out.below hb)
 replace HY := Lib.hid (HY.out.below hb)
 replace HB := Lib.hid (HB.out.trans (hb.mono HB.out.size))
 clear hb
 have x0 := HX.out.ga.at0.1
 go_upto_region 3 with fail
 apply wp_region_lit
 refine wpl_loadG HX.out.ga rfl rfl rfl ?_
 rw [← HC.out]
 simp only [Act.put, List.setIfInBounds_toArray, List.set_cons_succ, List.set_cons_zero]
 iterate 2 go_step
 refine (HCP.out _ HB.out).mono ?_
 rintro e w3 ⟨x2, rfl, hch, hb⟩
 obtain ⟨ay, cy, ey⟩ := hch.form
 rw [← hnx] at ey
 subst ey
 have HCH := Lib.hid hch
 clear hch hnx
 replace HX := Lib.hid (HX.out.below hb)
 replace HY := Lib.hid (HY.out.below hb)
 replace HB := Lib.hid (HB.out.trans (hb.mono HB.out.size))
 clear hb x0
 dsimp only
 go_step
 refine wpl_storeB2 c ay nx cy HX.out rfl rfl rfl rfl ?_
 intro w4 hv ho4 hs4 hb4
 replace HY := Lib.hid (show GB w4 g2 (Trk.gap 0) (.slice none 0 0) from ⟨(ho4 _ hne.symm).trans HY.out.e⟩)
 replace HCH := Lib.hid (HCH.out.far (Nat.le_of_eq hs4.symm) HX.out.e (by decide) (Nat.zero_le _) (fun b _ hn => ho4 b hn))
 replace HB := Lib.hid (hb4 _ _ hn1 HB.out)
 replace HX := Lib.hid hv
 clear hv ho4 hs4 hb4
 simp only [Act.put, List.setIfInBounds_toArray, List.set_cons_succ, List.set_cons_zero]
 have x0 := HX.out.ga.at0.1
 have xf := HX.out.fz
 go_upto_region 5 with fail
 replace HCH := Lib.hid (HCH.out.far (w' := w4.setCell ⟨g1, 0, none⟩ (.int .i64 (c.len - n))) (by simp) HX.out.e (by decide) (Nat.zero_le _) (fun b _ hn => setCells_other g1 b hn [_] 0 w4))
 replace HY := Lib.hid (HY.out.other hne.symm 0 (.int .i64 (c.len - n)))
 replace HB := Lib.hid (HB.out.setCell (p := ⟨g1, 0, none⟩) hn1 (.int .i64 (c.len - n)))
 replace HX := Lib.hid (HX.out.set_len (c.len - n))
 clear x0 xf
 obtain ⟨w5, hw5⟩ : ∃ x, x = w4.setCell ⟨g1, 0, none⟩ (.int .i64 (c.len - n)) := ⟨_, rfl⟩
 rw [← hw5] at HX HY HB HCH ⊢
 clear hw5
 go_cut [] from 28 (fun wx => GB wx g1 { c with len := c.len - n, a := ma, b := mb } (.slice ay nx cy) ∧ GB wx g2 (Trk.gap 0) (.slice none 0 0) ∧ Ch wx 0 (.slice ay nx cy) c.chan ∧ Below w.heap.size w wx)
 case first J K' h1 h2 =>
  refine Plan.wp_region_planz (fun w' => C7 w' g1 9 (.int .i64 c.b.kind) (.string c.b.name) (.int .i64 c.b.an) (.int .i64 c.b.ad) (.int .i64 c.b.sn) (.int .i64 c.b.sd) (.bool c.b.smooth)) 11 (([0, 2, 4, 5, 6].map (·, true)) ++ (([1, 3].map (·, false)) ++ (([8].map (·, true)) ++ (([7, 9].map (·, false)) ++ (([10].map (·, true)) ++ ([11].map (·, false))))))) (by kernel_rfl) (by kernel_rfl) (by kernel_rfl) (HX.out.srcb.below (Below.refl _ _).drew) ?_
  refine' Plan.plan_seg _ [0, 2, 4, 5, 6] (([1, 3].map (·, false)) ++ (([8].map (·, true)) ++ (([7, 9].map (·, false)) ++ (([10].map (·, true)) ++ ([11].map (·, false)))))) (by kernel_rfl) (by kernel_rfl) rfl (by exact HX.out.srcb.below (Below.refl _ _).drew) (fun wx hS => ?_) ?_
  rotate_left
  ·obtain ⟨x9, x10, x11, x12, x13, x14, x15⟩ := hS
   simp only [show 9 + 1 = 10 from rfl, show 9 + 2 = 11 from rfl, show 9 + 3 = 12 from rfl, show 9 + 4 = 13 from rfl, show 9 + 5 = 14 from rfl, show 9 + 6 = 15 from rfl] at x10 x11 x12 x13 x14 x15
   go_light
   iterate 5 (apply Plan.seg_pick; rfl; intro K hK; go_wp)
   exact Plan.seg_nil
  obtain ⟨w6, hw6⟩ : ∃ x, x = w5.drew := ⟨_, rfl⟩
  rw [← hw6]
  have hb : Below w5.heap.size w5 w6 := by rw [hw6]; exact (Below.refl _ _).drew
  replace HX := Lib.hid (HX.out.below hb)
  replace HY := Lib.hid (HY.out.below hb)
  replace HB := Lib.hid (HB.out.trans (hb.mono HB.out.size))
  replace HCH := Lib.hid (HCH.out.below hb)
  clear hb hw6
  refine Plan.plan_of_effect rfl (fun K hK => ?_)
  obtain ⟨_, _, x2, x3, x4, x5, x6, x7, x8, _⟩ := HX.out.ga.at0
  go_wp2_with fail
  clear x2 x3 x4 x5 x6 x7 x8
  refine ⟨HX.out.srcb, ?_⟩
  refine Plan.plan_of_effect rfl (fun K hK => ?_)
  go_wp2_with fail
  refine (HMA.out _).mono ?_
  rintro e w7 ⟨rfl, hb⟩
  replace HX := Lib.hid (HX.out.below hb)
  replace HY := Lib.hid (HY.out.below hb)
  replace HB := Lib.hid (HB.out.trans (hb.mono HB.out.size))
  replace HCH := Lib.hid (HCH.out.below hb)
  clear hb
  go_wp2_with fail
  refine ⟨HX.out.srcb, ?_⟩
  refine' Plan.plan_seg (S := (fun w' => C7 w' g1 9 (.int .i64 c.b.kind) (.string c.b.name) (.int .i64 c.b.an) (.int .i64 c.b.ad) (.int .i64 c.b.sn) (.int .i64 c.b.sd) (.bool c.b.smooth))) _ [8] (([7, 9].map (·, false)) ++ (([10].map (·, true)) ++ ([11].map (·, false)))) (by kernel_rfl) (by kernel_rfl) rfl (by exact HX.out.srcb) (fun wx hS => ?_) ?_
  rotate_left
  ·clear hS
   go_light
   iterate 1 (apply Plan.seg_pick; rfl; intro K hK; go_wp)
   exact Plan.seg_nil
  refine Plan.plan_of_effect rfl (fun K hK => ?_)
  go_wp2_with fail
  refine (HMB.out _).mono ?_
  rintro e w8 ⟨rfl, hb⟩
  replace HX := Lib.hid (HX.out.below hb)
  replace HY := Lib.hid (HY.out.below hb)
  replace HB := Lib.hid (HB.out.trans (hb.mono HB.out.size))
  replace HCH := Lib.hid (HCH.out.below hb)
  clear hb
  go_wp2_with fail
  refine ⟨HX.out.srcb, ?_⟩
  refine Plan.plan_of_effect rfl (fun K hK => ?_)
  obtain ⟨_, _, x2, x3, x4, x5, x6, x7, x8, _⟩ := HX.out.ga.at0
  have xf := HX.out.fz
  go_wp2_with fail
  clear x2 x3 x4 x5 x6 x7 x8 xf
  replace HCH := Lib.hid (HCH.out.far_a HX.out ma)
  replace HY := Lib.hid (HY.out.other_a hne.symm ma)
  replace HB := Lib.hid (below_set_a HB.out hn1 ma)
  replace HX := Lib.hid (HX.out.set_a ma)
  obtain ⟨w9, hw9⟩ : ∃ x, x = (((((((w8.setCell ⟨g1, 2, none⟩ (.int .i64 ma.kind)).setCell ⟨g1, 3, none⟩ (.string ma.name)).setCell ⟨g1, 4, none⟩ (.int .i64 ma.an)).setCell ⟨g1, 5, none⟩ (.int .i64 ma.ad)).setCell ⟨g1, 6, none⟩ (.int .i64 ma.sn)).setCell ⟨g1, 7, none⟩ (.int .i64 ma.sd)).setCell ⟨g1, 8, none⟩ (.bool ma.smooth)) := ⟨_, rfl⟩
  rw [← hw9] at HX HY HB HCH ⊢
  clear hw9
  refine ⟨HX.out.srcb, ?_⟩
  refine' Plan.plan_seg (S := (fun w' => C7 w' g1 9 (.int .i64 c.b.kind) (.string c.b.name) (.int .i64 c.b.an) (.int .i64 c.b.ad) (.int .i64 c.b.sn) (.int .i64 c.b.sd) (.bool c.b.smooth))) _ [10] ([11].map (·, false)) (by kernel_rfl) (by kernel_rfl) rfl (by exact HX.out.srcb) (fun wx hS => ?_) ?_
  rotate_left
  ·clear hS
   go_light
   iterate 1 (apply Plan.seg_pick; rfl; intro K hK; go_wp)
   exact Plan.seg_nil
  refine Plan.plan_of_last rfl (fun K hK => ?_)
  obtain ⟨_, _, _, _, _, _, _, _, _, x9, x10, x11, x12, x13, x14, x15, _⟩ := HX.out.ga.at0
  have xf := HX.out.fz
  go_wp2_with fail
  replace HCH := Lib.hid (HCH.out.far_b HX.out mb)
  replace HY := Lib.hid (HY.out.other_b hne.symm mb)
  replace HB := Lib.hid (below_set_b HB.out hn1 mb)
  replace HX := Lib.hid (HX.out.set_b mb)
  clear x9 x10 x11 x12 x13 x14 x15 xf
  refine Plan.plan_done ?_
  refine h2 _ _ (Met.intro (h1 _ _ ?_))
  (repeat apply Exists.intro)
  exact ⟨⟨HX.out, HY.out, HCH.out, HB.out⟩, rfl⟩
 clear HX HY HB HCH
 have HX := Lib.hid hcut.1
 have HY := Lib.hid hcut.2.1
 have HCH := Lib.hid hcut.2.2.1
 have HB := Lib.hid hcut.2.2.2
 clear hcut
 have y1 := HX.out.ga.k1
 simp only [Nat.zero_add] at y1
 go_upto_if 40 with (go_at_call 110; refine (HSH.out _).mono ?_; rintro e w' ⟨rfl, rfl⟩)
 clear y1
 go_cut [] from 41 (fun wx => GB wx g1 { c with len := c.len - n, a := ma, b := mb, off := of } (.slice ay nx cy) ∧ GB wx g2 (Trk.gap 0) (.slice none 0 0) ∧ Ch wx 0 (.slice ay nx cy) c.chan ∧ Below w.heap.size w wx)
 case first =>
  have x16 := HX.out.ga.k16
  simp only [Nat.zero_add] at x16
  have xf := HX.out.fz
  go_wp2_with fail
  all_goals go_meet
  case rel =>
   rename_i hsh
   have e := HOF.out
   simp only [hsh, if_true] at e
   rw [e]
   exact ⟨HX.out.set_off _, HY.out.other hne.symm _ _, HCH.out.far (by simp) HX.out.e (by decide) (Nat.zero_le _) (fun b _ hn => setCells_other g1 b hn [_] 16 _), HB.out.setCell (p := ⟨g1, 16, none⟩) hn1 _⟩
  case rel =>
   rename_i hsh
   have e := HOF.out
   simp only [hsh, Bool.false_eq_true, if_false] at e
   rw [e]
   exact ⟨HX.out, HY.out, HCH.out, HB.out⟩
 clear HX HY HB HCH
 have HX := Lib.hid hcut.1
 have HY := Lib.hid hcut.2.1
 have HCH := Lib.hid hcut.2.2.1
 have HB := Lib.hid hcut.2.2.2
 clear hcut
 have bad : ∀ (wz : World), GB wz g2 (Trk.gap 0) (.slice none 0 0) → Below w.heap.size w wz → True := fun _ _ _ => trivial
 obtain ⟨_, _, x2, x3, x4, x5, x6, x7, x8, _⟩ := HX.out.ga.at0
 go_wp2_with fail
 refine (HPA.out _).mono ?_
 rintro e w10 ⟨rfl, hb⟩
 replace HX := Lib.hid (HX.out.below hb)
 replace HY := Lib.hid (HY.out.below hb)
 replace HB := Lib.hid (HB.out.trans (hb.mono HB.out.size))
 replace HCH := Lib.hid (HCH.out.below hb)
 clear hb x2 x3 x4 x5 x6 x7 x8
 cases pa with
 | false =>
  go_upto_region 9 with fail
  apply wp_region_lit
  iterate 3 go_step
  refine wpl_storeB2 (Trk.gap 0) none 0 0 HY.out rfl rfl rfl rfl ?_
  intro w12 hv ho4 hs4 hb4
  replace HB := Lib.hid (hb4 _ _ hn2 HB.out)
  replace HY := Lib.hid hv
  clear hv ho4 hs4 hb4
  simp only [Act.put, List.setIfInBounds_toArray, List.set_cons_succ, List.set_cons_zero]
  go_wp2_with fail
  refine bodyPost_ret (v := .tuple #[.agg (clipG (Trk.gap 0) (.slice none 0 0)).toArray, .int .i64 2]) (results_clipG2 Tryz.results69 rfl rfl HY.out.ga) rfl ⟨.inr ⟨rfl, rfl⟩, HB.out⟩
 | true =>
  obtain ⟨_, _, _, _, _, _, _, _, _, x9, x10, x11, x12, x13, x14, x15, _⟩ := HX.out.ga.at0
  go_wp2_with fail
  refine (HPB.out _).mono ?_
  rintro e w11 ⟨rfl, hb⟩
  replace HX := Lib.hid (HX.out.below hb)
  replace HY := Lib.hid (HY.out.below hb)
  replace HB := Lib.hid (HB.out.trans (hb.mono HB.out.size))
  replace HCH := Lib.hid (HCH.out.below hb)
  clear hb x9 x10 x11 x12 x13 x14 x15
  cases pb with
  | false =>
   go_upto_region 9 with fail
   apply wp_region_lit
   iterate 3 go_step
   refine wpl_storeB2 (Trk.gap 0) none 0 0 HY.out rfl rfl rfl rfl ?_
   intro w12 hv ho4 hs4 hb4
   replace HB := Lib.hid (hb4 _ _ hn2 HB.out)
   replace HY := Lib.hid hv
   clear hv ho4 hs4 hb4
   simp only [Act.put, List.setIfInBounds_toArray, List.set_cons_succ, List.set_cons_zero]
   go_wp2_with fail
   refine bodyPost_ret (v := .tuple #[.agg (clipG (Trk.gap 0) (.slice none 0 0)).toArray, .int .i64 2]) (results_clipG2 Tryz.results69 rfl rfl HY.out.ga) rfl ⟨.inr ⟨rfl, rfl⟩, HB.out⟩
  | true =>
   go_upto_region 10 with fail
   apply wp_region_lit
   refine wpl_loadG HX.out.ga rfl rfl rfl ?_
   simp only [Act.put, List.setIfInBounds_toArray, List.set_cons_succ, List.set_cons_zero]
   refine wpl_storeB2 { c with len := c.len - n, a := ma, b := mb, off := of } ay nx cy HY.out rfl rfl rfl rfl ?_
   intro w12 hv ho4 hs4 hb4
   replace HB := Lib.hid (hb4 _ _ hn2 HB.out)
   replace HCH := Lib.hid (HCH.out.far (Nat.le_of_eq hs4.symm) HY.out.e (by decide) (Nat.zero_le _) (fun b _ hn => ho4 b hn))
   replace HY := Lib.hid hv
   clear hv ho4 hs4 hb4
   simp only [Act.put, List.setIfInBounds_toArray, List.set_cons_succ, List.set_cons_zero]
   go_wp2_with fail
   refine bodyPost_ret (v := .tuple #[.agg (clipG { c with len := c.len - n, a := ma, b := mb, off := of } (.slice ay nx cy)).toArray, .int .i64 0]) (results_clipG2 Tryz.results69 rfl rfl HY.out.ga) rfl ⟨.inl ⟨rfl, _, rfl, HCH.out⟩, HB.out⟩
theorem TG.base {w : World} {C : Nat} {v : Value} {l : List Trk.Clip} (h : TG w C v l) : TG w w.heap.size v l := by
 obtain ⟨ao, cap, e, h1, h2, h3⟩ := h
 refine ⟨ao, cap, e, h1, h2, fun i c hi => ?_⟩
 obtain ⟨b, o, x, e2, hc, hx⟩ := h3 i c hi
 exact ⟨b, o, x, e2, hc, hx.it.ch (Nat.le_refl _)⟩
theorem okCut_at : ∀ {l : List Trk.Clip} {j : Nat} {c : Trk.Clip} {m : Int}, Trk.GoodL l → l[j]? = some c → 0 ≤ m → m < c.len → (okCut l (Trk.total (l.take j) + m) ↔ PlOK (Trk.moved c.a m) ∧ PlOK (Trk.moved c.b m))
 | [], j, c, m, _, hc, _, _ => by simp at hc
 | d :: l, 0, c, m, g, hc, h0, h1 => by
  simp only [List.getElem?_cons_zero, Option.some.injEq] at hc
  subst hc
  unfold okCut
  rw [List.take_zero, show Trk.total ([] : List Trk.Clip) + m = m by show 0 + m = m; omega, if_neg (by omega)]
 | d :: l, j + 1, c, m, g, hc, h0, h1 => by
  simp only [List.getElem?_cons_succ] at hc
  have ht := Trk.total_nonneg (l := l.take j) (fun x hx => g.tail x (List.mem_of_mem_take hx))
  unfold okCut
  rw [List.take_succ_cons, Trk.total_cons, if_pos (by omega), show d.len + Trk.total (l.take j) + m - d.len = Trk.total (l.take j) + m by omega]
  exact okCut_at g.tail hc h0 h1
structure RG (w : World) (g1 g2 : Nat) (v e : Value) : Prop where
 e1 : w.heap[g1]? = some (.cells #[v] 23 (0, 0))
 e2 : w.heap[g2]? = some (.cells #[e] 30 (0, 0))
theorem RG.lt1 {w : World} {g1 g2 : Nat} {v e : Value} (h : RG w g1 g2 v e) : g1 < w.heap.size := (Array.getElem?_eq_some_iff.1 h.e1).1
theorem RG.lt2 {w : World} {g1 g2 : Nat} {v e : Value} (h : RG w g1 g2 v e) : g2 < w.heap.size := (Array.getElem?_eq_some_iff.1 h.e2).1
theorem RG.c1 {w : World} {g1 g2 : Nat} {v e : Value} (h : RG w g1 g2 v e) : w.cell? ⟨g1, 0, none⟩ = some v := by unfold World.cell?; simp only [h.e1]; rfl
theorem RG.c2 {w : World} {g1 g2 : Nat} {v e : Value} (h : RG w g1 g2 v e) : w.cell? ⟨g2, 0, none⟩ = some e := by unfold World.cell?; simp only [h.e2]; rfl
theorem RG.f1 {w : World} {g1 g2 : Nat} {v e : Value} (h : RG w g1 g2 v e) : w.frozen? ⟨g1, 0, none⟩ = false := by simp [World.frozen?, h.e1]
theorem RG.f2 {w : World} {g1 g2 : Nat} {v e : Value} (h : RG w g1 g2 v e) : w.frozen? ⟨g2, 0, none⟩ = false := by simp [World.frozen?, h.e2]
theorem RG.below {w w' : World} {n g1 g2 : Nat} {v e : Value} (h : RG w g1 g2 v e) (hb : Below n w w') (h1 : g1 < n) (h2 : g2 < n) : RG w' g1 g2 v e := ⟨(hb.block g1 h1).trans h.e1, (hb.block g2 h2).trans h.e2⟩
theorem RG.up {w w' : World} {g1 g2 : Nat} {v e : Value} (h : RG w g1 g2 v e) (hb : Below w.heap.size w w') : RG w' g1 g2 v e := h.below hb h.lt1 h.lt2
theorem RG.set1 {w : World} {g1 g2 : Nat} {v e : Value} (h : RG w g1 g2 v e) (hne : g1 ≠ g2) (u : Value) : RG (w.setCell ⟨g1, 0, none⟩ u) g1 g2 u e :=
 ⟨by simp [World.setCell, Array.getElem?_modify, h.e1], by simp [World.setCell, Array.getElem?_modify, h.e2, hne]⟩
theorem RG.set2 {w : World} {g1 g2 : Nat} {v e : Value} (h : RG w g1 g2 v e) (hne : g1 ≠ g2) (u : Value) : RG (w.setCell ⟨g2, 0, none⟩ u) g1 g2 v u :=
 ⟨by simp [World.setCell, Array.getElem?_modify, h.e1, hne.symm], by simp [World.setCell, Array.getElem?_modify, h.e2]⟩
theorem RG.other {w : World} {g1 g2 : Nat} {v e : Value} (h : RG w g1 g2 v e) {g : Nat} (n1 : g1 ≠ g) (n2 : g2 ≠ g) (o : Nat) (u : Value) : RG (w.setCell ⟨g, o, none⟩ u) g1 g2 v e :=
 ⟨by simp [World.setCell, Array.getElem?_modify, h.e1, n1.symm], by simp [World.setCell, Array.getElem?_modify, h.e2, n2.symm]⟩
theorem OG.row_ne {w : World} {B C : Nat} {v : Value} {l : List Trk.Clip} (h : OG w B C v l) {g : Nat} (hg : g < B) : ∀ g2 k cap, v = .slice (some ⟨g2, 0, none⟩) k cap → g2 ≠ g := fun g2 k cap e => by
 subst e
 have := h.blk.1
 omega
theorem OG.var1 {w : World} {B C g1 g2 : Nat} {v a e : Value} {l : List Trk.Clip} (h : OG w B C v l) (hr : RG w g1 g2 a e) (hC : C ≤ g1) (hB : g1 < B) (u : Value) : OG (w.setCell ⟨g1, 0, none⟩ u) B C v l :=
 h.far (by simp) hr.e1 (by decide) hC (h.row_ne hB) (fun b _ hn => setCells_other g1 b hn [u] 0 w)
theorem OG.var2 {w : World} {B C g1 g2 : Nat} {v a e : Value} {l : List Trk.Clip} (h : OG w B C v l) (hr : RG w g1 g2 a e) (hC : C ≤ g2) (hB : g2 < B) (u : Value) : OG (w.setCell ⟨g2, 0, none⟩ u) B C v l :=
 h.far (by simp) hr.e2 (by decide) hC (h.row_ne hB) (fun b _ hn => setCells_other g2 b hn [u] 0 w)
theorem GB.same {w w' : World} {b : Nat} {c : Trk.Clip} {x : Value} (h : GB w b c x) (hs : w'.heap[b]? = w.heap[b]?) : GB w' b c x := ⟨hs.trans h.e⟩
def CutOk (w : World) (l : List Trk.Clip) (a b : Int) (e : Ending) (w' : World) : Prop := ∃ v', e = .returned (.tuple #[v', .int .i64 0]) ∧ OG w' w.heap.size 0 v' (Trk.cut l a b) ∧ Below w.heap.size w w'
set_option maxRecDepth 100000 in
set_option maxHeartbeats 16000000 in
theorem cutg_ok (D0 : Nat) (v : Value) (l : List Trk.Clip) (a b : Int) (w : World) (h : TG w D0 v l) (hV : TV l) (a0 : 0 ≤ a) (ab : a ≤ b) (b1 : b ≤ 2147483647) (hlen : (Trk.cut l a b).length ≤ 64) (hok : okCut l a ∨ a = b) :
  Calls Tryz.prog 30 #[v, .int .i64 a, .int .i64 b] w (CutOk w l a b) := by
 replace h := h.base
 obtain ⟨Cc, hCc⟩ : ∃ C, C = w.heap.size := ⟨_, rfl⟩
 rw [← hCc] at h
 obtain ⟨ao, cap, rfl, hc1, hc2, hT⟩ := h
 have HT := Lib.hid (show TG w Cc (.slice ao l.length cap) l from ⟨ao, cap, rfl, hc1, hc2, hT⟩)
 clear hT
 have HVT := Lib.hid (fun w (h : TG w Cc (.slice ao l.length cap) l) => vtrackg_yes Cc _ l w h hV)
 have HFI := Lib.hid (fun w (h : TG w Cc (.slice ao l.length cap) l) => findg_any Cc _ l a w h hV a0 (by omega))
 have HV := Lib.hid hV.l
 have HG := Lib.hid hV.good
 have hl := hV.n
 have HRV := Lib.hid (show VGL (Trk.cutRaw l a (b - a)) from by
  rcases hok with h | h
  ·exact cutRaw_vg hV.l a0 (by omega) h
  ·rw [cutRaw_done _ _ (by omega) (by omega) hV.good a0]; exact VGL.nil)
 have HRT := Lib.hid (Trk.cutRaw_spec (f := a) (n := b - a) hV.good a0 (by omega)).2.1
 have HRL := Lib.hid (Trk.cutRaw_length l a (b - a))
 unfold CutOk
 unfold Trk.cut at hlen ⊢
 obtain ⟨RAW, hRAW⟩ : ∃ R, R = Trk.cutRaw l a (b - a) := ⟨_, rfl⟩
 rw [← hRAW] at hlen HRV HRT HRL ⊢
 have HRAW := Lib.hid hRAW
 obtain ⟨N, hN⟩ : ∃ N, N = l.length := ⟨_, rfl⟩
 rw [← hN] at hl hc1 HRL HFI HVT HT ⊢
 have HLe := Lib.hid hN
 have HOK := Lib.hid hok
 clear hV hN hc2 hRAW hok
 go_enter_defers Tryz.func30, Tryz.ntmps30
 go_upto_region 2 with fail
 obtain ⟨w1, hw1⟩ : ∃ x, x = (w.alloc (.cells #[.slice none 0 0] 23)).alloc (.cells #[.int .i64 0] 30) := ⟨_, rfl⟩
 rw [← hw1]
 have hE1 : Below w.heap.size w w1 := by rw [hw1]; go_grown
 obtain ⟨g1, hg1⟩ : ∃ g, g = w.heap.size := ⟨_, rfl⟩
 obtain ⟨g2, hg2⟩ : ∃ g, g = w.heap.size + 1 := ⟨_, rfl⟩
 have hr : RG w1 g1 g2 (.slice none 0 0) (.int .i64 0) := by
  rw [hw1, hg1, hg2]
  refine ⟨?_, ?_⟩
  ·rw [(below_box (w.alloc (.cells #[.slice none 0 0] 23)) _).block _ (by simp)]
   exact (MapKept.heap_alloc w _).1
  ·have := (MapKept.heap_alloc (w.alloc (.cells #[.slice none 0 0] 23)) (.cells #[.int .i64 0] 30)).1
   rw [show (w.alloc (.cells #[.slice none 0 0] 23)).heap.size = w.heap.size + 1 by simp] at this
   exact this
 have hz : w1.heap.size = g2 + 1 := by rw [hw1, hg2]; simp [go_sem]
 rw [← hg2, ← hg1]
 have hn1 : w.heap.size ≤ g1 := by omega
 have HCC0 := Lib.hid (show Cc ≤ g1 ∧ Cc ≤ g2 by omega)
 have hn2 : w.heap.size ≤ g2 := by omega
 have h12 : g1 < g2 := by omega
 have HR := Lib.hid hr
 have HB := Lib.hid hE1
 have HS := Lib.hid (Nat.le_of_eq hz.symm)
 clear hw1 hE1 hg1 hg2 hr hz
 go_wp2_with fail
 refine (HVT.out _ (HT.out.below HB.out)).mono ?_
 rintro e w2 ⟨rfl, hb⟩
 replace HR := Lib.hid (HR.out.up hb)
 replace HB := Lib.hid (HB.out.trans (hb.mono HB.out.size))
 replace HS := Lib.hid (Nat.le_trans HS.out hb.size)
 clear hb HVT
 go_wp2_with fail
 refine (HFI.out _ (HT.out.below HB.out)).mono ?_
 rintro e w3 ⟨rfl, hb⟩
 replace HR := Lib.hid (HR.out.up hb)
 replace HB := Lib.hid (HB.out.trans (hb.mono HB.out.size))
 replace HS := Lib.hid (Nat.le_trans HS.out hb.size)
 clear hb HFI
 obtain ⟨n, hn⟩ : ∃ n, n = b - a := ⟨_, rfl⟩
 rw [← hn] at HRT HRAW
 have n0 : 0 ≤ n := by omega
 have n1 : n ≤ 2147483647 := by omega
 have HN := Lib.hid hn
 clear hn
 by_cases hat : a < Trk.total l
 ·obtain ⟨j, m, ef, hj, hm0, hm, c, hc, hmc⟩ := findL_some (l := l) (n := a) (i := 0) a0 hat
  rw [ef]
  simp only [findV, Nat.zero_add]
  rw [← HLe.out] at hj
  by_cases hnz : 0 < n
  ·have hnz' : 0 < b - a := by have := HN.out; omega
   obtain ⟨ao', cap', e, _, _, hT⟩ := HT.out
   simp only [Value.slice.injEq] at e
   obtain ⟨rfl, eN, rfl⟩ := e
   clear eN
   obtain ⟨bb, oo, _, rfl, _⟩ := hT j c hc
   clear hT
   have HJ := Lib.hid (And.intro ef (And.intro hm hc))
   clear ef hm hc hat
   have hab : decide (a < b) = true := decide_eq_true (by omega)
   go_upto_if 46 with fail
   go_cut [8, 9] from 47 (fun v8 v9 wx => ∃ acc left, v8 = .int .i64 left ∧ Col RAW acc left ∧ OG wx (g2 + 1) Cc v9 acc ∧ RG wx g1 g2 (.slice none 0 0) (.int .i64 0) ∧ Below w.heap.size w wx ∧ g2 + 1 ≤ wx.heap.size)
   case first J K' h1 h2 =>
    have hjc : (j : Int) < (cap : Int) := by omega
    go_wp2_with fail
    obtain ⟨M, hM⟩ : ∃ M, M = N - j := ⟨_, rfl⟩
    rw [← hM]
    have hMb : M ≤ 64 := by omega
    have hMj : M + j = N := by omega
    have HM := Lib.hid hM
    clear hM
    go_loopw [8, 9, 51] (fun v8 v9 v51 wr => ∃ (k : Nat) (acc : List Trk.Clip) (left : Int), k ≤ M ∧ v51 = .int .i64 (k : Int) ∧ v8 = .int .i64 left ∧ 0 ≤ left ∧ left ≤ 2147483647 ∧ Hid (k = 0 → acc = [] ∧ left = b - a) ∧ Hid (0 < k → RAW = acc ++ Trk.cutRaw (l.drop (j + k)) 0 left) ∧ acc.length ≤ k ∧ OG wr (g2 + 1) Cc v9 acc ∧ RG wr g1 g2 (.slice none 0 0) (.int .i64 0) ∧ Below w.heap.size w wr ∧ g2 + 1 ≤ wr.heap.size) (fun _ _ i _ => M - (intOf i).toNat)
    case atStart => exact ⟨0, [], b - a, Nat.zero_le _, rfl, rfl, by omega, by omega, Lib.hid (fun _ => ⟨rfl, rfl⟩), Lib.hid (fun h => absurd h (by omega)), by simp, OG.nil _ _ _, HR.out, HB.out, HS.out⟩
    case round =>
     clear HR HB HS
     obtain ⟨k, acc, left, hk, rfl, rfl, left0, left1, HK0, HK1, hak, ho, hr, hb, hs⟩ := hrel
     by_cases hlt : k < M
     ·have hlt' : (k : Int) < (M : Int) := by omega
      have hjk : j + k < l.length := by have := HLe.out; omega
      obtain ⟨d, hd⟩ : ∃ d, l[j + k]? = some d := ⟨_, List.getElem?_eq_getElem hjk⟩
      obtain ⟨ao', cap', e, _, _, hT⟩ := HT.out.below hb
      simp only [Value.slice.injEq] at e
      obtain ⟨e1, eN, rfl⟩ := e
      clear eN
      subst e1
      obtain ⟨bb', oo', xd, e, hA, hX⟩ := hT (j + k) d hd
      obtain ⟨ax, cx, ex⟩ := hX.form
      obtain ⟨nx, hnx⟩ : ∃ n, n = d.chan.length := ⟨_, rfl⟩
      rw [← hnx] at ex
      subst ex
      have HCX := Lib.hid hX
      simp only [Option.some.injEq, Addr.mk.injEq, and_true] at e
      obtain ⟨rfl, rfl⟩ := e
      rw [Nat.add_mul, ← Nat.add_assoc] at hA
      have hvd := HV.out d (List.mem_of_getElem? hd)
      have hd0 := hvd.l0
      have hd1 := hvd.l1
      have HA := Lib.hid hA
      have HO := Lib.hid ho
      have HR := Lib.hid hr
      have HB := Lib.hid hb
      have HS := Lib.hid hs
      have HD := Lib.hid hd
      have HVD := Lib.hid hvd
      clear hT hA ho hr hb hs hd hvd hjk hX
      go_upto_region 10 with fail
      apply wp_region_lit
      iterate 6 go_step
      refine wpl_loadG HA.out rfl rfl rfl ?_
      refine wpl_allocB rfl rfl (fun w4 hg hb2 hs2 => ?_)
      obtain ⟨g, hgg⟩ : ∃ g, g = wr.heap.size := ⟨_, rfl⟩
      rw [← hgg] at hg ⊢
      have hgn : w.heap.size ≤ g := by rw [hgg]; exact HB.out.size
      have hgo : ∀ g' k' cap', u9 = .slice (some ⟨g', 0, none⟩) k' cap' → g' < g := fun g' k' cap' e => by
       subst e
       have := HO.out.lt
       omega
      have hg1 : g1 < g := by have := HR.out.lt1; omega
      have hg2 : g2 < g := by have := HR.out.lt2; omega
      have HGO := Lib.hid hgo
      have HBX := Lib.hid (And.intro hb2 hgg)
      clear hb2 hs2 hgg HA hgo
      obtain ⟨D, hD⟩ : ∃ D, D = (clipG d (.slice ax nx cx)).toArray := ⟨_, rfl⟩
      rw [← hD]
      have HDD := Lib.hid hD
      clear hD
      simp only [Act.put, List.setIfInBounds_toArray, List.set_cons_succ, List.set_cons_zero]
      iterate 3 go_step
      refine wpl_storeB2 d ax nx cx hg rfl rfl rfl (by rw [← HDD.out]; rfl) ?_
      intro w5 hv ho3 hs3 hb3
      have hbw : Below wr.heap.size wr w5 := hb3 _ _ (Nat.le_of_eq HBX.out.2.symm) HBX.out.1
      replace HR := Lib.hid (HR.out.up hbw)
      replace HO := Lib.hid (HO.out.below hbw)
      replace HB := Lib.hid (HB.out.trans (hbw.mono HB.out.size))
      replace HS := Lib.hid (Nat.le_trans HS.out hbw.size)
      replace HCX := Lib.hid (HCX.out.below hbw)
      have HX := Lib.hid hv
      clear hv ho3 hs3 hb3 hbw HBX hg
      simp only [Act.put, List.setIfInBounds_toArray, List.set_cons_succ, List.set_cons_zero]
      by_cases hl0 : left = 0
      ·have hk0 : 0 < k := by
        rcases Nat.eq_zero_or_pos k with e | e
        ·have := (HK0.out e).2
         omega
        ·exact e
       have hcol : Col RAW acc 0 := by
        refine ⟨?_, by omega, Int.le_refl _, by omega⟩
        rw [if_neg (by omega), List.append_nil, HK1.out hk0, hl0, cutRaw_done _ _ (Int.le_refl _) (Int.le_refl _) (fun x hx => HG.out x (List.mem_of_mem_drop hx)) (Int.le_refl _), List.append_nil]
       have HC := Lib.hid hcol
       clear hcol
       subst hl0
       go_wp2_with fail
       refine Met.intro (h1 _ _ ?_)
       (repeat apply Exists.intro)
       exact ⟨⟨acc, 0, rfl, HC.out, HO.out, HR.out, HB.out, HS.out⟩, rfl⟩
      ·have hl1 : 0 < left := by omega
       have hlb : (left == 0) = false := by simpa using hl0
       clear hl0
       obtain ⟨x, hx⟩ : ∃ x, x = (if k = 0 then Trk.withLen (Trk.shift c m) (c.len - m) else d) := ⟨_, rfl⟩
       have HXX := Lib.hid hx
       clear hx
       have hchx : x.chan = d.chan := by
        rw [HXX.out]
        split
        ·rename_i hk0
         have h := HD.out
         rw [hk0, Nat.add_zero, HJ.out.2.2] at h
         rw [← Option.some.inj h]
         rfl
        ·rfl
       have HCN := Lib.hid (And.intro hchx hnx)
       clear hchx hnx
       go_upto_if 59 with fail
       go_cut [59] from 60 to 82 (fun _ wx => (∃ ay cy, GB wx g x (.slice ay nx cy) ∧ Ch wx Cc (.slice ay nx cy) d.chan) ∧ OG wx (g2 + 1) Cc u9 acc ∧ RG wx g1 g2 (.slice none 0 0) (.int .i64 0) ∧ Below w.heap.size w wx ∧ g2 + 1 ≤ wx.heap.size)
       case first J2 K2 h3 h4 =>
        by_cases hk0 : k = 0
        ·subst hk0
         have hdc : d = c := by
          have h := HD.out
          rw [Nat.add_zero, HJ.out.2.2] at h
          exact (Option.some.inj h).symm
         have hxe := HXX.out
         rw [if_pos rfl] at hxe
         subst hdc
         subst hxe
         have hpl : (plB (Trk.moved d.a m) && plB (Trk.moved d.b m)) = true := by
          have h1 : okCut l a := by
           rcases HOK.out with h | h
           ·exact h
           ·omega
          have h := HJ.out
          rw [show a = Trk.total (l.take j) + m by omega] at h1
          obtain ⟨p, q⟩ := (okCut_at HG.out h.2.2 hm0 hmc).1 h1
          rw [plB_yes p, plB_yes q]; rfl
         have HAD := Lib.hid (fun (w1 : World) (hi : IT w1 (.slice ax nx cx) d.chan) => advanceg_any d (.slice ax nx cx) m w1 hi HVD.out hm0 hmc)
         unfold AdvPost at HAD
         rw [hpl] at HAD
         clear hpl
         unfold clipGV at HAD
         rw [← HDD.out] at HAD
         go_upto_region 13 with fail
         apply wp_region_lit
         refine wpl_loadG HX.out.ga rfl rfl rfl ?_
         rw [← HDD.out]
         simp only [Act.put, List.setIfInBounds_toArray, List.set_cons_succ, List.set_cons_zero]
         go_wp2_with fail
         refine (HAD.out _ HCX.out.it).mono ?_
         rintro e w6 ⟨hzz, hb⟩
         rcases hzz with hzz | ⟨hbad, -⟩
         rotate_left
         ·cases hbad
         obtain ⟨-, xn, rfl, hcn⟩ := hzz
         obtain ⟨ay, cy, ey⟩ := hcn.form
         rw [← HCN.out.2] at ey
         subst ey
         have HCY := Lib.hid hcn
         clear hcn
         obtain ⟨E, hE⟩ : ∃ E, E = (clipG (Trk.withLen (Trk.shift d m) (d.len - m)) (.slice ay nx cy)).toArray := ⟨_, rfl⟩
         rw [← hE]
         have HE := Lib.hid hE
         clear hE
         replace HX := Lib.hid (HX.out.below hb)
         replace HR := Lib.hid (HR.out.up hb)
         replace HO := Lib.hid (HO.out.below hb)
         replace HB := Lib.hid (HB.out.trans (hb.mono HB.out.size))
         replace HS := Lib.hid (Nat.le_trans HS.out hb.size)
         clear hb
         dsimp only
         iterate 10 go_step
         refine wpl_storeB2 _ ay nx cy HX.out rfl rfl rfl (by rw [← HE.out]; rfl) ?_
         intro w7 hv ho3 hs3 hb3
         have hbw : Below g w6 w7 := hb3 _ _ (Nat.le_refl _) (Below.refl _ _)
         replace HR := Lib.hid (HR.out.below hbw hg1 hg2)
         replace HO := Lib.hid (HO.out.far hbw.size HX.out.e (by decide) (by have := HCC0.out; omega) (fun g' k' cap' e => Nat.ne_of_lt (HGO.out g' k' cap' e)) (fun b _ hn => ho3 b hn))
         replace HCY := Lib.hid (HCY.out.far hbw.size HX.out.e (by decide) (Nat.zero_le _) (fun b _ hn => ho3 b hn))
         replace HB := Lib.hid (hb3 _ _ hgn HB.out)
         replace HS := Lib.hid (Nat.le_trans HS.out hbw.size)
         replace HX := Lib.hid hv
         clear hv ho3 hs3 hb3 hbw
         simp only [Act.put, List.setIfInBounds_toArray, List.set_cons_succ, List.set_cons_zero]
         have y2 := HR.out.c2
         have f2 := HR.out.f2
         go_wp2_with fail
         have hne12 : g1 ≠ g2 := by omega
         have hng2 : g ≠ g2 := by omega
         refine Met.intro (h3 _ _ ?_)
         (repeat apply Exists.intro)
         exact ⟨⟨⟨ay, cy, HX.out.other hng2 _ _, (HCY.out.far (w' := w7.setCell ⟨g2, 0, none⟩ _) (by simp) HR.out.e2 (by decide) (Nat.zero_le _) (fun b _ hn => setCells_other g2 b hn [_] 0 w7)).up (Nat.zero_le _)⟩, HO.out.var2 HR.out HCC0.out.2 (Nat.lt_succ_self _) _, HR.out.set2 hne12 _, HB.out.setCell (p := ⟨g2, 0, none⟩) hn2 _, by rw [World.size_setCell]; exact HS.out⟩, rfl⟩
        ·have hxe := HXX.out
         rw [if_neg hk0] at hxe
         subst hxe
         have hk0' : (k == 0) = false := by simpa using hk0
         go_wp2_with fail
         refine Met.intro (h3 _ _ ?_)
         (repeat apply Exists.intro)
         exact ⟨⟨⟨ax, cx, HX.out, HCX.out⟩, HO.out, HR.out, HB.out, HS.out⟩, rfl⟩
       clear HX HO HR HB HS HCX
       obtain ⟨⟨ay, cy, hx, hcx⟩, ho, hr, hb, hs⟩ := hcut
       have HX := Lib.hid hx
       have HCX := Lib.hid hcx
       have HO := Lib.hid ho
       have HR := Lib.hid hr
       have HB := Lib.hid hb
       have HS := Lib.hid hs
       clear hx ho hr hb hs hcx
       have x0 := HX.out.ga.at0.1
       have xf := HX.out.fz
       go_upto_region 17 with fail
       have hgb : g ≠ g1 ∧ g ≠ g2 := by omega
       replace HR := Lib.hid (HR.out.other (fun e => hgb.1 e.symm) (fun e => hgb.2 e.symm) 0 (.int .i64 (min x.len left)))
       replace HO := Lib.hid (HO.out.far (w' := wc.setCell ⟨g, 0, none⟩ (.int .i64 (min x.len left))) (by simp) HX.out.e (by decide) (by have := HCC0.out; omega) (fun g' k' cap' e => Nat.ne_of_lt (HGO.out g' k' cap' e)) (fun b _ hn => setCells_other g b hn [_] 0 wc))
       replace HCX := Lib.hid (HCX.out.far (w' := wc.setCell ⟨g, 0, none⟩ (.int .i64 (min x.len left))) (by simp) HX.out.e (by decide) (by have := HCC0.out; omega) (fun b _ hn => setCells_other g b hn [_] 0 wc))
       replace HB := Lib.hid (HB.out.setCell (p := ⟨g, 0, none⟩) hgn (.int .i64 (min x.len left)))
       replace HS := Lib.hid (show g2 + 1 ≤ (wc.setCell ⟨g, 0, none⟩ (.int .i64 (min x.len left))).heap.size by rw [World.size_setCell]; exact HS.out)
       replace HX := Lib.hid (HX.out.set_len (min x.len left))
       clear x0 xf
       obtain ⟨w8, hw8⟩ : ∃ y, y = wc.setCell ⟨g, 0, none⟩ (.int .i64 (min x.len left)) := ⟨_, rfl⟩
       rw [← hw8] at HX HO HR HB HS HCX ⊢
       clear hw8
       obtain ⟨y, hy⟩ : ∃ y : Trk.Clip, y = { x with len := min x.len left } := ⟨_, rfl⟩
       rw [← hy] at HX
       have hyl : y.len = min x.len left := by rw [hy]
       have HY := Lib.hid hy
       rw [← hyl]
       have hx1 : 1 ≤ x.len ∧ x.len ≤ 2147483647 := by
        rw [HXX.out]
        split
        ·show 1 ≤ c.len - m ∧ c.len - m ≤ 2147483647
         have h := HJ.out.2.2
         have := (HV.out c (List.mem_of_getElem? h)).l1
         omega
        ·exact ⟨hd0, hd1⟩
       have hy1 : 1 ≤ y.len := by omega
       have hy2 : y.len ≤ left := by omega
       clear hy hyl hx1
       apply wp_region_lit
       iterate 3 go_step
       refine wpl_loadG HX.out.ga rfl rfl rfl ?_
       simp only [Act.put, List.setIfInBounds_toArray, List.set_cons_succ, List.set_cons_zero]
       obtain ⟨Y, hYY⟩ : ∃ Y, Y = (clipG y (.slice ay nx cy)).toArray := ⟨_, rfl⟩
       rw [← hYY]
       have HYY := Lib.hid hYY
       clear hYY
       refine Great.wpList_buildSliceTo rfl 22 48 1 #[(0, .tmp 75)] rfl w8.heap.size rfl _ rfl Tryz.underlying22 Y ?_ ?_
       ·simp only [List.map_toArray, List.map_cons, List.map_nil, List.toList_toArray]
        rw [HYY.out]
        exact built_clipG y _
       have hb : Below w8.heap.size w8 (w8.alloc (.cells Y 48)) := below_box _ _
       have hbx : TG (w8.alloc (.cells Y 48)) Cc (.slice (some ⟨w8.heap.size, 0, none⟩) 1 1) [y] := by rw [HYY.out]; exact (GB.box w8 y _).tg (show Ch _ Cc _ y.chan by rw [HY.out]; show Ch _ Cc _ x.chan; rw [HCN.out.1]; exact HCX.out.below (below_box _ _))
       replace HX := Lib.hid (HX.out.below hb)
       replace HR := Lib.hid (HR.out.up hb)
       replace HO := Lib.hid (HO.out.below hb)
       replace HB := Lib.hid (HB.out.trans (hb.mono HB.out.size))
       replace HS := Lib.hid (Nat.le_trans HS.out hb.size)
       clear hb
       simp only [Act.put, List.setIfInBounds_toArray, List.set_cons_succ, List.set_cons_zero]
       refine wpList_appG _ 22 22 Tryz.underlying22 Tryz.underlying22 rfl (.tmp 74) (.tmp 76) rfl (g2 + 1) Cc u9 _ acc [y] rfl rfl HO.out HS.out (by have := HCC0.out; omega) hbx (by show acc.length + 1 ≤ 1048576; omega) ?_
       intro v' w9 r1 r2 r3 r4
       simp only [Act.put, List.setIfInBounds_toArray, List.set_cons_succ, List.set_cons_zero]
       have HGL := Lib.hid HX.out.lt
       replace HX := Lib.hid (HX.out.same (r3 g HX.out.lt (fun g' cap' e => Nat.ne_of_gt (HGO.out g' _ cap' e))))
       replace HO := Lib.hid r1
       replace HR := Lib.hid (HR.out.below r2 (by omega) (by omega))
       replace HB := Lib.hid (HB.out.trans (r2.mono (by omega)))
       replace HS := Lib.hid (Nat.le_trans HS.out r4)
       clear r1 r2 r3 r4 hbx
       have x0 := HX.out.ga.at0.1
       have hraw : RAW = (acc ++ [y]) ++ Trk.cutRaw (l.drop (j + (k + 1))) 0 (left - y.len) := by
        rcases Nat.eq_zero_or_pos k with e | e
        ·subst e
         obtain ⟨ha, hb⟩ := HK0.out rfl
         have h := HJ.out
         have hy : y = Trk.withLen (Trk.shift c m) (min (c.len - m) left) := by rw [HY.out, HXX.out, if_pos rfl]; rfl
         have hn := HN.out
         have hyl : y.len = min (c.len - m) (b - a) := by rw [hy, hb]; rfl
         rw [HRAW.out, ha, hyl, hy, hb, hn, show a = Trk.total (l.take j) + m by omega]
         exact cutRaw_at HG.out h.2.2 hm0 hmc (by omega)
        ·have hx : x = d := by rw [HXX.out, if_neg (by omega)]
         have hjk := (List.getElem?_eq_some_iff.1 HD.out)
         have hdr : l.drop (j + k) = d :: l.drop (j + (k + 1)) := by
          obtain ⟨h1, h2⟩ := hjk
          rw [List.drop_eq_getElem_cons h1, h2, Nat.add_assoc]
         have hy : y = Trk.withLen d (min d.len left) := by rw [HY.out, hx]; rfl
         have hyl : y.len = min d.len left := by rw [hy]; rfl
         rw [HK1.out e, hdr, cutRaw_zero HVD.out.good hl1, hyl, hy, List.append_assoc]
         rfl
       have HRW := Lib.hid hraw
       clear hraw
       go_wp2_with fail
       refine ⟨⟨k + 1, acc ++ [y], left - y.len, by omega, by simp, rfl, by omega, by omega, Lib.hid (fun h => absurd h (by omega)), Lib.hid (fun _ => HRW.out), by simp; omega, HO.out, HR.out, HB.out, HS.out⟩, ?_⟩
       show M - (intOf (.int .i64 ((k : Int) + 1))).toNat < M - (intOf (.int .i64 (k : Int))).toNat
       simp [intOf]
       omega
     ·have hkM : k = M := by omega
      have hk0 : 0 < k := by omega
      have hcol : Col RAW acc left := by
       refine ⟨?_, by omega, left0, left1⟩
       rw [HK1.out hk0, List.drop_eq_nil_of_le (by have := HLe.out; omega)]
       rfl
      have HC := Lib.hid hcol
      have HO := Lib.hid ho
      have HR := Lib.hid hr
      have HB := Lib.hid hb
      have HS := Lib.hid hs
      clear HT hcol ho hr hb hs
      subst hkM
      go_wp2_with fail
      refine Met.intro (h1 _ _ ?_)
      (repeat apply Exists.intro)
      exact ⟨⟨acc, left, rfl, HC.out, HO.out, HR.out, HB.out, HS.out⟩, rfl⟩
   obtain ⟨acc, left, e8, hcol, ho, hr, hb, hs⟩ := hcut
   subst e8
   have HC := Lib.hid hcol
   have HO := Lib.hid ho
   clear HR HB HS
   have HR := Lib.hid hr
   have HB := Lib.hid hb
   have HS := Lib.hid hs
   clear hcol ho hr hb hs
   have HPK := Lib.hid (fun (l' : List Trk.Clip) v' w' (h : TG w' Cc v' l') (hV : VGL l') (hn : l'.length ≤ 1048576) (ht : Trk.total l' ≤ 4611686018427387904) => packg_any Cc v' l' w' h (fun c hc => (hV c hc).okg) hn ht)
   have hlf := HC.out.l
   have hlm := HC.out.m
   have han := HC.out.n
   have hrt : Trk.total RAW ≤ 2147483647 := by have := HRT.out; omega
   have hrn : RAW.length ≤ 65 := by have := HRL.out; omega
   have HRB := Lib.hid (And.intro hrt hrn)
   clear hrt hrn
   have hne12 : g1 ≠ g2 := by omega
   by_cases hlp : 0 < left
   ·go_upto_region 21 with fail
    apply wp_region_lit
    iterate 6 go_step
    iterate 3 go_step
    refine Great.wpList_buildSliceTo rfl 22 48 1 #[(0, .tmp 87)] rfl _ rfl _ rfl Tryz.underlying22 (clipG (Trk.gap left) (.slice none 0 0)).toArray ?_ ?_
    ·simp only [List.map_toArray, List.map_cons, List.map_nil, List.toList_toArray]
     exact built_clipG (Trk.gap left) _
    obtain ⟨WW, hWW⟩ : ∃ W : World, W = wc := ⟨_, rfl⟩
    rw [← hWW] at HR HO HB HS ⊢
    clear hWW
    have hb : Below WW.heap.size WW (WW.alloc (.cells (clipG (Trk.gap left) (.slice none 0 0)).toArray 48)) := below_box _ _
    have hbx : TG (WW.alloc (.cells (clipG (Trk.gap left) (.slice none 0 0)).toArray 48)) Cc (.slice (some ⟨WW.heap.size, 0, none⟩) 1 1) [Trk.gap left] := (GB.box WW (Trk.gap left) _).tg (Ch.nil _ _)
    replace HR := Lib.hid (HR.out.up hb)
    replace HO := Lib.hid (HO.out.below hb)
    replace HB := Lib.hid (HB.out.trans (hb.mono HB.out.size))
    replace HS := Lib.hid (Nat.le_trans HS.out hb.size)
    clear hb
    simp only [Act.put, List.setIfInBounds_toArray, List.set_cons_succ, List.set_cons_zero]
    refine wpList_appG _ 22 22 Tryz.underlying22 Tryz.underlying22 rfl (.tmp 85) (.tmp 88) rfl (g2 + 1) Cc u9 _ acc [Trk.gap left] rfl rfl HO.out HS.out (by have := HCC0.out; omega) hbx (by have h := congrArg List.length HC.out.e; have := HRB.out.2; rw [List.length_append] at h; show acc.length + 1 ≤ 1048576; omega) ?_
    intro v9 w9 q1 q2 q3 q4
    simp only [Act.put, List.setIfInBounds_toArray, List.set_cons_succ, List.set_cons_zero]
    replace HO := Lib.hid q1
    replace HR := Lib.hid (HR.out.below q2 (by omega) (by omega))
    replace HB := Lib.hid (HB.out.trans (q2.mono (by omega)))
    replace HS := Lib.hid (Nat.le_trans HS.out q4)
    clear q1 q2 q3 q4 hbx
    have HE := Lib.hid (show RAW = acc ++ [Trk.gap left] by have h := HC.out.e; rw [if_pos hlp] at h; exact h)
    go_wp2_with fail
    refine (HPK.out RAW _ _ (by rw [HE.out]; exact HO.out.tg) HRV.out (by have := HRB.out; omega) (by have := HRB.out; omega)).mono ?_
    rintro e w10 ⟨v', rfl, ho, hb⟩
    obtain ⟨ar, cr, rfl, hcr, hcr2, _⟩ := ho.tg
    obtain ⟨nr, hnr⟩ : ∃ nr, nr = (Trk.pk RAW).length := ⟨_, rfl⟩
    rw [← hnr] at ho hlen hcr ⊢
    replace HR := Lib.hid (HR.out.up hb)
    replace HB := Lib.hid (HB.out.trans (hb.mono HB.out.size))
    have HP := Lib.hid (ho.lower HS.out)
    clear ho hb hnr
    have r1 := HR.out.c1
    have r2 := HR.out.f1
    have r3 := HR.out.c2
    have r4 := HR.out.f2
    go_wp2_with fail
    refine leaves_cons (f := 67) (args := #[.pointer (some ⟨g1, 0, none⟩), .pointer (some ⟨g2, 0, none⟩)]) (by simp) (by simp [go_sem]) ?_
    refine (idle50 _ _ _).mono ?_
    rintro e u' w'' ⟨rfl, rfl, rfl⟩
    have hne21 : g2 ≠ g1 := hne12.symm
    simp [Leaves, settle, results, Tryz.results30, go_sem, r1, r3, hne12, hne21]
    exact ⟨(((HP.out.var1 HR.out (Nat.zero_le _) (by omega) _).var1 (HR.out.set1 hne12 _) (Nat.zero_le _) (by omega) _).var2 ((HR.out.set1 hne12 _).set1 hne12 _) (Nat.zero_le _) (by omega) _).lower (by omega),
     ((HB.out.setCell (p := ⟨g1, 0, none⟩) hn1 _).setCell (p := ⟨g1, 0, none⟩) hn1 _).setCell (p := ⟨g2, 0, none⟩) hn2 _⟩
   ·have HE := Lib.hid (show RAW = acc by have h := HC.out.e; rw [if_neg hlp, List.append_nil] at h; exact h)
    go_wp2_with fail
    refine (HPK.out RAW _ _ (by rw [HE.out]; exact HO.out.tg) HRV.out (by have := HRB.out; omega) (by have := HRB.out; omega)).mono ?_
    rintro e w10 ⟨v', rfl, ho, hb⟩
    obtain ⟨ar, cr, rfl, hcr, hcr2, _⟩ := ho.tg
    obtain ⟨nr, hnr⟩ : ∃ nr, nr = (Trk.pk RAW).length := ⟨_, rfl⟩
    rw [← hnr] at ho hlen hcr ⊢
    replace HR := Lib.hid (HR.out.up hb)
    replace HB := Lib.hid (HB.out.trans (hb.mono HB.out.size))
    have HP := Lib.hid (ho.lower HS.out)
    clear ho hb hnr
    have r1 := HR.out.c1
    have r2 := HR.out.f1
    have r3 := HR.out.c2
    have r4 := HR.out.f2
    go_wp2_with fail
    refine leaves_cons (f := 67) (args := #[.pointer (some ⟨g1, 0, none⟩), .pointer (some ⟨g2, 0, none⟩)]) (by simp) (by simp [go_sem]) ?_
    refine (idle50 _ _ _).mono ?_
    rintro e u' w'' ⟨rfl, rfl, rfl⟩
    have hne21 : g2 ≠ g1 := hne12.symm
    simp [Leaves, settle, results, Tryz.results30, go_sem, r1, r3, hne12, hne21]
    exact ⟨(((HP.out.var1 HR.out (Nat.zero_le _) (by omega) _).var1 (HR.out.set1 hne12 _) (Nat.zero_le _) (by omega) _).var2 ((HR.out.set1 hne12 _).set1 hne12 _) (Nat.zero_le _) (by omega) _).lower (by omega),
     ((HB.out.setCell (p := ⟨g1, 0, none⟩) hn1 _).setCell (p := ⟨g1, 0, none⟩) hn1 _).setCell (p := ⟨g2, 0, none⟩) hn2 _⟩
  ·have hn0 : n = 0 := by omega
   have hab : decide (a < b) = false := decide_eq_false (by have := HN.out; omega)
   have hcol : Col RAW [] (b - a) := by
    have h := HN.out
    refine ⟨?_, by simp, by omega, by omega⟩
    rw [if_neg (by omega), HRAW.out, cutRaw_done _ _ (by omega) n0 HG.out a0]
    rfl
   have HC := Lib.hid hcol
   clear ef hcol hm hc hat
   go_upto_if 46 with fail
   go_upto_region 20 with fail
   obtain ⟨acc, hacc⟩ : ∃ acc : List Trk.Clip, acc = [] := ⟨_, rfl⟩
   rw [← hacc] at HC
   have HO := Lib.hid (show OG w3 (g2 + 1) Cc (.slice none 0 0) acc by rw [hacc]; exact OG.nil _ _ _)
   clear hacc
   obtain ⟨left, hleft⟩ : ∃ left, left = b - a := ⟨_, rfl⟩
   rw [← hleft] at HC ⊢
   clear hleft hab
   have HPK := Lib.hid (fun (l' : List Trk.Clip) v' w' (h : TG w' Cc v' l') (hV : VGL l') (hn : l'.length ≤ 1048576) (ht : Trk.total l' ≤ 4611686018427387904) => packg_any Cc v' l' w' h (fun c hc => (hV c hc).okg) hn ht)
   have hlf := HC.out.l
   have hlm := HC.out.m
   have han := HC.out.n
   have hrt : Trk.total RAW ≤ 2147483647 := by have := HRT.out; omega
   have hrn : RAW.length ≤ 65 := by have := HRL.out; omega
   have HRB := Lib.hid (And.intro hrt hrn)
   clear hrt hrn
   have hne12 : g1 ≠ g2 := by omega
   by_cases hlp : 0 < left
   ·go_upto_region 21 with fail
    apply wp_region_lit
    iterate 6 go_step
    iterate 3 go_step
    refine Great.wpList_buildSliceTo rfl 22 48 1 #[(0, .tmp 87)] rfl _ rfl _ rfl Tryz.underlying22 (clipG (Trk.gap left) (.slice none 0 0)).toArray ?_ ?_
    ·simp only [List.map_toArray, List.map_cons, List.map_nil, List.toList_toArray]
     exact built_clipG (Trk.gap left) _
    obtain ⟨WW, hWW⟩ : ∃ W : World, W = w3 := ⟨_, rfl⟩
    rw [← hWW] at HR HO HB HS ⊢
    clear hWW
    have hb : Below WW.heap.size WW (WW.alloc (.cells (clipG (Trk.gap left) (.slice none 0 0)).toArray 48)) := below_box _ _
    have hbx : TG (WW.alloc (.cells (clipG (Trk.gap left) (.slice none 0 0)).toArray 48)) Cc (.slice (some ⟨WW.heap.size, 0, none⟩) 1 1) [Trk.gap left] := (GB.box WW (Trk.gap left) _).tg (Ch.nil _ _)
    replace HR := Lib.hid (HR.out.up hb)
    replace HO := Lib.hid (HO.out.below hb)
    replace HB := Lib.hid (HB.out.trans (hb.mono HB.out.size))
    replace HS := Lib.hid (Nat.le_trans HS.out hb.size)
    clear hb
    simp only [Act.put, List.setIfInBounds_toArray, List.set_cons_succ, List.set_cons_zero]
    refine wpList_appG _ 22 22 Tryz.underlying22 Tryz.underlying22 rfl (.tmp 85) (.tmp 88) rfl (g2 + 1) Cc (.slice none 0 0) _ acc [Trk.gap left] rfl rfl HO.out HS.out (by have := HCC0.out; omega) hbx (by have h := congrArg List.length HC.out.e; have := HRB.out.2; rw [List.length_append] at h; show acc.length + 1 ≤ 1048576; omega) ?_
    intro v9 w9 q1 q2 q3 q4
    simp only [Act.put, List.setIfInBounds_toArray, List.set_cons_succ, List.set_cons_zero]
    replace HO := Lib.hid q1
    replace HR := Lib.hid (HR.out.below q2 (by omega) (by omega))
    replace HB := Lib.hid (HB.out.trans (q2.mono (by omega)))
    replace HS := Lib.hid (Nat.le_trans HS.out q4)
    clear q1 q2 q3 q4 hbx
    have HE := Lib.hid (show RAW = acc ++ [Trk.gap left] by have h := HC.out.e; rw [if_pos hlp] at h; exact h)
    go_wp2_with fail
    refine (HPK.out RAW _ _ (by rw [HE.out]; exact HO.out.tg) HRV.out (by have := HRB.out; omega) (by have := HRB.out; omega)).mono ?_
    rintro e w10 ⟨v', rfl, ho, hb⟩
    obtain ⟨ar, cr, rfl, hcr, hcr2, _⟩ := ho.tg
    obtain ⟨nr, hnr⟩ : ∃ nr, nr = (Trk.pk RAW).length := ⟨_, rfl⟩
    rw [← hnr] at ho hlen hcr ⊢
    replace HR := Lib.hid (HR.out.up hb)
    replace HB := Lib.hid (HB.out.trans (hb.mono HB.out.size))
    have HP := Lib.hid (ho.lower HS.out)
    clear ho hb hnr
    have r1 := HR.out.c1
    have r2 := HR.out.f1
    have r3 := HR.out.c2
    have r4 := HR.out.f2
    go_wp2_with fail
    refine leaves_cons (f := 67) (args := #[.pointer (some ⟨g1, 0, none⟩), .pointer (some ⟨g2, 0, none⟩)]) (by simp) (by simp [go_sem]) ?_
    refine (idle50 _ _ _).mono ?_
    rintro e u' w'' ⟨rfl, rfl, rfl⟩
    have hne21 : g2 ≠ g1 := hne12.symm
    simp [Leaves, settle, results, Tryz.results30, go_sem, r1, r3, hne12, hne21]
    exact ⟨(((HP.out.var1 HR.out (Nat.zero_le _) (by omega) _).var1 (HR.out.set1 hne12 _) (Nat.zero_le _) (by omega) _).var2 ((HR.out.set1 hne12 _).set1 hne12 _) (Nat.zero_le _) (by omega) _).lower (by omega),
     ((HB.out.setCell (p := ⟨g1, 0, none⟩) hn1 _).setCell (p := ⟨g1, 0, none⟩) hn1 _).setCell (p := ⟨g2, 0, none⟩) hn2 _⟩
   ·have HE := Lib.hid (show RAW = acc by have h := HC.out.e; rw [if_neg hlp, List.append_nil] at h; exact h)
    go_wp2_with fail
    refine (HPK.out RAW _ _ (by rw [HE.out]; exact HO.out.tg) HRV.out (by have := HRB.out; omega) (by have := HRB.out; omega)).mono ?_
    rintro e w10 ⟨v', rfl, ho, hb⟩
    obtain ⟨ar, cr, rfl, hcr, hcr2, _⟩ := ho.tg
    obtain ⟨nr, hnr⟩ : ∃ nr, nr = (Trk.pk RAW).length := ⟨_, rfl⟩
    rw [← hnr] at ho hlen hcr ⊢
    replace HR := Lib.hid (HR.out.up hb)
    replace HB := Lib.hid (HB.out.trans (hb.mono HB.out.size))
    have HP := Lib.hid (ho.lower HS.out)
    clear ho hb hnr
    have r1 := HR.out.c1
    have r2 := HR.out.f1
    have r3 := HR.out.c2
    have r4 := HR.out.f2
    go_wp2_with fail
    refine leaves_cons (f := 67) (args := #[.pointer (some ⟨g1, 0, none⟩), .pointer (some ⟨g2, 0, none⟩)]) (by simp) (by simp [go_sem]) ?_
    refine (idle50 _ _ _).mono ?_
    rintro e u' w'' ⟨rfl, rfl, rfl⟩
    have hne21 : g2 ≠ g1 := hne12.symm
    simp [Leaves, settle, results, Tryz.results30, go_sem, r1, r3, hne12, hne21]
    exact ⟨(((HP.out.var1 HR.out (Nat.zero_le _) (by omega) _).var1 (HR.out.set1 hne12 _) (Nat.zero_le _) (by omega) _).var2 ((HR.out.set1 hne12 _).set1 hne12 _) (Nat.zero_le _) (by omega) _).lower (by omega),
     ((HB.out.setCell (p := ⟨g1, 0, none⟩) hn1 _).setCell (p := ⟨g1, 0, none⟩) hn1 _).setCell (p := ⟨g2, 0, none⟩) hn2 _⟩
 ·have ef := findL_none (l := l) (n := a) (i := 0) HG.out (by omega)
  rw [ef]
  simp only [findV]
  have hcol : Col RAW [] (b - a) := by
   have h := HN.out
   refine ⟨?_, by simp, by omega, by omega⟩
   rw [HRAW.out, cutRaw_out HG.out (by omega) n0, ← h]
   rfl
  have HC := Lib.hid hcol
  clear ef hcol hat
  go_upto_if 46 with fail
  go_upto_region 20 with fail
  obtain ⟨acc, hacc⟩ : ∃ acc : List Trk.Clip, acc = [] := ⟨_, rfl⟩
  rw [← hacc] at HC
  have HO := Lib.hid (show OG w3 (g2 + 1) Cc (.slice none 0 0) acc by rw [hacc]; exact OG.nil _ _ _)
  clear hacc
  obtain ⟨left, hleft⟩ : ∃ left, left = b - a := ⟨_, rfl⟩
  rw [← hleft] at HC ⊢
  clear hleft
  have HPK := Lib.hid (fun (l' : List Trk.Clip) v' w' (h : TG w' Cc v' l') (hV : VGL l') (hn : l'.length ≤ 1048576) (ht : Trk.total l' ≤ 4611686018427387904) => packg_any Cc v' l' w' h (fun c hc => (hV c hc).okg) hn ht)
  have hlf := HC.out.l
  have hlm := HC.out.m
  have han := HC.out.n
  have hrt : Trk.total RAW ≤ 2147483647 := by have := HRT.out; omega
  have hrn : RAW.length ≤ 65 := by have := HRL.out; omega
  have HRB := Lib.hid (And.intro hrt hrn)
  clear hrt hrn
  have hne12 : g1 ≠ g2 := by omega
  by_cases hlp : 0 < left
  ·go_upto_region 21 with fail
   apply wp_region_lit
   iterate 6 go_step
   iterate 3 go_step
   refine Great.wpList_buildSliceTo rfl 22 48 1 #[(0, .tmp 87)] rfl _ rfl _ rfl Tryz.underlying22 (clipG (Trk.gap left) (.slice none 0 0)).toArray ?_ ?_
   ·simp only [List.map_toArray, List.map_cons, List.map_nil, List.toList_toArray]
    exact built_clipG (Trk.gap left) _
   obtain ⟨WW, hWW⟩ : ∃ W : World, W = w3 := ⟨_, rfl⟩
   rw [← hWW] at HR HO HB HS ⊢
   clear hWW
   have hb : Below WW.heap.size WW (WW.alloc (.cells (clipG (Trk.gap left) (.slice none 0 0)).toArray 48)) := below_box _ _
   have hbx : TG (WW.alloc (.cells (clipG (Trk.gap left) (.slice none 0 0)).toArray 48)) Cc (.slice (some ⟨WW.heap.size, 0, none⟩) 1 1) [Trk.gap left] := (GB.box WW (Trk.gap left) _).tg (Ch.nil _ _)
   replace HR := Lib.hid (HR.out.up hb)
   replace HO := Lib.hid (HO.out.below hb)
   replace HB := Lib.hid (HB.out.trans (hb.mono HB.out.size))
   replace HS := Lib.hid (Nat.le_trans HS.out hb.size)
   clear hb
   simp only [Act.put, List.setIfInBounds_toArray, List.set_cons_succ, List.set_cons_zero]
   refine wpList_appG _ 22 22 Tryz.underlying22 Tryz.underlying22 rfl (.tmp 85) (.tmp 88) rfl (g2 + 1) Cc (.slice none 0 0) _ acc [Trk.gap left] rfl rfl HO.out HS.out (by have := HCC0.out; omega) hbx (by have h := congrArg List.length HC.out.e; have := HRB.out.2; rw [List.length_append] at h; show acc.length + 1 ≤ 1048576; omega) ?_
   intro v9 w9 q1 q2 q3 q4
   simp only [Act.put, List.setIfInBounds_toArray, List.set_cons_succ, List.set_cons_zero]
   replace HO := Lib.hid q1
   replace HR := Lib.hid (HR.out.below q2 (by omega) (by omega))
   replace HB := Lib.hid (HB.out.trans (q2.mono (by omega)))
   replace HS := Lib.hid (Nat.le_trans HS.out q4)
   clear q1 q2 q3 q4 hbx
   have HE := Lib.hid (show RAW = acc ++ [Trk.gap left] by have h := HC.out.e; rw [if_pos hlp] at h; exact h)
   go_wp2_with fail
   refine (HPK.out RAW _ _ (by rw [HE.out]; exact HO.out.tg) HRV.out (by have := HRB.out; omega) (by have := HRB.out; omega)).mono ?_
   rintro e w10 ⟨v', rfl, ho, hb⟩
   obtain ⟨ar, cr, rfl, hcr, hcr2, _⟩ := ho.tg
   obtain ⟨nr, hnr⟩ : ∃ nr, nr = (Trk.pk RAW).length := ⟨_, rfl⟩
   rw [← hnr] at ho hlen hcr ⊢
   replace HR := Lib.hid (HR.out.up hb)
   replace HB := Lib.hid (HB.out.trans (hb.mono HB.out.size))
   have HP := Lib.hid (ho.lower HS.out)
   clear ho hb hnr
   have r1 := HR.out.c1
   have r2 := HR.out.f1
   have r3 := HR.out.c2
   have r4 := HR.out.f2
   go_wp2_with fail
   refine leaves_cons (f := 67) (args := #[.pointer (some ⟨g1, 0, none⟩), .pointer (some ⟨g2, 0, none⟩)]) (by simp) (by simp [go_sem]) ?_
   refine (idle50 _ _ _).mono ?_
   rintro e u' w'' ⟨rfl, rfl, rfl⟩
   have hne21 : g2 ≠ g1 := hne12.symm
   simp [Leaves, settle, results, Tryz.results30, go_sem, r1, r3, hne12, hne21]
   exact ⟨(((HP.out.var1 HR.out (Nat.zero_le _) (by omega) _).var1 (HR.out.set1 hne12 _) (Nat.zero_le _) (by omega) _).var2 ((HR.out.set1 hne12 _).set1 hne12 _) (Nat.zero_le _) (by omega) _).lower (by omega),
    ((HB.out.setCell (p := ⟨g1, 0, none⟩) hn1 _).setCell (p := ⟨g1, 0, none⟩) hn1 _).setCell (p := ⟨g2, 0, none⟩) hn2 _⟩
  ·have HE := Lib.hid (show RAW = acc by have h := HC.out.e; rw [if_neg hlp, List.append_nil] at h; exact h)
   go_wp2_with fail
   refine (HPK.out RAW _ _ (by rw [HE.out]; exact HO.out.tg) HRV.out (by have := HRB.out; omega) (by have := HRB.out; omega)).mono ?_
   rintro e w10 ⟨v', rfl, ho, hb⟩
   obtain ⟨ar, cr, rfl, hcr, hcr2, _⟩ := ho.tg
   obtain ⟨nr, hnr⟩ : ∃ nr, nr = (Trk.pk RAW).length := ⟨_, rfl⟩
   rw [← hnr] at ho hlen hcr ⊢
   replace HR := Lib.hid (HR.out.up hb)
   replace HB := Lib.hid (HB.out.trans (hb.mono HB.out.size))
   have HP := Lib.hid (ho.lower HS.out)
   clear ho hb hnr
   have r1 := HR.out.c1
   have r2 := HR.out.f1
   have r3 := HR.out.c2
   have r4 := HR.out.f2
   go_wp2_with fail
   refine leaves_cons (f := 67) (args := #[.pointer (some ⟨g1, 0, none⟩), .pointer (some ⟨g2, 0, none⟩)]) (by simp) (by simp [go_sem]) ?_
   refine (idle50 _ _ _).mono ?_
   rintro e u' w'' ⟨rfl, rfl, rfl⟩
   have hne21 : g2 ≠ g1 := hne12.symm
   simp [Leaves, settle, results, Tryz.results30, go_sem, r1, r3, hne12, hne21]
   exact ⟨(((HP.out.var1 HR.out (Nat.zero_le _) (by omega) _).var1 (HR.out.set1 hne12 _) (Nat.zero_le _) (by omega) _).var2 ((HR.out.set1 hne12 _).set1 hne12 _) (Nat.zero_le _) (by omega) _).lower (by omega),
    ((HB.out.setCell (p := ⟨g1, 0, none⟩) hn1 _).setCell (p := ⟨g1, 0, none⟩) hn1 _).setCell (p := ⟨g2, 0, none⟩) hn2 _⟩
theorem okCut_out : ∀ {l : List Trk.Clip} {a : Int}, Trk.GoodL l → Trk.total l ≤ a → okCut l a
 | [], _, _, _ => trivial
 | c :: l, a, g, h => by
  rw [Trk.total_cons] at h
  have := Trk.total_nonneg g.tail
  unfold okCut
  rw [if_pos (by omega)]
  exact okCut_out g.tail (by omega)
set_option maxRecDepth 100000 in
set_option maxHeartbeats 16000000 in
theorem cutg_bad (D0 : Nat) (v : Value) (l : List Trk.Clip) (a b : Int) (w : World) (h : TG w D0 v l) (hV : TV l) (a0 : 0 ≤ a) (ab : a < b) (b1 : b ≤ 2147483647) (hbad : ¬ okCut l a) :
  Calls Tryz.prog 30 #[v, .int .i64 a, .int .i64 b] w fun e w' => e = .returned (.tuple #[.slice none 0 0, .int .i64 2]) ∧ Below w.heap.size w w' := by
 replace h := h.base
 obtain ⟨Cc, hCc⟩ : ∃ C, C = w.heap.size := ⟨_, rfl⟩
 rw [← hCc] at h
 obtain ⟨ao, cap, rfl, hc1, hc2, hT⟩ := h
 have HT := Lib.hid (show TG w Cc (.slice ao l.length cap) l from ⟨ao, cap, rfl, hc1, hc2, hT⟩)
 clear hT
 have HVT := Lib.hid (fun w (h : TG w Cc (.slice ao l.length cap) l) => vtrackg_yes Cc _ l w h hV)
 have HFI := Lib.hid (fun w (h : TG w Cc (.slice ao l.length cap) l) => findg_any Cc _ l a w h hV a0 (by omega))
 have HV := Lib.hid hV.l
 have HG := Lib.hid hV.good
 have hl := hV.n
 obtain ⟨N, hN⟩ : ∃ N, N = l.length := ⟨_, rfl⟩
 rw [← hN] at hl hc1 HFI HVT HT ⊢
 have HLe := Lib.hid hN
 have HBAD := Lib.hid hbad
 clear hV hN hc2 hbad
 go_enter_defers Tryz.func30, Tryz.ntmps30
 go_upto_region 2 with fail
 obtain ⟨w1, hw1⟩ : ∃ x, x = (w.alloc (.cells #[.slice none 0 0] 23)).alloc (.cells #[.int .i64 0] 30) := ⟨_, rfl⟩
 rw [← hw1]
 have hE1 : Below w.heap.size w w1 := by rw [hw1]; go_grown
 obtain ⟨g1, hg1⟩ : ∃ g, g = w.heap.size := ⟨_, rfl⟩
 obtain ⟨g2, hg2⟩ : ∃ g, g = w.heap.size + 1 := ⟨_, rfl⟩
 have hr : RG w1 g1 g2 (.slice none 0 0) (.int .i64 0) := by
  rw [hw1, hg1, hg2]
  refine ⟨?_, ?_⟩
  ·rw [(below_box (w.alloc (.cells #[.slice none 0 0] 23)) _).block _ (by simp)]
   exact (MapKept.heap_alloc w _).1
  ·have := (MapKept.heap_alloc (w.alloc (.cells #[.slice none 0 0] 23)) (.cells #[.int .i64 0] 30)).1
   rw [show (w.alloc (.cells #[.slice none 0 0] 23)).heap.size = w.heap.size + 1 by simp] at this
   exact this
 have hz : w1.heap.size = g2 + 1 := by rw [hw1, hg2]; simp [go_sem]
 rw [← hg2, ← hg1]
 have hn1 : w.heap.size ≤ g1 := by omega
 have HCC0 := Lib.hid (show Cc ≤ g1 ∧ Cc ≤ g2 by omega)
 have hn2 : w.heap.size ≤ g2 := by omega
 have h12 : g1 < g2 := by omega
 have HR := Lib.hid hr
 have HB := Lib.hid hE1
 have HS := Lib.hid (Nat.le_of_eq hz.symm)
 clear hw1 hE1 hg1 hg2 hr hz
 go_wp2_with fail
 refine (HVT.out _ (HT.out.below HB.out)).mono ?_
 rintro e w2 ⟨rfl, hb⟩
 replace HR := Lib.hid (HR.out.up hb)
 replace HB := Lib.hid (HB.out.trans (hb.mono HB.out.size))
 replace HS := Lib.hid (Nat.le_trans HS.out hb.size)
 clear hb HVT
 go_wp2_with fail
 refine (HFI.out _ (HT.out.below HB.out)).mono ?_
 rintro e w3 ⟨rfl, hb⟩
 replace HR := Lib.hid (HR.out.up hb)
 replace HB := Lib.hid (HB.out.trans (hb.mono HB.out.size))
 replace HS := Lib.hid (Nat.le_trans HS.out hb.size)
 clear hb HFI
 obtain ⟨n, hn⟩ : ∃ n, n = b - a := ⟨_, rfl⟩
 have n0 : 0 ≤ n := by omega
 have n1 : n ≤ 2147483647 := by omega
 have HN := Lib.hid hn
 clear hn
 have hat : a < Trk.total l := by
  rcases Int.lt_or_le a (Trk.total l) with h | h
  ·exact h
  ·exact absurd (okCut_out HG.out h) HBAD.out
 ·obtain ⟨xzx, hxzx⟩ : ∃ y : Nat, y = 0 := ⟨_, rfl⟩
  clear hxzx xzx
  obtain ⟨j, m, ef, hj, hm0, hm, c, hc, hmc⟩ := findL_some (l := l) (n := a) (i := 0) a0 hat
  rw [ef]
  simp only [findV, Nat.zero_add]
  rw [← HLe.out] at hj
  have hnz : 0 < n := by have := HN.out; omega
  ·have hnz' : 0 < b - a := by have := HN.out; omega
   obtain ⟨ao', cap', e, _, _, hT⟩ := HT.out
   simp only [Value.slice.injEq] at e
   obtain ⟨rfl, eN, rfl⟩ := e
   clear eN
   obtain ⟨bb, oo, _, rfl, _⟩ := hT j c hc
   clear hT
   have HJ := Lib.hid (And.intro ef (And.intro hm hc))
   clear ef hm hc hat
   have hab : decide (a < b) = true := decide_eq_true (by omega)
   go_upto_if 46 with fail
   have hjc : (j : Int) < (cap : Int) := by omega
   go_wp2_with fail
   obtain ⟨M, hM⟩ : ∃ M, M = N - j := ⟨_, rfl⟩
   rw [← hM]
   have hMb : M ≤ 64 := by omega
   have hM0 : (0 : Int) < (M : Int) := by omega
   have HM := Lib.hid hM
   clear hM
   go_loopw [8, 9, 51] (fun v8 v9 v51 wr => v51 = .int .i64 0 ∧ v8 = .int .i64 (b - a) ∧ v9 = .slice none 0 0 ∧ RG wr g1 g2 (.slice none 0 0) (.int .i64 0) ∧ Below w.heap.size w wr ∧ g2 + 1 ≤ wr.heap.size) (fun _ _ _ _ => 0)
   case atStart => exact ⟨rfl, rfl, rfl, HR.out, HB.out, HS.out⟩
   case round =>
    clear HR HB HS
    obtain ⟨rfl, rfl, rfl, hr, hb, hs⟩ := hrel
    obtain ⟨d, hd⟩ : ∃ d, l[j]? = some d := ⟨c, HJ.out.2.2⟩
    obtain ⟨ao', cap', e, _, _, hT⟩ := HT.out.below hb
    simp only [Value.slice.injEq] at e
    obtain ⟨e1, eN, rfl⟩ := e
    clear eN
    subst e1
    obtain ⟨bb', oo', xd, e, hA, hX⟩ := hT j d hd
    obtain ⟨ax, cx, ex⟩ := hX.form
    obtain ⟨nx, hnx⟩ : ∃ n, n = d.chan.length := ⟨_, rfl⟩
    rw [← hnx] at ex
    subst ex
    have HCX := Lib.hid hX
    simp only [Option.some.injEq, Addr.mk.injEq, and_true] at e
    obtain ⟨rfl, rfl⟩ := e
    have hvd := HV.out d (List.mem_of_getElem? hd)
    have HA := Lib.hid hA
    have HR := Lib.hid hr
    have HB := Lib.hid hb
    have HS := Lib.hid hs
    have HD := Lib.hid hd
    have HVD := Lib.hid hvd
    have hdc : d = c := by
     have h := HD.out
     rw [HJ.out.2.2] at h
     exact (Option.some.inj h).symm
    clear hT hA hr hb hs hd hvd hX
    go_upto_region 10 with fail
    apply wp_region_lit
    iterate 6 go_step
    refine wpl_loadG HA.out rfl rfl rfl ?_
    refine wpl_allocB rfl rfl (fun w4 hg hb2 hs2 => ?_)
    obtain ⟨g, hgg⟩ : ∃ g, g = wr.heap.size := ⟨_, rfl⟩
    rw [← hgg] at hg ⊢
    have hgn : w.heap.size ≤ g := by rw [hgg]; exact HB.out.size
    have hg1 : g1 < g := by have := HR.out.lt1; omega
    have hg2 : g2 < g := by have := HR.out.lt2; omega
    have HBX := Lib.hid (And.intro hb2 hgg)
    clear hb2 hs2 hgg HA
    obtain ⟨D, hD⟩ : ∃ D, D = (clipG d (.slice ax nx cx)).toArray := ⟨_, rfl⟩
    rw [← hD]
    have HDD := Lib.hid hD
    clear hD
    simp only [Act.put, List.setIfInBounds_toArray, List.set_cons_succ, List.set_cons_zero]
    iterate 3 go_step
    refine wpl_storeB2 d ax nx cx hg rfl rfl rfl (by rw [← HDD.out]; rfl) ?_
    intro w5 hv ho3 hs3 hb3
    have hbw : Below wr.heap.size wr w5 := hb3 _ _ (Nat.le_of_eq HBX.out.2.symm) HBX.out.1
    replace HR := Lib.hid (HR.out.up hbw)
    replace HB := Lib.hid (HB.out.trans (hbw.mono HB.out.size))
    replace HS := Lib.hid (Nat.le_trans HS.out hbw.size)
    replace HCX := Lib.hid (HCX.out.below hbw)
    have HX := Lib.hid hv
    clear hv ho3 hs3 hb3 hbw HBX hg
    simp only [Act.put, List.setIfInBounds_toArray, List.set_cons_succ, List.set_cons_zero]
    have hlb : ((b - a) == 0) = false := by
     have : b - a ≠ 0 := by omega
     simpa using this
    subst hdc
    have hpl : (plB (Trk.moved d.a m) && plB (Trk.moved d.b m)) = false := by
     have h1 := HBAD.out
     have h := HJ.out
     rw [show a = Trk.total (l.take j) + m by omega, okCut_at HG.out h.2.2 hm0 hmc] at h1
     by_cases hp : PlOK (Trk.moved d.a m)
     ·by_cases hq : PlOK (Trk.moved d.b m)
      ·exact absurd ⟨hp, hq⟩ h1
      ·rw [plB_no hq, Bool.and_false]
     ·rw [plB_no hp, Bool.false_and]
    have HAD := Lib.hid (fun (w1 : World) (hi : IT w1 (.slice ax nx cx) d.chan) => advanceg_any d (.slice ax nx cx) m w1 hi HVD.out hm0 hmc)
    unfold AdvPost at HAD
    rw [hpl] at HAD
    clear hpl
    unfold clipGV at HAD
    rw [← HDD.out] at HAD
    go_upto_region 13 with fail
    apply wp_region_lit
    refine wpl_loadG HX.out.ga rfl rfl rfl ?_
    rw [← HDD.out]
    simp only [Act.put, List.setIfInBounds_toArray, List.set_cons_succ, List.set_cons_zero]
    go_wp2_with fail
    refine (HAD.out _ HCX.out.it).mono ?_
    rintro e w6 ⟨hzz, hb⟩
    rcases hzz with ⟨hbad, -⟩ | hzz
    ·cases hbad
    obtain ⟨-, rfl⟩ := hzz
    replace HX := Lib.hid (HX.out.below hb)
    replace HR := Lib.hid (HR.out.up hb)
    replace HB := Lib.hid (HB.out.trans (hb.mono HB.out.size))
    replace HS := Lib.hid (Nat.le_trans HS.out hb.size)
    clear hb
    dsimp only
    iterate 10 go_step
    refine wpl_storeB2 (Trk.gap 0) none 0 0 HX.out rfl rfl rfl rfl ?_
    intro w7 hv ho3 hs3 hb3
    have hbw : Below g w6 w7 := hb3 _ _ (Nat.le_refl _) (Below.refl _ _)
    replace HR := Lib.hid (HR.out.below hbw hg1 hg2)
    replace HB := Lib.hid (hb3 _ _ hgn HB.out)
    replace HS := Lib.hid (Nat.le_trans HS.out hbw.size)
    clear hv ho3 hs3 hb3 hbw HX HCX
    simp only [Act.put, List.setIfInBounds_toArray, List.set_cons_succ, List.set_cons_zero]
    have y2 := HR.out.c2
    have f2 := HR.out.f2
    go_upto_region 15 with fail
    have hne12 : g1 ≠ g2 := by omega
    have hne21 : g2 ≠ g1 := hne12.symm
    replace HR := Lib.hid (HR.out.set2 hne12 (.int .i64 2))
    replace HB := Lib.hid (HB.out.setCell (p := ⟨g2, 0, none⟩) hn2 (.int .i64 2))
    clear y2 f2
    obtain ⟨w8, hw8⟩ : ∃ y, y = w7.setCell ⟨g2, 0, none⟩ (.int .i64 2) := ⟨_, rfl⟩
    rw [← hw8] at HR HB ⊢
    clear hw8
    refine Plan.wp_region_planz (fun w' => RG w' g1 g2 (.slice none 0 0) (.int .i64 2)) 2 (([0].map (·, true)) ++ (([1].map (·, false)) ++ ([2].map (·, false)))) (by kernel_rfl) (by kernel_rfl) (by kernel_rfl) (HR.out.up (Below.refl _ _).drew) ?_
    refine' Plan.plan_seg _ [0] (([1].map (·, false)) ++ ([2].map (·, false))) (by kernel_rfl) (by kernel_rfl) rfl (by exact HR.out.up (Below.refl _ _).drew) (fun wx hS => ?_) ?_
    rotate_left
    ·have y2 := hS.c2
     clear hS
     go_light
     iterate 1 (apply Plan.seg_pick; rfl; intro K hK; go_wp)
     exact Plan.seg_nil
    obtain ⟨w9, hw9⟩ : ∃ x, x = w8.drew := ⟨_, rfl⟩
    rw [← hw9]
    have hb : Below w8.heap.size w8 w9 := by rw [hw9]; exact (Below.refl _ _).drew
    replace HR := Lib.hid (HR.out.up hb)
    replace HB := Lib.hid (HB.out.trans (hb.mono HB.out.size))
    clear hb hw9
    refine Plan.plan_of_effect rfl (fun K hK => ?_)
    have y1 := HR.out.c1
    have f1 := HR.out.f1
    go_wp2_with fail
    replace HR := Lib.hid (HR.out.set1 hne12 (.slice none 0 0))
    replace HB := Lib.hid (HB.out.setCell (p := ⟨g1, 0, none⟩) hn1 (.slice none 0 0))
    clear y1 f1
    obtain ⟨w10, hw10⟩ : ∃ y, y = w9.setCell ⟨g1, 0, none⟩ (.slice none 0 0) := ⟨_, rfl⟩
    rw [← hw10] at HR HB ⊢
    clear hw10
    refine ⟨HR.out, ?_⟩
    refine Plan.plan_of_last rfl (fun K hK => ?_)
    have y2 := HR.out.c2
    have f2 := HR.out.f2
    go_wp2_with fail
    replace HR := Lib.hid (HR.out.set2 hne12 (.int .i64 2))
    replace HB := Lib.hid (HB.out.setCell (p := ⟨g2, 0, none⟩) hn2 (.int .i64 2))
    clear y2 f2
    obtain ⟨w11, hw11⟩ : ∃ y, y = w10.setCell ⟨g2, 0, none⟩ (.int .i64 2) := ⟨_, rfl⟩
    rw [← hw11] at HR HB ⊢
    clear hw11
    refine Plan.plan_done ?_
    have r1 := HR.out.c1
    have r3 := HR.out.c2
    go_wp2_with fail
    refine leaves_cons (f := 67) (args := #[.pointer (some ⟨g1, 0, none⟩), .pointer (some ⟨g2, 0, none⟩)]) (by simp) (by simp [go_sem]) ?_
    refine (idle50 _ _ _).mono ?_
    rintro e u' w'' ⟨rfl, rfl, rfl⟩
    simp [Leaves, settle, results, Tryz.results30, go_sem, r1, r3, hne12, hne21]
    exact HB.out
def CutGPost (w : World) (l : List Trk.Clip) (a b : Int) (e : Ending) (w' : World) : Prop :=
 ((okCut l a ∧ ∃ v', e = .returned (.tuple #[v', .int .i64 0]) ∧ OG w' w.heap.size 0 v' (Trk.cut l a b)) ∨ (¬ okCut l a ∧ e = .returned (.tuple #[.slice none 0 0, .int .i64 2]))) ∧ Below w.heap.size w w'
theorem cutg_any (D0 : Nat) (v : Value) (l : List Trk.Clip) (a b : Int) (w : World) (h : TG w D0 v l) (hV : TV l) (a0 : 0 ≤ a) (ab : a < b) (b1 : b ≤ 2147483647) (hlen : (Trk.cut l a b).length ≤ 64) :
  Calls Tryz.prog 30 #[v, .int .i64 a, .int .i64 b] w (CutGPost w l a b) := by
 by_cases ho : okCut l a
 ·exact (cutg_ok D0 v l a b w h hV a0 (Int.le_of_lt ab) b1 hlen (.inl ho)).mono fun e w' ⟨v', he, hog, hb⟩ => ⟨.inl ⟨ho, v', he, hog⟩, hb⟩
 ·exact (cutg_bad D0 v l a b w h hV a0 ab b1 ho).mono fun e w' ⟨he, hb⟩ => ⟨.inr ⟨ho, he⟩, hb⟩
end Go.Proofs.YtfoohocgdcgbcaaGreat
