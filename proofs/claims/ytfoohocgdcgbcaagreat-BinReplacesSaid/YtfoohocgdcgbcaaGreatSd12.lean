/- Texts of this claim joined: QB QC WN XA ZA. -/
import Derived.Test.YtfoohocgdcgbcaaGreatSd05
import Derived.Test.YtfoohocgdcgbcaaGreatSd06
import Derived.Test.YtfoohocgdcgbcaaGreatSd11
set_option linter.unusedVariables false
set_option linter.unusedSimpArgs false

/- Same, a track cloned, Merge by its shortcuts. -/
namespace Go.Proofs.YtfoohocgdcgbcaaGreat
open Go.RowKit
set_option linter.unusedVariables false
set_option linter.unusedSimpArgs false
theorem take_ne {α : Type} {l m : List α} {k : Nat} {c d : α} (hc : l[k]? = some c) (hd : m[k]? = some d) (h : c ≠ d) : l ≠ m := fun e => by
  subst e
  rw [hc] at hd
  exact h (by simpa using hd)
theorem take_eq {α : Type} {l m : List α} {k : Nat} {c : α} (hc : l[k]? = some c) (hd : m[k]? = some c) (h : l.take k = m.take k) : l.take (k + 1) = m.take (k + 1) := by
  rw [List.take_add_one, List.take_add_one, h, hc, hd]
set_option maxRecDepth 100000 in
set_option maxHeartbeats 8000000 in
theorem eqfunc_any (v u : Value) (l m : List Trk.Clip) (w : World) (h : Tk w v l) (h' : Tk w u m) (hl : ∀ c ∈ l, c.chan = []) (hm : ∀ c ∈ m, c.chan = []) :
    Calls Tryz.prog 65 #[v, u, .func (.func 66) #[] #[]] w fun e w' => e = .returned (.bool (decide (l = m))) ∧ Below w.heap.size w w' := by
  have HT := Lib.hid h
  have HU := Lib.hid h'
  obtain ⟨ao, cap, rfl, hc1, hc2, -⟩ := h
  obtain ⟨bo, dap, rfl, hd1, hd2, -⟩ := h'
  have HL := Lib.hid hl
  have HM := Lib.hid hm
  obtain ⟨N, hN⟩ : ∃ N, N = l.length := ⟨_, rfl⟩
  obtain ⟨M, hM⟩ : ∃ M, M = m.length := ⟨_, rfl⟩
  have hNm : N ≤ 9223372036854775807 := by unfold maxLen at hc2; omega
  have hMm : M ≤ 9223372036854775807 := by unfold maxLen at hd2; omega
  rw [← hN, ← hM]
  rw [← hN] at HT
  rw [← hM] at HU
  have HN := Lib.hid hN
  have HMM := Lib.hid hM
  clear hl hm hN hM hc1 hc2 hd1 hd2
  by_cases hlen : N = M
  rotate_left
  · have hne : decide (l = m) = false := decide_eq_false fun e => hlen (by rw [HN.out, HMM.out, e])
    rw [hne]
    have z1 : ((N : Int) == (M : Int)) = false := by simp; omega
    have z2 : ((N : Int) != (M : Int)) = true := by simp; omega
    have z3 : ¬ ((N : Int) = (M : Int)) := by omega
    go_enter Tryz.func65, Tryz.ntmps65
    go_wp2_with fail
    go_ret
    exact ⟨rfl, Below.refl _ _⟩
  subst hlen
  obtain ⟨r, hr⟩ : ∃ r, r = decide (l = m) := ⟨_, rfl⟩
  have HR := Lib.hid hr
  rw [← hr]
  clear hr
  go_enter Tryz.func65, Tryz.ntmps65
  go_upto_region 4 with fail
  go_loopw [17] (fun i wr => ∃ k : Nat, k ≤ N ∧ i = .int .i64 (k : Int) ∧ l.take k = m.take k ∧ Below w.heap.size w wr) (fun i _ => N - (intOf i).toNat)
  case atStart => exact ⟨0, Nat.zero_le _, rfl, by simp, Below.refl _ _⟩
  case round =>
    obtain ⟨k, hk, rfl, hpre, hb⟩ := hrel
    have HP := Lib.hid hpre
    have HB := Lib.hid hb
    clear hpre hb
    by_cases hlt : k < N
    · have hlt' : (k : Int) < (N : Int) := by omega
      obtain ⟨c, hc⟩ : ∃ c, l[k]? = some c := ⟨_, List.getElem?_eq_getElem (by have := HN.out; omega)⟩
      obtain ⟨d, hd⟩ : ∃ d, m[k]? = some d := ⟨_, List.getElem?_eq_getElem (by have := HMM.out; omega)⟩
      obtain ⟨ao', cap', e, _, _, hT⟩ := HT.out.below HB.out
      have e1 := HN.out
      simp only [Value.slice.injEq] at e
      obtain ⟨rfl, -, rfl⟩ := e
      obtain ⟨b, o, rfl, hA⟩ := hT k c hc
      obtain ⟨bo', dap', e, _, _, hU⟩ := HU.out.below HB.out
      simp only [Value.slice.injEq] at e
      obtain ⟨rfl, -, rfl⟩ := e
      obtain ⟨b2, o2, rfl, hA2⟩ := hU k d hd
      have HA := Lib.hid hA
      have HA2 := Lib.hid hA2
      have HQ := Lib.hid (And.intro hc hd)
      have HEQ := Lib.hid (fun w => equal_any c d w (HL.out c (List.mem_of_getElem? hc)) (HM.out d (List.mem_of_getElem? hd)))
      unfold clipV at HEQ
      obtain ⟨C, hC⟩ : ∃ C, C = (clipC c).toArray := ⟨_, rfl⟩
      obtain ⟨D, hD⟩ : ∃ D, D = (clipC d).toArray := ⟨_, rfl⟩
      rw [← hC, ← hD] at HEQ
      have HC := Lib.hid hC
      have HD := Lib.hid hD
      clear hT hU hA hA2 hc hd e1 hC hD
      go_upto_region 5 with fail
      apply wp_region_lit
      iterate 6 go_step
      refine wpl_load HA.out rfl rfl rfl ?_
      rw [← HC.out]
      refine wpl_alloc rfl rfl (fun w3 hcv hb3 hs3 => ?_)
      iterate 3 go_step
      refine wpl_store c hcv rfl rfl rfl (by rw [← HC.out]; rfl) ?_
      intro w4 hv4 ho4 hb4
      have hb : Below wr.heap.size wr w4 := hb4 _ _ (Nat.le_refl _) hb3
      have HV8 := Lib.hid hv4
      obtain ⟨g8, hg8⟩ : ∃ y, y = wr.heap.size := ⟨_, rfl⟩
      rw [← hg8] at HV8 ⊢
      have HA4 := Lib.hid (HA2.out.below hb)
      have HB4 := Lib.hid (HB.out.trans (hb.mono HB.out.size))
      clear hcv hb3 hs3 hv4 ho4 hb4 hb hg8 HA HA2 HB
      simp only [Act.put, List.setIfInBounds_toArray, List.set_cons_succ, List.set_cons_zero]
      go_upto_region 6 with fail
      apply wp_region_lit
      iterate 9 go_step
      refine wpl_load HA4.out rfl rfl rfl ?_
      rw [← HD.out]
      refine wpl_alloc rfl rfl (fun w5 hcv hb3 hs3 => ?_)
      refine wpl_store d hcv rfl rfl rfl (by rw [← HD.out]; rfl) ?_
      intro w6 hv6 ho6 hb6
      have hb : Below w4.heap.size w4 w6 := hb6 _ _ (Nat.le_refl _) hb3
      have HV9 := Lib.hid hv6
      obtain ⟨g9, hg9⟩ : ∃ y, y = w4.heap.size := ⟨_, rfl⟩
      rw [← hg9] at HV9 ⊢
      replace HV8 := Lib.hid (HV8.out.below hb)
      have HB6 := Lib.hid (HB4.out.trans (hb.mono HB4.out.size))
      clear hcv hb3 hs3 hv6 ho6 hb6 hb hg9 HA4 HB4
      simp only [Act.put, List.setIfInBounds_toArray, List.set_cons_succ, List.set_cons_zero]
      go_upto_region 7 with fail
      apply wp_region_lit
      iterate 3 go_step
      refine wpl_load HV8.out.c rfl rfl rfl ?_
      rw [← HC.out]
      refine wpl_load HV9.out.c rfl rfl rfl ?_
      rw [← HD.out]
      simp only [Act.put, List.setIfInBounds_toArray, List.set_cons_succ, List.set_cons_zero]
      go_wp2_with fail
      refine (HEQ.out w6).mono ?_
      rintro e w7 ⟨rfl, hb⟩
      have HB7 := Lib.hid (HB6.out.trans (hb.mono HB6.out.size))
      clear hb HV8 HV9 HB6
      by_cases hcd : c = d
      · have hdec : decide (c = d) = true := decide_eq_true hcd
        have HCD := Lib.hid hcd
        clear hcd
        rw [hdec]
        go_wp2_with fail
        go_roundw
        case rel => exact ⟨k + 1, by omega, by simp, take_eq HQ.out.1 (by rw [HQ.out.2, HCD.out]) HP.out, HB7.out⟩
        case measure =>
          simp [intOf]
          omega
      · have hdec : decide (c = d) = false := decide_eq_false hcd
        rw [hdec]
        have hrf : r = false := by rw [HR.out]; exact decide_eq_false (take_ne HQ.out.1 HQ.out.2 hcd)
        subst hrf
        clear hcd
        go_wp2_with fail
        go_ret
        exact ⟨rfl, HB7.out⟩
    · have hkn : k = N := by omega
      have hrt : r = true := by
        rw [HR.out]
        refine decide_eq_true ?_
        have h1 := HP.out
        rw [List.take_of_length_le (by have := HN.out; omega), List.take_of_length_le (by have := HMM.out; omega)] at h1
        exact h1
      subst hrt
      go_wp2_with fail
      go_ret
      exact ⟨rfl, HB.out⟩
theorem vt_chan {L : Int} {l : List Trk.Clip} (h : Trk.VL L l) : ∀ c ∈ l, c.chan = [] := fun c hc => (h c hc).c.ch
set_option maxRecDepth 100000 in
set_option maxHeartbeats 8000000 in
theorem same_any {L : Int} (v u : Value) (l m : List Trk.Clip) (w : World) (h : Tk w v l) (h' : Tk w u m) (hl : VT L l) (hm : VT L m) (hL : L ≤ 140737488355328) :
    Calls Tryz.prog 29 #[v, u] w fun e w' => e = .returned (.bool (decide (Trk.nf l = Trk.nf m))) ∧ Below w.heap.size w w' := by
  have HT := Lib.hid h
  have HU := Lib.hid h'
  have HV1 := Lib.hid (fun (w : World) (h : Tk w v l) => vtrack_any v l w h hl hL)
  have HV2 := Lib.hid (fun (w : World) (h : Tk w u m) => vtrack_any u m w h hm hL)
  have HN1 := Lib.hid (fun (w : World) (h : Tk w v l) => normal_any v l w h hl hL)
  have HN2 := Lib.hid (fun (w : World) (h : Tk w u m) => normal_any u m w h hm hL)
  have HEQ := Lib.hid (fun (a b : Value) (w : World) (h : Tk w a (Trk.nf l)) (h' : Tk w b (Trk.nf m)) => eqfunc_any a b _ _ w h h' (vt_chan (nf_vt hl).v) (vt_chan (nf_vt hm).v))
  obtain ⟨ao, cap, rfl, -⟩ := h
  obtain ⟨bo, dap, rfl, -⟩ := h'
  clear hl hm
  go_enter Tryz.func29, Tryz.ntmps29
  go_wp2_with fail
  refine (HV1.out w HT.out).mono ?_
  rintro e w1 ⟨rfl, hb⟩
  have HB := Lib.hid hb
  clear hb
  go_wp2_with fail
  refine (HV2.out w1 (HU.out.below HB.out)).mono ?_
  rintro e w2 ⟨rfl, hb⟩
  replace HB := Lib.hid (HB.out.trans (hb.mono HB.out.size))
  clear hb
  go_wp2_with fail
  refine (HN1.out w2 (HT.out.below HB.out)).mono ?_
  rintro e w3 ⟨r1, rfl, ho, hb⟩
  replace HB := Lib.hid (HB.out.trans (hb.mono HB.out.size))
  have HO := Lib.hid ho.tk
  clear hb ho
  go_wp2_with fail
  refine (HN2.out w3 (HU.out.below HB.out)).mono ?_
  rintro e w4 ⟨r2, rfl, ho, hb⟩
  replace HB := Lib.hid (HB.out.trans (hb.mono HB.out.size))
  replace HO := Lib.hid (HO.out.below hb)
  have HO2 := Lib.hid ho.tk
  clear hb ho
  go_wp2_with fail
  refine (HEQ.out r1 r2 w4 HO.out HO2.out).mono ?_
  rintro e w5 ⟨rfl, hb⟩
  replace HB := Lib.hid (HB.out.trans (hb.mono HB.out.size))
  clear hb
  go_wp2_with fail
  go_ret
  exact ⟨rfl, HB.out⟩
end Go.Proofs.YtfoohocgdcgbcaaGreat

/- A track cloned; Merge by its shortcuts. -/
namespace Go.Proofs.YtfoohocgdcgbcaaGreat
open Go.RowKit
set_option linter.unusedVariables false
set_option linter.unusedSimpArgs false
theorem OT.chan {w : World} {B g cap kk : Nat} {l : List Trk.Clip} {i : Nat} {x : Trk.Clip} (h : OT w B (.slice (some ⟨g, 0, none⟩) kk cap) l) (hx : l[i]? = some x) : OT (w.setCell ⟨g, i * 22 + 21, none⟩ (.slice none 0 0)) B (.slice (some ⟨g, 0, none⟩) kk cap) l := by
  have h1 := h.range (i := i) (j := 21) (x := x) (x' := x) (vs := [.slice none 0 0]) hx (by decide) rfl
  have e : l.set i x = l := by
    refine List.ext_getElem? (fun j => ?_)
    rw [List.getElem?_set]
    split
    · rename_i e
      subst e
      split
      · exact hx.symm
      · rename_i hn
        exact absurd (List.getElem?_eq_some_iff.1 hx).1 hn
    · rfl
  rw [e] at h1
  exact h1
set_option maxRecDepth 100000 in
set_option maxHeartbeats 8000000 in
theorem clonetrack_any (v : Value) (l : List Trk.Clip) (w : World) (h : Tk w v l) (hl : l.length ≤ 1048576) : Calls Tryz.prog 48 #[v] w (OTPost w l) := by
  have HT := Lib.hid h
  obtain ⟨ao, cap, rfl, -⟩ := h
  obtain ⟨N, hN⟩ : ∃ N, N = l.length := ⟨_, rfl⟩
  rw [← hN] at HT hl ⊢
  have HN := Lib.hid hN
  clear hN
  go_enter Tryz.func48, Tryz.ntmps48
  go_wp2_with fail
  refine (clonel_any _ l w HT.out (by rw [← HN.out]; exact hl)).mono ?_
  rintro e w1 ⟨r, rfl, ho, hb⟩
  have HO := Lib.hid ho
  have HB := Lib.hid hb
  obtain ⟨ra, rc, rfl, -⟩ := ho.tk
  rw [← HN.out] at HO ⊢
  clear ho hb
  go_upto_region 3 with fail
  go_loopw [9] (fun i wr => ∃ k : Nat, k ≤ N ∧ i = .int .i64 (k : Int) ∧ OT wr w.heap.size (.slice ra N rc) l ∧ Below w.heap.size w wr) (fun i _ => N - (intOf i).toNat)
  case atStart => exact ⟨0, Nat.zero_le _, rfl, HO.out, HB.out⟩
  case round =>
    obtain ⟨k, hk, rfl, ho, hb⟩ := hrel
    have HOK := Lib.hid ho
    have HBK := Lib.hid hb
    clear ho hb
    by_cases hlt : k < N
    · have hlt' : (k : Int) < (N : Int) := by omega
      obtain ⟨c, hc⟩ : ∃ c, l[k]? = some c := ⟨_, List.getElem?_eq_getElem (by have := HN.out; omega)⟩
      rcases HOK.out.shape with ⟨-, e⟩ | ⟨g, cp, e⟩
      · have := HN.out
        rw [e] at this
        simp only [List.length_nil] at this
        omega
      simp only [Value.slice.injEq] at e
      obtain ⟨rfl, -, rfl⟩ := e
      have k21 := (HOK.out.own.2.2.2 k c hc).k21
      have kf := HOK.out.frozen (k * 22 + 21)
      have HC := Lib.hid hc
      clear hc
      go_upto_region 5 with fail
      go_wp2_with fail
      refine (clone_nil wr).mono ?_
      rintro e w2 ⟨rfl, rfl⟩
      have HO2 := Lib.hid (HOK.out.chan HC.out)
      have HB2 := Lib.hid (HBK.out.setCell (p := ⟨g, k * 22 + 21, none⟩) HOK.out.own.1 (.slice none 0 0))
      go_wp2_with fail
      go_roundw
      case rel => exact ⟨k + 1, by omega, by simp, HO2.out, HB2.out⟩
      case measure =>
        simp [intOf]
        omega
    · have hkn : k = N := by omega
      go_wp2_with fail
      go_ret
      exact ⟨_, rfl, HOK.out, HBK.out⟩
/-- What Merge answers by its shortcuts. -/
def shortL (n a b : List Trk.Clip) : List Trk.Clip := if Trk.nf b = Trk.nf n ∨ Trk.nf b = Trk.nf a then Trk.nf a else Trk.nf b
set_option maxRecDepth 100000 in
set_option maxHeartbeats 8000000 in
theorem merge_short {L : Int} (vn va vb : Value) (n a b : List Trk.Clip) (w : World) (hn : Tk w vn n) (ha : Tk w va a) (hb : Tk w vb b) (Vn : VT L n) (Va : VT L a) (Vb : VT L b) (hL : L ≤ 140737488355328)
    (hs : Trk.nf b = Trk.nf n ∨ Trk.nf b = Trk.nf a ∨ Trk.nf a = Trk.nf n) :
    Calls Tryz.prog 17 #[vn, va, vb] w fun e w' => ∃ v', e = .returned (.tuple #[v', .int .i64 0]) ∧ OT w' w.heap.size v' (shortL n a b) ∧ Below w.heap.size w w' := by
  have HN := Lib.hid hn
  have HA := Lib.hid ha
  have HBB := Lib.hid hb
  have V1 := Lib.hid (fun (w : World) (h : Tk w vn n) => vtrack_any vn n w h Vn hL)
  have V2 := Lib.hid (fun (w : World) (h : Tk w va a) => vtrack_any va a w h Va hL)
  have V3 := Lib.hid (fun (w : World) (h : Tk w vb b) => vtrack_any vb b w h Vb hL)
  have S1 := Lib.hid (fun (w : World) (h : Tk w vb b) (h' : Tk w vn n) => same_any vb vn b n w h h' Vb Vn hL)
  have S2 := Lib.hid (fun (w : World) (h : Tk w vb b) (h' : Tk w va a) => same_any vb va b a w h h' Vb Va hL)
  have S3 := Lib.hid (fun (w : World) (h : Tk w va a) (h' : Tk w vn n) => same_any va vn a n w h h' Va Vn hL)
  have NA := Lib.hid (fun (w : World) (h : Tk w va a) => normal_any va a w h Va hL)
  have NB := Lib.hid (fun (w : World) (h : Tk w vb b) => normal_any vb b w h Vb hL)
  have CA' := Lib.hid (fun (v : Value) (w : World) (h : Tk w v (Trk.nf a)) => clonetrack_any v (Trk.nf a) w h (by have := (nf_vt Va).n; omega))
  have CB' := Lib.hid (fun (v : Value) (w : World) (h : Tk w v (Trk.nf b)) => clonetrack_any v (Trk.nf b) w h (by have := (nf_vt Vb).n; omega))
  obtain ⟨xn, cn, rfl, -⟩ := hn
  obtain ⟨xa, ca, rfl, -⟩ := ha
  obtain ⟨xb, cb, rfl, -⟩ := hb
  obtain ⟨nn, hnn⟩ : ∃ k, k = n.length := ⟨_, rfl⟩
  obtain ⟨na, hna⟩ : ∃ k, k = a.length := ⟨_, rfl⟩
  obtain ⟨nb, hnb⟩ : ∃ k, k = b.length := ⟨_, rfl⟩
  rw [← hnn] at HN V1 S1 S3 ⊢
  rw [← hna] at HA V2 S2 S3 NA ⊢
  rw [← hnb] at HBB V3 S1 S2 NB ⊢
  obtain ⟨R, hR⟩ : ∃ R, R = shortL n a b := ⟨_, rfl⟩
  rw [← hR]
  have HR := Lib.hid hR
  have HS := Lib.hid hs
  clear Vn Va Vb hnn hna hnb hs hR
  go_enter Tryz.func17, Tryz.ntmps17
  go_wp2_with fail
  refine (V1.out w HN.out).mono ?_
  rintro e w1 ⟨rfl, hb⟩
  have HB := Lib.hid hb
  clear hb
  go_wp2_with fail
  refine (V2.out w1 (HA.out.below HB.out)).mono ?_
  rintro e w2 ⟨rfl, hb⟩
  replace HB := Lib.hid (HB.out.trans (hb.mono HB.out.size))
  clear hb
  go_wp2_with fail
  refine (V3.out w2 (HBB.out.below HB.out)).mono ?_
  rintro e w3 ⟨rfl, hb⟩
  replace HB := Lib.hid (HB.out.trans (hb.mono HB.out.size))
  clear hb
  go_wp2_with fail
  refine (S1.out w3 (HBB.out.below HB.out) (HN.out.below HB.out)).mono ?_
  rintro e w4 ⟨rfl, hb⟩
  replace HB := Lib.hid (HB.out.trans (hb.mono HB.out.size))
  clear hb
  by_cases c1 : Trk.nf b = Trk.nf n
  · have HC1 := Lib.hid c1
    have d1 : decide (Trk.nf b = Trk.nf n) = true := decide_eq_true c1
    rw [d1]
    clear c1 d1
    go_wp2_with fail
    refine (NA.out w4 (HA.out.below HB.out)).mono ?_
    rintro e wp ⟨r1, rfl, ho, hb⟩
    replace HB := Lib.hid (HB.out.trans (hb.mono HB.out.size))
    have HO := Lib.hid ho.tk
    clear hb ho
    go_wp2_with fail
    refine (CA'.out r1 wp HO.out).mono ?_
    rintro e wq ⟨r2, rfl, ho, hb⟩
    have HO2 := Lib.hid ho
    have HB2 := Lib.hid (HB.out.trans (hb.mono HB.out.size))
    have HLE := Lib.hid HB.out.size
    clear hb ho
    go_wp2_with fail
    go_ret2
    exact ⟨_, rfl, by rw [HR.out]; unfold shortL; rw [if_pos (Or.inl HC1.out)]; exact HO2.out.lower HLE.out, HB2.out⟩
  have HC1 := Lib.hid c1
  have d1 : decide (Trk.nf b = Trk.nf n) = false := decide_eq_false c1
  rw [d1]
  clear c1 d1
  go_wp2_with fail
  refine (S2.out w4 (HBB.out.below HB.out) (HA.out.below HB.out)).mono ?_
  rintro e w5 ⟨rfl, hb⟩
  replace HB := Lib.hid (HB.out.trans (hb.mono HB.out.size))
  clear hb
  by_cases c2 : Trk.nf b = Trk.nf a
  · have HC2 := Lib.hid c2
    have d1 : decide (Trk.nf b = Trk.nf a) = true := decide_eq_true c2
    rw [d1]
    clear c2 d1
    go_wp2_with fail
    refine (NA.out w5 (HA.out.below HB.out)).mono ?_
    rintro e wp ⟨r1, rfl, ho, hb⟩
    replace HB := Lib.hid (HB.out.trans (hb.mono HB.out.size))
    have HO := Lib.hid ho.tk
    clear hb ho
    go_wp2_with fail
    refine (CA'.out r1 wp HO.out).mono ?_
    rintro e wq ⟨r2, rfl, ho, hb⟩
    have HO2 := Lib.hid ho
    have HB2 := Lib.hid (HB.out.trans (hb.mono HB.out.size))
    have HLE := Lib.hid HB.out.size
    clear hb ho
    go_wp2_with fail
    go_ret2
    exact ⟨_, rfl, by rw [HR.out]; unfold shortL; rw [if_pos (Or.inr HC2.out)]; exact HO2.out.lower HLE.out, HB2.out⟩
  have HC2 := Lib.hid c2
  have d1 : decide (Trk.nf b = Trk.nf a) = false := decide_eq_false c2
  have c3 : Trk.nf a = Trk.nf n := by rcases HS.out with h | h | h; exact absurd h HC1.out; exact absurd h c2; exact h
  have d3 : decide (Trk.nf a = Trk.nf n) = true := decide_eq_true c3
  rw [d1]
  clear c2 d1 c3
  go_wp2_with fail
  refine (S3.out w5 (HA.out.below HB.out) (HN.out.below HB.out)).mono ?_
  rintro e w6 ⟨rfl, hb⟩
  replace HB := Lib.hid (HB.out.trans (hb.mono HB.out.size))
  clear hb
  rw [d3]
  clear d3
  go_wp2_with fail
  refine (NB.out w6 (HBB.out.below HB.out)).mono ?_
  rintro e wp ⟨r1, rfl, ho, hb⟩
  replace HB := Lib.hid (HB.out.trans (hb.mono HB.out.size))
  have HO := Lib.hid ho.tk
  clear hb ho
  go_wp2_with fail
  refine (CB'.out r1 wp HO.out).mono ?_
  rintro e wq ⟨r2, rfl, ho, hb⟩
  have HO2 := Lib.hid ho
  have HB2 := Lib.hid (HB.out.trans (hb.mono HB.out.size))
  have HLE := Lib.hid HB.out.size
  clear hb ho
  go_wp2_with fail
  go_ret2
  exact ⟨_, rfl, by rw [HR.out]; unfold shortL; rw [if_neg (fun h => h.elim HC1.out HC2.out)]; exact HO2.out.lower HLE.out, HB2.out⟩
end Go.Proofs.YtfoohocgdcgbcaaGreat

/- What an edit that names a clip makes of a made track. -/
namespace Go.Proofs.YtfoohocgdcgbcaaGreat
open Go.RowKit
set_option linter.unusedVariables false
set_option linter.unusedSimpArgs false
/-- The bound of the positions after such an edit. -/
def bigM : Int := 1000000 + 2147483648 * 18018 + 2147483648 * 18018 + 2147483647 * 18018
theorem bigM_le : bigM ≤ 140737488355328 := by unfold bigM; decide
structure AdjOf (t u : List Trk.Clip) (a b uk : Int) : Prop where
  v : VT bigM u
  u : Trk.UndoOf t u a b uk
  b : uk ≠ 2 → b ≤ Trk.total t
theorem nf_undo {n l : List Trk.Clip} {a b uk : Int} (gl : Trk.GoodL l) (h : Trk.UndoOf n l a b uk) : Trk.UndoOf n (Trk.nf l) a b uk :=
  ⟨fun i i0 ia => by rw [Trk.nf_fr gl i0]; exact h.lo i i0 ia, fun e i ib => by rw [Trk.nf_fr gl (by have := h.a0; have := h.ab; omega)]; exact h.two e i ib,
    fun e i ib => by rw [Trk.nf_fr gl (by have := h.a0; omega)]; exact h.one e i ib, fun e i ib => by rw [Trk.nf_fr gl (by have := h.a0; have := h.ab; omega)]; exact h.three e i ib, h.k, h.a0, h.ab⟩
theorem adj_of {t : List Trk.Clip} (h : Made t) {k : Int} {c : Nat} {d sn sd : Int} (hk : 5 ≤ k ∧ k ≤ 10) (hd : k ≤ 9 → d ≠ 0) (hd2 : d.natAbs ≤ 2147483647) (hs : k = 10 → Trk.SpeedOK sn sd) (h0 : Trk.adjCode t k c d sn sd = 0) :
    AdjOf t (Trk.nf (Trk.adjL t k c d sn sd)) (Trk.fromL t k c d) (Trk.toL t k c d) (Trk.undK k d) ∧ c < t.length ∧ (k = 9 → 0 < c) ∧ (k = 7 ∨ k = 9 → c + 1 < t.length) ∧ Trk.VL bigM (Trk.adjL t k c d sn sd) ∧ Trk.total (Trk.adjL t k c d sn sd) ≤ 2147483647 := by
  have ha := adj_ok h.vt (by omega) hs hk h0
  obtain ⟨a1, a2, a3⟩ := ha
  have a1' : Trk.VL bigM (Trk.adjL t k c d sn sd) := a1
  clear a1
  simp only [Trk.missingL, Bool.or_eq_false_iff, Bool.and_eq_false_iff, decide_eq_false_iff_not, Bool.or_eq_true, decide_eq_true_eq] at a3
  have hc : c < t.length := by omega
  have h9 : k = 9 → 0 < c := by omega
  have h7 : k = 7 ∨ k = 9 → c + 1 < t.length := by omega
  have hu := Trk.adj_undo h.v.good hk hc h9 h7 hd a1'.good
  have hl : (Trk.adjL t k c d sn sd).length = t.length := Trk.adjL_length _ _ _ _ _ _
  have hln := Nat.le_trans (Trk.nf_length a1'.good) (Nat.le_of_eq hl)
  have := h.l
  exact ⟨⟨⟨Trk.nf_vl a1' (by omega), by omega, Int.le_trans (Trk.nf_total a1'.good) a2⟩, nf_undo a1'.good hu.1, hu.2⟩, hc, h9, h7, a1', a2⟩
end Go.Proofs.YtfoohocgdcgbcaaGreat

/- Aid for the laws of edits that name frames: lengths, frames, Apply at a made track and clips of the tape. -/
namespace Go.Trk
set_option linter.unusedVariables false
theorem cutRaw_none (l : List Clip) (f : Int) {n : Int} (hn : n ≤ 0) : cutRaw l f n = [] := by
  cases l with
  | nil => unfold cutRaw; rw [if_neg (by omega)]
  | cons c l => unfold cutRaw; rw [if_pos hn]
theorem cutRaw_len2 : ∀ {l : List Clip} {f n : Int}, GoodL l → 0 ≤ f → f + n ≤ total l → (cutRaw l f n).length ≤ l.length
  | [], f, n, _, hf, h => by
    have : total ([] : List Clip) = 0 := rfl
    rw [cutRaw_none _ _ (by omega)]
    simp
  | c :: l, f, n, g, hf, h => by
    have c1 := g.head.l
    have t1 := total_nonneg g.tail
    rw [total_cons] at h
    unfold cutRaw
    split
    · simp
    split
    · have := cutRaw_len2 (l := l) (f := f - c.len) (n := n) g.tail (by omega) (by omega)
      simp only [List.length_cons]
      omega
    · have := cutRaw_len2 (l := l) (f := 0) (n := n - min (c.len - f) n) g.tail (by omega) (by omega)
      simp only [List.length_cons]
      omega
theorem cutRaw_both : ∀ {l : List Clip} {a b n : Int}, GoodL l → 0 ≤ a → a ≤ b → a ≤ total l → b + n ≤ total l → (cutRaw l 0 a).length + (cutRaw l b n).length ≤ l.length + 1
  | [], a, b, n, _, ha, hb, ht, h => by
    have : total ([] : List Clip) = 0 := rfl
    rw [cutRaw_none _ _ (show a ≤ 0 by omega)]
    have := cutRaw_length [] b n
    simpa using this
  | c :: l, a, b, n, g, ha, hb, ht, h => by
    have c1 := g.head.l
    by_cases h0 : a ≤ 0
    · rw [cutRaw_none _ _ h0]
      have := cutRaw_length (c :: l) b n
      simpa using this
    · by_cases h1 : a ≤ c.len
      · have e : cutRaw (c :: l) 0 a = [withLen (shift c 0) (min (c.len - 0) a)] := by
          show (if a ≤ 0 then [] else if c.len ≤ 0 then cutRaw l (0 - c.len) a else withLen (shift c 0) (min (c.len - 0) a) :: cutRaw l 0 (a - min (c.len - 0) a)) = _
          rw [if_neg h0, if_neg (by omega), cutRaw_none _ _ (by omega)]
        have := cutRaw_len2 (l := c :: l) (f := b) (n := n) g (by omega) h
        rw [e]
        simp only [List.length_cons, List.length_nil] at this ⊢
        omega
      · have e : cutRaw (c :: l) 0 a = withLen (shift c 0) (min (c.len - 0) a) :: cutRaw l 0 (a - min (c.len - 0) a) := by
          show (if a ≤ 0 then [] else if c.len ≤ 0 then cutRaw l (0 - c.len) a else withLen (shift c 0) (min (c.len - 0) a) :: cutRaw l 0 (a - min (c.len - 0) a)) = _
          rw [if_neg h0, if_neg (by omega)]
        rw [total_cons] at ht h
        have e2 : min (c.len - 0) a = c.len := by omega
        by_cases hn : n ≤ 0
        · rw [cutRaw_none _ _ hn]
          have := cutRaw_len2 (l := c :: l) (f := 0) (n := a) g (Int.le_refl 0) (by rw [total_cons]; omega)
          simp only [List.length_nil]
          omega
        have e3 : cutRaw (c :: l) b n = cutRaw l (b - c.len) n := by
          show (if n ≤ 0 then [] else if c.len ≤ b then cutRaw l (b - c.len) n else withLen (shift c b) (min (c.len - b) n) :: cutRaw l 0 (n - min (c.len - b) n)) = _
          rw [if_neg hn, if_pos (by omega)]
        have ih := cutRaw_both (l := l) (a := a - c.len) (b := b - c.len) (n := n) g.tail (by omega) (by omega) (by omega) (by omega)
        rw [e, e2, e3]
        simp only [List.length_cons]
        omega
theorem exL_length {n ins : List Clip} {p rem : Int} (gn : GoodL n) (hp : 0 ≤ p) (hr : 0 ≤ rem) : (exL n p rem ins).length ≤ n.length + 2 + ins.length := by
  have tn := total_nonneg gn
  have lg := gapL_len (p - total n)
  have hb := (pk_of (cutRaw_spec (l := n) (f := 0) (n := min p (total n) - 0) gn (Int.le_refl 0) (by omega)).1).n
  have hb' : (cut n 0 (min p (total n))).length ≤ (cutRaw n 0 (min p (total n))).length := by
    have e : min p (total n) - 0 = min p (total n) := by omega
    unfold cut
    rw [e] at hb ⊢
    exact hb
  have ha : (cut n 0 (min p (total n))).length + (aft n (p + rem)).length ≤ n.length + 1 := by
    unfold aft
    split
    · rename_i h
      have h2 := (pk_of (cutRaw_spec (l := n) (f := p + rem) (n := total n - (p + rem)) gn (by omega) (by omega)).1).n
      have h3 := cutRaw_both (l := n) (a := min p (total n)) (b := p + rem) (n := total n - (p + rem)) gn (by omega) (by omega) (by omega) (by omega)
      have h4 : (cut n (p + rem) (total n)).length ≤ (cutRaw n (p + rem) (total n - (p + rem))).length := h2
      omega
    · have h3 := cutRaw_length n 0 (min p (total n))
      simp only [List.length_nil]
      omega
  unfold exL
  simp only [List.length_append]
  omega
end Go.Trk
namespace Go.Proofs.YtfoohocgdcgbcaaGreat
open Go.RowKit
set_option linter.unusedVariables false
set_option linter.unusedSimpArgs false
/-- What an edit of frames makes of a track t. -/
structure ExF (t u put : List Trk.Clip) (p rem : Int) : Prop where
  v : VT 1000000 u
  n : Trk.Norm u
  l : u.length ≤ t.length + 2 + put.length
  tt : Trk.total u ≤ max p (Trk.total t) + Trk.total put
  f : ∀ i, 0 ≤ i → Trk.fr u i = if i < p then Trk.fr t i else if i < p + Trk.total put then Trk.fr put (i - p) else Trk.fr t (i - Trk.total put + rem)
theorem exch_of {t : List Trk.Clip} (hV : VT 1000000 t) {e : Trk.Ed} (hE : ExV 1000000 e) (hl : t.length + 2 + e.put.length ≤ 64) (hee : (if e.k = 1 then max e.p (Trk.total t) else e.p) + e.T ≤ 2147483647) :
    ExF t (Trk.nf (e.exl t)) e.put e.p e.rem := by
  have hx := hE.x
  have o := hx.of hV.v.good
  have q := exl_vl hV hE hee
  have ln : (e.exl t).length ≤ t.length + 2 + e.put.length := Trk.exL_length hV.v.good hx.p hx.rem_nonneg
  have hln := Nat.le_trans (Trk.nf_length q.1.good) ln
  have hr := hx.rem_nonneg
  refine ⟨⟨Trk.nf_vl q.1 q.2.1, by omega, Int.le_trans (Trk.nf_total q.1.good) q.2.1⟩, Trk.nf_norm q.1.good, hln, ?_, fun i i0 => ?_⟩
  · refine Int.le_trans (Trk.nf_total q.1.good) ?_
    rw [o.t]
    omega
  · rw [Trk.nf_fr q.1.good i0]
    exact o.f i i0
/-- What Apply answers at an edit of frames. -/
def ExRes (w : World) (u : List Trk.Clip) (e : Ending) (w' : World) : Prop :=
  ∃ vu x1 x2 x3 ra rl rc, e = .returned (.tuple #[vu, .agg (edC x1 x2 x3 0 0 0 0 (.slice ra rl rc)), .int .i64 0]) ∧ OT w' w.heap.size vu u ∧ Below w.heap.size w w'
theorem apply_f (v u : Value) (t : List Trk.Clip) (e : Trk.Ed) (w : World) (h : Tk w v t) (hu : Tk w u e.ins) (hV : VT 1000000 t) (hN : Trk.Norm t) (hE : ExV 1000000 e) (hl : t.length + 2 + e.put.length ≤ 63)
    (hee : (if e.k = 1 then max e.p (Trk.total t) else e.p) + e.T ≤ 2147483647) : Calls Tryz.prog 45 #[v, EdV e u] w (ExRes w (Trk.nf (e.exl t))) := by
  have hx := exch_of hV hE (by omega) hee
  have h1 := apply_x (L := 1000000) v u t e w h hu hV hE (by decide) (by rw [hN.nf]; omega) (by rw [hN.nf]; exact hee) (by rw [hN.nf]; have := hx.l; omega)
  rw [hN.nf] at h1
  refine h1.mono ?_
  rintro ev w' ⟨v', vr, rfl, hou, hor, hb⟩
  obtain ⟨ra, rc, rfl, -⟩ := hor.tk
  exact ⟨_, _, _, _, _, _, _, rfl, hou, hb⟩
theorem OT.first {w : World} {B : Nat} {v : Value} {l : List Trk.Clip} (h : OT w B v l) (hl : l ≠ []) : ∃ g cap, v = .slice (some ⟨g, 0, none⟩) l.length cap ∧ B ≤ g ∧ l.length ≤ cap ∧ ∀ i c, l[i]? = some c → CA w g (i * 22) c := by
  obtain ⟨_, e⟩ | ⟨g, cap, rfl⟩ := h.shape
  · exact absurd e hl
  · obtain ⟨ao, cp, e, h1, _⟩ := h.tk
    simp only [Value.slice.injEq] at e
    exact ⟨g, cap, rfl, h.own.1, by omega, h.own.2.2.2⟩
theorem OT.tape {w w' : World} {B B' p k : Nat} {v : Value} {l : List Trk.Clip} (h : OT w B v l) (hn : l ≠ []) (ht : TP w B' p k) (hT : Turn p w w') : OT w' B v l := by
  refine h.blocks (fun g kk cap e => hT.o g (h.blk e).2 (fun hg => ?_))
  subst hg
  obtain ⟨g', cap', e', _, _, hc⟩ := h.first hn
  rw [e'] at e
  simp only [Value.slice.injEq, Option.some.injEq, Addr.mk.injEq, and_true] at e
  obtain ⟨rfl, -, -⟩ := e
  obtain ⟨_, _, ao, n, c, hp, _⟩ := ht
  cases l with
  | nil => exact hn rfl
  | cons x l =>
    have := (hc 0 x rfl).k0
    simp only [Nat.zero_mul, Nat.zero_add, Nat.add_zero] at this
    rw [hp] at this
    cases this
/-- Clips of the tape's kind, at most m of them. -/
structure ClipsOK (l : List Trk.Clip) (m : Nat) : Prop where
  v : VT 1000000 l
  n : l.length ≤ m
  t1 : 1 ≤ Trk.total l
  t2 : Trk.total l ≤ 9 * (m : Int)
theorem clipsOK_snoc {l : List Trk.Clip} {z : Trk.Clip} {m : Nat} (h : ShortL l) (hl : l.length ≤ m) (hz : TapeC z) (hm : m ≤ 40) : ClipsOK (l ++ [z]) (m + 1) := by
  have hs := h.snoc hz.short
  have ht := short_total hs
  have hv : Trk.VL 1000000 (l ++ [z]) := fun x hx => (hs x hx).1
  have hlen : (l ++ [z]).length ≤ m + 1 := by simp; omega
  have h1 := Trk.total_nonneg (l := l) (fun x hx => (h x hx).1.good)
  have h2 := hz.l0
  refine ⟨⟨hv, by omega, by omega⟩, hlen, ?_, by omega⟩
  rw [Trk.total_append, Trk.total_one]
  omega
theorem ClipsOK.mono {l : List Trk.Clip} {m n : Nat} (h : ClipsOK l m) (hm : m ≤ n) : ClipsOK l n := ⟨h.v, Nat.le_trans h.n hm, h.t1, by have := h.t2; omega⟩
theorem insert_v {cl : List Trk.Clip} {m : Nat} (h : ClipsOK cl m) (hm : m ≤ 40) (k n : Int) (hk : k = 1 ∨ k = 3) (n0 : 0 ≤ n) (n1 : n ≤ 1000) : ExV 1000000 ⟨k, n, 0, 0, 0, 0, 0, cl⟩ ∧ (⟨k, n, 0, 0, 0, 0, 0, cl⟩ : Trk.Ed).T = Trk.total cl ∧ (⟨k, n, 0, 0, 0, 0, 0, cl⟩ : Trk.Ed).put = cl := by
  have t1 := h.t1
  have t2 := h.t2
  have eT : (⟨k, n, 0, 0, 0, 0, 0, cl⟩ : Trk.Ed).T = Trk.total cl := by unfold Trk.Ed.T; rw [if_pos hk]
  refine ⟨⟨⟨?_, n0, h.v.v.good, fun e => ?_, by rw [eT]; exact t1⟩, h.v, fun _ => rfl, ?_, by rw [eT]; omega, rfl, rfl, rfl, rfl⟩, eT, ?_⟩
  · rcases hk with e | e
    · exact .inl e
    · exact .inr (.inr (.inl e))
  · have e' : k = 2 ∨ k = 4 := e
    omega
  · show n ≤ _; omega
  · unfold Trk.Ed.put
    rw [if_neg (by show ¬ k = 4; omega)]
theorem extract_v (n k : Int) (n0 : 0 ≤ n) (n1 : n ≤ 1000) (k0 : 1 ≤ k) (k1 : k ≤ 1000) : ExV 1000000 ⟨2, n, k, 0, 0, 0, 0, []⟩ :=
  ⟨⟨.inr (.inl rfl), n0, Trk.GoodL.nil, fun _ => rfl, k0⟩, ⟨Trk.VL.nil, by simp, by show (0 : Int) ≤ _; decide⟩, fun h => by rcases h with h | h <;> (have h2 : (2 : Int) = _ := h; omega), by show n ≤ _; omega, by show k ≤ _; omega, rfl, rfl, rfl, rfl⟩
theorem lift_v (n m : Int) (n0 : 0 ≤ n) (n1 : n ≤ 1000) (m0 : 1 ≤ m) (m1 : m ≤ 1000) : ExV 1000000 ⟨4, n, m, 0, 0, 0, 0, []⟩ :=
  ⟨⟨.inr (.inr (.inr rfl)), n0, Trk.GoodL.nil, fun _ => rfl, m0⟩, ⟨Trk.VL.nil, by simp, by show (0 : Int) ≤ _; decide⟩, fun h => by rcases h with h | h <;> (have h2 : (4 : Int) = _ := h; omega), by show n ≤ _; omega, by show m ≤ _; omega, rfl, rfl, rfl, rfl⟩
theorem vt_nil : VT 1000000 [] := ⟨Trk.VL.nil, by simp, by show (0 : Int) ≤ _; decide⟩
end Go.Proofs.YtfoohocgdcgbcaaGreat

/- The contract of the tape's Edit. -/
namespace Go.Proofs.YtfoohocgdcgbcaaGreat
open Go.RowKit
set_option linter.unusedVariables false
set_option linter.unusedSimpArgs false
/-- While the tape's Edit is made: the tape, the edit in block g5, the result in block g4. -/
structure EV (w wc : World) (B p kc g4 g5 : Nat) (k a m c d sn sd : Int) (V : Value) : Prop where
  t : TP wc B p kc
  u : Turn p w wc
  e : ED wc g5 k a m c d sn sd V
  z : ED wc g4 0 0 0 0 0 0 0 (.slice none 0 0)
  p : p < w.heap.size
  q4 : w.heap.size ≤ g4
  q5 : w.heap.size ≤ g5
  n : g4 ≠ g5
theorem EV.turn {w wc wd : World} {B p kc kd g4 g5 : Nat} {k a m c d sn sd : Int} {V : Value} (h : EV w wc B p kc g4 g5 k a m c d sn sd V) (ht : Turn p wc wd) (hT : TP wd B p kd) : EV w wd B p kd g4 g5 k a m c d sn sd V :=
  ⟨hT, h.u.trans ht, ht.ed (by have := h.p; have := h.q5; omega) h.e, ht.ed (by have := h.p; have := h.q4; omega) h.z, h.p, h.q4, h.q5, h.n⟩
theorem EV.low {w wc wd : World} {B p kc g4 g5 n : Nat} {k a m c d sn sd : Int} {V : Value} (h : EV w wc B p kc g4 g5 k a m c d sn sd V) (hb : Below n wc wd) (h4 : g4 < n) (h5 : g5 < n) : EV w wd B p kc g4 g5 k a m c d sn sd V := by
  have hB := h.t.1
  have hp := h.p
  have h4' := h.q4
  refine ⟨h.t.low (n := n) (by omega) (by omega) hb, ⟨Nat.le_trans h.u.s hb.size, fun b hb' hne => (hb.block b (by omega)).trans (h.u.o b hb' hne), fun q w0 hq hb0 => ?_⟩, h.e.lim hb h5, h.z.lim hb h4, h.p, h.q4, h.q5, h.n⟩
  exact (h.u.b q w0 hq hb0).trans (hb.mono (by omega))
theorem EV.set {w wc wd : World} {B p kc g4 g5 : Nat} {k a m c d sn sd k' a' m' c' d' sn' sd' : Int} {V V' : Value} (h : EV w wc B p kc g4 g5 k a m c d sn sd V) (ht : Turn g5 wc wd) (he : ED wd g5 k' a' m' c' d' sn' sd' V') : EV w wd B p kc g4 g5 k' a' m' c' d' sn' sd' V' := by
  have hp := h.p
  have h5 := h.q5
  have hB := h.t.1
  exact ⟨h.t.turn ht (by omega) (by omega), h.u.into h5 (by omega) ht, he, ht.ed h.n h.z, h.p, h.q4, h.q5, h.n⟩
theorem ED.set3 {w : World} {b : Nat} {k p n c d sn sd : Int} {v : Value} (h : ED w b k p n c d sn sd v) (x : Int) : ED (w.setCell ⟨b, 3, none⟩ (.int .i64 x)) b k p n x d sn sd v := by
  obtain ⟨x0, x1, x2, x3, x4, x5, x6, x7, f⟩ := h
  exact ⟨by simp [go_sem, x0], by simp [go_sem, x1], by simp [go_sem, x2], by simp [go_sem, x3], by simp [go_sem, x4], by simp [go_sem, x5], by simp [go_sem, x6], by simp [go_sem, x7], fun o => (World.frozen?_setCell ..).trans (f o)⟩
theorem ED.set4 {w : World} {b : Nat} {k p n c d sn sd : Int} {v : Value} (h : ED w b k p n c d sn sd v) (x : Int) : ED (w.setCell ⟨b, 4, none⟩ (.int .i64 x)) b k p n c x sn sd v := by
  obtain ⟨x0, x1, x2, x3, x4, x5, x6, x7, f⟩ := h
  exact ⟨by simp [go_sem, x0], by simp [go_sem, x1], by simp [go_sem, x2], by simp [go_sem, x3], by simp [go_sem, x4], by simp [go_sem, x5], by simp [go_sem, x6], by simp [go_sem, x7], fun o => (World.frozen?_setCell ..).trans (f o)⟩
theorem ED.set56 {w : World} {b : Nat} {k p n c d sn sd : Int} {v : Value} (h : ED w b k p n c d sn sd v) (x y : Int) : ED ((w.setCell ⟨b, 5, none⟩ (.int .i64 x)).setCell ⟨b, 6, none⟩ (.int .i64 y)) b k p n c d x y v := by
  obtain ⟨x0, x1, x2, x3, x4, x5, x6, x7, f⟩ := h
  exact ⟨by simp [go_sem, x0], by simp [go_sem, x1], by simp [go_sem, x2], by simp [go_sem, x3], by simp [go_sem, x4], by simp [go_sem, x5], by simp [go_sem, x6], by simp [go_sem, x7], fun o => ((World.frozen?_setCell ..).trans (World.frozen?_setCell ..)).trans (f o)⟩
theorem results_ed1 {fn : Func} {tmps : Array Value} {w : World} {t : Tmp} {b : Nat} {k p n c d sn sd : Int} {v : Value} (hr : fn.results = #[.cell t 40]) (ht : tmps.getD t undef = .pointer (some ⟨b, 0, none⟩))
    (hc : ED w b k p n c d sn sd v) (hv : (∃ ao m cp, v = .slice ao m cp)) : (results fn tmps).run Tryz.prog w = .ok (edV k p n c d sn sd v) w := by
  obtain ⟨ao, m, cp, rfl⟩ := hv
  have h := run_loadVar_mid (P := Tryz.prog) w b 0 40 (edC k p n c d sn sd (.slice ao m cp)).toList _ hc.range Tryz.underlying40 rfl (by kernel_rfl)
  obtain ⟨C, hC⟩ : ∃ C, C = (edC k p n c d sn sd (.slice ao m cp)).toList.toArray := ⟨_, rfl⟩
  rw [← hC] at h
  unfold results
  rw [hr]
  have ht2 : tmps[t]?.getD undef = .pointer (some ⟨b, 0, none⟩) := by rw [← Array.getD_eq_getD_getElem?]; exact ht
  simp [ht2, asAddr, h]
  rw [hC]
  rfl
/-- An edit of the tape, n the number of clips. -/
inductive TE (n : Nat) : Trk.Ed → Prop where
  | ins (k a : Int) (cl : List Trk.Clip) (hk : k = 1 ∨ k = 3) (a0 : 0 ≤ a) (a1 : a < 60) (h : ClipsOK cl 7) : TE n ⟨k, a, 0, 0, 0, 0, 0, cl⟩
  | rem (k a m : Int) (hk : k = 2 ∨ k = 4) (a0 : 0 ≤ a) (a1 : a < 60) (m0 : 1 ≤ m) (m1 : m ≤ 20) : TE n ⟨k, a, m, 0, 0, 0, 0, []⟩
  | clip (k d : Int) (c : Nat) (hk : 5 ≤ k ∧ k ≤ 9) (hc : c ≤ n) (d0 : d ≠ 0) (d1 : -5 ≤ d ∧ d ≤ 6) : TE n ⟨k, 0, 0, (c : Int), d, 0, 0, []⟩
  | speed (sn sd : Int) (c : Nat) (hc : c ≤ n) (h : Trk.SpeedOK sn sd) : TE n ⟨10, 0, 0, (c : Int), 0, sn, sd, []⟩
theorem Turn.ofStore {g : Nat} {w w' : World} (h2 : ∀ b, b ≠ g → w'.heap[b]? = w.heap[b]?) (h3 : w'.heap.size = w.heap.size) (h4 : ∀ n w0, n ≤ g → Below n w0 w → Below n w0 w') : Turn g w w' :=
  ⟨Nat.le_of_eq h3.symm, fun b _ hn => h2 b hn, h4⟩
theorem EV.fin {w wc wd : World} {B p kc g4 g5 : Nat} {k a m c d sn sd : Int} {V : Value} (h : EV w wc B p kc g4 g5 k a m c d sn sd V) (ht : Turn g4 wc wd) : TP wd B p kc ∧ Turn p w wd := by
  have hp := h.p
  have h4 := h.q4
  have hB := h.t.1
  exact ⟨h.t.turn ht (by omega) (by omega), h.u.into h4 (by omega) ht⟩
def TEPost (w : World) (B p k j n : Nat) (e : Ending) (w' : World) : Prop := (∃ ed ao l cp, e = .returned (EdV ed (.slice ao l cp)) ∧ TE n ed ∧ OT w' w.heap.size (.slice ao l cp) ed.ins) ∧ TQ w B p k j w'
set_option maxRecDepth 100000 in
set_option maxHeartbeats 16000000 in
theorem tedit_any (B p k n : Nat) (w : World) (ht : TP w B p k) (hk : k < 400000) (hn : n ≤ 1000) :
    Calls Tryz.prog 46 #[.pointer (some ⟨p, 0, none⟩), .int .i64 (n : Int)] w (TEPost w B p k 200 n) := by
  have hp := ht.2.1
  have hB := ht.1
  have HTP := Lib.hid ht
  clear ht
  go_enter Tryz.func46, Tryz.ntmps46
  go_upto_region 1 with fail
  obtain ⟨w1, hw1⟩ : ∃ y, y = w.alloc (.cells #[.int .i64 0, .int .i64 0, .int .i64 0, .int .i64 0, .int .i64 0, .int .i64 0, .int .i64 0, .slice none 0 0] 40) := ⟨_, rfl⟩
  rw [← hw1]
  have HZ := Lib.hid (show ED w1 w.heap.size 0 0 0 0 0 0 0 (.slice none 0 0) by rw [hw1]; exact ED.box w 0 0 0 0 0 0 0 (.slice none 0 0) rfl 40)
  have hb : Below w.heap.size w w1 := by rw [hw1]; exact below_box _ _
  have HT := Lib.hid (HTP.out.below (by omega) hb)
  have HU := Lib.hid (Turn.of (g := p) (Nat.le_of_lt hp) hb)
  obtain ⟨g4, hg4⟩ : ∃ y, y = w.heap.size := ⟨_, rfl⟩
  rw [← hg4] at HZ ⊢
  have HG4 := Lib.hid hg4
  clear hw1 hg4 hb
  go_wp2_with fail
  refine (next_any B p k 10 _ HT.out (by omega) (by omega) (by omega)).mono ?_
  rintro e w2 ⟨r, rfl, r0, r1, hT_, hg_⟩
  have ht := Turn.grown hg_ HT.out.2.1
  replace HU := Lib.hid (HU.out.trans ht)
  replace HZ := Lib.hid (ht.ed (show g4 ≠ p by have := HG4.out; omega) HZ.out)
  replace HT := Lib.hid hT_
  clear hT_ hg_ ht
  try dsimp only
  iterate 10 go_step
  have hv : ED (w2.alloc (.cells (edC 0 0 0 0 0 0 0 (.slice none 0 0)) 40)) w2.heap.size 0 0 0 0 0 0 0 (.slice none 0 0) := ED.box w2 0 0 0 0 0 0 0 (.slice none 0 0) rfl 40
  have hb0 : Below w2.heap.size w2 (w2.alloc (.cells (edC 0 0 0 0 0 0 0 (.slice none 0 0)) 40)) := below_box _ _
  refine wpl_storeE (1 + r) 0 0 0 0 0 0 none 0 0 hv rfl rfl rfl rfl ?_
  intro w3 q1 q2 q3 q4 q5
  have hb : Below w2.heap.size w2 w3 := q4 _ _ (Nat.le_refl _) hb0
  have hp2 : p < w2.heap.size := HT.out.2.1
  have hEV : EV w w3 B p (k + 1) g4 w2.heap.size (1 + r) 0 0 0 0 0 0 (.slice none 0 0) := by
    have h4 := HZ.out.lt
    have h5 := HU.out.s
    have h6 := HG4.out
    exact ⟨HT.out.low (n := w2.heap.size) (by omega) hp2 hb, HU.out.trans (Turn.of (g := p) (by omega) hb), q1, HZ.out.below hb, hp, by omega, by omega, by omega⟩
  have H := Lib.hid hEV
  have HS0 := Lib.hid (show w.heap.size ≤ w3.heap.size from hEV.u.s)
  obtain ⟨g5, hg5⟩ : ∃ g, g = w2.heap.size := ⟨_, rfl⟩
  rw [← hg5] at H ⊢
  clear hg5 q1 q2 q3 q4 q5 hb0 hb hv hp2 hEV HT HU HZ HTP HG4
  simp only [Act.put, List.setIfInBounds_toArray, List.set_cons_succ, List.set_cons_zero]
  obtain ⟨K, hK⟩ : ∃ K, K = 1 + r := ⟨_, rfl⟩
  rw [← hK] at H ⊢
  have K0 : 1 ≤ K := by omega
  have K1 : K ≤ 10 := by omega
  clear hK r0 r1
  have e0 := H.out.e.k0
  rcases (show K = 1 ∨ K = 2 ∨ K = 3 ∨ K = 4 ∨ K = 5 ∨ K = 6 ∨ K = 7 ∨ K = 8 ∨ K = 9 ∨ K = 10 by omega) with rfl | rfl | rfl | rfl | rfl | rfl | rfl | rfl | rfl | rfl
  · clear K0 K1
    go_wp2_with fail
    refine (next_any B p (k + 1) 60 _ H.out.t (by omega) (by omega) (by omega)).mono ?_
    rintro e wn ⟨a, rfl, a0, a1, hT_, hg_⟩
    have ht := Turn.grown hg_ H.out.t.2.1
    replace H := Lib.hid (H.out.turn ht hT_)
    clear hT_ hg_ ht
    have y1 := H.out.e.k1
    have f1 := H.out.e.fz 1
    go_upto_region 9 with fail
    obtain ⟨wq, hw⟩ : ∃ q, q = wn.setCell ⟨g5, 1, none⟩ (.int .i64 a) := ⟨_, rfl⟩
    rw [← hw]
    have ht : Turn g5 wn wq := by rw [hw]; exact (Turn.refl _ _).trans (Turn.cell g5 1 (.int .i64 a) _)
    replace H := Lib.hid (H.out.set ht (by rw [hw]; exact H.out.e.set1 a))
    clear hw ht
    clear y1 f1
    have HL4 := Lib.hid H.out.z.lt
    have HL5 := Lib.hid H.out.e.lt
    have HPW := Lib.hid H.out.t.2.1
    have HSQ := Lib.hid H.out.u.s
    clear e0
    go_wp2_with fail
    refine (track_any B p (k + 1 + 1) 3 wq H.out.t (by omega) (by omega)).mono ?_
    rintro e v2 ⟨⟨vl, l, rfl, ho, hs, hl⟩, ⟨k2, hk2, hT_⟩, ht⟩
    have HL := Lib.hid ho
    have HS := Lib.hid hs
    have HLL := Lib.hid hl
    have HS1 := Lib.hid (show wq.heap.size ≤ v2.heap.size from ht.s)
    replace H := Lib.hid (H.out.turn ht hT_)
    have HK2 := Lib.hid hk2
    clear ho hs hl hT_ ht hk2
    go_wp2_with fail
    refine (clip_any B p k2 _ H.out.t (by have := HK2.out; omega)).mono ?_
    rintro e v3 ⟨⟨z, rfl, hz⟩, ⟨k3, hk3, hT_⟩, ht⟩
    replace H := Lib.hid (H.out.turn ht hT_)
    replace HL := Lib.hid (HL.out.turn ht HPW.out)
    have HSZ := Lib.hid (Nat.le_trans HS1.out ht.s)
    have HK3 := Lib.hid hk3
    have HZ := Lib.hid hz
    clear hz hT_ ht hk3
    unfold clipV
    obtain ⟨C, hC⟩ : ∃ C, C = (clipC z).toArray := ⟨_, rfl⟩
    rw [← hC]
    have HCC := Lib.hid hC
    clear hC
    dsimp only
    iterate 1 go_step
    refine Great.wpList_buildSliceTo rfl 23 48 1 #[(0, .tmp 34)] rfl v3.heap.size rfl _ rfl Tryz.underlying23 C ?_ ?_
    · simp only [List.map_toArray, List.map_cons, List.map_nil, List.toList_toArray]
      rw [HCC.out]
      exact built_clip z
    have hbx : CA (v3.alloc (.cells C 48)) v3.heap.size 0 z := by rw [HCC.out]; exact CA.box v3 z 48
    have hb : Below v3.heap.size v3 (v3.alloc (.cells C 48)) := below_box _ _
    have hsz : wq.heap.size ≤ (v3.alloc (.cells C 48)).heap.size := Nat.le_trans HSZ.out hb.size
    replace HL := Lib.hid (HL.out.below hb)
    have HBX := Lib.hid hb
    clear hb
    simp only [Act.put, List.setIfInBounds_toArray, List.set_cons_succ, List.set_cons_zero]
    refine wpList_appT 23 Tryz.underlying23 _ rfl (.tmp 32) (.tmp 35) rfl rfl wq.heap.size vl l rfl HL.out hsz v3.heap.size 1 z rfl hbx (by have := HLL.out; omega) ?_
    intro vn v5 q1 q2 q3 q4
    simp only [Act.put, List.setIfInBounds_toArray, List.set_cons_succ, List.set_cons_zero]
    have hbl : Below wq.heap.size v3 v5 := (HBX.out.mono HSZ.out).trans q2
    have HC := Lib.hid q1
    replace H := Lib.hid (H.out.low hbl HL4.out HL5.out)
    have HCO := Lib.hid (clipsOK_snoc HS.out HLL.out HZ.out (by omega))
    obtain ⟨cl, hcl⟩ : ∃ cl, cl = l ++ [z] := ⟨_, rfl⟩
    rw [← hcl] at HC HCO
    clear q1 q2 q3 q4 hbl hbx hsz hcl HBX HCC HZ HS HLL HL HSZ
    obtain ⟨ca, cc, rfl, hcc⟩ := HC.out.tk
    clear hcc
    obtain ⟨J, hJ⟩ : ∃ J, J = cl.length := ⟨_, rfl⟩
    rw [← hJ] at HC ⊢
    clear hJ
    have y7 := H.out.e.k7
    have f7 := H.out.e.fz 7
    go_upto_region 15 with fail
    obtain ⟨w6, hw⟩ : ∃ q, q = v5.setCell ⟨g5, 7, none⟩ (.slice ca J cc) := ⟨_, rfl⟩
    rw [← hw]
    have ht : Turn g5 v5 w6 := by rw [hw]; exact (Turn.refl _ _).trans (Turn.cell g5 7 (.slice ca J cc) _)
    replace H := Lib.hid (H.out.set ht (by rw [hw]; exact H.out.e.set7 (.slice ca J cc)))
    replace HC := Lib.hid (show OT w6 wq.heap.size (.slice ca J cc) cl by rw [hw]; exact HC.out.far (p := ⟨g5, 7, none⟩) HL5.out _)
    clear hw ht
    clear y7 f7
    apply wp_region_lit
    refine wpl_loadE H.out.e rfl rfl rfl ?_
    refine wpl_storeE (1) (a) (0) (0) (0) (0) (0) ca J cc H.out.z rfl rfl rfl rfl ?_
    intro wz q1 q2 q3 q4 q5
    have hfin := H.out.fin (Turn.ofStore q2 q3 q4)
    have HOT := Lib.hid ((HC.out.blocks (fun g kk cap e => q2 g (by have h1 := (HC.out.blk e).1; have h2 := HL4.out; omega))).lower HSQ.out)
    have HQ1 := Lib.hid q1
    have HFI := Lib.hid hfin
    clear q1 q2 q3 q4 q5 hfin
    simp only [Act.put, List.setIfInBounds_toArray, List.set_cons_succ, List.set_cons_zero]
    iterate 4 go_step
    exact bodyPost_ret (results_ed1 Tryz.results46 rfl HQ1.out ⟨_, _, _, rfl⟩) rfl ⟨⟨⟨1, a, 0, 0, 0, 0, 0, cl⟩, ca, J, cc, rfl, TE.ins 1 a cl (by decide) a0 (by omega) HCO.out, HOT.out⟩, TQ.of (k' := k3) (by have := HK2.out; have := HK3.out; omega) HFI.out.1 HFI.out.2⟩
  · clear K0 K1
    go_wp2_with fail
    refine (next_any B p (k + 1) 60 _ H.out.t (by omega) (by omega) (by omega)).mono ?_
    rintro e wn ⟨a, rfl, a0, a1, hT_, hg_⟩
    have ht := Turn.grown hg_ H.out.t.2.1
    replace H := Lib.hid (H.out.turn ht hT_)
    clear hT_ hg_ ht
    go_wp2_with fail
    refine (next_any B p (k + 1 + 1) 20 _ H.out.t (by omega) (by omega) (by omega)).mono ?_
    rintro e wm ⟨m, rfl, m0, m1, hT_, hg_⟩
    have ht := Turn.grown hg_ H.out.t.2.1
    replace H := Lib.hid (H.out.turn ht hT_)
    clear hT_ hg_ ht
    have y1 := H.out.e.k1
    have f1 := H.out.e.fz 1
    have y2 := H.out.e.k2
    have f2 := H.out.e.fz 2
    go_upto_region 15 with fail
    obtain ⟨w6, hw⟩ : ∃ q, q = (wm.setCell ⟨g5, 1, none⟩ (.int .i64 a)).setCell ⟨g5, 2, none⟩ (.int .i64 (1 + m)) := ⟨_, rfl⟩
    rw [← hw]
    have ht : Turn g5 wm w6 := by rw [hw]; exact ((Turn.refl _ _).trans (Turn.cell g5 1 (.int .i64 a) _)).trans (Turn.cell g5 2 (.int .i64 (1 + m)) _)
    replace H := Lib.hid (H.out.set ht (by rw [hw]; exact (H.out.e.set1 a).set2 (1 + m)))
    clear hw ht
    clear y1 f1 y2 f2
    apply wp_region_lit
    refine wpl_loadE H.out.e rfl rfl rfl ?_
    refine wpl_storeE (2) (a) (1 + m) (0) (0) (0) (0) none 0 0 H.out.z rfl rfl rfl rfl ?_
    intro wz q1 q2 q3 q4 q5
    have hfin := H.out.fin (Turn.ofStore q2 q3 q4)
    have HOT := Lib.hid (OT.nil wz w.heap.size)
    have HQ1 := Lib.hid q1
    have HFI := Lib.hid hfin
    clear q1 q2 q3 q4 q5 hfin
    simp only [Act.put, List.setIfInBounds_toArray, List.set_cons_succ, List.set_cons_zero]
    iterate 4 go_step
    exact bodyPost_ret (results_ed1 Tryz.results46 rfl HQ1.out ⟨_, _, _, rfl⟩) rfl ⟨⟨⟨2, a, 1 + m, 0, 0, 0, 0, []⟩, none, 0, 0, rfl, TE.rem 2 a (1 + m) (by decide) a0 (by omega) (by omega) (by omega), HOT.out⟩, TQ.of (k' := k + 1 + 1 + 1) (by omega) HFI.out.1 HFI.out.2⟩
  · clear K0 K1
    go_wp2_with fail
    refine (next_any B p (k + 1) 60 _ H.out.t (by omega) (by omega) (by omega)).mono ?_
    rintro e wn ⟨a, rfl, a0, a1, hT_, hg_⟩
    have ht := Turn.grown hg_ H.out.t.2.1
    replace H := Lib.hid (H.out.turn ht hT_)
    clear hT_ hg_ ht
    have y1 := H.out.e.k1
    have f1 := H.out.e.fz 1
    go_upto_region 9 with fail
    obtain ⟨wq, hw⟩ : ∃ q, q = wn.setCell ⟨g5, 1, none⟩ (.int .i64 a) := ⟨_, rfl⟩
    rw [← hw]
    have ht : Turn g5 wn wq := by rw [hw]; exact (Turn.refl _ _).trans (Turn.cell g5 1 (.int .i64 a) _)
    replace H := Lib.hid (H.out.set ht (by rw [hw]; exact H.out.e.set1 a))
    clear hw ht
    clear y1 f1
    have HL4 := Lib.hid H.out.z.lt
    have HL5 := Lib.hid H.out.e.lt
    have HPW := Lib.hid H.out.t.2.1
    have HSQ := Lib.hid H.out.u.s
    clear e0
    go_wp2_with fail
    refine (track_any B p (k + 1 + 1) 3 wq H.out.t (by omega) (by omega)).mono ?_
    rintro e v2 ⟨⟨vl, l, rfl, ho, hs, hl⟩, ⟨k2, hk2, hT_⟩, ht⟩
    have HL := Lib.hid ho
    have HS := Lib.hid hs
    have HLL := Lib.hid hl
    have HS1 := Lib.hid (show wq.heap.size ≤ v2.heap.size from ht.s)
    replace H := Lib.hid (H.out.turn ht hT_)
    have HK2 := Lib.hid hk2
    clear ho hs hl hT_ ht hk2
    go_wp2_with fail
    refine (clip_any B p k2 _ H.out.t (by have := HK2.out; omega)).mono ?_
    rintro e v3 ⟨⟨z, rfl, hz⟩, ⟨k3, hk3, hT_⟩, ht⟩
    replace H := Lib.hid (H.out.turn ht hT_)
    replace HL := Lib.hid (HL.out.turn ht HPW.out)
    have HSZ := Lib.hid (Nat.le_trans HS1.out ht.s)
    have HK3 := Lib.hid hk3
    have HZ := Lib.hid hz
    clear hz hT_ ht hk3
    unfold clipV
    obtain ⟨C, hC⟩ : ∃ C, C = (clipC z).toArray := ⟨_, rfl⟩
    rw [← hC]
    have HCC := Lib.hid hC
    clear hC
    dsimp only
    iterate 1 go_step
    refine Great.wpList_buildSliceTo rfl 23 48 1 #[(0, .tmp 34)] rfl v3.heap.size rfl _ rfl Tryz.underlying23 C ?_ ?_
    · simp only [List.map_toArray, List.map_cons, List.map_nil, List.toList_toArray]
      rw [HCC.out]
      exact built_clip z
    have hbx : CA (v3.alloc (.cells C 48)) v3.heap.size 0 z := by rw [HCC.out]; exact CA.box v3 z 48
    have hb : Below v3.heap.size v3 (v3.alloc (.cells C 48)) := below_box _ _
    have hsz : wq.heap.size ≤ (v3.alloc (.cells C 48)).heap.size := Nat.le_trans HSZ.out hb.size
    replace HL := Lib.hid (HL.out.below hb)
    have HBX := Lib.hid hb
    clear hb
    simp only [Act.put, List.setIfInBounds_toArray, List.set_cons_succ, List.set_cons_zero]
    refine wpList_appT 23 Tryz.underlying23 _ rfl (.tmp 32) (.tmp 35) rfl rfl wq.heap.size vl l rfl HL.out hsz v3.heap.size 1 z rfl hbx (by have := HLL.out; omega) ?_
    intro vn v5 q1 q2 q3 q4
    simp only [Act.put, List.setIfInBounds_toArray, List.set_cons_succ, List.set_cons_zero]
    have hbl : Below wq.heap.size v3 v5 := (HBX.out.mono HSZ.out).trans q2
    have HC := Lib.hid q1
    replace H := Lib.hid (H.out.low hbl HL4.out HL5.out)
    have HCO := Lib.hid (clipsOK_snoc HS.out HLL.out HZ.out (by omega))
    obtain ⟨cl, hcl⟩ : ∃ cl, cl = l ++ [z] := ⟨_, rfl⟩
    rw [← hcl] at HC HCO
    clear q1 q2 q3 q4 hbl hbx hsz hcl HBX HCC HZ HS HLL HL HSZ
    obtain ⟨ca, cc, rfl, hcc⟩ := HC.out.tk
    clear hcc
    obtain ⟨J, hJ⟩ : ∃ J, J = cl.length := ⟨_, rfl⟩
    rw [← hJ] at HC ⊢
    clear hJ
    have y7 := H.out.e.k7
    have f7 := H.out.e.fz 7
    go_upto_region 15 with fail
    obtain ⟨w6, hw⟩ : ∃ q, q = v5.setCell ⟨g5, 7, none⟩ (.slice ca J cc) := ⟨_, rfl⟩
    rw [← hw]
    have ht : Turn g5 v5 w6 := by rw [hw]; exact (Turn.refl _ _).trans (Turn.cell g5 7 (.slice ca J cc) _)
    replace H := Lib.hid (H.out.set ht (by rw [hw]; exact H.out.e.set7 (.slice ca J cc)))
    replace HC := Lib.hid (show OT w6 wq.heap.size (.slice ca J cc) cl by rw [hw]; exact HC.out.far (p := ⟨g5, 7, none⟩) HL5.out _)
    clear hw ht
    clear y7 f7
    apply wp_region_lit
    refine wpl_loadE H.out.e rfl rfl rfl ?_
    refine wpl_storeE (3) (a) (0) (0) (0) (0) (0) ca J cc H.out.z rfl rfl rfl rfl ?_
    intro wz q1 q2 q3 q4 q5
    have hfin := H.out.fin (Turn.ofStore q2 q3 q4)
    have HOT := Lib.hid ((HC.out.blocks (fun g kk cap e => q2 g (by have h1 := (HC.out.blk e).1; have h2 := HL4.out; omega))).lower HSQ.out)
    have HQ1 := Lib.hid q1
    have HFI := Lib.hid hfin
    clear q1 q2 q3 q4 q5 hfin
    simp only [Act.put, List.setIfInBounds_toArray, List.set_cons_succ, List.set_cons_zero]
    iterate 4 go_step
    exact bodyPost_ret (results_ed1 Tryz.results46 rfl HQ1.out ⟨_, _, _, rfl⟩) rfl ⟨⟨⟨3, a, 0, 0, 0, 0, 0, cl⟩, ca, J, cc, rfl, TE.ins 3 a cl (by decide) a0 (by omega) HCO.out, HOT.out⟩, TQ.of (k' := k3) (by have := HK2.out; have := HK3.out; omega) HFI.out.1 HFI.out.2⟩
  · clear K0 K1
    go_wp2_with fail
    refine (next_any B p (k + 1) 60 _ H.out.t (by omega) (by omega) (by omega)).mono ?_
    rintro e wn ⟨a, rfl, a0, a1, hT_, hg_⟩
    have ht := Turn.grown hg_ H.out.t.2.1
    replace H := Lib.hid (H.out.turn ht hT_)
    clear hT_ hg_ ht
    go_wp2_with fail
    refine (next_any B p (k + 1 + 1) 20 _ H.out.t (by omega) (by omega) (by omega)).mono ?_
    rintro e wm ⟨m, rfl, m0, m1, hT_, hg_⟩
    have ht := Turn.grown hg_ H.out.t.2.1
    replace H := Lib.hid (H.out.turn ht hT_)
    clear hT_ hg_ ht
    have y1 := H.out.e.k1
    have f1 := H.out.e.fz 1
    have y2 := H.out.e.k2
    have f2 := H.out.e.fz 2
    go_upto_region 15 with fail
    obtain ⟨w6, hw⟩ : ∃ q, q = (wm.setCell ⟨g5, 1, none⟩ (.int .i64 a)).setCell ⟨g5, 2, none⟩ (.int .i64 (1 + m)) := ⟨_, rfl⟩
    rw [← hw]
    have ht : Turn g5 wm w6 := by rw [hw]; exact ((Turn.refl _ _).trans (Turn.cell g5 1 (.int .i64 a) _)).trans (Turn.cell g5 2 (.int .i64 (1 + m)) _)
    replace H := Lib.hid (H.out.set ht (by rw [hw]; exact (H.out.e.set1 a).set2 (1 + m)))
    clear hw ht
    clear y1 f1 y2 f2
    apply wp_region_lit
    refine wpl_loadE H.out.e rfl rfl rfl ?_
    refine wpl_storeE (4) (a) (1 + m) (0) (0) (0) (0) none 0 0 H.out.z rfl rfl rfl rfl ?_
    intro wz q1 q2 q3 q4 q5
    have hfin := H.out.fin (Turn.ofStore q2 q3 q4)
    have HOT := Lib.hid (OT.nil wz w.heap.size)
    have HQ1 := Lib.hid q1
    have HFI := Lib.hid hfin
    clear q1 q2 q3 q4 q5 hfin
    simp only [Act.put, List.setIfInBounds_toArray, List.set_cons_succ, List.set_cons_zero]
    iterate 4 go_step
    exact bodyPost_ret (results_ed1 Tryz.results46 rfl HQ1.out ⟨_, _, _, rfl⟩) rfl ⟨⟨⟨4, a, 1 + m, 0, 0, 0, 0, []⟩, none, 0, 0, rfl, TE.rem 4 a (1 + m) (by decide) a0 (by omega) (by omega) (by omega), HOT.out⟩, TQ.of (k' := k + 1 + 1 + 1) (by omega) HFI.out.1 HFI.out.2⟩
  · clear K0 K1
    have hn1 : (1 : Int) ≤ (n : Int) + 1 := by omega
    go_wp2_with fail
    refine (next_any B p (k + 1) ((n : Int) + 1) _ H.out.t (by omega) (by omega) (by omega)).mono ?_
    rintro e wn ⟨c, rfl, c0, c1, hT_, hg_⟩
    have ht := Turn.grown hg_ H.out.t.2.1
    replace H := Lib.hid (H.out.turn ht hT_)
    clear hT_ hg_ ht
    go_wp2_with fail
    refine (next_any B p (k + 1 + 1) 11 _ H.out.t (by omega) (by omega) (by omega)).mono ?_
    rintro e wm ⟨d, rfl, d0, d1, hT_, hg_⟩
    have ht := Turn.grown hg_ H.out.t.2.1
    replace H := Lib.hid (H.out.turn ht hT_)
    clear hT_ hg_ ht
    obtain ⟨cn, hcn⟩ : ∃ cn : Nat, c = (cn : Int) := ⟨c.toNat, by omega⟩
    subst hcn
    have y3 := H.out.e.k3
    have f3 := H.out.e.fz 3
    have y4 := H.out.e.k4
    have f4 := H.out.e.fz 4
    by_cases hd5 : d = 5
    · subst hd5
      go_upto_region 15 with fail
      obtain ⟨w6, hw⟩ : ∃ q, q = ((wm.setCell ⟨g5, 3, none⟩ (.int .i64 (cn : Int))).setCell ⟨g5, 4, none⟩ (.int .i64 0)).setCell ⟨g5, 4, none⟩ (.int .i64 6) := ⟨_, rfl⟩
      rw [← hw]
      have ht : Turn g5 wm w6 := by rw [hw]; exact (((Turn.refl _ _).trans (Turn.cell g5 3 (.int .i64 (cn : Int)) _)).trans (Turn.cell g5 4 (.int .i64 0) _)).trans (Turn.cell g5 4 (.int .i64 6) _)
      replace H := Lib.hid (H.out.set ht (by rw [hw]; exact ((H.out.e.set3 (cn : Int)).set4 0).set4 6))
      clear hw ht
      clear y3 f3 y4 f4
      apply wp_region_lit
      refine wpl_loadE H.out.e rfl rfl rfl ?_
      refine wpl_storeE (5) (0) (0) ((cn : Int)) (6) (0) (0) none 0 0 H.out.z rfl rfl rfl rfl ?_
      intro wz q1 q2 q3 q4 q5
      have hfin := H.out.fin (Turn.ofStore q2 q3 q4)
      have HOT := Lib.hid (OT.nil wz w.heap.size)
      have HQ1 := Lib.hid q1
      have HFI := Lib.hid hfin
      clear q1 q2 q3 q4 q5 hfin
      simp only [Act.put, List.setIfInBounds_toArray, List.set_cons_succ, List.set_cons_zero]
      iterate 4 go_step
      exact bodyPost_ret (results_ed1 Tryz.results46 rfl HQ1.out ⟨_, _, _, rfl⟩) rfl ⟨⟨⟨5, 0, 0, (cn : Int), 6, 0, 0, []⟩, none, 0, 0, rfl, TE.clip 5 6 cn (by decide) (by omega) (by decide) (by decide), HOT.out⟩, TQ.of (k' := k + 1 + 1 + 1) (by omega) HFI.out.1 HFI.out.2⟩
    · have hd6 : (d - 5 == 0) = false := by simp; omega
      go_upto_region 15 with fail
      obtain ⟨w6, hw⟩ : ∃ q, q = (wm.setCell ⟨g5, 3, none⟩ (.int .i64 (cn : Int))).setCell ⟨g5, 4, none⟩ (.int .i64 (d - 5)) := ⟨_, rfl⟩
      rw [← hw]
      have ht : Turn g5 wm w6 := by rw [hw]; exact ((Turn.refl _ _).trans (Turn.cell g5 3 (.int .i64 (cn : Int)) _)).trans (Turn.cell g5 4 (.int .i64 (d - 5)) _)
      replace H := Lib.hid (H.out.set ht (by rw [hw]; exact (H.out.e.set3 (cn : Int)).set4 (d - 5)))
      clear hw ht
      clear y3 f3 y4 f4
      apply wp_region_lit
      refine wpl_loadE H.out.e rfl rfl rfl ?_
      refine wpl_storeE (5) (0) (0) ((cn : Int)) (d - 5) (0) (0) none 0 0 H.out.z rfl rfl rfl rfl ?_
      intro wz q1 q2 q3 q4 q5
      have hfin := H.out.fin (Turn.ofStore q2 q3 q4)
      have HOT := Lib.hid (OT.nil wz w.heap.size)
      have HQ1 := Lib.hid q1
      have HFI := Lib.hid hfin
      clear q1 q2 q3 q4 q5 hfin
      simp only [Act.put, List.setIfInBounds_toArray, List.set_cons_succ, List.set_cons_zero]
      iterate 4 go_step
      exact bodyPost_ret (results_ed1 Tryz.results46 rfl HQ1.out ⟨_, _, _, rfl⟩) rfl ⟨⟨⟨5, 0, 0, (cn : Int), d - 5, 0, 0, []⟩, none, 0, 0, rfl, TE.clip 5 (d - 5) cn (by decide) (by omega) (by omega) (by omega), HOT.out⟩, TQ.of (k' := k + 1 + 1 + 1) (by omega) HFI.out.1 HFI.out.2⟩
  · clear K0 K1
    have hn1 : (1 : Int) ≤ (n : Int) + 1 := by omega
    go_wp2_with fail
    refine (next_any B p (k + 1) ((n : Int) + 1) _ H.out.t (by omega) (by omega) (by omega)).mono ?_
    rintro e wn ⟨c, rfl, c0, c1, hT_, hg_⟩
    have ht := Turn.grown hg_ H.out.t.2.1
    replace H := Lib.hid (H.out.turn ht hT_)
    clear hT_ hg_ ht
    go_wp2_with fail
    refine (next_any B p (k + 1 + 1) 11 _ H.out.t (by omega) (by omega) (by omega)).mono ?_
    rintro e wm ⟨d, rfl, d0, d1, hT_, hg_⟩
    have ht := Turn.grown hg_ H.out.t.2.1
    replace H := Lib.hid (H.out.turn ht hT_)
    clear hT_ hg_ ht
    obtain ⟨cn, hcn⟩ : ∃ cn : Nat, c = (cn : Int) := ⟨c.toNat, by omega⟩
    subst hcn
    have y3 := H.out.e.k3
    have f3 := H.out.e.fz 3
    have y4 := H.out.e.k4
    have f4 := H.out.e.fz 4
    by_cases hd5 : d = 5
    · subst hd5
      go_upto_region 15 with fail
      obtain ⟨w6, hw⟩ : ∃ q, q = ((wm.setCell ⟨g5, 3, none⟩ (.int .i64 (cn : Int))).setCell ⟨g5, 4, none⟩ (.int .i64 0)).setCell ⟨g5, 4, none⟩ (.int .i64 6) := ⟨_, rfl⟩
      rw [← hw]
      have ht : Turn g5 wm w6 := by rw [hw]; exact (((Turn.refl _ _).trans (Turn.cell g5 3 (.int .i64 (cn : Int)) _)).trans (Turn.cell g5 4 (.int .i64 0) _)).trans (Turn.cell g5 4 (.int .i64 6) _)
      replace H := Lib.hid (H.out.set ht (by rw [hw]; exact ((H.out.e.set3 (cn : Int)).set4 0).set4 6))
      clear hw ht
      clear y3 f3 y4 f4
      apply wp_region_lit
      refine wpl_loadE H.out.e rfl rfl rfl ?_
      refine wpl_storeE (6) (0) (0) ((cn : Int)) (6) (0) (0) none 0 0 H.out.z rfl rfl rfl rfl ?_
      intro wz q1 q2 q3 q4 q5
      have hfin := H.out.fin (Turn.ofStore q2 q3 q4)
      have HOT := Lib.hid (OT.nil wz w.heap.size)
      have HQ1 := Lib.hid q1
      have HFI := Lib.hid hfin
      clear q1 q2 q3 q4 q5 hfin
      simp only [Act.put, List.setIfInBounds_toArray, List.set_cons_succ, List.set_cons_zero]
      iterate 4 go_step
      exact bodyPost_ret (results_ed1 Tryz.results46 rfl HQ1.out ⟨_, _, _, rfl⟩) rfl ⟨⟨⟨6, 0, 0, (cn : Int), 6, 0, 0, []⟩, none, 0, 0, rfl, TE.clip 6 6 cn (by decide) (by omega) (by decide) (by decide), HOT.out⟩, TQ.of (k' := k + 1 + 1 + 1) (by omega) HFI.out.1 HFI.out.2⟩
    · have hd6 : (d - 5 == 0) = false := by simp; omega
      go_upto_region 15 with fail
      obtain ⟨w6, hw⟩ : ∃ q, q = (wm.setCell ⟨g5, 3, none⟩ (.int .i64 (cn : Int))).setCell ⟨g5, 4, none⟩ (.int .i64 (d - 5)) := ⟨_, rfl⟩
      rw [← hw]
      have ht : Turn g5 wm w6 := by rw [hw]; exact ((Turn.refl _ _).trans (Turn.cell g5 3 (.int .i64 (cn : Int)) _)).trans (Turn.cell g5 4 (.int .i64 (d - 5)) _)
      replace H := Lib.hid (H.out.set ht (by rw [hw]; exact (H.out.e.set3 (cn : Int)).set4 (d - 5)))
      clear hw ht
      clear y3 f3 y4 f4
      apply wp_region_lit
      refine wpl_loadE H.out.e rfl rfl rfl ?_
      refine wpl_storeE (6) (0) (0) ((cn : Int)) (d - 5) (0) (0) none 0 0 H.out.z rfl rfl rfl rfl ?_
      intro wz q1 q2 q3 q4 q5
      have hfin := H.out.fin (Turn.ofStore q2 q3 q4)
      have HOT := Lib.hid (OT.nil wz w.heap.size)
      have HQ1 := Lib.hid q1
      have HFI := Lib.hid hfin
      clear q1 q2 q3 q4 q5 hfin
      simp only [Act.put, List.setIfInBounds_toArray, List.set_cons_succ, List.set_cons_zero]
      iterate 4 go_step
      exact bodyPost_ret (results_ed1 Tryz.results46 rfl HQ1.out ⟨_, _, _, rfl⟩) rfl ⟨⟨⟨6, 0, 0, (cn : Int), d - 5, 0, 0, []⟩, none, 0, 0, rfl, TE.clip 6 (d - 5) cn (by decide) (by omega) (by omega) (by omega), HOT.out⟩, TQ.of (k' := k + 1 + 1 + 1) (by omega) HFI.out.1 HFI.out.2⟩
  · clear K0 K1
    have hn1 : (1 : Int) ≤ (n : Int) + 1 := by omega
    go_wp2_with fail
    refine (next_any B p (k + 1) ((n : Int) + 1) _ H.out.t (by omega) (by omega) (by omega)).mono ?_
    rintro e wn ⟨c, rfl, c0, c1, hT_, hg_⟩
    have ht := Turn.grown hg_ H.out.t.2.1
    replace H := Lib.hid (H.out.turn ht hT_)
    clear hT_ hg_ ht
    go_wp2_with fail
    refine (next_any B p (k + 1 + 1) 11 _ H.out.t (by omega) (by omega) (by omega)).mono ?_
    rintro e wm ⟨d, rfl, d0, d1, hT_, hg_⟩
    have ht := Turn.grown hg_ H.out.t.2.1
    replace H := Lib.hid (H.out.turn ht hT_)
    clear hT_ hg_ ht
    obtain ⟨cn, hcn⟩ : ∃ cn : Nat, c = (cn : Int) := ⟨c.toNat, by omega⟩
    subst hcn
    have y3 := H.out.e.k3
    have f3 := H.out.e.fz 3
    have y4 := H.out.e.k4
    have f4 := H.out.e.fz 4
    by_cases hd5 : d = 5
    · subst hd5
      go_upto_region 15 with fail
      obtain ⟨w6, hw⟩ : ∃ q, q = ((wm.setCell ⟨g5, 3, none⟩ (.int .i64 (cn : Int))).setCell ⟨g5, 4, none⟩ (.int .i64 0)).setCell ⟨g5, 4, none⟩ (.int .i64 6) := ⟨_, rfl⟩
      rw [← hw]
      have ht : Turn g5 wm w6 := by rw [hw]; exact (((Turn.refl _ _).trans (Turn.cell g5 3 (.int .i64 (cn : Int)) _)).trans (Turn.cell g5 4 (.int .i64 0) _)).trans (Turn.cell g5 4 (.int .i64 6) _)
      replace H := Lib.hid (H.out.set ht (by rw [hw]; exact ((H.out.e.set3 (cn : Int)).set4 0).set4 6))
      clear hw ht
      clear y3 f3 y4 f4
      apply wp_region_lit
      refine wpl_loadE H.out.e rfl rfl rfl ?_
      refine wpl_storeE (7) (0) (0) ((cn : Int)) (6) (0) (0) none 0 0 H.out.z rfl rfl rfl rfl ?_
      intro wz q1 q2 q3 q4 q5
      have hfin := H.out.fin (Turn.ofStore q2 q3 q4)
      have HOT := Lib.hid (OT.nil wz w.heap.size)
      have HQ1 := Lib.hid q1
      have HFI := Lib.hid hfin
      clear q1 q2 q3 q4 q5 hfin
      simp only [Act.put, List.setIfInBounds_toArray, List.set_cons_succ, List.set_cons_zero]
      iterate 4 go_step
      exact bodyPost_ret (results_ed1 Tryz.results46 rfl HQ1.out ⟨_, _, _, rfl⟩) rfl ⟨⟨⟨7, 0, 0, (cn : Int), 6, 0, 0, []⟩, none, 0, 0, rfl, TE.clip 7 6 cn (by decide) (by omega) (by decide) (by decide), HOT.out⟩, TQ.of (k' := k + 1 + 1 + 1) (by omega) HFI.out.1 HFI.out.2⟩
    · have hd6 : (d - 5 == 0) = false := by simp; omega
      go_upto_region 15 with fail
      obtain ⟨w6, hw⟩ : ∃ q, q = (wm.setCell ⟨g5, 3, none⟩ (.int .i64 (cn : Int))).setCell ⟨g5, 4, none⟩ (.int .i64 (d - 5)) := ⟨_, rfl⟩
      rw [← hw]
      have ht : Turn g5 wm w6 := by rw [hw]; exact ((Turn.refl _ _).trans (Turn.cell g5 3 (.int .i64 (cn : Int)) _)).trans (Turn.cell g5 4 (.int .i64 (d - 5)) _)
      replace H := Lib.hid (H.out.set ht (by rw [hw]; exact (H.out.e.set3 (cn : Int)).set4 (d - 5)))
      clear hw ht
      clear y3 f3 y4 f4
      apply wp_region_lit
      refine wpl_loadE H.out.e rfl rfl rfl ?_
      refine wpl_storeE (7) (0) (0) ((cn : Int)) (d - 5) (0) (0) none 0 0 H.out.z rfl rfl rfl rfl ?_
      intro wz q1 q2 q3 q4 q5
      have hfin := H.out.fin (Turn.ofStore q2 q3 q4)
      have HOT := Lib.hid (OT.nil wz w.heap.size)
      have HQ1 := Lib.hid q1
      have HFI := Lib.hid hfin
      clear q1 q2 q3 q4 q5 hfin
      simp only [Act.put, List.setIfInBounds_toArray, List.set_cons_succ, List.set_cons_zero]
      iterate 4 go_step
      exact bodyPost_ret (results_ed1 Tryz.results46 rfl HQ1.out ⟨_, _, _, rfl⟩) rfl ⟨⟨⟨7, 0, 0, (cn : Int), d - 5, 0, 0, []⟩, none, 0, 0, rfl, TE.clip 7 (d - 5) cn (by decide) (by omega) (by omega) (by omega), HOT.out⟩, TQ.of (k' := k + 1 + 1 + 1) (by omega) HFI.out.1 HFI.out.2⟩
  · clear K0 K1
    have hn1 : (1 : Int) ≤ (n : Int) + 1 := by omega
    go_wp2_with fail
    refine (next_any B p (k + 1) ((n : Int) + 1) _ H.out.t (by omega) (by omega) (by omega)).mono ?_
    rintro e wn ⟨c, rfl, c0, c1, hT_, hg_⟩
    have ht := Turn.grown hg_ H.out.t.2.1
    replace H := Lib.hid (H.out.turn ht hT_)
    clear hT_ hg_ ht
    go_wp2_with fail
    refine (next_any B p (k + 1 + 1) 11 _ H.out.t (by omega) (by omega) (by omega)).mono ?_
    rintro e wm ⟨d, rfl, d0, d1, hT_, hg_⟩
    have ht := Turn.grown hg_ H.out.t.2.1
    replace H := Lib.hid (H.out.turn ht hT_)
    clear hT_ hg_ ht
    obtain ⟨cn, hcn⟩ : ∃ cn : Nat, c = (cn : Int) := ⟨c.toNat, by omega⟩
    subst hcn
    have y3 := H.out.e.k3
    have f3 := H.out.e.fz 3
    have y4 := H.out.e.k4
    have f4 := H.out.e.fz 4
    by_cases hd5 : d = 5
    · subst hd5
      go_upto_region 15 with fail
      obtain ⟨w6, hw⟩ : ∃ q, q = ((wm.setCell ⟨g5, 3, none⟩ (.int .i64 (cn : Int))).setCell ⟨g5, 4, none⟩ (.int .i64 0)).setCell ⟨g5, 4, none⟩ (.int .i64 6) := ⟨_, rfl⟩
      rw [← hw]
      have ht : Turn g5 wm w6 := by rw [hw]; exact (((Turn.refl _ _).trans (Turn.cell g5 3 (.int .i64 (cn : Int)) _)).trans (Turn.cell g5 4 (.int .i64 0) _)).trans (Turn.cell g5 4 (.int .i64 6) _)
      replace H := Lib.hid (H.out.set ht (by rw [hw]; exact ((H.out.e.set3 (cn : Int)).set4 0).set4 6))
      clear hw ht
      clear y3 f3 y4 f4
      apply wp_region_lit
      refine wpl_loadE H.out.e rfl rfl rfl ?_
      refine wpl_storeE (8) (0) (0) ((cn : Int)) (6) (0) (0) none 0 0 H.out.z rfl rfl rfl rfl ?_
      intro wz q1 q2 q3 q4 q5
      have hfin := H.out.fin (Turn.ofStore q2 q3 q4)
      have HOT := Lib.hid (OT.nil wz w.heap.size)
      have HQ1 := Lib.hid q1
      have HFI := Lib.hid hfin
      clear q1 q2 q3 q4 q5 hfin
      simp only [Act.put, List.setIfInBounds_toArray, List.set_cons_succ, List.set_cons_zero]
      iterate 4 go_step
      exact bodyPost_ret (results_ed1 Tryz.results46 rfl HQ1.out ⟨_, _, _, rfl⟩) rfl ⟨⟨⟨8, 0, 0, (cn : Int), 6, 0, 0, []⟩, none, 0, 0, rfl, TE.clip 8 6 cn (by decide) (by omega) (by decide) (by decide), HOT.out⟩, TQ.of (k' := k + 1 + 1 + 1) (by omega) HFI.out.1 HFI.out.2⟩
    · have hd6 : (d - 5 == 0) = false := by simp; omega
      go_upto_region 15 with fail
      obtain ⟨w6, hw⟩ : ∃ q, q = (wm.setCell ⟨g5, 3, none⟩ (.int .i64 (cn : Int))).setCell ⟨g5, 4, none⟩ (.int .i64 (d - 5)) := ⟨_, rfl⟩
      rw [← hw]
      have ht : Turn g5 wm w6 := by rw [hw]; exact ((Turn.refl _ _).trans (Turn.cell g5 3 (.int .i64 (cn : Int)) _)).trans (Turn.cell g5 4 (.int .i64 (d - 5)) _)
      replace H := Lib.hid (H.out.set ht (by rw [hw]; exact (H.out.e.set3 (cn : Int)).set4 (d - 5)))
      clear hw ht
      clear y3 f3 y4 f4
      apply wp_region_lit
      refine wpl_loadE H.out.e rfl rfl rfl ?_
      refine wpl_storeE (8) (0) (0) ((cn : Int)) (d - 5) (0) (0) none 0 0 H.out.z rfl rfl rfl rfl ?_
      intro wz q1 q2 q3 q4 q5
      have hfin := H.out.fin (Turn.ofStore q2 q3 q4)
      have HOT := Lib.hid (OT.nil wz w.heap.size)
      have HQ1 := Lib.hid q1
      have HFI := Lib.hid hfin
      clear q1 q2 q3 q4 q5 hfin
      simp only [Act.put, List.setIfInBounds_toArray, List.set_cons_succ, List.set_cons_zero]
      iterate 4 go_step
      exact bodyPost_ret (results_ed1 Tryz.results46 rfl HQ1.out ⟨_, _, _, rfl⟩) rfl ⟨⟨⟨8, 0, 0, (cn : Int), d - 5, 0, 0, []⟩, none, 0, 0, rfl, TE.clip 8 (d - 5) cn (by decide) (by omega) (by omega) (by omega), HOT.out⟩, TQ.of (k' := k + 1 + 1 + 1) (by omega) HFI.out.1 HFI.out.2⟩
  · clear K0 K1
    have hn1 : (1 : Int) ≤ (n : Int) + 1 := by omega
    go_wp2_with fail
    refine (next_any B p (k + 1) ((n : Int) + 1) _ H.out.t (by omega) (by omega) (by omega)).mono ?_
    rintro e wn ⟨c, rfl, c0, c1, hT_, hg_⟩
    have ht := Turn.grown hg_ H.out.t.2.1
    replace H := Lib.hid (H.out.turn ht hT_)
    clear hT_ hg_ ht
    go_wp2_with fail
    refine (next_any B p (k + 1 + 1) 11 _ H.out.t (by omega) (by omega) (by omega)).mono ?_
    rintro e wm ⟨d, rfl, d0, d1, hT_, hg_⟩
    have ht := Turn.grown hg_ H.out.t.2.1
    replace H := Lib.hid (H.out.turn ht hT_)
    clear hT_ hg_ ht
    obtain ⟨cn, hcn⟩ : ∃ cn : Nat, c = (cn : Int) := ⟨c.toNat, by omega⟩
    subst hcn
    have y3 := H.out.e.k3
    have f3 := H.out.e.fz 3
    have y4 := H.out.e.k4
    have f4 := H.out.e.fz 4
    by_cases hd5 : d = 5
    · subst hd5
      go_upto_region 15 with fail
      obtain ⟨w6, hw⟩ : ∃ q, q = ((wm.setCell ⟨g5, 3, none⟩ (.int .i64 (cn : Int))).setCell ⟨g5, 4, none⟩ (.int .i64 0)).setCell ⟨g5, 4, none⟩ (.int .i64 6) := ⟨_, rfl⟩
      rw [← hw]
      have ht : Turn g5 wm w6 := by rw [hw]; exact (((Turn.refl _ _).trans (Turn.cell g5 3 (.int .i64 (cn : Int)) _)).trans (Turn.cell g5 4 (.int .i64 0) _)).trans (Turn.cell g5 4 (.int .i64 6) _)
      replace H := Lib.hid (H.out.set ht (by rw [hw]; exact ((H.out.e.set3 (cn : Int)).set4 0).set4 6))
      clear hw ht
      clear y3 f3 y4 f4
      apply wp_region_lit
      refine wpl_loadE H.out.e rfl rfl rfl ?_
      refine wpl_storeE (9) (0) (0) ((cn : Int)) (6) (0) (0) none 0 0 H.out.z rfl rfl rfl rfl ?_
      intro wz q1 q2 q3 q4 q5
      have hfin := H.out.fin (Turn.ofStore q2 q3 q4)
      have HOT := Lib.hid (OT.nil wz w.heap.size)
      have HQ1 := Lib.hid q1
      have HFI := Lib.hid hfin
      clear q1 q2 q3 q4 q5 hfin
      simp only [Act.put, List.setIfInBounds_toArray, List.set_cons_succ, List.set_cons_zero]
      iterate 4 go_step
      exact bodyPost_ret (results_ed1 Tryz.results46 rfl HQ1.out ⟨_, _, _, rfl⟩) rfl ⟨⟨⟨9, 0, 0, (cn : Int), 6, 0, 0, []⟩, none, 0, 0, rfl, TE.clip 9 6 cn (by decide) (by omega) (by decide) (by decide), HOT.out⟩, TQ.of (k' := k + 1 + 1 + 1) (by omega) HFI.out.1 HFI.out.2⟩
    · have hd6 : (d - 5 == 0) = false := by simp; omega
      go_upto_region 15 with fail
      obtain ⟨w6, hw⟩ : ∃ q, q = (wm.setCell ⟨g5, 3, none⟩ (.int .i64 (cn : Int))).setCell ⟨g5, 4, none⟩ (.int .i64 (d - 5)) := ⟨_, rfl⟩
      rw [← hw]
      have ht : Turn g5 wm w6 := by rw [hw]; exact ((Turn.refl _ _).trans (Turn.cell g5 3 (.int .i64 (cn : Int)) _)).trans (Turn.cell g5 4 (.int .i64 (d - 5)) _)
      replace H := Lib.hid (H.out.set ht (by rw [hw]; exact (H.out.e.set3 (cn : Int)).set4 (d - 5)))
      clear hw ht
      clear y3 f3 y4 f4
      apply wp_region_lit
      refine wpl_loadE H.out.e rfl rfl rfl ?_
      refine wpl_storeE (9) (0) (0) ((cn : Int)) (d - 5) (0) (0) none 0 0 H.out.z rfl rfl rfl rfl ?_
      intro wz q1 q2 q3 q4 q5
      have hfin := H.out.fin (Turn.ofStore q2 q3 q4)
      have HOT := Lib.hid (OT.nil wz w.heap.size)
      have HQ1 := Lib.hid q1
      have HFI := Lib.hid hfin
      clear q1 q2 q3 q4 q5 hfin
      simp only [Act.put, List.setIfInBounds_toArray, List.set_cons_succ, List.set_cons_zero]
      iterate 4 go_step
      exact bodyPost_ret (results_ed1 Tryz.results46 rfl HQ1.out ⟨_, _, _, rfl⟩) rfl ⟨⟨⟨9, 0, 0, (cn : Int), d - 5, 0, 0, []⟩, none, 0, 0, rfl, TE.clip 9 (d - 5) cn (by decide) (by omega) (by omega) (by omega), HOT.out⟩, TQ.of (k' := k + 1 + 1 + 1) (by omega) HFI.out.1 HFI.out.2⟩
  · clear K0 K1
    have hn1 : (1 : Int) ≤ (n : Int) + 1 := by omega
    go_wp2_with fail
    refine (next_any B p (k + 1) ((n : Int) + 1) _ H.out.t (by omega) (by omega) (by omega)).mono ?_
    rintro e wn ⟨c, rfl, c0, c1, hT_, hg_⟩
    have ht := Turn.grown hg_ H.out.t.2.1
    replace H := Lib.hid (H.out.turn ht hT_)
    clear hT_ hg_ ht
    go_wp2_with fail
    refine (speed_any B p (k + 1 + 1) _ H.out.t (by omega)).mono ?_
    rintro e wm ⟨⟨sn, sd, rfl, hsp⟩, ⟨k3, hk3, hT_⟩, ht⟩
    replace H := Lib.hid (H.out.turn ht hT_)
    have HSP := Lib.hid hsp
    have HK3 := Lib.hid hk3
    clear hsp hT_ ht hk3
    obtain ⟨cn, hcn⟩ : ∃ cn : Nat, c = (cn : Int) := ⟨c.toNat, by omega⟩
    subst hcn
    have y3 := H.out.e.k3
    have f3 := H.out.e.fz 3
    have y5 := H.out.e.k5
    have f5 := H.out.e.fz 5
    have y6 := H.out.e.k6
    have f6 := H.out.e.fz 6
    go_upto_region 15 with fail
    obtain ⟨w6, hw⟩ : ∃ q, q = ((wm.setCell ⟨g5, 3, none⟩ (.int .i64 (cn : Int))).setCell ⟨g5, 5, none⟩ (.int .i64 sn)).setCell ⟨g5, 6, none⟩ (.int .i64 sd) := ⟨_, rfl⟩
    rw [← hw]
    have ht : Turn g5 wm w6 := by rw [hw]; exact (((Turn.refl _ _).trans (Turn.cell g5 3 (.int .i64 (cn : Int)) _)).trans (Turn.cell g5 5 (.int .i64 sn) _)).trans (Turn.cell g5 6 (.int .i64 sd) _)
    replace H := Lib.hid (H.out.set ht (by rw [hw]; exact (H.out.e.set3 (cn : Int)).set56 sn sd))
    clear hw ht
    clear y3 f3 y5 f5 y6 f6
    apply wp_region_lit
    refine wpl_loadE H.out.e rfl rfl rfl ?_
    refine wpl_storeE (10) (0) (0) ((cn : Int)) (0) (sn) (sd) none 0 0 H.out.z rfl rfl rfl rfl ?_
    intro wz q1 q2 q3 q4 q5
    have hfin := H.out.fin (Turn.ofStore q2 q3 q4)
    have HOT := Lib.hid (OT.nil wz w.heap.size)
    have HQ1 := Lib.hid q1
    have HFI := Lib.hid hfin
    clear q1 q2 q3 q4 q5 hfin
    simp only [Act.put, List.setIfInBounds_toArray, List.set_cons_succ, List.set_cons_zero]
    iterate 4 go_step
    exact bodyPost_ret (results_ed1 Tryz.results46 rfl HQ1.out ⟨_, _, _, rfl⟩) rfl ⟨⟨⟨10, 0, 0, (cn : Int), 0, sn, sd, []⟩, none, 0, 0, rfl, TE.speed sn sd cn (by omega) HSP.out, HOT.out⟩, TQ.of (k' := k3) (by have := HK3.out; omega) HFI.out.1 HFI.out.2⟩
end Go.Proofs.YtfoohocgdcgbcaaGreat
