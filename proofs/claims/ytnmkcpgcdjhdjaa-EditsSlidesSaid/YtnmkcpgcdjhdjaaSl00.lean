/- Rows.EditsSlidesSaid is proved here, for every input; the walk is law_slides. -/
import Derived.BigQuiet
import Derived.Test.YtnmkcpgcdjhdjaaRows
import Derived.WalkKit
import Derived.ProofKit
import Derived.OpenShut
import Derived.Test.YtnmkcpgcdjhdjaaEx12
import Derived.Test.YtnmkcpgcdjhdjaaRo00
set_option linter.unusedVariables false
set_option linter.unusedSimpArgs false

/- The law of the slides. -/
namespace Go.Proofs.Ytnmkcpgcdjhdjaa
open Go.RowKit
set_option linter.unusedVariables false
set_option linter.unusedSimpArgs false
set_option maxRecDepth 100000 in
set_option maxHeartbeats 16000000 in
theorem law_slides (v : Value) (a m : Int) (w : World) (h : Ints w v) (ha : -9223372036854775808 ≤ a ∧ a ≤ 9223372036854775807) (hm : -128 ≤ m ∧ m ≤ 127) :
    Calls Try.prog 12 #[v, .int .i64 a, .int .i8 m] w fun e w' => e = .returned (.bool true) ∧ Below w.heap.size w w' := by
  obtain ⟨ha0, ha1⟩ := ha
  obtain ⟨hm0, hm1⟩ := hm
  have HMA := Lib.hid (made_any v w h)
  clear h
  go_enter Try.func12, Try.ntmps12
  go_wp2_with fail
  refine HMA.out.mono ?_
  rintro e w1 ⟨vt, t, p, k', rfl, ho, hmd, htp, hk', hb⟩
  have HO := Lib.hid ho
  have HM := Lib.hid hmd
  have HB := Lib.hid hb
  clear ho hmd htp hk' hb HMA
  obtain ⟨ta, tc, rfl, htc⟩ := HO.out.tk
  obtain ⟨N, hN⟩ : ∃ N, N = t.length := ⟨_, rfl⟩
  have hN1 : 1 ≤ N := by
    rw [hN]
    have := HM.out.ne
    cases t with
    | nil => exact absurd rfl this
    | cons => simp
  have hN2 : N ≤ 13 := by rw [hN]; exact HM.out.l
  rw [← hN] at HO ⊢
  have HN := Lib.hid hN
  clear hN htc
  have hN0 : ¬ (N : Int) = 0 := by omega
  go_upto_region 3 with fail
  obtain ⟨d, hd⟩ : ∃ d, d = m.tmod 9 := ⟨_, rfl⟩
  have d0 := tmod9 m
  rw [← hd] at d0 ⊢
  rw [wrap_in d (by omega)]
  clear hd hm0 hm1
  by_cases hN3 : N < 3
  · have hN3' : decide ((N : Int) < 3) = true := decide_eq_true (by omega)
    go_wp2_with fail
    refine (awake_any _).mono ?_
    rintro e w8 ⟨rfl, hb⟩
    replace HB := Lib.hid (HB.out.trans (hb.mono HB.out.size))
    clear hb
    go_wp2_with fail
    go_ret
    exact ⟨rfl, HB.out⟩
  have hN3' : decide ((N : Int) < 3) = false := decide_eq_false (by omega)
  by_cases hm2 : d = 0
  · have hm2' : (d == 0) = true := by simp [hm2]
    clear hm2
    go_wp2_with fail
    refine (awake_any _).mono ?_
    rintro e w8 ⟨rfl, hb⟩
    replace HB := Lib.hid (HB.out.trans (hb.mono HB.out.size))
    clear hb
    go_wp2_with fail
    go_ret
    exact ⟨rfl, HB.out⟩
  have hm2' : (d == 0) = false := by simp [hm2]
  go_upto_region 6 with fail
  obtain ⟨c, hc, hcN, hc0⟩ := index_of2 a N (by omega) (by omega)
  rw [hc, wrap_in (c : Int) (by omega)]
  clear hc ha0 ha1 hm2' hN3' hN3
  have HAP := Lib.hid (fun w (h : Tk w (.slice ta N tc) t) => apply_made (.slice ta N tc) t 9 c d w h HM.out (by decide) (by omega) (by omega))
  go_wp2_with fail
  refine (HAP.out _ HO.out.tk).mono ?_
  rintro e w2 ⟨vu, x1, x2, x3, ra, rl, rc, code, rfl, hb, hres⟩
  have HR := Lib.hid hres
  replace HO := Lib.hid (HO.out.below hb)
  replace HB := Lib.hid (HB.out.trans (hb.mono HB.out.size))
  clear hb hres HAP
  try dsimp only
  iterate 19 go_step
  have hv : ED (w2.alloc (.cells (edC 0 0 0 0 0 0 0 (.slice none 0 0)) 26)) w2.heap.size 0 0 0 0 0 0 0 (.slice none 0 0) := ED.box w2 0 0 0 0 0 0 0 (.slice none 0 0) rfl 26
  have hb0 : Below w2.heap.size w2 (w2.alloc (.cells (edC 0 0 0 0 0 0 0 (.slice none 0 0)) 26)) := below_box _ _
  refine wpl_storeE x1 x2 x3 0 0 0 0 ra rl rc hv rfl rfl rfl rfl ?_
  intro w3 q1 q2 q3 q4 q5
  have hb : Below w2.heap.size w2 w3 := q4 _ _ (Nat.le_refl _) hb0
  replace HR := Lib.hid (HR.out.below hb)
  replace HO := Lib.hid (HO.out.below hb)
  replace HB := Lib.hid (HB.out.trans (hb.mono HB.out.size))
  obtain ⟨gE, hgE⟩ : ∃ g, g = w2.heap.size := ⟨_, rfl⟩
  rw [← hgE]
  clear q1 q2 q3 q4 q5 hb hb0 hv hgE
  simp only [Act.put, List.setIfInBounds_toArray, List.set_cons_succ, List.set_cons_zero]
  rcases HR.out with ⟨rfl, hd0, h0, hou, -⟩ | ⟨hne, hc1, hc2, -, rfl⟩
  rotate_left
  · have hne' : (code == 0) = false := by simp [hne]
    clear HR
    go_wp2_with fail
    refine (awake_any _).mono ?_
    rintro e w8 ⟨rfl, hb⟩
    replace HB := Lib.hid (HB.out.trans (hb.mono HB.out.size))
    clear hb
    go_wp2_with fail
    go_ret
    exact ⟨rfl, HB.out⟩
  obtain ⟨x, hx⟩ : ∃ x, t[c]? = some x := ⟨_, List.getElem?_eq_getElem (by rw [← HN.out]; omega)⟩
  obtain ⟨ta', tc', e, _, _, hT⟩ := HO.out.tk
  simp only [Value.slice.injEq] at e
  obtain ⟨rfl, -, rfl⟩ := e
  obtain ⟨b, o, rfl, hA⟩ := hT c x hx
  clear hT
  have HRIP := Lib.hid (slide_of HM.out hx hc0 (by rw [← HN.out]; exact hcN) hd0 (by omega) h0)
  obtain ⟨U, hU⟩ : ∃ U, U = Trk.nf (Trk.adjL t 9 c d 0 0) := ⟨_, rfl⟩
  rw [← hU] at hou HRIP
  have HU := Lib.hid hou
  have HLM := Lib.hid (len_of_made HM.out hx)
  obtain ⟨s, hs⟩ : ∃ s, s = Trk.total (t.take c) := ⟨_, rfl⟩
  obtain ⟨e, he⟩ : ∃ e, e = Trk.total (t.take (c + 1)) := ⟨_, rfl⟩
  obtain ⟨T, hT⟩ : ∃ T, T = Trk.total t := ⟨_, rfl⟩
  have hln := Lib.hid (fun w (h : Tk w (.slice (some ⟨b, o, none⟩) N tc) t) => length_any (.slice (some ⟨b, o, none⟩) N tc) t w h HM.out.vt (by decide))
  have hst := Lib.hid (fun w (h : Tk w (.slice (some ⟨b, o, none⟩) N tc) t) => starts_next (.slice (some ⟨b, o, none⟩) N tc) t c w h HM.out (by rw [← HN.out]; omega))
  have hst0 := Lib.hid (fun w (h : Tk w (.slice (some ⟨b, o, none⟩) N tc) t) => starts_at (.slice (some ⟨b, o, none⟩) N tc) t c w h HM.out (by rw [← HN.out]; omega))
  have hT1 := HM.out.tt
  rw [← hs, ← he] at HRIP HLM
  rw [← hT] at hln HLM hT1
  rw [← he] at hst
  rw [← hs] at hst0
  obtain ⟨l0, l1, l2, l3, l4⟩ := HLM.out
  have hci : (c : Int) < (N : Int) := by omega
  have HA := Lib.hid hA
  have n1 := HRIP.out.sd
  have l5 : e ≤ T := by omega
  have HL4 := Lib.hid l4
  clear hou hU hs he hT h0 HR HLM hx hA hd0 l4
  go_wp2_with fail
  refine (hst0.out _ HO.out.tk).mono ?_
  rintro e' w4 ⟨rfl, hb⟩
  replace HU := Lib.hid (HU.out.below hb)
  replace HO := Lib.hid (HO.out.below hb)
  replace HA := Lib.hid (HA.out.below hb)
  replace HB := Lib.hid (HB.out.trans (hb.mono HB.out.size))
  clear hb
  go_wp2_with fail
  refine (hst.out _ HO.out.tk).mono ?_
  rintro e' w5 ⟨rfl, hb⟩
  replace HU := Lib.hid (HU.out.below hb)
  replace HO := Lib.hid (HO.out.below hb)
  replace HA := Lib.hid (HA.out.below hb)
  replace HB := Lib.hid (HB.out.trans (hb.mono HB.out.size))
  clear hb
  have x0 := HA.out.k0
  have l4 : 0 ≤ e ∧ s ≤ e := by have := HL4.out; omega
  go_wp2_with fail
  refine (lequal_any (L := bigM) vu (.slice (some ⟨b, o, none⟩) N tc) U t (s + d) s x.len _ HU.out.tk HO.out.tk HRIP.out.v HM.out.big bigM_le (by omega) (by omega) (by omega) (by omega) (by omega) (by omega) HRIP.out.own).mono ?_
  rintro e' w6 ⟨rfl, hb⟩
  clear x0 HA
  replace HU := Lib.hid (HU.out.below hb)
  replace HO := Lib.hid (HO.out.below hb)
  replace HB := Lib.hid (HB.out.trans (hb.mono HB.out.size))
  clear hb
  go_wp2_with fail
  refine (lequal_any (L := bigM) vu (.slice (some ⟨b, o, none⟩) N tc) U t 0 0 (min s (s + d)) _ HU.out.tk HO.out.tk HRIP.out.v HM.out.big bigM_le (by omega) (by omega) (by omega) (by omega) (by omega) (by omega) HRIP.out.lo).mono ?_
  rintro e' w6 ⟨rfl, hb⟩
  replace HU := Lib.hid (HU.out.below hb)
  replace HO := Lib.hid (HO.out.below hb)
  replace HB := Lib.hid (HB.out.trans (hb.mono HB.out.size))
  clear hb
  go_wp2_with fail
  refine (hln.out _ HO.out.tk).mono ?_
  rintro e' w7 ⟨rfl, hb⟩
  replace HU := Lib.hid (HU.out.below hb)
  replace HO := Lib.hid (HO.out.below hb)
  replace HB := Lib.hid (HB.out.trans (hb.mono HB.out.size))
  clear hb
  go_wp2_with fail
  refine (lequal_any (L := bigM) vu (.slice (some ⟨b, o, none⟩) N tc) U t (max e (e + d)) (max e (e + d)) (T - max e (e + d) + 2) _ HU.out.tk HO.out.tk HRIP.out.v HM.out.big bigM_le (by omega) (by omega) (by omega) (by omega) (by omega) (by omega) (fun i i0 _ => HRIP.out.hi i i0)).mono ?_
  rintro e' w9 ⟨rfl, hb⟩
  replace HU := Lib.hid (HU.out.below hb)
  replace HO := Lib.hid (HO.out.below hb)
  replace HB := Lib.hid (HB.out.trans (hb.mono HB.out.size))
  clear hb
  go_wp2_with fail
  refine (awake_any _).mono ?_
  rintro e w8 ⟨rfl, hb⟩
  replace HB := Lib.hid (HB.out.trans (hb.mono HB.out.size))
  clear hb
  go_wp2_with fail
  go_ret
  exact ⟨rfl, HB.out⟩
end Go.Proofs.Ytnmkcpgcdjhdjaa


namespace Go.Proofs.Ytnmkcpgcdjhdjaa.editsSlides
open Go.ChangeShapes Go.WideShapes Go.ChangeAt Go.RowKit
set_option linter.unusedVariables false

theorem own : ownKnob Try.prog.godebug = none := by kernel_rfl

set_option maxRecDepth 100000 in
theorem lifted (os : Os) (started : os.Started) (H : Type) (enc : TypeId × Value → H) :
    ReturnsInHanded {} Try.checked os 12 .any (Rows.editsSlidesSpec.pre6 enc Try.prog Try.f12 Rows.editsSlidesRow.domain false) (Rows.editsSlidesSpec.post enc Try.prog Try.f12 false true false false) := by
  refine returnsInHanded_of_change (C := Try.checked) own started (by kernel_rfl) Try.func12
    (ChangeSpec.witness6 (enc := enc) (C := Try.checked) false ⟨#[], #[.slice none 0 0, .int .i64 0, .int .i8 0], []⟩ 8 (by kernel_rfl) (by kernel_rfl) (by kernel_rfl) (by kernel_rfl)) ?_
  intro W base args ds gs before hval0 hW hcnd _
  have hval : ∀ (j : Nat) t v, Try.f12.params[j]? = some t → args[j]? = some v → Value.okWide Try.prog W .any base t v := hval0
  have hW' := hW
  obtain ⟨p, q, hA0, hV, rfl, hfz, hnd⟩ := hW
  have hA : DataW.TrodAll enc Try.prog W 0 (fun _ => true) true Try.f12.params.toList args.toList ds p := hA0
  have hAk := hA
  rw [Try.params12] at hA hval
  obtain ⟨v0, vs0, d0, ds0, p0, q0, hargs, rfl, rfl, h0, r0⟩ := trodAll_cons hA
  obtain ⟨v1, vs1, d1, ds1, p1, q1, rfl, rfl, rfl, h1, r1⟩ := trodAll_cons r0
  obtain ⟨v2, vs2, d2, ds2, p2, q2, rfl, rfl, rfl, h2, r2⟩ := trodAll_cons r1
  obtain ⟨rfl, rfl, rfl⟩ := trodAll_nil r2
  obtain rfl : args = #[v0, v1, v2] := by cases args; simp_all
  obtain ⟨rfl, rfl⟩ := trodVars_none hV
  have hr0 := open_tape (hval 0 27 v0 rfl rfl) h0
  obtain ⟨a1, rfl, rfl, rfl, w1⟩ := open_int Try.underlying3 (hval 1 3 v1 rfl rfl) h1
  obtain ⟨a2, rfl, rfl, rfl, w2⟩ := open_int Try.underlying58 (hval 2 58 v2 rfl rfl) h2
  have x1 : -9223372036854775808 ≤ a1 ∧ a1 ≤ 9223372036854775807 := by simpa [Lit.wf, IntKind.min, IntKind.max, IntKind.signed, IntKind.bits] using w1
  have x2 : -128 ≤ a2 ∧ a2 ≤ 127 := by simpa [Lit.wf, IntKind.min, IntKind.max, IntKind.signed, IntKind.bits] using w2
  simp only [List.append_nil] at hW' hAk
  refine (law_slides v0 a1 a2 W hr0 x1 x2).mono fun e W' ⟨he, hg⟩ => ?_
  subst he
  exact ⟨_, rfl, post_of_below (pv := []) hW' (fun _ _ _ => (trodAll_cons_mk (shut_bool Try.underlying4 _) trodAll_mk0)) (fun sp hsp => trodAll_stays laid_out hg (by kernel_rfl) hAk (fun x hx => hW'.lt x (by simpa using hx)) (fun x hx => hsp x (by simpa using hx))) (fun _ _ => rfl) (by simp)
    hg (ok_one (by kernel_rfl) rfl (okWide_bool_mk Try.underlying4 _))⟩

theorem over : Rows.editsSlidesRow.holds Try.pinned (OpenSpec.ofChange Rows.editsSlidesSpec) :=
  OpenClaim.holds_of_wide 12 Try.f12 rfl rfl rfl rfl rfl rfl rfl ⟨rfl, rfl, rfl, rfl, rfl⟩ rfl rfl rfl rfl rfl (by kernel_rfl) Try.func12 (by kernel_rfl)
    (of_decide_eq_true (by kernel_rfl)) (by unfold Func.isWrapper; first | (rw [if_pos (by decide +kernel)]; kernel_rfl) | (rw [if_neg (by decide +kernel)]; exact ⟨rfl, rfl⟩))
    (fun os started H enc _ => lifted os started H enc)

/-- The statement. -/
theorem proved : Rows.EditsSlidesSaid :=
  over
end Go.Proofs.Ytnmkcpgcdjhdjaa.editsSlides
