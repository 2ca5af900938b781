/- Rows.EditsHeadsSaid is proved here, for every input; the walk is law_heads. -/
import Derived.BigQuiet
import Derived.Test.YtnmkcpgcdjhdjaaRows
import Derived.WalkKit
import Derived.ProofKit
import Derived.OpenShut
import Derived.Test.YtnmkcpgcdjhdjaaEx12
import Derived.Test.YtnmkcpgcdjhdjaaRo00
set_option linter.unusedVariables false
set_option linter.unusedSimpArgs false

/- The law of the changes of a beginning. -/
namespace Go.Proofs.Ytnmkcpgcdjhdjaa
open Go.RowKit
set_option linter.unusedVariables false
set_option linter.unusedSimpArgs false
set_option maxRecDepth 100000 in
set_option maxHeartbeats 16000000 in
theorem law_heads (v : Value) (a m : Int) (w : World) (h : Ints w v) (ha : -9223372036854775808 ≤ a ∧ a ≤ 9223372036854775807) (hm : -128 ≤ m ∧ m ≤ 127) :
    Calls Try.prog 10 #[v, .int .i64 a, .int .i8 m] w fun e w' => e = .returned (.bool true) ∧ Below w.heap.size w w' := by
  obtain ⟨ha0, ha1⟩ := ha
  obtain ⟨hm0, hm1⟩ := hm
  have HMA := Lib.hid (made_any v w h)
  clear h
  go_enter Try.func10, Try.ntmps10
  go_wp2_with fail
  refine HMA.out.mono ?_
  rintro e w1 ⟨vt, t, p, k', rfl, ho, hmd, htp, hk', hb⟩
  have HO := Lib.hid ho
  have HM := Lib.hid hmd
  have HB := Lib.hid hb
  clear ho hmd htp hk' hb HMA
  obtain ⟨ta, tc, rfl, htc⟩ := HO.out.tk
  obtain ⟨N, hN⟩ : ∃ N, N = t.length := ⟨_, rfl⟩
  have hN1 : 1 ≤ N := by
    rw [hN]
    have := HM.out.ne
    cases t with
    | nil => exact absurd rfl this
    | cons => simp
  have hN2 : N ≤ 13 := by rw [hN]; exact HM.out.l
  rw [← hN] at HO ⊢
  have HN := Lib.hid hN
  clear hN htc
  have hN0 : ¬ (N : Int) = 0 := by omega
  have hN00 : ((N : Int) == 0) = false := by simp; omega
  go_upto_region 5 with fail
  obtain ⟨c, hc, hcN⟩ := index_of a N hN1 (by omega)
  rw [hc]
  clear hc
  go_upto_region 6 with fail
  obtain ⟨d, hd⟩ : ∃ d, d = m.tmod 12 := ⟨_, rfl⟩
  have d0 := tmod12 m
  rw [← hd] at d0 ⊢
  rw [wrap_in d (by omega)]
  clear hd hm0 hm1 ha0 ha1
  have HAP := Lib.hid (fun w (h : Tk w (.slice ta N tc) t) => apply_made (.slice ta N tc) t 6 c d w h HM.out (by decide) (by omega) (by omega))
  go_wp2_with fail
  refine (HAP.out _ HO.out.tk).mono ?_
  rintro e w2 ⟨vu, x1, x2, x3, ra, rl, rc, code, rfl, hb, hres⟩
  have HR := Lib.hid hres
  replace HO := Lib.hid (HO.out.below hb)
  replace HB := Lib.hid (HB.out.trans (hb.mono HB.out.size))
  clear hb hres HAP
  try dsimp only
  iterate 19 go_step
  have hv : ED (w2.alloc (.cells (edC 0 0 0 0 0 0 0 (.slice none 0 0)) 26)) w2.heap.size 0 0 0 0 0 0 0 (.slice none 0 0) := ED.box w2 0 0 0 0 0 0 0 (.slice none 0 0) rfl 26
  have hb0 : Below w2.heap.size w2 (w2.alloc (.cells (edC 0 0 0 0 0 0 0 (.slice none 0 0)) 26)) := below_box _ _
  refine wpl_storeE x1 x2 x3 0 0 0 0 ra rl rc hv rfl rfl rfl rfl ?_
  intro w3 q1 q2 q3 q4 q5
  have hb : Below w2.heap.size w2 w3 := q4 _ _ (Nat.le_refl _) hb0
  replace HR := Lib.hid (HR.out.below hb)
  replace HO := Lib.hid (HO.out.below hb)
  replace HB := Lib.hid (HB.out.trans (hb.mono HB.out.size))
  obtain ⟨gE, hgE⟩ : ∃ g, g = w2.heap.size := ⟨_, rfl⟩
  rw [← hgE]
  clear q1 q2 q3 q4 q5 hb hb0 hv hgE
  simp only [Act.put, List.setIfInBounds_toArray, List.set_cons_succ, List.set_cons_zero]
  obtain ⟨x, hx⟩ : ∃ x, t[c]? = some x := ⟨_, List.getElem?_eq_getElem (by rw [← HN.out]; exact hcN)⟩
  obtain ⟨ta', tc', e, _, _, hT⟩ := HO.out.tk
  simp only [Value.slice.injEq] at e
  obtain ⟨rfl, -, rfl⟩ := e
  obtain ⟨b, o, rfl, hA⟩ := hT c x hx
  clear hT
  have hlm := len_of_made HM.out hx
  have hxl := (HM.out.v x (List.mem_of_getElem? hx)).l
  have hxo : (x.kind = 2 ∨ x.kind = 3) → 0 ≤ x.off ∧ x.off ≤ 2147483647 := by
    intro hk
    have := hxl.2.2 (by simp [Trk.shares]; omega)
    omega
  have hko := ok6 (HM.out.v x (List.mem_of_getElem? hx)) (d := d) (by omega)
  have hcode := code6 HM.out hx (d := d) (by omega)
  have c0 := hA.k0
  have c1 := hA.k1
  have c16 := hA.k16
  have HLM := Lib.hid hlm
  have HC5 := Lib.hid (show Trk.adjCode t 6 c d 0 0 = if ¬ (x.len ≤ d ∨ ((x.kind = 2 ∨ x.kind = 3) ∧ x.off + d < 0)) then 0 else 2 by rw [hcode]; simp only [hko])
  have HX := Lib.hid hx
  have HA := Lib.hid hA
  obtain ⟨l0, l1, l2, l3, l4⟩ := hlm
  have hci : (c : Int) < (N : Int) := by omega
  clear hxl hcode hko hx hA l2 l3 l4
  go_upto_region 7 with fail
  obtain ⟨bad, hbad⟩ : ∃ g, g = decide (d = 0 ∨ x.len ≤ d ∨ ((x.kind = 2 ∨ x.kind = 3) ∧ x.off + d < 0)) := ⟨_, rfl⟩
  have HBAD := Lib.hid hbad
  clear hbad
  go_cut [81] from 45 (fun v81 wr => v81 = .bool bad ∧ Below w3.heap.size w3 wr)
  case first J K' h1' h2' =>
    by_cases hd0 : d = 0
    · have hb : bad = true := by rw [HBAD.out]; simp [hd0]
      have hg : (d == 0) = true := by simp [hd0]
      go_wp2_with fail
      refine Met.intro (h1' _ _ ?_)
      (repeat apply Exists.intro)
      exact ⟨⟨by rw [hb], Below.refl _ _⟩, rfl⟩
    have hg : (d == 0) = false := by simp [hd0]
    by_cases h1 : x.len ≤ d
    · have hb : bad = true := by rw [HBAD.out]; simp [h1]
      have hg1 : decide (d ≥ x.len) = true := by simp [h1]
      go_wp2_with fail
      refine Met.intro (h1' _ _ ?_)
      (repeat apply Exists.intro)
      exact ⟨⟨by rw [hb], Below.refl _ _⟩, rfl⟩
    have hg1 : decide (d ≥ x.len) = false := by simp [h1]
    by_cases h2 : x.kind = 2
    · have hxo2 := hxo (.inl h2)
      have hb : bad = decide (x.off + d < 0) := by rw [HBAD.out]; simp [hd0, h1, h2]
      have hg2 : (x.kind == 2) = true := by simp [h2]
      clear h2
      go_wp2_with fail
      refine Met.intro (h1' _ _ ?_)
      (repeat apply Exists.intro)
      exact ⟨⟨by rw [hb], Below.refl _ _⟩, rfl⟩
    have hg2 : (x.kind == 2) = false := by simp [h2]
    by_cases h3 : x.kind = 3
    · have hxo2 := hxo (.inr h3)
      have hb : bad = decide (x.off + d < 0) := by rw [HBAD.out]; simp [hd0, h1, h3]
      have hg3 : (x.kind == 3) = true := by simp [h3]
      clear h3
      go_wp2_with fail
      refine Met.intro (h1' _ _ ?_)
      (repeat apply Exists.intro)
      exact ⟨⟨by rw [hb], Below.refl _ _⟩, rfl⟩
    have hb : bad = false := by rw [HBAD.out]; simp [hd0, h1, h2, h3]
    have hg3 : (x.kind == 3) = false := by simp [h3]
    go_wp2_with fail
    refine Met.intro (h1' _ _ ?_)
    (repeat apply Exists.intro)
    exact ⟨⟨by rw [hb], Below.refl _ _⟩, rfl⟩
  obtain ⟨rfl, hb⟩ := hcut
  clear c0 c1 c16
  replace HR := Lib.hid (HR.out.below hb)
  replace HO := Lib.hid (HO.out.below hb)
  replace HB := Lib.hid (HB.out.trans (hb.mono HB.out.size))
  clear hb
  cases hbd : bad with
  | true =>
    have hne : ¬ code = 0 := by
      refine HR.out.bad ?_
      have h1 := HBAD.out
      rw [hbd] at h1
      have h2 := of_decide_eq_true h1.symm
      rcases h2 with h2 | h2
      · exact .inl h2
      · right
        rw [HC5.out, if_neg (fun h => h h2)]
        decide
    have hbd := HR.out.bd
    have hne' : (code != 0) = true := by simp [hne]
    clear HC5 HBAD HR
    go_wp2_with fail
    refine (awake_any _).mono ?_
    rintro e w8 ⟨rfl, hb⟩
    replace HB := Lib.hid (HB.out.trans (hb.mono HB.out.size))
    clear hb
    go_wp2_with fail
    go_ret
    exact ⟨rfl, HB.out⟩
  | false =>
    have hgd : d ≠ 0 ∧ Trk.adjCode t 6 c d 0 0 = 0 := by
      have h1 := HBAD.out
      rw [hbd] at h1
      have h2 := of_decide_eq_false h1.symm
      exact ⟨fun h => h2 (.inl h), by rw [HC5.out, if_pos (fun h => h2 (.inr h))]⟩
    obtain ⟨rfl, hou⟩ := HR.out.good hgd
    have HRIP := Lib.hid (head_of HM.out HX.out hgd.1 (by omega) hgd.2)
    obtain ⟨U, hU⟩ : ∃ U, U = Trk.nf (Trk.adjL t 6 c d 0 0) := ⟨_, rfl⟩
    rw [← hU] at hou HRIP
    have HU := Lib.hid hou
    obtain ⟨s, hs⟩ : ∃ s, s = Trk.total (t.take c) := ⟨_, rfl⟩
    obtain ⟨T, hT⟩ : ∃ T, T = Trk.total t := ⟨_, rfl⟩
    have hln := Lib.hid (fun w (h : Tk w (.slice (some ⟨b, o, none⟩) N tc) t) => length_any (.slice (some ⟨b, o, none⟩) N tc) t w h HM.out.vt (by decide))
    have hst := Lib.hid (fun w (h : Tk w (.slice (some ⟨b, o, none⟩) N tc) t) => starts_at (.slice (some ⟨b, o, none⟩) N tc) t c w h HM.out (by rw [← HN.out]; omega))
    have hT1 := HM.out.tt
    rw [← hs] at HRIP HLM
    rw [← hT] at hln HLM hT1
    rw [← hs] at hst
    obtain ⟨l0, l1, l2, l3, l4⟩ := HLM.out
    clear hou hU hs hT hgd hbd HR HC5 HBAD HLM l4
    go_wp2_with fail
    refine (hst.out _ HO.out.tk).mono ?_
    rintro e' w5 ⟨rfl, hb⟩
    replace HU := Lib.hid (HU.out.below hb)
    replace HO := Lib.hid (HO.out.below hb)
    replace HB := Lib.hid (HB.out.trans (hb.mono HB.out.size))
    clear hb
    go_wp2_with fail
    refine (lequal_any (L := bigM) vu (.slice (some ⟨b, o, none⟩) N tc) U t 0 0 s _ HU.out.tk HO.out.tk HRIP.out.v HM.out.big bigM_le (by omega) (by omega) (by omega) (by omega) (by omega) (by omega) HRIP.out.lo).mono ?_
    rintro e' w6 ⟨rfl, hb⟩
    replace HU := Lib.hid (HU.out.below hb)
    replace HO := Lib.hid (HO.out.below hb)
    replace HB := Lib.hid (HB.out.trans (hb.mono HB.out.size))
    clear hb
    go_wp2_with fail
    refine (hln.out _ HO.out.tk).mono ?_
    rintro e' w7 ⟨rfl, hb⟩
    replace HU := Lib.hid (HU.out.below hb)
    replace HO := Lib.hid (HO.out.below hb)
    replace HB := Lib.hid (HB.out.trans (hb.mono HB.out.size))
    clear hb
    go_wp2_with fail
    refine (lequal_any (L := bigM) vu (.slice (some ⟨b, o, none⟩) N tc) U t (s + max 0 (-d)) (s + max 0 d) (T - s - max 0 d + 1) _ HU.out.tk HO.out.tk HRIP.out.v HM.out.big bigM_le (by omega) (by omega) (by omega) (by omega) (by omega) (by omega) (fun i i0 _ => HRIP.out.hi i i0)).mono ?_
    rintro e' w9 ⟨rfl, hb⟩
    replace HU := Lib.hid (HU.out.below hb)
    replace HO := Lib.hid (HO.out.below hb)
    replace HB := Lib.hid (HB.out.trans (hb.mono HB.out.size))
    clear hb
    go_wp2_with fail
    refine (awake_any _).mono ?_
    rintro e w8 ⟨rfl, hb⟩
    replace HB := Lib.hid (HB.out.trans (hb.mono HB.out.size))
    clear hb
    go_wp2_with fail
    go_ret
    exact ⟨rfl, HB.out⟩
end Go.Proofs.Ytnmkcpgcdjhdjaa


namespace Go.Proofs.Ytnmkcpgcdjhdjaa.editsHeads
open Go.ChangeShapes Go.WideShapes Go.ChangeAt Go.RowKit
set_option linter.unusedVariables false

theorem own : ownKnob Try.prog.godebug = none := by kernel_rfl

set_option maxRecDepth 100000 in
theorem lifted (os : Os) (started : os.Started) (H : Type) (enc : TypeId × Value → H) :
    ReturnsInHanded {} Try.checked os 10 .any (Rows.editsHeadsSpec.pre6 enc Try.prog Try.f10 Rows.editsHeadsRow.domain false) (Rows.editsHeadsSpec.post enc Try.prog Try.f10 false true false false) := by
  refine returnsInHanded_of_change (C := Try.checked) own started (by kernel_rfl) Try.func10
    (ChangeSpec.witness6 (enc := enc) (C := Try.checked) false ⟨#[], #[.slice none 0 0, .int .i64 0, .int .i8 0], []⟩ 8 (by kernel_rfl) (by kernel_rfl) (by kernel_rfl) (by kernel_rfl)) ?_
  intro W base args ds gs before hval0 hW hcnd _
  have hval : ∀ (j : Nat) t v, Try.f10.params[j]? = some t → args[j]? = some v → Value.okWide Try.prog W .any base t v := hval0
  have hW' := hW
  obtain ⟨p, q, hA0, hV, rfl, hfz, hnd⟩ := hW
  have hA : DataW.TrodAll enc Try.prog W 0 (fun _ => true) true Try.f10.params.toList args.toList ds p := hA0
  have hAk := hA
  rw [Try.params10] at hA hval
  obtain ⟨v0, vs0, d0, ds0, p0, q0, hargs, rfl, rfl, h0, r0⟩ := trodAll_cons hA
  obtain ⟨v1, vs1, d1, ds1, p1, q1, rfl, rfl, rfl, h1, r1⟩ := trodAll_cons r0
  obtain ⟨v2, vs2, d2, ds2, p2, q2, rfl, rfl, rfl, h2, r2⟩ := trodAll_cons r1
  obtain ⟨rfl, rfl, rfl⟩ := trodAll_nil r2
  obtain rfl : args = #[v0, v1, v2] := by cases args; simp_all
  obtain ⟨rfl, rfl⟩ := trodVars_none hV
  have hr0 := open_tape (hval 0 27 v0 rfl rfl) h0
  obtain ⟨a1, rfl, rfl, rfl, w1⟩ := open_int Try.underlying3 (hval 1 3 v1 rfl rfl) h1
  obtain ⟨a2, rfl, rfl, rfl, w2⟩ := open_int Try.underlying58 (hval 2 58 v2 rfl rfl) h2
  have x1 : -9223372036854775808 ≤ a1 ∧ a1 ≤ 9223372036854775807 := by simpa [Lit.wf, IntKind.min, IntKind.max, IntKind.signed, IntKind.bits] using w1
  have x2 : -128 ≤ a2 ∧ a2 ≤ 127 := by simpa [Lit.wf, IntKind.min, IntKind.max, IntKind.signed, IntKind.bits] using w2
  simp only [List.append_nil] at hW' hAk
  refine (law_heads v0 a1 a2 W hr0 x1 x2).mono fun e W' ⟨he, hg⟩ => ?_
  subst he
  exact ⟨_, rfl, post_of_below (pv := []) hW' (fun _ _ _ => (trodAll_cons_mk (shut_bool Try.underlying4 _) trodAll_mk0)) (fun sp hsp => trodAll_stays laid_out hg (by kernel_rfl) hAk (fun x hx => hW'.lt x (by simpa using hx)) (fun x hx => hsp x (by simpa using hx))) (fun _ _ => rfl) (by simp)
    hg (ok_one (by kernel_rfl) rfl (okWide_bool_mk Try.underlying4 _))⟩

theorem over : Rows.editsHeadsRow.holds Try.pinned (OpenSpec.ofChange Rows.editsHeadsSpec) :=
  OpenClaim.holds_of_wide 10 Try.f10 rfl rfl rfl rfl rfl rfl rfl ⟨rfl, rfl, rfl, rfl, rfl⟩ rfl rfl rfl rfl rfl (by kernel_rfl) Try.func10 (by kernel_rfl)
    (of_decide_eq_true (by kernel_rfl)) (by unfold Func.isWrapper; first | (rw [if_pos (by decide +kernel)]; kernel_rfl) | (rw [if_neg (by decide +kernel)]; exact ⟨rfl, rfl⟩))
    (fun os started H enc _ => lifted os started H enc)

/-- The statement. -/
theorem proved : Rows.EditsHeadsSaid :=
  over
end Go.Proofs.Ytnmkcpgcdjhdjaa.editsHeads
