/- Rows.ComposeEvalsSaid is proved here, for every input; the walk is law_evals. -/
import Derived.Test.YtnnobdcbmagbaaaRows
import Derived.WalkKit
import Derived.ProofKit
import Derived.OpenShut
import Derived.SizedLaws
import Derived.Test.YtnnobdcbmagbaaaEv27
set_option linter.unusedVariables false
set_option linter.unusedSimpArgs false


namespace Go.Proofs.Ytnnobdcbmagbaaa.composeEvals
open Go.ChangeShapes Go.WideShapes Go.ChangeAt Go.RowKit
set_option linter.unusedVariables false

theorem bytes68 : Try.prog.bytesOf 68 = 112 := by kernel_rfl
section
variable {H : Type} {enc : TypeId × Value → H}
set_option maxRecDepth 100000 in
theorem open_expr {W : World} {base : Nat} {v : Value} {d : DataW H} {p : List MemPlace} (hval : Value.okWide Try.prog W .any base 58 v) (h : DataW.Trod enc Try.prog W 0 (fun _ => true) true 58 v d p) : ∃ X, XA W v X := by
  obtain ⟨cs, rfl, hsz⟩ := okWide_struct Try.underlying58 hval
  obtain ⟨fuel, hf⟩ := h
  obtain ⟨f, ao, c, a, e, hX⟩ := expr_of _ _ (Nat.le_refl _) _ _ hf
  obtain ⟨l⟩ := cs
  simp only [Value.cells] at e
  subst e
  exact ⟨_, hX⟩
set_option maxRecDepth 100000 in
theorem open_pics {W : World} {base : Nat} {v : Value} {d : DataW H} {p : List MemPlace} (hval : Value.okWide Try.prog W .any base 59 v) (h : DataW.Trod enc Try.prog W 0 (fun _ => true) true 59 v d p) :
    ∃ (m : Nat) (P : Nat → Pic), LA W v m P ∧ ((v = .slice none 0 0 ∧ m = 0) ∨ ∃ a d, v = .slice (some a) m d) ∧ (m = 0 ∨ ∃ el sp, d = .slice el sp ∧ el.length = m) := by
  obtain ⟨a1, len, cap, rfl⟩ := okWide_slice Try.underlying59 hval
  obtain ⟨fuel, hf⟩ := h
  simp only [Value.cells] at hf
  obtain ⟨m, P, hl, hv⟩ := pics_of hf
  refine ⟨m, P, hl, hv, ?_⟩
  rcases Go.Deep.open_slice Try.underlying59 hf with ⟨hcs, _⟩ | ⟨a, len', cap', m', n', D, Pl, hcs, _, hlc, hcm, hmm, hx, hi⟩
  · left
    rcases hv with ⟨_, h⟩ | ⟨a, d, h⟩
    · exact h
    · simp_all
  · right
    refine ⟨_, _, (Prod.mk.inj hx).1, ?_⟩
    rcases hv with ⟨h, _⟩ | ⟨a, d, h⟩
    · simp_all
    · simp_all
end
theorem own : ownKnob Try.prog.godebug = none := by kernel_rfl

set_option maxRecDepth 100000 in
theorem lifted (os : Os) (started : os.Started) (H : Type) (enc : TypeId × Value → H) :
    ReturnsInHanded {} Try.checked os 14 .any (Rows.composeEvalsSpec.pre6 enc Try.prog Try.f14 Rows.composeEvalsRow.domain false) (Rows.composeEvalsSpec.post enc Try.prog Try.f14 false true false false) := by
  refine returnsInHanded_of_change_sized (C := Try.checked) own started (by kernel_rfl) Try.func14
    (ChangeSpec.witness6 (enc := enc) (C := Try.checked) false ⟨#[], #[.agg #[.int .i64 0, .string (⟨#[]⟩ : ByteArray), .int .i64 0, .int .i64 0, .int .i64 0, .int .i64 0, .string (⟨#[]⟩ : ByteArray), .slice none 0 0], .slice none 0 0, .slice none 0 0, .int .i64 0, .int .i64 0], []⟩ 8 (by kernel_rfl) (by kernel_rfl) (by kernel_rfl) (by kernel_rfl)) ?_
  intro W base args ds gs before hval0 hW hcnd hsz0 _
  have hsz : (DataW.weightsEach Try.prog (Try.f14.params.toList ++ Rows.composeEvalsSpec.plain.varTypes Try.prog) (ds ++ gs)).all (· ≤ reachBytes) = true := hsz0
  have hval : ∀ (j : Nat) t v, Try.f14.params[j]? = some t → args[j]? = some v → Value.okWide Try.prog W .any base t v := hval0
  have hW' := hW
  obtain ⟨p, q, hA0, hV, rfl, hfz, hnd⟩ := hW
  have hA : DataW.TrodAll enc Try.prog W 0 (fun _ => true) true Try.f14.params.toList args.toList ds p := hA0
  have hAk := hA
  rw [Try.params14] at hA hval hsz
  obtain ⟨v0, vs0, d0, ds0, p0, q0, hargs, rfl, rfl, h0, r0⟩ := trodAll_cons hA
  obtain ⟨v1, vs1, d1, ds1, p1, q1, rfl, rfl, rfl, h1, r1⟩ := trodAll_cons r0
  obtain ⟨v2, vs2, d2, ds2, p2, q2, rfl, rfl, rfl, h2, r2⟩ := trodAll_cons r1
  obtain ⟨v3, vs3, d3, ds3, p3, q3, rfl, rfl, rfl, h3, r3⟩ := trodAll_cons r2
  obtain ⟨v4, vs4, d4, ds4, p4, q4, rfl, rfl, rfl, h4, r4⟩ := trodAll_cons r3
  obtain ⟨rfl, rfl, rfl⟩ := trodAll_nil r4
  obtain rfl : args = #[v0, v1, v2, v3, v4] := by cases args; simp_all
  obtain ⟨rfl, rfl⟩ := trodVars_none hV
  obtain ⟨X0, hr0⟩ := open_expr (hval 0 58 v0 rfl rfl) h0
  obtain ⟨m1, P1, hr1, hs1, hz1⟩ := open_pics (hval 1 59 v1 rfl rfl) h1
  have hb1 : (19 + m1) * 112 ≤ 140737488355328 := by
    rcases hz1 with h | ⟨el, sp, rfl, h⟩
    · omega
    · have hh := sized_slice hsz (j := 1) (t := 59) (e := 68) rfl rfl Try.underlying59
      rw [bytes68] at hh
      have hr : reachBytes = 140737488351232 := by decide
      omega
  have hr2 := open_tape (hval 2 33 v2 rfl rfl) h2
  obtain ⟨a3, rfl, rfl, rfl, w3⟩ := open_int Try.underlying3 (hval 3 3 v3 rfl rfl) h3
  obtain ⟨a4, rfl, rfl, rfl, w4⟩ := open_int Try.underlying3 (hval 4 3 v4 rfl rfl) h4
  simp only [List.append_nil] at hW' hAk
  refine (law_evals v0 v1 v2 X0 m1 P1 a3 a4 W hr0 hr1 hs1 hb1 hr2).mono fun e W' ⟨he, hg⟩ => ?_
  subst he
  exact ⟨_, rfl, composeBlack.post_of_below (pv := []) hW' (fun _ _ _ => (trodAll_cons_mk (shut_bool Try.underlying4 _) trodAll_mk0)) (fun sp hsp => trodAll_stays laid_out hg (by kernel_rfl) hAk (fun x hx => hW'.lt x (by simpa using hx)) (fun x hx => hsp x (by simpa using hx))) (fun _ _ => rfl) (by simp)
    hg (ok_one (by kernel_rfl) rfl (okWide_bool_mk Try.underlying4 _))⟩

theorem over : Rows.composeEvalsRow.holds Try.pinned (OpenSpec.ofChange Rows.composeEvalsSpec) :=
  OpenClaim.holds_of_wide 14 Try.f14 rfl rfl rfl rfl rfl rfl rfl ⟨rfl, rfl, rfl, rfl, rfl⟩ rfl rfl rfl rfl rfl (by kernel_rfl) Try.func14 (by kernel_rfl)
    (of_decide_eq_true (by kernel_rfl)) (by unfold Func.isWrapper; first | (rw [if_pos (by decide +kernel)]; kernel_rfl) | (rw [if_neg (by decide +kernel)]; exact ⟨rfl, rfl⟩))
    (fun os started H enc _ => lifted os started H enc)

/-- The statement. -/
theorem proved : Rows.ComposeEvalsSaid :=
  over
end Go.Proofs.Ytnnobdcbmagbaaa.composeEvals
