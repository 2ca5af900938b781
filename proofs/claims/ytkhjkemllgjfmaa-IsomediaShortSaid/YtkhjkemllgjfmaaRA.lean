/- Aid for the rows: arguments that stay as they were; bytes read off an argument. -/
import Derived.Test.YtkhjkemllgjfmaaA
import Derived.ProofKit
import Derived.OpenShut
import Derived.Carry
import Derived.ChangeSlices
import Derived.ChangeSame
namespace Go.Proofs.Ytkhjkemllgjfmaa
open Go.ChangeShapes Go.WideShapes Go.ChangeAt Go.RowKit
set_option linter.unusedVariables false

theorem laid_out : laidOutB Try.prog = true := by kernel_rfl
theorem cells3 : Try.prog.cellsOf 3 = 1 := by kernel_rfl
theorem cells5 : Try.prog.cellsOf 5 = 1 := by kernel_rfl
section
variable {P : Program} {H : Type} {enc : TypeId × Value → H}
/-- The row's post where all that was there when the call began is as it was. -/
theorem post_of_below {f : Func} {s : ChangeSpec} {apart fresh handsOn again : Bool} {W W' : World} {args : Array Value} {v : Value} {ds gs : List (DataW H)} {before pa pv : List MemPlace}
    (hW : DataW.Whole enc P f.params.toList s.vars apart W args.toList ds gs before)
    (hres : ∀ (b : Nat) (sp : Nat → Bool) (hd : Bool), DataW.TrodAll enc P W' b sp hd f.resultTypes.toList (v.resultList f.resultTypes.size) (s.fn H (ds ++ gs)).results [])
    (hargs : ∀ sp : Nat → Bool, (∀ p ∈ before, sp p.block = true) → DataW.TrodAll enc P W' 0 sp true f.params.toList args.toList (s.fn H (ds ++ gs)).args pa)
    (hvars : ∀ sp : Nat → Bool, (∀ p ∈ before, sp p.block = true) → DataW.TrodVars enc P W' sp s.vars (s.fn H (ds ++ gs)).vars pv)
    (hps : before = pa ++ pv) (hb : Below W.heap.size W W')
    (hok : ∀ (j : Nat) (t : TypeId) (r : Value), f.resultTypes[j]? = some t → (v.resultList f.resultTypes.size)[j]? = some r → Value.okWide P W' .any 0 t r) :
    s.post enc P f apart fresh handsOn again W args v W' := by
  have old : ∀ p ∈ before, (fun b => decide (b < W.heap.size)) p.block = true := fun p hp => by simpa using hW.lt p hp
  have kept : W.keptBut W' (· ∈ before) := hb.frame _
  refine ⟨ds, gs, before, [], pa, pv, hW, hres _ _ _, hargs _ old, hvars _ old, World.keptBut_mono (fun p hp => ⟨hp, by rw [hps, List.mem_append] at hp; exact Or.inr hp⟩) kept, fun _ => ?_⟩
  have lt := hW.lt
  obtain ⟨_, _, _, _, _, hz, hn⟩ := hW
  refine ⟨hok, _, _, ([] ++ pa) ++ pv, ⟨[] ++ pa, pv, trodAll_append (hargs _ (fun _ _ => rfl)) (hres _ _ _), hvars _ (fun _ _ => rfl), rfl, ?_, ?_⟩, ?_⟩
  · intro b off hp
    have hp' : MemPlace.cell b off ∈ before := by rw [hps]; simpa using hp
    rw [hb.frozen (p := ⟨b, off, none⟩) (lt _ hp')]
    exact hz b off hp'
  · intro ha
    have h := hn ha
    rw [hps] at h
    simpa using h
  · intro p hp _
    rw [hps]
    simpa using hp

end
section
variable {H : Type} {enc : TypeId × Value → H}
theorem trodAll_stays {P : Program} (hl : laidOutB P = true) {W W' : World} {sp : Nat → Bool} (hb : Below W.heap.size W W') : ∀ {ts : List TypeId} {vs : List Value} {ds : List (DataW H)} {ps : List MemPlace}, (ts.all fun t => P.readableRec t && decide (t < P.types.size)) = true →
    DataW.TrodAll enc P W 0 (fun _ => true) true ts vs ds ps → (∀ x ∈ ps, x.block < W.heap.size) → (∀ x ∈ ps, sp x.block = true) → DataW.TrodAll enc P W' 0 sp true ts vs ds ps := by
  intro ts
  induction ts with
  | nil =>
    intro vs ds ps _ h _ _
    cases vs with
    | nil => cases ds with
      | nil => exact h
      | cons => exact h.elim
    | cons => exact h.elim
  | cons t ts ih =>
    intro vs ds ps hr h hlt hs
    cases vs with
    | nil => exact h.elim
    | cons v vs => cases ds with
      | nil => exact h.elim
      | cons d ds =>
        obtain ⟨p, q, h1, h2, rfl⟩ := h
        simp only [List.all_cons, Bool.and_eq_true, decide_eq_true_eq] at hr
        exact ⟨p, q, WideElems.Trod_stays hl hr.1.1 hr.1.2 h1 (fun x hx => hb.same (hlt x (List.mem_append_left _ hx))) (fun x hx => hs x (List.mem_append_left _ hx)),
          ih hr.2 h2 (fun x hx => hlt x (List.mem_append_right _ hx)) (fun x hx => hs x (List.mem_append_right _ hx)), rfl⟩


set_option maxRecDepth 100000 in
theorem bytes_of {W : World} {n : Nat} {c : Value} {y : DataW H × List MemPlace} (h : DataW.trod enc Try.prog W 0 (fun _ => true) true n 22 [c] = some y) : ∃ m f, BA W c m f ∧ m ≤ maxLen := by
  rcases open_ints Try.underlying22 Try.underlying5 cells5 h with ⟨hcs, hx⟩ | ⟨a, len', cap', zs, hcs, _, hl, hm, hz, hx, hcell, hwz⟩
  · obtain rfl : c = .slice none 0 0 := by simpa using hcs
    exact ⟨0, fun _ => 0, ⟨none, 0, rfl, Nat.le_refl _, fun i hi => absurd hi (Nat.not_lt_zero i)⟩, Nat.zero_le _⟩
  · obtain rfl : c = .slice (some a) len' cap' := by simpa using hcs
    simp only [if_true] at hz
    refine ⟨len', fun i => zs.getD i 0, ⟨_, _, rfl, hl, fun i hi => ?_⟩, Nat.le_trans hl hm⟩
    obtain ⟨ab, ao, spot⟩ := a
    have hspot : spot = none := by simpa [Addr.add] using World.cell?_spot (hcell 0 (by omega))
    subst hspot
    have hc := hcell i (by omega)
    rw [Addr.add_lit] at hc
    refine ⟨⟨ab, ao, rfl, hc⟩, ?_⟩
    have hb := hwz (zs.getD i 0) (by
      rw [List.getD_eq_getElem?_getD, List.getElem?_eq_getElem (show i < zs.length by omega)]
      exact List.getElem_mem _)
    simp only [Lit.wf, IntKind.min, IntKind.max, IntKind.signed, IntKind.bits] at hb
    simp at hb
    exact ⟨hb.1, by have := hb.2; show zs.getD i 0 < 256; rw [List.getD_eq_getElem?_getD]; omega⟩


set_option maxRecDepth 100000 in
/-- Bytes that came in. -/
theorem open_bytes {W : World} {base : Nat} {v : Value} {d : DataW H} {p : List MemPlace} (hval : Value.okWide Try.prog W .any base 22 v) (h : DataW.Trod enc Try.prog W 0 (fun _ => true) true 22 v d p) : ∃ m f, BA W v m f ∧ m ≤ maxLen := by
  obtain ⟨a1, len, cap, rfl⟩ := okWide_slice Try.underlying22 hval
  obtain ⟨fuel, hf⟩ := h
  simp only [Value.cells] at hf
  exact bytes_of hf

end
end Go.Proofs.Ytkhjkemllgjfmaa
