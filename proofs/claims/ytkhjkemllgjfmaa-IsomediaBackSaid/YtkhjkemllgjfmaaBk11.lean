/- Rows.IsomediaBackSaid is proved here, for every input; the walk is law_back. -/
import Derived.ProofKit
import Derived.OpenShut
import Derived.Carry
import Derived.ChangeSlices
import Derived.ChangeSame
import Derived.Deep.Slices
import Derived.Test.YtkhjkemllgjfmaaRows
import Derived.WalkKit
import Derived.Test.YtkhjkemllgjfmaaBk00
import Derived.Test.YtkhjkemllgjfmaaBk10
set_option linter.unusedVariables false
set_option linter.unusedSimpArgs false

/- Aid for the rows: arguments that stay as they were; bytes read off an argument. -/
namespace Go.Proofs.Ytkhjkemllgjfmaa
open Go.ChangeShapes Go.WideShapes Go.ChangeAt Go.RowKit
set_option linter.unusedVariables false

theorem laid_out : laidOutB Try.prog = true := by kernel_rfl
theorem cells3 : Try.prog.cellsOf 3 = 1 := by kernel_rfl
theorem cells5 : Try.prog.cellsOf 5 = 1 := by kernel_rfl
section
variable {P : Program} {H : Type} {enc : TypeId × Value → H}
/-- The row's post where all that was there when the call began is as it was. -/
theorem post_of_below {f : Func} {s : ChangeSpec} {apart fresh handsOn again : Bool} {W W' : World} {args : Array Value} {v : Value} {ds gs : List (DataW H)} {before pa pv : List MemPlace}
    (hW : DataW.Whole enc P f.params.toList s.vars apart W args.toList ds gs before)
    (hres : ∀ (b : Nat) (sp : Nat → Bool) (hd : Bool), DataW.TrodAll enc P W' b sp hd f.resultTypes.toList (v.resultList f.resultTypes.size) (s.fn H (ds ++ gs)).results [])
    (hargs : ∀ sp : Nat → Bool, (∀ p ∈ before, sp p.block = true) → DataW.TrodAll enc P W' 0 sp true f.params.toList args.toList (s.fn H (ds ++ gs)).args pa)
    (hvars : ∀ sp : Nat → Bool, (∀ p ∈ before, sp p.block = true) → DataW.TrodVars enc P W' sp s.vars (s.fn H (ds ++ gs)).vars pv)
    (hps : before = pa ++ pv) (hb : Below W.heap.size W W')
    (hok : ∀ (j : Nat) (t : TypeId) (r : Value), f.resultTypes[j]? = some t → (v.resultList f.resultTypes.size)[j]? = some r → Value.okWide P W' .any 0 t r) :
    s.post enc P f apart fresh handsOn again W args v W' := by
  have old : ∀ p ∈ before, (fun b => decide (b < W.heap.size)) p.block = true := fun p hp => by simpa using hW.lt p hp
  have kept : W.keptBut W' (· ∈ before) := hb.frame _
  refine ⟨ds, gs, before, [], pa, pv, hW, hres _ _ _, hargs _ old, hvars _ old, World.keptBut_mono (fun p hp => ⟨hp, by rw [hps, List.mem_append] at hp; exact Or.inr hp⟩) kept, fun _ => ?_⟩
  have lt := hW.lt
  obtain ⟨_, _, _, _, _, hz, hn⟩ := hW
  refine ⟨hok, _, _, ([] ++ pa) ++ pv, ⟨[] ++ pa, pv, trodAll_append (hargs _ (fun _ _ => rfl)) (hres _ _ _), hvars _ (fun _ _ => rfl), rfl, ?_, ?_⟩, ?_⟩
  · intro b off hp
    have hp' : MemPlace.cell b off ∈ before := by rw [hps]; simpa using hp
    rw [hb.frozen (p := ⟨b, off, none⟩) (lt _ hp')]
    exact hz b off hp'
  · intro ha
    have h := hn ha
    rw [hps] at h
    simpa using h
  · intro p hp _
    rw [hps]
    simpa using hp

end
section
variable {H : Type} {enc : TypeId × Value → H}
theorem trodAll_stays {P : Program} (hl : laidOutB P = true) {W W' : World} {sp : Nat → Bool} (hb : Below W.heap.size W W') : ∀ {ts : List TypeId} {vs : List Value} {ds : List (DataW H)} {ps : List MemPlace}, (ts.all fun t => P.readableRec t && decide (t < P.types.size)) = true →
    DataW.TrodAll enc P W 0 (fun _ => true) true ts vs ds ps → (∀ x ∈ ps, x.block < W.heap.size) → (∀ x ∈ ps, sp x.block = true) → DataW.TrodAll enc P W' 0 sp true ts vs ds ps := by
  intro ts
  induction ts with
  | nil =>
    intro vs ds ps _ h _ _
    cases vs with
    | nil => cases ds with
      | nil => exact h
      | cons => exact h.elim
    | cons => exact h.elim
  | cons t ts ih =>
    intro vs ds ps hr h hlt hs
    cases vs with
    | nil => exact h.elim
    | cons v vs => cases ds with
      | nil => exact h.elim
      | cons d ds =>
        obtain ⟨p, q, h1, h2, rfl⟩ := h
        simp only [List.all_cons, Bool.and_eq_true, decide_eq_true_eq] at hr
        exact ⟨p, q, WideElems.Trod_stays hl hr.1.1 hr.1.2 h1 (fun x hx => hb.same (hlt x (List.mem_append_left _ hx))) (fun x hx => hs x (List.mem_append_left _ hx)),
          ih hr.2 h2 (fun x hx => hlt x (List.mem_append_right _ hx)) (fun x hx => hs x (List.mem_append_right _ hx)), rfl⟩


set_option maxRecDepth 100000 in
theorem bytes_of {W : World} {n : Nat} {c : Value} {y : DataW H × List MemPlace} (h : DataW.trod enc Try.prog W 0 (fun _ => true) true n 22 [c] = some y) : ∃ m f, BA W c m f ∧ m ≤ maxLen := by
  rcases open_ints Try.underlying22 Try.underlying5 cells5 h with ⟨hcs, hx⟩ | ⟨a, len', cap', zs, hcs, _, hl, hm, hz, hx, hcell, hwz⟩
  · obtain rfl : c = .slice none 0 0 := by simpa using hcs
    exact ⟨0, fun _ => 0, ⟨none, 0, rfl, Nat.le_refl _, fun i hi => absurd hi (Nat.not_lt_zero i)⟩, Nat.zero_le _⟩
  · obtain rfl : c = .slice (some a) len' cap' := by simpa using hcs
    simp only [if_true] at hz
    refine ⟨len', fun i => zs.getD i 0, ⟨_, _, rfl, hl, fun i hi => ?_⟩, Nat.le_trans hl hm⟩
    obtain ⟨ab, ao, spot⟩ := a
    have hspot : spot = none := by simpa [Addr.add] using World.cell?_spot (hcell 0 (by omega))
    subst hspot
    have hc := hcell i (by omega)
    rw [Addr.add_lit] at hc
    refine ⟨⟨ab, ao, rfl, hc⟩, ?_⟩
    have hb := hwz (zs.getD i 0) (by
      rw [List.getD_eq_getElem?_getD, List.getElem?_eq_getElem (show i < zs.length by omega)]
      exact List.getElem_mem _)
    simp only [Lit.wf, IntKind.min, IntKind.max, IntKind.signed, IntKind.bits] at hb
    simp at hb
    exact ⟨hb.1, by have := hb.2; show zs.getD i 0 < 256; rw [List.getD_eq_getElem?_getD]; omega⟩


set_option maxRecDepth 100000 in
/-- Bytes that came in. -/
theorem open_bytes {W : World} {base : Nat} {v : Value} {d : DataW H} {p : List MemPlace} (hval : Value.okWide Try.prog W .any base 22 v) (h : DataW.Trod enc Try.prog W 0 (fun _ => true) true 22 v d p) : ∃ m f, BA W v m f ∧ m ≤ maxLen := by
  obtain ⟨a1, len, cap, rfl⟩ := okWide_slice Try.underlying22 hval
  obtain ⟨fuel, hf⟩ := h
  simp only [Value.cells] at hf
  exact bytes_of hf

end
end Go.Proofs.Ytkhjkemllgjfmaa

/- Aid for the rows: a media file read off an argument. -/
namespace Go.Proofs.Ytkhjkemllgjfmaa
open Go.ChangeShapes Go.WideShapes Go.ChangeAt Go.RowKit
set_option linter.unusedVariables false

theorem cellsT9 : Try.prog.cellsOf 9 = 1 := by kernel_rfl
theorem cellsT2 : Try.prog.cellsOf 2 = 1 := by kernel_rfl
theorem cellsT4 : Try.prog.cellsOf 4 = 1 := by kernel_rfl
theorem cellsT22 : Try.prog.cellsOf 22 = 1 := by kernel_rfl
theorem cellsT35 : Try.prog.cellsOf 35 = 1 := by kernel_rfl
theorem cellsT45 : Try.prog.cellsOf 45 = 1 := by kernel_rfl
theorem cellsT46 : Try.prog.cellsOf 46 = 1 := by kernel_rfl
theorem cellsT37 : Try.prog.cellsOf 37 = 2 := by kernel_rfl
theorem cellsT48 : Try.prog.cellsOf 48 = 5 := by kernel_rfl
theorem cellsT61 : Try.prog.cellsOf 61 = 2 := by kernel_rfl
theorem cellsT73 : Try.prog.cellsOf 73 = 4 := by kernel_rfl

section
variable {H : Type} {enc : TypeId × Value → H}

/-- A slice whose elements have k cells each. -/
theorem slice_at {W : World} {n : Nat} {c : Value} {t e : TypeId} {k : Nat} {y : DataW H × List MemPlace} (ht : Try.prog.underlying t = some (.slice e)) (hC : Try.prog.cellsOf e = k) (hk : 0 < k) (h : DataW.trod enc Try.prog W 0 (fun _ => true) true n t [c] = some y) :
    ∃ ao len cap, c = .slice ao len cap ∧ len ≤ cap ∧ len ≤ maxLen ∧ ∀ i, i < len → ∃ b o cs' n' y', ao = some ⟨b, o, none⟩ ∧ cs'.length = k ∧ (∀ j, j < k → W.cell? ⟨b, o + i * k + j, none⟩ = cs'[j]?) ∧ DataW.trod enc Try.prog W 0 (fun _ => true) true n' e cs' = some y' := by
  rcases Go.Deep.open_slice ht h with ⟨hcs, _⟩ | ⟨a, len, cap, m, n', D, Pl, hcs, _, hl, hm, hmm, _, hi⟩
  · obtain rfl : c = .slice none 0 0 := by simpa using hcs
    exact ⟨none, 0, 0, rfl, Nat.le_refl _, Nat.zero_le _, fun i hi => absurd hi (Nat.not_lt_zero i)⟩
  · obtain rfl : c = .slice (some a) len cap := by simpa using hcs
    simp only [if_true] at hmm
    subst hmm
    refine ⟨_, len, m, rfl, hl, Nat.le_trans hl hm, fun i hil => ?_⟩
    obtain ⟨ab, ao, spot⟩ := a
    have hspot : spot = none := by
      obtain ⟨cs0, hc0, _⟩ := hi 0 (by omega)
      rw [hC] at hc0
      obtain ⟨_, hl0, hat0⟩ := World.cells?_some hc0
      have h0 := hat0 0 hk
      rw [List.getElem?_eq_getElem (by omega)] at h0
      have := World.cell?_spot h0
      simpa [Addr.add] using this
    subst hspot
    obtain ⟨cs', hc', ht'⟩ := hi i (by omega)
    rw [hC] at hc'
    obtain ⟨_, hl', hat⟩ := World.cells?_some hc'
    refine ⟨ab, ao, cs', n', _, rfl, hl', fun j hj => ?_, ht'⟩
    have := hat j hj
    rw [Addr.add_lit, Addr.add_lit] at this
    exact this

set_option maxRecDepth 100000 in
theorem samples_of {W : World} {n : Nat} {c : Value} {y : DataW H × List MemPlace} (h : DataW.trod enc Try.prog W 0 (fun _ => true) true n 45 [c] = some y) : ∃ m S, SA W c m S ∧ m ≤ maxLen := by
  obtain ⟨ao, len, cap, rfl, hl, hm, hi⟩ := slice_at Try.underlying45 cellsT73 (by decide) h
  have key : ∀ i : Nat, ∃ s : Sm, i < len → ∃ b o x, ao = some ⟨b, o, none⟩ ∧ W.cell? ⟨b, o + i * 4, none⟩ = some x ∧ W.cell? ⟨b, o + i * 4 + 1, none⟩ = some (.int .i64 s.dur) ∧ W.cell? ⟨b, o + i * 4 + 2, none⟩ = some (.int .i64 s.shift) ∧ W.cell? ⟨b, o + i * 4 + 3, none⟩ = some (.bool s.sync) ∧ BA W x s.n s.D := by
    intro i
    by_cases hil : i < len
    · obtain ⟨b, o, cs', n', y', rfl, hlen, hat, ht⟩ := hi i hil
      obtain ⟨xs, n2, _, hx, _, hxl, hg⟩ := DataW.trod_struct Try.underlying73 ht
      match cs', hlen with
      | [c0, c1, c2, c3], _ =>
        match xs, hxl with
        | [y0, y1, y2, y3], _ =>
          have h0 := hg 0 _ rfl
          have h1 := hg 1 _ rfl
          have h2 := hg 2 _ rfl
          have h3 := hg 3 _ rfl
          simp [cellsT22, cellsT2, cellsT4] at h0 h1 h2 h3
          obtain ⟨a, e1, _⟩ := DataW.trod_int Try.underlying2 h1
          obtain ⟨b', e2, _⟩ := DataW.trod_int Try.underlying2 h2
          obtain ⟨d, e3, _⟩ := DataW.trod_bool Try.underlying4 h3
          obtain rfl : c1 = .int .i64 a := by simpa using e1
          obtain rfl : c2 = .int .i64 b' := by simpa using e2
          obtain rfl : c3 = .bool d := by simpa using e3
          obtain ⟨m0, f0, b0, _⟩ := bytes_of h0
          exact ⟨⟨m0, f0, a, b', d⟩, fun _ => ⟨b, o, c0, rfl, hat 0 (by decide), hat 1 (by decide), hat 2 (by decide), hat 3 (by decide), b0⟩⟩
    · exact ⟨⟨0, fun _ => 0, 0, 0, false⟩, fun h => absurd h hil⟩
  exact ⟨len, fun i => Classical.choose (key i), ⟨ao, cap, rfl, hl, fun i hil => Classical.choose_spec (key i) hil⟩, hm⟩

set_option maxRecDepth 100000 in
theorem edits_of {W : World} {n : Nat} {c : Value} {y : DataW H × List MemPlace} (h : DataW.trod enc Try.prog W 0 (fun _ => true) true n 46 [c] = some y) : ∃ m S, EA W c m S ∧ m ≤ maxLen := by
  obtain ⟨ao, len, cap, rfl, hl, hm, hi⟩ := slice_at Try.underlying46 cellsT61 (by decide) h
  have key : ∀ i : Nat, ∃ s : Ed, i < len → ∃ b o, ao = some ⟨b, o, none⟩ ∧ W.cell? ⟨b, o + i * 2, none⟩ = some (.int .i64 s.dur) ∧ W.cell? ⟨b, o + i * 2 + 1, none⟩ = some (.int .i64 s.time) := by
    intro i
    by_cases hil : i < len
    · obtain ⟨b, o, cs', n', y', rfl, hlen, hat, ht⟩ := hi i hil
      obtain ⟨xs, n2, _, hx, _, hxl, hg⟩ := DataW.trod_struct Try.underlying61 ht
      match cs', hlen with
      | [c0, c1], _ =>
        match xs, hxl with
        | [y0, y1], _ =>
          have h0 := hg 0 _ rfl
          have h1 := hg 1 _ rfl
          simp [cellsT2] at h0 h1
          obtain ⟨a, e0, _⟩ := DataW.trod_int Try.underlying2 h0
          obtain ⟨b', e1, _⟩ := DataW.trod_int Try.underlying2 h1
          obtain rfl : c0 = .int .i64 a := by simpa using e0
          obtain rfl : c1 = .int .i64 b' := by simpa using e1
          exact ⟨⟨a, b'⟩, fun _ => ⟨b, o, rfl, hat 0 (by decide), hat 1 (by decide)⟩⟩
    · exact ⟨⟨0, 0⟩, fun h => absurd h hil⟩
  exact ⟨len, fun i => Classical.choose (key i), ⟨ao, cap, rfl, hl, fun i hil => Classical.choose_spec (key i) hil⟩, hm⟩

set_option maxRecDepth 100000 in
theorem tracks_of {W : World} {n : Nat} {c : Value} {y : DataW H × List MemPlace} (h : DataW.trod enc Try.prog W 0 (fun _ => true) true n 35 [c] = some y) : ∃ m T, TSA W c m T ∧ m ≤ maxLen := by
  obtain ⟨ao, len, cap, rfl, hl, hm, hi⟩ := slice_at Try.underlying35 cellsT48 (by decide) h
  have key : ∀ i : Nat, ∃ T : Tr, i < len → ∃ b o c0 c1 c2 c3 c4, ao = some ⟨b, o, none⟩ ∧ W.cell? ⟨b, o + i * 5, none⟩ = some c0 ∧ W.cell? ⟨b, o + i * 5 + 1, none⟩ = some c1 ∧ W.cell? ⟨b, o + i * 5 + 2, none⟩ = some c2 ∧ W.cell? ⟨b, o + i * 5 + 3, none⟩ = some c3 ∧ W.cell? ⟨b, o + i * 5 + 4, none⟩ = some c4 ∧ TC W c0 c1 c2 c3 c4 T := by
    intro i
    by_cases hil : i < len
    · obtain ⟨b, o, cs', n', y', rfl, hlen, hat, ht⟩ := hi i hil
      obtain ⟨xs, n2, _, hx, _, hxl, hg⟩ := DataW.trod_struct Try.underlying48 ht
      match cs', hlen with
      | [c0, c1, c2, c3, c4], _ =>
        match xs, hxl with
        | [y0, y1, y2, y3, y4], _ =>
          have h0 := hg 0 _ rfl
          have h1 := hg 1 _ rfl
          have h2 := hg 2 _ rfl
          have h3 := hg 3 _ rfl
          have h4 := hg 4 _ rfl
          simp [cellsT9, cellsT2, cellsT22, cellsT45, cellsT46] at h0 h1 h2 h3 h4
          obtain ⟨s, e0, _⟩ := DataW.trod_string Try.underlying9 h0
          obtain ⟨a, e1, _⟩ := DataW.trod_int Try.underlying2 h1
          obtain rfl : c0 = .string s := by simpa using e0
          obtain rfl : c1 = .int .i64 a := by simpa using e1
          obtain ⟨m2, f2, b2, _⟩ := bytes_of h2
          obtain ⟨m3, S, b3, _⟩ := samples_of h3
          obtain ⟨m4, E, b4, _⟩ := edits_of h4
          exact ⟨⟨s, a, m2, f2, m3, S, m4, E⟩, fun _ => ⟨b, o, _, _, _, _, _, rfl, hat 0 (by decide), hat 1 (by decide), hat 2 (by decide), hat 3 (by decide), hat 4 (by decide), ⟨rfl, rfl, b2, b3, b4⟩⟩⟩
    · exact ⟨⟨ByteArray.empty, 0, 0, fun _ => 0, 0, fun _ => ⟨0, fun _ => 0, 0, 0, false⟩, 0, fun _ => ⟨0, 0⟩⟩, fun h => absurd h hil⟩
  exact ⟨len, fun i => Classical.choose (key i), ⟨ao, cap, rfl, hl, fun i hil => Classical.choose_spec (key i) hil⟩, hm⟩

set_option maxRecDepth 100000 in
/-- A file that came in. -/
theorem open_file {W : World} {base : Nat} {v : Value} {d : DataW H} {p : List MemPlace} (hval : Value.okWide Try.prog W .any base 37 v) (h : DataW.Trod enc Try.prog W 0 (fun _ => true) true 37 v d p) : ∃ F, FA W v F ∧ F.nT ≤ maxLen := by
  obtain ⟨cs, rfl, hsz⟩ := okWide_struct Try.underlying37 hval
  obtain ⟨fuel, hf⟩ := h
  obtain ⟨xs, n, _, hx, _, hlen, hg⟩ := DataW.trod_struct Try.underlying37 hf
  obtain ⟨l⟩ := cs
  match l, hsz.trans cellsT37 with
  | [c0, c1], _ =>
    match xs, hlen with
    | [y0, y1], _ =>
      have h0 := hg 0 _ rfl
      have h1 := hg 1 _ rfl
      simp [Value.cells, cellsT2, cellsT35] at h0 h1
      obtain ⟨a, e0, _⟩ := DataW.trod_int Try.underlying2 h0
      obtain rfl : c0 = .int .i64 a := by simpa using e0
      obtain ⟨m, T, ht, hm⟩ := tracks_of h1
      exact ⟨⟨a, m, T⟩, ⟨_, rfl, ht⟩, hm⟩

end
end Go.Proofs.Ytkhjkemllgjfmaa


namespace Go.Proofs.Ytkhjkemllgjfmaa.isomediaBack
open Go.ChangeShapes Go.WideShapes Go.ChangeAt Go.RowKit
set_option linter.unusedVariables false

theorem own : ownKnob Try.prog.godebug = none := by kernel_rfl

set_option maxRecDepth 100000 in
theorem lifted (os : Os) (started : os.Started) (H : Type) (enc : TypeId × Value → H) :
    ReturnsInHanded {} Try.checked os 8 .any (Rows.isomediaBackSpec.pre6 enc Try.prog Try.f8 Rows.isomediaBackRow.domain false) (Rows.isomediaBackSpec.post enc Try.prog Try.f8 false true false false) := by
  refine returnsInHanded_of_change (C := Try.checked) own started (by kernel_rfl) Try.func8
    (ChangeSpec.witness6 (enc := enc) (C := Try.checked) false ⟨#[], #[.agg #[.int .i64 0, .slice none 0 0]], []⟩ 8 (by kernel_rfl) (by kernel_rfl) (by kernel_rfl) (by kernel_rfl)) ?_
  intro W base args ds gs before hval0 hW hcnd _
  have hval : ∀ (j : Nat) t v, Try.f8.params[j]? = some t → args[j]? = some v → Value.okWide Try.prog W .any base t v := hval0
  have hW' := hW
  obtain ⟨p, q, hA0, hV, rfl, hfz, hnd⟩ := hW
  have hA : DataW.TrodAll enc Try.prog W 0 (fun _ => true) true Try.f8.params.toList args.toList ds p := hA0
  have hAk := hA
  rw [Try.params8] at hA hval
  obtain ⟨v0, vs0, d0, ds0, p0, q0, hargs, rfl, rfl, h0, r0⟩ := trodAll_cons hA
  obtain ⟨rfl, rfl, rfl⟩ := trodAll_nil r0
  obtain rfl : args = #[v0] := by cases args; simp_all
  obtain ⟨rfl, rfl⟩ := trodVars_none hV
  obtain ⟨F0, hr0, hm0⟩ := open_file (hval 0 37 v0 rfl rfl) h0
  simp only [List.append_nil] at hW' hAk
  refine (law_back v0 F0 W hr0 (by unfold maxLen at hm0; omega)).mono fun e W' ⟨he, hg⟩ => ?_
  subst he
  exact ⟨_, rfl, post_of_below (pv := []) hW' (fun _ _ _ => (trodAll_cons_mk (shut_bool Try.underlying4 _) trodAll_mk0)) (fun sp hsp => trodAll_stays laid_out hg (by kernel_rfl) hAk (fun x hx => hW'.lt x (by simpa using hx)) (fun x hx => hsp x (by simpa using hx))) (fun _ _ => rfl) (by simp)
    hg (ok_one (by kernel_rfl) rfl (okWide_bool_mk Try.underlying4 _))⟩

theorem over : Rows.isomediaBackRow.holds Try.pinned (OpenSpec.ofChange Rows.isomediaBackSpec) :=
  OpenClaim.holds_of_wide 8 Try.f8 rfl rfl rfl rfl rfl rfl rfl ⟨rfl, rfl, rfl, rfl, rfl⟩ rfl rfl rfl rfl rfl (by kernel_rfl) Try.func8 (by kernel_rfl)
    (of_decide_eq_true (by kernel_rfl)) (by unfold Func.isWrapper; first | (rw [if_pos (by decide +kernel)]; kernel_rfl) | (rw [if_neg (by decide +kernel)]; exact ⟨rfl, rfl⟩))
    (fun os started H enc _ => lifted os started H enc)

/-- The statement. -/
theorem proved : Rows.IsomediaBackSaid :=
  over
end Go.Proofs.Ytkhjkemllgjfmaa.isomediaBack
