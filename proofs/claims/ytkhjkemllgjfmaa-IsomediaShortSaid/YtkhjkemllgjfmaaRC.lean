/- Aid for the rows: a media file read off an argument. -/
import Derived.Test.YtkhjkemllgjfmaaRA
import Derived.Test.YtkhjkemllgjfmaaH
import Derived.Deep.Slices
namespace Go.Proofs.Ytkhjkemllgjfmaa
open Go.ChangeShapes Go.WideShapes Go.ChangeAt Go.RowKit
set_option linter.unusedVariables false

theorem cellsT9 : Try.prog.cellsOf 9 = 1 := by kernel_rfl
theorem cellsT2 : Try.prog.cellsOf 2 = 1 := by kernel_rfl
theorem cellsT4 : Try.prog.cellsOf 4 = 1 := by kernel_rfl
theorem cellsT22 : Try.prog.cellsOf 22 = 1 := by kernel_rfl
theorem cellsT35 : Try.prog.cellsOf 35 = 1 := by kernel_rfl
theorem cellsT45 : Try.prog.cellsOf 45 = 1 := by kernel_rfl
theorem cellsT46 : Try.prog.cellsOf 46 = 1 := by kernel_rfl
theorem cellsT37 : Try.prog.cellsOf 37 = 2 := by kernel_rfl
theorem cellsT48 : Try.prog.cellsOf 48 = 5 := by kernel_rfl
theorem cellsT61 : Try.prog.cellsOf 61 = 2 := by kernel_rfl
theorem cellsT73 : Try.prog.cellsOf 73 = 4 := by kernel_rfl

section
variable {H : Type} {enc : TypeId × Value → H}

/-- A slice whose elements have k cells each. -/
theorem slice_at {W : World} {n : Nat} {c : Value} {t e : TypeId} {k : Nat} {y : DataW H × List MemPlace} (ht : Try.prog.underlying t = some (.slice e)) (hC : Try.prog.cellsOf e = k) (hk : 0 < k) (h : DataW.trod enc Try.prog W 0 (fun _ => true) true n t [c] = some y) :
    ∃ ao len cap, c = .slice ao len cap ∧ len ≤ cap ∧ len ≤ maxLen ∧ ∀ i, i < len → ∃ b o cs' n' y', ao = some ⟨b, o, none⟩ ∧ cs'.length = k ∧ (∀ j, j < k → W.cell? ⟨b, o + i * k + j, none⟩ = cs'[j]?) ∧ DataW.trod enc Try.prog W 0 (fun _ => true) true n' e cs' = some y' := by
  rcases Go.Deep.open_slice ht h with ⟨hcs, _⟩ | ⟨a, len, cap, m, n', D, Pl, hcs, _, hl, hm, hmm, _, hi⟩
  · obtain rfl : c = .slice none 0 0 := by simpa using hcs
    exact ⟨none, 0, 0, rfl, Nat.le_refl _, Nat.zero_le _, fun i hi => absurd hi (Nat.not_lt_zero i)⟩
  · obtain rfl : c = .slice (some a) len cap := by simpa using hcs
    simp only [if_true] at hmm
    subst hmm
    refine ⟨_, len, m, rfl, hl, Nat.le_trans hl hm, fun i hil => ?_⟩
    obtain ⟨ab, ao, spot⟩ := a
    have hspot : spot = none := by
      obtain ⟨cs0, hc0, _⟩ := hi 0 (by omega)
      rw [hC] at hc0
      obtain ⟨_, hl0, hat0⟩ := World.cells?_some hc0
      have h0 := hat0 0 hk
      rw [List.getElem?_eq_getElem (by omega)] at h0
      have := World.cell?_spot h0
      simpa [Addr.add] using this
    subst hspot
    obtain ⟨cs', hc', ht'⟩ := hi i (by omega)
    rw [hC] at hc'
    obtain ⟨_, hl', hat⟩ := World.cells?_some hc'
    refine ⟨ab, ao, cs', n', _, rfl, hl', fun j hj => ?_, ht'⟩
    have := hat j hj
    rw [Addr.add_lit, Addr.add_lit] at this
    exact this

set_option maxRecDepth 100000 in
theorem samples_of {W : World} {n : Nat} {c : Value} {y : DataW H × List MemPlace} (h : DataW.trod enc Try.prog W 0 (fun _ => true) true n 45 [c] = some y) : ∃ m S, SA W c m S ∧ m ≤ maxLen := by
  obtain ⟨ao, len, cap, rfl, hl, hm, hi⟩ := slice_at Try.underlying45 cellsT73 (by decide) h
  have key : ∀ i : Nat, ∃ s : Sm, i < len → ∃ b o x, ao = some ⟨b, o, none⟩ ∧ W.cell? ⟨b, o + i * 4, none⟩ = some x ∧ W.cell? ⟨b, o + i * 4 + 1, none⟩ = some (.int .i64 s.dur) ∧ W.cell? ⟨b, o + i * 4 + 2, none⟩ = some (.int .i64 s.shift) ∧ W.cell? ⟨b, o + i * 4 + 3, none⟩ = some (.bool s.sync) ∧ BA W x s.n s.D := by
    intro i
    by_cases hil : i < len
    · obtain ⟨b, o, cs', n', y', rfl, hlen, hat, ht⟩ := hi i hil
      obtain ⟨xs, n2, _, hx, _, hxl, hg⟩ := DataW.trod_struct Try.underlying73 ht
      match cs', hlen with
      | [c0, c1, c2, c3], _ =>
        match xs, hxl with
        | [y0, y1, y2, y3], _ =>
          have h0 := hg 0 _ rfl
          have h1 := hg 1 _ rfl
          have h2 := hg 2 _ rfl
          have h3 := hg 3 _ rfl
          simp [cellsT22, cellsT2, cellsT4] at h0 h1 h2 h3
          obtain ⟨a, e1, _⟩ := DataW.trod_int Try.underlying2 h1
          obtain ⟨b', e2, _⟩ := DataW.trod_int Try.underlying2 h2
          obtain ⟨d, e3, _⟩ := DataW.trod_bool Try.underlying4 h3
          obtain rfl : c1 = .int .i64 a := by simpa using e1
          obtain rfl : c2 = .int .i64 b' := by simpa using e2
          obtain rfl : c3 = .bool d := by simpa using e3
          obtain ⟨m0, f0, b0, _⟩ := bytes_of h0
          exact ⟨⟨m0, f0, a, b', d⟩, fun _ => ⟨b, o, c0, rfl, hat 0 (by decide), hat 1 (by decide), hat 2 (by decide), hat 3 (by decide), b0⟩⟩
    · exact ⟨⟨0, fun _ => 0, 0, 0, false⟩, fun h => absurd h hil⟩
  exact ⟨len, fun i => Classical.choose (key i), ⟨ao, cap, rfl, hl, fun i hil => Classical.choose_spec (key i) hil⟩, hm⟩

set_option maxRecDepth 100000 in
theorem edits_of {W : World} {n : Nat} {c : Value} {y : DataW H × List MemPlace} (h : DataW.trod enc Try.prog W 0 (fun _ => true) true n 46 [c] = some y) : ∃ m S, EA W c m S ∧ m ≤ maxLen := by
  obtain ⟨ao, len, cap, rfl, hl, hm, hi⟩ := slice_at Try.underlying46 cellsT61 (by decide) h
  have key : ∀ i : Nat, ∃ s : Ed, i < len → ∃ b o, ao = some ⟨b, o, none⟩ ∧ W.cell? ⟨b, o + i * 2, none⟩ = some (.int .i64 s.dur) ∧ W.cell? ⟨b, o + i * 2 + 1, none⟩ = some (.int .i64 s.time) := by
    intro i
    by_cases hil : i < len
    · obtain ⟨b, o, cs', n', y', rfl, hlen, hat, ht⟩ := hi i hil
      obtain ⟨xs, n2, _, hx, _, hxl, hg⟩ := DataW.trod_struct Try.underlying61 ht
      match cs', hlen with
      | [c0, c1], _ =>
        match xs, hxl with
        | [y0, y1], _ =>
          have h0 := hg 0 _ rfl
          have h1 := hg 1 _ rfl
          simp [cellsT2] at h0 h1
          obtain ⟨a, e0, _⟩ := DataW.trod_int Try.underlying2 h0
          obtain ⟨b', e1, _⟩ := DataW.trod_int Try.underlying2 h1
          obtain rfl : c0 = .int .i64 a := by simpa using e0
          obtain rfl : c1 = .int .i64 b' := by simpa using e1
          exact ⟨⟨a, b'⟩, fun _ => ⟨b, o, rfl, hat 0 (by decide), hat 1 (by decide)⟩⟩
    · exact ⟨⟨0, 0⟩, fun h => absurd h hil⟩
  exact ⟨len, fun i => Classical.choose (key i), ⟨ao, cap, rfl, hl, fun i hil => Classical.choose_spec (key i) hil⟩, hm⟩

set_option maxRecDepth 100000 in
theorem tracks_of {W : World} {n : Nat} {c : Value} {y : DataW H × List MemPlace} (h : DataW.trod enc Try.prog W 0 (fun _ => true) true n 35 [c] = some y) : ∃ m T, TSA W c m T ∧ m ≤ maxLen := by
  obtain ⟨ao, len, cap, rfl, hl, hm, hi⟩ := slice_at Try.underlying35 cellsT48 (by decide) h
  have key : ∀ i : Nat, ∃ T : Tr, i < len → ∃ b o c0 c1 c2 c3 c4, ao = some ⟨b, o, none⟩ ∧ W.cell? ⟨b, o + i * 5, none⟩ = some c0 ∧ W.cell? ⟨b, o + i * 5 + 1, none⟩ = some c1 ∧ W.cell? ⟨b, o + i * 5 + 2, none⟩ = some c2 ∧ W.cell? ⟨b, o + i * 5 + 3, none⟩ = some c3 ∧ W.cell? ⟨b, o + i * 5 + 4, none⟩ = some c4 ∧ TC W c0 c1 c2 c3 c4 T := by
    intro i
    by_cases hil : i < len
    · obtain ⟨b, o, cs', n', y', rfl, hlen, hat, ht⟩ := hi i hil
      obtain ⟨xs, n2, _, hx, _, hxl, hg⟩ := DataW.trod_struct Try.underlying48 ht
      match cs', hlen with
      | [c0, c1, c2, c3, c4], _ =>
        match xs, hxl with
        | [y0, y1, y2, y3, y4], _ =>
          have h0 := hg 0 _ rfl
          have h1 := hg 1 _ rfl
          have h2 := hg 2 _ rfl
          have h3 := hg 3 _ rfl
          have h4 := hg 4 _ rfl
          simp [cellsT9, cellsT2, cellsT22, cellsT45, cellsT46] at h0 h1 h2 h3 h4
          obtain ⟨s, e0, _⟩ := DataW.trod_string Try.underlying9 h0
          obtain ⟨a, e1, _⟩ := DataW.trod_int Try.underlying2 h1
          obtain rfl : c0 = .string s := by simpa using e0
          obtain rfl : c1 = .int .i64 a := by simpa using e1
          obtain ⟨m2, f2, b2, _⟩ := bytes_of h2
          obtain ⟨m3, S, b3, _⟩ := samples_of h3
          obtain ⟨m4, E, b4, _⟩ := edits_of h4
          exact ⟨⟨s, a, m2, f2, m3, S, m4, E⟩, fun _ => ⟨b, o, _, _, _, _, _, rfl, hat 0 (by decide), hat 1 (by decide), hat 2 (by decide), hat 3 (by decide), hat 4 (by decide), ⟨rfl, rfl, b2, b3, b4⟩⟩⟩
    · exact ⟨⟨ByteArray.empty, 0, 0, fun _ => 0, 0, fun _ => ⟨0, fun _ => 0, 0, 0, false⟩, 0, fun _ => ⟨0, 0⟩⟩, fun h => absurd h hil⟩
  exact ⟨len, fun i => Classical.choose (key i), ⟨ao, cap, rfl, hl, fun i hil => Classical.choose_spec (key i) hil⟩, hm⟩

set_option maxRecDepth 100000 in
/-- A file that came in. -/
theorem open_file {W : World} {base : Nat} {v : Value} {d : DataW H} {p : List MemPlace} (hval : Value.okWide Try.prog W .any base 37 v) (h : DataW.Trod enc Try.prog W 0 (fun _ => true) true 37 v d p) : ∃ F, FA W v F ∧ F.nT ≤ maxLen := by
  obtain ⟨cs, rfl, hsz⟩ := okWide_struct Try.underlying37 hval
  obtain ⟨fuel, hf⟩ := h
  obtain ⟨xs, n, _, hx, _, hlen, hg⟩ := DataW.trod_struct Try.underlying37 hf
  obtain ⟨l⟩ := cs
  match l, hsz.trans cellsT37 with
  | [c0, c1], _ =>
    match xs, hlen with
    | [y0, y1], _ =>
      have h0 := hg 0 _ rfl
      have h1 := hg 1 _ rfl
      simp [Value.cells, cellsT2, cellsT35] at h0 h1
      obtain ⟨a, e0, _⟩ := DataW.trod_int Try.underlying2 h0
      obtain rfl : c0 = .int .i64 a := by simpa using e0
      obtain ⟨m, T, ht, hm⟩ := tracks_of h1
      exact ⟨⟨a, m, T⟩, ⟨_, rfl, ht⟩, hm⟩

end
end Go.Proofs.Ytkhjkemllgjfmaa
