/- Aid for the rows: a frame read off an argument. -/
import Derived.Test.YtnnobdcbmagbaaaRA
import Derived.ChangeSame
namespace Go.Proofs.Ytnnobdcbmagbaaa
open Go.ChangeShapes Go.WideShapes Go.ChangeAt Go.RowKit
set_option linter.unusedVariables false

section
variable {H : Type} {enc : TypeId × Value → H}

set_option maxRecDepth 100000 in
theorem bytes_of {W : World} {n : Nat} {c : Value} {y : DataW H × List MemPlace} (h : DataW.trod enc Try.prog W 0 (fun _ => true) true n 24 [c] = some y) : ∃ m f, BA W c m f := by
  rcases open_ints Try.underlying24 Try.underlying5 cells5 h with ⟨hcs, hx⟩ | ⟨a, len', cap', zs, hcs, _, hl, hm, hz, hx, hcell, hwz⟩
  · obtain rfl : c = .slice none 0 0 := by simpa using hcs
    exact ⟨0, fun _ => 0, none, 0, rfl, Nat.le_refl _, fun i hi => absurd hi (Nat.not_lt_zero i)⟩
  · obtain rfl : c = .slice (some a) len' cap' := by simpa using hcs
    simp only [if_true] at hz
    refine ⟨len', fun i => zs.getD i 0, _, _, rfl, hl, fun i hi => ?_⟩
    obtain ⟨ab, ao, spot⟩ := a
    have hspot : spot = none := by simpa [Addr.add] using World.cell?_spot (hcell 0 (by omega))
    subst hspot
    have hc := hcell i (by omega)
    rw [Addr.add_lit] at hc
    refine ⟨⟨ab, ao, rfl, hc⟩, ?_⟩
    have hb := hwz (zs.getD i 0) (by
      rw [List.getD_eq_getElem?_getD, List.getElem?_eq_getElem (show i < zs.length by omega)]
      exact List.getElem_mem _)
    simp only [Lit.wf, IntKind.min, IntKind.max, IntKind.signed, IntKind.bits] at hb
    simp at hb
    exact ⟨hb.1, by have := hb.2; show zs.getD i 0 < 256; rw [List.getD_eq_getElem?_getD]; omega⟩

theorem cells26 : Try.prog.cellsOf 26 = 5 := by kernel_rfl
theorem cells24 : Try.prog.cellsOf 24 = 1 := by kernel_rfl

set_option maxRecDepth 100000 in
/-- A frame that came in. -/
theorem open_frame {W : World} {base : Nat} {v : Value} {d : DataW H} {p : List MemPlace} (hval : Value.okWide Try.prog W .any base 26 v) (h : DataW.Trod enc Try.prog W 0 (fun _ => true) true 26 v d p) : ∃ F, FA W v F := by
  obtain ⟨cs, rfl, hsz⟩ := okWide_struct Try.underlying26 hval
  obtain ⟨fuel, hf⟩ := h
  obtain ⟨xs, n, _, hx, _, hlen, hg⟩ := DataW.trod_struct Try.underlying26 hf
  obtain ⟨l⟩ := cs
  match l, hsz.trans cells26 with
  | [c0, c1, c2, c3, c4], _ =>
    match xs, hlen with
    | [y0, y1, y2, y3, y4], _ =>
      have h0 := hg 0 _ rfl
      have h1 := hg 1 _ rfl
      have h2 := hg 2 _ rfl
      have h3 := hg 3 _ rfl
      have h4 := hg 4 _ rfl
      simp [Value.cells, cells3, cells24] at h0 h1 h2 h3 h4
      obtain ⟨a, e0, _⟩ := DataW.trod_int Try.underlying3 h0
      obtain ⟨b, e1, _⟩ := DataW.trod_int Try.underlying3 h1
      obtain rfl : c0 = .int .i64 a := by simpa using e0
      obtain rfl : c1 = .int .i64 b := by simpa using e1
      obtain ⟨m2, f2, b2⟩ := bytes_of h2
      obtain ⟨m3, f3, b3⟩ := bytes_of h3
      obtain ⟨m4, f4, b4⟩ := bytes_of h4
      exact ⟨⟨a, b, m2, m3, m4, f2, f3, f4⟩, _, _, _, rfl, b2, b3, b4⟩

end
end Go.Proofs.Ytnnobdcbmagbaaa
