/- What a function gives back out of a frame's block: read without a look at all slots. -/
import Derived.Test.YtnnobdcbmagbaaaRM
namespace Go.Proofs.Ytnnobdcbmagbaaa
open Go.RowKit
set_option linter.unusedVariables false

theorem results_cell_tmp {fn : Func} {c s : Tmp} {ty : TypeId} (h : fn.results = #[.cell c ty, .tmp s]) (tmps : Array Value) (P : Program) (w : World) {p : Addr} {r e : Value} (h1 : tmps.getD c undef = .pointer (some p)) (h2 : tmps.getD s undef = e) (h3 : (loadVar ty p).run P w = .ok r w) :
    (results fn tmps).run P w = .ok (.tuple #[r, e]) w := by
  rw [Array.getD_eq_getD_getElem?] at h1 h2
  simp [results, h, h1, h2, h3, asAddr]

theorem results_cell {fn : Func} {c : Tmp} {ty : TypeId} (h : fn.results = #[.cell c ty]) (tmps : Array Value) (P : Program) (w : World) {p : Addr} {r : Value} (h1 : tmps.getD c undef = .pointer (some p)) (h3 : (loadVar ty p).run P w = .ok r w) :
    (results fn tmps).run P w = .ok r w := by
  rw [Array.getD_eq_getD_getElem?] at h1
  simp [results, h, h1, h3, asAddr]

theorem load_fr {w : World} {b : Nat} {c0 c1 c2 c3 c4 : Value} (h : BX w b c0 c1 c2 c3 c4) : (loadVar 26 ⟨b, 0, none⟩).run Try.prog w = .ok (.agg #[c0, c1, c2, c3, c4]) w := by
  obtain ⟨h0, h1, h2, h3, h4⟩ := h
  simp [go_sem, h0, h1, h2, h3, h4]

theorem BX.put5 {w : World} {b : Nat} {x0 x1 x2 x3 x4 : Value} (h : BX w b x0 x1 x2 x3 x4) (c0 c1 c2 c3 c4 : Value) : BX (((((w.setCell ⟨b, 0, none⟩ c0).setCell ⟨b, 1, none⟩ c1).setCell ⟨b, 2, none⟩ c2).setCell ⟨b, 3, none⟩ c3).setCell ⟨b, 4, none⟩ c4) b c0 c1 c2 c3 c4 := by
  obtain ⟨h0, h1, h2, h3, h4⟩ := h
  exact ⟨by simp [go_sem, h0], by simp [go_sem, h1], by simp [go_sem, h2], by simp [go_sem, h3], by simp [go_sem, h4]⟩

theorem Row.drew {w : World} {B g n c : Nat} {F : Nat → Int} (h : Row w B g n c F) : Row w.drew B g n c F := h.below (Below.refl _ _).drew

theorem wipe_at {W H d num den : Int} {X Y : Nat → Int} {k : Nat} {a s : Int} (hp : placeF ((k : Int) % W) ((k : Int) / W) W H d = (a, s)) : wipeF W H d num den X Y k = if a * den < s * num then Y k else X k := by
  unfold wipeF; rw [hp]

theorem ok_lt3 {F : Fr} (h : F.ok = true) : (∀ i : Nat, i < F.nY → (i : Int) < F.W * F.H) ∧ (∀ i : Nat, i < F.nU → (i : Int) < F.W / 2 * (F.H / 2)) ∧ (∀ i : Nat, i < F.nV → (i : Int) < F.W / 2 * (F.H / 2)) := by
  obtain ⟨h0, h1, h2, h3⟩ := ok_dims h
  exact ⟨fun i hi => by omega, fun i hi => by omega, fun i hi => by omega⟩

end Go.Proofs.Ytnnobdcbmagbaaa
