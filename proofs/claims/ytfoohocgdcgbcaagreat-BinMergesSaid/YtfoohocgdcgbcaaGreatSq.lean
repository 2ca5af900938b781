/- Shorter words for facts that are used everywhere. -/
import Derived.Lib.Hide
import Derived.Handy
namespace Go
open Go.RowKit
universe u
theorem Hd {p : Prop} (h : p) : Hid p := Lib.hid h
theorem Tb {w w1 w2 : World} (h : Hid (Below w.heap.size w w1)) (k : Below w1.heap.size w1 w2) : Hid (Below w.heap.size w w2) := Lib.hid (h.out.trans (k.mono h.out.size))
theorem Xq {a : Sort u} (x : a) : ∃ y, y = x := ⟨x, rfl⟩
theorem sA1 {a : Type} (l : List a) (i : Nat) (x : a) : l.toArray.setIfInBounds i x = (l.set i x).toArray := List.setIfInBounds_toArray l i x
theorem sB1 {a : Type} (x y : a) (l : List a) (i : Nat) : (x :: l).set (i + 1) y = x :: l.set i y := List.set_cons_succ
theorem sC1 {a : Type} (x y : a) (l : List a) : (x :: l).set 0 y = y :: l := List.set_cons_zero
end Go
