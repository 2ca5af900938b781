/- Aid for walks that write several blocks; strings read byte by byte; a string's iterator. -/
import Derived.Test.YtnnobdcbmagbaaaUA
namespace Go.Proofs.Ytnnobdcbmagbaaa
open Go.RowKit
set_option linter.unusedVariables false

/-- Only blocks with P may have been written. -/
structure OnlyP (w w' : World) (P : Nat → Prop) : Prop where
  os : w'.os = w.os
  tape : w'.tape = w.tape
  output : w'.output = w.output
  size : w.heap.size ≤ w'.heap.size
  block : ∀ k, k < w.heap.size → ¬ P k → w'.heap[k]? = w.heap[k]?
section
variable {w w' w'' : World} {P : Nat → Prop}
theorem OnlyP.refl (w : World) (P : Nat → Prop) : OnlyP w w P := ⟨rfl, rfl, rfl, Nat.le_refl _, fun _ _ _ => rfl⟩
theorem OnlyP.trans (k : OnlyP w w' P) (l : OnlyP w' w'' P) : OnlyP w w'' P :=
  ⟨l.os.trans k.os, l.tape.trans k.tape, l.output.trans k.output, Nat.le_trans k.size l.size, fun i hi hp => (l.block i (Nat.lt_of_lt_of_le hi k.size) hp).trans (k.block i hi hp)⟩
theorem OnlyP.of_below (k : Below w.heap.size w w') : OnlyP w w' P := ⟨k.os, k.tape, k.output, k.size, fun i hi _ => k.block i hi⟩
theorem OnlyP.drew (k : OnlyP w w' P) : OnlyP w w'.drew P := ⟨k.os, k.tape, k.output, k.size, k.block⟩
theorem OnlyP.set (k : OnlyP w w' P) {b : Nat} (hb : P b) (o : Nat) (u : Value) : OnlyP w (w'.setCell ⟨b, o, none⟩ u) P :=
  ⟨k.os, k.tape, k.output, by rw [World.size_setCell]; exact k.size, fun i hi hp => by rw [Below.heap_setCell _ _ _ _ (fun e => hp (by rw [e]; exact hb))]; exact k.block i hi hp⟩
theorem OnlyP.cell {b o : Nat} {v : Value} (k : OnlyP w w' P) (hc : w.cell? ⟨b, o, none⟩ = some v) (h1 : ¬ P b) : w'.cell? ⟨b, o, none⟩ = some v :=
  (World.cell?_of_block (a := ⟨b, o, none⟩) (k.block b (block_lt_of_cell hc) h1)).trans hc
theorem OnlyP.below {B : Nat} (k : OnlyP w w' P) (h1 : ∀ b, P b → B ≤ b) (hs : B ≤ w.heap.size) : Below B w w' :=
  ⟨k.os, k.tape, k.output, k.size, fun i hi => k.block i (Nat.lt_of_lt_of_le hi hs) (fun hp => by have := h1 i hp; omega)⟩
theorem OnlyP.row {B b n c : Nat} {F : Nat → Int} (k : OnlyP w w' P) (r : Row w B b n c F) (h1 : ¬ P b) : Row w' B b n c F := by
  have hl := r.le
  refine ⟨r.1, ?_⟩
  rcases r.2 with ⟨h', _⟩ | ⟨g', cap', cur, h', q1, q2, q3⟩
  · simp at h'
  · simp only [Value.slice.injEq, Option.some.injEq, Addr.mk.injEq, and_true, true_and] at h'
    obtain ⟨rfl, rfl⟩ := h'
    exact .inr ⟨b, c, cur, rfl, q1, by rw [k.block b hl.2.1 h1]; exact q2, q3⟩
theorem BX.onlyP {b : Nat} {c0 c1 c2 c3 c4 : Value} (x : BX w b c0 c1 c2 c3 c4) (k : OnlyP w w' P) (h : ¬ P b) : BX w' b c0 c1 c2 c3 c4 :=
  ⟨k.cell x.k0 h, k.cell x.k1 h, k.cell x.k2 h, k.cell x.k3 h, k.cell x.k4 h⟩
theorem Fz.onlyP {b : Nat} (x : Fz w b) (k : OnlyP w w' P) (h : ¬ P b) : Fz w' b :=
  ⟨Nat.lt_of_lt_of_le x.1 k.size, fun o => (World.frozen?_of_block (a := ⟨b, o, none⟩) (k.block b x.1 h)).trans (x.2 o)⟩
theorem C1.onlyP {b : Nat} {c : Value} (x : C1 w b c) (k : OnlyP w w' P) (h : ¬ P b) : C1 w' b c := ⟨k.cell x.k0 h⟩
end
/-- One of three blocks. -/
def In3 (g1 g2 g3 : Nat) (b : Nat) : Prop := b = g1 ∨ b = g2 ∨ b = g3
theorem In3.a (g1 g2 g3 : Nat) : In3 g1 g2 g3 g1 := .inl rfl
theorem In3.b (g1 g2 g3 : Nat) : In3 g1 g2 g3 g2 := .inr (.inl rfl)
theorem In3.c (g1 g2 g3 : Nat) : In3 g1 g2 g3 g3 := .inr (.inr rfl)
theorem In3.no {g1 g2 g3 b : Nat} (h1 : b ≠ g1) (h2 : b ≠ g2) (h3 : b ≠ g3) : ¬ In3 g1 g2 g3 b := by unfold In3; omega
theorem In3.ge {g1 g2 g3 B : Nat} (h1 : B ≤ g1) (h2 : B ≤ g2) (h3 : B ≤ g3) : ∀ b, In3 g1 g2 g3 b → B ≤ b := by unfold In3; omega

/-- The bytes of a string. -/
def sB (s : ByteArray) (i : Nat) : Int := (s.data.toList.getD i 0).toNat
theorem sB_bd (s : ByteArray) (i : Nat) : 0 ≤ sB s i ∧ sB s i < 256 := by
  unfold sB; have := (s.data.toList.getD i 0).toNat_lt; omega
theorem sB_at (s : ByteArray) (i : Nat) (h : i < s.size) : sB s i = ((s[i]'h).toNat : Int) := by
  unfold sB
  have e : s.data.toList.getD i 0 = s[i]'h := by
    rw [List.getD_eq_getElem?_getD, List.getElem?_eq_getElem (by simpa using h)]
    rfl
  rw [e]
def okText (s : ByteArray) : Bool := decide (1 ≤ s.size ∧ s.size ≤ 64 ∧ ∀ i, i < s.size → 32 ≤ sB s i ∧ sB s i ≤ 126)

/-- A string's iterator at block b. -/
def At (w : World) (b : Nat) (s : ByteArray) (pos : Nat) : Prop := w.heap[b]? = some (.stringIter s pos)
theorem At.lt {w : World} {b : Nat} {s : ByteArray} {pos : Nat} (h : At w b s pos) : b < w.heap.size := by
  by_cases hb : b < w.heap.size
  · exact hb
  · exfalso; unfold At at h; rw [Array.getElem?_eq_none (by omega)] at h; simp at h
theorem At.below {w w' : World} {b : Nat} {s : ByteArray} {pos : Nat} (h : At w b s pos) (hb : Below w.heap.size w w') : At w' b s pos := (hb.block b h.lt).trans h
theorem At.onlyP {w w' : World} {P : Nat → Prop} {b : Nat} {s : ByteArray} {pos : Nat} (h : At w b s pos) (k : OnlyP w w' P) (hn : ¬ P b) : At w' b s pos := (k.block b h.lt hn).trans h
/-- The iterator steps on. -/
def World.itStep (w : World) (b : Nat) (s : ByteArray) (pos : Nat) : World := { w with heap := w.heap.setIfInBounds b (.stringIter s pos) }
theorem next_at {P : Program} {w : World} {b : Nat} {s : ByteArray} {pos : Nat} (ty : TypeId) (ha : At w b s pos) (h : pos < s.size) (hs : sB s pos ≤ 126) :
    (Instr.next (.pointer (some ⟨b, 0, none⟩)) true ty).run P w = .ok (.tuple #[.bool true, .int .i64 pos, .int .i32 (sB s pos)]) (World.itStep w b s (pos + 1)) := by
  have hb : (s[pos]'h).toNat < 128 := by have := sB_at s pos h; omega
  unfold At at ha
  have hi : (Array.set! w.heap b (.stringIter s (pos + 1))) = w.heap.setIfInBounds b (.stringIter s (pos + 1)) := by simp
  rw [sB_at s pos h]
  simp only [Instr.next, getObj, setObj, Sem.run_bind, Sem.run, ha, Result.andThen, h, if_true, decode_ascii s pos h hb]
  simp [goInt, World.itStep]
theorem next_end {P : Program} {w : World} {b : Nat} {s : ByteArray} {pos : Nat} (ty : TypeId) (ha : At w b s pos) (h : ¬ pos < s.size) :
    (Instr.next (.pointer (some ⟨b, 0, none⟩)) true ty).run P w = .ok (.tuple #[.bool false]) w := by
  unfold At at ha
  simp [Instr.next, getObj, Sem.run, ha, h]
theorem At.step {w : World} {b : Nat} {s : ByteArray} {pos : Nat} (h : At w b s pos) (q : Nat) : At (World.itStep w b s q) b s q := by
  have := h.lt
  show (w.heap.setIfInBounds b (.stringIter s q))[b]? = _
  simp [this]
theorem OnlyP.itStep {w w' : World} {P : Nat → Prop} (k : OnlyP w w' P) {b : Nat} (hb : P b) (s : ByteArray) (q : Nat) : OnlyP w (World.itStep w' b s q) P :=
  ⟨k.os, k.tape, k.output, by show w.heap.size ≤ (w'.heap.setIfInBounds b _).size; rw [Array.size_setIfInBounds]; exact k.size,
    fun i hi hp => by
      show (w'.heap.setIfInBounds b _)[i]? = _
      rw [Array.getElem?_setIfInBounds_ne (fun e => hp (by rw [← e]; exact hb))]
      exact k.block i hi hp⟩

end Go.Proofs.Ytnnobdcbmagbaaa
