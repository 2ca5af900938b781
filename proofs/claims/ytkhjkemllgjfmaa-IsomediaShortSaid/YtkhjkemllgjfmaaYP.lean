/- What operations of a drawn region have made, each in territory of its own: numbers, bytes, boxes. -/
import Derived.Test.YtkhjkemllgjfmaaYO
import Derived.Test.YtkhjkemllgjfmaaPlanC
namespace Go.Proofs.Ytkhjkemllgjfmaa
open Go.RowKit
set_option linter.unusedVariables false
set_option linter.unusedSimpArgs false

/-- v is made of cells in R. -/
def Foot (R : Nat → Prop) (v : Value) : Prop := ∀ a n c, v = .slice (some a) n c → R a.block
def GI (L : List Int) (R : Nat → Prop) (v : Value) (w : World) : Prop := IL w v L ∧ Foot R v
def GO (B : Nat) (L : List Int) (R : Nat → Prop) (v : Value) (w : World) : Prop := Own w B v L ∧ Foot R v
def GB (nm : ByteArray) (B : Nat) (L : List Int) (R : Nat → Prop) (v : Value) (w : World) : Prop := ∃ vd, v = .agg #[.string nm, vd] ∧ GO B L R vd w
def GF (nm : ByteArray) (B : Nat) (L : List Int) (R : Nat → Prop) (v : Value) (w : World) : Prop := ∃ vd, v = .iface 109 (.agg #[.string nm, vd]) ∧ GO B L R vd w

theorem IL.block_eq {w w' : World} {v : Value} {L : List Int} (h : IL w v L) (hs : ∀ a n c, v = .slice (some a) n c → a.block < w.heap.size → w'.heap[a.block]? = w.heap[a.block]?) : IL w' v L := by
  obtain ⟨ao, c, rfl, hc, H⟩ := h
  refine ⟨ao, c, rfl, hc, fun i u hi => ?_⟩
  obtain ⟨b, o, rfl, hx⟩ := H i u hi
  have hl : b < w.heap.size := block_lt_of_cell hx
  exact ⟨b, o, rfl, (World.cell?_of_block (w := w) (a := ⟨b, o + i, none⟩) (hs ⟨b, o, none⟩ _ _ rfl hl)).trans hx⟩
theorem Own.block_eq {w w' : World} {B : Nat} {v : Value} {L : List Int} (h : Own w B v L) (hs : ∀ a n c, v = .slice (some a) n c → a.block < w.heap.size → w'.heap[a.block]? = w.heap[a.block]?) : Own w' B v L := by
  obtain ⟨h1, h2⟩ := h
  refine ⟨h1, ?_⟩
  rcases h2 with h2 | ⟨g, cap, cur, rfl, hB, hb, h3⟩
  · exact .inl h2
  · exact .inr ⟨g, cap, cur, rfl, hB, (hs ⟨g, 0, none⟩ _ _ rfl (Array.getElem?_eq_some_iff.1 hb).1).trans hb, h3⟩
theorem Own.at {w : World} {B : Nat} {v : Value} {L : List Int} (h : Own w B v L) : ∀ a n c, v = .slice (some a) n c → v.ownBlock = some a.block ∧ B ≤ a.block ∧ a.block < w.heap.size := by
  intro a n c e
  rcases h.2 with ⟨rfl, _⟩ | ⟨g, cap, cur, rfl, hB, hb, _⟩
  · simp at e
  · simp only [Value.slice.injEq, Option.some.injEq] at e
    obtain ⟨rfl, _, _⟩ := e
    exact ⟨rfl, hB, (Array.getElem?_eq_some_iff.1 hb).1⟩
theorem own_block {v : Value} {g : Nat} (h : v.ownBlock = some g) : ∃ a n c, v = .slice (some a) n c ∧ a.block = g := by
  cases v <;> try cases h
  rename_i a n c
  cases a with
  | none => cases h
  | some a =>
    refine ⟨a, n, c, rfl, ?_⟩
    simpa [Value.ownBlock] using h

section
variable {X R : Nat → Prop} {w w' : World}
theorem Foot.touch_block {v : Value} (ht : Plan.Touch X w w') (hd : ∀ b, R b → ¬ X b ∧ b < w.heap.size) (hf : Foot R v) : ∀ a n c, v = .slice (some a) n c → a.block < w.heap.size → w'.heap[a.block]? = w.heap[a.block]? := fun a n c e hl => ht.block _ hl (hd _ (hf a n c e)).1
theorem GI.touch {L : List Int} {v : Value} (h : GI L R v w) (ht : Plan.Touch X w w') (hd : ∀ b, R b → ¬ X b ∧ b < w.heap.size) : GI L R v w' := ⟨h.1.block_eq (h.2.touch_block ht hd), h.2⟩
theorem GO.touch {B : Nat} {L : List Int} {v : Value} (h : GO B L R v w) (ht : Plan.Touch X w w') (hd : ∀ b, R b → ¬ X b ∧ b < w.heap.size) : GO B L R v w' := ⟨h.1.block_eq (h.2.touch_block ht hd), h.2⟩
theorem GB.touch {nm : ByteArray} {B : Nat} {L : List Int} {v : Value} (h : GB nm B L R v w) (ht : Plan.Touch X w w') (hd : ∀ b, R b → ¬ X b ∧ b < w.heap.size) : GB nm B L R v w' := by
  obtain ⟨vd, rfl, h⟩ := h
  exact ⟨vd, rfl, h.touch ht hd⟩
theorem GF.touch {nm : ByteArray} {B : Nat} {L : List Int} {v : Value} (h : GF nm B L R v w) (ht : Plan.Touch X w w') (hd : ∀ b, R b → ¬ X b ∧ b < w.heap.size) : GF nm B L R v w' := by
  obtain ⟨vd, rfl, h⟩ := h
  exact ⟨vd, rfl, h.touch ht hd⟩
theorem touch_below (hb : Below w.heap.size w w') : Plan.Touch X w w' := ⟨hb.os, hb.tape, hb.output, hb.size, fun k hk _ => hb.block k hk⟩
theorem touch_adv {v v' : Value} (h : Adv w w' v v') (hX : ∀ a n c, v = .slice (some a) n c → X a.block) : Plan.Touch X w w' :=
  ⟨h.g.os, h.g.tape, h.g.output, h.g.size, fun k hk hn => h.g.block k hk (fun e => by
    obtain ⟨a, n, c, rfl, rfl⟩ := own_block e.symm
    exact hn (hX a n c rfl))⟩
/-- A value made anew. -/
theorem GI.new {L : List Int} {v : Value} (h : IL w' v L) (hf : ∀ a n c, v = .slice (some a) n c → w.heap.size ≤ a.block ∧ a.block < w'.heap.size) : GI L (Plan.grown X w w') v w' := ⟨h, fun a n c e => .inr (hf a n c e)⟩
theorem GO.new {B : Nat} {L : List Int} {v : Value} (h : Own w' w.heap.size v L) (hB : B ≤ w.heap.size) : GO B L (Plan.grown X w w') v w' :=
  ⟨h.mono hB, fun a n c e => .inr ⟨(h.at a n c e).2.1, (h.at a n c e).2.2⟩⟩
theorem GO.adv {B : Nat} {L : List Int} {v v' : Value} (h : Own w' B v' L) (ha : Adv w w' v v') (hX : ∀ a n c, v = .slice (some a) n c → X a.block) : GO B L (Plan.grown X w w') v' w' := by
  refine ⟨h, fun a n c e => ?_⟩
  have h3 := h.at a n c e
  rcases ha.o with e2 | ⟨k, e2, hk⟩
  · obtain ⟨a', n', c', e3, e4⟩ := own_block (e2.symm.trans h3.1)
    rw [← e4]
    exact .inl (hX a' n' c' e3)
  · rw [h3.1] at e2
    obtain rfl := Option.some.inj e2
    exact .inr ⟨hk, h3.2.2⟩
theorem GO.same {B : Nat} {L : List Int} {v : Value} (h : GO B L R v w) (hX : ∀ b, R b → X b) : GO B L (Plan.grown X w w) v w := ⟨h.1, fun a n c e => .inl (hX _ (h.2 a n c e))⟩
end
theorem terr_of {pred : Nat → List Nat} {R : Nat → Nat → Prop} {i k b : Nat} (hk : k ∈ pred i) (h : R k b) : Plan.terr pred R i b := ⟨k, hk, h⟩
theorem GF.ca {nm : ByteArray} {B : Nat} {L : List Int} {R : Nat → Prop} {v : Value} {w : World} (h : GF nm B L R v w) {no : Option Nat} (hno : ∀ q, no = some q → q < B) : CA w no v (.leaf nm L) := by
  obtain ⟨vd, rfl, h⟩ := h
  refine .leaf nm vd L h.1.bl (fun a n c e => ⟨fun h' => ?_, (h.1.at a n c e).2.2⟩)
  have h1 := hno _ h'
  have h2 := (h.1.at a n c e).2.1
  omega

end Go.Proofs.Ytkhjkemllgjfmaa
