/- Contents as data: a tree of boxes, its bytes, how values read as one; the contracts of tag. -/
import Derived.Test.YtkhjkemllgjfmaaYH
namespace Go.Proofs.Ytkhjkemllgjfmaa
open Go.RowKit
set_option linter.unusedVariables false
set_option linter.unusedSimpArgs false

/-- A box of bytes, a box of boxes. -/
inductive CT where
  | leaf (name : ByteArray) (data : List Int)
  | group (name : ByteArray) (n : Nat) (parts : Nat → CT)
def catN (f : Nat → List Int) : Nat → List Int
  | 0 => []
  | k + 1 => catN f k ++ f k
/-- A box with its name and what is inside. -/
def boxP (name : ByteArray) (d : List Int) : List Int := num4 ((d.length : Int) + 4 + name.size) ++ (strB name ++ d)
def bytesT : CT → List Int
  | .leaf name data => boxP name data
  | .group name n parts => boxP name (catN (fun i => bytesT (parts i)) n)
theorem boxP_four (name : ByteArray) (d : List Int) (h : name.size = 4) : boxP name d = boxL name d := by
  unfold boxP boxL; rw [h]; congr 2

/-- How a value reads as a tree; none of its cells lies in the block no. -/
inductive CA (w : World) (no : Option Nat) : Value → CT → Prop where
  | leaf (name : ByteArray) (vd : Value) (data : List Int) (h : BL w vd data) (ha : ∀ a n c, vd = .slice (some a) n c → no ≠ some a.block ∧ a.block < w.heap.size) : CA w no (.iface 109 (.agg #[.string name, vd])) (.leaf name data)
  | group (name : ByteArray) (n : Nat) (parts : Nat → CT) (b o c : Nat) (f : Nat → Value) (hc : n ≤ c) (hb : no ≠ some b) (hlt : b < w.heap.size) (hcell : ∀ i, i < n → w.cell? ⟨b, o + i, none⟩ = some (f i)) (hsub : ∀ i, i < n → CA w no (f i) (parts i)) :
      CA w no (.iface 107 (.agg #[.string name, .slice (some ⟨b, o, none⟩) n c])) (.group name n parts)
theorem CA.adv {w w' : World} {b b' v : Value} {t : CT} (h : CA w b.ownBlock v t) (ha : Adv w w' b b') : CA w' b'.ownBlock v t := by
  have far : ∀ k, k < w.heap.size → b.ownBlock ≠ some k → b'.ownBlock ≠ some k := by
    intro k hk hne
    rcases ha.o with e | ⟨j, e, hj⟩
    · rw [e]; exact hne
    · rw [e]; intro h3; cases h3; omega
  induction h with
  | leaf name vd data h hx =>
    refine .leaf name vd data (h.adv ha (fun a n c e => (hx a n c e).1)) (fun a n c e => ?_)
    have h1 := hx a n c e
    exact ⟨far _ h1.2 h1.1, by have := ha.g.size; omega⟩
  | group name n parts g o c f hc hb hlt hcell hsub ih =>
    refine .group name n parts g o c f hc (far _ hlt hb) (by have := ha.g.size; omega) (fun i hi => ?_) ih
    exact (World.cell?_of_block (ha.g.block g hlt (fun e => hb e.symm))).trans (hcell i hi)
theorem CA.bel {w w' : World} {no : Option Nat} {v : Value} {t : CT} (h : CA w no v t) (hb : Below w.heap.size w w') : CA w' no v t := by
  induction h with
  | leaf name vd data h hx => exact .leaf name vd data (h.below hb) (fun a n c e => ⟨(hx a n c e).1, by have := (hx a n c e).2; have := hb.size; omega⟩)
  | group name n parts g o c f hc hne hlt hcell hsub ih => exact .group name n parts g o c f hc hne (by have := hb.size; omega) (fun i hi => (hb.cell (by simpa using hlt)).trans (hcell i hi)) ih

theorem tag_leaf (name : ByteArray) (vd : Value) (w : World) (hs : ∃ a n c, vd = .slice a n c) : Calls Try.prog 103 #[.agg #[.string name, vd]] w fun e w' => e = .returned (.string name) ∧ Below w.heap.size w w' := by
  obtain ⟨a, n, c, rfl⟩ := hs
  go_enter Try.func103, Try.ntmps103
  go_wp2_with fail
  go_ret
  exact ⟨rfl, below_box _ _⟩
theorem tag_group (name : ByteArray) (vd : Value) (w : World) (hs : ∃ a n c, vd = .slice a n c) : Calls Try.prog 102 #[.agg #[.string name, vd]] w fun e w' => e = .returned (.string name) ∧ Below w.heap.size w w' := by
  obtain ⟨a, n, c, rfl⟩ := hs
  go_enter Try.func102, Try.ntmps102
  go_wp2_with fail
  go_ret
  exact ⟨rfl, below_box _ _⟩
theorem tag_payload (v : Value) (w : World) (hs : ∃ a n c, v = .slice a n c) : Calls Try.prog 101 #[.agg #[v]] w fun e w' => e = .returned (.string ⟨#[109, 100, 97, 116]⟩) ∧ Below w.heap.size w w' := by
  obtain ⟨a, n, c, rfl⟩ := hs
  go_enter Try.func101, Try.ntmps101
  go_wp2_with fail
  go_ret
  exact ⟨rfl, below_box _ _⟩
end Go.Proofs.Ytkhjkemllgjfmaa
