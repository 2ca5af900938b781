/- A track's box as a tree; rows of contents of the call's own. -/
import Derived.Test.YtkhjkemllgjfmaaYQ
namespace Go.Proofs.Ytkhjkemllgjfmaa
open Go.RowKit
set_option linter.unusedVariables false
set_option linter.unusedSimpArgs false

def nTkhd : ByteArray := ⟨#[116, 107, 104, 100]⟩
def nEdts : ByteArray := ⟨#[101, 100, 116, 115]⟩
def nElst : ByteArray := ⟨#[101, 108, 115, 116]⟩
def nMdhd : ByteArray := ⟨#[109, 100, 104, 100]⟩
def nHdlr : ByteArray := ⟨#[104, 100, 108, 114]⟩
def nStbl : ByteArray := ⟨#[115, 116, 98, 108]⟩
def nMinf : ByteArray := ⟨#[109, 105, 110, 102]⟩
def nMdia : ByteArray := ⟨#[109, 100, 105, 97]⟩
def nTrak : ByteArray := ⟨#[116, 114, 97, 107]⟩
def zs (n : Nat) : List Int := List.replicate n 0
def tkhdL (k : Int) : List Int := [0, 0, 0, 3] ++ zs 8 ++ numsL [k] ++ zs 4 ++ numsL [0] ++ zs 16 ++ matL ++ zs 8
def mdhdL (T : Tr) : List Int := [] ++ zs 12 ++ numsL [T.sc, 0] ++ [85, 196, 0, 0]
def hdlrL (T : Tr) : List Int := [] ++ zs 8 ++ strB T.h ++ zs 13
def edtsT (T : Tr) : CT := .group nEdts 1 fun _ => .leaf nElst (numsL [0, (T.nE : Int)] ++ edL T.E T.nE)
def minfT (T : Tr) (first : Int) : CT := .group nMinf 1 fun _ => .group nStbl 7 (stbl T first)
def mdiaT (T : Tr) (first : Int) : CT := .group nMdia 3 fun i => if i = 0 then .leaf nMdhd (mdhdL T) else if i = 1 then .leaf nHdlr (hdlrL T) else minfT T first
def trakT (T : Tr) (k first : Int) : CT :=
  if 0 < T.nE then .group nTrak 3 fun i => if i = 0 then .leaf nTkhd (tkhdL k) else if i = 1 then edtsT T else mdiaT T first
  else .group nTrak 2 fun i => if i = 0 then .leaf nTkhd (tkhdL k) else mdiaT T first

/-- A row of contents. -/
def OwnC (w : World) (B : Nat) (v : Value) (xs : List Value) : Prop := w.ownsRow B 83 1 v xs.length xs
theorem OwnC.below {w w' : World} {B : Nat} {v : Value} {xs : List Value} (h : OwnC w B v xs) (hb : Below w.heap.size w w') : OwnC w' B v xs := owns_below h hb
theorem OwnC.shape {w : World} {B : Nat} {v : Value} {xs : List Value} (h : OwnC w B v xs) : ∃ a c, v = .slice a xs.length c := owns_shapeN h
theorem OwnC.one (w : World) (x : Value) : OwnC (w.alloc (.cells #[x] 83)) w.heap.size (.slice (some ⟨w.heap.size, 0, none⟩) 1 1) [x] := owns_one w 83 1 #[x] rfl
theorem Parts.group {w : World} {L n : Nat} {v : Value} {P : Nat → CT} (name : ByteArray) (h : Parts w L v n P) {no : Option Nat} (hno : ∀ q, no = some q → q < L) : CA w no (.iface 107 (.agg #[.string name, v])) (.group name n P) := by
  obtain ⟨g, f, rfl, hL, hl, hc, hs⟩ := h
  exact .group name n P g 0 n f (Nat.le_refl _) (fun e => by have := hno _ e; omega) hl hc (fun i hi => hs i hi no hno)
theorem Own.ca {w : World} {B : Nat} {v : Value} {L : List Int} (nm : ByteArray) (h : Own w B v L) {no : Option Nat} (hno : ∀ q, no = some q → q < B) : CA w no (.iface 109 (.agg #[.string nm, v])) (.leaf nm L) :=
  .leaf nm v L h.bl (fun a n c e => ⟨fun h' => by have h1 := hno _ h'; have h2 := (h.at a n c e).2.1; omega, (h.at a n c e).2.2⟩)
theorem BL.only0 {w w' : World} {v : Value} {L : List Int} (h : BL w v L) (hs : ∀ a n c, v = .slice (some a) n c → a.block < w.heap.size → w'.heap[a.block]? = w.heap[a.block]?) : BL w' v L := by
  obtain ⟨ao, c, rfl, hc, H⟩ := h
  refine ⟨ao, c, rfl, hc, fun i u hi => ?_⟩
  obtain ⟨b, o, rfl, hx⟩ := H i u hi
  have hl : b < w.heap.size := block_lt_of_cell hx
  exact ⟨b, o, rfl, (World.cell?_of_block (w := w) (a := ⟨b, o + i, none⟩) (hs ⟨b, o, none⟩ _ _ rfl hl)).trans hx⟩
/-- What avoids the block that has changed stays as it is. -/
theorem CA.both {w w' : World} {p no : Option Nat} {v : Value} {t : CT} (h : CA w p v t) (hg : w.grownBy w' p) : CA w no v t → CA w' no v t := by
  induction h with
  | leaf name vd data h hx =>
    intro h2
    cases h2 with
    | leaf _ _ _ _ hx2 => exact .leaf name vd data (h.only0 (fun a n c e hl => hg.block _ hl (fun h' => (hx a n c e).1 h'.symm))) (fun a n c e => ⟨(hx2 a n c e).1, Nat.lt_of_lt_of_le (hx a n c e).2 hg.size⟩)
  | group name n parts g o c f hc hb hlt hcell hsub ih =>
    intro h2
    cases h2 with
    | group _ _ _ _ _ _ f2 _ hb2 _ hcell2 hsub2 =>
      refine .group name n parts g o c f hc hb2 (Nat.lt_of_lt_of_le hlt hg.size) (fun i hi => (World.cell?_of_block (w := w) (a := ⟨g, o + i, none⟩) (hg.block g hlt (fun h' => hb h'.symm))).trans (hcell i hi)) (fun i hi => ih i hi ?_)
      have e : f2 i = f i := Option.some.inj ((hcell2 i hi).symm.trans (hcell i hi))
      rw [← e]
      exact hsub2 i hi
theorem CA.move {w : World} {p : Option Nat} {k : Nat} {v : Value} {t : CT} (h : CA w p v t) (hk : w.heap.size ≤ k) : CA w (some k) v t := by
  induction h with
  | leaf name vd data h hx => exact .leaf name vd data h (fun a n c e => ⟨fun h' => by have := (hx a n c e).2; cases h'; omega, (hx a n c e).2⟩)
  | group name n parts g o c f hc hb hlt hcell hsub ih => exact .group name n parts g o c f hc (fun h' => by cases h'; omega) hlt hcell ih

/-- A row of contents, with the trees that they are. -/
structure RowC (w : World) (B : Nat) (v : Value) (xs : List Value) (P : Nat → CT) : Prop where
  own : OwnC w B v xs
  here : ∀ i x, xs[i]? = some x → CA w v.ownBlock x (P i)
  low : ∀ i x, xs[i]? = some x → ∀ no : Option Nat, (∀ q, no = some q → q < B) → CA w no x (P i)
theorem RowC.below {w w' : World} {B : Nat} {v : Value} {xs : List Value} {P : Nat → CT} (h : RowC w B v xs P) (hb : Below w.heap.size w w') : RowC w' B v xs P :=
  ⟨h.own.below hb, fun i x hi => (h.here i x hi).bel hb, fun i x hi no hno => (h.low i x hi no hno).bel hb⟩
theorem RowC.add {w w' : World} {B W0 : Nat} {v v' y : Value} {xs : List Value} {P : Nat → CT} {t : CT} (h : RowC w B v xs P) (hv : ∀ g, v.ownBlock = some g → g < W0) (hB : B ≤ W0) (hy : ∀ no : Option Nat, (∀ q, no = some q → q < W0) → CA w no y t)
    (ho : OwnC w' B v' (xs ++ [y])) (ha : Adv0 w w' v v') : RowC w' B v' (xs ++ [y]) (fun i => if i = xs.length then t else P i) := by
  have both : ∀ {x : Value} {t : CT} {no : Option Nat}, CA w v.ownBlock x t → CA w no x t → CA w' no x t := fun h1 h2 => h1.both ha.g h2
  have here : ∀ {x : Value} {t : CT}, CA w v.ownBlock x t → CA w' v'.ownBlock x t := fun h1 => by
    rcases ha.o with e | ⟨k, e, hk⟩
    · rw [e]; exact both h1 h1
    · rw [e]; exact both h1 (h1.move hk)
  have split : ∀ i x, (xs ++ [y])[i]? = some x → (i < xs.length ∧ xs[i]? = some x) ∨ (i = xs.length ∧ x = y) := by
    intro i x hi
    by_cases hlt : i < xs.length
    · rw [List.getElem?_append_left hlt] at hi
      exact .inl ⟨hlt, hi⟩
    · rw [List.getElem?_append_right (by omega)] at hi
      have h0 : i - xs.length = 0 := by
        have := (List.getElem?_eq_some_iff.1 hi).1
        simp at this
        omega
      rw [h0] at hi
      simp at hi
      exact .inr ⟨by omega, hi.symm⟩
  refine ⟨ho, fun i x hi => ?_, fun i x hi no hno => ?_⟩
  · rcases split i x hi with ⟨hlt, hx⟩ | ⟨rfl, rfl⟩
    · simp only [show i ≠ xs.length by omega, if_false]
      exact here (h.here i x hx)
    · simp only [if_true]
      exact here (hy _ hv)
  · rcases split i x hi with ⟨hlt, hx⟩ | ⟨rfl, rfl⟩
    · simp only [show i ≠ xs.length by omega, if_false]
      exact both (h.here i x hx) (h.low i x hx no hno)
    · simp only [if_true]
      exact both (hy _ hv) (hy no (fun q hq => Nat.lt_of_lt_of_le (hno q hq) hB))
theorem RowC.group {w : World} {B : Nat} {v : Value} {xs : List Value} {P Q : Nat → CT} {n : Nat} (name : ByteArray) (h : RowC w B v xs P) (hn : xs.length = n) (h0 : 0 < n) (hPQ : ∀ i, i < n → P i = Q i) {no : Option Nat} (hno : ∀ q, no = some q → q < B) : CA w no (.iface 107 (.agg #[.string name, v])) (.group name n Q) := by
  subst hn
  obtain ⟨g, c, rfl, hc, hB, hf, hcell⟩ := owns_open2 h.own h0
  have hx' : ∀ i (hi : i < xs.length), w.cell? ⟨g, 0 + i, none⟩ = some (xs.getD i undef) := fun i hi => by
    rw [Nat.zero_add]
    exact hcell i _ (by simp [List.getD, List.getElem?_eq_getElem hi])
  exact .group name xs.length Q g 0 c (fun i => xs.getD i undef) hc (fun e => by have := hno _ e; omega) (block_lt_of_cell (hx' 0 h0)) hx' (fun i hi => by rw [← hPQ i hi]; exact h.low i _ (by simp [List.getD, List.getElem?_eq_getElem hi]) no hno)
theorem RowC.one {w : World} {B : Nat} {x : Value} {t : CT} (hB : B ≤ w.heap.size) (h : ∀ no : Option Nat, (∀ q, no = some q → q < B) → CA w no x t) : RowC (w.alloc (.cells #[x] 83)) B (.slice (some ⟨w.heap.size, 0, none⟩) 1 1) [x] (fun _ => t) := by
  have one : ∀ i y, [x][i]? = some y → y = x := fun i y hi => by
    have h0 : i = 0 := by
      have := (List.getElem?_eq_some_iff.1 hi).1
      simp at this
      exact this
    subst h0
    simp at hi
    exact hi.symm
  refine ⟨owns_mono (OwnC.one w x) hB, fun i y hi => ?_, fun i y hi no hno => ?_⟩
  · rw [one i y hi]
    exact ((h none (by simp)).move (Nat.le_refl _)).bel (below_box _ _)
  · rw [one i y hi]
    exact (h no hno).bel (below_box _ _)
theorem OwnC.lt {w : World} {B : Nat} {v : Value} {xs : List Value} (h : OwnC w B v xs) {g : Nat} (hg : v.ownBlock = some g) : g < w.heap.size := by
  rcases h.2 with ⟨rfl, _⟩ | ⟨g', cap, cur, rfl, h1, h2, _⟩
  · cases hg
  · cases hg; exact (Array.getElem?_eq_some_iff.1 h2).1
theorem Adv0.up {w w' : World} {B : Nat} {v v' : Value} {xs : List Value} (h : OwnC w B v xs) (ha : Adv0 w w' v v') (hB : B ≤ w.heap.size) : Below B w w' :=
  (Below.refl _ _).grown ha.g hB (fun k hk => by
    rcases h.2 with ⟨rfl, _⟩ | ⟨g', cap, cur, rfl, h1, h2, _⟩
    · cases hk
    · cases hk; exact h1)
/-- One more content, at the operation. -/
theorem wpList_addC (w : World) {ops : Array Oper} {rest : List Oper} {o : Oper} {a : Act} {Q : Exit → Act → World → Prop} (hgd : o.guard = none) (s x : Operand)
    (ho : o.op = .call { callee := .builtin .append, args := #[s, x], argTypes := #[105, 105] }) (B : Nat) (v : Value) (xs : List Value) (y : Value) (hs : a.eval s = v) (hown : OwnC w B v xs)
    (b c : Nat) (hx : a.eval x = .slice (some ⟨b, 0, none⟩) 1 c) (hy : w.cell? ⟨b, 0, none⟩ = some y) (h1 : y.oneCell' = true) (hk : xs.length + 1 ≤ 100000) (hB : B ≤ w.heap.size)
    (h : ∀ v' w', OwnC w' B v' (xs ++ [y]) → Adv0 w w' v v' → wpList Try.prog ops Q rest (a.put o.dst v') w') : wpList Try.prog ops Q (o :: rest) a w := by
  obtain ⟨i0, hi, hz0, hz1, hz2⟩ := info_parts info83
  refine wpList_append_lies _ hgd s x 105 ho B 83 i0 .nilIface 1 16 Try.underlying105 hi hz0 hz1 hz2 rfl (by decide) v xs.length xs hs hown ⟨b, 0, none⟩ 1 c [y] hx rfl (fun j u hj => ?_) (fun u hu => by simp at hu; subst hu; exact h1) (by decide) (by unfold maxLen; omega) (by omega) hB w.heap.size rfl (fun g cap w' hown' hg hor hlt => ?_)
  · have : j = 0 := by
      have := (List.getElem?_eq_some_iff.1 hj).1
      simp at this
      exact this
    subst this
    simp at hj
    subst hj
    rw [Addr.add_lit]
    exact hy
  · refine h _ w' (by unfold OwnC; rw [List.length_append]; exact hown') ⟨hg, ?_⟩
    rcases hor with e | e
    · exact .inl e.symm
    · exact .inr ⟨g, rfl, by omega⟩
end Go.Proofs.Ytkhjkemllgjfmaa
