/- Texts of this claim joined: YR YS YT YU ZA. -/
import Derived.Test.YtkhjkemllgjfmaaPu06
set_option linter.unusedVariables false
set_option linter.unusedSimpArgs false

/- A track's box as a tree; rows of contents of the call's own. -/
namespace Go.Proofs.Ytkhjkemllgjfmaa
open Go.RowKit
set_option linter.unusedVariables false
set_option linter.unusedSimpArgs false

def nTkhd : ByteArray := ⟨#[116, 107, 104, 100]⟩
def nEdts : ByteArray := ⟨#[101, 100, 116, 115]⟩
def nElst : ByteArray := ⟨#[101, 108, 115, 116]⟩
def nMdhd : ByteArray := ⟨#[109, 100, 104, 100]⟩
def nHdlr : ByteArray := ⟨#[104, 100, 108, 114]⟩
def nStbl : ByteArray := ⟨#[115, 116, 98, 108]⟩
def nMinf : ByteArray := ⟨#[109, 105, 110, 102]⟩
def nMdia : ByteArray := ⟨#[109, 100, 105, 97]⟩
def nTrak : ByteArray := ⟨#[116, 114, 97, 107]⟩
def zs (n : Nat) : List Int := List.replicate n 0
def tkhdL (k : Int) : List Int := [0, 0, 0, 3] ++ zs 8 ++ numsL [k] ++ zs 4 ++ numsL [0] ++ zs 16 ++ matL ++ zs 8
def mdhdL (T : Tr) : List Int := [] ++ zs 12 ++ numsL [T.sc, 0] ++ [85, 196, 0, 0]
def hdlrL (T : Tr) : List Int := [] ++ zs 8 ++ strB T.h ++ zs 13
def edtsT (T : Tr) : CT := .group nEdts 1 fun _ => .leaf nElst (numsL [0, (T.nE : Int)] ++ edL T.E T.nE)
def minfT (T : Tr) (first : Int) : CT := .group nMinf 1 fun _ => .group nStbl 7 (stbl T first)
def mdiaT (T : Tr) (first : Int) : CT := .group nMdia 3 fun i => if i = 0 then .leaf nMdhd (mdhdL T) else if i = 1 then .leaf nHdlr (hdlrL T) else minfT T first
def trakT (T : Tr) (k first : Int) : CT :=
  if 0 < T.nE then .group nTrak 3 fun i => if i = 0 then .leaf nTkhd (tkhdL k) else if i = 1 then edtsT T else mdiaT T first
  else .group nTrak 2 fun i => if i = 0 then .leaf nTkhd (tkhdL k) else mdiaT T first

/-- A row of contents. -/
def OwnC (w : World) (B : Nat) (v : Value) (xs : List Value) : Prop := w.ownsRow B 83 1 v xs.length xs
theorem OwnC.below {w w' : World} {B : Nat} {v : Value} {xs : List Value} (h : OwnC w B v xs) (hb : Below w.heap.size w w') : OwnC w' B v xs := owns_below h hb
theorem OwnC.shape {w : World} {B : Nat} {v : Value} {xs : List Value} (h : OwnC w B v xs) : ∃ a c, v = .slice a xs.length c := owns_shapeN h
theorem OwnC.one (w : World) (x : Value) : OwnC (w.alloc (.cells #[x] 83)) w.heap.size (.slice (some ⟨w.heap.size, 0, none⟩) 1 1) [x] := owns_one w 83 1 #[x] rfl
theorem Parts.group {w : World} {L n : Nat} {v : Value} {P : Nat → CT} (name : ByteArray) (h : Parts w L v n P) {no : Option Nat} (hno : ∀ q, no = some q → q < L) : CA w no (.iface 107 (.agg #[.string name, v])) (.group name n P) := by
  obtain ⟨g, f, rfl, hL, hl, hc, hs⟩ := h
  exact .group name n P g 0 n f (Nat.le_refl _) (fun e => by have := hno _ e; omega) hl hc (fun i hi => hs i hi no hno)
theorem Own.ca {w : World} {B : Nat} {v : Value} {L : List Int} (nm : ByteArray) (h : Own w B v L) {no : Option Nat} (hno : ∀ q, no = some q → q < B) : CA w no (.iface 109 (.agg #[.string nm, v])) (.leaf nm L) :=
  .leaf nm v L h.bl (fun a n c e => ⟨fun h' => by have h1 := hno _ h'; have h2 := (h.at a n c e).2.1; omega, (h.at a n c e).2.2⟩)
theorem BL.only0 {w w' : World} {v : Value} {L : List Int} (h : BL w v L) (hs : ∀ a n c, v = .slice (some a) n c → a.block < w.heap.size → w'.heap[a.block]? = w.heap[a.block]?) : BL w' v L := by
  obtain ⟨ao, c, rfl, hc, H⟩ := h
  refine ⟨ao, c, rfl, hc, fun i u hi => ?_⟩
  obtain ⟨b, o, rfl, hx⟩ := H i u hi
  have hl : b < w.heap.size := block_lt_of_cell hx
  exact ⟨b, o, rfl, (World.cell?_of_block (w := w) (a := ⟨b, o + i, none⟩) (hs ⟨b, o, none⟩ _ _ rfl hl)).trans hx⟩
/-- What avoids the block that has changed stays as it is. -/
theorem CA.both {w w' : World} {p no : Option Nat} {v : Value} {t : CT} (h : CA w p v t) (hg : w.grownBy w' p) : CA w no v t → CA w' no v t := by
  induction h with
  | leaf name vd data h hx =>
    intro h2
    cases h2 with
    | leaf _ _ _ _ hx2 => exact .leaf name vd data (h.only0 (fun a n c e hl => hg.block _ hl (fun h' => (hx a n c e).1 h'.symm))) (fun a n c e => ⟨(hx2 a n c e).1, Nat.lt_of_lt_of_le (hx a n c e).2 hg.size⟩)
  | group name n parts g o c f hc hb hlt hcell hsub ih =>
    intro h2
    cases h2 with
    | group _ _ _ _ _ _ f2 _ hb2 _ hcell2 hsub2 =>
      refine .group name n parts g o c f hc hb2 (Nat.lt_of_lt_of_le hlt hg.size) (fun i hi => (World.cell?_of_block (w := w) (a := ⟨g, o + i, none⟩) (hg.block g hlt (fun h' => hb h'.symm))).trans (hcell i hi)) (fun i hi => ih i hi ?_)
      have e : f2 i = f i := Option.some.inj ((hcell2 i hi).symm.trans (hcell i hi))
      rw [← e]
      exact hsub2 i hi
theorem CA.move {w : World} {p : Option Nat} {k : Nat} {v : Value} {t : CT} (h : CA w p v t) (hk : w.heap.size ≤ k) : CA w (some k) v t := by
  induction h with
  | leaf name vd data h hx => exact .leaf name vd data h (fun a n c e => ⟨fun h' => by have := (hx a n c e).2; cases h'; omega, (hx a n c e).2⟩)
  | group name n parts g o c f hc hb hlt hcell hsub ih => exact .group name n parts g o c f hc (fun h' => by cases h'; omega) hlt hcell ih

/-- A row of contents, with the trees that they are. -/
structure RowC (w : World) (B : Nat) (v : Value) (xs : List Value) (P : Nat → CT) : Prop where
  own : OwnC w B v xs
  here : ∀ i x, xs[i]? = some x → CA w v.ownBlock x (P i)
  low : ∀ i x, xs[i]? = some x → ∀ no : Option Nat, (∀ q, no = some q → q < B) → CA w no x (P i)
theorem RowC.below {w w' : World} {B : Nat} {v : Value} {xs : List Value} {P : Nat → CT} (h : RowC w B v xs P) (hb : Below w.heap.size w w') : RowC w' B v xs P :=
  ⟨h.own.below hb, fun i x hi => (h.here i x hi).bel hb, fun i x hi no hno => (h.low i x hi no hno).bel hb⟩
theorem RowC.add {w w' : World} {B W0 : Nat} {v v' y : Value} {xs : List Value} {P : Nat → CT} {t : CT} (h : RowC w B v xs P) (hv : ∀ g, v.ownBlock = some g → g < W0) (hB : B ≤ W0) (hy : ∀ no : Option Nat, (∀ q, no = some q → q < W0) → CA w no y t)
    (ho : OwnC w' B v' (xs ++ [y])) (ha : Adv0 w w' v v') : RowC w' B v' (xs ++ [y]) (fun i => if i = xs.length then t else P i) := by
  have both : ∀ {x : Value} {t : CT} {no : Option Nat}, CA w v.ownBlock x t → CA w no x t → CA w' no x t := fun h1 h2 => h1.both ha.g h2
  have here : ∀ {x : Value} {t : CT}, CA w v.ownBlock x t → CA w' v'.ownBlock x t := fun h1 => by
    rcases ha.o with e | ⟨k, e, hk⟩
    · rw [e]; exact both h1 h1
    · rw [e]; exact both h1 (h1.move hk)
  have split : ∀ i x, (xs ++ [y])[i]? = some x → (i < xs.length ∧ xs[i]? = some x) ∨ (i = xs.length ∧ x = y) := by
    intro i x hi
    by_cases hlt : i < xs.length
    · rw [List.getElem?_append_left hlt] at hi
      exact .inl ⟨hlt, hi⟩
    · rw [List.getElem?_append_right (by omega)] at hi
      have h0 : i - xs.length = 0 := by
        have := (List.getElem?_eq_some_iff.1 hi).1
        simp at this
        omega
      rw [h0] at hi
      simp at hi
      exact .inr ⟨by omega, hi.symm⟩
  refine ⟨ho, fun i x hi => ?_, fun i x hi no hno => ?_⟩
  · rcases split i x hi with ⟨hlt, hx⟩ | ⟨rfl, rfl⟩
    · simp only [show i ≠ xs.length by omega, if_false]
      exact here (h.here i x hx)
    · simp only [if_true]
      exact here (hy _ hv)
  · rcases split i x hi with ⟨hlt, hx⟩ | ⟨rfl, rfl⟩
    · simp only [show i ≠ xs.length by omega, if_false]
      exact both (h.here i x hx) (h.low i x hx no hno)
    · simp only [if_true]
      exact both (hy _ hv) (hy no (fun q hq => Nat.lt_of_lt_of_le (hno q hq) hB))
theorem RowC.group {w : World} {B : Nat} {v : Value} {xs : List Value} {P Q : Nat → CT} {n : Nat} (name : ByteArray) (h : RowC w B v xs P) (hn : xs.length = n) (h0 : 0 < n) (hPQ : ∀ i, i < n → P i = Q i) {no : Option Nat} (hno : ∀ q, no = some q → q < B) : CA w no (.iface 107 (.agg #[.string name, v])) (.group name n Q) := by
  subst hn
  obtain ⟨g, c, rfl, hc, hB, hf, hcell⟩ := owns_open2 h.own h0
  have hx' : ∀ i (hi : i < xs.length), w.cell? ⟨g, 0 + i, none⟩ = some (xs.getD i undef) := fun i hi => by
    rw [Nat.zero_add]
    exact hcell i _ (by simp [List.getD, List.getElem?_eq_getElem hi])
  exact .group name xs.length Q g 0 c (fun i => xs.getD i undef) hc (fun e => by have := hno _ e; omega) (block_lt_of_cell (hx' 0 h0)) hx' (fun i hi => by rw [← hPQ i hi]; exact h.low i _ (by simp [List.getD, List.getElem?_eq_getElem hi]) no hno)
theorem RowC.one {w : World} {B : Nat} {x : Value} {t : CT} (hB : B ≤ w.heap.size) (h : ∀ no : Option Nat, (∀ q, no = some q → q < B) → CA w no x t) : RowC (w.alloc (.cells #[x] 83)) B (.slice (some ⟨w.heap.size, 0, none⟩) 1 1) [x] (fun _ => t) := by
  have one : ∀ i y, [x][i]? = some y → y = x := fun i y hi => by
    have h0 : i = 0 := by
      have := (List.getElem?_eq_some_iff.1 hi).1
      simp at this
      exact this
    subst h0
    simp at hi
    exact hi.symm
  refine ⟨owns_mono (OwnC.one w x) hB, fun i y hi => ?_, fun i y hi no hno => ?_⟩
  · rw [one i y hi]
    exact ((h none (by simp)).move (Nat.le_refl _)).bel (below_box _ _)
  · rw [one i y hi]
    exact (h no hno).bel (below_box _ _)
theorem OwnC.lt {w : World} {B : Nat} {v : Value} {xs : List Value} (h : OwnC w B v xs) {g : Nat} (hg : v.ownBlock = some g) : g < w.heap.size := by
  rcases h.2 with ⟨rfl, _⟩ | ⟨g', cap, cur, rfl, h1, h2, _⟩
  · cases hg
  · cases hg; exact (Array.getElem?_eq_some_iff.1 h2).1
theorem Adv0.up {w w' : World} {B : Nat} {v v' : Value} {xs : List Value} (h : OwnC w B v xs) (ha : Adv0 w w' v v') (hB : B ≤ w.heap.size) : Below B w w' :=
  (Below.refl _ _).grown ha.g hB (fun k hk => by
    rcases h.2 with ⟨rfl, _⟩ | ⟨g', cap, cur, rfl, h1, h2, _⟩
    · cases hk
    · cases hk; exact h1)
/-- One more content, at the operation. -/
theorem wpList_addC (w : World) {ops : Array Oper} {rest : List Oper} {o : Oper} {a : Act} {Q : Exit → Act → World → Prop} (hgd : o.guard = none) (s x : Operand)
    (ho : o.op = .call { callee := .builtin .append, args := #[s, x], argTypes := #[105, 105] }) (B : Nat) (v : Value) (xs : List Value) (y : Value) (hs : a.eval s = v) (hown : OwnC w B v xs)
    (b c : Nat) (hx : a.eval x = .slice (some ⟨b, 0, none⟩) 1 c) (hy : w.cell? ⟨b, 0, none⟩ = some y) (h1 : y.oneCell' = true) (hk : xs.length + 1 ≤ 100000) (hB : B ≤ w.heap.size)
    (h : ∀ v' w', OwnC w' B v' (xs ++ [y]) → Adv0 w w' v v' → wpList Try.prog ops Q rest (a.put o.dst v') w') : wpList Try.prog ops Q (o :: rest) a w := by
  obtain ⟨i0, hi, hz0, hz1, hz2⟩ := info_parts info83
  refine wpList_append_lies _ hgd s x 105 ho B 83 i0 .nilIface 1 16 Try.underlying105 hi hz0 hz1 hz2 rfl (by decide) v xs.length xs hs hown ⟨b, 0, none⟩ 1 c [y] hx rfl (fun j u hj => ?_) (fun u hu => by simp at hu; subst hu; exact h1) (by decide) (by unfold maxLen; omega) (by omega) hB w.heap.size rfl (fun g cap w' hown' hg hor hlt => ?_)
  · have : j = 0 := by
      have := (List.getElem?_eq_some_iff.1 hj).1
      simp at this
      exact this
    subst this
    simp at hj
    subst hj
    rw [Addr.add_lit]
    exact hy
  · refine h _ w' (by unfold OwnC; rw [List.length_append]; exact hown') ⟨hg, ?_⟩
    rcases hor with e | e
    · exact .inl e.symm
    · exact .inr ⟨g, rfl, by omega⟩
end Go.Proofs.Ytkhjkemllgjfmaa

/- The contract of the program's track. -/
namespace Go.Proofs.Ytkhjkemllgjfmaa
open Go.RowKit
set_option linter.unusedVariables false
set_option linter.unusedSimpArgs false

/-- The five cells of a track. -/
structure C5 (w : World) (b : Nat) (c0 c1 c2 c3 c4 : Value) : Prop where
  k0 : w.cell? ⟨b, 0, none⟩ = some c0
  k1 : w.cell? ⟨b, 1, none⟩ = some c1
  k2 : w.cell? ⟨b, 2, none⟩ = some c2
  k3 : w.cell? ⟨b, 3, none⟩ = some c3
  k4 : w.cell? ⟨b, 4, none⟩ = some c4
theorem C5.lt {w : World} {b : Nat} {c0 c1 c2 c3 c4 : Value} (h : C5 w b c0 c1 c2 c3 c4) : b < w.heap.size := block_lt_of_cell h.k0
theorem C5.below {w w' : World} {b : Nat} {c0 c1 c2 c3 c4 : Value} (h : C5 w b c0 c1 c2 c3 c4) (hb : Below w.heap.size w w') : C5 w' b c0 c1 c2 c3 c4 :=
  ⟨(hb.cell h.lt).trans h.k0, (hb.cell h.lt).trans h.k1, (hb.cell h.lt).trans h.k2, (hb.cell h.lt).trans h.k3, (hb.cell h.lt).trans h.k4⟩
def TrakPost (w : World) (T : Tr) (k first : Int) (e : Ending) (w' : World) : Prop := ∃ r, e = .returned r ∧ (∀ no : Option Nat, (∀ q, no = some q → q < w.heap.size) → CA w' no r (trakT T k first)) ∧ Below w.heap.size w w'
def trG (B : Nat) (T : Tr) (i : Nat) (R : Nat → Prop) (v : Value) (w : World) : Prop :=
  match i with
  | 0 => GO B ([] ++ zs 12) R v w | 3 => GI [T.sc, 0] R v w | _ => True
theorem trG_touch {B : Nat} {T : Tr} {i : Nat} {R X : Nat → Prop} {v : Value} {w w' : World} (h : trG B T i R v w) (ht : Plan.Touch X w w') (hd : ∀ b, R b → ¬ X b ∧ b < w.heap.size) : trG B T i R v w' := by
  unfold trG at h ⊢
  split <;> first | exact GI.touch h ht hd | exact GO.touch h ht hd | trivial

set_option maxRecDepth 100000 in
set_option maxHeartbeats 4000000 in
theorem wtrack_any (v : Value) (T : Tr) (k first : Int) (w : World) (hv : TA w v T) (hn : T.nS ≤ 10000) (hC : T.nC ≤ 10000) (hE : T.nE ≤ 10000) (hh : T.h.size ≤ 1000) (hf0 : 0 ≤ first) (hf1 : first ≤ 4000000000) (hs : sizeN T.S T.nS ≤ 5000000000) :
    Calls Try.prog 55 #[v, .int .i64 k, .int .i64 first] w (TrakPost w T k first) := by
  have HV0 := Lib.hid hv
  obtain ⟨c0, c1, c2, c3, c4, rfl, rfl, rfl, b2, b3, b4⟩ := hv
  obtain ⟨a2, d2, rfl⟩ := b2.shape
  obtain ⟨a3, d3, rfl⟩ := b3.shape
  obtain ⟨a4, d4, rfl⟩ := b4.shape
  have HE4 := Lib.hid b4
  clear b2 b3 b4
  go_enter Try.func55, Try.ntmps55
  go_upto_region 1 with fail
  obtain ⟨w1, hw1⟩ : ∃ x, x = w.alloc (.cells #[.string T.h, .int .i64 T.sc, .slice a2 T.nC d2, .slice a3 T.nS d3, .slice a4 T.nE d4] 43) := ⟨_, rfl⟩
  rw [← hw1]
  obtain ⟨gt, hgt⟩ : ∃ g, g = w.heap.size := ⟨_, rfl⟩
  have hE1 : Below w.heap.size w w1 := by rw [hw1]; exact below_box _ _
  have hx : C5 w1 gt (.string T.h) (.int .i64 T.sc) (.slice a2 T.nC d2) (.slice a3 T.nS d3) (.slice a4 T.nE d4) := by rw [hw1, hgt]; constructor <;> simp [go_sem]
  rw [← hgt]
  have hz1 : w.heap.size < w1.heap.size := by have := hx.lt; omega
  have hgtl : gt < w1.heap.size := hx.lt
  have HB1 := Lib.hid hE1
  have HV00 := HV0
  have HX := Lib.hid hx
  have HX1 := HX
  clear hw1 hE1 hgt hx
  go_wp2_with fail
  refine (appz_any _ [0, 0, 0, 3] 8 w1.heap.size _ (own_lit w1 [0, 0, 0, 3] (by decide)) (by decide) (by decide) (by decide) (by simp)).mono ?_
  rintro e w2 ⟨r, rfl, hO, hA⟩
  have hup : Below w1.heap.size w1 w2 := (below_box w1 _).trans (hA.up (own_lit w1 [0, 0, 0, 3] (by decide)) (by first | exact hsw | (simp; done) | (simp; omega)))
  obtain ⟨L2, hL2⟩ : ∃ Lq, Lq = [0, 0, 0, 3] ++ zs 8 := ⟨_, rfl⟩
  replace hO : Own w2 w1.heap.size r L2 := by rw [hL2]; exact hO
  have hn2 : L2.length = 12 := by rw [hL2, List.length_append, show (zs 8 : List Int).length = 8 from by simp [zs]]; rfl
  have he2 : L2 = [0, 0, 0, 3] ++ zs 8 := hL2
  obtain ⟨ra, rc, rfl⟩ := hO.shape
  have HO := Lib.hid hO
  replace HBW := Lib.hid hup
  have HLn := Lib.hid hn2
  have HLe := Lib.hid he2
  replace hsw := hup.size
  clear hO hA hup hL2 hn2 he2
  go_wp2_with fail
  refine (appn_any _ _ L2 [k] w1.heap.size _ (HO.out.below (below_box w2 _)) (IL.build w2 [k] 2) (HO.out.apart_new (Nat.le_refl _)) (by simp) (by rw [HLn.out]; decide) (by simp; omega)).mono ?_
  rintro e w3 ⟨r, rfl, hO, hA⟩
  have hup : Below w1.heap.size w1 w3 := (HBW.out.trans ((below_box w2 _).mono hsw)).trans (hA.up (HO.out.below (below_box w2 _)) (by first | exact hsw | (simp; done) | (simp; omega)))
  obtain ⟨L3, hL3⟩ : ∃ Lq, Lq = L2 ++ numsL [k] := ⟨_, rfl⟩
  replace hO : Own w3 w1.heap.size r L3 := by rw [hL3]; exact hO
  have hn2 : L3.length = 16 := by rw [hL3, List.length_append, HLn.out, show (numsL [k] : List Int).length = 4 from by rw [numsL_length]; rfl]
  have he2 : L3 = [0, 0, 0, 3] ++ zs 8 ++ numsL [k] := hL3.trans (by rw [HLe.out])
  obtain ⟨ra, rc, rfl⟩ := hO.shape
  replace HO := Lib.hid hO
  replace HBW := Lib.hid hup
  replace HLn := Lib.hid hn2
  replace HLe := Lib.hid he2
  replace hsw := hup.size
  clear hO hA hup hL3 hn2 he2
  go_wp2_with fail
  refine (appz_any _ L3 4 w1.heap.size _ HO.out (by decide) (by decide) (by rw [HLn.out]; decide) hsw).mono ?_
  rintro e w4 ⟨r, rfl, hO, hA⟩
  have hup : Below w1.heap.size w1 w4 := HBW.out.trans (hA.up HO.out (by first | exact hsw | (simp; done) | (simp; omega)))
  obtain ⟨L4, hL4⟩ : ∃ Lq, Lq = L3 ++ zs 4 := ⟨_, rfl⟩
  replace hO : Own w4 w1.heap.size r L4 := by rw [hL4]; exact hO
  have hn2 : L4.length = 20 := by rw [hL4, List.length_append, HLn.out, show (zs 4 : List Int).length = 4 from by simp [zs]]
  have he2 : L4 = [0, 0, 0, 3] ++ zs 8 ++ numsL [k] ++ zs 4 := hL4.trans (by rw [HLe.out])
  obtain ⟨ra, rc, rfl⟩ := hO.shape
  replace HO := Lib.hid hO
  replace HBW := Lib.hid hup
  replace HLn := Lib.hid hn2
  replace HLe := Lib.hid he2
  replace hsw := hup.size
  clear hO hA hup hL4 hn2 he2
  go_wp2_with fail
  refine (appn_any _ _ L4 [0] w1.heap.size _ (HO.out.below (below_box w4 _)) (IL.build w4 [0] 2) (HO.out.apart_new (Nat.le_refl _)) (by simp) (by rw [HLn.out]; decide) (by simp; omega)).mono ?_
  rintro e w5 ⟨r, rfl, hO, hA⟩
  have hup : Below w1.heap.size w1 w5 := (HBW.out.trans ((below_box w4 _).mono hsw)).trans (hA.up (HO.out.below (below_box w4 _)) (by first | exact hsw | (simp; done) | (simp; omega)))
  obtain ⟨L5, hL5⟩ : ∃ Lq, Lq = L4 ++ numsL [0] := ⟨_, rfl⟩
  replace hO : Own w5 w1.heap.size r L5 := by rw [hL5]; exact hO
  have hn2 : L5.length = 24 := by rw [hL5, List.length_append, HLn.out, show (numsL [0] : List Int).length = 4 from by rw [numsL_length]; rfl]
  have he2 : L5 = [0, 0, 0, 3] ++ zs 8 ++ numsL [k] ++ zs 4 ++ numsL [0] := hL5.trans (by rw [HLe.out])
  obtain ⟨ra, rc, rfl⟩ := hO.shape
  replace HO := Lib.hid hO
  replace HBW := Lib.hid hup
  replace HLn := Lib.hid hn2
  replace HLe := Lib.hid he2
  replace hsw := hup.size
  clear hO hA hup hL5 hn2 he2
  go_wp2_with fail
  refine (appz_any _ L5 16 w1.heap.size _ HO.out (by decide) (by decide) (by rw [HLn.out]; decide) hsw).mono ?_
  rintro e w6 ⟨r, rfl, hO, hA⟩
  have hup : Below w1.heap.size w1 w6 := HBW.out.trans (hA.up HO.out (by first | exact hsw | (simp; done) | (simp; omega)))
  obtain ⟨L6, hL6⟩ : ∃ Lq, Lq = L5 ++ zs 16 := ⟨_, rfl⟩
  replace hO : Own w6 w1.heap.size r L6 := by rw [hL6]; exact hO
  have hn2 : L6.length = 40 := by rw [hL6, List.length_append, HLn.out, show (zs 16 : List Int).length = 16 from by simp [zs]]
  have he2 : L6 = [0, 0, 0, 3] ++ zs 8 ++ numsL [k] ++ zs 4 ++ numsL [0] ++ zs 16 := hL6.trans (by rw [HLe.out])
  obtain ⟨ra, rc, rfl⟩ := hO.shape
  replace HO := Lib.hid hO
  replace HBW := Lib.hid hup
  replace HLn := Lib.hid hn2
  replace HLe := Lib.hid he2
  replace hsw := hup.size
  clear hO hA hup hL6 hn2 he2
  go_wp2_with fail
  refine (appm_any _ L6 w1.heap.size _ HO.out (by rw [HLn.out]; decide) hsw).mono ?_
  rintro e w7 ⟨r, rfl, hO, hA⟩
  have hup : Below w1.heap.size w1 w7 := HBW.out.trans (hA.up HO.out (by first | exact hsw | (simp; done) | (simp; omega)))
  obtain ⟨L7, hL7⟩ : ∃ Lq, Lq = L6 ++ matL := ⟨_, rfl⟩
  replace hO : Own w7 w1.heap.size r L7 := by rw [hL7]; exact hO
  have hn2 : L7.length = 76 := by rw [hL7, List.length_append, HLn.out, show (matL : List Int).length = 36 from by rfl]
  have he2 : L7 = [0, 0, 0, 3] ++ zs 8 ++ numsL [k] ++ zs 4 ++ numsL [0] ++ zs 16 ++ matL := hL7.trans (by rw [HLe.out])
  obtain ⟨ra, rc, rfl⟩ := hO.shape
  replace HO := Lib.hid hO
  replace HBW := Lib.hid hup
  replace HLn := Lib.hid hn2
  replace HLe := Lib.hid he2
  replace hsw := hup.size
  clear hO hA hup hL7 hn2 he2
  go_wp2_with fail
  refine (appz_any _ L7 8 w1.heap.size _ HO.out (by decide) (by decide) (by rw [HLn.out]; decide) hsw).mono ?_
  rintro e w8 ⟨r, rfl, hO, hA⟩
  have hup : Below w1.heap.size w1 w8 := HBW.out.trans (hA.up HO.out (by first | exact hsw | (simp; done) | (simp; omega)))
  obtain ⟨L8, hL8⟩ : ∃ Lq, Lq = L7 ++ zs 8 := ⟨_, rfl⟩
  replace hO : Own w8 w1.heap.size r L8 := by rw [hL8]; exact hO
  have hn2 : L8.length = 84 := by rw [hL8, List.length_append, HLn.out, show (zs 8 : List Int).length = 8 from by simp [zs]]
  have he2 : L8 = [0, 0, 0, 3] ++ zs 8 ++ numsL [k] ++ zs 4 ++ numsL [0] ++ zs 16 ++ matL ++ zs 8 := hL8.trans (by rw [HLe.out])
  obtain ⟨ra, rc, rfl⟩ := hO.shape
  replace HO := Lib.hid hO
  replace HBW := Lib.hid hup
  replace HLn := Lib.hid hn2
  replace HLe := Lib.hid he2
  replace hsw := hup.size
  clear hO hA hup hL8 hn2 he2
  have HOT := HO
  have HLT := Lib.hid (show L8 = tkhdL k from HLe.out)
  clear HO HLe HLn
  replace HX := Lib.hid (HX.out.below HBW.out)
  go_upto_region 6 with fail
  obtain ⟨wp, hwp⟩ : ∃ x, x = w8.alloc (.cells #[.iface 109 (.agg #[.string nTkhd, .slice ra L8.length rc])] 83) := ⟨_, rfl⟩
  have hbp : Below w8.heap.size w8 wp := by rw [hwp]; exact below_box _ _
  obtain ⟨gq, hgq⟩ : ∃ g, g = w8.heap.size := ⟨_, rfl⟩
  have hoc : RowC wp w1.heap.size (.slice (some ⟨gq, 0, none⟩) 1 1) [.iface 109 (.agg #[.string nTkhd, .slice ra L8.length rc])] (fun _ => .leaf nTkhd (tkhdL k)) := by
    rw [hwp, hgq]
    refine RowC.one hsw (fun no hno => ?_)
    have h := HOT.out.ca nTkhd hno
    rw [HLT.out] at h ⊢
    exact h
  have hwp' := hwp
  unfold nTkhd at hwp'
  rw [← hwp', ← hgq]
  replace hbp := HBW.out.trans (hbp.mono hsw)
  have HOC := Lib.hid hoc
  replace HBW := Lib.hid hbp
  replace hsw := hbp.size
  have HVp := Lib.hid ((HV0.out.below HB1.out).below hbp)
  have HEp := Lib.hid ((HE4.out.below HB1.out).below hbp)
  have HXp := Lib.hid (show C5 wp gt _ _ _ _ _ by rw [hwp]; exact HX.out.below (below_box _ _))
  have hgt0 := HXp.out.lt
  clear hwp hwp' hgq hbp hoc HOT HLT HV0 HE4 HX
  obtain ⟨x0, x1, x2, x3, x4⟩ := HXp.out
  by_cases hne : 0 < T.nE
  · skip
    have hdec : decide ((0 : Int) < T.nE) = true := by simp; omega
    go_wp2_with fail
    refine (elist_any _ T.nE T.E wp HEp.out (by omega)).mono ?_
    rintro e wq ⟨r, rfl, hO, hb⟩
    obtain ⟨Le, hLe⟩ : ∃ Lq, Lq = numsL [0, (T.nE : Int)] ++ edL T.E T.nE := ⟨_, rfl⟩
    rw [← hLe] at hO
    obtain ⟨re, ce, rfl⟩ := hO.shape
    have hsq := hb.size
    have cel : ∀ no : Option Nat, (∀ q, no = some q → q < wp.heap.size) → CA wq no (.iface 109 (.agg #[.string nElst, .slice re Le.length ce])) (.leaf nElst (numsL [0, (T.nE : Int)] ++ edL T.E T.nE)) := fun no hno => by
      have h := hO.ca nElst hno
      rw [hLe] at h ⊢
      exact h
    have hpe : Parts (wq.alloc (.cells #[.iface 109 (.agg #[.string (⟨#[101, 108, 115, 116]⟩ : ByteArray), .slice re Le.length ce])] 83)) wp.heap.size (.slice (some ⟨wq.heap.size, 0, none⟩) 1 1) 1 (fun _ => .leaf nElst (numsL [0, (T.nE : Int)] ++ edL T.E T.nE)) := by
      refine Parts.of_alloc [_] rfl hsq (fun i v hv => ?_)
      have hi : i < 1 := (List.getElem?_eq_some_iff.1 hv).1
      obtain rfl : i = 0 := by omega
      simp only [List.getElem?_cons_zero, Option.some.injEq] at hv
      subst hv
      exact cel
    have hcet : ∀ no : Option Nat, (∀ q, no = some q → q < wp.heap.size) → CA ((wq.alloc (.cells #[.iface 109 (.agg #[.string (⟨#[101, 108, 115, 116]⟩ : ByteArray), .slice re Le.length ce])] 83)).alloc (.cells #[(.iface 107 (.agg #[.string (⟨#[101, 100, 116, 115]⟩ : ByteArray), .slice (some ⟨wq.heap.size, 0, none⟩) 1 1]))] 83)) no (.iface 107 (.agg #[.string (⟨#[101, 100, 116, 115]⟩ : ByteArray), .slice (some ⟨wq.heap.size, 0, none⟩) 1 1])) (edtsT T) := fun no hno => (hpe.group nEdts hno).bel (below_box _ _)
    have hbq2 : Below wp.heap.size wp ((wq.alloc (.cells #[.iface 109 (.agg #[.string (⟨#[101, 108, 115, 116]⟩ : ByteArray), .slice re Le.length ce])] 83)).alloc (.cells #[(.iface 107 (.agg #[.string (⟨#[101, 100, 116, 115]⟩ : ByteArray), .slice (some ⟨wq.heap.size, 0, none⟩) 1 1]))] 83)) := (hb.trans ((below_box wq _).mono hsq)).trans ((below_box (wq.alloc (.cells #[.iface 109 (.agg #[.string (⟨#[101, 108, 115, 116]⟩ : ByteArray), .slice re Le.length ce])] 83)) _).mono (by simp; omega))
    have HCET := Lib.hid hcet
    have HQ2 := Lib.hid hbq2
    clear hO hb hLe cel hpe hcet hbq2
    go_wp2_with (at_builtin; refine wpList_addC _ rfl (.tmp 34) (.tmp 41) rfl w1.heap.size _ _ (.iface 107 (.agg #[.string (⟨#[101, 100, 116, 115]⟩ : ByteArray), .slice (some ⟨wq.heap.size, 0, none⟩) 1 1])) rfl (HOC.out.own.below HQ2.out) (wq.heap.size + 1) 1 rfl (by simp [go_sem]) rfl (by simp) (by simp; omega) ?_)
    intro v8 ws hO8 hA8
    have hup8 : Below w1.heap.size w1 ws := (HBW.out.trans (HQ2.out.mono hsw)).trans (hA8.up (HOC.out.own.below HQ2.out) (by have := HQ2.out.size; omega))
    have hrow8 := (HOC.out.below HQ2.out).add (W0 := wp.heap.size) (t := edtsT T) (fun g hg => HOC.out.own.lt hg) hsw (fun no hno => HCET.out no hno) hO8 hA8
    obtain ⟨a8, c8, rfl⟩ := hO8.shape
    have HOCx := Lib.hid hrow8
    have HXx := Lib.hid (show C5 ws gt _ _ _ _ _ from ⟨(hup8.cell (p := ⟨gt, 0, none⟩) hgtl).trans HX1.out.k0, (hup8.cell (p := ⟨gt, 1, none⟩) hgtl).trans HX1.out.k1, (hup8.cell (p := ⟨gt, 2, none⟩) hgtl).trans HX1.out.k2, (hup8.cell (p := ⟨gt, 3, none⟩) hgtl).trans HX1.out.k3, (hup8.cell (p := ⟨gt, 4, none⟩) hgtl).trans HX1.out.k4⟩)
    have HVx := Lib.hid (HV00.out.below (HB1.out.trans (hup8.mono (by omega))))
    replace HBW := Lib.hid hup8
    replace hsw := hup8.size
    clear hup8 hrow8 hO8 hA8 HCET HQ2 HOC HXp HVp HEp x0 x1 x2 x3 x4 hgt0
    obtain ⟨x0, x1, x2, x3, x4⟩ := HXx.out
    go_upto_region 8 with fail
    refine Plan.wp_region_own (fun w' => Below ws.heap.size ws w') 6 (trG ws.heap.size T) (fun _ => []) ([1, 2].map (·, true)) [(0, 43), (3, 46)] ([4, 5].map (·, false)) 79 (by kernel_rfl) (by kernel_rfl) (by kernel_rfl) (by kernel_rfl) (Below.refl _ _).drew ?_
    refine' Plan.plan_seg _ [1, 2] [] (by kernel_rfl) (by kernel_rfl) rfl (by exact (Below.refl _ _).drew) (fun wx hS => ?_) ?_
    rotate_left
    · have y1 := (HXx.out.below hS).k1
      clear hS
      go_light
      iterate 2 (apply Plan.seg_pick; rfl; intro K hK; go_wp)
      exact Plan.seg_nil
    refine Plan.plan_nil ?_
    obtain ⟨wd, hwd⟩ : ∃ x, x = ws.drew := ⟨_, rfl⟩
    rw [← hwd]
    have hzd : wd.heap.size = ws.heap.size := by rw [hwd]; rfl
    have hwrd : ws.heap.size ≤ wd.heap.size := by omega
    clear hwd
    refine ⟨rfl, fun wa wb ha hb => ha.trans (hb.mono (by omega)), fun i R X v wa wb h ht hd _ _ => trG_touch h ht hd, ?_, ?_⟩
    · intro p hp o ho vs wx R hS hE hG K hK
      have hSz := hS.size
      simp only [List.mem_cons, List.not_mem_nil, or_false] at hp
      rcases hp with rfl | rfl
      all_goals obtain rfl := Option.some.inj ho
      · clear hG
        refine Plan.one_call rfl 53 Try.func53 (by kernel_rfl) (by kernel_rfl) #[.const (.slice none 0 0), .const (.int .i64 12)] #[22, 3] rfl #[.slice none 0 0, .int .i64 12] (by simp [Act.eval]) (fun r w' => Own w' wx.heap.size r ([] ++ zs 12) ∧ Adv wx w' (.slice none 0 0) r) (appz_any (.slice none 0 0) [] 12 wx.heap.size wx (own_nil _ _) (by decide) (by decide) (by decide) (Nat.le_refl _)) (fun r w' hR => ?_)
        exact hK _ _ (GO.new hR.1 (by omega)) (touch_below (hR.2.below rfl))
      · clear hG
        simp only [Plan.puts] at hK ⊢
        go_wp2
        exact hK _ _ (GI.new (IL.build wx [T.sc, 0] 2) (fun a n c e => by cases e; exact ⟨Nat.le_refl _, by simp [go_sem]⟩)) (touch_below (below_box _ _))
    · intro vs R wx hS hE hall hap
      have h0 : GO ws.heap.size ([] ++ zs 12) (R 0) (vs 0) wx := (hall (0, 43) (by decide) (by decide)).1
      have h3 : GI [T.sc, 0] (R 3) (vs 3) wx := (hall (3, 46) (by decide) (by decide)).1
      have hdis := hap (0, 43) (by decide) (3, 46) (by decide) (by decide) (by decide) (by decide)
      obtain ⟨qa, qc, he0⟩ := h0.1.shape
      obtain ⟨pa, pc, he3⟩ := h3.1.shape
      have hapt : Apart (vs 0) (vs 3) := fun a n c e h => by
        obtain ⟨a', n', c', e1, e2⟩ := own_block h
        exact hdis _ (h0.2 a' n' c' e1) (by rw [e2]; exact h3.2 a n c e)
      have HS := Lib.hid hS
      have hSz := hS.size
      have ho0 := h0.1
      have hi3 := h3.1
      rw [he0] at ho0 hapt
      rw [he3] at hi3 hapt
      have HO := Lib.hid ho0
      have HI := Lib.hid hi3
      have HAP := Lib.hid hapt
      simp only [Plan.puts, he0, he3]
      clear hall hap hE h0 h3 hdis he0 he3 hapt ho0 hi3 hS hwrd hzd
      refine Plan.plan_of_effect rfl (fun K hK => ?_)
      go_wp2_with fail
      refine (appn_any _ _ ([] ++ zs 12) [T.sc, 0] ws.heap.size wx HO.out HI.out HAP.out (by simp) (by simp [zs]) (by omega)).mono ?_
      rintro e wy ⟨r, rfl, hO, hA⟩
      have hyw : Below ws.heap.size ws wy := HS.out.trans (hA.up HO.out hSz)
      obtain ⟨Lh, hLh⟩ : ∃ Lq, Lq = ([] ++ zs 12 ++ numsL [T.sc, 0] : List Int) := ⟨_, rfl⟩
      replace hO : Own wy ws.heap.size r Lh := by rw [hLh]; exact hO
      have hlh : Lh.length = 20 := by rw [hLh, List.length_append, numsL_length]; simp [zs]
      obtain ⟨ra0, rc0, rfl⟩ := hO.shape
      have HH := Lib.hid hO
      have HYW := Lib.hid hyw
      have HLh := Lib.hid hLh
      have HLhn := Lib.hid hlh
      have hsy := hyw.size
      clear hO hA hLh hlh HO HI HAP HS hyw
      go_wp2_with fail
      refine ⟨HYW.out, ?_⟩
      refine Plan.plan_of_effect rfl (fun K hK => ?_)
      go_wp2_with fail
      refine ⟨HYW.out, ?_⟩
      refine Plan.plan_done ?_
      go_wp2_with (at_builtin; refine wpList_adv _ rfl (.tmp 48) (.tmp 49) rfl ws.heap.size _ _ Lh [85, 196, 0, 0] rfl (HH.out.below (below_box wy _)) rfl (own_lit wy [85, 196, 0, 0] (by decide)).bl (by rw [HLhn.out]; decide) (by simp; omega) ?_)
      intro v9 w9 hO9 hA9
      have h9w : Below ws.heap.size ws w9 := (HYW.out.trans ((below_box wy _).mono hsy)).trans (hA9.up (HH.out.below (below_box wy _)) (by simp; omega))
      obtain ⟨L9, hL9⟩ : ∃ Lq, Lq = Lh ++ [85, 196, 0, 0] := ⟨_, rfl⟩
      rw [← hL9] at hO9
      have he9 : L9 = mdhdL T := by rw [hL9, HLh.out]; rfl
      obtain ⟨ra9, rc9, rfl⟩ := hO9.shape
      have HO9 := Lib.hid hO9
      have HL9 := Lib.hid he9
      have H9W := Lib.hid h9w
      have hs9 := h9w.size
      clear hO9 hA9 h9w hL9 he9 HH HYW HLh HLhn hsy hSz
      go_upto_region 10 with fail
      refine Plan.wp_region_plan (fun w' => Below w9.heap.size w9 w') (([1, 2].map (·, true)) ++ (([0, 3, 4].map (·, false)) ++ ([5].map (·, true)))) (by kernel_rfl) (by kernel_rfl) (by kernel_rfl) (Below.refl _ _).drew ?_
      refine' Plan.plan_seg _ [1, 2] (([0, 3, 4].map (·, false)) ++ ([5].map (·, true))) (by kernel_rfl) (by kernel_rfl) rfl (by exact (Below.refl _ _).drew) (fun wx hS => ?_) ?_
      rotate_left
      · have y0 := (((HXx.out.below H9W.out)).below hS).k0
        clear hS
        go_light
        iterate 2 (apply Plan.seg_pick; rfl; intro K hK; go_wp)
        exact Plan.seg_nil
      obtain ⟨we, hwe⟩ : ∃ x, x = w9.drew := ⟨_, rfl⟩
      rw [← hwe]
      have HD := Lib.hid (show Below w9.heap.size w9 we by rw [hwe]; exact (Below.refl _ _).drew)
      have hsd := HD.out.size
      clear hwe
      refine Plan.plan_of_effect rfl (fun K hK => ?_)
      go_wp2_with fail
      refine (appz_any (.slice none 0 0) [] 8 w9.heap.size we (own_nil _ _) (by decide) (by decide) (by decide) hsd).mono ?_
      rintro e wf ⟨r, rfl, hO, hA⟩
      have hfw : Below w9.heap.size w9 wf := HD.out.trans ((hA.below rfl).mono hsd)
      obtain ⟨La, hLa⟩ : ∃ Lq, Lq = ([] ++ zs 8 : List Int) := ⟨_, rfl⟩
      replace hO : Own wf w9.heap.size r La := by rw [hLa]; exact hO
      have hla : La.length = 8 := by rw [hLa]; simp [zs]
      obtain ⟨raa, rca, rfl⟩ := hO.shape
      have HA := Lib.hid hO
      have HFW := Lib.hid hfw
      have HLa := Lib.hid hLa
      have HLan := Lib.hid hla
      have hsf := hfw.size
      clear hO hA hLa hla hfw HD hsd
      go_wp2_with fail
      refine ⟨HFW.out, ?_⟩
      refine Plan.plan_of_effect rfl (fun K hK => ?_)
      refine wpList_advS _ rfl (.tmp 51) (.tmp 53) rfl w9.heap.size _ La T.h rfl HA.out rfl (by rw [HLan.out]; omega) hsf ?_
      intro v10 w10 hO10 hA10
      have h10 : Below w9.heap.size w9 w10 := HFW.out.trans (hA10.up HA.out hsf)
      obtain ⟨Lb, hLb⟩ : ∃ Lq, Lq = La ++ strB T.h := ⟨_, rfl⟩
      rw [← hLb] at hO10
      have hlb : Lb.length = 8 + T.h.size := by rw [hLb, List.length_append, HLan.out, strB_length]
      obtain ⟨rab, rcb, rfl⟩ := hO10.shape
      have HBq := Lib.hid hO10
      have H10 := Lib.hid h10
      have HLb := Lib.hid hLb
      have HLbn := Lib.hid hlb
      have hs10 := h10.size
      clear hO10 hA10 hLb hlb h10 HA HFW hsf
      go_wp2_with fail
      refine ⟨H10.out, ?_⟩
      refine Plan.plan_of_effect rfl (fun K hK => ?_)
      go_wp2_with fail
      refine (appz_any _ Lb 13 w9.heap.size w10 HBq.out (by decide) (by decide) (by rw [HLbn.out]; omega) hs10).mono ?_
      rintro e w11 ⟨r, rfl, hO, hA⟩
      have h11 : Below w9.heap.size w9 w11 := H10.out.trans (hA.up HBq.out hs10)
      obtain ⟨Lc, hLc⟩ : ∃ Lq, Lq = Lb ++ zs 13 := ⟨_, rfl⟩
      replace hO : Own w11 w9.heap.size r Lc := by rw [hLc]; exact hO
      have hec : Lc = hdlrL T := by rw [hLc, HLb.out, HLa.out]; rfl
      obtain ⟨rac, rcc, rfl⟩ := hO.shape
      have HC := Lib.hid hO
      have H11 := Lib.hid h11
      have HLc := Lib.hid hec
      have hs11 := h11.size
      clear hO hA hLc hec h11 HBq H10 HLa HLan HLb HLbn hs10
      go_wp2_with fail
      refine ⟨H11.out, ?_⟩
      refine' Plan.plan_seg _ [5] [] (by kernel_rfl) (by kernel_rfl) rfl (by exact H11.out) (fun wx hS => ?_) ?_
      rotate_left
      · clear hS
        go_light
        iterate 1 (apply Plan.seg_pick; rfl; intro K hK; go_wp)
        exact Plan.seg_nil
      refine Plan.plan_done ?_
      have h11w := H9W.out.trans (H11.out.mono hs9)
      have CA9 : ∀ no : Option Nat, (∀ q, no = some q → q < ws.heap.size) → CA w11 no (.iface 109 (.agg #[.string nMdhd, .slice ra9 L9.length rc9])) (.leaf nMdhd (mdhdL T)) := by
        intro no hno
        have h := (HO9.out.below H11.out).ca nMdhd hno
        rw [HL9.out] at h ⊢
        exact h
      have CAc : ∀ no : Option Nat, (∀ q, no = some q → q < ws.heap.size) → CA w11 no (.iface 109 (.agg #[.string nHdlr, .slice rac Lc.length rcc])) (.leaf nHdlr (hdlrL T)) := by
        intro no hno
        have h := HC.out.ca nHdlr (no := no) (fun q hq => by have := hno q hq; omega)
        rw [HLc.out] at h ⊢
        exact h
      have HC9 := Lib.hid CA9
      have HCc := Lib.hid CAc
      have HXy := Lib.hid (HXx.out.below h11w)
      have HVy := Lib.hid (HVx.out.below h11w)
      have H11W := Lib.hid h11w
      have hs11w := h11w.size
      clear CA9 CAc h11w HO9 HL9 HC HLc H9W H11
      obtain ⟨z0, z1, z2, z3, z4⟩ := HXy.out
      go_wp2_with fail
      refine (tables_any _ T first w11 HVy.out hn hC hf0 hf1 hs).mono ?_
      rintro e w12 ⟨r, rfl, hP, hb12⟩
      have hP' := hP
      obtain ⟨g7, f7, rfl, _⟩ := hP'
      have CS : ∀ no : Option Nat, (∀ q, no = some q → q < ws.heap.size) → CA w12 no (.iface 107 (.agg #[.string nStbl, .slice (some ⟨g7, 0, none⟩) 7 7])) (.group nStbl 7 (stbl T first)) := fun no hno => hP.group nStbl (fun q hq => by have := hno q hq; omega)
      have HCS := Lib.hid CS
      have HB12 := Lib.hid hb12
      replace HC9 := Lib.hid (show ∀ no : Option Nat, (∀ q, no = some q → q < ws.heap.size) → CA w12 no _ _ from fun no hno => (HC9.out no hno).bel hb12)
      replace HCc := Lib.hid (show ∀ no : Option Nat, (∀ q, no = some q → q < ws.heap.size) → CA w12 no _ _ from fun no hno => (HCc.out no hno).bel hb12)
      replace H11W := Lib.hid (H11W.out.trans (hb12.mono hs11w))
      have hs12 := hb12.size
      clear CS hP hb12 z0 z1 z2 z3 z4 HVy HXy
      go_upto_region 12 with fail
      obtain ⟨wm, hwm⟩ : ∃ x, x = w12.alloc (.cells #[.iface 107 (.agg #[.string (⟨#[115, 116, 98, 108]⟩ : ByteArray), .slice (some ⟨g7, 0, none⟩) 7 7])] 83) := ⟨_, rfl⟩
      have hbm : Below w12.heap.size w12 wm := by rw [hwm]; exact below_box _ _
      have hzm : wm.heap.size = w12.heap.size + 1 := by rw [hwm]; simp [go_sem]
      have hpm : Parts wm ws.heap.size (.slice (some ⟨w12.heap.size, 0, none⟩) 1 1) 1 (fun _ => .group nStbl 7 (stbl T first)) := by
        rw [hwm]
        refine Parts.of_alloc [_] rfl (by omega) (fun i v hv => ?_)
        have hi : i < 1 := (List.getElem?_eq_some_iff.1 hv).1
        obtain rfl : i = 0 := by omega
        simp only [List.getElem?_cons_zero, Option.some.injEq] at hv
        subst hv
        exact HCS.out
      have cmf : ∀ no : Option Nat, (∀ q, no = some q → q < ws.heap.size) → CA wm no (.iface 107 (.agg #[.string nMinf, .slice (some ⟨w12.heap.size, 0, none⟩) 1 1])) (minfT T first) := fun no hno => hpm.group nMinf hno
      rw [← hwm]
      obtain ⟨gm, hgm⟩ : ∃ g, g = w12.heap.size := ⟨_, rfl⟩
      rw [← hgm] at cmf hzm ⊢
      clear hwm hpm
      obtain ⟨wn, hwn⟩ : ∃ x, x = wm.alloc (.cells #[.iface 109 (.agg #[.string (⟨#[109, 100, 104, 100]⟩ : ByteArray), .slice ra9 L9.length rc9]), .iface 109 (.agg #[.string (⟨#[104, 100, 108, 114]⟩ : ByteArray), .slice rac Lc.length rcc]), .iface 107 (.agg #[.string (⟨#[109, 105, 110, 102]⟩ : ByteArray), .slice (some ⟨gm, 0, none⟩) 1 1])] 83) := ⟨_, rfl⟩
      have hbn : Below wm.heap.size wm wn := by rw [hwn]; exact below_box _ _
      have hzn : wn.heap.size = wm.heap.size + 1 := by rw [hwn]; simp [go_sem]
      have hpn : Parts wn ws.heap.size (.slice (some ⟨wm.heap.size, 0, none⟩) 3 3) 3 (fun i => if i = 0 then .leaf nMdhd (mdhdL T) else if i = 1 then .leaf nHdlr (hdlrL T) else minfT T first) := by
        rw [hwn]
        refine Parts.of_alloc [_, _, _] rfl (by omega) (fun i v hv => ?_)
        have hi : i < 3 := (List.getElem?_eq_some_iff.1 hv).1
        rcases (show i = 0 ∨ i = 1 ∨ i = 2 by omega) with rfl | rfl | rfl <;> (simp only [List.getElem?_cons_zero, List.getElem?_cons_succ, Option.some.injEq] at hv; subst hv)
        · exact fun no hno => (HC9.out no hno).bel hbm
        · exact fun no hno => (HCc.out no hno).bel hbm
        · exact cmf
      have cmd : ∀ no : Option Nat, (∀ q, no = some q → q < ws.heap.size) → CA wn no (.iface 107 (.agg #[.string nMdia, .slice (some ⟨wm.heap.size, 0, none⟩) 3 3])) (mdiaT T first) := fun no hno => hpn.group nMdia hno
      rw [← hwn]
      rw [← hzm]
      obtain ⟨gn, hgn⟩ : ∃ g, g = wm.heap.size := ⟨_, rfl⟩
      rw [← hgn] at cmd hzn ⊢
      clear hwn hpn
      obtain ⟨wo, hwo⟩ : ∃ x, x = wn.alloc (.cells #[.string (⟨#[109, 100, 105, 97]⟩ : ByteArray), .slice (some ⟨gn, 0, none⟩) 3 3] 107) := ⟨_, rfl⟩
      have hbo : Below wn.heap.size wn wo := by rw [hwo]; exact below_box _ _
      obtain ⟨go, hgo⟩ : ∃ g, g = wn.heap.size := ⟨_, rfl⟩
      have k0 : wo.cell? ⟨go, 0, none⟩ = some (.string (⟨#[109, 100, 105, 97]⟩ : ByteArray)) := by rw [hwo, hgo]; simp [go_sem]
      have k1 : wo.cell? ⟨go, 1, none⟩ = some (.slice (some ⟨gn, 0, none⟩) 3 3) := by rw [hwo, hgo]; simp [go_sem]
      rw [← hwo]
      rw [← hzn, ← hgo]
      have hb12o := (hbm.trans (hbn.mono hbm.size)).trans (hbo.mono (Nat.le_trans hbm.size hbn.size))
      have HCM := Lib.hid (show ∀ no : Option Nat, (∀ q, no = some q → q < ws.heap.size) → CA wo no _ _ from fun no hno => (cmd no hno).bel hbo)
      have HWo := Lib.hid (H11W.out.trans (hb12o.mono (by omega)))
      have HOCo := Lib.hid (HOCx.out.below HWo.out)
      have hso : ws.heap.size ≤ wo.heap.size := HWo.out.size
      clear hwo hgo hgn hgm hzm hzn hbm hbn hbo hb12o cmf cmd HC9 HCc HCS
      go_wp2_with (at_builtin; refine wpList_addC _ rfl (.tmp 72) (.tmp 75) rfl w1.heap.size _ _ (.iface 107 (.agg #[.string (⟨#[109, 100, 105, 97]⟩ : ByteArray), .slice (some ⟨gn, 0, none⟩) 3 3])) rfl (HOCo.out.own.below (below_box wo _)) wo.heap.size 1 rfl (by simp [go_sem]) rfl (by simp) (by simp; omega) ?_)
      intro v13 w13 hO13 hA13
      have hbx : Below wo.heap.size wo (wo.alloc (.cells #[.iface 107 (.agg #[.string (⟨#[109, 100, 105, 97]⟩ : ByteArray), .slice (some ⟨gn, 0, none⟩) 3 3])] 83)) := below_box _ _
      have h13 : Below w1.heap.size w1 w13 := ((HBW.out.trans (HWo.out.mono hsw)).trans (hbx.mono (by omega))).trans (hA13.up (HOCo.out.own.below hbx) (by simp; omega))
      have hrow := (HOCo.out.below hbx).add (W0 := ws.heap.size) (t := mdiaT T first) (fun g hg => HOCx.out.own.lt hg) hsw (fun no hno => (HCM.out no hno).bel hbx) hO13 hA13
      have hfin : ∀ no : Option Nat, (∀ q, no = some q → q < w.heap.size) → CA w13 no (.iface 107 (.agg #[.string nTrak, v13])) (trakT T k first) := fun no hno => by
        unfold trakT
        rw [if_pos hne]
        refine hrow.group nTrak rfl (by simp) (fun i hi => ?_) (fun q hq => by have := hno q hq; omega)
        have : i = 0 ∨ i = 1 ∨ i = 2 := by simp at hi; omega
        rcases this with rfl | rfl | rfl <;> rfl
      obtain ⟨aq, cq, rfl⟩ := hO13.shape
      have HF := Lib.hid hfin
      have HB13 := Lib.hid (HB1.out.trans (h13.mono (by omega)))
      clear hrow hfin hO13 hA13 h13 hbx
      go_wp2_with fail
      go_ret
      exact ⟨_, rfl, HF.out, HB13.out⟩
  · have hdec : decide ((0 : Int) < T.nE) = false := by simp; omega
    go_upto_region 8 with fail
    have HXx := HXp
    have HVx := HVp
    have HOCx := HOC
    refine Plan.wp_region_own (fun w' => Below wp.heap.size wp w') 6 (trG wp.heap.size T) (fun _ => []) ([1, 2].map (·, true)) [(0, 43), (3, 46)] ([4, 5].map (·, false)) 79 (by kernel_rfl) (by kernel_rfl) (by kernel_rfl) (by kernel_rfl) (Below.refl _ _).drew ?_
    refine' Plan.plan_seg _ [1, 2] [] (by kernel_rfl) (by kernel_rfl) rfl (by exact (Below.refl _ _).drew) (fun wx hS => ?_) ?_
    rotate_left
    · have y1 := (HXx.out.below hS).k1
      clear hS
      go_light
      iterate 2 (apply Plan.seg_pick; rfl; intro K hK; go_wp)
      exact Plan.seg_nil
    refine Plan.plan_nil ?_
    obtain ⟨wd, hwd⟩ : ∃ x, x = wp.drew := ⟨_, rfl⟩
    rw [← hwd]
    have hzd : wd.heap.size = wp.heap.size := by rw [hwd]; rfl
    have hwrd : wp.heap.size ≤ wd.heap.size := by omega
    clear hwd
    refine ⟨rfl, fun wa wb ha hb => ha.trans (hb.mono (by omega)), fun i R X v wa wb h ht hd _ _ => trG_touch h ht hd, ?_, ?_⟩
    · intro p hp o ho vs wx R hS hE hG K hK
      have hSz := hS.size
      simp only [List.mem_cons, List.not_mem_nil, or_false] at hp
      rcases hp with rfl | rfl
      all_goals obtain rfl := Option.some.inj ho
      · clear hG
        refine Plan.one_call rfl 53 Try.func53 (by kernel_rfl) (by kernel_rfl) #[.const (.slice none 0 0), .const (.int .i64 12)] #[22, 3] rfl #[.slice none 0 0, .int .i64 12] (by simp [Act.eval]) (fun r w' => Own w' wx.heap.size r ([] ++ zs 12) ∧ Adv wx w' (.slice none 0 0) r) (appz_any (.slice none 0 0) [] 12 wx.heap.size wx (own_nil _ _) (by decide) (by decide) (by decide) (Nat.le_refl _)) (fun r w' hR => ?_)
        exact hK _ _ (GO.new hR.1 (by omega)) (touch_below (hR.2.below rfl))
      · clear hG
        simp only [Plan.puts] at hK ⊢
        go_wp2
        exact hK _ _ (GI.new (IL.build wx [T.sc, 0] 2) (fun a n c e => by cases e; exact ⟨Nat.le_refl _, by simp [go_sem]⟩)) (touch_below (below_box _ _))
    · intro vs R wx hS hE hall hap
      have h0 : GO wp.heap.size ([] ++ zs 12) (R 0) (vs 0) wx := (hall (0, 43) (by decide) (by decide)).1
      have h3 : GI [T.sc, 0] (R 3) (vs 3) wx := (hall (3, 46) (by decide) (by decide)).1
      have hdis := hap (0, 43) (by decide) (3, 46) (by decide) (by decide) (by decide) (by decide)
      obtain ⟨qa, qc, he0⟩ := h0.1.shape
      obtain ⟨pa, pc, he3⟩ := h3.1.shape
      have hapt : Apart (vs 0) (vs 3) := fun a n c e h => by
        obtain ⟨a', n', c', e1, e2⟩ := own_block h
        exact hdis _ (h0.2 a' n' c' e1) (by rw [e2]; exact h3.2 a n c e)
      have HS := Lib.hid hS
      have hSz := hS.size
      have ho0 := h0.1
      have hi3 := h3.1
      rw [he0] at ho0 hapt
      rw [he3] at hi3 hapt
      have HO := Lib.hid ho0
      have HI := Lib.hid hi3
      have HAP := Lib.hid hapt
      simp only [Plan.puts, he0, he3]
      clear hall hap hE h0 h3 hdis he0 he3 hapt ho0 hi3 hS hwrd hzd
      refine Plan.plan_of_effect rfl (fun K hK => ?_)
      go_wp2_with fail
      refine (appn_any _ _ ([] ++ zs 12) [T.sc, 0] wp.heap.size wx HO.out HI.out HAP.out (by simp) (by simp [zs]) (by omega)).mono ?_
      rintro e wy ⟨r, rfl, hO, hA⟩
      have hyw : Below wp.heap.size wp wy := HS.out.trans (hA.up HO.out hSz)
      obtain ⟨Lh, hLh⟩ : ∃ Lq, Lq = ([] ++ zs 12 ++ numsL [T.sc, 0] : List Int) := ⟨_, rfl⟩
      replace hO : Own wy wp.heap.size r Lh := by rw [hLh]; exact hO
      have hlh : Lh.length = 20 := by rw [hLh, List.length_append, numsL_length]; simp [zs]
      obtain ⟨ra0, rc0, rfl⟩ := hO.shape
      have HH := Lib.hid hO
      have HYW := Lib.hid hyw
      have HLh := Lib.hid hLh
      have HLhn := Lib.hid hlh
      have hsy := hyw.size
      clear hO hA hLh hlh HO HI HAP HS hyw
      go_wp2_with fail
      refine ⟨HYW.out, ?_⟩
      refine Plan.plan_of_effect rfl (fun K hK => ?_)
      go_wp2_with fail
      refine ⟨HYW.out, ?_⟩
      refine Plan.plan_done ?_
      go_wp2_with (at_builtin; refine wpList_adv _ rfl (.tmp 48) (.tmp 49) rfl wp.heap.size _ _ Lh [85, 196, 0, 0] rfl (HH.out.below (below_box wy _)) rfl (own_lit wy [85, 196, 0, 0] (by decide)).bl (by rw [HLhn.out]; decide) (by simp; omega) ?_)
      intro v9 w9 hO9 hA9
      have h9w : Below wp.heap.size wp w9 := (HYW.out.trans ((below_box wy _).mono hsy)).trans (hA9.up (HH.out.below (below_box wy _)) (by simp; omega))
      obtain ⟨L9, hL9⟩ : ∃ Lq, Lq = Lh ++ [85, 196, 0, 0] := ⟨_, rfl⟩
      rw [← hL9] at hO9
      have he9 : L9 = mdhdL T := by rw [hL9, HLh.out]; rfl
      obtain ⟨ra9, rc9, rfl⟩ := hO9.shape
      have HO9 := Lib.hid hO9
      have HL9 := Lib.hid he9
      have H9W := Lib.hid h9w
      have hs9 := h9w.size
      clear hO9 hA9 h9w hL9 he9 HH HYW HLh HLhn hsy hSz
      go_upto_region 10 with fail
      refine Plan.wp_region_plan (fun w' => Below w9.heap.size w9 w') (([1, 2].map (·, true)) ++ (([0, 3, 4].map (·, false)) ++ ([5].map (·, true)))) (by kernel_rfl) (by kernel_rfl) (by kernel_rfl) (Below.refl _ _).drew ?_
      refine' Plan.plan_seg _ [1, 2] (([0, 3, 4].map (·, false)) ++ ([5].map (·, true))) (by kernel_rfl) (by kernel_rfl) rfl (by exact (Below.refl _ _).drew) (fun wx hS => ?_) ?_
      rotate_left
      · have y0 := (((HXx.out.below H9W.out)).below hS).k0
        clear hS
        go_light
        iterate 2 (apply Plan.seg_pick; rfl; intro K hK; go_wp)
        exact Plan.seg_nil
      obtain ⟨we, hwe⟩ : ∃ x, x = w9.drew := ⟨_, rfl⟩
      rw [← hwe]
      have HD := Lib.hid (show Below w9.heap.size w9 we by rw [hwe]; exact (Below.refl _ _).drew)
      have hsd := HD.out.size
      clear hwe
      refine Plan.plan_of_effect rfl (fun K hK => ?_)
      go_wp2_with fail
      refine (appz_any (.slice none 0 0) [] 8 w9.heap.size we (own_nil _ _) (by decide) (by decide) (by decide) hsd).mono ?_
      rintro e wf ⟨r, rfl, hO, hA⟩
      have hfw : Below w9.heap.size w9 wf := HD.out.trans ((hA.below rfl).mono hsd)
      obtain ⟨La, hLa⟩ : ∃ Lq, Lq = ([] ++ zs 8 : List Int) := ⟨_, rfl⟩
      replace hO : Own wf w9.heap.size r La := by rw [hLa]; exact hO
      have hla : La.length = 8 := by rw [hLa]; simp [zs]
      obtain ⟨raa, rca, rfl⟩ := hO.shape
      have HA := Lib.hid hO
      have HFW := Lib.hid hfw
      have HLa := Lib.hid hLa
      have HLan := Lib.hid hla
      have hsf := hfw.size
      clear hO hA hLa hla hfw HD hsd
      go_wp2_with fail
      refine ⟨HFW.out, ?_⟩
      refine Plan.plan_of_effect rfl (fun K hK => ?_)
      refine wpList_advS _ rfl (.tmp 51) (.tmp 53) rfl w9.heap.size _ La T.h rfl HA.out rfl (by rw [HLan.out]; omega) hsf ?_
      intro v10 w10 hO10 hA10
      have h10 : Below w9.heap.size w9 w10 := HFW.out.trans (hA10.up HA.out hsf)
      obtain ⟨Lb, hLb⟩ : ∃ Lq, Lq = La ++ strB T.h := ⟨_, rfl⟩
      rw [← hLb] at hO10
      have hlb : Lb.length = 8 + T.h.size := by rw [hLb, List.length_append, HLan.out, strB_length]
      obtain ⟨rab, rcb, rfl⟩ := hO10.shape
      have HBq := Lib.hid hO10
      have H10 := Lib.hid h10
      have HLb := Lib.hid hLb
      have HLbn := Lib.hid hlb
      have hs10 := h10.size
      clear hO10 hA10 hLb hlb h10 HA HFW hsf
      go_wp2_with fail
      refine ⟨H10.out, ?_⟩
      refine Plan.plan_of_effect rfl (fun K hK => ?_)
      go_wp2_with fail
      refine (appz_any _ Lb 13 w9.heap.size w10 HBq.out (by decide) (by decide) (by rw [HLbn.out]; omega) hs10).mono ?_
      rintro e w11 ⟨r, rfl, hO, hA⟩
      have h11 : Below w9.heap.size w9 w11 := H10.out.trans (hA.up HBq.out hs10)
      obtain ⟨Lc, hLc⟩ : ∃ Lq, Lq = Lb ++ zs 13 := ⟨_, rfl⟩
      replace hO : Own w11 w9.heap.size r Lc := by rw [hLc]; exact hO
      have hec : Lc = hdlrL T := by rw [hLc, HLb.out, HLa.out]; rfl
      obtain ⟨rac, rcc, rfl⟩ := hO.shape
      have HC := Lib.hid hO
      have H11 := Lib.hid h11
      have HLc := Lib.hid hec
      have hs11 := h11.size
      clear hO hA hLc hec h11 HBq H10 HLa HLan HLb HLbn hs10
      go_wp2_with fail
      refine ⟨H11.out, ?_⟩
      refine' Plan.plan_seg _ [5] [] (by kernel_rfl) (by kernel_rfl) rfl (by exact H11.out) (fun wx hS => ?_) ?_
      rotate_left
      · clear hS
        go_light
        iterate 1 (apply Plan.seg_pick; rfl; intro K hK; go_wp)
        exact Plan.seg_nil
      refine Plan.plan_done ?_
      have h11w := H9W.out.trans (H11.out.mono hs9)
      have CA9 : ∀ no : Option Nat, (∀ q, no = some q → q < wp.heap.size) → CA w11 no (.iface 109 (.agg #[.string nMdhd, .slice ra9 L9.length rc9])) (.leaf nMdhd (mdhdL T)) := by
        intro no hno
        have h := (HO9.out.below H11.out).ca nMdhd hno
        rw [HL9.out] at h ⊢
        exact h
      have CAc : ∀ no : Option Nat, (∀ q, no = some q → q < wp.heap.size) → CA w11 no (.iface 109 (.agg #[.string nHdlr, .slice rac Lc.length rcc])) (.leaf nHdlr (hdlrL T)) := by
        intro no hno
        have h := HC.out.ca nHdlr (no := no) (fun q hq => by have := hno q hq; omega)
        rw [HLc.out] at h ⊢
        exact h
      have HC9 := Lib.hid CA9
      have HCc := Lib.hid CAc
      have HXy := Lib.hid (HXx.out.below h11w)
      have HVy := Lib.hid (HVx.out.below h11w)
      have H11W := Lib.hid h11w
      have hs11w := h11w.size
      clear CA9 CAc h11w HO9 HL9 HC HLc H9W H11
      obtain ⟨z0, z1, z2, z3, z4⟩ := HXy.out
      go_wp2_with fail
      refine (tables_any _ T first w11 HVy.out hn hC hf0 hf1 hs).mono ?_
      rintro e w12 ⟨r, rfl, hP, hb12⟩
      have hP' := hP
      obtain ⟨g7, f7, rfl, _⟩ := hP'
      have CS : ∀ no : Option Nat, (∀ q, no = some q → q < wp.heap.size) → CA w12 no (.iface 107 (.agg #[.string nStbl, .slice (some ⟨g7, 0, none⟩) 7 7])) (.group nStbl 7 (stbl T first)) := fun no hno => hP.group nStbl (fun q hq => by have := hno q hq; omega)
      have HCS := Lib.hid CS
      have HB12 := Lib.hid hb12
      replace HC9 := Lib.hid (show ∀ no : Option Nat, (∀ q, no = some q → q < wp.heap.size) → CA w12 no _ _ from fun no hno => (HC9.out no hno).bel hb12)
      replace HCc := Lib.hid (show ∀ no : Option Nat, (∀ q, no = some q → q < wp.heap.size) → CA w12 no _ _ from fun no hno => (HCc.out no hno).bel hb12)
      replace H11W := Lib.hid (H11W.out.trans (hb12.mono hs11w))
      have hs12 := hb12.size
      clear CS hP hb12 z0 z1 z2 z3 z4 HVy HXy
      go_upto_region 12 with fail
      obtain ⟨wm, hwm⟩ : ∃ x, x = w12.alloc (.cells #[.iface 107 (.agg #[.string (⟨#[115, 116, 98, 108]⟩ : ByteArray), .slice (some ⟨g7, 0, none⟩) 7 7])] 83) := ⟨_, rfl⟩
      have hbm : Below w12.heap.size w12 wm := by rw [hwm]; exact below_box _ _
      have hzm : wm.heap.size = w12.heap.size + 1 := by rw [hwm]; simp [go_sem]
      have hpm : Parts wm wp.heap.size (.slice (some ⟨w12.heap.size, 0, none⟩) 1 1) 1 (fun _ => .group nStbl 7 (stbl T first)) := by
        rw [hwm]
        refine Parts.of_alloc [_] rfl (by omega) (fun i v hv => ?_)
        have hi : i < 1 := (List.getElem?_eq_some_iff.1 hv).1
        obtain rfl : i = 0 := by omega
        simp only [List.getElem?_cons_zero, Option.some.injEq] at hv
        subst hv
        exact HCS.out
      have cmf : ∀ no : Option Nat, (∀ q, no = some q → q < wp.heap.size) → CA wm no (.iface 107 (.agg #[.string nMinf, .slice (some ⟨w12.heap.size, 0, none⟩) 1 1])) (minfT T first) := fun no hno => hpm.group nMinf hno
      rw [← hwm]
      obtain ⟨gm, hgm⟩ : ∃ g, g = w12.heap.size := ⟨_, rfl⟩
      rw [← hgm] at cmf hzm ⊢
      clear hwm hpm
      obtain ⟨wn, hwn⟩ : ∃ x, x = wm.alloc (.cells #[.iface 109 (.agg #[.string (⟨#[109, 100, 104, 100]⟩ : ByteArray), .slice ra9 L9.length rc9]), .iface 109 (.agg #[.string (⟨#[104, 100, 108, 114]⟩ : ByteArray), .slice rac Lc.length rcc]), .iface 107 (.agg #[.string (⟨#[109, 105, 110, 102]⟩ : ByteArray), .slice (some ⟨gm, 0, none⟩) 1 1])] 83) := ⟨_, rfl⟩
      have hbn : Below wm.heap.size wm wn := by rw [hwn]; exact below_box _ _
      have hzn : wn.heap.size = wm.heap.size + 1 := by rw [hwn]; simp [go_sem]
      have hpn : Parts wn wp.heap.size (.slice (some ⟨wm.heap.size, 0, none⟩) 3 3) 3 (fun i => if i = 0 then .leaf nMdhd (mdhdL T) else if i = 1 then .leaf nHdlr (hdlrL T) else minfT T first) := by
        rw [hwn]
        refine Parts.of_alloc [_, _, _] rfl (by omega) (fun i v hv => ?_)
        have hi : i < 3 := (List.getElem?_eq_some_iff.1 hv).1
        rcases (show i = 0 ∨ i = 1 ∨ i = 2 by omega) with rfl | rfl | rfl <;> (simp only [List.getElem?_cons_zero, List.getElem?_cons_succ, Option.some.injEq] at hv; subst hv)
        · exact fun no hno => (HC9.out no hno).bel hbm
        · exact fun no hno => (HCc.out no hno).bel hbm
        · exact cmf
      have cmd : ∀ no : Option Nat, (∀ q, no = some q → q < wp.heap.size) → CA wn no (.iface 107 (.agg #[.string nMdia, .slice (some ⟨wm.heap.size, 0, none⟩) 3 3])) (mdiaT T first) := fun no hno => hpn.group nMdia hno
      rw [← hwn]
      rw [← hzm]
      obtain ⟨gn, hgn⟩ : ∃ g, g = wm.heap.size := ⟨_, rfl⟩
      rw [← hgn] at cmd hzn ⊢
      clear hwn hpn
      obtain ⟨wo, hwo⟩ : ∃ x, x = wn.alloc (.cells #[.string (⟨#[109, 100, 105, 97]⟩ : ByteArray), .slice (some ⟨gn, 0, none⟩) 3 3] 107) := ⟨_, rfl⟩
      have hbo : Below wn.heap.size wn wo := by rw [hwo]; exact below_box _ _
      obtain ⟨go, hgo⟩ : ∃ g, g = wn.heap.size := ⟨_, rfl⟩
      have k0 : wo.cell? ⟨go, 0, none⟩ = some (.string (⟨#[109, 100, 105, 97]⟩ : ByteArray)) := by rw [hwo, hgo]; simp [go_sem]
      have k1 : wo.cell? ⟨go, 1, none⟩ = some (.slice (some ⟨gn, 0, none⟩) 3 3) := by rw [hwo, hgo]; simp [go_sem]
      rw [← hwo]
      rw [← hzn, ← hgo]
      have hb12o := (hbm.trans (hbn.mono hbm.size)).trans (hbo.mono (Nat.le_trans hbm.size hbn.size))
      have HCM := Lib.hid (show ∀ no : Option Nat, (∀ q, no = some q → q < wp.heap.size) → CA wo no _ _ from fun no hno => (cmd no hno).bel hbo)
      have HWo := Lib.hid (H11W.out.trans (hb12o.mono (by omega)))
      have HOCo := Lib.hid (HOCx.out.below HWo.out)
      have hso : wp.heap.size ≤ wo.heap.size := HWo.out.size
      clear hwo hgo hgn hgm hzm hzn hbm hbn hbo hb12o cmf cmd HC9 HCc HCS
      go_wp2_with (at_builtin; refine wpList_addC _ rfl (.tmp 72) (.tmp 75) rfl w1.heap.size _ _ (.iface 107 (.agg #[.string (⟨#[109, 100, 105, 97]⟩ : ByteArray), .slice (some ⟨gn, 0, none⟩) 3 3])) rfl (HOCo.out.own.below (below_box wo _)) wo.heap.size 1 rfl (by simp [go_sem]) rfl (by simp) (by simp; omega) ?_)
      intro v13 w13 hO13 hA13
      have hbx : Below wo.heap.size wo (wo.alloc (.cells #[.iface 107 (.agg #[.string (⟨#[109, 100, 105, 97]⟩ : ByteArray), .slice (some ⟨gn, 0, none⟩) 3 3])] 83)) := below_box _ _
      have h13 : Below w1.heap.size w1 w13 := ((HBW.out.trans (HWo.out.mono hsw)).trans (hbx.mono (by omega))).trans (hA13.up (HOCo.out.own.below hbx) (by simp; omega))
      have hrow := (HOCo.out.below hbx).add (W0 := wp.heap.size) (t := mdiaT T first) (fun g hg => HOCx.out.own.lt hg) hsw (fun no hno => (HCM.out no hno).bel hbx) hO13 hA13
      have hfin : ∀ no : Option Nat, (∀ q, no = some q → q < w.heap.size) → CA w13 no (.iface 107 (.agg #[.string nTrak, v13])) (trakT T k first) := fun no hno => by
        unfold trakT
        rw [if_neg hne]
        refine hrow.group nTrak rfl (by simp) (fun i hi => ?_) (fun q hq => by have := hno q hq; omega)
        have : i = 0 ∨ i = 1 := by simp at hi; omega
        rcases this with rfl | rfl <;> rfl
      obtain ⟨aq, cq, rfl⟩ := hO13.shape
      have HF := Lib.hid hfin
      have HB13 := Lib.hid (HB1.out.trans (h13.mono (by omega)))
      clear hrow hfin hO13 hA13 h13 hbx
      go_wp2_with fail
      go_ret
      exact ⟨_, rfl, HF.out, HB13.out⟩
end Go.Proofs.Ytkhjkemllgjfmaa

/- The contract of the program's movie. -/
namespace Go.Proofs.Ytkhjkemllgjfmaa
open Go.RowKit
set_option linter.unusedVariables false
set_option linter.unusedSimpArgs false

def nMvhd : ByteArray := ⟨#[109, 118, 104, 100]⟩
def nMoov : ByteArray := ⟨#[109, 111, 111, 118]⟩
def mvhdL (F : Fl) : List Int := [] ++ zs 12 ++ numsL [F.sc, 0, 65536] ++ [1, 0] ++ zs 10 ++ matL ++ zs 24 ++ numsL [(F.nT : Int) + 1]
def offN (T : Nat → Tr) : Nat → Nat
  | 0 => 0
  | k + 1 => offN T k + sizeN (T k).S (T k).nS
def moovP (F : Fl) (first : Int) (i : Nat) : CT := if i = 0 then .leaf nMvhd (mvhdL F) else trakT (F.T (i - 1)) (i : Int) (first + (offN F.T (i - 1) : Nat))
def moovT (F : Fl) (first : Int) : CT := .group nMoov (F.nT + 1) (moovP F first)
/-- What a light file's tracks hold. -/
structure LT (T : Tr) : Prop where
  s : T.nS ≤ 40
  c : T.nC ≤ 5000
  e : T.nE ≤ 70
  h : T.h.size ≤ 20
  z : sizeN T.S T.nS ≤ 20000
theorem offN_le {T : Nat → Tr} {n : Nat} (h : ∀ i, i < n → LT (T i)) : ∀ k, k ≤ n → offN T k ≤ k * 20000
  | 0, _ => by simp [offN]
  | k + 1, hk => by
    have h1 := offN_le h k (by omega)
    have h2 := (h k (by omega)).z
    simp only [offN]
    omega
theorem RowC.congr {w : World} {B : Nat} {v : Value} {xs : List Value} {P Q : Nat → CT} (h : RowC w B v xs P) (e : ∀ i, i < xs.length → P i = Q i) : RowC w B v xs Q :=
  ⟨h.own, fun i x hi => by rw [← e i (List.getElem?_eq_some_iff.1 hi).1]; exact h.here i x hi, fun i x hi => by rw [← e i (List.getElem?_eq_some_iff.1 hi).1]; exact h.low i x hi⟩
theorem CA.iface {w : World} {no : Option Nat} {v : Value} {t : CT} (h : CA w no v t) : ∃ ty x, v = .iface ty x := by cases h <;> exact ⟨_, _, rfl⟩
theorem moovP_succ (F : Fl) (first : Int) (k : Nat) : moovP F first (k + 1) = trakT (F.T k) ((k : Int) + 1) (first + (offN F.T k : Nat)) := by
  unfold moovP
  rw [if_neg (by omega)]
  simp
def MoovPost (w : World) (F : Fl) (first : Int) (e : Ending) (w' : World) : Prop := ∃ r, e = .returned r ∧ (∀ no : Option Nat, (∀ q, no = some q → q < w.heap.size) → CA w' no r (moovT F first)) ∧ Below w.heap.size w w'
def mvG (B : Nat) (F : Fl) (i : Nat) (R : Nat → Prop) (v : Value) (w : World) : Prop :=
  match i with
  | 0 => GO B ([] ++ zs 12) R v w | 3 => GI [F.sc, 0, 65536] R v w | _ => True
theorem mvG_touch {B : Nat} {F : Fl} {i : Nat} {R X : Nat → Prop} {v : Value} {w w' : World} (h : mvG B F i R v w) (ht : Plan.Touch X w w') (hd : ∀ b, R b → ¬ X b ∧ b < w.heap.size) : mvG B F i R v w' := by
  unfold mvG at h ⊢
  split <;> first | exact GI.touch h ht hd | exact GO.touch h ht hd | trivial

set_option maxRecDepth 100000 in
set_option maxHeartbeats 4000000 in
theorem movie_any (v : Value) (F : Fl) (first : Int) (w : World) (hv : FA w v F) (hn : F.nT ≤ 6) (hL : ∀ i, i < F.nT → LT (F.T i)) (hf0 : 0 ≤ first) (hf1 : first ≤ 1000000) :
    Calls Try.prog 40 #[v, .int .i64 first] w (MoovPost w F first) := by
  obtain ⟨cT, rfl, hts⟩ := hv
  obtain ⟨aT, dT, rfl⟩ := hts.shape
  have HTS := Lib.hid hts
  have HLT := Lib.hid hL
  clear hts hL
  go_enter Try.func40, Try.ntmps40
  go_upto_region 1 with fail
  obtain ⟨w1, hw1⟩ : ∃ x, x = w.alloc (.cells #[.int .i64 F.sc, .slice aT F.nT dT] 56) := ⟨_, rfl⟩
  rw [← hw1]
  obtain ⟨gt, hgt⟩ : ∃ g, g = w.heap.size := ⟨_, rfl⟩
  have hE1 : Below w.heap.size w w1 := by rw [hw1]; exact below_box _ _
  have x0 : w1.cell? ⟨gt, 0, none⟩ = some (.int .i64 F.sc) := by rw [hw1, hgt]; simp [go_sem]
  have x1 : w1.cell? ⟨gt, 1, none⟩ = some (.slice aT F.nT dT) := by rw [hw1, hgt]; simp [go_sem]
  have hz1 : w.heap.size < w1.heap.size := by rw [hw1]; simp [go_sem]
  rw [← hgt]
  have hgtl : gt < w1.heap.size := block_lt_of_cell x0
  have HB1 := Lib.hid hE1
  have HX := Lib.hid (And.intro x0 x1)
  clear hw1 hE1 hgt x1
  refine Plan.wp_region_own (fun w' => Below w1.heap.size w1 w') 6 (mvG w1.heap.size F) (fun _ => []) ([1, 2].map (·, true)) [(0, 9), (3, 12)] ([4, 5].map (·, false)) 56 (by kernel_rfl) (by kernel_rfl) (by kernel_rfl) (by kernel_rfl) (Below.refl _ _).drew ?_
  refine' Plan.plan_seg _ [1, 2] [] (by kernel_rfl) (by kernel_rfl) rfl (by exact (Below.refl _ _).drew) (fun wx hS => ?_) ?_
  rotate_left
  · have y0 := (hS.cell (p := ⟨gt, 0, none⟩) hgtl).trans x0
    clear hS
    go_light
    iterate 2 (apply Plan.seg_pick; rfl; intro K hK; go_wp)
    exact Plan.seg_nil
  refine Plan.plan_nil ?_
  obtain ⟨wd, hwd⟩ : ∃ x, x = w1.drew := ⟨_, rfl⟩
  rw [← hwd]
  have hzd : wd.heap.size = w1.heap.size := by rw [hwd]; rfl
  have hwrd : w1.heap.size ≤ wd.heap.size := by omega
  clear hwd
  refine ⟨rfl, fun wa wb ha hb => ha.trans (hb.mono (by omega)), fun i R X v wa wb h ht hd _ _ => mvG_touch h ht hd, ?_, ?_⟩
  · intro p hp o ho vs wx R hS hE hG K hK
    have hSz := hS.size
    simp only [List.mem_cons, List.not_mem_nil, or_false] at hp
    rcases hp with rfl | rfl
    all_goals obtain rfl := Option.some.inj ho
    · clear hG
      refine Plan.one_call rfl 53 Try.func53 (by kernel_rfl) (by kernel_rfl) #[.const (.slice none 0 0), .const (.int .i64 12)] #[22, 3] rfl #[.slice none 0 0, .int .i64 12] (by simp [Act.eval]) (fun r w' => Own w' wx.heap.size r ([] ++ zs 12) ∧ Adv wx w' (.slice none 0 0) r) (appz_any (.slice none 0 0) [] 12 wx.heap.size wx (own_nil _ _) (by decide) (by decide) (by decide) (Nat.le_refl _)) (fun r w' hR => ?_)
      exact hK _ _ (GO.new hR.1 (by omega)) (touch_below (hR.2.below rfl))
    · clear hG
      simp only [Plan.puts] at hK ⊢
      go_wp2
      exact hK _ _ (GI.new (IL.build wx [F.sc, 0, 65536] 2) (fun a n c e => by cases e; exact ⟨Nat.le_refl _, by simp [go_sem]⟩)) (touch_below (below_box _ _))
  intro vs R wx hS hE hall hap
  have h0 : GO w1.heap.size ([] ++ zs 12) (R 0) (vs 0) wx := (hall (0, 9) (by decide) (by decide)).1
  have h3 : GI [F.sc, 0, 65536] (R 3) (vs 3) wx := (hall (3, 12) (by decide) (by decide)).1
  have hdis := hap (0, 9) (by decide) (3, 12) (by decide) (by decide) (by decide) (by decide)
  obtain ⟨qa, qc, he0⟩ := h0.1.shape
  obtain ⟨pa, pc, he3⟩ := h3.1.shape
  have hapt : Apart (vs 0) (vs 3) := fun a n c e h => by
    obtain ⟨a', n', c', e1, e2⟩ := own_block h
    exact hdis _ (h0.2 a' n' c' e1) (by rw [e2]; exact h3.2 a n c e)
  have HS := Lib.hid hS
  have hSz := hS.size
  have ho0 := h0.1
  have hi3 := h3.1
  rw [he0] at ho0 hapt
  rw [he3] at hi3 hapt
  have HO := Lib.hid ho0
  have HI := Lib.hid hi3
  have HAP := Lib.hid hapt
  simp only [Plan.puts, he0, he3]
  clear hall hap hE h0 h3 hdis he0 he3 hapt ho0 hi3 hS hwrd hzd x0
  refine Plan.plan_of_effect rfl (fun K hK => ?_)
  go_wp2_with fail
  refine (appn_any _ _ ([] ++ zs 12) [F.sc, 0, 65536] w1.heap.size wx HO.out HI.out HAP.out (by simp) (by simp [zs]) hSz).mono ?_
  rintro e w2 ⟨r, rfl, hO, hA⟩
  have hup : Below w1.heap.size w1 w2 := HS.out.trans (hA.up HO.out hSz)
  obtain ⟨L2, hL2⟩ : ∃ Lq, Lq = ([] ++ zs 12 ++ numsL [F.sc, 0, 65536] : List Int) := ⟨_, rfl⟩
  replace hO : Own w2 w1.heap.size r L2 := by rw [hL2]; exact hO
  have hn2 : L2.length = 24 := by rw [hL2, List.length_append, numsL_length]; simp [zs]
  obtain ⟨ra, rc, rfl⟩ := hO.shape
  have HBW := Lib.hid hup
  have HLn := Lib.hid hn2
  have HLe := Lib.hid hL2
  have hsw := hup.size
  replace HO := Lib.hid hO
  clear hO hA hup hL2 hn2 HI HAP HS
  go_wp2_with fail
  refine ⟨HBW.out, ?_⟩
  refine Plan.plan_of_effect rfl (fun K hK => ?_)
  go_wp2_with fail
  refine ⟨HBW.out, ?_⟩
  refine Plan.plan_done ?_
  go_wp2_with (at_builtin; refine wpList_adv _ rfl (.tmp 14) (.tmp 15) rfl w1.heap.size _ _ L2 [1, 0] rfl (HO.out.below (below_box w2 _)) rfl (own_lit w2 [1, 0] (by decide)).bl (by rw [HLn.out]; decide) (by simp; omega) ?_)
  intro r w3 hO hA
  have hup : Below w1.heap.size w1 w3 := (HBW.out.trans ((below_box w2 _).mono hsw)).trans (hA.up (HO.out.below (below_box w2 _)) (by first | exact hsw | (simp; done) | (simp; omega)))
  obtain ⟨L3, hL3⟩ : ∃ Lq, Lq = L2 ++ [1, 0] := ⟨_, rfl⟩
  replace hO : Own w3 w1.heap.size r L3 := by rw [hL3]; exact hO
  have hn2 : L3.length = 26 := by rw [hL3, List.length_append, HLn.out, show ([1, 0] : List Int).length = 2 from rfl]
  have he2 : L3 = [] ++ zs 12 ++ numsL [F.sc, 0, 65536] ++ [1, 0] := hL3.trans (by rw [HLe.out])
  obtain ⟨ra, rc, rfl⟩ := hO.shape
  replace HO := Lib.hid hO
  replace HBW := Lib.hid hup
  replace HLn := Lib.hid hn2
  replace HLe := Lib.hid he2
  replace hsw := hup.size
  clear hO hA hup hL3 hn2 he2
  go_wp2_with fail
  refine (appz_any _ L3 10 w1.heap.size _ HO.out (by decide) (by decide) (by rw [HLn.out]; decide) hsw).mono ?_
  rintro e w4 ⟨r, rfl, hO, hA⟩
  have hup : Below w1.heap.size w1 w4 := HBW.out.trans (hA.up HO.out (by first | exact hsw | (simp; done) | (simp; omega)))
  obtain ⟨L4, hL4⟩ : ∃ Lq, Lq = L3 ++ zs 10 := ⟨_, rfl⟩
  replace hO : Own w4 w1.heap.size r L4 := by rw [hL4]; exact hO
  have hn2 : L4.length = 36 := by rw [hL4, List.length_append, HLn.out, show (zs 10 : List Int).length = 10 from by simp [zs]]
  have he2 : L4 = [] ++ zs 12 ++ numsL [F.sc, 0, 65536] ++ [1, 0] ++ zs 10 := hL4.trans (by rw [HLe.out])
  obtain ⟨ra, rc, rfl⟩ := hO.shape
  replace HO := Lib.hid hO
  replace HBW := Lib.hid hup
  replace HLn := Lib.hid hn2
  replace HLe := Lib.hid he2
  replace hsw := hup.size
  clear hO hA hup hL4 hn2 he2
  go_wp2_with fail
  refine (appm_any _ L4 w1.heap.size _ HO.out (by rw [HLn.out]; decide) hsw).mono ?_
  rintro e w5 ⟨r, rfl, hO, hA⟩
  have hup : Below w1.heap.size w1 w5 := HBW.out.trans (hA.up HO.out (by first | exact hsw | (simp; done) | (simp; omega)))
  obtain ⟨L5, hL5⟩ : ∃ Lq, Lq = L4 ++ matL := ⟨_, rfl⟩
  replace hO : Own w5 w1.heap.size r L5 := by rw [hL5]; exact hO
  have hn2 : L5.length = 72 := by rw [hL5, List.length_append, HLn.out, show (matL : List Int).length = 36 from by rfl]
  have he2 : L5 = [] ++ zs 12 ++ numsL [F.sc, 0, 65536] ++ [1, 0] ++ zs 10 ++ matL := hL5.trans (by rw [HLe.out])
  obtain ⟨ra, rc, rfl⟩ := hO.shape
  replace HO := Lib.hid hO
  replace HBW := Lib.hid hup
  replace HLn := Lib.hid hn2
  replace HLe := Lib.hid he2
  replace hsw := hup.size
  clear hO hA hup hL5 hn2 he2
  go_wp2_with fail
  refine (appz_any _ L5 24 w1.heap.size _ HO.out (by decide) (by decide) (by rw [HLn.out]; decide) hsw).mono ?_
  rintro e w6 ⟨r, rfl, hO, hA⟩
  have hup : Below w1.heap.size w1 w6 := HBW.out.trans (hA.up HO.out (by first | exact hsw | (simp; done) | (simp; omega)))
  obtain ⟨L6, hL6⟩ : ∃ Lq, Lq = L5 ++ zs 24 := ⟨_, rfl⟩
  replace hO : Own w6 w1.heap.size r L6 := by rw [hL6]; exact hO
  have hn2 : L6.length = 96 := by rw [hL6, List.length_append, HLn.out, show (zs 24 : List Int).length = 24 from by simp [zs]]
  have he2 : L6 = [] ++ zs 12 ++ numsL [F.sc, 0, 65536] ++ [1, 0] ++ zs 10 ++ matL ++ zs 24 := hL6.trans (by rw [HLe.out])
  obtain ⟨ra, rc, rfl⟩ := hO.shape
  replace HO := Lib.hid hO
  replace HBW := Lib.hid hup
  replace HLn := Lib.hid hn2
  replace HLe := Lib.hid he2
  replace hsw := hup.size
  clear hO hA hup hL6 hn2 he2
  have x1 := (HBW.out.cell (p := ⟨gt, 1, none⟩) hgtl).trans HX.out.2
  go_wp2_with fail
  refine (appn_any _ _ L6 [(F.nT : Int) + 1] w1.heap.size _ (HO.out.below (below_box w6 _)) (IL.build w6 [(F.nT : Int) + 1] 2) (HO.out.apart_new (Nat.le_refl _)) (by simp) (by rw [HLn.out]; decide) (by simp; omega)).mono ?_
  rintro e w7 ⟨r, rfl, hO, hA⟩
  have hup : Below w1.heap.size w1 w7 := (HBW.out.trans ((below_box w6 _).mono hsw)).trans (hA.up (HO.out.below (below_box w6 _)) (by first | exact hsw | (simp; done) | (simp; omega)))
  obtain ⟨L7, hL7⟩ : ∃ Lq, Lq = L6 ++ numsL [(F.nT : Int) + 1] := ⟨_, rfl⟩
  replace hO : Own w7 w1.heap.size r L7 := by rw [hL7]; exact hO
  have hn2 : L7.length = 100 := by rw [hL7, List.length_append, HLn.out, show (numsL [(F.nT : Int) + 1] : List Int).length = 4 from by rw [numsL_length]; rfl]
  have he2 : L7 = [] ++ zs 12 ++ numsL [F.sc, 0, 65536] ++ [1, 0] ++ zs 10 ++ matL ++ zs 24 ++ numsL [(F.nT : Int) + 1] := hL7.trans (by rw [HLe.out])
  obtain ⟨ra, rc, rfl⟩ := hO.shape
  replace HO := Lib.hid hO
  replace HBW := Lib.hid hup
  replace HLn := Lib.hid hn2
  replace HLe := Lib.hid he2
  replace hsw := hup.size
  clear hO hA hup hL7 hn2 he2
  clear x1
  go_upto_region 6 with fail
  have HOT := HO
  have HLM := Lib.hid (show L7 = mvhdL F from HLe.out)
  clear HO HLe HLn
  obtain ⟨wp, hwp⟩ : ∃ x, x = w7.alloc (.cells #[.iface 109 (.agg #[.string nMvhd, .slice ra L7.length rc])] 83) := ⟨_, rfl⟩
  have hbp : Below w7.heap.size w7 wp := by rw [hwp]; exact below_box _ _
  obtain ⟨gq, hgq⟩ : ∃ g, g = w7.heap.size := ⟨_, rfl⟩
  have hoc : RowC wp w1.heap.size (.slice (some ⟨gq, 0, none⟩) 1 1) [.iface 109 (.agg #[.string nMvhd, .slice ra L7.length rc])] (moovP F first) := by
    rw [hwp, hgq]
    refine (RowC.one hsw (fun no hno => ?_)).congr (P := fun _ => .leaf nMvhd (mvhdL F)) (fun i hi => ?_)
    · have h := HOT.out.ca nMvhd hno
      rw [HLM.out] at h ⊢
      exact h
    · have : i = 0 := by simp at hi; exact hi
      subst this
      rfl
  have hwp' := hwp
  unfold nMvhd at hwp'
  rw [← hwp', ← hgq]
  replace hbp := HBW.out.trans (hbp.mono hsw)
  have HOC := Lib.hid hoc
  replace HBW := Lib.hid hbp
  replace hsw := hbp.size
  clear hwp hwp' hgq hbp hoc HOT HLM
  have x1 := (HBW.out.cell (p := ⟨gt, 1, none⟩) hgtl).trans HX.out.2
  go_wp2_with fail
  clear x1
  go_loopw [1, 6, 35] (fun f v6 i wr => ∃ k : Nat, k ≤ F.nT ∧ i = .int .i64 (k : Int) ∧ f = .int .i64 (first + (offN F.T k : Nat)) ∧ ∃ a6 c6 xs, v6 = .slice a6 (k + 1) c6 ∧ xs.length = k + 1 ∧ RowC wr w1.heap.size (.slice a6 (k + 1) c6) xs (moovP F first) ∧ Below w1.heap.size w1 wr) (fun _ _ i _ => F.nT - (intOf i).toNat)
  case atStart => exact ⟨0, Nat.zero_le _, rfl, by simp [offN], _, _, _, rfl, rfl, HOC.out, HBW.out⟩
  case round =>
    obtain ⟨k, hk, rfl, rfl, a6, c6, xs, rfl, hxl, hR, hbw⟩ := hrel
    have HR := Lib.hid hR
    have HW := Lib.hid hbw
    have HXL := Lib.hid hxl
    have hsr := hbw.size
    clear hR hbw hxl HOC HBW hsw
    have hww := HB1.out.trans (HW.out.mono (by omega))
    have HWW := Lib.hid hww
    have hswr := hww.size
    by_cases hlt : k < F.nT
    · obtain ⟨ao, c', e, hcc, H⟩ := HTS.out
      simp only [Value.slice.injEq, true_and] at e
      obtain ⟨rfl, rfl⟩ := e
      obtain ⟨b', o', c0, c1, c2, c3, c4, rfl, h0, h1, h2, h3, h4, hTC⟩ := H k hlt
      have HTA := Lib.hid (show TA w (.agg #[c0, c1, c2, c3, c4]) (F.T k) from ⟨c0, c1, c2, c3, c4, rfl, hTC⟩)
      obtain ⟨rfl, rfl, b2, b3, b4⟩ := hTC
      obtain ⟨p2, q2, rfl⟩ := b2.shape
      obtain ⟨p3, q3, rfl⟩ := b3.shape
      obtain ⟨p4, q4, rfl⟩ := b4.shape
      replace h0 := (hww.cell (block_lt_of_cell h0)).trans h0
      replace h1 := (hww.cell (block_lt_of_cell h1)).trans h1
      replace h2 := (hww.cell (block_lt_of_cell h2)).trans h2
      replace h3 := (hww.cell (block_lt_of_cell h3)).trans h3
      replace h4 := (hww.cell (block_lt_of_cell h4)).trans h4
      have hl := HLT.out k hlt
      have hoff := offN_le HLT.out k (by omega)
      obtain ⟨Tk, hTk⟩ : ∃ T, T = F.T k := ⟨_, rfl⟩
      rw [← hTk] at h0 h1 h2 h3 h4 HTA hl
      obtain ⟨G, hG⟩ : ∃ G, G = offN F.T k := ⟨_, rfl⟩
      rw [← hG] at hoff ⊢
      have HTk := Lib.hid hTk
      have HGq := Lib.hid hG
      have hzz := hl.z
      have hl1 := hl.s
      have hl2 := hl.c
      have hl3 := hl.e
      have hl4 := hl.h
      clear H b2 b3 b4 hTk hG hl hww
      go_upto_region 9 with fail
      obtain ⟨ws, hws⟩ : ∃ x, x = wr.alloc (.cells #[.string Tk.h, .int .i64 Tk.sc, .slice p2 Tk.nC q2, .slice p3 Tk.nS q3, .slice p4 Tk.nE q4] 43) := ⟨_, rfl⟩
      rw [← hws]
      obtain ⟨gs, hgs⟩ : ∃ g, g = wr.heap.size := ⟨_, rfl⟩
      have hbs : Below wr.heap.size wr ws := by rw [hws]; exact below_box _ _
      have hcx : C5 ws gs (.string Tk.h) (.int .i64 Tk.sc) (.slice p2 Tk.nC q2) (.slice p3 Tk.nS q3) (.slice p4 Tk.nE q4) := by rw [hws, hgs]; constructor <;> simp [go_sem]
      rw [← hgs]
      have hrow_lt : ∀ g, (Value.slice a6 (k + 1) c6).ownBlock = some g → g < gs := fun g hg => by rw [hgs]; exact HR.out.own.lt hg
      have HRL := Lib.hid hrow_lt
      have hss := hbs.size
      have HCX := Lib.hid hcx
      have HBS := Lib.hid hbs
      have hgss : gs < ws.heap.size := hcx.lt
      clear hws hgs hbs hcx hrow_lt h0 h1 h2 h3 h4
      obtain ⟨y0, y1, y2, y3, y4⟩ := HCX.out
      go_wp2_with fail
      refine (wtrack_any _ Tk ((k : Int) + 1) (first + (G : Nat)) ws ((HTA.out.below HWW.out).below HBS.out) (by omega) (by omega) (by omega) (by omega) (by omega) (by omega) (by omega)).mono ?_
      rintro e wt ⟨r, rfl, hca, hbt⟩
      obtain ⟨ty, rx, rfl⟩ := (hca none (by simp)).iface
      have HCA := Lib.hid hca
      have HBT := Lib.hid (HBS.out.trans (hbt.mono hss))
      have hst := HBT.out.size
      have hst2 := hbt.size
      replace HCX := Lib.hid (HCX.out.below hbt)
      clear hca hbt y0 y1 y2 y3 y4
      go_wp2_with (at_builtin; refine wpList_addC _ rfl (.tmp 40) (.tmp 46) rfl w1.heap.size _ xs (.iface ty rx) rfl ((HR.out.below HBT.out).own.below (below_box wt _)) wt.heap.size 1 rfl (by simp [go_sem]) rfl (by rw [HXL.out]; omega) (by simp; omega) ?_)
      intro v6' wu hO hA
      have hbx : Below wt.heap.size wt (wt.alloc (.cells #[.iface ty rx] 83)) := below_box _ _
      have hzx : (wt.alloc (.cells #[.iface ty rx] 83)).heap.size = wt.heap.size + 1 := by simp [go_sem]
      have hrow := ((HR.out.below HBT.out).below hbx).add (W0 := ws.heap.size) (t := trakT Tk ((k : Int) + 1) (first + (G : Nat))) (fun g hg => Nat.lt_trans (HRL.out g hg) hgss) (by omega) (fun no hno => (HCA.out no hno).bel hbx) hO hA
      have hrow2 : RowC wu w1.heap.size v6' (xs ++ [.iface ty rx]) (moovP F first) := hrow.congr (fun i hi => by
        by_cases e : i = xs.length
        · rw [if_pos e, e, HXL.out, moovP_succ, HTk.out, HGq.out]
        · rw [if_neg e])
      have hbu : Below w1.heap.size w1 wu := (HW.out.trans (HBT.out.mono hsr)).trans ((hbx.mono (by omega)).trans (hA.up ((HR.out.below HBT.out).own.below hbx) (by omega)))
      have hxu : C5 wu gs (.string Tk.h) (.int .i64 Tk.sc) (.slice p2 Tk.nC q2) (.slice p3 Tk.nS q3) (.slice p4 Tk.nE q4) := by
        have h1 := HCX.out.below hbx
        have hb : wu.heap[gs]? = (wt.alloc (.cells #[.iface ty rx] 83)).heap[gs]? := hA.g.block gs h1.lt (fun e => by have := HRL.out gs e.symm; omega)
        exact ⟨(World.cell?_of_block (a := ⟨gs, 0, none⟩) hb).trans h1.k0, (World.cell?_of_block (a := ⟨gs, 1, none⟩) hb).trans h1.k1, (World.cell?_of_block (a := ⟨gs, 2, none⟩) hb).trans h1.k2, (World.cell?_of_block (a := ⟨gs, 3, none⟩) hb).trans h1.k3, (World.cell?_of_block (a := ⟨gs, 4, none⟩) hb).trans h1.k4⟩
      have hln : (xs ++ [Value.iface ty rx]).length = k + 1 + 1 := by rw [List.length_append, HXL.out]; rfl
      obtain ⟨a6', c6', hv⟩ := hO.shape
      rw [hln] at hv
      subst hv
      have HRow := Lib.hid hrow2
      have HBU := Lib.hid hbu
      have HLN := Lib.hid hln
      have HTU := Lib.hid (HTA.out.below (HB1.out.trans (hbu.mono (by omega))))
      have hsu := hbu.size
      clear hrow hrow2 hbx hzx hbu hln hO hA HCX HBT HR HCA
      obtain ⟨y0, y1, y2, y3, y4⟩ := hxu
      go_wp2_with fail
      refine (size_any _ Tk wu HTU.out (by omega) (by omega)).mono ?_
      rintro e wv ⟨rfl, hbv⟩
      have HRv := Lib.hid (HRow.out.below hbv)
      have HBv := Lib.hid (HBU.out.trans (hbv.mono hsu))
      obtain ⟨Z, hZ⟩ : ∃ Z, Z = sizeN Tk.S Tk.nS := ⟨_, rfl⟩
      rw [← hZ] at hzz ⊢
      have HZ := Lib.hid hZ
      clear hbv hZ y0 y1 y2 y3 y4 HRow HBU
      go_wp2_with fail
      refine ⟨⟨k + 1, by omega, by go_num, ?_, a6', c6', _, by go_num, HLN.out, HRv.out, HBv.out⟩, ?_⟩
      · have e1 : offN F.T (k + 1) = G + Z := by rw [HZ.out, HGq.out, HTk.out]; rfl
        rw [e1]
        go_num
      · simp [intOf]
        omega
    · obtain rfl : k = F.nT := by omega
      have hfin : ∀ no : Option Nat, (∀ q, no = some q → q < w.heap.size) → CA wr no (.iface 107 (.agg #[.string nMoov, .slice a6 (F.nT + 1) c6])) (moovT F first) := fun no hno => HR.out.group nMoov HXL.out (by omega) (fun i _ => rfl) (fun q hq => by have := hno q hq; omega)
      have HF := Lib.hid hfin
      clear hfin hww
      go_wp2_with fail
      go_ret
      exact ⟨_, rfl, HF.out, HWW.out⟩
end Go.Proofs.Ytkhjkemllgjfmaa

/- How long a light file's boxes are. -/
namespace Go.Proofs.Ytkhjkemllgjfmaa
open Go.RowKit
set_option linter.unusedVariables false
set_option linter.unusedSimpArgs false

theorem zs_length (n : Nat) : (zs n).length = n := by simp [zs]
theorem matL_length : matL.length = 36 := rfl
theorem chunkL_length : chunkL.length = 20 := rfl
theorem runsL_le (f : Nat → Int) (n : Nat) : (runsL f n).length ≤ 8 + 8 * n := by
  unfold runsL
  rw [List.length_append, numsL_length, numsL_length]
  have h1 := rl_length f n
  have h2 : ((rl f n).flatMap fun p => [p.1, p.2]).length = 2 * (rl f n).length := pairs2_length (rl f n)
  rw [h2]
  simp only [List.length_cons, List.length_nil]
  omega
theorem stsdL_len {T : Tr} (h : LT T) : (stsdL T).length ≤ 5100 := by
  have hc := h.c
  unfold stsdL
  simp only [bytesT]
  rw [List.length_append, numsL_length, boxP_length]
  have : (descL T).length = 8 + T.nC := by unfold descL; rw [List.length_append, List.length_append, cfL_length]; simp
  rw [this]
  have : nCrsd.size = 4 := rfl
  simp only [List.length_cons, List.length_nil]
  omega
theorem stbl_len {T : Tr} (h : LT T) (first : Int) : (catN (fun i => bytesT (stbl T first i)) 7).length ≤ 7000 := by
  have h0 := stsdL_len h
  have h1 := runsL_le (fun i => (T.S i).dur) T.nS
  have h2 := runsL_le (fun i => (T.S i).shift) T.nS
  have h3 := syncL_length T.S T.nS
  have h4 := sizeL_length T.S T.nS
  have h5 := placeL_length T.S first T.nS
  have hs := h.s
  simp only [catN, List.nil_append, List.length_append, stbl]
  simp only [if_true, if_false, show ¬ (1 : Nat) = 0 by decide, show ¬ (2 : Nat) = 0 by decide, show ¬ (2 : Nat) = 1 by decide, show ¬ (3 : Nat) = 0 by decide, show ¬ (3 : Nat) = 1 by decide, show ¬ (3 : Nat) = 2 by decide, show ¬ (4 : Nat) = 0 by decide, show ¬ (4 : Nat) = 1 by decide, show ¬ (4 : Nat) = 2 by decide, show ¬ (4 : Nat) = 3 by decide, show ¬ (5 : Nat) = 0 by decide, show ¬ (5 : Nat) = 1 by decide, show ¬ (5 : Nat) = 2 by decide, show ¬ (5 : Nat) = 3 by decide, show ¬ (5 : Nat) = 4 by decide, show ¬ (6 : Nat) = 0 by decide, show ¬ (6 : Nat) = 1 by decide, show ¬ (6 : Nat) = 2 by decide, show ¬ (6 : Nat) = 3 by decide, show ¬ (6 : Nat) = 4 by decide, show ¬ (6 : Nat) = 5 by decide]
  simp only [bytesT, boxP_length]
  simp only [stssL, stszL, stcoL, List.length_append, numsL_length, List.length_cons, List.length_nil, chunkL_length]
  simp only [show nStsd.size = 4 from rfl, show nStts.size = 4 from rfl, show nCtts.size = 4 from rfl, show nStss.size = 4 from rfl, show nStsz.size = 4 from rfl, show nStsc.size = 4 from rfl, show nStco.size = 4 from rfl]
  omega
theorem mdia_len {T : Tr} (h : LT T) (first : Int) : (bytesT (mdiaT T first)).length ≤ 7300 := by
  have h0 := stbl_len h first
  have hh := h.h
  simp only [mdiaT, minfT, bytesT, boxP_length, catN, List.nil_append, List.length_append, if_true, if_false, show ¬ (1 : Nat) = 0 by decide, show ¬ (2 : Nat) = 0 by decide, show ¬ (2 : Nat) = 1 by decide]
  simp only [mdhdL, hdlrL, List.length_append, List.length_nil, zs_length, numsL_length, strB_length, List.length_cons]
  simp only [show nMdhd.size = 4 from rfl, show nHdlr.size = 4 from rfl, show nMinf.size = 4 from rfl, show nStbl.size = 4 from rfl, show nMdia.size = 4 from rfl]
  simp only [catN, List.nil_append, List.length_append] at h0
  omega
theorem trak_len {T : Tr} (h : LT T) (k first : Int) : (bytesT (trakT T k first)).length ≤ 9000 := by
  have h0 := mdia_len h first
  have he := h.e
  have hd := edL_length T.E T.nE
  unfold trakT
  split
  · simp only [bytesT, boxP_length, catN, List.nil_append, List.length_append, if_true, if_false, show ¬ (1 : Nat) = 0 by decide, show ¬ (2 : Nat) = 0 by decide, show ¬ (2 : Nat) = 1 by decide]
    simp only [edtsT, bytesT, boxP_length, catN, List.nil_append, List.length_append, numsL_length, hd, List.length_cons, List.length_nil]
    simp only [tkhdL, List.length_append, List.length_cons, List.length_nil, zs_length, numsL_length, matL_length]
    simp only [show nTkhd.size = 4 from rfl, show nEdts.size = 4 from rfl, show nElst.size = 4 from rfl, show nTrak.size = 4 from rfl]
    omega
  · simp only [bytesT, boxP_length, catN, List.nil_append, List.length_append, if_true, if_false, show ¬ (1 : Nat) = 0 by decide]
    simp only [tkhdL, List.length_append, List.length_cons, List.length_nil, zs_length, numsL_length, matL_length]
    simp only [show nTkhd.size = 4 from rfl, show nTrak.size = 4 from rfl]
    omega
theorem catN_bd {f : Nat → List Int} {m : Nat} : ∀ n, (∀ i, i < n → (f i).length ≤ m) → (catN f n).length ≤ n * m
  | 0, _ => by simp [catN]
  | n + 1, h => by
    have h1 := catN_bd n (fun i hi => h i (by omega))
    have h2 := h n (by omega)
    simp only [catN, List.length_append]
    rw [Nat.succ_mul]
    omega
theorem moov_len {F : Fl} (hn : F.nT ≤ 6) (h : ∀ i, i < F.nT → LT (F.T i)) (first : Int) : (bytesT (moovT F first)).length ≤ 70000 := by
  have h1 := catN_bd (f := fun i => bytesT (moovP F first i)) (m := 9000) (F.nT + 1) (fun i hi => by
    by_cases h0 : i = 0
    · subst h0
      simp only [moovP, if_true, bytesT, boxP_length, mvhdL, List.length_append, List.length_nil, List.length_cons, zs_length, numsL_length, matL_length, show nMvhd.size = 4 from rfl]
      omega
    · simp only [moovP, h0, if_false]
      exact trak_len (h (i - 1) (by omega)) _ _)
  have h2 : (F.nT + 1) * 9000 ≤ 63000 := by omega
  simp only [moovT, bytesT, boxP_length]
  have : nMoov.size = 4 := rfl
  omega
theorem small_leaf (nm : ByteArray) (d : List Int) : small (.leaf nm d) := trivial
theorem stbl_small (T : Tr) (first : Int) (i : Nat) : small (stbl T first i) := by
  unfold stbl
  repeat' split
  all_goals trivial
theorem trak_small (T : Tr) (k first : Int) : small (trakT T k first) := by
  have hm : small (mdiaT T first) := ⟨by decide, fun i _ => by
    dsimp only
    split
    · trivial
    · split
      · trivial
      · exact ⟨by decide, fun j _ => ⟨by decide, fun q _ => stbl_small T first q⟩⟩⟩
  unfold trakT
  split
  · refine ⟨by decide, fun i _ => ?_⟩
    dsimp only
    split
    · trivial
    · split
      · exact ⟨by decide, fun _ _ => trivial⟩
      · exact hm
  · refine ⟨by decide, fun i _ => ?_⟩
    dsimp only
    split
    · trivial
    · exact hm
theorem moov_small {F : Fl} (hn : F.nT ≤ 6) (first : Int) : small (moovT F first) := ⟨by omega, fun i _ => by
  unfold moovP
  split
  · trivial
  · exact trak_small _ _ _⟩
end Go.Proofs.Ytkhjkemllgjfmaa

/- The bytes of a track's tree as the reference writes them: boxes of joined lists. -/
namespace Go.Proofs.Ytkhjkemllgjfmaa
open Go.RowKit
set_option linter.unusedVariables false
set_option linter.unusedSimpArgs false

def rstblL (T : Tr) (first : Int) : List Int := boxL nStbl [boxL nStsd [confL (cfL T)].flatten, boxL nStts [runsL (fun i => (T.S i).dur) T.nS].flatten, boxL nCtts [runsL (fun i => (T.S i).shift) T.nS].flatten,
  boxL nStss [numsL [0, ((syncL T.S T.nS).length : Int)], numsL (syncL T.S T.nS)].flatten, boxL nStsz [numsL [0, 0, (T.nS : Int)] ++ numsL (sizeL T.S T.nS)].flatten, boxL nStsc [chunkL].flatten, boxL nStco [numsL [0, (T.nS : Int)] ++ numsL (placeL T.S first T.nS)].flatten].flatten
theorem cat1 (f : Nat → List Int) : catN f 1 = f 0 := by simp [catN]
theorem cat2 (f : Nat → List Int) : catN f 2 = [f 0, f 1].flatten := by simp [catN]
theorem cat3 (f : Nat → List Int) : catN f 3 = [f 0, f 1, f 2].flatten := by simp [catN]
theorem cat7 (f : Nat → List Int) : catN f 7 = [f 0, f 1, f 2, f 3, f 4, f 5, f 6].flatten := by simp [catN]
theorem flat1 (l : List Int) : [l].flatten = l := by simp
theorem stbl_ref (T : Tr) (first : Int) : bytesT (.group nStbl 7 (stbl T first)) = rstblL T first := by
  have e0 : bytesT (stbl T first 0) = boxL nStsd [confL (cfL T)].flatten := by
    rw [flat1]
    show boxP nStsd (stsdL T) = _
    rw [boxP_four _ _ rfl]
    congr 1
  have e1 : bytesT (stbl T first 1) = boxL nStts [runsL (fun i => (T.S i).dur) T.nS].flatten := by
    rw [flat1]; exact boxP_four _ _ rfl
  have e2 : bytesT (stbl T first 2) = boxL nCtts [runsL (fun i => (T.S i).shift) T.nS].flatten := by
    rw [flat1]; exact boxP_four _ _ rfl
  have e3 : bytesT (stbl T first 3) = boxL nStss [numsL [0, ((syncL T.S T.nS).length : Int)], numsL (syncL T.S T.nS)].flatten := by
    show boxP nStss (stssL T) = _
    rw [boxP_four _ _ rfl]; unfold stssL; simp
  have e4 : bytesT (stbl T first 4) = boxL nStsz [numsL [0, 0, (T.nS : Int)] ++ numsL (sizeL T.S T.nS)].flatten := by
    rw [flat1]
    show boxP nStsz (stszL T) = _
    rw [boxP_four _ _ rfl]; unfold stszL; rw [sizeL_length]
  have e5 : bytesT (stbl T first 5) = boxL nStsc [chunkL].flatten := by
    rw [flat1]; exact boxP_four _ _ rfl
  have e6 : bytesT (stbl T first 6) = boxL nStco [numsL [0, (T.nS : Int)] ++ numsL (placeL T.S first T.nS)].flatten := by
    rw [flat1]
    show boxP nStco (stcoL T first) = _
    rw [boxP_four _ _ rfl]; unfold stcoL; rw [placeL_length]
  simp only [bytesT]
  rw [boxP_four _ _ rfl, cat7, e0, e1, e2, e3, e4, e5, e6]
  rfl
def rmdiaL (T : Tr) (first : Int) : List Int := boxL nMdia [boxL nMdhd (mdhdL T), boxL nHdlr (hdlrL T), boxL nMinf [rstblL T first].flatten].flatten
theorem mdia_ref (T : Tr) (first : Int) : bytesT (mdiaT T first) = rmdiaL T first := by
  unfold mdiaT rmdiaL
  simp only [bytesT]
  rw [boxP_four _ _ rfl, cat3]
  have e0 : bytesT (.leaf nMdhd (mdhdL T)) = boxL nMdhd (mdhdL T) := boxP_four _ _ rfl
  have e1 : bytesT (.leaf nHdlr (hdlrL T)) = boxL nHdlr (hdlrL T) := boxP_four _ _ rfl
  have e2 : bytesT (minfT T first) = boxL nMinf [rstblL T first].flatten := by
    unfold minfT
    rw [flat1, ← stbl_ref]
    simp only [bytesT]
    rw [boxP_four nMinf _ rfl, cat1]
  simp only [show ¬ (1 : Nat) = 0 by decide, show ¬ (2 : Nat) = 0 by decide, show ¬ (2 : Nat) = 1 by decide, if_true, if_false]
  rw [e0, e1, e2]
def rtrakL (T : Tr) (k first : Int) : List Int :=
  if T.nE = 0 then boxL nTrak [boxL nTkhd (tkhdL k), rmdiaL T first].flatten
  else boxL nTrak [boxL nTkhd (tkhdL k), boxL nEdts [boxL nElst [numsL [0, (T.nE : Int)] ++ edL T.E T.nE].flatten].flatten, rmdiaL T first].flatten
theorem trak_ref (T : Tr) (k first : Int) : bytesT (trakT T k first) = rtrakL T k first := by
  have e0 : bytesT (.leaf nTkhd (tkhdL k)) = boxL nTkhd (tkhdL k) := boxP_four _ _ rfl
  have e1 : bytesT (edtsT T) = boxL nEdts [boxL nElst [numsL [0, (T.nE : Int)] ++ edL T.E T.nE].flatten].flatten := by
    unfold edtsT
    rw [flat1, flat1]
    simp only [bytesT]
    rw [boxP_four nEdts _ rfl, cat1, boxP_four _ _ rfl]
  unfold trakT rtrakL
  by_cases h : T.nE = 0
  · rw [if_neg (by omega), if_pos h]
    simp only [bytesT]
    rw [boxP_four _ _ rfl, cat2]
    simp only [show ¬ (1 : Nat) = 0 by decide, if_true, if_false]
    rw [e0, mdia_ref]
  · rw [if_pos (by omega), if_neg h]
    simp only [bytesT]
    rw [boxP_four _ _ rfl, cat3]
    simp only [show ¬ (1 : Nat) = 0 by decide, show ¬ (2 : Nat) = 0 by decide, show ¬ (2 : Nat) = 1 by decide, if_true, if_false]
    rw [e0, e1, mdia_ref]
/-- The movie as the reference writes it: the head's box, then each track's bytes. -/
def rmoovL (F : Fl) (first : Int) : List Int := boxL nMoov [boxL nMvhd (mvhdL F) ++ catN (fun i => rtrakL (F.T i) ((i : Int) + 1) (first + (offN F.T i : Nat))) F.nT].flatten
theorem catN_head (f : Nat → List Int) : ∀ n, catN f (n + 1) = f 0 ++ catN (fun i => f (i + 1)) n
  | 0 => by simp [catN]
  | n + 1 => by
    show catN f (n + 1) ++ f (n + 1) = _
    rw [catN_head f n]
    simp [catN]
theorem moov_ref (F : Fl) (first : Int) : bytesT (moovT F first) = rmoovL F first := by
  unfold moovT rmoovL
  simp only [bytesT]
  rw [boxP_four nMoov _ rfl, flat1, catN_head]
  have e0 : bytesT (moovP F first 0) = boxL nMvhd (mvhdL F) := by
    show boxP nMvhd (mvhdL F) = _
    exact boxP_four _ _ rfl
  have e1 : (fun i => bytesT (moovP F first (i + 1))) = fun i => rtrakL (F.T i) ((i : Int) + 1) (first + (offN F.T i : Nat)) := by
    funext i
    unfold moovP
    rw [if_neg (by omega), trak_ref]
    simp
  rw [e0, e1]
end Go.Proofs.Ytkhjkemllgjfmaa
