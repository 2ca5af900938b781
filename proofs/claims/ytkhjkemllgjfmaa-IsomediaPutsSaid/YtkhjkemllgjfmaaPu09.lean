/- Texts of this claim joined: ZF. -/
import Derived.Deep.CutRange
import Derived.Test.YtkhjkemllgjfmaaPu06
import Derived.Test.YtkhjkemllgjfmaaPu08
set_option linter.unusedVariables false
set_option linter.unusedSimpArgs false

/- The contract of the reference's track. -/
namespace Go.Proofs.Ytkhjkemllgjfmaa
open Go.RowKit
set_option linter.unusedVariables false
set_option linter.unusedSimpArgs false

def GGL (B : Nat) (gd : Nat → Gd) (i lo hi : Nat) (v : Value) (w : World) : Prop := (gd i).ok B v w ∧ ∀ g, v.ownBlock = some g → lo ≤ g ∧ g < hi
theorem GGL.ext {B : Nat} {gd : Nat → Gd} (i lo hi : Nat) (v : Value) (w w' : World) (h : GGL B gd i lo hi v w) (hb : Plan.Ext w w') : GGL B gd i lo hi v w' := ⟨Gd.ext h.1 hb, h.2⟩
theorem GGL.own {w w' : World} {B : Nat} {L : List Int} {v : Value} (h : Own w' w.heap.size v L) (hB : B ≤ w.heap.size) : (Gd.own L).ok B v w' ∧ ∀ g, v.ownBlock = some g → w.heap.size ≤ g ∧ g < w'.heap.size :=
  ⟨h.mono hB, fun g hg => owns_lt2 h hg⟩
theorem GGL.ints {w w' : World} {B : Nat} {L : List Int} {v : Value} (h : IL w' v L) (hf : ∀ g, v.ownBlock = some g → w.heap.size ≤ g ∧ g < w'.heap.size) : (Gd.ints L).ok B v w' ∧ ∀ g, v.ownBlock = some g → w.heap.size ≤ g ∧ g < w'.heap.size := ⟨h, hf⟩
theorem Gr.nilI (w : World) (B : Nat) : (Gr.i []).ok w B (.slice none 0 0) := owns_nil w B 2 1
def durL (S : Nat → Sm) (k : Nat) : List Int := (List.range k).map fun i => (S i).dur
def shiftL (S : Nat → Sm) (k : Nat) : List Int := (List.range k).map fun i => (S i).shift
theorem durL_succ (S : Nat → Sm) (k : Nat) : durL S (k + 1) = durL S k ++ [(S k).dur] := by simp [durL, List.range_succ]
theorem shiftL_succ (S : Nat → Sm) (k : Nat) : shiftL S (k + 1) = shiftL S k ++ [(S k).shift] := by simp [shiftL, List.range_succ]
theorem durL_length (S : Nat → Sm) (k : Nat) : (durL S k).length = k := by simp [durL]
theorem shiftL_length (S : Nat → Sm) (k : Nat) : (shiftL S k).length = k := by simp [shiftL]
theorem boxL_length (nm : ByteArray) (d : List Int) (h : nm.size = 4) : (boxL nm d).length = d.length + 8 := by simp [boxL, num4, strB_length, h]; omega
theorem OwnI.IL' {w : World} {B : Nat} {v : Value} {L : List Int} (h : (Gr.i L).ok w B v) : IL w v L := OwnI.il h
theorem Own.BL' {w : World} {B : Nat} {v : Value} {L : List Int} (h : (Gr.b L).ok w B v) : BL w v L := Own.bl h
theorem nf_of_il {w : World} {v : Value} {n : Nat} {f : Nat → Int} (h : IL w v ((List.range n).map f)) : NF w v n f := by
  obtain ⟨ao, c, rfl, hc, H⟩ := h
  refine ⟨ao, c, by simp, by simpa using hc, fun i hi => ?_⟩
  exact H i (f i) (by simp [hi])
/-- Five rows that tables are collected in. -/
def five (S : Nat → Sm) (n : Nat) (first : Int) (k : Nat) (v7 v8 v9 v10 v11 : Value) : List (Value × Gr) :=
  [(v7, .i (durL S k)), (v8, .i (shiftL S k)), (v9, .b (numsL (syncL S k))), (v10, .b (numsL [0, 0, (n : Int)] ++ numsL (sizeL S k))), (v11, .b (numsL [0, (n : Int)] ++ numsL (placeL S first k)))]
def r2Gd (n : Nat) : Nat → Gd
  | 0 => .own [] | 4 => .ints [0, 0, (n : Int)] | 5 => .own (numsL [0, 0, (n : Int)]) | 9 => .ints [0, (n : Int)] | 10 => .own (numsL [0, (n : Int)]) | _ => .any
def r2S : List (Nat × Tmp) := [(0, 20), (4, 24), (5, 25), (9, 29), (10, 30)]
theorem fam_start {w : World} {B : Nat} {S : Nat → Sm} {n : Nat} {first : Int} {a b c : Value} (h0 : Own w B a []) (h5 : Own w B b (numsL [0, 0, (n : Int)])) (h10 : Own w B c (numsL [0, (n : Int)]))
    (d1 : ∀ g, a.ownBlock = some g → b.ownBlock ≠ some g) (d2 : ∀ g, a.ownBlock = some g → c.ownBlock ≠ some g) (d3 : ∀ g, b.ownBlock = some g → c.ownBlock ≠ some g) :
    Fam w B (five S n first 0 (.slice none 0 0) (.slice none 0 0) a b c) := by
  refine ⟨fun k p hk => ?_, fun i j p q hi hj hne g hg => ?_⟩
  · have : k < 5 := (List.getElem?_eq_some_iff.1 hk).1
    rcases (show k = 0 ∨ k = 1 ∨ k = 2 ∨ k = 3 ∨ k = 4 by omega) with rfl | rfl | rfl | rfl | rfl <;> simp only [five, List.getElem?_cons_zero, List.getElem?_cons_succ, Option.some.injEq] at hk <;> subst hk
    · exact Gr.nilI w B
    · exact Gr.nilI w B
    · exact h0
    · show Own w B b (numsL [0, 0, (n : Int)] ++ numsL [])
      rw [show numsL [] = [] from rfl, List.append_nil]; exact h5
    · show Own w B c (numsL [0, (n : Int)] ++ numsL [])
      rw [show numsL [] = [] from rfl, List.append_nil]; exact h10
  · have h1 : i < 5 := (List.getElem?_eq_some_iff.1 hi).1
    have h2 : j < 5 := (List.getElem?_eq_some_iff.1 hj).1
    have e : ∀ (x y : Value), (∀ g, x.ownBlock = some g → y.ownBlock ≠ some g) → ∀ g, y.ownBlock = some g → x.ownBlock ≠ some g := fun x y h g hy hx => h g hx hy
    rcases (show i = 0 ∨ i = 1 ∨ i = 2 ∨ i = 3 ∨ i = 4 by omega) with rfl | rfl | rfl | rfl | rfl <;> rcases (show j = 0 ∨ j = 1 ∨ j = 2 ∨ j = 3 ∨ j = 4 by omega) with rfl | rfl | rfl | rfl | rfl <;>
      simp only [five, List.getElem?_cons_zero, List.getElem?_cons_succ, Option.some.injEq] at hi hj <;> subst hi <;> subst hj <;>
      first | exact absurd rfl hne | cases hg; done | exact d1 g hg | exact d2 g hg | exact d3 g hg | exact e _ _ d1 g hg | exact e _ _ d2 g hg | exact e _ _ d3 g hg | (intro h; cases h; done)

def fam5 (v7 : Value) (L7 : List Int) (v8 : Value) (L8 : List Int) (v9 : Value) (L9 : List Int) (v10 : Value) (L10 : List Int) (v11 : Value) (L11 : List Int) : List (Value × Gr) :=
  [(v7, .i L7), (v8, .i L8), (v9, .b L9), (v10, .b L10), (v11, .b L11)]
theorem C4.grown {w w' : World} {b : Nat} {c0 c1 c2 c3 : Value} {p : Option Nat} (h : C4 w b c0 c1 c2 c3) (hg : w.grownBy w' p) (hp : ∀ g, p = some g → g < b) : C4 w' b c0 c1 c2 c3 := by
  have hb : w'.heap[b]? = w.heap[b]? := hg.block b h.lt (fun e => by have := hp b e.symm; omega)
  exact ⟨(World.cell?_of_block (a := ⟨b, 0, none⟩) hb).trans h.k0, (World.cell?_of_block (a := ⟨b, 1, none⟩) hb).trans h.k1, (World.cell?_of_block (a := ⟨b, 2, none⟩) hb).trans h.k2, (World.cell?_of_block (a := ⟨b, 3, none⟩) hb).trans h.k3⟩
theorem gr_up {w w' : World} {B : Nat} {v : Value} {d : Gr} (h : d.ok w B v) (hB : B ≤ w.heap.size) (hg : w.grownBy w' v.ownBlock) : Below B w w' :=
  ⟨hg.os, hg.tape, hg.output, hg.size, fun k hk => hg.block k (by omega) (fun e => by have := (Gr.lt h e.symm).1; omega)⟩
def low (v : Value) (gs : Nat) : Prop := ∀ g, v.ownBlock = some g → g < gs
theorem Fam.low {w : World} {B : Nat} {l : List (Value × Gr)} (h : Fam w B l) (j : Nat) (v : Value) (d : Gr) (hj : l[j]? = some (v, d)) : low v w.heap.size := fun g hg => (Gr.lt (h.1 j _ hj) hg).2
theorem keep_cell {w w' : World} {p : Option Nat} {gs q : Nat} {x : Value} (hg : w.grownBy w' p) (hp : ∀ g, p = some g → g < gs) (hq : gs ≤ q) (h : w.cell? ⟨q, 0, none⟩ = some x) : w'.cell? ⟨q, 0, none⟩ = some x :=
  (World.cell?_of_block (a := ⟨q, 0, none⟩) (hg.block q (block_lt_of_cell h) (fun e => by have := hp q e.symm; omega))).trans h
theorem fam_addI {w : World} {ops : Array Oper} {rest : List Oper} {o : Oper} {a : Act} {Q : Exit → Act → World → Prop} (hgd : o.guard = none) (s x : Operand)
    (ho : o.op = .call { callee := .builtin .append, args := #[s, x], argTypes := #[51, 51] }) (B gs : Nat) (c0 c1 c2 c3 : Value) (l : List (Value × Gr)) (j : Nat) (v : Value) (L : List Int) (hs : a.eval s = v) (hj : l[j]? = some (v, .i L)) (hF : Fam w B l) (hC : C4 w gs c0 c1 c2 c3) (hl : low v gs)
    (b cx : Nat) (m : Int) (hx : a.eval x = .slice (some ⟨b, 0, none⟩) 1 cx) (hM : w.cell? ⟨b, 0, none⟩ = some (.int .i64 m)) (hk : L.length + 1 ≤ 100000000) (hB : B ≤ w.heap.size)
    (h : ∀ v' w', Fam w' B (l.set j (v', .i (L ++ [m]))) → C4 w' gs c0 c1 c2 c3 → Below B w w' → w.grownBy w' v.ownBlock → wpList Try.prog ops Q rest (a.put o.dst v') w') : wpList Try.prog ops Q (o :: rest) a w :=
  wpList_addI w hgd s x ho B v L hs (hF.1 j _ hj) b cx m hx hM hk hB fun v' w' h1 h2 => h v' w' (hF.step (d' := .i (L ++ [m])) hj h1 h2) (hC.grown h2.g hl) (gr_up (hF.1 j _ hj) hB h2.g) h2.g
theorem fam_addB {w : World} {ops : Array Oper} {rest : List Oper} {o : Oper} {a : Act} {Q : Exit → Act → World → Prop} (hgd : o.guard = none) (s x : Operand)
    (ho : o.op = .call { callee := .builtin .append, args := #[s, x], argTypes := #[22, 22] }) (B gs : Nat) (c0 c1 c2 c3 : Value) (l : List (Value × Gr)) (j : Nat) (v : Value) (L : List Int) (hs : a.eval s = v) (hj : l[j]? = some (v, .b L)) (hF : Fam w B l) (hC : C4 w gs c0 c1 c2 c3) (hl : low v gs)
    (vx : Value) (M : List Int) (hx : a.eval x = vx) (hM : BL w vx M) (hk : L.length + M.length ≤ 100000000) (hB : B ≤ w.heap.size)
    (h : ∀ v' w', Fam w' B (l.set j (v', .b (L ++ M))) → C4 w' gs c0 c1 c2 c3 → Below B w w' → wpList Try.prog ops Q rest (a.put o.dst v') w') : wpList Try.prog ops Q (o :: rest) a w :=
  wpList_adv w hgd s x ho B v vx L M hs (hF.1 j _ hj) hx hM hk hB fun v' w' h1 h2 => h v' w' (hF.step (d' := .b (L ++ M)) hj h1 h2.toAdv0) (hC.grown h2.g hl) (gr_up (hF.1 j _ hj) hB h2.g)

def r14Gd (T : Tr) (bl : List Int) : Nat → Gd
  | 0 => .bytes (List.replicate 12 0) | 3 => .ints [T.sc, 0] | 4 => .bytes (numsL [T.sc, 0]) | 5 => .bytes [85, 196, 0, 0] | 6 => .rows [List.replicate 12 0, numsL [T.sc, 0], [85, 196, 0, 0]] | 7 => .bytes (boxL nMdhd (mdhdL T))
  | 8 => .bytes (List.replicate 8 0) | 11 => .bytes (strB T.h) | 12 => .bytes (List.replicate 13 0) | 13 => .rows [List.replicate 8 0, strB T.h, List.replicate 13 0] | 14 => .bytes (boxL nHdlr (hdlrL T))
  | 16 => .rows [bl] | 17 => .bytes (boxL nMinf bl) | 18 => .rows [boxL nMdhd (mdhdL T), boxL nHdlr (hdlrL T), boxL nMinf bl]
  | 19 => .bytes (boxL nMdia [boxL nMdhd (mdhdL T), boxL nHdlr (hdlrL T), boxL nMinf bl].flatten) | _ => .any
def r14S : List (Nat × Tmp) := [(0, 107), (3, 110), (4, 111), (5, 112), (6, 113), (7, 114), (8, 115), (11, 118), (12, 119), (13, 120), (14, 121), (16, 123), (17, 124), (18, 125), (19, 126)]
theorem mdhd3 (T : Tr) : [List.replicate 12 0, numsL [T.sc, 0], [85, 196, 0, 0]].flatten = mdhdL T := by simp [mdhdL, zs]
theorem hdlr3 (T : Tr) : [List.replicate 8 0, strB T.h, List.replicate 13 0].flatten = hdlrL T := by simp [hdlrL, zs]
theorem mdhd_len (T : Tr) : (mdhdL T).length = 24 := by rw [← mdhd3]; simp [numsL_length]
theorem hdlr_len (T : Tr) : (hdlrL T).length = 21 + T.h.size := by rw [← hdlr3]; simp [strB_length]; omega

set_option maxRecDepth 100000 in
set_option maxHeartbeats 4000000 in
theorem rtrack_any (v : Value) (T : Tr) (k0 first : Int) (w : World) (hv : TA w v T) (hL : LT T) (hk0 : 0 ≤ k0) (hk1 : k0 ≤ 100) (hf0 : 0 ≤ first) (hf1 : first ≤ 4000000) :
    Calls Try.prog 59 #[v, .int .i64 k0, .int .i64 first] w fun e w' => ∃ r, e = .returned r ∧ Own w' w.heap.size r (rtrakL T (k0 + 1) first) ∧ Below w.heap.size w w' := by
  have HV0 := Lib.hid hv
  obtain ⟨c0, c1, c2, c3, c4, rfl, rfl, rfl, b2, b3, b4⟩ := hv
  obtain ⟨a2, d2, rfl⟩ := b2.shape
  obtain ⟨a3, d3, rfl⟩ := b3.shape
  obtain ⟨a4, d4, rfl⟩ := b4.shape
  have HS3 := Lib.hid b3
  have HC2 := Lib.hid (BA.bl (s := ⟨T.nC, T.C, 0, 0, false⟩) b2)
  have HE4 := Lib.hid b4
  have hnS := hL.s
  have HLT := Lib.hid hL
  clear b2 b3 b4 hL
  go_enter Try.func59, Try.ntmps59
  go_upto_region 2 with fail
  obtain ⟨w1, hw1⟩ : ∃ x, x = w.alloc (.cells #[.string T.h, .int .i64 T.sc, .slice a2 T.nC d2, .slice a3 T.nS d3, .slice a4 T.nE d4] 48) := ⟨_, rfl⟩
  rw [← hw1]
  obtain ⟨gt, hgt⟩ : ∃ g, g = w.heap.size := ⟨_, rfl⟩
  have hE1 : Below w.heap.size w w1 := by rw [hw1]; exact below_box _ _
  have hx : C5 w1 gt (.string T.h) (.int .i64 T.sc) (.slice a2 T.nC d2) (.slice a3 T.nS d3) (.slice a4 T.nE d4) := by rw [hw1, hgt]; constructor <;> simp [go_sem]
  rw [← hgt]
  have hz1 : w.heap.size < w1.heap.size := by have := hx.lt; omega
  have hgtl : gt < w1.heap.size := hx.lt
  have HB1 := Lib.hid hE1
  have HX := Lib.hid hx
  clear hw1 hE1 hgt hx
  go_cut [9, 10, 11] from 20 to 30 (fun a b c wx => Fam wx w1.heap.size (five T.S T.nS first 0 (.slice none 0 0) (.slice none 0 0) a b c) ∧ Below w1.heap.size w1 wx)
  case first =>
    refine Plan.wp_region_fresh (fun w' => Below w1.heap.size w1 w') 13 (GGL w1.heap.size (r2Gd T.nS)) ([1, 2, 3, 6, 7, 8].map (·, true)) r2S ([11, 12, 13].map (·, false)) 186 (by kernel_rfl) (by kernel_rfl) (by kernel_rfl) (Below.refl _ _).drew (fun wa wb ha hb => ha.trans (hb.mono ha.size)) GGL.ext ?_
    refine' Plan.plan_seg _ [1, 2, 3, 6, 7, 8] [] (by kernel_rfl) (by kernel_rfl) rfl (by exact (Below.refl _ _).drew) (fun wx hS => ?_) ?_
    rotate_left
    · have y3 := (HX.out.below hS).k3
      clear hS
      go_light
      iterate 6 (apply Plan.seg_pick; rfl; intro K hK; go_wp)
      exact Plan.seg_nil
    refine Plan.plan_nil ?_
    refine Plan.fresh_at_gen (fun A => A.tmps.size = 186 ∧ A.tmps[23]? = some (.int .i64 (T.nS : Int)) ∧ A.tmps[28]? = some (.int .i64 (T.nS : Int))) ⟨rfl, rfl, rfl⟩ rfl (fun A hA => ?_) ?_
    · obtain ⟨hsz, e23, e28⟩ := hA
      intro p hp o ho vs wx lo hi hS hE hG K hK
      have hSz : w1.heap.size ≤ wx.heap.size := hS.size
      simp only [r2S, List.mem_cons, List.not_mem_nil, or_false] at hp
      rcases hp with rfl | rfl | rfl | rfl | rfl
      all_goals obtain rfl := Option.some.inj ho
      · exact step_nums rfl (.const (.slice none 0 0)) #[51] rfl (.slice none 0 0) [] rfl (IL.nil wx) (by simp) (fun r w' hR hB => hK _ _ (GGL.own hR hSz) hB)
      · have t23 : (Plan.puts vs r2S A).eval (.tmp 23) = .int .i64 (T.nS : Int) := by rw [Plan.eval_out (by decide)]; simp [Act.eval, Array.getD_eq_getD_getElem?, e23]
        exact step_ints3 rfl (.const (.int .i64 0)) (.const (.int .i64 0)) (.tmp 23) rfl 0 0 (T.nS : Int) rfl rfl t23 (fun r w' hR hB hf => hK _ _ (GGL.ints hR hf) hB)
      · have h4 := (hG (4, 24) (by decide) (by decide)).1
        have t4 : (Plan.puts vs r2S A).eval (.tmp 24) = vs 4 := Plan.eval_in (i := 4) (by decide) (by decide) (by rw [hsz]; decide)
        exact step_nums rfl (.tmp 24) #[51] rfl (vs 4) [0, 0, (T.nS : Int)] t4 h4 (by simp) (fun r w' hR hB => hK _ _ (GGL.own hR hSz) hB)
      · have t28 : (Plan.puts vs r2S A).eval (.tmp 28) = .int .i64 (T.nS : Int) := by rw [Plan.eval_out (by decide)]; simp [Act.eval, Array.getD_eq_getD_getElem?, e28]
        exact step_ints2 rfl (.const (.int .i64 0)) (.tmp 28) rfl 0 (T.nS : Int) rfl t28 (fun r w' hR hB hf => hK _ _ (GGL.ints hR hf) hB)
      · have h9 := (hG (9, 29) (by decide) (by decide)).1
        have t9 : (Plan.puts vs r2S A).eval (.tmp 29) = vs 9 := Plan.eval_in (i := 9) (by decide) (by decide) (by rw [hsz]; decide)
        exact step_nums rfl (.tmp 29) #[51] rfl (vs 9) [0, (T.nS : Int)] t9 h9 (by simp) (fun r w' hR hB => hK _ _ (GGL.own hR hSz) hB)
    · intro vs lo hi wx hS hE hall hap
      obtain ⟨⟨h0, f0⟩, _⟩ := hall (0, 20) (by decide)
      obtain ⟨⟨h5, f5⟩, _⟩ := hall (5, 25) (by decide)
      obtain ⟨⟨h10, f10⟩, _⟩ := hall (10, 30) (by decide)
      have p1 : hi 0 ≤ lo 5 ∨ hi 5 ≤ lo 0 := hap (0, 20) (by decide) (5, 25) (by decide) (by decide)
      have p2 : hi 0 ≤ lo 10 ∨ hi 10 ≤ lo 0 := hap (0, 20) (by decide) (10, 30) (by decide) (by decide)
      have p3 : hi 5 ≤ lo 10 ∨ hi 10 ≤ lo 5 := hap (5, 25) (by decide) (10, 30) (by decide) (by decide)
      replace f0 : ∀ g, (vs 0).ownBlock = some g → lo 0 ≤ g ∧ g < hi 0 := f0
      replace f5 : ∀ g, (vs 5).ownBlock = some g → lo 5 ≤ g ∧ g < hi 5 := f5
      replace f10 : ∀ g, (vs 10).ownBlock = some g → lo 10 ≤ g ∧ g < hi 10 := f10
      have HF := Lib.hid (fam_start (S := T.S) (n := T.nS) (first := first) (show Own wx w1.heap.size (vs 0) [] from h0) (show Own wx w1.heap.size (vs 5) (numsL [0, 0, (T.nS : Int)]) from h5) (show Own wx w1.heap.size (vs 10) (numsL [0, (T.nS : Int)]) from h10)
        (fun g hg h2 => by have := f0 g hg; have := f5 g h2; omega) (fun g hg h2 => by have := f0 g hg; have := f10 g h2; omega) (fun g hg h2 => by have := f5 g hg; have := f10 g h2; omega))
      have HS := Lib.hid hS
      simp only [r2S, Plan.puts]
      generalize vs 0 = u0 at *
      generalize vs 5 = u5 at *
      generalize vs 10 = u10 at *
      clear hall hap hE hS h0 h5 h10 f0 f5 f10 p1 p2 p3
      iterate 3
        refine Plan.plan_of_effect rfl (fun K hK => ?_)
        go_wp2_with fail
        refine ⟨HS.out, ?_⟩
      refine Plan.plan_done ?_
      go_wp2_with fail
      go_meet
      case rel => exact ⟨HF.out, HS.out⟩
  case rest =>
    obtain ⟨hF, hB⟩ := hcut
    have HF0 := Lib.hid hF
    have HB0 := Lib.hid hB
    clear hF hB
    go_wp2_with fail
    go_loopw [2, 7, 8, 9, 10, 11, 12, 13] (fun p v7 v8 v9 v10 v11 n i wr => ∃ k : Nat, k ≤ T.nS ∧ i = .int .i64 (k : Int) ∧ p = .int .i64 (first + (sizeN T.S k : Nat)) ∧ n = .int .i64 ((syncL T.S k).length : Nat) ∧ Fam wr w1.heap.size (five T.S T.nS first k v7 v8 v9 v10 v11) ∧ Below w1.heap.size w1 wr) (fun _ _ _ _ _ _ _ i _ => T.nS - (intOf i).toNat)
    case atStart => exact ⟨0, Nat.zero_le _, rfl, by simp [sizeN], rfl, HF0.out, HB0.out⟩
    case round =>
      obtain ⟨k, hk, rfl, rfl, rfl, hF, hB⟩ := hrel
      have HF := Lib.hid hF
      have HB := Lib.hid hB
      have hsr := hB.size
      have hww := HB1.out.trans (hB.mono (by omega))
      have HWW := Lib.hid hww
      have hx3 := (HX.out.below hB).k3
      clear hF hB HF0 HB0
      by_cases hlt : k < T.nS
      · obtain ⟨ao, c', e, hcc, H⟩ := HS3.out
        simp only [Value.slice.injEq, true_and] at e
        obtain ⟨rfl, rfl⟩ := e
        obtain ⟨b', o', x, rfl, h0, h1, h2, h3, hba⟩ := H k hlt
        obtain ⟨xa, xc, hxv⟩ : ∃ a c, x = .slice a (T.S k).n c := by obtain ⟨a, c, e, _⟩ := hba; exact ⟨a, c, e⟩
        subst hxv
        replace h0 := (hww.cell (block_lt_of_cell h0)).trans h0
        replace h1 := (hww.cell (block_lt_of_cell h1)).trans h1
        replace h2 := (hww.cell (block_lt_of_cell h2)).trans h2
        replace h3 := (hww.cell (block_lt_of_cell h3)).trans h3
        have hz := HLT.out.z
        have hzk := sizeN_mono T.S (show k + 1 ≤ T.nS by omega)
        obtain ⟨Z, hZ⟩ : ∃ Z, Z = sizeN T.S k := ⟨_, rfl⟩
        have hzz : sizeN T.S (k + 1) = Z + (T.S k).n := by rw [hZ]; rfl
        have hsl := syncL_length T.S k
        obtain ⟨m, hm⟩ : ∃ m, m = (syncL T.S k).length := ⟨_, rfl⟩
        rw [← hZ, ← hm]
        rw [← hm] at hsl
        rw [hzz] at hzk
        have HZ := Lib.hid hZ
        have HZZ := Lib.hid hzz
        have HM := Lib.hid hm
        clear H hba hww hZ hm hzz
        go_upto_region 8 with fail
        obtain ⟨ws, hws⟩ : ∃ x, x = wr.alloc (.cells #[.slice xa (T.S k).n xc, .int .i64 (T.S k).dur, .int .i64 (T.S k).shift, .bool (T.S k).sync] 73) := ⟨_, rfl⟩
        rw [← hws]
        obtain ⟨gs, hgs⟩ : ∃ g, g = wr.heap.size := ⟨_, rfl⟩
        have hbs : Below wr.heap.size wr ws := by rw [hws]; exact below_box _ _
        have hc4 : C4 ws gs (.slice xa (T.S k).n xc) (.int .i64 (T.S k).dur) (.int .i64 (T.S k).shift) (.bool (T.S k).sync) := by rw [hws, hgs]; constructor <;> simp [go_sem]
        obtain ⟨L7, hL7⟩ : ∃ L, L = durL T.S k := ⟨_, rfl⟩
        obtain ⟨L8, hL8⟩ : ∃ L, L = shiftL T.S k := ⟨_, rfl⟩
        obtain ⟨L9, hL9⟩ : ∃ L, L = numsL (syncL T.S k) := ⟨_, rfl⟩
        obtain ⟨L10, hL10⟩ : ∃ L, L = numsL [0, 0, (T.nS : Int)] ++ numsL (sizeL T.S k) := ⟨_, rfl⟩
        obtain ⟨L11, hL11⟩ : ∃ L, L = numsL [0, (T.nS : Int)] ++ numsL (placeL T.S first k) := ⟨_, rfl⟩
        have hF1 : Fam wr w1.heap.size (fam5 u7 L7 u8 L8 u9 L9 u10 L10 u11 L11) := by rw [hL7, hL8, hL9, hL10, hL11]; exact HF.out
        have HN7 := Lib.hid (show L7.length = k by rw [hL7, durL_length])
        have HN8 := Lib.hid (show L8.length = k by rw [hL8, shiftL_length])
        have HN9 := Lib.hid (show L9.length ≤ 4 * k by rw [hL9, numsL_length]; have := syncL_length T.S k; omega)
        have HN10 := Lib.hid (show L10.length = 12 + 4 * k by rw [hL10, List.length_append, numsL_length, numsL_length, sizeL_length]; rfl)
        have HN11 := Lib.hid (show L11.length = 8 + 4 * k by rw [hL11, List.length_append, numsL_length, numsL_length, placeL_length]; rfl)
        have HE7 := Lib.hid hL7
        have HE8 := Lib.hid hL8
        have HE9 := Lib.hid hL9
        have HE10 := Lib.hid hL10
        have HE11 := Lib.hid hL11
        have W7 := Lib.hid (show low u7 gs by rw [hgs]; exact hF1.low 0 _ _ rfl)
        have W8 := Lib.hid (show low u8 gs by rw [hgs]; exact hF1.low 1 _ _ rfl)
        have W9 := Lib.hid (show low u9 gs by rw [hgs]; exact hF1.low 2 _ _ rfl)
        have W10 := Lib.hid (show low u10 gs by rw [hgs]; exact hF1.low 3 _ _ rfl)
        have W11 := Lib.hid (show low u11 gs by rw [hgs]; exact hF1.low 4 _ _ rfl)
        rw [← hgs]
        have HC := Lib.hid hc4
        have HF1 := Lib.hid (hF1.below hbs)
        have HU := Lib.hid (HB.out.trans (hbs.mono hsr))
        have hsws := HU.out.size
        clear hws hgs hbs hc4 hL7 hL8 hL9 hL10 hL11 hF1 HF h0 h1 h2 h3 hx3 HWW HB hsr
        go_cut [7, 8] from 31 to 76 (fun a b wx => Fam wx w1.heap.size (fam5 a (L7 ++ [(T.S k).dur]) b (L8 ++ [(T.S k).shift]) u9 L9 u10 L10 u11 L11) ∧ C4 wx gs (.slice xa (T.S k).n xc) (.int .i64 (T.S k).dur) (.int .i64 (T.S k).shift) (.bool (T.S k).sync) ∧ Below w1.heap.size w1 wx)
        case first =>
          refine Plan.wp_region_tree (fun w' => C4 w' gs (.slice xa (T.S k).n xc) (.int .i64 (T.S k).dur) (.int .i64 (T.S k).shift) (.bool (T.S k).sync)) (.run ([0, 1, 2, 5, 6, 7].map (·, true)) (.fork 3 (.dyn (.fork 4 (.dyn (.run ([8, 9, 10, 11].map (·, false)) .leaf)) 8 (.dyn (.run ([4, 9, 10, 11].map (·, false)) .leaf)))) 8 (.dyn (.run ([3, 4, 9, 10, 11].map (·, false)) .leaf)))) (by kernel_rfl) (by kernel_rfl) (by kernel_rfl) (HC.out.below (Below.refl _ _).drew) ?_
          obtain ⟨y0, hy⟩ : ∃ x, x = ws.drew := ⟨_, rfl⟩
          rw [← hy]
          have hB_ : Below ws.heap.size ws y0 := by rw [hy]; exact (Below.refl _ _).drew
          have F0 := Lib.hid (HF1.out.below hB_)
          have C0 := Lib.hid (HC.out.below hB_)
          have U0 := Lib.hid (HU.out.trans (hB_.mono hsws))
          clear hy hB_
          refine Plan.tree_run ?_
          refine' Plan.plan_seg _ [0, 1, 2, 5, 6, 7] [] (by kernel_rfl) (by kernel_rfl) rfl (by exact C0.out) (fun wx hS => ?_) ?_
          rotate_left
          · have z1 := hS.k1
            have z2 := hS.k2
            clear hS
            go_light
            iterate 6 (apply Plan.seg_pick; rfl; intro K hK; go_wp)
            exact Plan.seg_nil
          refine Plan.plan_nil ?_
          refine Plan.tree_fork ?_ ?_
          · skip
            refine Plan.op_of_list rfl (fun K hK => ?_)
            go_wp2_with fail
            obtain ⟨y1, hy⟩ : ∃ x, x = y0.alloc (.cells #[.int .i64 (T.S k).dur] 2) := ⟨_, rfl⟩
            rw [← hy]
            obtain ⟨q3, hq⟩ : ∃ b, b = y0.heap.size := ⟨_, rfl⟩
            have hB_ : Below y0.heap.size y0 y1 := by rw [hy]; exact below_box _ _
            have hc_ : y1.cell? ⟨q3, 0, none⟩ = some (.int .i64 (T.S k).dur) := by rw [hy, hq]; simp [go_sem]
            have hgq3 : gs ≤ q3 := by rw [hq]; exact Nat.le_of_lt C0.out.lt
            rw [← hq]
            have hs_ := U0.out.size
            have F1 := Lib.hid (F0.out.below hB_)
            have C1 := Lib.hid (C0.out.below hB_)
            have U1 := Lib.hid (U0.out.trans (hB_.mono hs_))
            have X3_1 := Lib.hid hc_
            clear hy hq hB_ hc_ hs_
            refine ⟨C1.out, ?_⟩
            refine Plan.tree_dyn (fun w' => C4 w' gs (.slice xa (T.S k).n xc) (.int .i64 (T.S k).dur) (.int .i64 (T.S k).shift) (.bool (T.S k).sync)) (fun _ h => h) C1.out ?_
            refine Plan.tree_fork ?_ ?_
            · skip
              refine Plan.op_of_list rfl (fun K hK => ?_)
              have hs_ := U1.out.size
              refine fam_addI rfl (.tmp 43) (.tmp 46) rfl w1.heap.size gs _ _ _ _ _ 0 _ L7 rfl rfl F1.out C1.out W7.out q3 1 (T.S k).dur rfl X3_1.out (by have := HN7.out; omega) hs_ ?_
              intro v2 y2 f_ c_ u_ g_
              have F2 := Lib.hid (show Fam y2 w1.heap.size (fam5 v2 (L7 ++ [(T.S k).dur]) _ L8 _ L9 _ L10 _ L11) from f_)
              have C2 := Lib.hid c_
              have U2 := Lib.hid (U1.out.trans u_)
              clear f_ c_ u_ g_ hs_
              go_wp2_with fail
              refine ⟨C2.out, ?_⟩
              refine Plan.tree_dyn (fun w' => C4 w' gs (.slice xa (T.S k).n xc) (.int .i64 (T.S k).dur) (.int .i64 (T.S k).shift) (.bool (T.S k).sync)) (fun _ h => h) C2.out ?_
              refine Plan.tree_run ?_
              refine Plan.plan_of_effect rfl (fun K hK => ?_)
              go_wp2_with fail
              obtain ⟨y3, hy⟩ : ∃ x, x = y2.alloc (.cells #[.int .i64 (T.S k).shift] 2) := ⟨_, rfl⟩
              rw [← hy]
              obtain ⟨q8, hq⟩ : ∃ b, b = y2.heap.size := ⟨_, rfl⟩
              have hB_ : Below y2.heap.size y2 y3 := by rw [hy]; exact below_box _ _
              have hc_ : y3.cell? ⟨q8, 0, none⟩ = some (.int .i64 (T.S k).shift) := by rw [hy, hq]; simp [go_sem]
              have hgq8 : gs ≤ q8 := by rw [hq]; exact Nat.le_of_lt C2.out.lt
              rw [← hq]
              have hs_ := U2.out.size
              have F3 := Lib.hid (F2.out.below hB_)
              have C3 := Lib.hid (C2.out.below hB_)
              have U3 := Lib.hid (U2.out.trans (hB_.mono hs_))
              have X8_3 := Lib.hid hc_
              clear hy hq hB_ hc_ hs_
              refine ⟨C3.out, ?_⟩
              refine Plan.plan_of_effect rfl (fun K hK => ?_)
              have hs_ := U3.out.size
              refine fam_addI rfl (.tmp 48) (.tmp 51) rfl w1.heap.size gs _ _ _ _ _ 1 _ L8 rfl rfl F3.out C3.out W8.out q8 1 (T.S k).shift rfl X8_3.out (by have := HN8.out; omega) hs_ ?_
              intro v4 y4 f_ c_ u_ g_
              have F4 := Lib.hid (show Fam y4 w1.heap.size (fam5 v2 (L7 ++ [(T.S k).dur]) v4 (L8 ++ [(T.S k).shift]) _ L9 _ L10 _ L11) from f_)
              have C4 := Lib.hid c_
              have U4 := Lib.hid (U3.out.trans u_)
              clear f_ c_ u_ g_ hs_
              go_wp2_with fail
              refine ⟨C4.out, ?_⟩
              refine Plan.plan_of_effect rfl (fun K hK => ?_)
              go_wp2_with fail
              refine ⟨C4.out, ?_⟩
              refine Plan.plan_of_effect rfl (fun K hK => ?_)
              go_wp2_with fail
              refine ⟨C4.out, ?_⟩
              refine Plan.plan_nil (Plan.tree_leaf ?_)
              go_wp2_with fail
              go_meet
              case rel => exact ⟨F4.out, C4.out, U4.out⟩
            · skip
              refine Plan.op_of_list rfl (fun K hK => ?_)
              go_wp2_with fail
              obtain ⟨y7, hy⟩ : ∃ x, x = y1.alloc (.cells #[.int .i64 (T.S k).shift] 2) := ⟨_, rfl⟩
              rw [← hy]
              obtain ⟨q8, hq⟩ : ∃ b, b = y1.heap.size := ⟨_, rfl⟩
              have hB_ : Below y1.heap.size y1 y7 := by rw [hy]; exact below_box _ _
              have hc_ : y7.cell? ⟨q8, 0, none⟩ = some (.int .i64 (T.S k).shift) := by rw [hy, hq]; simp [go_sem]
              have hgq8 : gs ≤ q8 := by rw [hq]; exact Nat.le_of_lt C1.out.lt
              rw [← hq]
              have hs_ := U1.out.size
              have F7 := Lib.hid (F1.out.below hB_)
              have C7 := Lib.hid (C1.out.below hB_)
              have U7 := Lib.hid (U1.out.trans (hB_.mono hs_))
              have X8_7 := Lib.hid hc_
              have X3_7 := Lib.hid ((hB_.cell (block_lt_of_cell X3_1.out)).trans X3_1.out)
              clear hy hq hB_ hc_ hs_
              refine ⟨C7.out, ?_⟩
              refine Plan.tree_dyn (fun w' => C4 w' gs (.slice xa (T.S k).n xc) (.int .i64 (T.S k).dur) (.int .i64 (T.S k).shift) (.bool (T.S k).sync)) (fun _ h => h) C7.out ?_
              refine Plan.tree_run ?_
              refine Plan.plan_of_effect rfl (fun K hK => ?_)
              have hs_ := U7.out.size
              refine fam_addI rfl (.tmp 43) (.tmp 46) rfl w1.heap.size gs _ _ _ _ _ 0 _ L7 rfl rfl F7.out C7.out W7.out q3 1 (T.S k).dur rfl X3_7.out (by have := HN7.out; omega) hs_ ?_
              intro v8 y8 f_ c_ u_ g_
              have F8 := Lib.hid (show Fam y8 w1.heap.size (fam5 v8 (L7 ++ [(T.S k).dur]) _ L8 _ L9 _ L10 _ L11) from f_)
              have C8 := Lib.hid c_
              have U8 := Lib.hid (U7.out.trans u_)
              have X8_8 := Lib.hid (keep_cell g_ W7.out hgq8 X8_7.out)
              clear f_ c_ u_ g_ hs_
              go_wp2_with fail
              refine ⟨C8.out, ?_⟩
              refine Plan.plan_of_effect rfl (fun K hK => ?_)
              have hs_ := U8.out.size
              refine fam_addI rfl (.tmp 48) (.tmp 51) rfl w1.heap.size gs _ _ _ _ _ 1 _ L8 rfl rfl F8.out C8.out W8.out q8 1 (T.S k).shift rfl X8_8.out (by have := HN8.out; omega) hs_ ?_
              intro v9 y9 f_ c_ u_ g_
              have F9 := Lib.hid (show Fam y9 w1.heap.size (fam5 v8 (L7 ++ [(T.S k).dur]) v9 (L8 ++ [(T.S k).shift]) _ L9 _ L10 _ L11) from f_)
              have C9 := Lib.hid c_
              have U9 := Lib.hid (U8.out.trans u_)
              clear f_ c_ u_ g_ hs_
              go_wp2_with fail
              refine ⟨C9.out, ?_⟩
              refine Plan.plan_of_effect rfl (fun K hK => ?_)
              go_wp2_with fail
              refine ⟨C9.out, ?_⟩
              refine Plan.plan_of_effect rfl (fun K hK => ?_)
              go_wp2_with fail
              refine ⟨C9.out, ?_⟩
              refine Plan.plan_nil (Plan.tree_leaf ?_)
              go_wp2_with fail
              go_meet
              case rel => exact ⟨F9.out, C9.out, U9.out⟩
          · skip
            refine Plan.op_of_list rfl (fun K hK => ?_)
            go_wp2_with fail
            obtain ⟨y12, hy⟩ : ∃ x, x = y0.alloc (.cells #[.int .i64 (T.S k).shift] 2) := ⟨_, rfl⟩
            rw [← hy]
            obtain ⟨q8, hq⟩ : ∃ b, b = y0.heap.size := ⟨_, rfl⟩
            have hB_ : Below y0.heap.size y0 y12 := by rw [hy]; exact below_box _ _
            have hc_ : y12.cell? ⟨q8, 0, none⟩ = some (.int .i64 (T.S k).shift) := by rw [hy, hq]; simp [go_sem]
            have hgq8 : gs ≤ q8 := by rw [hq]; exact Nat.le_of_lt C0.out.lt
            rw [← hq]
            have hs_ := U0.out.size
            have F12 := Lib.hid (F0.out.below hB_)
            have C12 := Lib.hid (C0.out.below hB_)
            have U12 := Lib.hid (U0.out.trans (hB_.mono hs_))
            have X8_12 := Lib.hid hc_
            clear hy hq hB_ hc_ hs_
            refine ⟨C12.out, ?_⟩
            refine Plan.tree_dyn (fun w' => C4 w' gs (.slice xa (T.S k).n xc) (.int .i64 (T.S k).dur) (.int .i64 (T.S k).shift) (.bool (T.S k).sync)) (fun _ h => h) C12.out ?_
            refine Plan.tree_run ?_
            refine Plan.plan_of_effect rfl (fun K hK => ?_)
            go_wp2_with fail
            obtain ⟨y13, hy⟩ : ∃ x, x = y12.alloc (.cells #[.int .i64 (T.S k).dur] 2) := ⟨_, rfl⟩
            rw [← hy]
            obtain ⟨q3, hq⟩ : ∃ b, b = y12.heap.size := ⟨_, rfl⟩
            have hB_ : Below y12.heap.size y12 y13 := by rw [hy]; exact below_box _ _
            have hc_ : y13.cell? ⟨q3, 0, none⟩ = some (.int .i64 (T.S k).dur) := by rw [hy, hq]; simp [go_sem]
            have hgq3 : gs ≤ q3 := by rw [hq]; exact Nat.le_of_lt C12.out.lt
            rw [← hq]
            have hs_ := U12.out.size
            have F13 := Lib.hid (F12.out.below hB_)
            have C13 := Lib.hid (C12.out.below hB_)
            have U13 := Lib.hid (U12.out.trans (hB_.mono hs_))
            have X3_13 := Lib.hid hc_
            have X8_13 := Lib.hid ((hB_.cell (block_lt_of_cell X8_12.out)).trans X8_12.out)
            clear hy hq hB_ hc_ hs_
            refine ⟨C13.out, ?_⟩
            refine Plan.plan_of_effect rfl (fun K hK => ?_)
            have hs_ := U13.out.size
            refine fam_addI rfl (.tmp 43) (.tmp 46) rfl w1.heap.size gs _ _ _ _ _ 0 _ L7 rfl rfl F13.out C13.out W7.out q3 1 (T.S k).dur rfl X3_13.out (by have := HN7.out; omega) hs_ ?_
            intro v14 y14 f_ c_ u_ g_
            have F14 := Lib.hid (show Fam y14 w1.heap.size (fam5 v14 (L7 ++ [(T.S k).dur]) _ L8 _ L9 _ L10 _ L11) from f_)
            have C14 := Lib.hid c_
            have U14 := Lib.hid (U13.out.trans u_)
            have X8_14 := Lib.hid (keep_cell g_ W7.out hgq8 X8_13.out)
            clear f_ c_ u_ g_ hs_
            go_wp2_with fail
            refine ⟨C14.out, ?_⟩
            refine Plan.plan_of_effect rfl (fun K hK => ?_)
            have hs_ := U14.out.size
            refine fam_addI rfl (.tmp 48) (.tmp 51) rfl w1.heap.size gs _ _ _ _ _ 1 _ L8 rfl rfl F14.out C14.out W8.out q8 1 (T.S k).shift rfl X8_14.out (by have := HN8.out; omega) hs_ ?_
            intro v15 y15 f_ c_ u_ g_
            have F15 := Lib.hid (show Fam y15 w1.heap.size (fam5 v14 (L7 ++ [(T.S k).dur]) v15 (L8 ++ [(T.S k).shift]) _ L9 _ L10 _ L11) from f_)
            have C15 := Lib.hid c_
            have U15 := Lib.hid (U14.out.trans u_)
            clear f_ c_ u_ g_ hs_
            go_wp2_with fail
            refine ⟨C15.out, ?_⟩
            refine Plan.plan_of_effect rfl (fun K hK => ?_)
            go_wp2_with fail
            refine ⟨C15.out, ?_⟩
            refine Plan.plan_of_effect rfl (fun K hK => ?_)
            go_wp2_with fail
            refine ⟨C15.out, ?_⟩
            refine Plan.plan_nil (Plan.tree_leaf ?_)
            go_wp2_with fail
            go_meet
            case rel => exact ⟨F15.out, C15.out, U15.out⟩
        case rest =>
          obtain ⟨hF, hC, hU⟩ := hcut
          obtain ⟨sy, hsy⟩ : ∃ s, s = (T.S k).sync := ⟨_, rfl⟩
          rw [← hsy] at hC
          have F := Lib.hid hF
          have C := Lib.hid hC
          have U := Lib.hid hU
          have HSY := Lib.hid hsy
          have hx3 := (HX.out.below hU).k3
          clear hF hC hU hsy HF1 HC HU hsws W7 W8 HN7 HN8
          obtain ⟨y0, y1, y2, y3⟩ := C.out
          cases sy
          · skip
            go_wp2_with fail
            refine (num_any ((T.S k).n : Int) _).mono ?_
            rintro e z1 ⟨r, rfl, hO, hb⟩
            have M1 := Lib.hid hO.bl
            have F1 := Lib.hid (F.out.below hb)
            have C1 := Lib.hid (C.out.below hb)
            have hs_ := U.out.size
            have U1 := Lib.hid (U.out.trans (hb.mono hs_))
            clear F C U hO hb y0 y1 y2 y3
            have F := F1
            have C := C1
            have U := U1
            have hs_ := U.out.size
            obtain ⟨y0, y1, y2, y3⟩ := C.out
            clear F1 C1 U1
            go_wp2_with (at_builtin; refine fam_addB rfl (.tmp 62) (.tmp 66) rfl w1.heap.size gs _ _ _ _ _ 3 _ L10 rfl rfl F.out C.out W10.out _ (num4 (((T.S k).n : Int))) rfl M1.out (by have := HN10.out; simp [num4]; omega) hs_ ?_)
            intro v2 z2 f_ c_ u_
            have F2 := Lib.hid (show Fam z2 w1.heap.size (fam5 _ (L7 ++ [(T.S k).dur]) _ (L8 ++ [(T.S k).shift]) _ L9 v2 (L10 ++ num4 ((T.S k).n : Int)) _ L11) from f_)
            have C2 := Lib.hid c_
            have U2 := Lib.hid (U.out.trans u_)
            clear F C U f_ c_ u_ hs_ y0 y1 y2 y3 M1
            have F := F2
            have C := C2
            have U := U2
            have hs_ := U.out.size
            obtain ⟨y0, y1, y2, y3⟩ := C.out
            clear F2 C2 U2
            go_wp2_with fail
            refine (num_any (first + (Z : Int)) _).mono ?_
            rintro e z3 ⟨r, rfl, hO, hb⟩
            have M3 := Lib.hid hO.bl
            have F3 := Lib.hid (F.out.below hb)
            have C3 := Lib.hid (C.out.below hb)
            have hs_ := U.out.size
            have U3 := Lib.hid (U.out.trans (hb.mono hs_))
            clear F C U hO hb y0 y1 y2 y3
            have F := F3
            have C := C3
            have U := U3
            have hs_ := U.out.size
            obtain ⟨y0, y1, y2, y3⟩ := C.out
            clear F3 C3 U3
            go_wp2_with (at_builtin; refine fam_addB rfl (.tmp 68) (.tmp 70) rfl w1.heap.size gs _ _ _ _ _ 4 _ L11 rfl rfl F.out C.out W11.out _ (num4 (first + (Z : Int))) rfl M3.out (by have := HN11.out; simp [num4]; omega) hs_ ?_)
            intro v4 z4 f_ c_ u_
            have F4 := Lib.hid (show Fam z4 w1.heap.size (fam5 _ (L7 ++ [(T.S k).dur]) _ (L8 ++ [(T.S k).shift]) _ L9 v2 (L10 ++ num4 ((T.S k).n : Int)) v4 (L11 ++ num4 (first + (Z : Int)))) from f_)
            have C4 := Lib.hid c_
            have U4 := Lib.hid (U.out.trans u_)
            clear F C U f_ c_ u_ hs_ y0 y1 y2 y3 M3
            have F := F4
            have C := C4
            have U := U4
            have hs_ := U.out.size
            obtain ⟨y0, y1, y2, y3⟩ := C.out
            clear F4 C4 U4
            go_wp2_with fail
            have hm1 : (syncL T.S (k + 1)).length = m := by rw [HM.out]; simp [syncL, ← HSY.out]
            refine ⟨⟨k + 1, by omega, by go_num, ?_, ?_, ?_, U.out⟩, ?_⟩
            · rw [HZZ.out]; go_num
            · simp only [hm1]; try go_num
            · have f_ := F.out
              have e9 : numsL (syncL T.S (k + 1)) = L9 := by rw [HE9.out]; simp [numsL, syncL, ← HSY.out]
              have e10 : numsL [0, 0, (T.nS : Int)] ++ numsL (sizeL T.S (k + 1)) = L10 ++ num4 ((T.S k).n : Int) := by rw [HE10.out]; simp [numsL, sizeL]
              have e11 : numsL [0, (T.nS : Int)] ++ numsL (placeL T.S first (k + 1)) = L11 ++ num4 (first + (Z : Int)) := by rw [HE11.out, HZ.out]; simp [numsL, placeL]
              unfold five
              rw [e9, e10, e11, durL_succ, shiftL_succ, ← HE7.out, ← HE8.out]
              exact f_
            · simp [intOf]
              omega
          · skip
            go_wp2_with fail
            refine (num_any ((k : Int) + 1) _).mono ?_
            rintro e z1 ⟨r, rfl, hO, hb⟩
            have M1 := Lib.hid hO.bl
            have F1 := Lib.hid (F.out.below hb)
            have C1 := Lib.hid (C.out.below hb)
            have hs_ := U.out.size
            have U1 := Lib.hid (U.out.trans (hb.mono hs_))
            clear F C U hO hb y0 y1 y2 y3
            have F := F1
            have C := C1
            have U := U1
            have hs_ := U.out.size
            obtain ⟨y0, y1, y2, y3⟩ := C.out
            clear F1 C1 U1
            go_wp2_with (at_builtin; refine fam_addB rfl (.tmp 55) (.tmp 58) rfl w1.heap.size gs _ _ _ _ _ 2 _ L9 rfl rfl F.out C.out W9.out _ (num4 ((k : Int) + 1)) rfl M1.out (by have := HN9.out; simp [num4]; omega) hs_ ?_)
            intro v2 z2 f_ c_ u_
            have F2 := Lib.hid (show Fam z2 w1.heap.size (fam5 _ (L7 ++ [(T.S k).dur]) _ (L8 ++ [(T.S k).shift]) v2 (L9 ++ num4 ((k : Int) + 1)) _ L10 _ L11) from f_)
            have C2 := Lib.hid c_
            have U2 := Lib.hid (U.out.trans u_)
            clear F C U f_ c_ u_ hs_ y0 y1 y2 y3 M1
            have F := F2
            have C := C2
            have U := U2
            have hs_ := U.out.size
            obtain ⟨y0, y1, y2, y3⟩ := C.out
            clear F2 C2 U2
            go_wp2_with fail
            refine (num_any ((T.S k).n : Int) _).mono ?_
            rintro e z3 ⟨r, rfl, hO, hb⟩
            have M3 := Lib.hid hO.bl
            have F3 := Lib.hid (F.out.below hb)
            have C3 := Lib.hid (C.out.below hb)
            have hs_ := U.out.size
            have U3 := Lib.hid (U.out.trans (hb.mono hs_))
            clear F C U hO hb y0 y1 y2 y3
            have F := F3
            have C := C3
            have U := U3
            have hs_ := U.out.size
            obtain ⟨y0, y1, y2, y3⟩ := C.out
            clear F3 C3 U3
            go_wp2_with (at_builtin; refine fam_addB rfl (.tmp 62) (.tmp 66) rfl w1.heap.size gs _ _ _ _ _ 3 _ L10 rfl rfl F.out C.out W10.out _ (num4 (((T.S k).n : Int))) rfl M3.out (by have := HN10.out; simp [num4]; omega) hs_ ?_)
            intro v4 z4 f_ c_ u_
            have F4 := Lib.hid (show Fam z4 w1.heap.size (fam5 _ (L7 ++ [(T.S k).dur]) _ (L8 ++ [(T.S k).shift]) v2 (L9 ++ num4 ((k : Int) + 1)) v4 (L10 ++ num4 ((T.S k).n : Int)) _ L11) from f_)
            have C4 := Lib.hid c_
            have U4 := Lib.hid (U.out.trans u_)
            clear F C U f_ c_ u_ hs_ y0 y1 y2 y3 M3
            have F := F4
            have C := C4
            have U := U4
            have hs_ := U.out.size
            obtain ⟨y0, y1, y2, y3⟩ := C.out
            clear F4 C4 U4
            go_wp2_with fail
            refine (num_any (first + (Z : Int)) _).mono ?_
            rintro e z5 ⟨r, rfl, hO, hb⟩
            have M5 := Lib.hid hO.bl
            have F5 := Lib.hid (F.out.below hb)
            have C5 := Lib.hid (C.out.below hb)
            have hs_ := U.out.size
            have U5 := Lib.hid (U.out.trans (hb.mono hs_))
            clear F C U hO hb y0 y1 y2 y3
            have F := F5
            have C := C5
            have U := U5
            have hs_ := U.out.size
            obtain ⟨y0, y1, y2, y3⟩ := C.out
            clear F5 C5 U5
            go_wp2_with (at_builtin; refine fam_addB rfl (.tmp 68) (.tmp 70) rfl w1.heap.size gs _ _ _ _ _ 4 _ L11 rfl rfl F.out C.out W11.out _ (num4 (first + (Z : Int))) rfl M5.out (by have := HN11.out; simp [num4]; omega) hs_ ?_)
            intro v6 z6 f_ c_ u_
            have F6 := Lib.hid (show Fam z6 w1.heap.size (fam5 _ (L7 ++ [(T.S k).dur]) _ (L8 ++ [(T.S k).shift]) v2 (L9 ++ num4 ((k : Int) + 1)) v4 (L10 ++ num4 ((T.S k).n : Int)) v6 (L11 ++ num4 (first + (Z : Int)))) from f_)
            have C6 := Lib.hid c_
            have U6 := Lib.hid (U.out.trans u_)
            clear F C U f_ c_ u_ hs_ y0 y1 y2 y3 M5
            have F := F6
            have C := C6
            have U := U6
            have hs_ := U.out.size
            obtain ⟨y0, y1, y2, y3⟩ := C.out
            clear F6 C6 U6
            go_wp2_with fail
            have hm1 : (syncL T.S (k + 1)).length = m + 1 := by rw [HM.out]; simp [syncL, ← HSY.out]
            refine ⟨⟨k + 1, by omega, by go_num, ?_, ?_, ?_, U.out⟩, ?_⟩
            · rw [HZZ.out]; go_num
            · simp only [hm1]; try go_num
            · have f_ := F.out
              have e9 : numsL (syncL T.S (k + 1)) = (L9 ++ num4 ((k : Int) + 1)) := by rw [HE9.out]; simp [numsL, syncL, ← HSY.out]
              have e10 : numsL [0, 0, (T.nS : Int)] ++ numsL (sizeL T.S (k + 1)) = L10 ++ num4 ((T.S k).n : Int) := by rw [HE10.out]; simp [numsL, sizeL]
              have e11 : numsL [0, (T.nS : Int)] ++ numsL (placeL T.S first (k + 1)) = L11 ++ num4 (first + (Z : Int)) := by rw [HE11.out, HZ.out]; simp [numsL, placeL]
              unfold five
              rw [e9, e10, e11, durL_succ, shiftL_succ, ← HE7.out, ← HE8.out]
              exact f_
            · simp [intOf]
              omega
      · obtain rfl : k = T.nS := by omega
        obtain ⟨L9, hL9⟩ : ∃ L, L = numsL (syncL T.S T.nS) := ⟨_, rfl⟩
        obtain ⟨L10, hL10⟩ : ∃ L, L = numsL [0, 0, (T.nS : Int)] ++ numsL (sizeL T.S T.nS) := ⟨_, rfl⟩
        obtain ⟨L11, hL11⟩ : ∃ L, L = numsL [0, (T.nS : Int)] ++ numsL (placeL T.S first T.nS) := ⟨_, rfl⟩
        have hF1 : Fam wr w1.heap.size (fam5 u7 (durL T.S T.nS) u8 (shiftL T.S T.nS) u9 L9 u10 L10 u11 L11) := by rw [hL9, hL10, hL11]; exact HF.out
        have n9 : L9.length ≤ 160 := by rw [hL9, numsL_length]; have := syncL_length T.S T.nS; omega
        have n10 : L10.length ≤ 172 := by rw [hL10, List.length_append, numsL_length, numsL_length, sizeL_length]; simp; omega
        have n11 : L11.length ≤ 168 := by rw [hL11, List.length_append, numsL_length, numsL_length, placeL_length]; simp; omega
        have M7 := Lib.hid (OwnI.IL' (hF1.1 0 _ rfl))
        have M8 := Lib.hid (OwnI.IL' (hF1.1 1 _ rfl))
        have M9 := Lib.hid (Own.BL' (hF1.1 2 _ rfl))
        have M10 := Lib.hid (Own.BL' (hF1.1 3 _ rfl))
        have M11 := Lib.hid (Own.BL' (hF1.1 4 _ rfl))
        obtain ⟨a9, c9, h9⟩ := BL.shape M9.out
        obtain ⟨a10, c10, h10⟩ := BL.shape M10.out
        obtain ⟨a11, c11, h11⟩ := BL.shape M11.out
        simp only at h9 h10 h11
        subst h9 h10 h11
        have E9 := Lib.hid hL9
        have E10 := Lib.hid hL10
        have E11 := Lib.hid hL11
        have U := HB
        have hs_ := U.out.size
        have MV := Lib.hid (show BL wr (.slice a2 T.nC d2) (cfL T) from HC2.out.below HWW.out)
        have hnC := HLT.out.c
        have hnE := HLT.out.e
        have hhz := HLT.out.h
        have hsl := syncL_length T.S T.nS
        obtain ⟨m, hm⟩ : ∃ m, m = (syncL T.S T.nS).length := ⟨_, rfl⟩
        rw [← hm] at hsl ⊢
        have HM := Lib.hid hm
        clear hF1 HF HB hL9 hL10 hL11 HWW hm hsr
        have z2 := (HX.out.below U.out).k2
        go_wp2_with fail
        refine (conf_any _ (cfL T) _ MV.out (by rw [cfL_length]; omega)).mono ?_
        rintro e x1 ⟨r, rfl, hO, hb⟩
        obtain ⟨Lcf, hL⟩ : ∃ L, L = confL (cfL T) := ⟨_, rfl⟩
        rw [← hL] at hO
        have ncf : Lcf.length ≤ 5024 := by rw [hL]; rw [confL_length, cfL_length]; omega
        obtain ⟨acf, ccf, rfl⟩ := hO.shape
        replace M7 := Lib.hid (M7.out.below hb)
        replace M8 := Lib.hid (M8.out.below hb)
        replace M9 := Lib.hid (M9.out.below hb)
        replace M10 := Lib.hid (M10.out.below hb)
        replace M11 := Lib.hid (M11.out.below hb)
        replace MV := Lib.hid (MV.out.below hb)
        have Mcf := Lib.hid hO.bl
        have Ecf := Lib.hid hL
        replace U := Lib.hid (U.out.trans (hb.mono hs_))
        clear hO hb hL hs_
        have hs_ := U.out.size
        clear MV
        go_wp2_with fail
        refine (box_any nStsd _ [Lcf] _ (JL.build (w := x1) (vs := [.slice acf Lcf.length ccf]) (Ls := [Lcf]) 22 ⟨Mcf.out, trivial⟩) (by simp) (by simp; omega) (by decide)).mono ?_
        rintro e x2 ⟨r, rfl, hO, hb⟩
        replace hb : Below x1.heap.size x1 x2 := (below_box x1 _).trans (hb.mono (by simp))
        obtain ⟨Lsd, hL⟩ : ∃ L, L = boxL nStsd [Lcf].flatten := ⟨_, rfl⟩
        rw [← hL] at hO
        have nsd : Lsd.length ≤ 5032 := by rw [hL]; rw [boxL_length _ _ rfl]; simp; omega
        obtain ⟨asd, csd, rfl⟩ := hO.shape
        replace M7 := Lib.hid (M7.out.below hb)
        replace M8 := Lib.hid (M8.out.below hb)
        replace M9 := Lib.hid (M9.out.below hb)
        replace M10 := Lib.hid (M10.out.below hb)
        replace M11 := Lib.hid (M11.out.below hb)
        replace Mcf := Lib.hid (Mcf.out.below hb)
        have Msd := Lib.hid hO.bl
        have Esd := Lib.hid hL
        replace U := Lib.hid (U.out.trans (hb.mono hs_))
        clear hO hb hL hs_
        have hs_ := U.out.size
        clear Mcf
        go_wp2_with fail
        refine (rruns_any _ T.nS (fun i => (T.S i).dur) _ (nf_of_il M7.out) (by omega)).mono ?_
        rintro e x3 ⟨r, rfl, hO, hb⟩
        obtain ⟨Lr7, hL⟩ : ∃ L, L = runsL (fun i => (T.S i).dur) T.nS := ⟨_, rfl⟩
        rw [← hL] at hO
        have nr7 : Lr7.length ≤ 328 := by rw [hL]; have := runsL_le (fun i => (T.S i).dur) T.nS; omega
        obtain ⟨ar7, cr7, rfl⟩ := hO.shape
        replace M7 := Lib.hid (M7.out.below hb)
        replace M8 := Lib.hid (M8.out.below hb)
        replace M9 := Lib.hid (M9.out.below hb)
        replace M10 := Lib.hid (M10.out.below hb)
        replace M11 := Lib.hid (M11.out.below hb)
        replace Msd := Lib.hid (Msd.out.below hb)
        have Mr7 := Lib.hid hO.bl
        have Er7 := Lib.hid hL
        replace U := Lib.hid (U.out.trans (hb.mono hs_))
        clear hO hb hL hs_
        have hs_ := U.out.size
        clear M7
        go_wp2_with fail
        refine (box_any nStts _ [Lr7] _ (JL.build (w := x3) (vs := [.slice ar7 Lr7.length cr7]) (Ls := [Lr7]) 22 ⟨Mr7.out, trivial⟩) (by simp) (by simp; omega) (by decide)).mono ?_
        rintro e x4 ⟨r, rfl, hO, hb⟩
        replace hb : Below x3.heap.size x3 x4 := (below_box x3 _).trans (hb.mono (by simp))
        obtain ⟨Ltt, hL⟩ : ∃ L, L = boxL nStts [Lr7].flatten := ⟨_, rfl⟩
        rw [← hL] at hO
        have ntt : Ltt.length ≤ 336 := by rw [hL]; rw [boxL_length _ _ rfl]; simp; omega
        obtain ⟨att, ctt, rfl⟩ := hO.shape
        replace M8 := Lib.hid (M8.out.below hb)
        replace M9 := Lib.hid (M9.out.below hb)
        replace M10 := Lib.hid (M10.out.below hb)
        replace M11 := Lib.hid (M11.out.below hb)
        replace Msd := Lib.hid (Msd.out.below hb)
        replace Mr7 := Lib.hid (Mr7.out.below hb)
        have Mtt := Lib.hid hO.bl
        have Ett := Lib.hid hL
        replace U := Lib.hid (U.out.trans (hb.mono hs_))
        clear hO hb hL hs_
        have hs_ := U.out.size
        clear Mr7
        go_wp2_with fail
        refine (rruns_any _ T.nS (fun i => (T.S i).shift) _ (nf_of_il M8.out) (by omega)).mono ?_
        rintro e x5 ⟨r, rfl, hO, hb⟩
        obtain ⟨Lr8, hL⟩ : ∃ L, L = runsL (fun i => (T.S i).shift) T.nS := ⟨_, rfl⟩
        rw [← hL] at hO
        have nr8 : Lr8.length ≤ 328 := by rw [hL]; have := runsL_le (fun i => (T.S i).shift) T.nS; omega
        obtain ⟨ar8, cr8, rfl⟩ := hO.shape
        replace M8 := Lib.hid (M8.out.below hb)
        replace M9 := Lib.hid (M9.out.below hb)
        replace M10 := Lib.hid (M10.out.below hb)
        replace M11 := Lib.hid (M11.out.below hb)
        replace Msd := Lib.hid (Msd.out.below hb)
        replace Mtt := Lib.hid (Mtt.out.below hb)
        have Mr8 := Lib.hid hO.bl
        have Er8 := Lib.hid hL
        replace U := Lib.hid (U.out.trans (hb.mono hs_))
        clear hO hb hL hs_
        have hs_ := U.out.size
        clear M8
        go_wp2_with fail
        refine (box_any nCtts _ [Lr8] _ (JL.build (w := x5) (vs := [.slice ar8 Lr8.length cr8]) (Ls := [Lr8]) 22 ⟨Mr8.out, trivial⟩) (by simp) (by simp; omega) (by decide)).mono ?_
        rintro e x6 ⟨r, rfl, hO, hb⟩
        replace hb : Below x5.heap.size x5 x6 := (below_box x5 _).trans (hb.mono (by simp))
        obtain ⟨Lct, hL⟩ : ∃ L, L = boxL nCtts [Lr8].flatten := ⟨_, rfl⟩
        rw [← hL] at hO
        have nct : Lct.length ≤ 336 := by rw [hL]; rw [boxL_length _ _ rfl]; simp; omega
        obtain ⟨act, cct, rfl⟩ := hO.shape
        replace M9 := Lib.hid (M9.out.below hb)
        replace M10 := Lib.hid (M10.out.below hb)
        replace M11 := Lib.hid (M11.out.below hb)
        replace Msd := Lib.hid (Msd.out.below hb)
        replace Mtt := Lib.hid (Mtt.out.below hb)
        replace Mr8 := Lib.hid (Mr8.out.below hb)
        have Mct := Lib.hid hO.bl
        have Ect := Lib.hid hL
        replace U := Lib.hid (U.out.trans (hb.mono hs_))
        clear hO hb hL hs_
        have hs_ := U.out.size
        clear Mr8
        go_wp2_with fail
        refine (nums_any _ [0, (m : Int)] _ (IL.build x6 [0, (m : Int)] 2) (by simp)).mono ?_
        rintro e x7 ⟨r, rfl, hO, hb⟩
        replace hb : Below x6.heap.size x6 x7 := (below_box x6 _).trans (hb.mono (by simp))
        obtain ⟨Lnm, hL⟩ : ∃ L, L = numsL [0, (m : Int)] := ⟨_, rfl⟩
        rw [← hL] at hO
        have nnm : Lnm.length ≤ 8 := by rw [hL]; rw [numsL_length]; simp
        obtain ⟨anm, cnm, rfl⟩ := hO.shape
        replace M9 := Lib.hid (M9.out.below hb)
        replace M10 := Lib.hid (M10.out.below hb)
        replace M11 := Lib.hid (M11.out.below hb)
        replace Msd := Lib.hid (Msd.out.below hb)
        replace Mtt := Lib.hid (Mtt.out.below hb)
        replace Mct := Lib.hid (Mct.out.below hb)
        have Mnm := Lib.hid hO.bl
        have Enm := Lib.hid hL
        replace U := Lib.hid (U.out.trans (hb.mono hs_))
        clear hO hb hL hs_
        have hs_ := U.out.size
        go_wp2_with fail
        refine (box_any nStss _ [Lnm, L9] _ (JL.build (w := x7) (vs := [.slice anm Lnm.length cnm, .slice a9 L9.length c9]) (Ls := [Lnm, L9]) 22 ⟨Mnm.out, M9.out, trivial⟩) (by simp) (by simp; omega) (by decide)).mono ?_
        rintro e x8 ⟨r, rfl, hO, hb⟩
        replace hb : Below x7.heap.size x7 x8 := (below_box x7 _).trans (hb.mono (by simp))
        obtain ⟨Lss, hL⟩ : ∃ L, L = boxL nStss [Lnm, L9].flatten := ⟨_, rfl⟩
        rw [← hL] at hO
        have nss : Lss.length ≤ 176 := by rw [hL]; rw [boxL_length _ _ rfl]; simp; omega
        obtain ⟨ass, css, rfl⟩ := hO.shape
        replace M9 := Lib.hid (M9.out.below hb)
        replace M10 := Lib.hid (M10.out.below hb)
        replace M11 := Lib.hid (M11.out.below hb)
        replace Msd := Lib.hid (Msd.out.below hb)
        replace Mtt := Lib.hid (Mtt.out.below hb)
        replace Mct := Lib.hid (Mct.out.below hb)
        replace Mnm := Lib.hid (Mnm.out.below hb)
        have Mss := Lib.hid hO.bl
        have Ess := Lib.hid hL
        replace U := Lib.hid (U.out.trans (hb.mono hs_))
        clear hO hb hL hs_
        have hs_ := U.out.size
        clear Mnm M9
        go_wp2_with fail
        refine (box_any nStsz _ [L10] _ (JL.build (w := x8) (vs := [.slice a10 L10.length c10]) (Ls := [L10]) 22 ⟨M10.out, trivial⟩) (by simp) (by simp; omega) (by decide)).mono ?_
        rintro e x9 ⟨r, rfl, hO, hb⟩
        replace hb : Below x8.heap.size x8 x9 := (below_box x8 _).trans (hb.mono (by simp))
        obtain ⟨Lsz, hL⟩ : ∃ L, L = boxL nStsz [L10].flatten := ⟨_, rfl⟩
        rw [← hL] at hO
        have nsz : Lsz.length ≤ 180 := by rw [hL]; rw [boxL_length _ _ rfl]; simp; omega
        obtain ⟨asz, csz, rfl⟩ := hO.shape
        replace M10 := Lib.hid (M10.out.below hb)
        replace M11 := Lib.hid (M11.out.below hb)
        replace Msd := Lib.hid (Msd.out.below hb)
        replace Mtt := Lib.hid (Mtt.out.below hb)
        replace Mct := Lib.hid (Mct.out.below hb)
        replace Mss := Lib.hid (Mss.out.below hb)
        have Msz := Lib.hid hO.bl
        have Esz := Lib.hid hL
        replace U := Lib.hid (U.out.trans (hb.mono hs_))
        clear hO hb hL hs_
        have hs_ := U.out.size
        clear M10
        go_wp2_with fail
        refine (rchunks_any _).mono ?_
        rintro e x10 ⟨r, rfl, hO, hb⟩
        obtain ⟨Lck, hL⟩ : ∃ L, L = chunkL := ⟨_, rfl⟩
        rw [← hL] at hO
        have nck : Lck.length ≤ 20 := by rw [hL]; rw [chunkL_length]; omega
        obtain ⟨ack, cck, rfl⟩ := hO.shape
        replace M11 := Lib.hid (M11.out.below hb)
        replace Msd := Lib.hid (Msd.out.below hb)
        replace Mtt := Lib.hid (Mtt.out.below hb)
        replace Mct := Lib.hid (Mct.out.below hb)
        replace Mss := Lib.hid (Mss.out.below hb)
        replace Msz := Lib.hid (Msz.out.below hb)
        have Mck := Lib.hid hO.bl
        have Eck := Lib.hid hL
        replace U := Lib.hid (U.out.trans (hb.mono hs_))
        clear hO hb hL hs_
        have hs_ := U.out.size
        go_wp2_with fail
        refine (box_any nStsc _ [Lck] _ (JL.build (w := x10) (vs := [.slice ack Lck.length cck]) (Ls := [Lck]) 22 ⟨Mck.out, trivial⟩) (by simp) (by simp; omega) (by decide)).mono ?_
        rintro e x11 ⟨r, rfl, hO, hb⟩
        replace hb : Below x10.heap.size x10 x11 := (below_box x10 _).trans (hb.mono (by simp))
        obtain ⟨Lsc, hL⟩ : ∃ L, L = boxL nStsc [Lck].flatten := ⟨_, rfl⟩
        rw [← hL] at hO
        have nsc : Lsc.length ≤ 28 := by rw [hL]; rw [boxL_length _ _ rfl]; simp; omega
        obtain ⟨asc, csc, rfl⟩ := hO.shape
        replace M11 := Lib.hid (M11.out.below hb)
        replace Msd := Lib.hid (Msd.out.below hb)
        replace Mtt := Lib.hid (Mtt.out.below hb)
        replace Mct := Lib.hid (Mct.out.below hb)
        replace Mss := Lib.hid (Mss.out.below hb)
        replace Msz := Lib.hid (Msz.out.below hb)
        replace Mck := Lib.hid (Mck.out.below hb)
        have Msc := Lib.hid hO.bl
        have Esc := Lib.hid hL
        replace U := Lib.hid (U.out.trans (hb.mono hs_))
        clear hO hb hL hs_
        have hs_ := U.out.size
        clear Mck
        go_wp2_with fail
        refine (box_any nStco _ [L11] _ (JL.build (w := x11) (vs := [.slice a11 L11.length c11]) (Ls := [L11]) 22 ⟨M11.out, trivial⟩) (by simp) (by simp; omega) (by decide)).mono ?_
        rintro e x12 ⟨r, rfl, hO, hb⟩
        replace hb : Below x11.heap.size x11 x12 := (below_box x11 _).trans (hb.mono (by simp))
        obtain ⟨Lco, hL⟩ : ∃ L, L = boxL nStco [L11].flatten := ⟨_, rfl⟩
        rw [← hL] at hO
        have nco : Lco.length ≤ 176 := by rw [hL]; rw [boxL_length _ _ rfl]; simp; omega
        obtain ⟨aco, cco, rfl⟩ := hO.shape
        replace M11 := Lib.hid (M11.out.below hb)
        replace Msd := Lib.hid (Msd.out.below hb)
        replace Mtt := Lib.hid (Mtt.out.below hb)
        replace Mct := Lib.hid (Mct.out.below hb)
        replace Mss := Lib.hid (Mss.out.below hb)
        replace Msz := Lib.hid (Msz.out.below hb)
        replace Msc := Lib.hid (Msc.out.below hb)
        have Mco := Lib.hid hO.bl
        have Eco := Lib.hid hL
        replace U := Lib.hid (U.out.trans (hb.mono hs_))
        clear hO hb hL hs_
        have hs_ := U.out.size
        clear M11
        go_wp2_with fail
        refine (box_any nStbl _ [Lsd, Ltt, Lct, Lss, Lsz, Lsc, Lco] _ (JL.build (w := x12) (vs := [.slice asd Lsd.length csd, .slice att Ltt.length ctt, .slice act Lct.length cct, .slice ass Lss.length css, .slice asz Lsz.length csz, .slice asc Lsc.length csc, .slice aco Lco.length cco]) (Ls := [Lsd, Ltt, Lct, Lss, Lsz, Lsc, Lco]) 22 ⟨Msd.out, Mtt.out, Mct.out, Mss.out, Msz.out, Msc.out, Mco.out, trivial⟩) (by simp) (by simp; omega) (by decide)).mono ?_
        rintro e x13 ⟨r, rfl, hO, hb⟩
        replace hb : Below x12.heap.size x12 x13 := (below_box x12 _).trans (hb.mono (by simp))
        obtain ⟨Lbl, hL⟩ : ∃ L, L = boxL nStbl [Lsd, Ltt, Lct, Lss, Lsz, Lsc, Lco].flatten := ⟨_, rfl⟩
        rw [← hL] at hO
        have nbl : Lbl.length ≤ 6272 := by rw [hL]; rw [boxL_length _ _ rfl]; simp; omega
        obtain ⟨abl, cbl, rfl⟩ := hO.shape
        replace Msd := Lib.hid (Msd.out.below hb)
        replace Mtt := Lib.hid (Mtt.out.below hb)
        replace Mct := Lib.hid (Mct.out.below hb)
        replace Mss := Lib.hid (Mss.out.below hb)
        replace Msz := Lib.hid (Msz.out.below hb)
        replace Msc := Lib.hid (Msc.out.below hb)
        replace Mco := Lib.hid (Mco.out.below hb)
        have Mbl := Lib.hid hO.bl
        have Ebl := Lib.hid hL
        replace U := Lib.hid (U.out.trans (hb.mono hs_))
        clear hO hb hL hs_
        have hs_ := U.out.size
        clear Msd Mtt Mct Mss Msz Msc Mco
        go_upto_region 14 with fail
        have ebl : Lbl = rstblL T first := by rw [Ebl.out, Esd.out, Ecf.out, Ett.out, Er7.out, Ect.out, Er8.out, Ess.out, Enm.out, E9.out, HM.out, Esz.out, E10.out, Esc.out, Eck.out, Eco.out, E11.out]; rfl
        have EBL := Lib.hid ebl
        obtain ⟨wq, hwq⟩ : ∃ x, x = x13 := ⟨_, rfl⟩
        rw [← hwq] at Mbl U hs_ ⊢
        have HXq := Lib.hid (HX.out.below U.out)
        clear ebl Ebl Esd Ecf Ett Er7 Ect Er8 Ess Enm E9 HM Esz E10 Esc Eck Eco E11 hwq hx3 z2
        go_cut [16] from 107 to 126 (fun v wx => BL wx v (boxL nMdia [boxL nMdhd (mdhdL T), boxL nHdlr (hdlrL T), boxL nMinf Lbl].flatten) ∧ Below wq.heap.size wq wx)
        case first =>
          refine Plan.wp_region_fresh (fun w' => Below wq.heap.size wq w') 20 (GG wq.heap.size (r14Gd T Lbl)) ([1, 2, 9, 10, 15].map (·, true)) r14S ([20].map (·, false)) 186 (by kernel_rfl) (by kernel_rfl) (by kernel_rfl) (Below.refl _ _).drew (fun wa wb ha hb => ha.trans (hb.mono ha.size)) GG.ext ?_
          refine' Plan.plan_seg _ [1, 2, 9, 10, 15] [] (by kernel_rfl) (by kernel_rfl) rfl (by exact (Below.refl _ _).drew) (fun wx hS => ?_) ?_
          rotate_left
          · have y0 := (HXq.out.below hS).k0
            have y1 := (HXq.out.below hS).k1
            clear hS
            go_light
            iterate 5 (apply Plan.seg_pick; rfl; intro K hK; go_wp)
            exact Plan.seg_nil
          refine Plan.plan_nil ?_
          refine Plan.fresh_at_gen (fun A => A.tmps.size = 186 ∧ A.tmps[109]? = some (.int .i64 T.sc) ∧ A.tmps[117]? = some (.string T.h) ∧ A.tmps[122]? = some (.slice abl Lbl.length cbl)) ⟨rfl, rfl, rfl, rfl⟩ rfl (fun A hA => ?_) ?_
          · obtain ⟨hsz, e109, e117, e122⟩ := hA
            intro p hp o ho vs wx lo hi hS hE hG K hK
            simp only [r14S, List.mem_cons, List.not_mem_nil, or_false] at hp
            rcases hp with rfl | rfl | rfl | rfl | rfl | rfl | rfl | rfl | rfl | rfl | rfl | rfl | rfl | rfl | rfl
            all_goals obtain rfl := Option.some.inj ho
            · exact step_zeros rfl 12 #[3] rfl (by decide) (fun r w' hR hB => hK _ _ (show BL _ _ _ from hR.bl) hB)
            · have t109 : (Plan.puts vs r14S A).eval (.tmp 109) = .int .i64 T.sc := by rw [Plan.eval_out (by decide)]; simp [Act.eval, Array.getD_eq_getD_getElem?, e109]
              exact step_ints2 rfl (.tmp 109) (.const (.int .i64 0)) rfl T.sc 0 t109 rfl (fun r w' hR hB _ => hK _ _ (show IL _ _ _ from hR) hB)
            · have h3 := hG (3, 110) (by decide) (by decide)
              have t3 : (Plan.puts vs r14S A).eval (.tmp 110) = vs 3 := Plan.eval_in (i := 3) (by decide) (by decide) (by rw [hsz]; decide)
              exact step_nums rfl (.tmp 110) #[51] rfl (vs 3) [T.sc, 0] t3 h3 (by simp) (fun r w' hR hB => hK _ _ (show BL _ _ _ from hR.bl) hB)
            · exact step_lit4 rfl 85 196 0 0 rfl (fun r w' hR hB => hK _ _ (show BL _ _ _ from hR.bl) hB)
            · have h0 := hG (0, 107) (by decide) (by decide)
              have t0 : (Plan.puts vs r14S A).eval (.tmp 107) = vs 0 := Plan.eval_in (i := 0) (by decide) (by decide) (by rw [hsz]; decide)
              have h4 := hG (4, 111) (by decide) (by decide)
              have t4 : (Plan.puts vs r14S A).eval (.tmp 111) = vs 4 := Plan.eval_in (i := 4) (by decide) (by decide) (by rw [hsz]; decide)
              have h5 := hG (5, 112) (by decide) (by decide)
              have t5 : (Plan.puts vs r14S A).eval (.tmp 112) = vs 5 := Plan.eval_in (i := 5) (by decide) (by decide) (by rw [hsz]; decide)
              exact step_rows3 rfl (.tmp 107) (.tmp 111) (.tmp 112) rfl (vs 0) (vs 4) (vs 5) _ _ _ t0 t4 t5 h0 h4 h5 (fun r w' hR hB => hK _ _ (show JL _ _ _ from hR) hB)
            · have h6 := hG (6, 113) (by decide) (by decide)
              have t6 : (Plan.puts vs r14S A).eval (.tmp 113) = vs 6 := Plan.eval_in (i := 6) (by decide) (by decide) (by rw [hsz]; decide)
              refine step_box rfl nMdhd (.tmp 113) #[9, 116] rfl (vs 6) [List.replicate 12 0, numsL [T.sc, 0], [85, 196, 0, 0]] t6 h6 (by simp) (by rw [mdhd3, mdhd_len]; omega) (by decide) (fun r w' hR hB => hK _ _ (show BL _ _ _ from ?_) hB)
              rw [mdhd3] at hR
              exact hR.bl
            · exact step_zeros rfl 8 #[3] rfl (by decide) (fun r w' hR hB => hK _ _ (show BL _ _ _ from hR.bl) hB)
            · have t117 : (Plan.puts vs r14S A).eval (.tmp 117) = .string T.h := by rw [Plan.eval_out (by decide)]; simp [Act.eval, Array.getD_eq_getD_getElem?, e117]
              exact step_conv rfl (.tmp 117) rfl T.h t117 (fun r w' hR hB => hK _ _ (show BL _ _ _ from hR) hB)
            · exact step_zeros rfl 13 #[3] rfl (by decide) (fun r w' hR hB => hK _ _ (show BL _ _ _ from hR.bl) hB)
            · have h8 := hG (8, 115) (by decide) (by decide)
              have t8 : (Plan.puts vs r14S A).eval (.tmp 115) = vs 8 := Plan.eval_in (i := 8) (by decide) (by decide) (by rw [hsz]; decide)
              have h11 := hG (11, 118) (by decide) (by decide)
              have t11 : (Plan.puts vs r14S A).eval (.tmp 118) = vs 11 := Plan.eval_in (i := 11) (by decide) (by decide) (by rw [hsz]; decide)
              have h12 := hG (12, 119) (by decide) (by decide)
              have t12 : (Plan.puts vs r14S A).eval (.tmp 119) = vs 12 := Plan.eval_in (i := 12) (by decide) (by decide) (by rw [hsz]; decide)
              exact step_rows3 rfl (.tmp 115) (.tmp 118) (.tmp 119) rfl (vs 8) (vs 11) (vs 12) _ _ _ t8 t11 t12 h8 h11 h12 (fun r w' hR hB => hK _ _ (show JL _ _ _ from hR) hB)
            · have h13 := hG (13, 120) (by decide) (by decide)
              have t13 : (Plan.puts vs r14S A).eval (.tmp 120) = vs 13 := Plan.eval_in (i := 13) (by decide) (by decide) (by rw [hsz]; decide)
              refine step_box rfl nHdlr (.tmp 120) #[9, 116] rfl (vs 13) [List.replicate 8 0, strB T.h, List.replicate 13 0] t13 h13 (by simp) (by rw [hdlr3, hdlr_len]; omega) (by decide) (fun r w' hR hB => hK _ _ (show BL _ _ _ from ?_) hB)
              rw [hdlr3] at hR
              exact hR.bl
            · have t122 : (Plan.puts vs r14S A).eval (.tmp 122) = .slice abl Lbl.length cbl := by rw [Plan.eval_out (by decide)]; simp [Act.eval, Array.getD_eq_getD_getElem?, e122]
              exact step_rows1 rfl (.tmp 122) rfl (.slice abl Lbl.length cbl) Lbl t122 (Mbl.out.below hS) (fun r w' hR hB => hK _ _ (show JL _ _ _ from hR) hB)
            · have h16 := hG (16, 123) (by decide) (by decide)
              have t16 : (Plan.puts vs r14S A).eval (.tmp 123) = vs 16 := Plan.eval_in (i := 16) (by decide) (by decide) (by rw [hsz]; decide)
              refine step_box rfl nMinf (.tmp 123) #[9, 116] rfl (vs 16) [Lbl] t16 h16 (by simp) (by rw [flat1]; omega) (by decide) (fun r w' hR hB => hK _ _ (show BL _ _ _ from ?_) hB)
              rw [flat1] at hR
              exact hR.bl
            · have h7 := hG (7, 114) (by decide) (by decide)
              have t7 : (Plan.puts vs r14S A).eval (.tmp 114) = vs 7 := Plan.eval_in (i := 7) (by decide) (by decide) (by rw [hsz]; decide)
              have h14 := hG (14, 121) (by decide) (by decide)
              have t14 : (Plan.puts vs r14S A).eval (.tmp 121) = vs 14 := Plan.eval_in (i := 14) (by decide) (by decide) (by rw [hsz]; decide)
              have h17 := hG (17, 124) (by decide) (by decide)
              have t17 : (Plan.puts vs r14S A).eval (.tmp 124) = vs 17 := Plan.eval_in (i := 17) (by decide) (by decide) (by rw [hsz]; decide)
              exact step_rows3 rfl (.tmp 114) (.tmp 121) (.tmp 124) rfl (vs 7) (vs 14) (vs 17) _ _ _ t7 t14 t17 h7 h14 h17 (fun r w' hR hB => hK _ _ (show JL _ _ _ from hR) hB)
            · have h18 := hG (18, 125) (by decide) (by decide)
              have t18 : (Plan.puts vs r14S A).eval (.tmp 125) = vs 18 := Plan.eval_in (i := 18) (by decide) (by decide) (by rw [hsz]; decide)
              refine step_box rfl nMdia (.tmp 125) #[9, 116] rfl (vs 18) [boxL nMdhd (mdhdL T), boxL nHdlr (hdlrL T), boxL nMinf Lbl] t18 h18 (by simp) (by simp [boxL_length _ _ (show nMdhd.size = 4 from rfl), boxL_length _ _ (show nHdlr.size = 4 from rfl), boxL_length _ _ (show nMinf.size = 4 from rfl), mdhd_len, hdlr_len]; omega) (by decide) (fun r w' hR hB => hK _ _ (show BL _ _ _ from ?_) hB)
              skip
              exact hR.bl
          · intro vs lo hi wx hS hE hall hap
            have h19 : BL wx (vs 19) (boxL nMdia [boxL nMdhd (mdhdL T), boxL nHdlr (hdlrL T), boxL nMinf Lbl].flatten) := (hall (19, 126) (by decide)).1
            have HO := Lib.hid h19
            have HS := Lib.hid hS
            simp only [r14S, Plan.puts]
            generalize vs 19 = u19 at *
            clear hall hap hE hS h19
            refine Plan.plan_of_effect rfl (fun K hK => ?_)
            go_wp2_with fail
            refine ⟨HS.out, ?_⟩
            refine Plan.plan_done ?_
            go_wp2_with fail
            go_meet
            case rel => exact ⟨HO.out, HS.out⟩
        case rest =>
          obtain ⟨hM, hU⟩ := hcut
          obtain ⟨Lmd, hLmd⟩ : ∃ L, L = boxL nMdia [boxL nMdhd (mdhdL T), boxL nHdlr (hdlrL T), boxL nMinf Lbl].flatten := ⟨_, rfl⟩
          rw [← hLmd] at hM
          have nmd : Lmd.length ≤ 6400 := by rw [hLmd]; simp [boxL_length _ _ (show nMdia.size = 4 from rfl), boxL_length _ _ (show nMdhd.size = 4 from rfl), boxL_length _ _ (show nHdlr.size = 4 from rfl), boxL_length _ _ (show nMinf.size = 4 from rfl), mdhd_len, hdlr_len]; omega
          obtain ⟨amd, cmd, hmd⟩ := hM.shape
          subst hmd
          have Emd := Lib.hid (show Lmd = rmdiaL T first by rw [hLmd, EBL.out]; unfold rmdiaL; rw [flat1])
          have Mmd := Lib.hid hM
          replace U := Lib.hid (U.out.trans (hU.mono hs_))
          clear hM hU hLmd hs_ EBL Mbl
          have hs_ := U.out.size
          go_wp2_with fail
          obtain ⟨wl, hwl⟩ : ∃ x, x = wc.alloc (.cells #[.int .u8 0, .int .u8 0, .int .u8 0, .int .u8 3] 5) := ⟨_, rfl⟩
          have hb : Below wc.heap.size wc wl := by rw [hwl]; exact below_box _ _
          have Mlt := Lib.hid (show BL wl (.slice (some ⟨wc.heap.size, 0, none⟩) 4 4) [0, 0, 0, 3] by rw [hwl]; exact (own_lit wc [0, 0, 0, 3] (by decide)).bl)
          rw [← hwl]
          obtain ⟨gl, hgl⟩ : ∃ g, g = wc.heap.size := ⟨_, rfl⟩
          rw [← hgl] at Mlt ⊢
          replace Mmd := Lib.hid (Mmd.out.below hb)
          replace U := Lib.hid (U.out.trans (hb.mono hs_))
          clear hb hwl hgl hs_
          have hs_ := U.out.size
          go_wp2_with fail
          refine (zeros_any 8 _ (by decide)).mono ?_
          rintro e x41 ⟨r, rfl, hO, hb⟩
          obtain ⟨Lza, hL⟩ : ∃ L, L = (List.replicate 8 0 : List Int) := ⟨_, rfl⟩
          rw [← hL] at hO
          have nza : Lza.length ≤ 8 := by rw [hL]; simp
          obtain ⟨aza, cza, rfl⟩ := hO.shape
          replace Mmd := Lib.hid (Mmd.out.below hb)
          replace Mlt := Lib.hid (Mlt.out.below hb)
          have Mza := Lib.hid hO.bl
          have Eza := Lib.hid hL
          replace U := Lib.hid (U.out.trans (hb.mono hs_))
          clear hO hb hL hs_
          have hs_ := U.out.size
          go_wp2_with fail
          refine (nums_any _ [k0 + 1] _ (IL.build x41 [k0 + 1] 2) (by simp)).mono ?_
          rintro e x42 ⟨r, rfl, hO, hb⟩
          replace hb : Below x41.heap.size x41 x42 := (below_box x41 _).trans (hb.mono (by simp))
          obtain ⟨Lkn, hL⟩ : ∃ L, L = numsL [k0 + 1] := ⟨_, rfl⟩
          rw [← hL] at hO
          have nkn : Lkn.length ≤ 4 := by rw [hL]; rw [numsL_length]; simp
          obtain ⟨akn, ckn, rfl⟩ := hO.shape
          replace Mmd := Lib.hid (Mmd.out.below hb)
          replace Mlt := Lib.hid (Mlt.out.below hb)
          replace Mza := Lib.hid (Mza.out.below hb)
          have Mkn := Lib.hid hO.bl
          have Ekn := Lib.hid hL
          replace U := Lib.hid (U.out.trans (hb.mono hs_))
          clear hO hb hL hs_
          have hs_ := U.out.size
          go_wp2_with fail
          refine (zeros_any 4 _ (by decide)).mono ?_
          rintro e x43 ⟨r, rfl, hO, hb⟩
          obtain ⟨Lzb, hL⟩ : ∃ L, L = (List.replicate 4 0 : List Int) := ⟨_, rfl⟩
          rw [← hL] at hO
          have nzb : Lzb.length ≤ 4 := by rw [hL]; simp
          obtain ⟨azb, czb, rfl⟩ := hO.shape
          replace Mmd := Lib.hid (Mmd.out.below hb)
          replace Mlt := Lib.hid (Mlt.out.below hb)
          replace Mza := Lib.hid (Mza.out.below hb)
          replace Mkn := Lib.hid (Mkn.out.below hb)
          have Mzb := Lib.hid hO.bl
          have Ezb := Lib.hid hL
          replace U := Lib.hid (U.out.trans (hb.mono hs_))
          clear hO hb hL hs_
          have hs_ := U.out.size
          go_wp2_with fail
          refine (nums_any _ [0] _ (IL.build x43 [0] 2) (by simp)).mono ?_
          rintro e x44 ⟨r, rfl, hO, hb⟩
          replace hb : Below x43.heap.size x43 x44 := (below_box x43 _).trans (hb.mono (by simp))
          obtain ⟨Lzn, hL⟩ : ∃ L, L = numsL [0] := ⟨_, rfl⟩
          rw [← hL] at hO
          have nzn : Lzn.length ≤ 4 := by rw [hL]; rw [numsL_length]; simp
          obtain ⟨azn, czn, rfl⟩ := hO.shape
          replace Mmd := Lib.hid (Mmd.out.below hb)
          replace Mlt := Lib.hid (Mlt.out.below hb)
          replace Mza := Lib.hid (Mza.out.below hb)
          replace Mkn := Lib.hid (Mkn.out.below hb)
          replace Mzb := Lib.hid (Mzb.out.below hb)
          have Mzn := Lib.hid hO.bl
          have Ezn := Lib.hid hL
          replace U := Lib.hid (U.out.trans (hb.mono hs_))
          clear hO hb hL hs_
          have hs_ := U.out.size
          go_wp2_with fail
          refine (zeros_any 16 _ (by decide)).mono ?_
          rintro e x45 ⟨r, rfl, hO, hb⟩
          obtain ⟨Lzc, hL⟩ : ∃ L, L = (List.replicate 16 0 : List Int) := ⟨_, rfl⟩
          rw [← hL] at hO
          have nzc : Lzc.length ≤ 16 := by rw [hL]; simp
          obtain ⟨azc, czc, rfl⟩ := hO.shape
          replace Mmd := Lib.hid (Mmd.out.below hb)
          replace Mlt := Lib.hid (Mlt.out.below hb)
          replace Mza := Lib.hid (Mza.out.below hb)
          replace Mkn := Lib.hid (Mkn.out.below hb)
          replace Mzb := Lib.hid (Mzb.out.below hb)
          replace Mzn := Lib.hid (Mzn.out.below hb)
          have Mzc := Lib.hid hO.bl
          have Ezc := Lib.hid hL
          replace U := Lib.hid (U.out.trans (hb.mono hs_))
          clear hO hb hL hs_
          have hs_ := U.out.size
          go_wp2_with fail
          refine (turned_any _).mono ?_
          rintro e x46 ⟨r, rfl, hO, hb⟩
          obtain ⟨Lmt, hL⟩ : ∃ L, L = matL := ⟨_, rfl⟩
          rw [← hL] at hO
          have nmt : Lmt.length ≤ 36 := by rw [hL]; simp [matL_length]
          obtain ⟨amt, cmt, rfl⟩ := hO.shape
          replace Mmd := Lib.hid (Mmd.out.below hb)
          replace Mlt := Lib.hid (Mlt.out.below hb)
          replace Mza := Lib.hid (Mza.out.below hb)
          replace Mkn := Lib.hid (Mkn.out.below hb)
          replace Mzb := Lib.hid (Mzb.out.below hb)
          replace Mzn := Lib.hid (Mzn.out.below hb)
          replace Mzc := Lib.hid (Mzc.out.below hb)
          have Mmt := Lib.hid hO.bl
          have Emt := Lib.hid hL
          replace U := Lib.hid (U.out.trans (hb.mono hs_))
          clear hO hb hL hs_
          have hs_ := U.out.size
          go_wp2_with fail
          refine (zeros_any 8 _ (by decide)).mono ?_
          rintro e x47 ⟨r, rfl, hO, hb⟩
          obtain ⟨Lzd, hL⟩ : ∃ L, L = (List.replicate 8 0 : List Int) := ⟨_, rfl⟩
          rw [← hL] at hO
          have nzd : Lzd.length ≤ 8 := by rw [hL]; simp
          obtain ⟨azd, czd, rfl⟩ := hO.shape
          replace Mmd := Lib.hid (Mmd.out.below hb)
          replace Mlt := Lib.hid (Mlt.out.below hb)
          replace Mza := Lib.hid (Mza.out.below hb)
          replace Mkn := Lib.hid (Mkn.out.below hb)
          replace Mzb := Lib.hid (Mzb.out.below hb)
          replace Mzn := Lib.hid (Mzn.out.below hb)
          replace Mzc := Lib.hid (Mzc.out.below hb)
          replace Mmt := Lib.hid (Mmt.out.below hb)
          have Mzd := Lib.hid hO.bl
          have Ezd := Lib.hid hL
          replace U := Lib.hid (U.out.trans (hb.mono hs_))
          clear hO hb hL hs_
          have hs_ := U.out.size
          have Llt : List Int := [0, 0, 0, 3]
          clear Llt
          go_wp2_with fail
          refine (box_any nTkhd _ [[0, 0, 0, 3], Lza, Lkn, Lzb, Lzn, Lzc, Lmt, Lzd] _ (JL.build (w := x47) (vs := [.slice (some ⟨gl, 0, none⟩) 4 4, .slice aza Lza.length cza, .slice akn Lkn.length ckn, .slice azb Lzb.length czb, .slice azn Lzn.length czn, .slice azc Lzc.length czc, .slice amt Lmt.length cmt, .slice azd Lzd.length czd]) (Ls := [[0, 0, 0, 3], Lza, Lkn, Lzb, Lzn, Lzc, Lmt, Lzd]) 22 ⟨Mlt.out, Mza.out, Mkn.out, Mzb.out, Mzn.out, Mzc.out, Mmt.out, Mzd.out, trivial⟩) (by simp) (by simp; omega) (by decide)).mono ?_
          rintro e x48 ⟨r, rfl, hO, hb⟩
          replace hb : Below x47.heap.size x47 x48 := (below_box x47 _).trans (hb.mono (by simp))
          obtain ⟨Ltk, hL⟩ : ∃ L, L = boxL nTkhd [[0, 0, 0, 3], Lza, Lkn, Lzb, Lzn, Lzc, Lmt, Lzd].flatten := ⟨_, rfl⟩
          rw [← hL] at hO
          have ntk : Ltk.length ≤ 92 := by rw [hL]; rw [boxL_length _ _ rfl]; simp; omega
          obtain ⟨atk, ctk, rfl⟩ := hO.shape
          replace Mmd := Lib.hid (Mmd.out.below hb)
          replace Mlt := Lib.hid (Mlt.out.below hb)
          replace Mza := Lib.hid (Mza.out.below hb)
          replace Mkn := Lib.hid (Mkn.out.below hb)
          replace Mzb := Lib.hid (Mzb.out.below hb)
          replace Mzn := Lib.hid (Mzn.out.below hb)
          replace Mzc := Lib.hid (Mzc.out.below hb)
          replace Mmt := Lib.hid (Mmt.out.below hb)
          replace Mzd := Lib.hid (Mzd.out.below hb)
          have Mtk := Lib.hid hO.bl
          have Etk := Lib.hid hL
          replace U := Lib.hid (U.out.trans (hb.mono hs_))
          clear hO hb hL hs_
          have hs_ := U.out.size
          clear Mlt Mza Mkn Mzb Mzn Mzc Mmt Mzd
          have etk : Ltk = boxL nTkhd (tkhdL (k0 + 1)) := by rw [Etk.out, Eza.out, Ekn.out, Ezb.out, Ezn.out, Ezc.out, Emt.out, Ezd.out]; simp [tkhdL, zs]
          clear Etk Eza Ekn Ezb Ezn Ezc Emt Ezd
          have Etk := Lib.hid etk
          clear etk
          replace HXq := Lib.hid (HX.out.below U.out)
          obtain ⟨z0, z1, z2, z3, z4⟩ := HXq.out
          by_cases hne : T.nE = 0
          · skip
            have hdec : ((T.nE : Int) == 0) = true := by simp [hne]
            have hdec2 : ((T.nE : Int) = 0) := by omega
            have HNE := Lib.hid hne
            clear hne hdec2
            go_wp2_with fail
            refine (box_any nTrak _ [Ltk, Lmd] _ (JL.build (w := x48) (vs := [.slice atk Ltk.length ctk, .slice amd Lmd.length cmd]) (Ls := [Ltk, Lmd]) 22 ⟨Mtk.out, Mmd.out, trivial⟩) (by simp) (by simp; omega) (by decide)).mono ?_
            rintro e x49 ⟨r, rfl, hO, hb⟩
            replace hb : Below x48.heap.size x48 x49 := (below_box x48 _).trans (hb.mono (by simp))
            obtain ⟨Ltr, hL⟩ : ∃ L, L = boxL nTrak [Ltk, Lmd].flatten := ⟨_, rfl⟩
            rw [← hL] at hO
            have ntr : Ltr.length ≤ 6500 := by rw [hL]; rw [boxL_length _ _ rfl]; simp; omega
            obtain ⟨atr, ctr, rfl⟩ := hO.shape
            replace Mmd := Lib.hid (Mmd.out.below hb)
            replace Mtk := Lib.hid (Mtk.out.below hb)
            have Mtr := Lib.hid hO.bl
            have Etr := Lib.hid hL
            replace U := Lib.hid (U.out.trans (hb.mono hs_))
            have Otr := Lib.hid (hO.mono (show w.heap.size ≤ _ by simp; omega))
            clear hO hb hL hs_
            have hs_ := U.out.size
            go_wp2_with fail
            go_ret
            refine ⟨_, rfl, ?_, HB1.out.trans (U.out.mono (by omega))⟩
            have hfin : Ltr = rtrakL T (k0 + 1) first := by rw [Etr.out, Etk.out, Emd.out]; unfold rtrakL; rw [if_pos HNE.out]
            rw [← hfin]
            exact Otr.out
          · skip
            have hdec : ((T.nE : Int) == 0) = false := by simp [hne]
            have HNE := Lib.hid hne
            clear hne
            obtain ⟨wb, hwb⟩ : ∃ x, x = x48 := ⟨_, rfl⟩
            rw [← hwb] at Mmd Mtk U hs_ HXq z0 z1 z2 z3 z4 ⊢
            clear hwb
            have HEb := Lib.hid (HE4.out.below (HB1.out.trans (U.out.mono (by omega))))
            go_wp2_with fail
            refine (nums_any _ [0, (T.nE : Int)] _ (IL.build wb [0, (T.nE : Int)] 2) (by simp)).mono ?_
            rintro e wf ⟨r, rfl, hO, hb⟩
            replace hb : Below wb.heap.size wb wf := (below_box wb _).trans (hb.mono (by simp))
            obtain ⟨Le, hLe⟩ : ∃ L, L = numsL [0, (T.nE : Int)] := ⟨_, rfl⟩
            rw [← hLe] at hO
            have nLe : Le.length = 8 := by rw [hLe, numsL_length]; rfl
            have HLe := Lib.hid hLe
            have HNe := Lib.hid nLe
            have HOe := Lib.hid (hO.mono (show wb.heap.size ≤ _ by simp))
            have HBe := Lib.hid hb
            obtain ⟨z0', z1', z2', z3', z4'⟩ := HXq.out.below hb
            clear hO hb hLe nLe z0 z1 z2 z3 z4
            obtain ⟨re, ce, hre⟩ := HOe.out.shape
            subst hre
            go_wp2_with fail
            go_loopw [18, 19] (fun v i wr => ∃ k : Nat, k ≤ T.nE ∧ i = .int .i64 (k : Int) ∧ Own wr wb.heap.size v (Le ++ edL T.E k) ∧ Below wb.heap.size wb wr) (fun _ i _ => T.nE - (intOf i).toNat)
            case atStart => exact ⟨0, Nat.zero_le _, rfl, by rw [show edL T.E 0 = [] from rfl, List.append_nil]; exact HOe.out, HBe.out⟩
            case round =>
              obtain ⟨k, hk, rfl, hO, hB⟩ := hrel
              have HO := Lib.hid hO
              have HB := Lib.hid hB
              have hsb := hB.size
              have y4 := (HXq.out.below hB).k4
              clear z0' z1' z2' z3' z4' HOe HBe
              by_cases hlt : k < T.nE
              · obtain ⟨ao, c', e, hcc, H⟩ := HEb.out
                simp only [Value.slice.injEq, true_and] at e
                obtain ⟨rfl, rfl⟩ := e
                obtain ⟨b', o', rfl, h0, h1⟩ := H k hlt
                have H0 := Lib.hid (show wb.cell? ⟨b', o' + k * 2, none⟩ = some (.int .i64 (T.E k).dur) ∧ wb.cell? ⟨b', o' + k * 2 + 1, none⟩ = some (.int .i64 (T.E k).time) from ⟨h0, h1⟩)
                have hbl := block_lt_of_cell h0
                clear H hO hB h0 h1
                go_upto_region 22 with fail
                refine Plan.wp_region_plan (fun w' => Below wb.heap.size wb w') (([0, 1, 2, 3, 4, 5, 6, 7, 8, 9, 10, 11, 12].map (·, true)) ++ ([13, 14, 15, 16].map (·, false))) (by kernel_rfl) (by kernel_rfl) (by kernel_rfl) HB.out.drew ?_
                refine' Plan.plan_seg _ [0, 1, 2, 3, 4, 5, 6, 7, 8, 9, 10, 11, 12] ([13, 14, 15, 16].map (·, false)) (by kernel_rfl) (by kernel_rfl) rfl (by exact HB.out.drew) (fun wx hS => ?_) ?_
                rotate_left
                · have y0 := (hS.cell (p := ⟨b', o' + k * 2, none⟩) hbl).trans H0.out.1
                  have y1 := (hS.cell (p := ⟨b', o' + k * 2 + 1, none⟩) hbl).trans H0.out.2
                  have y4' := (HXq.out.below hS).k4
                  clear hS
                  go_light
                  iterate 13 (apply Plan.seg_pick; rfl; intro K hK; go_wp)
                  exact Plan.seg_nil
                obtain ⟨wd, hwd⟩ : ∃ x, x = wr.drew := ⟨_, rfl⟩
                rw [← hwd]
                have HD := Lib.hid (show Below wb.heap.size wb wd by rw [hwd]; exact HB.out.drew)
                have HOd := Lib.hid (show Own wd wb.heap.size u18 (Le ++ edL T.E k) by rw [hwd]; exact HO.out.below (Below.refl _ _).drew)
                have hsd := HD.out.size
                clear hwd
                refine Plan.plan_of_effect rfl (fun K hK => ?_)
                go_wp2_with fail
                refine ⟨HD.out.trans ((below_box wd _).mono hsd), ?_⟩
                refine Plan.plan_of_effect rfl (fun K hK => ?_)
                go_wp2_with fail
                refine (nums_any _ [(T.E k).dur, (T.E k).time, 65536] _ (IL.build wd [(T.E k).dur, (T.E k).time, 65536] 2) (by simp)).mono ?_
                rintro e wg ⟨r, rfl, hN, hb⟩
                replace hb : Below wd.heap.size wd wg := (below_box wd _).trans (hb.mono (by simp))
                have HG := Lib.hid (HD.out.trans (hb.mono hsd))
                have hsg := HG.out.size
                have HN := Lib.hid hN.bl
                have HOg := Lib.hid (HOd.out.below hb)
                have hlen : (Le ++ edL T.E k).length + (numsL [(T.E k).dur, (T.E k).time, 65536]).length ≤ 100000000 := by rw [List.length_append, HNe.out, edL_length, numsL_length]; simp; omega
                have HLN := Lib.hid hlen
                clear hN hb hlen HD HOd hsd
                go_wp2_with fail
                refine ⟨HG.out, ?_⟩
                refine Plan.plan_of_effect rfl (fun K hK => ?_)
                refine wpList_adv wg rfl (.tmp 161) (.tmp 175) rfl wb.heap.size _ _ (Le ++ edL T.E k) (numsL [(T.E k).dur, (T.E k).time, 65536]) rfl HOg.out rfl HN.out HLN.out (by omega) ?_
                intro v2 wh hO2 hA2
                have hup : Below wb.heap.size wb wh := HG.out.trans (hA2.up HOg.out (by omega))
                have HO2 := Lib.hid (show Own wh wb.heap.size v2 (Le ++ edL T.E (k + 1)) by rw [show edL T.E (k + 1) = edL T.E k ++ numsL [(T.E k).dur, (T.E k).time, 65536] from rfl, ← List.append_assoc]; exact hO2)
                have HUP := Lib.hid hup
                clear hO2 hA2 hup HOg HN HLN HG hsg
                go_wp2_with fail
                refine ⟨HUP.out, ?_⟩
                refine Plan.plan_of_effect rfl (fun K hK => ?_)
                go_wp2_with fail
                refine ⟨HUP.out, ?_⟩
                refine Plan.plan_done ?_
                go_wp2_with fail
                exact ⟨⟨k + 1, by omega, by go_num, HO2.out, HUP.out⟩, by simp [intOf]; omega⟩
              · obtain rfl : k = T.nE := by omega
                obtain ⟨Ll, hLl⟩ : ∃ L, L = Le ++ edL T.E T.nE := ⟨_, rfl⟩
                rw [← hLl] at hO
                have nl : Ll.length ≤ 850 := by rw [hLl, List.length_append, HNe.out, edL_length]; omega
                obtain ⟨al, cl, hl_⟩ := hO.shape
                subst hl_
                have Ml := Lib.hid hO.bl
                have El := Lib.hid (hLl.trans (by rw [HLe.out]))
                replace Mtk := Lib.hid (Mtk.out.below hB)
                replace Mmd := Lib.hid (Mmd.out.below hB)
                replace U := Lib.hid (U.out.trans (hB.mono hs_))
                clear hO hB HO HB hLl hs_
                have hs_ := U.out.size
                go_wp2_with fail
                refine (box_any nElst _ [Ll] _ (JL.build (w := wr) (vs := [.slice al Ll.length cl]) (Ls := [Ll]) 22 ⟨Ml.out, trivial⟩) (by simp) (by simp; omega) (by decide)).mono ?_
                rintro e x61 ⟨r, rfl, hO, hb⟩
                replace hb : Below wr.heap.size wr x61 := (below_box wr _).trans (hb.mono (by simp))
                obtain ⟨Les, hL⟩ : ∃ L, L = boxL nElst [Ll].flatten := ⟨_, rfl⟩
                rw [← hL] at hO
                have nes : Les.length ≤ 858 := by rw [hL]; rw [boxL_length _ _ rfl]; simp; omega
                obtain ⟨aes, ces, rfl⟩ := hO.shape
                replace Mtk := Lib.hid (Mtk.out.below hb)
                replace Mmd := Lib.hid (Mmd.out.below hb)
                replace Ml := Lib.hid (Ml.out.below hb)
                have Mes := Lib.hid hO.bl
                have Ees := Lib.hid hL
                replace U := Lib.hid (U.out.trans (hb.mono hs_))
                clear hO hb hL hs_
                have hs_ := U.out.size
                clear Ml
                go_wp2_with fail
                refine (box_any nEdts _ [Les] _ (JL.build (w := x61) (vs := [.slice aes Les.length ces]) (Ls := [Les]) 22 ⟨Mes.out, trivial⟩) (by simp) (by simp; omega) (by decide)).mono ?_
                rintro e x62 ⟨r, rfl, hO, hb⟩
                replace hb : Below x61.heap.size x61 x62 := (below_box x61 _).trans (hb.mono (by simp))
                obtain ⟨Led, hL⟩ : ∃ L, L = boxL nEdts [Les].flatten := ⟨_, rfl⟩
                rw [← hL] at hO
                have ned : Led.length ≤ 866 := by rw [hL]; rw [boxL_length _ _ rfl]; simp; omega
                obtain ⟨aed, ced, rfl⟩ := hO.shape
                replace Mtk := Lib.hid (Mtk.out.below hb)
                replace Mmd := Lib.hid (Mmd.out.below hb)
                replace Mes := Lib.hid (Mes.out.below hb)
                have Med := Lib.hid hO.bl
                have Eed := Lib.hid hL
                replace U := Lib.hid (U.out.trans (hb.mono hs_))
                clear hO hb hL hs_
                have hs_ := U.out.size
                clear Mes
                go_wp2_with fail
                refine (box_any nTrak _ [Ltk, Led, Lmd] _ (JL.build (w := x62) (vs := [.slice atk Ltk.length ctk, .slice aed Led.length ced, .slice amd Lmd.length cmd]) (Ls := [Ltk, Led, Lmd]) 22 ⟨Mtk.out, Med.out, Mmd.out, trivial⟩) (by simp) (by simp; omega) (by decide)).mono ?_
                rintro e x63 ⟨r, rfl, hO, hb⟩
                replace hb : Below x62.heap.size x62 x63 := (below_box x62 _).trans (hb.mono (by simp))
                obtain ⟨Ltr, hL⟩ : ∃ L, L = boxL nTrak [Ltk, Led, Lmd].flatten := ⟨_, rfl⟩
                rw [← hL] at hO
                have ntr : Ltr.length ≤ 7366 := by rw [hL]; rw [boxL_length _ _ rfl]; simp; omega
                obtain ⟨atr, ctr, rfl⟩ := hO.shape
                replace Mtk := Lib.hid (Mtk.out.below hb)
                replace Mmd := Lib.hid (Mmd.out.below hb)
                replace Med := Lib.hid (Med.out.below hb)
                have Mtr := Lib.hid hO.bl
                have Etr := Lib.hid hL
                replace U := Lib.hid (U.out.trans (hb.mono hs_))
                have Otr := Lib.hid (hO.mono (show w.heap.size ≤ _ by simp; omega))
                clear hO hb hL hs_
                have hs_ := U.out.size
                go_wp2_with fail
                go_ret
                refine ⟨_, rfl, ?_, HB1.out.trans (U.out.mono (by omega))⟩
                have hfin : Ltr = rtrakL T (k0 + 1) first := by rw [Etr.out, Etk.out, Emd.out, Eed.out, Ees.out, El.out]; unfold rtrakL; rw [if_neg HNE.out]
                rw [← hfin]
                exact Otr.out
end Go.Proofs.Ytkhjkemllgjfmaa
