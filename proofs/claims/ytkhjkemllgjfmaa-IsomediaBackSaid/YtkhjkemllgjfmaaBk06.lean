/- Texts of this claim joined: BB YQ YR. -/
import Derived.Deep.MidRow
import Derived.Great.Walk
import Derived.Deep.CutRange
import Derived.Test.YtkhjkemllgjfmaaBk01
import Derived.Test.YtkhjkemllgjfmaaBk05
set_option linter.unusedVariables false
set_option linter.unusedSimpArgs false

/- A box loaded and stored as a whole; byType. -/
namespace Go.Proofs.Ytkhjkemllgjfmaa
open Go.RowKit
set_option linter.unusedVariables false
set_option linter.unusedSimpArgs false
theorem bxC_one (x : Bx) : (bxC x).toArray.all (·.oneCell') = true := by simp [bxC, Value.oneCell']
/-- A variable that holds a box. -/
structure VB (w : World) (b : Nat) (x : Bx) : Prop where
  r : w.rangeAt b 0 (bxC x)
  f : ∀ o, w.frozen? ⟨b, o, none⟩ = false
theorem VB.k0 {w : World} {b : Nat} {x : Bx} (h : VB w b x) : w.cell? ⟨b, 0, none⟩ = some (.string x.nm) := h.r 0 _ rfl
theorem VB.k1 {w : World} {b : Nat} {x : Bx} (h : VB w b x) : w.cell? ⟨b, 1, none⟩ = some (.int .i64 (x.p : Int)) := h.r 1 _ rfl
theorem VB.k2 {w : World} {b : Nat} {x : Bx} (h : VB w b x) : w.cell? ⟨b, 2, none⟩ = some (.int .i64 ((x.p : Int) + 8)) := h.r 2 _ rfl
theorem VB.k3 {w : World} {b : Nat} {x : Bx} (h : VB w b x) : w.cell? ⟨b, 3, none⟩ = some (.int .i64 ((x.p : Int) + (x.sz : Int))) := h.r 3 _ rfl
theorem VB.lt {w : World} {b : Nat} {x : Bx} (h : VB w b x) : b < w.heap.size := block_lt_of_cell h.k0
theorem VB.of {w : World} {b : Nat} {x : Bx} (h0 : w.cell? ⟨b, 0, none⟩ = some (.string x.nm)) (h1 : w.cell? ⟨b, 1, none⟩ = some (.int .i64 (x.p : Int))) (h2 : w.cell? ⟨b, 2, none⟩ = some (.int .i64 ((x.p : Int) + 8))) (h3 : w.cell? ⟨b, 3, none⟩ = some (.int .i64 ((x.p : Int) + (x.sz : Int)))) (hf : ∀ o, w.frozen? ⟨b, o, none⟩ = false) : VB w b x := by
  refine ⟨fun j u hj => ?_, hf⟩
  have hl := (List.getElem?_eq_some_iff.1 hj).1
  have hl4 : j < 4 := hl
  rcases (show j = 0 ∨ j = 1 ∨ j = 2 ∨ j = 3 by omega) with rfl | rfl | rfl | rfl
  · simp only [bxC, List.getElem?_cons_zero, Option.some.injEq] at hj; subst hj; exact h0
  · simp only [bxC, List.getElem?_cons_zero, List.getElem?_cons_succ, Option.some.injEq] at hj; subst hj; exact h1
  · simp only [bxC, List.getElem?_cons_zero, List.getElem?_cons_succ, Option.some.injEq] at hj; subst hj; exact h2
  · simp only [bxC, List.getElem?_cons_zero, List.getElem?_cons_succ, Option.some.injEq] at hj; subst hj; exact h3
theorem VB.block {w w' : World} {b : Nat} {x : Bx} (h : VB w b x) (e : w'.heap[b]? = w.heap[b]?) : VB w' b x :=
  ⟨fun j u hj => (World.cell?_of_block (a := ⟨b, 0 + j, none⟩) e).trans (h.r j u hj), fun o => (World.frozen?_of_block (a := ⟨b, o, none⟩) e).trans (h.f o)⟩
theorem VB.below {w w' : World} {b : Nat} {x : Bx} (h : VB w b x) (hb : Below w.heap.size w w') : VB w' b x := h.block (hb.block b h.lt)
theorem VB.box (w : World) (x : Bx) (t : TypeId) : VB (w.alloc (.cells (bxC x).toArray t)) w.heap.size x :=
  VB.of (by simp [go_sem, bxC]) (by simp [go_sem, bxC]) (by simp [go_sem, bxC]) (by simp [go_sem, bxC]) (fun o => by simp [go_sem])
def bx0 : Bx := ⟨⟨#[]⟩, 0, 0⟩
theorem below_setCells {n : Nat} {w0 : World} (b : Nat) (hb : n ≤ b) : ∀ (vs : List Value) (o : Nat) (w : World), Below n w0 w → Below n w0 (w.setCells b o vs)
  | [], _, _, h => h
  | v :: r, o, w, h => by rw [World.setCells]; exact below_setCells b hb r (o + 1) _ (h.setCell hb _)
/-- Four cells of a variable of the box's type. -/
structure Z4 (w : World) (b : Nat) : Prop where
  t : w.there b 0 4
  f : ∀ o, w.frozen? ⟨b, o, none⟩ = false
theorem VB.there {w : World} {b : Nat} {x : Bx} (h : VB w b x) : w.there b 0 4 := fun j hj => ⟨by
  have hj' : j < (bxC x).length := hj
  rw [h.r j _ (List.getElem?_eq_getElem hj')]; rfl, h.f _⟩
theorem wpl_loadB {ops : Array Oper} {rest : List Oper} {op : Oper} {a : Act} {w : World} {Q : Exit → Act → World → Prop} {b o : Nat} {x : Bx} {y : Operand} (hc : w.rangeAt b o (bxC x)) (hgd : op.guard = none) (ho : op.op = .load 31 y)
    (hx : a.eval y = .pointer (some ⟨b, o, none⟩)) (h : wpList Try.prog ops Q rest (a.put op.dst (.agg (bxC x).toArray)) w) : wpList Try.prog ops Q (op :: rest) a w :=
  wpList_load_mid hgd 31 y ho b o hx (bxC x) _ hc Try.underlying31 rfl (by kernel_rfl) h
theorem wpl_allocB {ops : Array Oper} {rest : List Oper} {op : Oper} {a : Act} {w : World} {Q : Exit → Act → World → Prop} (hgd : op.guard = none) (ho : op.op = .alloc 31)
    (h : ∀ w', w'.there w.heap.size 0 4 → (∀ o, w'.frozen? ⟨w.heap.size, o, none⟩ = false) → Below w.heap.size w w' → w'.heap.size = w.heap.size + 1 → wpList Try.prog ops Q rest (a.put op.dst (.pointer (some ⟨w.heap.size, 0, none⟩))) w') : wpList Try.prog ops Q (op :: rest) a w := by
  refine Great.wpList_runTo hgd _ rfl (.pointer (some ⟨w.heap.size, 0, none⟩)) (w.alloc (.cells #[.string ⟨#[]⟩, .int .i64 0, .int .i64 0, .int .i64 0] 31)) ?_ (h _ (fun j hj => ?_) (fun o => by simp [go_sem]) (below_box _ _) (by simp))
  · unfold execOp
    rw [ho]
    simp [go_sem]
  · have hj4 : j < 4 := hj
    rcases (show j = 0 ∨ j = 1 ∨ j = 2 ∨ j = 3 by omega) with rfl | rfl | rfl | rfl <;> exact ⟨by simp [go_sem], by simp [go_sem]⟩
theorem wpl_storeB {ops : Array Oper} {rest : List Oper} {op : Oper} {a : Act} {w : World} {Q : Exit → Act → World → Prop} {b : Nat} (e : Bx) {x y : Operand} (ht : w.there b 0 4) (hf : ∀ o, w.frozen? ⟨b, o, none⟩ = false) (hgd : op.guard = none) (ho : op.op = .store 31 x y)
    (hx : a.eval x = .pointer (some ⟨b, 0, none⟩)) (hy : a.eval y = .agg (bxC e).toArray)
    (h : ∀ w', VB w' b e → (∀ b2, b2 ≠ b → w'.heap[b2]? = w.heap[b2]?) → w'.heap.size = w.heap.size → (∀ n w0, n ≤ b → Below n w0 w → Below n w0 w') → wpList Try.prog ops Q rest (a.put op.dst undef) w') : wpList Try.prog ops Q (op :: rest) a w :=
  wpList_store_mid hgd 31 x y ho b 0 (bxC e).toArray hx hy ht (by kernel_rfl) (bxC_one e)
    (h _ ⟨fun j u hj => World.rangeAt_setCells_same w b 0 (bxC e) ht j u hj, fun o => (World.frozen?_setCells b _ _ w _).trans (hf o)⟩
      (fun b2 hn => by
        have : ∀ (vs : List Value) (o : Nat) (w : World), (w.setCells b o vs).heap[b2]? = w.heap[b2]? := by
          intro vs
          induction vs with
          | nil => intro o w; rfl
          | cons v r ih => intro o w; rw [World.setCells, ih]; simp [World.setCell, Array.getElem?_modify, hn.symm]
        exact this _ _ _)
      (by
        have : ∀ (vs : List Value) (o : Nat) (w : World), (w.setCells b o vs).heap.size = w.heap.size := by
          intro vs
          induction vs with
          | nil => intro o w; rfl
          | cons v r ih => intro o w; rw [World.setCells, ih]; simp
        exact this _ _ _)
      (fun n w0 hn hb => below_setCells b hn _ _ _ hb))
theorem growB {w w' : World} {n : Nat} {row : Option Nat} {w0 : World} (h : Below n w0 w) (hn : n ≤ w0.heap.size) (hg : w.grownBy w' row) (hr : ∀ k, row = some k → n ≤ k) : Below n w0 w' :=
  ⟨hg.os.trans h.os, hg.tape.trans h.tape, hg.output.trans h.output, Nat.le_trans h.size hg.size, fun k hk => by
    have hk2 : k < w.heap.size := Nat.lt_of_lt_of_le hk (Nat.le_trans hn h.size)
    exact (hg.block k hk2 (fun e => by have := hr k e.symm; omega)).trans (h.block k hk)⟩
theorem info31z : ∃ i, Try.prog.info? 31 = some i ∧ i.zero = some (.agg #[.string { data := #[] }, .int .i64 0, .int .i64 0, .int .i64 0]) ∧ i.size = 4 ∧ i.bytes = 40 := by
  have h := info31
  cases hi : Try.prog.info? 31 with
  | none => rw [hi] at h; cases h
  | some i =>
    rw [hi] at h
    simp only [Option.map_some, Option.some.injEq, Prod.mk.injEq] at h
    exact ⟨i, rfl, h.1, h.2.1, h.2.2⟩
/-- append of one box to an own row of boxes. -/
theorem wpList_appB (w : World) {ops : Array Oper} {rest : List Oper} {op : Oper} {a : Act} {Q : Exit → Act → World → Prop} (hg : op.guard = none) (s x : Operand) (dst : Option Tmp) (hdst : op.dst = dst)
    (hop : op.op = .call { callee := .builtin .append, args := #[s, x], argTypes := #[23, 23] }) (B : Nat) (v : Value) (l : List Bx) (hs : a.eval s = v) (h : RowB w B v l) (hB : B ≤ w.heap.size)
    (b m : Nat) (c : Bx) (hx : a.eval x = .slice (some ⟨b, 0, none⟩) 1 m) (hc : w.rangeAt b 0 (bxC c)) (hl : l.length ≤ 1048576)
    (hK : ∀ v' w', RowB w' B v' (l ++ [c]) → w.grownBy w' v.ownBlock → (v'.ownBlock = v.ownBlock ∨ v'.ownBlock = some w.heap.size) → wpList Try.prog ops Q rest (a.put dst v') w') : wpList Try.prog ops Q (op :: rest) a w := by
  subst hdst
  obtain ⟨i, hi, hz, hs4, hb40⟩ := info31z
  refine wpList_append_own_at w hg s x 23 hop B 31 i _ 4 40 Try.underlying23 hi hz hs4 hb40 rfl (by decide) v l.length (bxs l) hs h ⟨b, 0, none⟩ 1 m (bxC c) hx rfl (fun j u hu => ?_) (fun u hu => ?_) (by unfold maxLen; omega) (by omega) hB ?_
  · rw [show (⟨b, 0, none⟩ : Addr).add j = ⟨b, 0 + j, none⟩ from Addr.add_mid b 0 j]
    exact hc j u hu
  · have := bxC_one c
    simp only [Array.all_eq_true'] at this
    exact this u (by simpa using hu)
  · intro v' w' h1 h2 _ h4
    refine hK v' w' ?_ h2 h4
    show w'.ownsRow B 31 4 v' (l ++ [c]).length (bxs (l ++ [c]))
    rw [bxs_append, List.length_append]
    simpa [bxs] using h1
theorem built_box (b : Bx) : Try.prog.builtSlice 31 1 [(0, .agg (bxC b).toArray)] = some (bxC b).toArray := by kernel_rfl
theorem RowB.range {w : World} {B : Nat} {v : Value} {l : List Bx} (h : RowB w B v l) {i : Nat} {b : Bx} (hi : l[i]? = some b) :
    ∃ g c, v = .slice (some ⟨g, 0, none⟩) l.length c ∧ l.length ≤ c ∧ w.rangeAt g (i * 4) (bxC b) := by
  obtain ⟨g, c, e, hc, hx⟩ := owns_open h (by have := (List.getElem?_eq_some_iff.1 hi).1; omega)
  exact ⟨g, c, e, hc, fun j u hj => hx _ _ ((bxs_at hi (List.getElem?_eq_some_iff.1 hj).1).trans hj)⟩
set_option maxRecDepth 100000 in
set_option maxHeartbeats 8000000 in
theorem bytype_any (v : Value) (l : List Bx) (B0 : Nat) (w : World) (h : RowB w B0 v l) (hl : l.length ≤ 1000000) (hnm : ∀ b ∈ l, b.nm.size ≤ 4) :
    Calls Try.prog 48 #[v] w fun e w' => ∃ mb, e = .returned (.map (some mb)) ∧ DirA w' w.heap.size mb l ∧ Below w.heap.size w w' := by
  have HV := Lib.hid h
  obtain ⟨va, vc, rfl⟩ := h.shape
  have HN := Lib.hid hnm
  obtain ⟨N, hN⟩ : ∃ N, N = l.length := ⟨_, rfl⟩
  rw [← hN] at hl HV ⊢
  have HL := Lib.hid hN
  clear hN h hnm
  have hmm := @run_makeMap Try.prog
  go_enter Try.func48, Try.ntmps48
  go_upto_region 2 with fail
  clear hmm
  obtain ⟨w1, hw1⟩ : ∃ y, y = w.alloc (.map #[] 0) := ⟨_, rfl⟩
  obtain ⟨mb, hmb⟩ : ∃ y, y = w.heap.size := ⟨_, rfl⟩
  have hD : DirA w1 w.heap.size mb [] := by rw [hw1, hmb]; exact DirA.made w _
  have hB : Below w.heap.size w w1 := by rw [hw1]; exact below_box _ _
  have HM := Lib.hid hmb
  rw [← hw1, ← hmb]
  have HD := Lib.hid hD
  have HB := Lib.hid hB
  clear hw1 hmb hD hB
  go_wp2_with fail
  go_loopw [9] (fun i wr => ∃ k : Nat, k ≤ N ∧ i = .int .i64 (k : Int) ∧ DirA wr w.heap.size mb (l.take k) ∧ Below w.heap.size w wr) (fun i _ => N - (intOf i).toNat)
  case atStart => exact ⟨0, Nat.zero_le _, rfl, HD.out, HB.out⟩
  case round =>
    obtain ⟨k, hk, rfl, hD, hB⟩ := hrel
    by_cases hlt : k < N
    · have hlt' : (k : Int) < (N : Int) := by omega
      have hkl : k < l.length := by rw [← HL.out]; exact hlt
      obtain ⟨b, hb⟩ : ∃ b, l[k]? = some b := ⟨_, List.getElem?_eq_getElem hkl⟩
      have HC := Lib.hid hb
      have HDk := Lib.hid hD
      have HBk := Lib.hid hB
      obtain ⟨g, c, e, hc, hx⟩ := (HV.out.below hB).range hb
      rw [← HL.out] at e hc
      simp only [Value.slice.injEq, true_and] at e
      obtain ⟨rfl, rfl⟩ := e
      have HX := Lib.hid hx
      have hnb := HN.out b (List.mem_of_getElem? hb)
      have HNB := Lib.hid hnb
      obtain ⟨r, hrun, hrow, hrm, hat⟩ := hD.look b.nm (by unfold maxLen; omega)
      have HRUN := Lib.hid hrun
      have HROW := Lib.hid hrow
      have HAT := Lib.hid hat
      have HRM := Lib.hid hrm
      have HRB := Lib.hid (show ∀ q, r.ownBlock = some q → w.heap.size ≤ q ∧ q < wr.heap.size from World.ownsRow.lt hrow)
      have HMR := Lib.hid hD.lt
      clear hD hB hb hx hkl hnb hrun hrow hat hrm
      go_upto_region 4 with fail
      apply wp_region_lit
      iterate 3 go_step
      refine wpl_loadB HX.out rfl rfl (by first | rfl | simp) ?_
      refine wpl_allocB rfl rfl (fun w2 ht hf hb2 hs2 => ?_)
      refine wpl_storeB b ht hf rfl rfl rfl rfl ?_
      intro w3 hv ho3 hs3 hb3
      obtain ⟨g5, hg5⟩ : ∃ y, y = wr.heap.size := ⟨_, rfl⟩
      have hb : Below wr.heap.size wr w3 := hb3 _ _ (Nat.le_refl _) hb2
      have HX5 := Lib.hid (show VB w3 g5 b by rw [hg5]; exact hv)
      have HG := Lib.hid (show mb < g5 ∧ g5 ≠ mb ∧ w.heap.size < g5 ∧ (∀ q, r.ownBlock = some q → w.heap.size ≤ q ∧ q ≠ g5 ∧ q < g5) by
        have h1 := HMR.out
        have h2 := HM.out
        exact ⟨by omega, by omega, by omega, fun q hq => by have := HRB.out q hq; omega⟩)
      have HMB := Lib.hid (show w3.heap[mb]? = wr.heap[mb]? from hb.block mb HMR.out)
      have HS3 := Lib.hid (show g5 < w3.heap.size from HX5.out.lt)
      rw [← hg5]
      replace HDk := Lib.hid (HDk.out.below hb)
      replace HBk := Lib.hid (HBk.out.trans (hb.mono HBk.out.size))
      have HBW := Lib.hid hb
      clear ht hf hb2 hs2 hv ho3 hs3 hb3 hg5 hb HX
      simp only [Act.put, List.setIfInBounds_toArray, List.set_cons_succ, List.set_cons_zero]
      replace HROW := Lib.hid (HROW.out.below (show Below wr.heap.size wr w3 from HBW.out))
      go_upto_region 5 with fail
      have hbz : Below w3.heap.size w3 w3.drew := (Below.refl _ _).drew
      have hS : w3.drew.heap[mb]? = wr.heap[mb]? ∧ VB w3.drew g5 b := ⟨HMB.out, HX5.out.below hbz⟩
      refine Plan.wp_region_planz (fun w' => w'.heap[mb]? = wr.heap[mb]? ∧ VB w' g5 b) 10 (([0, 1, 2, 3, 4, 5, 6, 7].map (·, true)) ++ ([8, 9, 10].map (·, false))) (by kernel_rfl) (by kernel_rfl) (by kernel_rfl) hS ?_
      refine' Plan.plan_seg (S := fun w' => w'.heap[mb]? = wr.heap[mb]? ∧ VB w' g5 b) _ [0, 1, 2, 3, 4, 5, 6, 7] ([8, 9, 10].map (·, false)) (by kernel_rfl) (by kernel_rfl) rfl (by exact hS) (fun wx hS => ?_) ?_
      rotate_left
      · obtain ⟨s1, s2⟩ := hS
        have HV2 := Lib.hid s2
        have hr := HRUN.out wx s1
        have y0 := s2.k0
        clear s1 s2
        go_light
        iterate 7 (apply Plan.seg_pick; rfl; intro K hK; go_wp)
        (apply Plan.seg_pick; rfl; intro K hK)
        refine wpl_loadB HV2.out.r rfl rfl rfl ?_
        go_wp
        exact Plan.seg_nil
      replace HX5 := Lib.hid (HX5.out.below hbz)
      obtain ⟨w4, hw4⟩ : ∃ y, y = w3.drew := ⟨_, rfl⟩
      have HROW4 := Lib.hid (show RowB w4 w.heap.size r (pick b.nm (l.take k)) by rw [hw4]; exact HROW.out.below hbz)
      have HD4 := Lib.hid (show DirA w4 w.heap.size mb (l.take k) by rw [hw4]; exact HDk.out.below hbz)
      have HB4 := Lib.hid (show Below w.heap.size w w4 by rw [hw4]; exact HBk.out.trans (hbz.mono HBk.out.size))
      have HM4 := Lib.hid (show w4.heap[mb]? = wr.heap[mb]? by rw [hw4]; exact HMB.out)
      have HX4 := Lib.hid (show VB w4 g5 b by rw [hw4]; exact HX5.out)
      rw [← hw4]
      clear hw4 HX5 HROW HDk HBk HMB
      obtain ⟨C, hC⟩ : ∃ C, C = (bxC b).toArray := ⟨_, rfl⟩
      rw [← hC]
      have HCC := Lib.hid hC
      clear hC
      refine Plan.plan_of_effect rfl (fun K hK => ?_)
      refine Great.wpList_buildSliceTo rfl 23 31 1 #[(0, .tmp 20)] rfl w4.heap.size rfl (some 21) rfl Try.underlying23 C ?_ ?_
      · simp only [List.map_toArray, List.map_cons, List.map_nil, List.toList_toArray]
        rw [HCC.out]
        exact built_box b
      have hb := below_box w4 (.cells C 31)
      have HJ := Lib.hid (show (w4.alloc (.cells C 31)).rangeAt w4.heap.size 0 (bxC b) by rw [HCC.out]; exact (VB.box w4 b 31).r)
      obtain ⟨w5, hw5⟩ : ∃ x, x = w4.alloc (.cells C 31) := ⟨_, rfl⟩
      rw [← hw5] at hb HJ ⊢
      replace HROW4 := Lib.hid (HROW4.out.below hb)
      replace HX4 := Lib.hid (HX4.out.below hb)
      have HM5 := Lib.hid (show w5.heap[mb]? = wr.heap[mb]? from (hb.block mb HD4.out.lt).trans HM4.out)
      replace HD4 := Lib.hid (HD4.out.below hb)
      replace HB4 := Lib.hid (HB4.out.trans (hb.mono HB4.out.size))
      obtain ⟨h4, hh4⟩ : ∃ x, x = w4.heap.size := ⟨_, rfl⟩
      rw [← hh4] at HJ ⊢
      clear hb hw5 hh4 HM4
      simp only [Act.put, List.setIfInBounds_toArray, List.set_cons_succ, List.set_cons_zero]
      go_wp2_with fail
      refine ⟨⟨HM5.out, HX4.out⟩, ?_⟩
      refine Plan.plan_of_effect rfl (fun K hK => ?_)
      refine wpList_appB w5 rfl (.tmp 19) (.tmp 21) (some 22) rfl rfl w.heap.size r (pick b.nm (l.take k)) rfl HROW4.out HB4.out.size h4 1 b rfl HJ.out (by have h1 := pick_le b.nm (l.take k); have h2 : (l.take k).length ≤ k := (by rw [List.length_take]; omega); omega) ?_
      intro v' w6 a1 a2 a3
      have HR6 := Lib.hid a1
      have HG6 := Lib.hid a2
      have HO6 := Lib.hid a3
      have HM6 := Lib.hid (show w6.heap[mb]? = wr.heap[mb]? from (a2.block mb HD4.out.lt (fun e => HRM.out e.symm)).trans HM5.out)
      have HX6 := Lib.hid (show VB w6 g5 b from HX4.out.block (a2.block g5 HX4.out.lt (fun e => (HG.out.2.2.2 g5 e.symm).2.1 rfl)))
      obtain ⟨w7, hr7, hD7, hg7⟩ := HD4.out.put b (by have := HNB.out; unfold maxLen; omega) r v' HRM.out (fun es clock he e hme hke => HAT.out es clock (HM5.out.symm.trans he) e hme hke) a2 a1 (a3.imp id fun e => ⟨_, e, Nat.le_refl _⟩)
      have HD7 := Lib.hid (show DirA w7 w.heap.size mb (l.take (k + 1)) by rw [List.take_add_one, HC.out]; exact hD7)
      have HB7 := Lib.hid (show Below w.heap.size w w7 from growB (growB HB4.out (Nat.le_refl _) a2 (fun q hq => (HG.out.2.2.2 q hq).1)) (Nat.le_refl _) hg7 (fun q hq => by cases hq; rw [HM.out]; exact Nat.le_refl _))
      have y0 := HX6.out.k0
      clear a1 a2 a3 hD7 hg7
      simp only [Act.put, List.setIfInBounds_toArray, List.set_cons_succ, List.set_cons_zero]
      have HR7 := Lib.hid hr7
      clear hr7
      go_wp2_with fail
      refine ⟨⟨HM6.out, HX6.out⟩, ?_⟩
      have hr7 := HR7.out
      refine Plan.plan_of_last rfl (fun K hK => ?_)
      go_wp2_with fail
      refine Plan.plan_done ?_
      clear hr7 y0
      go_wp2_with fail
      go_roundw
      case rel => exact ⟨k + 1, by omega, by simp, HD7.out, HB7.out⟩
      case measure =>
        show N - (intOf (.int .i64 ((k : Int) + 1))).toNat < N - (intOf (.int .i64 (k : Int))).toNat
        simp [intOf]
        omega
    · have hkl : k = N := by omega
      have e : l.take k = l := List.take_of_length_le (by rw [← HL.out]; omega)
      rw [e] at hD
      have HDk := Lib.hid hD
      have HBk := Lib.hid hB
      clear hD hB e
      subst hkl
      go_wp2_with fail
      go_ret
      exact ⟨mb, rfl, HDk.out, HBk.out⟩
end Go.Proofs.Ytkhjkemllgjfmaa

/- The contract of the program's tables. -/
namespace Go.Proofs.Ytkhjkemllgjfmaa
open Go.RowKit
set_option linter.unusedVariables false
set_option linter.unusedSimpArgs false

def cfL (T : Tr) : List Int := (List.range T.nC).map T.C
theorem cfL_length (T : Tr) : (cfL T).length = T.nC := by simp [cfL]
def descL (T : Tr) : List Int := List.replicate 6 0 ++ [0, 1] ++ cfL T
def nStsd : ByteArray := ⟨#[115, 116, 115, 100]⟩
def nStts : ByteArray := ⟨#[115, 116, 116, 115]⟩
def nCtts : ByteArray := ⟨#[99, 116, 116, 115]⟩
def nStss : ByteArray := ⟨#[115, 116, 115, 115]⟩
def nStsz : ByteArray := ⟨#[115, 116, 115, 122]⟩
def nStsc : ByteArray := ⟨#[115, 116, 115, 99]⟩
def nStco : ByteArray := ⟨#[115, 116, 99, 111]⟩
def nCrsd : ByteArray := ⟨#[99, 114, 115, 100]⟩
def stsdL (T : Tr) : List Int := numsL [0, 1] ++ bytesT (.leaf nCrsd (descL T))
def stssL (T : Tr) : List Int := numsL [0, ((syncL T.S T.nS).length : Int)] ++ numsL (syncL T.S T.nS)
def stszL (T : Tr) : List Int := numsL [0, 0, ((sizeL T.S T.nS).length : Int)] ++ numsL (sizeL T.S T.nS)
def stcoL (T : Tr) (first : Int) : List Int := numsL [0, ((placeL T.S first T.nS).length : Int)] ++ numsL (placeL T.S first T.nS)
/-- The boxes of the sample table. -/
def stbl (T : Tr) (first : Int) (i : Nat) : CT :=
  if i = 0 then .leaf nStsd (stsdL T) else if i = 1 then .leaf nStts (runsL (fun i => (T.S i).dur) T.nS) else if i = 2 then .leaf nCtts (runsL (fun i => (T.S i).shift) T.nS)
  else if i = 3 then .leaf nStss (stssL T) else if i = 4 then .leaf nStsz (stszL T) else if i = 5 then .leaf nStsc chunkL else .leaf nStco (stcoL T first)
/-- A list of contents of the call's own. -/
def Parts (w' : World) (L : Nat) (v : Value) (n : Nat) (P : Nat → CT) : Prop := ∃ (g : Nat) (f : Nat → Value), v = .slice (some ⟨g, 0, none⟩) n n ∧ L ≤ g ∧ g < w'.heap.size ∧ (∀ i, i < n → w'.cell? ⟨g, 0 + i, none⟩ = some (f i)) ∧ ∀ i, i < n → ∀ no : Option Nat, (∀ q, no = some q → q < L) → CA w' no (f i) (P i)
theorem Parts.of_alloc {w : World} {t : TypeId} {n B : Nat} {P : Nat → CT} (L : List Value) (hn : L.length = n) (hB : B ≤ w.heap.size) (h : ∀ i v, L[i]? = some v → ∀ no : Option Nat, (∀ q, no = some q → q < B) → CA w no v (P i)) : Parts (w.alloc (.cells L.toArray t)) B (.slice (some ⟨w.heap.size, 0, none⟩) n n) n P := by
  subst hn
  have hs : (w.alloc (.cells L.toArray t)).heap.size = w.heap.size + 1 := by simp [go_sem]
  refine ⟨w.heap.size, fun i => L.getD i undef, rfl, hB, by omega, fun i hi => ?_, fun i hi no hno => ?_⟩
  · have hh : (w.alloc (.cells L.toArray t)).heap[w.heap.size]? = some (.cells L.toArray t (0, 0)) := by
      show (w.heap.push _)[w.heap.size]? = _
      simp
    simp only [World.cell?, hh, Nat.zero_add]
    simp [List.getD, List.getElem?_eq_getElem hi]
  · have := h i (L.getD i undef) (by simp [List.getD, List.getElem?_eq_getElem hi]) no hno
    exact this.bel (below_box _ _)
theorem Parts.below {w w' : World} {L n : Nat} {v : Value} {P : Nat → CT} (h : Parts w L v n P) (hb : Below w.heap.size w w') : Parts w' L v n P := by
  obtain ⟨g, f, rfl, h1, h2, h3, h4⟩ := h
  exact ⟨g, f, rfl, h1, Nat.lt_of_lt_of_le h2 hb.size, fun i hi => (hb.cell (by simpa using h2)).trans (h3 i hi), fun i hi no hno => (h4 i hi no hno).bel hb⟩
theorem Parts.mono {w : World} {L L' n : Nat} {v : Value} {P : Nat → CT} (h : Parts w L v n P) (hl : L' ≤ L) : Parts w L' v n P := by
  obtain ⟨g, f, rfl, h1, h2, h3, h4⟩ := h
  exact ⟨g, f, rfl, Nat.le_trans hl h1, h2, h3, fun i hi no hno => h4 i hi no (fun q hq => Nat.lt_of_lt_of_le (hno q hq) hl)⟩
def StblPost (w : World) (T : Tr) (first : Int) (e : Ending) (w' : World) : Prop := ∃ r, e = .returned r ∧ Parts w' w.heap.size r 7 (stbl T first) ∧ Below w.heap.size w w'

/-- What each operation of the last region has made. -/
def tabG (B : Nat) (T : Tr) (first : Int) (crs : Value) (i : Nat) (R : Nat → Prop) (v : Value) (w : World) : Prop :=
  match i with
  | 0 => GI [0, 1] R v w | 1 => GO B (numsL [0, 1]) R v w | 4 => v = crs | 5 => GO B (stsdL T) R v w | 6 => GB nStsd B (stsdL T) R v w | 7 => GF nStsd B (stsdL T) R v w
  | 10 => GO B (runsL (fun i => (T.S i).dur) T.nS) R v w | 11 => GB nStts B (runsL (fun i => (T.S i).dur) T.nS) R v w | 12 => GF nStts B (runsL (fun i => (T.S i).dur) T.nS) R v w
  | 15 => GO B (runsL (fun i => (T.S i).shift) T.nS) R v w | 16 => GB nCtts B (runsL (fun i => (T.S i).shift) T.nS) R v w | 17 => GF nCtts B (runsL (fun i => (T.S i).shift) T.nS) R v w
  | 20 => GI [0, ((syncL T.S T.nS).length : Int)] R v w | 21 => GO B (numsL [0, ((syncL T.S T.nS).length : Int)]) R v w | 23 => GO B (stssL T) R v w | 24 => GB nStss B (stssL T) R v w | 25 => GF nStss B (stssL T) R v w
  | 28 => GI [0, 0, ((sizeL T.S T.nS).length : Int)] R v w | 29 => GO B (numsL [0, 0, ((sizeL T.S T.nS).length : Int)]) R v w | 31 => GO B (stszL T) R v w | 32 => GB nStsz B (stszL T) R v w | 33 => GF nStsz B (stszL T) R v w
  | 34 => GO B chunkL R v w | 35 => GB nStsc B chunkL R v w | 36 => GF nStsc B chunkL R v w
  | 39 => GI [0, ((placeL T.S first T.nS).length : Int)] R v w | 40 => GO B (numsL [0, ((placeL T.S first T.nS).length : Int)]) R v w | 42 => GO B (stcoL T first) R v w | 43 => GB nStco B (stcoL T first) R v w | 44 => GF nStco B (stcoL T first) R v w
  | _ => True
theorem tabG_touch {B : Nat} {T : Tr} {first : Int} {crs : Value} {i : Nat} {R X : Nat → Prop} {v : Value} {w w' : World} (h : tabG B T first crs i R v w) (ht : Plan.Touch X w w') (hd : ∀ b, R b → ¬ X b ∧ b < w.heap.size) : tabG B T first crs i R v w' := by
  unfold tabG at h ⊢
  split <;> first | exact GI.touch h ht hd | exact GO.touch h ht hd | exact GB.touch h ht hd | exact GF.touch h ht hd | exact h | trivial
def tabP (i : Nat) : List Nat :=
  match i with
  | 1 => [0] | 5 => [1, 4] | 6 => [5] | 7 => [6] | 11 => [10] | 12 => [11] | 16 => [15] | 17 => [16] | 21 => [20] | 23 => [21] | 24 => [23] | 25 => [24]
  | 29 => [28] | 31 => [29] | 32 => [31] | 33 => [32] | 35 => [34] | 36 => [35] | 40 => [39] | 42 => [40] | 43 => [42] | 44 => [43] | _ => []
def tabS : List (Nat × Tmp) := [(0, 52), (1, 53), (4, 56), (5, 57), (6, 58), (7, 59), (10, 62), (11, 63), (12, 64), (15, 67), (16, 68), (17, 69), (20, 72), (21, 73), (23, 75), (24, 76), (25, 77), (28, 80), (29, 81), (31, 83), (32, 84), (33, 85), (34, 86), (35, 87), (36, 88), (39, 91), (40, 92), (42, 94), (43, 95), (44, 96)]
theorem IL.shape {w : World} {v : Value} {L : List Int} (h : IL w v L) : ∃ a c, v = .slice a L.length c := by obtain ⟨a, c, e, _⟩ := h; exact ⟨a, c, e⟩

/-- The three rows of numbers, each in a block of its own. -/
structure Rows3 (w : World) (B : Nat) (T : Tr) (first : Int) (k a6 n6 c6 a7 c7 a8 c8 : Nat) : Prop where
  o6 : OwnI w B (.slice (some ⟨a6, 0, none⟩) n6 c6) (syncL T.S k)
  o7 : OwnI w B (.slice (some ⟨a7, 0, none⟩) k c7) (sizeL T.S k)
  o8 : OwnI w B (.slice (some ⟨a8, 0, none⟩) k c8) (placeL T.S first k)
  h67 : a6 ≠ a7
  h68 : a6 ≠ a8
  h78 : a7 ≠ a8
theorem OwnI.empty (w : World) : OwnI (w.alloc (.cells #[] 2)) w.heap.size (.slice (some ⟨w.heap.size, 0, none⟩) 0 0) [] := owns_empty w 2 1
theorem rows3_start (w : World) (T : Tr) (first : Int) : Rows3 (((w.alloc (.cells #[] 2)).alloc (.cells #[] 2)).alloc (.cells #[] 2)) w.heap.size T first 0 w.heap.size 0 0 (w.heap.size + 1) 0 (w.heap.size + 1 + 1) 0 := by
  have s1 : (w.alloc (.cells #[] 2)).heap.size = w.heap.size + 1 := by simp [go_sem]
  have s2 : ((w.alloc (.cells #[] 2)).alloc (.cells #[] 2)).heap.size = w.heap.size + 1 + 1 := by simp [go_sem]
  have e7 := OwnI.empty (w.alloc (.cells #[] 2))
  have e8 := OwnI.empty ((w.alloc (.cells #[] 2)).alloc (.cells #[] 2))
  rw [s1] at e7
  rw [s2] at e8
  exact ⟨((OwnI.empty w).below (below_box _ _)).below (below_box _ _), (e7.below (below_box _ _)).mono (by omega), e8.mono (by omega), by omega, by omega, by omega⟩
/-- The four cells of a sample. -/
structure C4 (w : World) (b : Nat) (x d s y : Value) : Prop where
  k0 : w.cell? ⟨b, 0, none⟩ = some x
  k1 : w.cell? ⟨b, 1, none⟩ = some d
  k2 : w.cell? ⟨b, 2, none⟩ = some s
  k3 : w.cell? ⟨b, 3, none⟩ = some y
theorem C4.lt {w : World} {b : Nat} {x d s y : Value} (h : C4 w b x d s y) : b < w.heap.size := block_lt_of_cell h.k0
theorem C4.of_block {w w' : World} {b : Nat} {x d s y : Value} (h : C4 w b x d s y) (e : w'.heap[b]? = w.heap[b]?) : C4 w' b x d s y :=
  ⟨(World.cell?_of_block (w := w) (a := ⟨b, 0, none⟩) e).trans h.k0, (World.cell?_of_block (w := w) (a := ⟨b, 1, none⟩) e).trans h.k1, (World.cell?_of_block (w := w) (a := ⟨b, 2, none⟩) e).trans h.k2, (World.cell?_of_block (w := w) (a := ⟨b, 3, none⟩) e).trans h.k3⟩
theorem C4.below {w w' : World} {b : Nat} {x d s y : Value} (h : C4 w b x d s y) (hb : Below w.heap.size w w') : C4 w' b x d s y := h.of_block (hb.block b h.lt)
theorem C4.only {w w' : World} {b a : Nat} {x d s y : Value} (h : C4 w b x d s y) (hn : a ≠ b) (hg : w.grownBy w' (some a)) : C4 w' b x d s y := h.of_block (hg.block b h.lt (fun e => hn (Option.some.inj e).symm))
theorem C4.of_alloc (w : World) (b : Nat) (x d s y : Value) (t : TypeId) (h : b = w.heap.size) : C4 (w.alloc (.cells #[x, d, s, y] t)) b x d s y := by
  subst h
  exact ⟨by simp [go_sem], by simp [go_sem], by simp [go_sem], by simp [go_sem]⟩
theorem low_only {w w' : World} {N a : Nat} (hg : w.grownBy w' (some a)) (ha : N ≤ a) (hN : N ≤ w.heap.size) : Below N w w' := (Below.refl _ _).grown hg hN (fun k e => by cases e; exact ha)

set_option maxRecDepth 100000 in
set_option maxHeartbeats 4000000 in
theorem tables_any (v : Value) (T : Tr) (first : Int) (w : World) (hv : TA w v T) (hn : T.nS ≤ 10000) (hC : T.nC ≤ 10000) (hf0 : 0 ≤ first) (hf1 : first ≤ 4000000000) (hs : sizeN T.S T.nS ≤ 5000000000) :
    Calls Try.prog 65 #[v, .int .i64 first] w (StblPost w T first) := by
  obtain ⟨c0, c1, c2, c3, c4, rfl, rfl, rfl, b2, b3, b4⟩ := hv
  obtain ⟨a2, d2, rfl⟩ := b2.shape
  obtain ⟨a3, d3, rfl⟩ := b3.shape
  obtain ⟨a4, d4, rfl⟩ := b4.shape
  have HC2 := Lib.hid (BA.bl (s := ⟨T.nC, T.C, 0, 0, false⟩) b2)
  have HB3 := Lib.hid b3
  clear b2 b3 b4
  go_enter Try.func65, Try.ntmps65
  go_upto_region 1 with fail
  obtain ⟨w1, hw1⟩ : ∃ x, x = w.alloc (.cells #[.string T.h, .int .i64 T.sc, .slice a2 T.nC d2, .slice a3 T.nS d3, .slice a4 T.nE d4] 43) := ⟨_, rfl⟩
  rw [← hw1]
  obtain ⟨gt, hgt⟩ : ∃ g, g = w.heap.size := ⟨_, rfl⟩
  have hE1 : Below w.heap.size w w1 := by rw [hw1]; exact below_box _ _
  have hs1 : w1.heap.size = w.heap.size + 1 := by rw [hw1]; simp [go_sem]
  have x2 : w1.cell? ⟨gt, 2, none⟩ = some (.slice a2 T.nC d2) := by rw [hw1, hgt]; simp [go_sem]
  have x3 : w1.cell? ⟨gt, 3, none⟩ = some (.slice a3 T.nS d3) := by rw [hw1, hgt]; simp [go_sem]
  rw [← hgt]
  have hgt1 : gt < w1.heap.size := by omega
  have HB1 := Lib.hid hE1
  replace HC2 := Lib.hid (HC2.out.below hE1)
  replace HB3 := Lib.hid (HB3.out.below hE1)
  have HX := Lib.hid (And.intro x2 x3)
  have hgtw : w.heap.size ≤ gt := by omega
  clear hw1 hE1 hgt x2 x3 hs1
  go_wp2_with fail
  refine (appz_any (.slice none 0 0) [] 6 w1.heap.size w1 (own_nil _ _) (by decide) (by decide) (by decide) (Nat.le_refl _)).mono ?_
  rintro e w2 ⟨r, rfl, hO, hA⟩
  have hb2 := hA.below rfl
  have hs2 := hb2.size
  obtain ⟨L2, hL2⟩ : ∃ L, L = ([] ++ List.replicate 6 0 : List Int) := ⟨_, rfl⟩
  rw [← hL2] at hO
  have hn2 : L2.length = 6 := by rw [hL2]; rfl
  have HL2 := Lib.hid hL2
  have HN2 := Lib.hid hn2
  obtain ⟨ra, rc, rfl⟩ := hO.shape
  have HO := Lib.hid hO
  have HB2 := Lib.hid hb2
  clear hO hA hb2 hL2 hn2
  go_wp2_with (at_builtin; refine wpList_adv _ rfl (.tmp 11) (.tmp 12) rfl w1.heap.size _ _ _ [0, 1] rfl (HO.out.below (below_box w2 _)) rfl (own_lit w2 [0, 1] (by decide)).bl (by rw [HN2.out]; decide) (by simp; omega) ?_)
  intro v3 w3 hO3 hA3
  have hb3 : Below w1.heap.size w1 w3 := (HB2.out.trans ((below_box w2 _).mono hs2)).trans (hA3.up (HO.out.below (below_box w2 _)) (by simp; omega))
  obtain ⟨L3, hL3⟩ : ∃ L, L = L2 ++ [0, 1] := ⟨_, rfl⟩
  rw [← hL3] at hO3
  have hn3 : L3.length = 8 := by rw [hL3, List.length_append, HN2.out]; rfl
  have HL3 := Lib.hid hL3
  have HN3 := Lib.hid hn3
  obtain ⟨ra3, rc3, rfl⟩ := hO3.shape
  have HO3 := Lib.hid hO3
  have HB3w := Lib.hid hb3
  clear hO3 hA3 hb3 HO HB2 hL3 hn3
  have x2 := (HB3w.out.cell (p := ⟨gt, 2, none⟩) hgt1).trans HX.out.1
  have hs3 := HB3w.out.size
  have hap : w3.heap.size ≥ w1.heap.size := hs3
  have HC3 := Lib.hid (show BL w3 (.slice a2 T.nC d2) (cfL T) from HC2.out.below HB3w.out)
  go_wp2_with (at_builtin; refine wpList_adv _ rfl (.tmp 14) (.tmp 16) rfl w1.heap.size _ _ _ (cfL T) rfl HO3.out rfl HC3.out (by rw [cfL_length, HN3.out]; omega) (by omega) ?_)
  intro v4 w4 hO4 hA4
  have hb4 : Below w1.heap.size w1 w4 := HB3w.out.trans (hA4.up HO3.out (by omega))
  obtain ⟨L4, hL4⟩ : ∃ L, L = L3 ++ cfL T := ⟨_, rfl⟩
  rw [← hL4] at hO4
  have hn4 : L4.length = 8 + T.nC := by rw [hL4, List.length_append, HN3.out, cfL_length]
  have HL4 := Lib.hid (show L4 = descL T by rw [hL4, HL3.out, HL2.out]; rfl)
  have HN4 := Lib.hid hn4
  obtain ⟨ra4, rc4, rfl⟩ := hO4.shape
  have HO4 := Lib.hid hO4
  have HB4 := Lib.hid hb4
  have hs4 := hb4.size
  clear hO4 hA4 hb4 HO3 HB3w HC3 x2 hap hL4 hn4 HL2 HL3 HN2 HN3
  go_upto_region 4 with fail
  have hr3 := rows3_start w4 T first
  obtain ⟨w5, hw5⟩ : ∃ x, x = ((w4.alloc (.cells #[] 2)).alloc (.cells #[] 2)).alloc (.cells #[] 2) := ⟨_, rfl⟩
  rw [← hw5] at hr3 ⊢
  have hb5 : Below w4.heap.size w4 w5 := by rw [hw5]; go_grown
  have HR := Lib.hid hr3
  have HB5 := Lib.hid hb5
  have x3 := ((HB4.out.trans (hb5.mono hs4)).cell (p := ⟨gt, 3, none⟩) hgt1).trans HX.out.2
  clear hr3 hw5 hb5
  go_wp2_with fail
  clear x3
  go_loopw [1, 6, 7, 8, 24] (fun f v6 v7 v8 i wr => ∃ k : Nat, k ≤ T.nS ∧ i = .int .i64 (k : Int) ∧ f = .int .i64 (first + (sizeN T.S k : Nat)) ∧ ∃ a6 n6 c6 a7 c7 a8 c8, v6 = .slice (some ⟨a6, 0, none⟩) n6 c6 ∧ v7 = .slice (some ⟨a7, 0, none⟩) k c7 ∧ v8 = .slice (some ⟨a8, 0, none⟩) k c8 ∧ Rows3 wr w4.heap.size T first k a6 n6 c6 a7 c7 a8 c8 ∧ Below w4.heap.size w4 wr) (fun _ _ _ _ i _ => T.nS - (intOf i).toNat)
  case atStart => exact ⟨0, Nat.zero_le _, rfl, by simp [sizeN], _, _, _, _, _, _, _, rfl, rfl, rfl, HR.out, HB5.out⟩
  case round =>
    obtain ⟨k, hk, rfl, rfl, a6, n6, c6, a7, c7, a8, c8, rfl, rfl, rfl, hR, hbw⟩ := hrel
    have HR := Lib.hid hR
    have HBW := Lib.hid hbw
    have hsw := hbw.size
    have Ho6 := Lib.hid hR.o6
    have Ho7 := Lib.hid hR.o7
    have Ho8 := Lib.hid hR.o8
    have h67 := hR.h67
    have h68 := hR.h68
    have h78 := hR.h78
    have l6 := hR.o6.lt
    have l7 := hR.o7.lt
    have l8 := hR.o8.lt
    have hl6 := syncL_length T.S k
    have hl7 := sizeL_length T.S k
    have hl8 := placeL_length T.S first k
    clear hR hbw
    by_cases hlt : k < T.nS
    · obtain ⟨ao', c', e, hcc', H⟩ := HB3.out.below ((HB4.out.trans (HBW.out.mono hs4)))
      simp only [Value.slice.injEq, true_and] at e
      obtain ⟨rfl, rfl⟩ := e
      obtain ⟨b', o', x, rfl, h0, h1, h2, h3, hx⟩ := H k hlt
      obtain ⟨ax, dx, rfl⟩ := hx.shape
      have hm := sizeN_mono T.S (show k + 1 ≤ T.nS by omega)
      obtain ⟨G, hG⟩ : ∃ G, G = sizeN T.S k := ⟨_, rfl⟩
      have hst : sizeN T.S (k + 1) = G + (T.S k).n := by simp only [sizeN]; rw [← hG]
      rw [← hG] at ⊢
      have hb2 : G + (T.S k).n ≤ 5000000000 := by omega
      have HST := Lib.hid hst
      have HGq := Lib.hid hG
      clear H hx hst hG hm
      go_upto_region 7 with fail
      obtain ⟨w6, hw6⟩ : ∃ x, x = wr.alloc (.cells #[.slice ax (T.S k).n dx, .int .i64 (T.S k).dur, .int .i64 (T.S k).shift, .bool (T.S k).sync] 75) := ⟨_, rfl⟩
      rw [← hw6]
      obtain ⟨gs, hgs⟩ : ∃ g, g = wr.heap.size := ⟨_, rfl⟩
      have hb6 : Below wr.heap.size wr w6 := by rw [hw6]; exact below_box _ _
      have HCX := Lib.hid (show C4 w6 gs _ _ _ _ by rw [hw6]; exact C4.of_alloc wr gs _ _ _ _ 75 hgs)
      have hz6 : w6.heap.size = wr.heap.size + 1 := by rw [hw6]; simp [go_sem]
      rw [← hgs]
      replace Ho6 := Lib.hid (Ho6.out.below hb6)
      replace Ho7 := Lib.hid (Ho7.out.below hb6)
      replace Ho8 := Lib.hid (Ho8.out.below hb6)
      replace HBW := Lib.hid (HBW.out.trans (hb6.mono hsw))
      have d26 : a6 ≠ gs := by omega
      have d27 : a7 ≠ gs := by omega
      have d28 : a8 ≠ gs := by omega
      replace l6 : w4.heap.size ≤ a6 ∧ a6 < w6.heap.size := ⟨l6.1, by omega⟩
      replace l7 : w4.heap.size ≤ a7 ∧ a7 < w6.heap.size := ⟨l7.1, by omega⟩
      replace l8 : w4.heap.size ≤ a8 ∧ a8 < w6.heap.size := ⟨l8.1, by omega⟩
      have lgs : gs < w6.heap.size := by omega
      replace hsw : w4.heap.size ≤ w6.heap.size := by omega
      clear hw6 hgs hb6 hz6 h0 h1 h2 h3
      obtain ⟨c0, c1, c2, c3⟩ := HCX.out
      obtain ⟨sy, hsy⟩ : ∃ b, b = (T.S k).sync := ⟨_, rfl⟩
      rw [← hsy] at c3
      rw [← hsy]
      have HSY := Lib.hid hsy.symm
      clear hsy
      cases sy with
      | true =>
        go_wp2_with (at_builtin; refine wpList_advI _ rfl (.tmp 31) (.tmp 34) rfl w4.heap.size a6 n6 c6 _ rfl (Ho6.out.below (below_box w6 _)) w6.heap.size 1 ((k : Int) + 1) rfl (by simp [go_sem]) (by omega) (by simp; omega) ?_)
        intro a6x c6x wa hO' hg' hne'
        have hbx : Below w6.heap.size w6 (w6.alloc (.cells #[.int .i64 ((k : Int) + 1)] 2)) := below_box _ _
        have hb' : Below w4.heap.size w6 wa := (hbx.mono (by omega)).trans (low_only hg' l6.1 (by simp; omega))
        have hsz' : (w6.alloc (.cells #[.int .i64 ((k : Int) + 1)] 2)).heap.size = w6.heap.size + 1 := by simp [go_sem]
        replace hne' : a6x = a6 ∨ w6.heap.size + 1 ≤ a6x := by simpa using hne'
        have hz' : w6.heap.size + 1 ≤ wa.heap.size := by have := hg'.size; simpa using this
        replace Ho6 := Lib.hid hO'
        replace Ho7 := Lib.hid ((Ho7.out.below hbx).only (by simp; omega) hg')
        replace Ho8 := Lib.hid ((Ho8.out.below hbx).only (by simp; omega) hg')
        replace HCX := Lib.hid ((HCX.out.below hbx).only (by omega) hg')
        replace HBW := Lib.hid (HBW.out.trans hb')
        have d0 : a6x ≠ a7 := by omega
        have d1 : a6x ≠ a8 := by omega
        have d2 : a6x ≠ gs := by omega
        have d3 : a7 ≠ a8 := by omega
        replace l6 := hO'.lt
        replace l7 : w4.heap.size ≤ a7 ∧ a7 < wa.heap.size := ⟨l7.1, by omega⟩
        replace l8 : w4.heap.size ≤ a8 ∧ a8 < wa.heap.size := ⟨l8.1, by omega⟩
        replace lgs : gs < wa.heap.size := by omega
        replace hsw : w4.heap.size ≤ wa.heap.size := by omega
        clear hO' hg' hne' hbx hb' hsz' hz' c0 c1 c2 c3
        obtain ⟨c0, c1, c2, c3⟩ := HCX.out
        go_wp2_with (at_builtin; refine wpList_advI _ rfl (.tmp 36) (.tmp 40) rfl w4.heap.size a7 k c7 _ rfl (Ho7.out.below (below_box wa _)) wa.heap.size 1 (((T.S k).n : Int)) rfl (by simp [go_sem]) (by rw [hl7]; omega) (by simp; omega) ?_)
        intro a7x c7x wb hO' hg' hne'
        have hbx : Below wa.heap.size wa (wa.alloc (.cells #[.int .i64 (((T.S k).n : Int))] 2)) := below_box _ _
        have hb' : Below w4.heap.size wa wb := (hbx.mono (by omega)).trans (low_only hg' l7.1 (by simp; omega))
        have hsz' : (wa.alloc (.cells #[.int .i64 (((T.S k).n : Int))] 2)).heap.size = wa.heap.size + 1 := by simp [go_sem]
        replace hne' : a7x = a7 ∨ wa.heap.size + 1 ≤ a7x := by simpa using hne'
        have hz' : wa.heap.size + 1 ≤ wb.heap.size := by have := hg'.size; simpa using this
        replace Ho7 := Lib.hid hO'
        replace Ho6 := Lib.hid ((Ho6.out.below hbx).only (by simp; omega) hg')
        replace Ho8 := Lib.hid ((Ho8.out.below hbx).only (by simp; omega) hg')
        replace HCX := Lib.hid ((HCX.out.below hbx).only (by omega) hg')
        replace HBW := Lib.hid (HBW.out.trans hb')
        have d0 : a7x ≠ a6x := by omega
        have d1 : a7x ≠ a8 := by omega
        have d2 : a7x ≠ gs := by omega
        have d3 : a6x ≠ a8 := by omega
        replace l7 := hO'.lt
        replace l6 : w4.heap.size ≤ a6x ∧ a6x < wb.heap.size := ⟨l6.1, by omega⟩
        replace l8 : w4.heap.size ≤ a8 ∧ a8 < wb.heap.size := ⟨l8.1, by omega⟩
        replace lgs : gs < wb.heap.size := by omega
        replace hsw : w4.heap.size ≤ wb.heap.size := by omega
        clear hO' hg' hne' hbx hb' hsz' hz' c0 c1 c2 c3
        obtain ⟨c0, c1, c2, c3⟩ := HCX.out
        go_wp2_with (at_builtin; refine wpList_advI _ rfl (.tmp 42) (.tmp 44) rfl w4.heap.size a8 k c8 _ rfl (Ho8.out.below (below_box wb _)) wb.heap.size 1 (first + (G : Nat)) rfl (by simp [go_sem]) (by rw [hl8]; omega) (by simp; omega) ?_)
        intro a8x c8x wc hO' hg' hne'
        have hbx : Below wb.heap.size wb (wb.alloc (.cells #[.int .i64 (first + (G : Nat))] 2)) := below_box _ _
        have hb' : Below w4.heap.size wb wc := (hbx.mono (by omega)).trans (low_only hg' l8.1 (by simp; omega))
        have hsz' : (wb.alloc (.cells #[.int .i64 (first + (G : Nat))] 2)).heap.size = wb.heap.size + 1 := by simp [go_sem]
        replace hne' : a8x = a8 ∨ wb.heap.size + 1 ≤ a8x := by simpa using hne'
        have hz' : wb.heap.size + 1 ≤ wc.heap.size := by have := hg'.size; simpa using this
        replace Ho8 := Lib.hid hO'
        replace Ho6 := Lib.hid ((Ho6.out.below hbx).only (by simp; omega) hg')
        replace Ho7 := Lib.hid ((Ho7.out.below hbx).only (by simp; omega) hg')
        replace HCX := Lib.hid ((HCX.out.below hbx).only (by omega) hg')
        replace HBW := Lib.hid (HBW.out.trans hb')
        have d0 : a8x ≠ a6x := by omega
        have d1 : a8x ≠ a7x := by omega
        have d2 : a8x ≠ gs := by omega
        have d3 : a6x ≠ a7x := by omega
        replace l8 := hO'.lt
        replace l6 : w4.heap.size ≤ a6x ∧ a6x < wc.heap.size := ⟨l6.1, by omega⟩
        replace l7 : w4.heap.size ≤ a7x ∧ a7x < wc.heap.size := ⟨l7.1, by omega⟩
        replace lgs : gs < wc.heap.size := by omega
        replace hsw : w4.heap.size ≤ wc.heap.size := by omega
        clear hO' hg' hne' hbx hb' hsz' hz' c0 c1 c2 c3
        obtain ⟨c0, c1, c2, c3⟩ := HCX.out
        go_wp2_with fail
        refine ⟨⟨k + 1, by omega, by go_num, by rw [HST.out]; go_num, a6x, n6 + 1, c6x, a7x, c7x, a8x, c8x, by go_num, by go_num, by go_num, ⟨?_, Ho7.out, ?_, by omega, by omega, by omega⟩, HBW.out⟩, ?_⟩
        · have h := Ho6.out
          simp only [syncL, HSY.out, if_true, if_false, List.append_nil, Bool.false_eq_true]
          exact h
        · have h := Ho8.out
          simp only [placeL]
          rw [← HGq.out]
          exact h
        · simp [intOf]
          omega
      | false =>
        go_wp2_with (at_builtin; refine wpList_advI _ rfl (.tmp 36) (.tmp 40) rfl w4.heap.size a7 k c7 _ rfl (Ho7.out.below (below_box w6 _)) w6.heap.size 1 (((T.S k).n : Int)) rfl (by simp [go_sem]) (by rw [hl7]; omega) (by simp; omega) ?_)
        intro a7x c7x wb hO' hg' hne'
        have hbx : Below w6.heap.size w6 (w6.alloc (.cells #[.int .i64 (((T.S k).n : Int))] 2)) := below_box _ _
        have hb' : Below w4.heap.size w6 wb := (hbx.mono (by omega)).trans (low_only hg' l7.1 (by simp; omega))
        have hsz' : (w6.alloc (.cells #[.int .i64 (((T.S k).n : Int))] 2)).heap.size = w6.heap.size + 1 := by simp [go_sem]
        replace hne' : a7x = a7 ∨ w6.heap.size + 1 ≤ a7x := by simpa using hne'
        have hz' : w6.heap.size + 1 ≤ wb.heap.size := by have := hg'.size; simpa using this
        replace Ho7 := Lib.hid hO'
        replace Ho6 := Lib.hid ((Ho6.out.below hbx).only (by simp; omega) hg')
        replace Ho8 := Lib.hid ((Ho8.out.below hbx).only (by simp; omega) hg')
        replace HCX := Lib.hid ((HCX.out.below hbx).only (by omega) hg')
        replace HBW := Lib.hid (HBW.out.trans hb')
        have d0 : a7x ≠ a6 := by omega
        have d1 : a7x ≠ a8 := by omega
        have d2 : a7x ≠ gs := by omega
        have d3 : a6 ≠ a8 := by omega
        replace l7 := hO'.lt
        replace l6 : w4.heap.size ≤ a6 ∧ a6 < wb.heap.size := ⟨l6.1, by omega⟩
        replace l8 : w4.heap.size ≤ a8 ∧ a8 < wb.heap.size := ⟨l8.1, by omega⟩
        replace lgs : gs < wb.heap.size := by omega
        replace hsw : w4.heap.size ≤ wb.heap.size := by omega
        clear hO' hg' hne' hbx hb' hsz' hz' c0 c1 c2 c3
        obtain ⟨c0, c1, c2, c3⟩ := HCX.out
        go_wp2_with (at_builtin; refine wpList_advI _ rfl (.tmp 42) (.tmp 44) rfl w4.heap.size a8 k c8 _ rfl (Ho8.out.below (below_box wb _)) wb.heap.size 1 (first + (G : Nat)) rfl (by simp [go_sem]) (by rw [hl8]; omega) (by simp; omega) ?_)
        intro a8x c8x wc hO' hg' hne'
        have hbx : Below wb.heap.size wb (wb.alloc (.cells #[.int .i64 (first + (G : Nat))] 2)) := below_box _ _
        have hb' : Below w4.heap.size wb wc := (hbx.mono (by omega)).trans (low_only hg' l8.1 (by simp; omega))
        have hsz' : (wb.alloc (.cells #[.int .i64 (first + (G : Nat))] 2)).heap.size = wb.heap.size + 1 := by simp [go_sem]
        replace hne' : a8x = a8 ∨ wb.heap.size + 1 ≤ a8x := by simpa using hne'
        have hz' : wb.heap.size + 1 ≤ wc.heap.size := by have := hg'.size; simpa using this
        replace Ho8 := Lib.hid hO'
        replace Ho6 := Lib.hid ((Ho6.out.below hbx).only (by simp; omega) hg')
        replace Ho7 := Lib.hid ((Ho7.out.below hbx).only (by simp; omega) hg')
        replace HCX := Lib.hid ((HCX.out.below hbx).only (by omega) hg')
        replace HBW := Lib.hid (HBW.out.trans hb')
        have d0 : a8x ≠ a6 := by omega
        have d1 : a8x ≠ a7x := by omega
        have d2 : a8x ≠ gs := by omega
        have d3 : a6 ≠ a7x := by omega
        replace l8 := hO'.lt
        replace l6 : w4.heap.size ≤ a6 ∧ a6 < wc.heap.size := ⟨l6.1, by omega⟩
        replace l7 : w4.heap.size ≤ a7x ∧ a7x < wc.heap.size := ⟨l7.1, by omega⟩
        replace lgs : gs < wc.heap.size := by omega
        replace hsw : w4.heap.size ≤ wc.heap.size := by omega
        clear hO' hg' hne' hbx hb' hsz' hz' c0 c1 c2 c3
        obtain ⟨c0, c1, c2, c3⟩ := HCX.out
        go_wp2_with fail
        refine ⟨⟨k + 1, by omega, by go_num, by rw [HST.out]; go_num, a6, n6, c6, a7x, c7x, a8x, c8x, by go_num, by go_num, by go_num, ⟨?_, Ho7.out, ?_, by omega, by omega, by omega⟩, HBW.out⟩, ?_⟩
        · have h := Ho6.out
          simp only [syncL, HSY.out, if_true, if_false, List.append_nil, Bool.false_eq_true]
          exact h
        · have h := Ho8.out
          simp only [placeL]
          rw [← HGq.out]
          exact h
        · simp [intOf]
          omega
    · obtain rfl : k = T.nS := by omega
      go_upto_region 13 with fail
      have IL6 := Lib.hid Ho6.out.il
      have IL7 := Lib.hid Ho7.out.il
      have IL8 := Lib.hid Ho8.out.il
      have hb1r := Lib.hid (HB4.out.trans (HBW.out.mono hs4))
      have hs1r := hb1r.out.size
      have HSr := Lib.hid (HB3.out.below hb1r.out)
      have x3 := (hb1r.out.cell (p := ⟨gt, 3, none⟩) hgt1).trans HX.out.2
      have HO4r := Lib.hid (HO4.out.below (HBW.out.mono (Nat.le_refl _)))
      have HL64 := Lib.hid (show (syncL T.S T.nS).length ≤ 10000 by omega)
      have HL74 := Lib.hid (show (sizeL T.S T.nS).length ≤ 10000 by omega)
      have HL84 := Lib.hid (show (placeL T.S first T.nS).length ≤ 10000 by omega)
      have en6 : n6 = (syncL T.S T.nS).length := by
        obtain ⟨_, _, e⟩ := IL6.out.shape
        simp only [Value.slice.injEq] at e
        exact e.2.1
      have en7 : T.nS = (sizeL T.S T.nS).length := hl7.symm
      have en8 : T.nS = (placeL T.S first T.nS).length := hl8.symm
      have HN6 := Lib.hid en6
      have HN7 := Lib.hid en7
      have HN8 := Lib.hid en8
      have hwr : w1.heap.size ≤ wr.heap.size := hs1r
      clear hl6 hl7 hl8 Ho6 Ho7 Ho8 HB3 HX HC2 HR h67 h68 h78 en6 en7 en8
      refine Plan.wp_region_own (fun w' => Below wr.heap.size wr w') 47 (tabG w1.heap.size T first (.iface 109 (.agg #[.string nCrsd, .slice ra4 L4.length rc4]))) tabP ([2, 3, 8, 9, 13, 14, 18, 19, 22, 26, 27, 30, 37, 38, 41].map (·, true)) tabS ([45, 46].map (·, false)) 98 (by kernel_rfl) (by kernel_rfl) (by kernel_rfl) (by kernel_rfl) (Below.refl _ _).drew ?_
      refine' Plan.plan_seg _ [2, 3, 8, 9, 13, 14, 18, 19, 22, 26, 27, 30, 37, 38, 41] [] (by kernel_rfl) (by kernel_rfl) rfl (by exact (Below.refl _ _).drew) (fun wx hS => ?_) ?_
      rotate_left
      · have y3 := (hS.cell (p := ⟨gt, 3, none⟩) (show gt < wr.heap.size by omega)).trans x3
        clear hS
        go_light
        iterate 15 (apply Plan.seg_pick; rfl; intro K hK; go_wp)
        exact Plan.seg_nil
      refine Plan.plan_nil ?_
      obtain ⟨wd, hwd⟩ : ∃ x, x = wr.drew := ⟨_, rfl⟩
      rw [← hwd]
      have hzd : wd.heap.size = wr.heap.size := by rw [hwd]; rfl
      have HZD := Lib.hid hzd
      have hwrd : wr.heap.size ≤ wd.heap.size := by omega
      clear hwd hzd x3
      refine Plan.ownAt_gen (fun A => A.tmps.size = 98 ∧ A.defers = [] ∧ A.tmps[55]? = some (.agg #[.string nCrsd, .slice ra4 L4.length rc4]) ∧ A.tmps[61]? = some (.slice a3 T.nS d3) ∧ A.tmps[66]? = some (.slice a3 T.nS d3) ∧ A.tmps[71]? = some (.int .i64 n6) ∧ A.tmps[74]? = some (.slice (some ⟨a6, 0, none⟩) n6 c6) ∧ A.tmps[79]? = some (.int .i64 T.nS) ∧ A.tmps[82]? = some (.slice (some ⟨a7, 0, none⟩) T.nS c7) ∧ A.tmps[90]? = some (.int .i64 T.nS) ∧ A.tmps[93]? = some (.slice (some ⟨a8, 0, none⟩) T.nS c8)) ⟨rfl, rfl, rfl, rfl, rfl, rfl, rfl, rfl, rfl, rfl, rfl⟩ (fun A hA => ?_)
      obtain ⟨hsz, hdf, e55, e61, e66, e71, e74, e79, e82, e90, e93⟩ := hA
      refine ⟨hsz, fun wa wb ha hb => ha.trans (hb.mono (by omega)), fun i R X v wa wb h ht hd _ _ => tabG_touch h ht hd, ?_, ?_⟩
      · intro p hp o ho vs wx R hS hE hG K hK
        have hSz := hS.size
        have HS := Lib.hid hS
        simp only [tabS, List.mem_cons, List.not_mem_nil, or_false] at hp
        rcases hp with rfl | rfl | rfl | rfl | rfl | rfl | rfl | rfl | rfl | rfl | rfl | rfl | rfl | rfl | rfl | rfl | rfl | rfl | rfl | rfl | rfl | rfl | rfl | rfl | rfl | rfl | rfl | rfl | rfl | rfl
        all_goals obtain rfl := Option.some.inj ho
        all_goals obtain ⟨Bq, hBq⟩ : ∃ Bq, Bq = Plan.puts vs tabS A := ⟨_, rfl⟩
        all_goals rw [← hBq] at hK ⊢
        · clear hG
          clear hBq e55 e61 e66 e71 e74 e79 e82 e90 e93 hsz hdf
          go_wp2
          have hil := IL.build wx [0, 1] 2
          exact hK _ _ (GI.new (show IL _ _ [0, 1] by exact hil) (fun a n c e => by cases e; exact ⟨Nat.le_refl _, by simp [go_sem]⟩)) (touch_below (below_box _ _))
        · obtain ⟨⟨hil, hft⟩, ht⟩ := hG (0, 52) (by decide) (by decide)
          have t0 : Bq.tmps[52]? = some (vs 0) := by rw [hBq]; exact Plan.puts_in vs tabS A (by decide) (by decide) (by rw [hsz]; decide)
          refine Plan.one_call rfl 52 Try.func52 (by kernel_rfl) (by kernel_rfl) #[.const (.slice none 0 0), .tmp 52] #[22, 51] rfl #[.slice none 0 0, vs 0] (by simp only [List.map_toArray, List.map_cons, List.map_nil, Act.eval, Array.getD_eq_getD_getElem?, Option.getD_some, t0]) (fun r w' => Own w' wx.heap.size r ([] ++ numsL [0, 1]) ∧ Adv wx w' (.slice none 0 0) r) (appn_any (.slice none 0 0) _ [] [0, 1] wx.heap.size wx (own_nil _ _) hil (fun a n c e h => by cases h) (by simp) (by simp) (Nat.le_refl _)) (fun r w' hR => ?_)
          exact hK _ _ (GO.new hR.1 (by omega)) (touch_below (hR.2.below rfl))
        · clear hG
          have t55 := (Plan.puts_out vs (s := 55) tabS A (by decide)).trans e55
          rw [← hBq] at t55
          clear hBq e55 e61 e66 e71 e74 e79 e82 e90 e93 hsz hdf
          go_wp2
          exact hK _ _ rfl (touch_below (Below.refl _ _))
        · obtain ⟨⟨ho, hft⟩, ht⟩ := hG (1, 53) (by decide) (by decide)
          obtain ⟨e4, _⟩ := hG (4, 56) (by decide) (by decide)
          have he4 : vs 4 = .iface 109 (.agg #[.string nCrsd, .slice ra4 L4.length rc4]) := e4
          have h4 := HO4r.out.below HS.out
          have hca : CA wx (vs 1).ownBlock (.iface 109 (.agg #[.string nCrsd, .slice ra4 L4.length rc4])) (.leaf nCrsd (descL T)) := by
            have h4b := h4.bl
            refine .leaf nCrsd _ (descL T) (by rw [← HL4.out]; exact h4b) (fun a n c e => ⟨fun h => ?_, (h4.at a n c e).2.2⟩)
            obtain ⟨a', n', c', e1, e2⟩ := own_block h
            have h1 := (ht _ (hft a' n' c' e1)).1
            have h2 := (HO4r.out.at a n c e).2.2
            omega
          have hle : (bytesT (.leaf nCrsd (descL T))).length ≤ 100000 := by
            simp only [bytesT]
            rw [boxP_length, ← HL4.out, HN4.out]
            have : nCrsd.size = 4 := rfl
            omega
          have t1 : Bq.tmps[53]? = some (vs 1) := by rw [hBq]; exact Plan.puts_in vs tabS A (by decide) (by decide) (by rw [hsz]; decide)
          have t4 : Bq.tmps[56]? = some (vs 4) := by rw [hBq]; exact Plan.puts_in vs tabS A (by decide) (by decide) (by rw [hsz]; decide)
          rw [he4] at t4
          refine Plan.one_call rfl 38 Try.func38 (by kernel_rfl) (by kernel_rfl) #[.tmp 53, .tmp 56] #[22, 83] rfl #[vs 1, .iface 109 (.agg #[.string nCrsd, .slice ra4 L4.length rc4])] (by simp only [List.map_toArray, List.map_cons, List.map_nil, Act.eval, Array.getD_eq_getD_getElem?, Option.getD_some, t1, t4]) (fun r w' => Own w' w1.heap.size r (numsL [0, 1] ++ bytesT (.leaf nCrsd (descL T))) ∧ Adv wx w' (vs 1) r) (appb_any (.leaf nCrsd (descL T)) trivial _ _ (numsL [0, 1]) w1.heap.size wx ho hca (by rw [numsL_length]; simp only [List.length_cons, List.length_nil]; omega) (by omega)) (fun r w' hR => ?_)
          exact hK _ _ (GO.adv hR.1 hR.2 (fun a n c e => terr_of (k := 1) (by decide) (hft a n c e))) (touch_adv hR.2 (fun a n c e => terr_of (k := 1) (by decide) (hft a n c e)))
        · obtain ⟨hgo, ht⟩ := hG (5, 57) (by decide) (by decide)
          obtain ⟨a0, c0, he⟩ := hgo.1.shape
          have HG' := Lib.hid hgo
          have t5 : Bq.tmps[57]? = some (vs 5) := by rw [hBq]; exact Plan.puts_in vs tabS A (by decide) (by decide) (by rw [hsz]; decide)
          rw [he] at t5 HG'
          clear hgo ht hG he
          clear hBq e55 e61 e66 e71 e74 e79 e82 e90 e93 hsz hdf
          go_wp2
          exact hK _ _ ⟨_, rfl, GO.same HG'.out (fun b hb => terr_of (by decide) hb)⟩ (touch_below (Below.refl _ _))
        · obtain ⟨⟨vd, he, hgo⟩, ht⟩ := hG (6, 58) (by decide) (by decide)
          have HG' := Lib.hid hgo
          have t6 : Bq.tmps[58]? = some (vs 6) := by rw [hBq]; exact Plan.puts_in vs tabS A (by decide) (by decide) (by rw [hsz]; decide)
          rw [he] at t6
          clear hgo ht hG he
          clear hBq e55 e61 e66 e71 e74 e79 e82 e90 e93 hsz hdf
          go_wp2
          exact hK _ _ ⟨vd, rfl, GO.same HG'.out (fun b hb => terr_of (by decide) hb)⟩ (touch_below (Below.refl _ _))
        · clear hG
          have t61 := (Plan.puts_out vs (s := 61) tabS A (by decide)).trans e61
          rw [← hBq] at t61
          refine Plan.one_call rfl 72 Try.func72 (by kernel_rfl) (by kernel_rfl) #[.tmp 61, .func 73] #[40, 134] rfl #[.slice a3 T.nS d3, .func (.func 73) #[] #[]] (by simp only [List.map_toArray, List.map_cons, List.map_nil, Act.eval, Array.getD_eq_getD_getElem?, Option.getD_some, t61]) (fun r w' => Own w' wx.heap.size r (runsL (fun i => (T.S i).dur) T.nS) ∧ Below wx.heap.size wx w') (runs_dur _ T.nS T.S wx (HSr.out.below HS.out) (by omega)) (fun r w' hR => ?_)
          exact hK _ _ (GO.new hR.1 (by omega)) (touch_below hR.2)
        · obtain ⟨hgo, ht⟩ := hG (10, 62) (by decide) (by decide)
          obtain ⟨a0, c0, he⟩ := hgo.1.shape
          have HG' := Lib.hid hgo
          have t10 : Bq.tmps[62]? = some (vs 10) := by rw [hBq]; exact Plan.puts_in vs tabS A (by decide) (by decide) (by rw [hsz]; decide)
          rw [he] at t10 HG'
          clear hgo ht hG he
          clear hBq e55 e61 e66 e71 e74 e79 e82 e90 e93 hsz hdf
          go_wp2
          exact hK _ _ ⟨_, rfl, GO.same HG'.out (fun b hb => terr_of (by decide) hb)⟩ (touch_below (Below.refl _ _))
        · obtain ⟨⟨vd, he, hgo⟩, ht⟩ := hG (11, 63) (by decide) (by decide)
          have HG' := Lib.hid hgo
          have t11 : Bq.tmps[63]? = some (vs 11) := by rw [hBq]; exact Plan.puts_in vs tabS A (by decide) (by decide) (by rw [hsz]; decide)
          rw [he] at t11
          clear hgo ht hG he
          clear hBq e55 e61 e66 e71 e74 e79 e82 e90 e93 hsz hdf
          go_wp2
          exact hK _ _ ⟨vd, rfl, GO.same HG'.out (fun b hb => terr_of (by decide) hb)⟩ (touch_below (Below.refl _ _))
        · clear hG
          have t66 := (Plan.puts_out vs (s := 66) tabS A (by decide)).trans e66
          rw [← hBq] at t66
          refine Plan.one_call rfl 72 Try.func72 (by kernel_rfl) (by kernel_rfl) #[.tmp 66, .func 74] #[40, 134] rfl #[.slice a3 T.nS d3, .func (.func 74) #[] #[]] (by simp only [List.map_toArray, List.map_cons, List.map_nil, Act.eval, Array.getD_eq_getD_getElem?, Option.getD_some, t66]) (fun r w' => Own w' wx.heap.size r (runsL (fun i => (T.S i).shift) T.nS) ∧ Below wx.heap.size wx w') (runs_shift _ T.nS T.S wx (HSr.out.below HS.out) (by omega)) (fun r w' hR => ?_)
          exact hK _ _ (GO.new hR.1 (by omega)) (touch_below hR.2)
        · obtain ⟨hgo, ht⟩ := hG (15, 67) (by decide) (by decide)
          obtain ⟨a0, c0, he⟩ := hgo.1.shape
          have HG' := Lib.hid hgo
          have t15 : Bq.tmps[67]? = some (vs 15) := by rw [hBq]; exact Plan.puts_in vs tabS A (by decide) (by decide) (by rw [hsz]; decide)
          rw [he] at t15 HG'
          clear hgo ht hG he
          clear hBq e55 e61 e66 e71 e74 e79 e82 e90 e93 hsz hdf
          go_wp2
          exact hK _ _ ⟨_, rfl, GO.same HG'.out (fun b hb => terr_of (by decide) hb)⟩ (touch_below (Below.refl _ _))
        · obtain ⟨⟨vd, he, hgo⟩, ht⟩ := hG (16, 68) (by decide) (by decide)
          have HG' := Lib.hid hgo
          have t16 : Bq.tmps[68]? = some (vs 16) := by rw [hBq]; exact Plan.puts_in vs tabS A (by decide) (by decide) (by rw [hsz]; decide)
          rw [he] at t16
          clear hgo ht hG he
          clear hBq e55 e61 e66 e71 e74 e79 e82 e90 e93 hsz hdf
          go_wp2
          exact hK _ _ ⟨vd, rfl, GO.same HG'.out (fun b hb => terr_of (by decide) hb)⟩ (touch_below (Below.refl _ _))
        · clear hG
          have t71 := (Plan.puts_out vs (s := 71) tabS A (by decide)).trans e71
          rw [← hBq] at t71
          clear hBq e55 e61 e66 e71 e74 e79 e82 e90 e93 hsz hdf
          go_wp2
          have hil := IL.build wx [0, (n6 : Int)] 2
          exact hK _ _ (GI.new (show IL _ _ [0, ((syncL T.S T.nS).length : Int)] by rw [← HN6.out]; exact hil) (fun a n c e => by cases e; exact ⟨Nat.le_refl _, by simp [go_sem]⟩)) (touch_below (below_box _ _))
        · obtain ⟨⟨hil, hft⟩, ht⟩ := hG (20, 72) (by decide) (by decide)
          have t20 : Bq.tmps[72]? = some (vs 20) := by rw [hBq]; exact Plan.puts_in vs tabS A (by decide) (by decide) (by rw [hsz]; decide)
          refine Plan.one_call rfl 52 Try.func52 (by kernel_rfl) (by kernel_rfl) #[.const (.slice none 0 0), .tmp 72] #[22, 51] rfl #[.slice none 0 0, vs 20] (by simp only [List.map_toArray, List.map_cons, List.map_nil, Act.eval, Array.getD_eq_getD_getElem?, Option.getD_some, t20]) (fun r w' => Own w' wx.heap.size r ([] ++ numsL [0, ((syncL T.S T.nS).length : Int)]) ∧ Adv wx w' (.slice none 0 0) r) (appn_any (.slice none 0 0) _ [] [0, ((syncL T.S T.nS).length : Int)] wx.heap.size wx (own_nil _ _) hil (fun a n c e h => by cases h) (by simp) (by simp) (Nat.le_refl _)) (fun r w' hR => ?_)
          exact hK _ _ (GO.new hR.1 (by omega)) (touch_below (hR.2.below rfl))
        · obtain ⟨⟨ho, hft⟩, ht⟩ := hG (21, 73) (by decide) (by decide)
          have t21 : Bq.tmps[73]? = some (vs 21) := by rw [hBq]; exact Plan.puts_in vs tabS A (by decide) (by decide) (by rw [hsz]; decide)
          have t74 := (Plan.puts_out vs (s := 74) tabS A (by decide)).trans e74
          rw [← hBq] at t74
          refine Plan.one_call rfl 52 Try.func52 (by kernel_rfl) (by kernel_rfl) #[.tmp 73, .tmp 74] #[22, 51] rfl #[vs 21, .slice (some ⟨a6, 0, none⟩) n6 c6] (by simp only [List.map_toArray, List.map_cons, List.map_nil, Act.eval, Array.getD_eq_getD_getElem?, Option.getD_some, t21, t74]) (fun r w' => Own w' w1.heap.size r (numsL [0, ((syncL T.S T.nS).length : Int)] ++ numsL (syncL T.S T.nS)) ∧ Adv wx w' (vs 21) r) (appn_any _ _ (numsL [0, ((syncL T.S T.nS).length : Int)]) (syncL T.S T.nS) w1.heap.size wx ho (IL6.out.below HS.out) (fun a n c e h => by
            obtain ⟨a', n', c', e1, e2⟩ := own_block h
            have h1 := (ht _ (hft a' n' c' e1)).1
            cases e
            simp only at e2
            omega) (by have := HL64.out; omega) (by simp [numsL_length]) (by omega)) (fun r w' hR => ?_)
          exact hK _ _ (GO.adv hR.1 hR.2 (fun a n c e => terr_of (k := 21) (by decide) (hft a n c e))) (touch_adv hR.2 (fun a n c e => terr_of (k := 21) (by decide) (hft a n c e)))
        · obtain ⟨hgo, ht⟩ := hG (23, 75) (by decide) (by decide)
          obtain ⟨a0, c0, he⟩ := hgo.1.shape
          have HG' := Lib.hid hgo
          have t23 : Bq.tmps[75]? = some (vs 23) := by rw [hBq]; exact Plan.puts_in vs tabS A (by decide) (by decide) (by rw [hsz]; decide)
          rw [he] at t23 HG'
          clear hgo ht hG he
          clear hBq e55 e61 e66 e71 e74 e79 e82 e90 e93 hsz hdf
          go_wp2
          exact hK _ _ ⟨_, rfl, GO.same HG'.out (fun b hb => terr_of (by decide) hb)⟩ (touch_below (Below.refl _ _))
        · obtain ⟨⟨vd, he, hgo⟩, ht⟩ := hG (24, 76) (by decide) (by decide)
          have HG' := Lib.hid hgo
          have t24 : Bq.tmps[76]? = some (vs 24) := by rw [hBq]; exact Plan.puts_in vs tabS A (by decide) (by decide) (by rw [hsz]; decide)
          rw [he] at t24
          clear hgo ht hG he
          clear hBq e55 e61 e66 e71 e74 e79 e82 e90 e93 hsz hdf
          go_wp2
          exact hK _ _ ⟨vd, rfl, GO.same HG'.out (fun b hb => terr_of (by decide) hb)⟩ (touch_below (Below.refl _ _))
        · clear hG
          have t79 := (Plan.puts_out vs (s := 79) tabS A (by decide)).trans e79
          rw [← hBq] at t79
          clear hBq e55 e61 e66 e71 e74 e79 e82 e90 e93 hsz hdf
          go_wp2
          have hil := IL.build wx [0, 0, (T.nS : Int)] 2
          exact hK _ _ (GI.new (show IL _ _ [0, 0, ((sizeL T.S T.nS).length : Int)] by rw [← HN7.out]; exact hil) (fun a n c e => by cases e; exact ⟨Nat.le_refl _, by simp [go_sem]⟩)) (touch_below (below_box _ _))
        · obtain ⟨⟨hil, hft⟩, ht⟩ := hG (28, 80) (by decide) (by decide)
          have t28 : Bq.tmps[80]? = some (vs 28) := by rw [hBq]; exact Plan.puts_in vs tabS A (by decide) (by decide) (by rw [hsz]; decide)
          refine Plan.one_call rfl 52 Try.func52 (by kernel_rfl) (by kernel_rfl) #[.const (.slice none 0 0), .tmp 80] #[22, 51] rfl #[.slice none 0 0, vs 28] (by simp only [List.map_toArray, List.map_cons, List.map_nil, Act.eval, Array.getD_eq_getD_getElem?, Option.getD_some, t28]) (fun r w' => Own w' wx.heap.size r ([] ++ numsL [0, 0, ((sizeL T.S T.nS).length : Int)]) ∧ Adv wx w' (.slice none 0 0) r) (appn_any (.slice none 0 0) _ [] [0, 0, ((sizeL T.S T.nS).length : Int)] wx.heap.size wx (own_nil _ _) hil (fun a n c e h => by cases h) (by simp) (by simp) (Nat.le_refl _)) (fun r w' hR => ?_)
          exact hK _ _ (GO.new hR.1 (by omega)) (touch_below (hR.2.below rfl))
        · obtain ⟨⟨ho, hft⟩, ht⟩ := hG (29, 81) (by decide) (by decide)
          have t29 : Bq.tmps[81]? = some (vs 29) := by rw [hBq]; exact Plan.puts_in vs tabS A (by decide) (by decide) (by rw [hsz]; decide)
          have t82 := (Plan.puts_out vs (s := 82) tabS A (by decide)).trans e82
          rw [← hBq] at t82
          refine Plan.one_call rfl 52 Try.func52 (by kernel_rfl) (by kernel_rfl) #[.tmp 81, .tmp 82] #[22, 51] rfl #[vs 29, .slice (some ⟨a7, 0, none⟩) T.nS c7] (by simp only [List.map_toArray, List.map_cons, List.map_nil, Act.eval, Array.getD_eq_getD_getElem?, Option.getD_some, t29, t82]) (fun r w' => Own w' w1.heap.size r (numsL [0, 0, ((sizeL T.S T.nS).length : Int)] ++ numsL (sizeL T.S T.nS)) ∧ Adv wx w' (vs 29) r) (appn_any _ _ (numsL [0, 0, ((sizeL T.S T.nS).length : Int)]) (sizeL T.S T.nS) w1.heap.size wx ho (IL7.out.below HS.out) (fun a n c e h => by
            obtain ⟨a', n', c', e1, e2⟩ := own_block h
            have h1 := (ht _ (hft a' n' c' e1)).1
            cases e
            simp only at e2
            omega) (by have := HL74.out; omega) (by simp [numsL_length]) (by omega)) (fun r w' hR => ?_)
          exact hK _ _ (GO.adv hR.1 hR.2 (fun a n c e => terr_of (k := 29) (by decide) (hft a n c e))) (touch_adv hR.2 (fun a n c e => terr_of (k := 29) (by decide) (hft a n c e)))
        · obtain ⟨hgo, ht⟩ := hG (31, 83) (by decide) (by decide)
          obtain ⟨a0, c0, he⟩ := hgo.1.shape
          have HG' := Lib.hid hgo
          have t31 : Bq.tmps[83]? = some (vs 31) := by rw [hBq]; exact Plan.puts_in vs tabS A (by decide) (by decide) (by rw [hsz]; decide)
          rw [he] at t31 HG'
          clear hgo ht hG he
          clear hBq e55 e61 e66 e71 e74 e79 e82 e90 e93 hsz hdf
          go_wp2
          exact hK _ _ ⟨_, rfl, GO.same HG'.out (fun b hb => terr_of (by decide) hb)⟩ (touch_below (Below.refl _ _))
        · obtain ⟨⟨vd, he, hgo⟩, ht⟩ := hG (32, 84) (by decide) (by decide)
          have HG' := Lib.hid hgo
          have t32 : Bq.tmps[84]? = some (vs 32) := by rw [hBq]; exact Plan.puts_in vs tabS A (by decide) (by decide) (by rw [hsz]; decide)
          rw [he] at t32
          clear hgo ht hG he
          clear hBq e55 e61 e66 e71 e74 e79 e82 e90 e93 hsz hdf
          go_wp2
          exact hK _ _ ⟨vd, rfl, GO.same HG'.out (fun b hb => terr_of (by decide) hb)⟩ (touch_below (Below.refl _ _))
        · clear hG
          refine Plan.one_call rfl 75 Try.func75 (by kernel_rfl) (by kernel_rfl) #[] #[] rfl #[] (by simp) (fun r w' => Own w' wx.heap.size r (chunkL) ∧ Below wx.heap.size wx w') (chunks_any wx) (fun r w' hR => ?_)
          exact hK _ _ (GO.new hR.1 (by omega)) (touch_below hR.2)
        · obtain ⟨hgo, ht⟩ := hG (34, 86) (by decide) (by decide)
          obtain ⟨a0, c0, he⟩ := hgo.1.shape
          have HG' := Lib.hid hgo
          have t34 : Bq.tmps[86]? = some (vs 34) := by rw [hBq]; exact Plan.puts_in vs tabS A (by decide) (by decide) (by rw [hsz]; decide)
          rw [he] at t34 HG'
          clear hgo ht hG he
          clear hBq e55 e61 e66 e71 e74 e79 e82 e90 e93 hsz hdf
          go_wp2
          exact hK _ _ ⟨_, rfl, GO.same HG'.out (fun b hb => terr_of (by decide) hb)⟩ (touch_below (Below.refl _ _))
        · obtain ⟨⟨vd, he, hgo⟩, ht⟩ := hG (35, 87) (by decide) (by decide)
          have HG' := Lib.hid hgo
          have t35 : Bq.tmps[87]? = some (vs 35) := by rw [hBq]; exact Plan.puts_in vs tabS A (by decide) (by decide) (by rw [hsz]; decide)
          rw [he] at t35
          clear hgo ht hG he
          clear hBq e55 e61 e66 e71 e74 e79 e82 e90 e93 hsz hdf
          go_wp2
          exact hK _ _ ⟨vd, rfl, GO.same HG'.out (fun b hb => terr_of (by decide) hb)⟩ (touch_below (Below.refl _ _))
        · clear hG
          have t90 := (Plan.puts_out vs (s := 90) tabS A (by decide)).trans e90
          rw [← hBq] at t90
          clear hBq e55 e61 e66 e71 e74 e79 e82 e90 e93 hsz hdf
          go_wp2
          have hil := IL.build wx [0, (T.nS : Int)] 2
          exact hK _ _ (GI.new (show IL _ _ [0, ((placeL T.S first T.nS).length : Int)] by rw [← HN8.out]; exact hil) (fun a n c e => by cases e; exact ⟨Nat.le_refl _, by simp [go_sem]⟩)) (touch_below (below_box _ _))
        · obtain ⟨⟨hil, hft⟩, ht⟩ := hG (39, 91) (by decide) (by decide)
          have t39 : Bq.tmps[91]? = some (vs 39) := by rw [hBq]; exact Plan.puts_in vs tabS A (by decide) (by decide) (by rw [hsz]; decide)
          refine Plan.one_call rfl 52 Try.func52 (by kernel_rfl) (by kernel_rfl) #[.const (.slice none 0 0), .tmp 91] #[22, 51] rfl #[.slice none 0 0, vs 39] (by simp only [List.map_toArray, List.map_cons, List.map_nil, Act.eval, Array.getD_eq_getD_getElem?, Option.getD_some, t39]) (fun r w' => Own w' wx.heap.size r ([] ++ numsL [0, ((placeL T.S first T.nS).length : Int)]) ∧ Adv wx w' (.slice none 0 0) r) (appn_any (.slice none 0 0) _ [] [0, ((placeL T.S first T.nS).length : Int)] wx.heap.size wx (own_nil _ _) hil (fun a n c e h => by cases h) (by simp) (by simp) (Nat.le_refl _)) (fun r w' hR => ?_)
          exact hK _ _ (GO.new hR.1 (by omega)) (touch_below (hR.2.below rfl))
        · obtain ⟨⟨ho, hft⟩, ht⟩ := hG (40, 92) (by decide) (by decide)
          have t40 : Bq.tmps[92]? = some (vs 40) := by rw [hBq]; exact Plan.puts_in vs tabS A (by decide) (by decide) (by rw [hsz]; decide)
          have t93 := (Plan.puts_out vs (s := 93) tabS A (by decide)).trans e93
          rw [← hBq] at t93
          refine Plan.one_call rfl 52 Try.func52 (by kernel_rfl) (by kernel_rfl) #[.tmp 92, .tmp 93] #[22, 51] rfl #[vs 40, .slice (some ⟨a8, 0, none⟩) T.nS c8] (by simp only [List.map_toArray, List.map_cons, List.map_nil, Act.eval, Array.getD_eq_getD_getElem?, Option.getD_some, t40, t93]) (fun r w' => Own w' w1.heap.size r (numsL [0, ((placeL T.S first T.nS).length : Int)] ++ numsL (placeL T.S first T.nS)) ∧ Adv wx w' (vs 40) r) (appn_any _ _ (numsL [0, ((placeL T.S first T.nS).length : Int)]) (placeL T.S first T.nS) w1.heap.size wx ho (IL8.out.below HS.out) (fun a n c e h => by
            obtain ⟨a', n', c', e1, e2⟩ := own_block h
            have h1 := (ht _ (hft a' n' c' e1)).1
            cases e
            simp only at e2
            omega) (by have := HL84.out; omega) (by simp [numsL_length]) (by omega)) (fun r w' hR => ?_)
          exact hK _ _ (GO.adv hR.1 hR.2 (fun a n c e => terr_of (k := 40) (by decide) (hft a n c e))) (touch_adv hR.2 (fun a n c e => terr_of (k := 40) (by decide) (hft a n c e)))
        · obtain ⟨hgo, ht⟩ := hG (42, 94) (by decide) (by decide)
          obtain ⟨a0, c0, he⟩ := hgo.1.shape
          have HG' := Lib.hid hgo
          have t42 : Bq.tmps[94]? = some (vs 42) := by rw [hBq]; exact Plan.puts_in vs tabS A (by decide) (by decide) (by rw [hsz]; decide)
          rw [he] at t42 HG'
          clear hgo ht hG he
          clear hBq e55 e61 e66 e71 e74 e79 e82 e90 e93 hsz hdf
          go_wp2
          exact hK _ _ ⟨_, rfl, GO.same HG'.out (fun b hb => terr_of (by decide) hb)⟩ (touch_below (Below.refl _ _))
        · obtain ⟨⟨vd, he, hgo⟩, ht⟩ := hG (43, 95) (by decide) (by decide)
          have HG' := Lib.hid hgo
          have t43 : Bq.tmps[95]? = some (vs 43) := by rw [hBq]; exact Plan.puts_in vs tabS A (by decide) (by decide) (by rw [hsz]; decide)
          rw [he] at t43
          clear hgo ht hG he
          clear hBq e55 e61 e66 e71 e74 e79 e82 e90 e93 hsz hdf
          go_wp2
          exact hK _ _ ⟨vd, rfl, GO.same HG'.out (fun b hb => terr_of (by decide) hb)⟩ (touch_below (Below.refl _ _))
      · intro vs R wx hS hE hall hap
        have h7 : GF _ _ _ (R 7) (vs 7) wx := (hall (7, 59) (by decide) (by decide)).1
        have C7 := Lib.hid (show ∀ no : Option Nat, (∀ q, no = some q → q < w1.heap.size) → CA wx no (vs 7) _ from fun no hno => h7.ca hno)
        obtain ⟨v7, he7, _⟩ := h7
        rw [he7] at C7
        have h12 : GF _ _ _ (R 12) (vs 12) wx := (hall (12, 64) (by decide) (by decide)).1
        have C12 := Lib.hid (show ∀ no : Option Nat, (∀ q, no = some q → q < w1.heap.size) → CA wx no (vs 12) _ from fun no hno => h12.ca hno)
        obtain ⟨v12, he12, _⟩ := h12
        rw [he12] at C12
        have h17 : GF _ _ _ (R 17) (vs 17) wx := (hall (17, 69) (by decide) (by decide)).1
        have C17 := Lib.hid (show ∀ no : Option Nat, (∀ q, no = some q → q < w1.heap.size) → CA wx no (vs 17) _ from fun no hno => h17.ca hno)
        obtain ⟨v17, he17, _⟩ := h17
        rw [he17] at C17
        have h25 : GF _ _ _ (R 25) (vs 25) wx := (hall (25, 77) (by decide) (by decide)).1
        have C25 := Lib.hid (show ∀ no : Option Nat, (∀ q, no = some q → q < w1.heap.size) → CA wx no (vs 25) _ from fun no hno => h25.ca hno)
        obtain ⟨v25, he25, _⟩ := h25
        rw [he25] at C25
        have h33 : GF _ _ _ (R 33) (vs 33) wx := (hall (33, 85) (by decide) (by decide)).1
        have C33 := Lib.hid (show ∀ no : Option Nat, (∀ q, no = some q → q < w1.heap.size) → CA wx no (vs 33) _ from fun no hno => h33.ca hno)
        obtain ⟨v33, he33, _⟩ := h33
        rw [he33] at C33
        have h36 : GF _ _ _ (R 36) (vs 36) wx := (hall (36, 88) (by decide) (by decide)).1
        have C36 := Lib.hid (show ∀ no : Option Nat, (∀ q, no = some q → q < w1.heap.size) → CA wx no (vs 36) _ from fun no hno => h36.ca hno)
        obtain ⟨v36, he36, _⟩ := h36
        rw [he36] at C36
        have h44 : GF _ _ _ (R 44) (vs 44) wx := (hall (44, 96) (by decide) (by decide)).1
        have C44 := Lib.hid (show ∀ no : Option Nat, (∀ q, no = some q → q < w1.heap.size) → CA wx no (vs 44) _ from fun no hno => h44.ca hno)
        obtain ⟨v44, he44, _⟩ := h44
        rw [he44] at C44
        obtain ⟨Bq, hBq⟩ : ∃ Bq, Bq = Plan.puts vs tabS A := ⟨_, rfl⟩
        rw [← hBq]
        have t7 : Bq.tmps[59]? = some (vs 7) := by rw [hBq]; exact Plan.puts_in vs tabS A (by decide) (by decide) (by rw [hsz]; decide)
        rw [he7] at t7
        have t12 : Bq.tmps[64]? = some (vs 12) := by rw [hBq]; exact Plan.puts_in vs tabS A (by decide) (by decide) (by rw [hsz]; decide)
        rw [he12] at t12
        have t17 : Bq.tmps[69]? = some (vs 17) := by rw [hBq]; exact Plan.puts_in vs tabS A (by decide) (by decide) (by rw [hsz]; decide)
        rw [he17] at t17
        have t25 : Bq.tmps[77]? = some (vs 25) := by rw [hBq]; exact Plan.puts_in vs tabS A (by decide) (by decide) (by rw [hsz]; decide)
        rw [he25] at t25
        have t33 : Bq.tmps[85]? = some (vs 33) := by rw [hBq]; exact Plan.puts_in vs tabS A (by decide) (by decide) (by rw [hsz]; decide)
        rw [he33] at t33
        have t36 : Bq.tmps[88]? = some (vs 36) := by rw [hBq]; exact Plan.puts_in vs tabS A (by decide) (by decide) (by rw [hsz]; decide)
        rw [he36] at t36
        have t44 : Bq.tmps[96]? = some (vs 44) := by rw [hBq]; exact Plan.puts_in vs tabS A (by decide) (by decide) (by rw [hsz]; decide)
        rw [he44] at t44
        have hsB : Bq.tmps.size = 98 := by rw [hBq, Plan.puts_size, hsz]
        have hdB : Bq.defers = [] := by rw [hBq, Plan.puts_defers, hdf]
        have HS := Lib.hid hS
        have hSz := hS.size
        have hpa := Parts.of_alloc (w := wx) (t := 83) (n := 7) (B := w1.heap.size) (P := stbl T first) [.iface 109 (.agg #[.string nStsd, v7]), .iface 109 (.agg #[.string nStts, v12]), .iface 109 (.agg #[.string nCtts, v17]), .iface 109 (.agg #[.string nStss, v25]), .iface 109 (.agg #[.string nStsz, v33]), .iface 109 (.agg #[.string nStsc, v36]), .iface 109 (.agg #[.string nStco, v44])] rfl (by omega) (fun i v hv => by
          have hi : i < 7 := (List.getElem?_eq_some_iff.1 hv).1
          rcases (show i = 0 ∨ i = 1 ∨ i = 2 ∨ i = 3 ∨ i = 4 ∨ i = 5 ∨ i = 6 by omega) with rfl | rfl | rfl | rfl | rfl | rfl | rfl <;> (simp only [List.getElem?_cons_zero, List.getElem?_cons_succ, Option.some.injEq] at hv; subst hv)
          · exact C7.out
          · exact C12.out
          · exact C17.out
          · exact C25.out
          · exact C33.out
          · exact C36.out
          · exact C44.out)
        have HPA := Lib.hid hpa
        clear hall hap hE hS hpa hBq hsz hdf he7 he12 he17 he25 he33 he36 he44 e55 e61 e66 e71 e74 e79 e82 e90 e93
        refine Plan.plan_of_effect rfl (fun K hK => ?_)
        refine wpList_seven rfl (.tmp 59) (.tmp 64) (.tmp 69) (.tmp 77) (.tmp 85) (.tmp 88) (.tmp 96) rfl 109 109 109 109 109 109 109 (.agg #[.string nStsd, v7]) (.agg #[.string nStts, v12]) (.agg #[.string nCtts, v17]) (.agg #[.string nStss, v25]) (.agg #[.string nStsz, v33]) (.agg #[.string nStsc, v36]) (.agg #[.string nStco, v44]) (by simp only [List.map_toArray, List.map_cons, List.map_nil, Act.eval, Array.getD_eq_getD_getElem?, Option.getD_some, t7]) (by simp only [List.map_toArray, List.map_cons, List.map_nil, Act.eval, Array.getD_eq_getD_getElem?, Option.getD_some, t12]) (by simp only [List.map_toArray, List.map_cons, List.map_nil, Act.eval, Array.getD_eq_getD_getElem?, Option.getD_some, t17]) (by simp only [List.map_toArray, List.map_cons, List.map_nil, Act.eval, Array.getD_eq_getD_getElem?, Option.getD_some, t25]) (by simp only [List.map_toArray, List.map_cons, List.map_nil, Act.eval, Array.getD_eq_getD_getElem?, Option.getD_some, t33]) (by simp only [List.map_toArray, List.map_cons, List.map_nil, Act.eval, Array.getD_eq_getD_getElem?, Option.getD_some, t36]) (by simp only [List.map_toArray, List.map_cons, List.map_nil, Act.eval, Array.getD_eq_getD_getElem?, Option.getD_some, t44]) (wpList_nil (hK _ _ ?_))
        obtain ⟨w9, hw9⟩ : ∃ x, x = wx.alloc (.cells #[.iface 109 (.agg #[.string nStsd, v7]), .iface 109 (.agg #[.string nStts, v12]), .iface 109 (.agg #[.string nCtts, v17]), .iface 109 (.agg #[.string nStss, v25]), .iface 109 (.agg #[.string nStsz, v33]), .iface 109 (.agg #[.string nStsc, v36]), .iface 109 (.agg #[.string nStco, v44])] 83) := ⟨_, rfl⟩
        have hb9 : Below wx.heap.size wx w9 := by rw [hw9]; exact below_box _ _
        have hpa9 : Parts w9 w1.heap.size (.slice (some ⟨wx.heap.size, 0, none⟩) 7 7) 7 (stbl T first) := by rw [hw9]; exact HPA.out
        rw [← hw9]
        have HP9 := Lib.hid hpa9
        have HS9 := Lib.hid (HS.out.trans (hb9.mono hSz))
        clear hw9 hb9 hpa9 HPA t7 t12 t17 t25 t33 t36 t44
        refine ⟨HS9.out, ?_⟩
        obtain ⟨rv, hrv⟩ : ∃ v, v = Value.slice (some ⟨wx.heap.size, 0, none⟩) 7 7 := ⟨_, rfl⟩
        rw [← hrv] at HP9 ⊢
        obtain ⟨Cq, hCq⟩ : ∃ Cq, Cq = Bq.put (some 97) rv := ⟨_, rfl⟩
        have t97 : Cq.tmps[97]? = some rv := by rw [hCq]; simp [Act.put, Array.getElem?_setIfInBounds, hsB]
        have hsC : Cq.tmps.size = 98 := by rw [hCq]; simp [Act.put, hsB]
        have hdC : Cq.defers = [] := by rw [hCq]; exact hdB
        show Plan.wpPlan Try.prog _ _ _ _ _ _ (Bq.put (some 97) rv) w9
        rw [← hCq]
        clear hCq hsB hdB hrv
        refine Plan.plan_of_effect rfl (fun K hK => ?_)
        go_wp2_with fail
        refine ⟨HS9.out, ?_⟩
        refine Plan.plan_done ?_
        go_wp2_with fail
        have hget : (Cq.tmps.setIfInBounds 4 Cq.tmps[97]).getD 4 undef = rv := by
          have h97 : 97 < Cq.tmps.size := by omega
          rw [Array.getElem?_eq_getElem h97] at t97
          rw [Option.some.inj t97, Array.getD_eq_getD_getElem?, Array.getElem?_setIfInBounds, if_pos rfl, if_pos (by omega)]
          rfl
        refine bodyPost_ret (results_tmp Try.results65 _ _ _) rfl ?_
        rw [hget]
        exact ⟨rv, rfl, HP9.out.mono (by omega), HB1.out.trans ((hb1r.out.trans (HS9.out.mono (by omega))).mono (by omega))⟩
end Go.Proofs.Ytkhjkemllgjfmaa

/- A track's box as a tree; rows of contents of the call's own. -/
namespace Go.Proofs.Ytkhjkemllgjfmaa
open Go.RowKit
set_option linter.unusedVariables false
set_option linter.unusedSimpArgs false

def nTkhd : ByteArray := ⟨#[116, 107, 104, 100]⟩
def nEdts : ByteArray := ⟨#[101, 100, 116, 115]⟩
def nElst : ByteArray := ⟨#[101, 108, 115, 116]⟩
def nMdhd : ByteArray := ⟨#[109, 100, 104, 100]⟩
def nHdlr : ByteArray := ⟨#[104, 100, 108, 114]⟩
def nStbl : ByteArray := ⟨#[115, 116, 98, 108]⟩
def nMinf : ByteArray := ⟨#[109, 105, 110, 102]⟩
def nMdia : ByteArray := ⟨#[109, 100, 105, 97]⟩
def nTrak : ByteArray := ⟨#[116, 114, 97, 107]⟩
def zs (n : Nat) : List Int := List.replicate n 0
def tkhdL (k : Int) : List Int := [0, 0, 0, 3] ++ zs 8 ++ numsL [k] ++ zs 4 ++ numsL [0] ++ zs 16 ++ matL ++ zs 8
def mdhdL (T : Tr) : List Int := [] ++ zs 12 ++ numsL [T.sc, 0] ++ [85, 196, 0, 0]
def hdlrL (T : Tr) : List Int := [] ++ zs 8 ++ strB T.h ++ zs 13
def edtsT (T : Tr) : CT := .group nEdts 1 fun _ => .leaf nElst (numsL [0, (T.nE : Int)] ++ edL T.E T.nE)
def minfT (T : Tr) (first : Int) : CT := .group nMinf 1 fun _ => .group nStbl 7 (stbl T first)
def mdiaT (T : Tr) (first : Int) : CT := .group nMdia 3 fun i => if i = 0 then .leaf nMdhd (mdhdL T) else if i = 1 then .leaf nHdlr (hdlrL T) else minfT T first
def trakT (T : Tr) (k first : Int) : CT :=
  if 0 < T.nE then .group nTrak 3 fun i => if i = 0 then .leaf nTkhd (tkhdL k) else if i = 1 then edtsT T else mdiaT T first
  else .group nTrak 2 fun i => if i = 0 then .leaf nTkhd (tkhdL k) else mdiaT T first

/-- A row of contents. -/
def OwnC (w : World) (B : Nat) (v : Value) (xs : List Value) : Prop := w.ownsRow B 83 1 v xs.length xs
theorem OwnC.below {w w' : World} {B : Nat} {v : Value} {xs : List Value} (h : OwnC w B v xs) (hb : Below w.heap.size w w') : OwnC w' B v xs := owns_below h hb
theorem OwnC.shape {w : World} {B : Nat} {v : Value} {xs : List Value} (h : OwnC w B v xs) : ∃ a c, v = .slice a xs.length c := owns_shapeN h
theorem OwnC.one (w : World) (x : Value) : OwnC (w.alloc (.cells #[x] 83)) w.heap.size (.slice (some ⟨w.heap.size, 0, none⟩) 1 1) [x] := owns_one w 83 1 #[x] rfl
theorem Parts.group {w : World} {L n : Nat} {v : Value} {P : Nat → CT} (name : ByteArray) (h : Parts w L v n P) {no : Option Nat} (hno : ∀ q, no = some q → q < L) : CA w no (.iface 107 (.agg #[.string name, v])) (.group name n P) := by
  obtain ⟨g, f, rfl, hL, hl, hc, hs⟩ := h
  exact .group name n P g 0 n f (Nat.le_refl _) (fun e => by have := hno _ e; omega) hl hc (fun i hi => hs i hi no hno)
theorem Own.ca {w : World} {B : Nat} {v : Value} {L : List Int} (nm : ByteArray) (h : Own w B v L) {no : Option Nat} (hno : ∀ q, no = some q → q < B) : CA w no (.iface 109 (.agg #[.string nm, v])) (.leaf nm L) :=
  .leaf nm v L h.bl (fun a n c e => ⟨fun h' => by have h1 := hno _ h'; have h2 := (h.at a n c e).2.1; omega, (h.at a n c e).2.2⟩)
theorem BL.only0 {w w' : World} {v : Value} {L : List Int} (h : BL w v L) (hs : ∀ a n c, v = .slice (some a) n c → a.block < w.heap.size → w'.heap[a.block]? = w.heap[a.block]?) : BL w' v L := by
  obtain ⟨ao, c, rfl, hc, H⟩ := h
  refine ⟨ao, c, rfl, hc, fun i u hi => ?_⟩
  obtain ⟨b, o, rfl, hx⟩ := H i u hi
  have hl : b < w.heap.size := block_lt_of_cell hx
  exact ⟨b, o, rfl, (World.cell?_of_block (w := w) (a := ⟨b, o + i, none⟩) (hs ⟨b, o, none⟩ _ _ rfl hl)).trans hx⟩
/-- What avoids the block that has changed stays as it is. -/
theorem CA.both {w w' : World} {p no : Option Nat} {v : Value} {t : CT} (h : CA w p v t) (hg : w.grownBy w' p) : CA w no v t → CA w' no v t := by
  induction h with
  | leaf name vd data h hx =>
    intro h2
    cases h2 with
    | leaf _ _ _ _ hx2 => exact .leaf name vd data (h.only0 (fun a n c e hl => hg.block _ hl (fun h' => (hx a n c e).1 h'.symm))) (fun a n c e => ⟨(hx2 a n c e).1, Nat.lt_of_lt_of_le (hx a n c e).2 hg.size⟩)
  | group name n parts g o c f hc hb hlt hcell hsub ih =>
    intro h2
    cases h2 with
    | group _ _ _ _ _ _ f2 _ hb2 _ hcell2 hsub2 =>
      refine .group name n parts g o c f hc hb2 (Nat.lt_of_lt_of_le hlt hg.size) (fun i hi => (World.cell?_of_block (w := w) (a := ⟨g, o + i, none⟩) (hg.block g hlt (fun h' => hb h'.symm))).trans (hcell i hi)) (fun i hi => ih i hi ?_)
      have e : f2 i = f i := Option.some.inj ((hcell2 i hi).symm.trans (hcell i hi))
      rw [← e]
      exact hsub2 i hi
theorem CA.move {w : World} {p : Option Nat} {k : Nat} {v : Value} {t : CT} (h : CA w p v t) (hk : w.heap.size ≤ k) : CA w (some k) v t := by
  induction h with
  | leaf name vd data h hx => exact .leaf name vd data h (fun a n c e => ⟨fun h' => by have := (hx a n c e).2; cases h'; omega, (hx a n c e).2⟩)
  | group name n parts g o c f hc hb hlt hcell hsub ih => exact .group name n parts g o c f hc (fun h' => by cases h'; omega) hlt hcell ih

/-- A row of contents, with the trees that they are. -/
structure RowC (w : World) (B : Nat) (v : Value) (xs : List Value) (P : Nat → CT) : Prop where
  own : OwnC w B v xs
  here : ∀ i x, xs[i]? = some x → CA w v.ownBlock x (P i)
  low : ∀ i x, xs[i]? = some x → ∀ no : Option Nat, (∀ q, no = some q → q < B) → CA w no x (P i)
theorem RowC.below {w w' : World} {B : Nat} {v : Value} {xs : List Value} {P : Nat → CT} (h : RowC w B v xs P) (hb : Below w.heap.size w w') : RowC w' B v xs P :=
  ⟨h.own.below hb, fun i x hi => (h.here i x hi).bel hb, fun i x hi no hno => (h.low i x hi no hno).bel hb⟩
theorem RowC.add {w w' : World} {B W0 : Nat} {v v' y : Value} {xs : List Value} {P : Nat → CT} {t : CT} (h : RowC w B v xs P) (hv : ∀ g, v.ownBlock = some g → g < W0) (hB : B ≤ W0) (hy : ∀ no : Option Nat, (∀ q, no = some q → q < W0) → CA w no y t)
    (ho : OwnC w' B v' (xs ++ [y])) (ha : Adv0 w w' v v') : RowC w' B v' (xs ++ [y]) (fun i => if i = xs.length then t else P i) := by
  have both : ∀ {x : Value} {t : CT} {no : Option Nat}, CA w v.ownBlock x t → CA w no x t → CA w' no x t := fun h1 h2 => h1.both ha.g h2
  have here : ∀ {x : Value} {t : CT}, CA w v.ownBlock x t → CA w' v'.ownBlock x t := fun h1 => by
    rcases ha.o with e | ⟨k, e, hk⟩
    · rw [e]; exact both h1 h1
    · rw [e]; exact both h1 (h1.move hk)
  have split : ∀ i x, (xs ++ [y])[i]? = some x → (i < xs.length ∧ xs[i]? = some x) ∨ (i = xs.length ∧ x = y) := by
    intro i x hi
    by_cases hlt : i < xs.length
    · rw [List.getElem?_append_left hlt] at hi
      exact .inl ⟨hlt, hi⟩
    · rw [List.getElem?_append_right (by omega)] at hi
      have h0 : i - xs.length = 0 := by
        have := (List.getElem?_eq_some_iff.1 hi).1
        simp at this
        omega
      rw [h0] at hi
      simp at hi
      exact .inr ⟨by omega, hi.symm⟩
  refine ⟨ho, fun i x hi => ?_, fun i x hi no hno => ?_⟩
  · rcases split i x hi with ⟨hlt, hx⟩ | ⟨rfl, rfl⟩
    · simp only [show i ≠ xs.length by omega, if_false]
      exact here (h.here i x hx)
    · simp only [if_true]
      exact here (hy _ hv)
  · rcases split i x hi with ⟨hlt, hx⟩ | ⟨rfl, rfl⟩
    · simp only [show i ≠ xs.length by omega, if_false]
      exact both (h.here i x hx) (h.low i x hx no hno)
    · simp only [if_true]
      exact both (hy _ hv) (hy no (fun q hq => Nat.lt_of_lt_of_le (hno q hq) hB))
theorem RowC.group {w : World} {B : Nat} {v : Value} {xs : List Value} {P Q : Nat → CT} {n : Nat} (name : ByteArray) (h : RowC w B v xs P) (hn : xs.length = n) (h0 : 0 < n) (hPQ : ∀ i, i < n → P i = Q i) {no : Option Nat} (hno : ∀ q, no = some q → q < B) : CA w no (.iface 107 (.agg #[.string name, v])) (.group name n Q) := by
  subst hn
  obtain ⟨g, c, rfl, hc, hB, hf, hcell⟩ := owns_open2 h.own h0
  have hx' : ∀ i (hi : i < xs.length), w.cell? ⟨g, 0 + i, none⟩ = some (xs.getD i undef) := fun i hi => by
    rw [Nat.zero_add]
    exact hcell i _ (by simp [List.getD, List.getElem?_eq_getElem hi])
  exact .group name xs.length Q g 0 c (fun i => xs.getD i undef) hc (fun e => by have := hno _ e; omega) (block_lt_of_cell (hx' 0 h0)) hx' (fun i hi => by rw [← hPQ i hi]; exact h.low i _ (by simp [List.getD, List.getElem?_eq_getElem hi]) no hno)
theorem RowC.one {w : World} {B : Nat} {x : Value} {t : CT} (hB : B ≤ w.heap.size) (h : ∀ no : Option Nat, (∀ q, no = some q → q < B) → CA w no x t) : RowC (w.alloc (.cells #[x] 83)) B (.slice (some ⟨w.heap.size, 0, none⟩) 1 1) [x] (fun _ => t) := by
  have one : ∀ i y, [x][i]? = some y → y = x := fun i y hi => by
    have h0 : i = 0 := by
      have := (List.getElem?_eq_some_iff.1 hi).1
      simp at this
      exact this
    subst h0
    simp at hi
    exact hi.symm
  refine ⟨owns_mono (OwnC.one w x) hB, fun i y hi => ?_, fun i y hi no hno => ?_⟩
  · rw [one i y hi]
    exact ((h none (by simp)).move (Nat.le_refl _)).bel (below_box _ _)
  · rw [one i y hi]
    exact (h no hno).bel (below_box _ _)
theorem OwnC.lt {w : World} {B : Nat} {v : Value} {xs : List Value} (h : OwnC w B v xs) {g : Nat} (hg : v.ownBlock = some g) : g < w.heap.size := by
  rcases h.2 with ⟨rfl, _⟩ | ⟨g', cap, cur, rfl, h1, h2, _⟩
  · cases hg
  · cases hg; exact (Array.getElem?_eq_some_iff.1 h2).1
theorem Adv0.up {w w' : World} {B : Nat} {v v' : Value} {xs : List Value} (h : OwnC w B v xs) (ha : Adv0 w w' v v') (hB : B ≤ w.heap.size) : Below B w w' :=
  (Below.refl _ _).grown ha.g hB (fun k hk => by
    rcases h.2 with ⟨rfl, _⟩ | ⟨g', cap, cur, rfl, h1, h2, _⟩
    · cases hk
    · cases hk; exact h1)
/-- One more content, at the operation. -/
theorem wpList_addC (w : World) {ops : Array Oper} {rest : List Oper} {o : Oper} {a : Act} {Q : Exit → Act → World → Prop} (hgd : o.guard = none) (s x : Operand)
    (ho : o.op = .call { callee := .builtin .append, args := #[s, x], argTypes := #[105, 105] }) (B : Nat) (v : Value) (xs : List Value) (y : Value) (hs : a.eval s = v) (hown : OwnC w B v xs)
    (b c : Nat) (hx : a.eval x = .slice (some ⟨b, 0, none⟩) 1 c) (hy : w.cell? ⟨b, 0, none⟩ = some y) (h1 : y.oneCell' = true) (hk : xs.length + 1 ≤ 100000) (hB : B ≤ w.heap.size)
    (h : ∀ v' w', OwnC w' B v' (xs ++ [y]) → Adv0 w w' v v' → wpList Try.prog ops Q rest (a.put o.dst v') w') : wpList Try.prog ops Q (o :: rest) a w := by
  obtain ⟨i0, hi, hz0, hz1, hz2⟩ := info_parts info83
  refine wpList_append_lies _ hgd s x 105 ho B 83 i0 .nilIface 1 16 Try.underlying105 hi hz0 hz1 hz2 rfl (by decide) v xs.length xs hs hown ⟨b, 0, none⟩ 1 c [y] hx rfl (fun j u hj => ?_) (fun u hu => by simp at hu; subst hu; exact h1) (by decide) (by unfold maxLen; omega) (by omega) hB w.heap.size rfl (fun g cap w' hown' hg hor hlt => ?_)
  · have : j = 0 := by
      have := (List.getElem?_eq_some_iff.1 hj).1
      simp at this
      exact this
    subst this
    simp at hj
    subst hj
    rw [Addr.add_lit]
    exact hy
  · refine h _ w' (by unfold OwnC; rw [List.length_append]; exact hown') ⟨hg, ?_⟩
    rcases hor with e | e
    · exact .inl e.symm
    · exact .inr ⟨g, rfl, by omega⟩
end Go.Proofs.Ytkhjkemllgjfmaa
