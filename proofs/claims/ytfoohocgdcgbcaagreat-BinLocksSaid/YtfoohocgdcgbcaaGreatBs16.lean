/- Texts of this claim joined: NF NG NH NI NK NL NJ NM NN NO NP NQ. -/
import Derived.OwnWalk
import Derived.Handy
import Derived.Test.YtfoohocgdcgbcaaGreatBs15
set_option linter.unusedVariables false
set_option linter.unusedSimpArgs false
namespace Go.Proofs.YtfoohocgdcgbcaaGreat
open Go.RowKit
set_option maxRecDepth 100000 in
theorem built_doc (d : Dc) (t : Value) : Tryz.prog.builtSlice 65 1 [(0, .agg (docL d t).toArray)] = some (docL d t).toArray := by kernel_rfl
theorem OT.tsr {w : World} {B : Nat} {v : Value} {l : List Trk.Clip} (h : OT w B v l) : TS (fun b => B ≤ b ∧ b < w.heap.size) w v l := by
 intro w' ha
 have h' := h
 rcases h with ⟨rfl, hl, he⟩ | ⟨b, cap, cur, rfl, hB, hb, _⟩
 ·exact OT.tk (w := w') (B := B) (.inl ⟨rfl, hl, he⟩)
 ·exact OT.tk (w := w') (B := B) (RowX.blk h' (ha b ⟨hB, (Array.getElem?_eq_some_iff.1 hb).1⟩))
def madeD (u nm : ByteArray) (t : List Trk.Clip) : Dc := ⟨nm, ⟨#[]⟩, 0, [⟨1, u, 0, false, Trk.nf t⟩]⟩
def FirstR (now : Int) (u nm : ByteArray) (t : List Trk.Clip) (code now' : Int) (ds : List Dc) (os : List Rpt) : Prop := code = 0 ∧ now' = now ∧ ds = [madeD u nm t] ∧ os = [⟨1, u, nm, 0⟩]
set_option maxRecDepth 100000 in
set_option maxHeartbeats 16000000 in
theorem step_create0 {L : Int} (now : Int) (u nm : ByteArray) (ta : Option Addr) (tn tc : Nat) (t : List Trk.Clip) (w : World) (ht : Tk w (.slice ta tn tc) t) (Vt : VT L t) (hL : L ≤ 140737488355328) :
  Calls Tryz.prog 63 #[.agg #[.int .i64 now, .slice none 0 0], .iface 144 (.agg #[.int .i64 1, .string u, .string nm, .slice ta tn tc])] w (StepPost w (FirstR now u nm t)) := by
 have HTK := Lib.hid ht
 have NO := Lib.hid (fun w (h : Tk w (.slice ta tn tc) t) => normal_any _ t w h Vt hL)
 clear ht Vt
 have m154 := ta_miss154 144 (by decide)
 have m144 := ta_hit144
 have maddr := ta_addr144
 go_enter Tryz.func63, Tryz.ntmps63
 go_upto_region 1 with fail
 obtain ⟨w1, hw1⟩ : ∃ y, y = (w.alloc (.cells #[.int .i64 now, .slice none 0 0] 55)).alloc (.cells #[.int .i64 0, .slice none 0 0] 55) := ⟨_, rfl⟩
 obtain ⟨b1, hb1⟩ : ∃ y, y = w.heap.size := ⟨_, rfl⟩
 obtain ⟨b2, hb2⟩ : ∃ y, y = w.heap.size + 1 := ⟨_, rfl⟩
 have hb : Below w.heap.size w w1 := by rw [hw1]; exact ((Below.refl _ _).alloc (Nat.le_refl _) _).alloc (by simp [go_sem]) _
 have HCB := Lib.hid (show CB w1 b1 b2 now (.slice none 0 0) by
  rw [hw1, hb1, hb2]
  refine ⟨by simp [go_sem], by simp [go_sem], by simp [go_sem], by simp [go_sem], by simp [go_sem], by simp [go_sem], by simp [go_sem], #[.int .i64 0, .slice none 0 0], rfl, ?_⟩
  have := (MapKept.heap_alloc (w.alloc (.cells #[.int .i64 now, .slice none 0 0] 55)) (.cells #[.int .i64 0, .slice none 0 0] 55)).1
  simpa using this)
 have HNE := Lib.hid (show b1 ≠ b2 ∧ b1 < w1.heap.size ∧ b2 < w1.heap.size ∧ w.heap.size ≤ b1 ∧ w.heap.size ≤ b2 from ⟨by omega, block_lt_of_cell HCB.out.c0, block_lt_of_cell HCB.out.e0, by omega, by omega⟩)
 rw [← hw1, ← hb2, ← hb1]
 have HB := Lib.hid hb
 clear hw1 hb1 hb2 hb
 obtain ⟨k0, k1, k2, k3, k4, k5, k6, -⟩ := HCB.out
 go_wp2_with fail
 refine (docs_nil w1).mono ?_
 rintro e w2 ⟨rfl, rfl⟩
 go_upto_region 2 with fail
 clear k0 k1 k2 k3 k4 k5 k6
 replace HCB := Lib.hid (HCB.out.put HNE.out.1 (.slice none 0 0))
 replace HB := Lib.hid (below_setCells b1 HNE.out.2.2.2.1 [.slice none 0 0] 1 _ HB.out)
 simp only [World.setCells] at HB
 replace HNE := Lib.hid (show b1 ≠ b2 ∧ b1 < (w2.setCell ⟨b1, 1, none⟩ (.slice none 0 0)).heap.size ∧ b2 < (w2.setCell ⟨b1, 1, none⟩ (.slice none 0 0)).heap.size ∧ w.heap.size ≤ b1 ∧ w.heap.size ≤ b2 from ⟨HNE.out.1, by simpa [World.setCell] using HNE.out.2.1, by simpa [World.setCell] using HNE.out.2.2.1, HNE.out.2.2.2⟩)
 obtain ⟨w3, hw3⟩ : ∃ y, y = w2.setCell ⟨b1, 1, none⟩ (.slice none 0 0) := ⟨_, rfl⟩
 rw [← hw3] at HCB HB HNE ⊢
 clear hw3
 go_upto_region 9 with fail
 have hba : Below w3.heap.size w3 (w3.alloc (.cells #[.int .i64 0] 154)) := below_box _ _
 obtain ⟨w4, hw4⟩ : ∃ y, y = w3.alloc (.cells #[.int .i64 0] 154) := ⟨_, rfl⟩
 rw [← hw4] at hba ⊢
 clear hw4
 rw [take4]
 refine (address_any 1 u nm w4).mono ?_
 rintro e w5 ⟨rfl, hb⟩
 replace hb := hba.trans (hb.mono hba.size)
 replace HCB := Lib.hid (HCB.out.below hb)
 replace HB := Lib.hid (HB.out.trans (hb.mono HB.out.size))
 clear hb hba
 go_upto_region 9 with fail
 obtain ⟨w6, hw6⟩ : ∃ y, y = w5.alloc (.cells #[.int .i64 1, .string u, .string nm] 142) := ⟨_, rfl⟩
 obtain ⟨b11, hb11⟩ : ∃ y, y = w5.heap.size := ⟨_, rfl⟩
 have hb : Below w5.heap.size w5 w6 := by rw [hw6]; exact below_box _ _
 have HT := Lib.hid (show TG w6 b11 1 u nm by rw [hw6, hb11]; exact ⟨by simp [go_sem], by simp [go_sem], by simp [go_sem]⟩)
 have HNT := Lib.hid (show b11 ≠ b2 ∧ b11 ≠ b1 from ⟨by have := block_lt_of_cell HCB.out.e0; dsimp only at this; omega, by have := block_lt_of_cell HCB.out.c0; dsimp only at this; omega⟩)
 rw [← hw6, ← hb11]
 replace HCB := Lib.hid (HCB.out.below hb)
 replace HB := Lib.hid (HB.out.trans (hb.mono HB.out.size))
 clear hb hw6 hb11
 obtain ⟨k0, k1, k2, k3, k4, k5, k6, -⟩ := HCB.out
 obtain ⟨t0, t1, t2⟩ := HT.out
 go_wp2_with fail
 refine (find_none nm now w6).mono ?_
 rintro e w7 ⟨rfl, hb⟩
 replace HCB := Lib.hid (HCB.out.below hb)
 replace HT := Lib.hid (HT.out.below hb)
 replace HB := Lib.hid (HB.out.trans (hb.mono HB.out.size))
 clear k0 k1 k2 k3 k4 k5 k6 t0 t1 t2 hb
 go_upto_region 11 with fail
 obtain ⟨w8, hw8⟩ : ∃ y, y = w7.alloc (.cells #[.int .i64 1, .string u, .string nm, .slice ta tn tc] 144) := ⟨_, rfl⟩
 obtain ⟨b13, hb13⟩ : ∃ y, y = w7.heap.size := ⟨_, rfl⟩
 have hb : Below w7.heap.size w7 w8 := by rw [hw8]; exact below_box _ _
 have c3 : w8.cell? ⟨b13, 3, none⟩ = some (.slice ta tn tc) := by rw [hw8, hb13]; simp [go_sem]
 have HC3 := Lib.hid c3
 rw [← hw8, ← hb13]
 replace HCB := Lib.hid (HCB.out.below hb)
 replace HT := Lib.hid (HT.out.below hb)
 replace HB := Lib.hid (HB.out.trans (hb.mono HB.out.size))
 replace HTK := Lib.hid (HTK.out.below HB.out)
 clear hb hw8 hb13 c3 m154 m144 maddr
 obtain ⟨k0, k1, k2, k3, k4, k5, k6, -⟩ := HCB.out
 go_upto_region 16 with fail
 clear k0 k1 k2 k3 k4 k5 k6
 go_cut [15] from 62 to 67 (fun v15 wx => ∃ (b : Nat) (x : Value), v15 = .pointer (some ⟨b, 0, none⟩) ∧ Below w8.heap.size w8 wx ∧ w8.heap.size ≤ b ∧ OT wx w8.heap.size x (Trk.nf t) ∧ wx.rangeAt b 0 (revL ⟨1, u, 0, false, Trk.nf t⟩ x))
 case first =>
  obtain ⟨t0, t1, t2⟩ := HT.out
  have c3 := HC3.out
  have hS0 : Below w8.heap.size w8 w8.drew := (Below.refl _ _).drew
  refine Plan.wp_region_tree (fun w' => Below w8.heap.size w8 w') (.run ([0, 1, 2, 3].map (·, true)) (.fork 4 (.run ([5].map (·, true) ++ [6, 7].map (·, false)) .leaf) 6 (.run ([4].map (·, false) ++ ([5].map (·, true) ++ [7].map (·, false))) .leaf))) (by kernel_rfl) (by kernel_rfl) (by kernel_rfl) hS0 ?_
  refine Plan.tree_run ?_
  refine' Plan.plan_seg _ [0, 1, 2, 3] [] (by kernel_rfl) (by kernel_rfl) rfl (by exact hS0) (fun wx hS => ?_) ?_
  rotate_left
  ·have t := HT.out.below hS
   obtain ⟨t0, t1, t2⟩ := t
   have c3 := (hS.cell (p := ⟨b13, 3, none⟩) (block_lt_of_cell HC3.out)).trans HC3.out
   clear hS
   go_light
   iterate 4 (apply Plan.seg_pick; rfl; intro K hK; go_wp)
   exact Plan.seg_nil
  refine Plan.plan_nil ?_
  obtain ⟨w9, hw9⟩ : ∃ x, x = w8.drew := ⟨_, rfl⟩
  rw [← hw9] at hS0 ⊢
  have HS0 := Lib.hid hS0
  clear hw9 t0 t1 t2 c3 hS0
  refine Plan.tree_fork ?_ ?_
  ·refine Plan.op_of_list rfl (fun K hK => ?_)
   go_wp2_with fail
   refine (NO.out _ (HTK.out.below HS0.out)).mono ?_
   rintro e w10 ⟨xv, rfl, ho, hb⟩
   obtain ⟨xa, xc, hxv, -⟩ := ho.tk
   obtain ⟨xn, hxn⟩ : ∃ n, n = (Trk.nf t).length := ⟨_, rfl⟩
   rw [← hxn] at hxv
   subst hxv
   have HO := Lib.hid (ho.lower HS0.out.size)
   replace HS0 := Lib.hid (HS0.out.trans (hb.mono HS0.out.size))
   clear ho hb hxn
   go_wp2_with fail
   refine ⟨HS0.out, ?_⟩
   refine Plan.tree_run ?_
   refine' Plan.plan_seg _ [5] [(6, false), (7, false)] (by kernel_rfl) (by kernel_rfl) rfl (by exact HS0.out) (fun wx hS => ?_) ?_
   rotate_left
   ·clear hS
    go_light
    iterate 1 (apply Plan.seg_pick; rfl; intro K hK; go_wp)
    exact Plan.seg_nil
   refine Plan.plan_of_effect rfl (fun K hK => ?_)
   go_wp2_with fail
   refine ⟨HS0.out.alloc HS0.out.size _, ?_⟩
   refine Plan.plan_of_effect rfl (fun K hK => ?_)
   go_wp2_with fail
   refine ⟨HS0.out.alloc HS0.out.size _, ?_⟩
   refine Plan.plan_nil ?_
   refine Plan.tree_leaf ?_
   have hob := HO.out.below (below_box w10 (.cells #[.int .i64 1, .string u, .int .i64 0, .bool false, .slice xa xn xc] 67))
   go_wp2_with fail
   go_meet
   case rel =>
    refine ⟨w10.heap.size, .slice xa xn xc, rfl, HS0.out.alloc HS0.out.size _, HS0.out.size, hob, fun j v hj => ?_⟩
    unfold World.cell?
    rw [(MapKept.heap_alloc w10 _).1]
    simpa [revL] using hj
  ·refine Plan.op_of_list rfl (fun K hK => ?_)
   go_wp2_with fail
   refine ⟨HS0.out.alloc HS0.out.size _, ?_⟩
   obtain ⟨w10, hw10⟩ : ∃ y, y = w9.alloc (.cells #[.int .i64 0, .string ⟨#[]⟩, .int .i64 0, .bool false, .slice none 0 0] 67) := ⟨_, rfl⟩
   obtain ⟨b15, hb15⟩ : ∃ y, y = w9.heap.size := ⟨_, rfl⟩
   have hb : Below w9.heap.size w9 w10 := by rw [hw10]; exact below_box _ _
   have r0 : w10.cell? ⟨b15, 0, none⟩ = some (.int .i64 0) := by rw [hw10, hb15]; simp [go_sem]
   have r1 : w10.cell? ⟨b15, 1, none⟩ = some (.string ⟨#[]⟩) := by rw [hw10, hb15]; simp [go_sem]
   have r2 : w10.cell? ⟨b15, 2, none⟩ = some (.int .i64 0) := by rw [hw10, hb15]; simp [go_sem]
   have r3 : w10.cell? ⟨b15, 3, none⟩ = some (.bool false) := by rw [hw10, hb15]; simp [go_sem]
   have r4 : w10.cell? ⟨b15, 4, none⟩ = some (.slice none 0 0) := by rw [hw10, hb15]; simp [go_sem]
   have rf : ∀ o, w10.frozen? ⟨b15, o, none⟩ = false := fun o => by rw [hw10, hb15]; simp [go_sem]
   have HBL := Lib.hid (show w8.heap.size ≤ b15 by rw [hb15]; exact HS0.out.size)
   rw [← hw10, ← hb15]
   replace HS0 := Lib.hid (HS0.out.trans (hb.mono HS0.out.size))
   clear hb hw10 hb15
   refine Plan.tree_run ?_
   refine Plan.plan_of_effect rfl (fun K hK => ?_)
   have HR := Lib.hid (And.intro r0 (And.intro r1 (And.intro r2 (And.intro r3 (And.intro r4 rf)))))
   clear r0 r1 r2 r3 r4 rf
   go_wp2_with fail
   refine (NO.out _ (HTK.out.below HS0.out)).mono ?_
   rintro e w12 ⟨xv, rfl, ho, hb⟩
   obtain ⟨xa, xc, hxv, -⟩ := ho.tk
   obtain ⟨xn, hxn⟩ : ∃ n, n = (Trk.nf t).length := ⟨_, rfl⟩
   rw [← hxn] at hxv
   subst hxv
   have hbl := block_lt_of_cell HR.out.1
   dsimp only at hbl
   have HO := Lib.hid (((((ho.far (p := ⟨b15, 0, none⟩) hbl (.int .i64 1)).far (p := ⟨b15, 1, none⟩) hbl (.string u)).far (p := ⟨b15, 2, none⟩) hbl (.int .i64 0)).far (p := ⟨b15, 3, none⟩) hbl (.bool false)).far (p := ⟨b15, 4, none⟩) hbl (.slice xa xn xc))
   obtain ⟨r0, r1, r2, r3, r4, rf⟩ := HR.out
   replace r0 := (hb.cell (p := ⟨b15, 0, none⟩) hbl).trans r0
   replace r1 := (hb.cell (p := ⟨b15, 1, none⟩) hbl).trans r1
   replace r2 := (hb.cell (p := ⟨b15, 2, none⟩) hbl).trans r2
   replace r3 := (hb.cell (p := ⟨b15, 3, none⟩) hbl).trans r3
   replace r4 := (hb.cell (p := ⟨b15, 4, none⟩) hbl).trans r4
   replace rf : ∀ o, w12.frozen? ⟨b15, o, none⟩ = false := fun o => (hb.frozen (p := ⟨b15, o, none⟩) hbl).trans (rf o)
   have HR2 := Lib.hid (And.intro r0 (And.intro r1 (And.intro r2 (And.intro r3 (And.intro r4 rf)))))
   replace HO := Lib.hid (HO.out.lower HS0.out.size)
   replace HS0 := Lib.hid (HS0.out.trans (hb.mono HS0.out.size))
   clear ho hb hxn hbl HR r0 r1 r2 r3 r4 rf
   go_wp2_with fail
   refine ⟨HS0.out, ?_⟩
   refine' Plan.plan_seg _ [5] [(7, false)] (by kernel_rfl) (by kernel_rfl) rfl (by exact HS0.out) (fun wx hS => ?_) ?_
   rotate_left
   ·clear hS
    go_light
    iterate 1 (apply Plan.seg_pick; rfl; intro K hK; go_wp)
    exact Plan.seg_nil
   refine Plan.plan_of_effect rfl (fun K hK => ?_)
   obtain ⟨r0, r1, r2, r3, r4, rf⟩ := HR2.out
   go_wp2_with fail
   have hbf := below_setCells b15 HBL.out [.int .i64 1, .string u, .int .i64 0, .bool false, .slice xa xn xc] 0 _ HS0.out
   simp only [World.setCells, Nat.zero_add, Nat.reduceAdd] at hbf
   refine ⟨hbf, ?_⟩
   refine Plan.plan_nil ?_
   refine Plan.tree_leaf ?_
   have hra : (((((w12.setCell ⟨b15, 0, none⟩ (.int .i64 1)).setCell ⟨b15, 1, none⟩ (.string u)).setCell ⟨b15, 2, none⟩ (.int .i64 0)).setCell ⟨b15, 3, none⟩ (.bool false)).setCell ⟨b15, 4, none⟩ (.slice xa xn xc)).rangeAt b15 0 (revL ⟨1, u, 0, false, Trk.nf t⟩ (.slice xa xn xc)) := by
    apply rev_put (x := .slice none 0 0) <;> simp [go_sem, r0, r1, r2, r3, r4, rf]
   obtain ⟨wf, hwf⟩ : ∃ x, x = ((((w12.setCell ⟨b15, 0, none⟩ (.int .i64 1)).setCell ⟨b15, 1, none⟩ (.string u)).setCell ⟨b15, 2, none⟩ (.int .i64 0)).setCell ⟨b15, 3, none⟩ (.bool false)).setCell ⟨b15, 4, none⟩ (.slice xa xn xc) := ⟨_, rfl⟩
   rw [← hwf] at hra hbf HO ⊢
   clear hwf r0 r1 r2 r3 r4 rf
   go_wp2_with fail
   go_meet
   case rel => exact ⟨b15, .slice xa xn xc, rfl, hbf, HBL.out, HO.out, hra⟩
 case rest =>
 obtain ⟨b15, xv, rfl, hb, hb15, hox, hrc⟩ := hcut
 obtain ⟨xa, xc, hxv, -⟩ := hox.tk
 obtain ⟨xn, hxn⟩ : ∃ n, n = (Trk.nf t).length := ⟨_, rfl⟩
 rw [← hxn] at hxv
 subst hxv
 have HOX := Lib.hid hox
 have HRC := Lib.hid hrc
 have HL8 := Lib.hid (show b1 < w8.heap.size ∧ b2 < w8.heap.size ∧ b11 < w8.heap.size from ⟨block_lt_of_cell HCB.out.c0, block_lt_of_cell HCB.out.e0, block_lt_of_cell HT.out.c0⟩)
 replace HCB := Lib.hid (HCB.out.below hb)
 replace HT := Lib.hid (HT.out.below hb)
 have HS8 := Lib.hid (show w8.heap.size ≤ wc.heap.size from hb.size)
 replace HB := Lib.hid (HB.out.trans (hb.mono HB.out.size))
 clear hb hox hrc hxn
 obtain ⟨k0, k1, k2, k3, k4, k5, k6, -⟩ := HCB.out
 obtain ⟨t0, t1, t2⟩ := HT.out
 go_upto_region 18 with fail
 apply wp_region_lit
 iterate 12 go_step
 refine wpl_loadR HRC.out rfl rfl rfl ?_
 simp only [Act.put, List.setIfInBounds_toArray, List.set_cons_succ, List.set_cons_zero]
 obtain ⟨R, hR⟩ : ∃ R : Rv, R = ⟨1, u, 0, false, Trk.nf t⟩ := ⟨_, rfl⟩
 have HRE := Lib.hid hR
 rw [← hR]
 clear hR
 refine Great.wpList_buildSliceTo rfl 63 67 1 #[(0, .tmp 75)] rfl wc.heap.size rfl (some 76) rfl Tryz.underlying63 (revL R (.slice xa xn xc)).toArray ?_ ?_
 ·simp only [List.map_toArray, List.map_cons, List.map_nil, List.toList_toArray]
  exact built_rev R (.slice xa xn xc)
 obtain ⟨x1, hx1⟩ : ∃ y, y = wc.alloc (.cells (revL R (.slice xa xn xc)).toArray 67) := ⟨_, rfl⟩
 obtain ⟨q, hq⟩ : ∃ y, y = wc.heap.size := ⟨_, rfl⟩
 have hb1 : Below wc.heap.size wc x1 := by rw [hx1]; exact below_box _ _
 have hrow : RowX x1 q 67 5 (.slice (some ⟨q, 0, none⟩) 1 1) 1 (revL R (.slice xa xn xc)) := by
  rw [hx1, hq]
  exact .inr ⟨wc.heap.size, 1, (revL R (.slice xa xn xc)).toArray, rfl, Nat.le_refl _, (MapKept.heap_alloc wc _).1, Nat.le_refl _, by unfold maxLen; omega, rfl, rfl, rfl⟩
 rw [← hx1, ← hq]
 have HROW := Lib.hid hrow
 have HQQ := Lib.hid hq
 have HQX := Lib.hid (show q < x1.heap.size from hrow.lt.2.1)
 clear hx1 hrow hq
 simp only [Act.put, List.setIfInBounds_toArray, List.set_cons_succ, List.set_cons_zero]
 iterate 3 go_step
 obtain ⟨D, hD⟩ : ∃ D : Dc, D = ⟨nm, ⟨#[]⟩, 0, [R]⟩ := ⟨_, rfl⟩
 refine Great.wpList_buildSliceTo rfl 53 65 1 #[(0, .tmp 77)] rfl x1.heap.size rfl (some 78) rfl Tryz.underlying53 (docL D (.slice (some ⟨q, 0, none⟩) 1 1)).toArray ?_ ?_
 ·simp only [List.map_toArray, List.map_cons, List.map_nil, List.toList_toArray]
  rw [hD]
  exact built_doc ⟨nm, ⟨#[]⟩, 0, [R]⟩ (.slice (some ⟨q, 0, none⟩) 1 1)
 obtain ⟨x2, hx2⟩ : ∃ y, y = x1.alloc (.cells (docL D (.slice (some ⟨q, 0, none⟩) 1 1)).toArray 65) := ⟨_, rfl⟩
 obtain ⟨bd, hbd⟩ : ∃ y, y = x1.heap.size := ⟨_, rfl⟩
 have hb2 : Below x1.heap.size x1 x2 := by rw [hx2]; exact below_box _ _
 have hcd : ∀ j v, (docL D (.slice (some ⟨q, 0, none⟩) 1 1))[j]? = some v → x2.cell? ((⟨bd, 0, none⟩ : Addr).add j) = some v := by
  intro j v hj
  rw [Addr.add_mid, Nat.zero_add, hx2, hbd]
  unfold World.cell?
  rw [(MapKept.heap_alloc x1 _).1]
  simpa using hj
 rw [← hx2, ← hbd]
 clear hx2 hbd
 simp only [Act.put, List.setIfInBounds_toArray, List.set_cons_succ, List.set_cons_zero]
 obtain ⟨v', x3, hrun, a1, a2, a3, a4, a5⟩ := append_x x2 x2.heap.size 53 65 4 64 z65 Tryz.underlying53 info65 zeros65 (.slice none 0 0) 0 [] (.inl ⟨rfl, rfl, rfl⟩) (Nat.le_refl _) ⟨bd, 0, none⟩ 1 1 (docL D (.slice (some ⟨q, 0, none⟩) 1 1)) rfl hcd (docL_one rfl) (by omega) (by unfold maxLen; omega) (fun cap h1 h2 => growslice_fits h2 (by omega))
 rw [Nat.zero_add, List.nil_append] at a1
 obtain ⟨g, cap, rfl⟩ : ∃ g cap, v' = .slice (some ⟨g, 0, none⟩) 1 cap := by
  rcases a1 with ⟨_, e2, _⟩ | ⟨g', cap', cur, e, _⟩
  ·omega
  ·exact ⟨_, _, e⟩
 have HDR := Lib.hid a1
 have HW1 := Lib.hid hb1
 have HW2 := Lib.hid hb2
 have HW3 := Lib.hid a2
 clear a1 a2 a3 a4 a5 hcd hb1 hb2
 refine Lib.wpList_append_run (P := Tryz.prog) x2 rfl (.tmp 72) (.tmp 78) 53 53 rfl (.slice none 0 0) (.slice (some ⟨bd, 0, none⟩) 1 1) rfl rfl _ _ hrun ?_
 clear hrun
 simp only [Act.put, List.setIfInBounds_toArray, List.set_cons_succ, List.set_cons_zero]
 have HWC := Lib.hid (show Below wc.heap.size wc x3 from HW1.out.trans ((HW2.out.mono HW1.out.size).trans (HW3.out.mono (Nat.le_trans HW1.out.size HW2.out.size))))
 replace HCB := Lib.hid (HCB.out.below HWC.out)
 replace HT := Lib.hid (HT.out.below HWC.out)
 replace HROW := Lib.hid ((HROW.out.below HW2.out).below HW3.out)
 clear k0 k1 k2 k3 k4 k5 k6 t0 t1 t2
 obtain ⟨k0, k1, k2, k3, k4, k5, k6, -⟩ := HCB.out
 have HSZ := Lib.hid (show wc.heap.size ≤ x1.heap.size ∧ x1.heap.size ≤ x2.heap.size ∧ x2.heap.size ≤ x3.heap.size from ⟨HW1.out.size, HW2.out.size, HW3.out.size⟩)
 have HGQ := Lib.hid (show x2.heap.size ≤ g ∧ q < x1.heap.size from ⟨HDR.out.lt.1, HQX.out⟩)
 go_upto_region 24 with fail
 obtain ⟨w10, hw10⟩ : ∃ y, y = x3.setCell ⟨b1, 1, none⟩ (.slice (some ⟨g, 0, none⟩) 1 cap) := ⟨_, rfl⟩
 clear k0 k1 k2 k3 k4 k5 k6
 have hsz10 : w10.heap.size = x3.heap.size := by rw [hw10]; simp [World.setCell]
 have hoth : ∀ b, b ≠ b1 → w10.heap[b]? = x3.heap[b]? := fun b hb => by rw [hw10]; exact setCells_other b1 b hb [_] 1 x3
 have h1 := HL8.out
 have h2 := HS8.out
 have h3 := HSZ.out
 have h4 := HGQ.out
 have h5 := HQQ.out
 have h6 := HDR.out.lt
 replace HB := Lib.hid (show Below w.heap.size w w10 by
  have := below_setCells b1 HNE.out.2.2.2.1 [.slice (some ⟨g, 0, none⟩) 1 cap] 1 _ (HB.out.trans (HWC.out.mono HB.out.size))
  rw [hw10]
  simpa only [World.setCells] using this)
 replace HT := Lib.hid (HT.out.same (hoth b11 HNT.out.2))
 replace HCB := Lib.hid (show CB w10 b1 b2 now (.slice (some ⟨g, 0, none⟩) 1 cap) by rw [hw10]; exact HCB.out.put HNE.out.1 _)
 have hRt : R.t = Trk.nf t := by rw [HRE.out]
 have hts : TS (fun b => b < w10.heap.size ∧ b ≠ g ∧ b ≠ q) w10 (.slice xa xn xc) R.t := by
  rw [hRt]
  refine (HOX.out.tsr.on (w' := w10) fun b hb => ?_).mono fun b hb => ⟨by omega, by omega, by omega⟩
  exact (hoth b (by omega)).trans (HWC.out.block b hb.2)
 have hoq : OQ w10 q 1 g [R] := by
  refine ⟨by omega, [.slice xa xn xc], rfl, ?_, fun i r v hr hv => ?_⟩
  ·have := HROW.out.blk (hoth q (by omega))
   simpa [flatC] using this
  ·cases i with
   | zero =>
    obtain rfl := Option.some.inj hr
    obtain rfl := Option.some.inj hv
    exact hts
   | succ i => simp at hr
 have hdx : DX w10 g cap w10.heap.size [D] := by
  refine ⟨Nat.le_refl _, [.slice (some ⟨q, 0, none⟩) 1 1], rfl, ?_, fun i d v hd hv => ?_⟩
  ·have := (HDR.out.blk (hoth g (by omega))).raise
   simpa [flatC] using this
  ·cases i with
   | zero =>
    obtain rfl := Option.some.inj hd
    obtain rfl := Option.some.inj hv
    rw [hD]
    exact hoq.rs
   | succ i => simp at hd
 have d3 : w10.cell? ⟨g, 3, none⟩ = some (.slice (some ⟨q, 0, none⟩) 1 1) := by
  obtain ⟨rv, hcd, -⟩ := hdx.doc (i := 0) rfl
  have e3 := (HDR.out.blk (hoth g (by omega))).cell (j := 3) (u := .slice (some ⟨q, 0, none⟩) 1 1) rfl
  exact e3
 have HDX2 := Lib.hid hdx
 have HGL := Lib.hid (hdx.lt.1)
 have HD3 := Lib.hid d3
 have HG := Lib.hid (show b1 ≠ g ∧ b2 ≠ g ∧ True from ⟨by omega, by omega, trivial⟩)
 rw [← hw10]
 clear hw10 hsz10 hoth h1 h2 h3 h4 h5 h6 hts hoq hdx d3 hRt
 have hS0 : ∀ b, b < w10.heap.size → b ≠ b2 → w10.drew.heap[b]? = w10.heap[b]? := fun b _ _ => rfl
 refine Plan.wp_region_tree (fun w' => ∀ b, b < w10.heap.size → b ≠ b2 → w'.heap[b]? = w10.heap[b]?) (.run ([0, 1, 2, 3, 4, 5, 6, 7, 8, 9, 10, 11, 12, 13, 14, 15].map (·, true)) (.fork 16 (.run ([17].map (·, false) ++ [18, 19].map (·, true)) .leaf) 17 (.run ([16].map (·, false) ++ [18, 19].map (·, true)) .leaf))) (by kernel_rfl) (by kernel_rfl) (by kernel_rfl) hS0 ?_
 refine Plan.tree_run ?_
 refine' Plan.plan_seg _ [0, 1, 2, 3, 4, 5, 6, 7, 8, 9, 10, 11, 12, 13, 14, 15] [] (by kernel_rfl) (by kernel_rfl) rfl (by exact hS0) (fun wx hS => ?_) ?_
 rotate_left
 ·have t := HT.out.same (hS b11 (block_lt_of_cell HT.out.c0) HNT.out.1)
  obtain ⟨t0, t1, t2⟩ := t
  have k0 := (World.cell?_of_block (a := ⟨b1, 0, none⟩) (hS b1 (block_lt_of_cell HCB.out.c0) HNE.out.1)).trans HCB.out.c0
  have k1 := (World.cell?_of_block (a := ⟨b1, 1, none⟩) (hS b1 (block_lt_of_cell HCB.out.c0) HNE.out.1)).trans HCB.out.c1
  have d3 := (World.cell?_of_block (a := ⟨g, 3, none⟩) (hS g HGL.out (Ne.symm HG.out.2.1))).trans HD3.out
  go_light
  iterate 16 (apply Plan.seg_pick; rfl; intro K hK; go_wp)
  exact Plan.seg_nil
 refine Plan.plan_nil ?_
 obtain ⟨w11, hw11⟩ : ∃ x, x = w10.drew := ⟨_, rfl⟩
 have hb : Below w10.heap.size w10 w11 := by rw [hw11]; exact (Below.refl _ _).drew
 rw [← hw11] at hS0 ⊢
 replace HDX2 := Lib.hid (HDX2.out.below hb)
 replace HCB := Lib.hid (HCB.out.below hb)
 replace HB := Lib.hid (HB.out.trans (hb.mono HB.out.size))
 have HS0 := Lib.hid hS0
 have HLN := Lib.hid (show [D].length = 1 from rfl)
 clear hb hw11 hS0 HD3
 obtain ⟨O, hO⟩ : ∃ O : Rpt, O = ⟨1, u, nm, 0⟩ := ⟨_, rfl⟩
 have HO := Lib.hid hO
 have hOL : (outL O).toArray = #[.int .i64 1, .string u, .string nm, .int .i64 0] := by rw [hO]; rfl
 have HOL := Lib.hid hOL
 have hRD : FirstR now u nm t 0 now [D] [O] := by rw [hO, hD, HRE.out]; exact ⟨rfl, rfl, rfl, rfl⟩
 have HRD := Lib.hid hRD
 clear hO hOL hRD
 have hdc : Dcs w11 (.slice (some ⟨g, 0, none⟩) 1 cap) [D] := by have := HDX2.out.dcs; rwa [HLN.out] at this
 have HDC := Lib.hid hdc
 have HLW := Lib.hid (show w10.heap.size ≤ w11.heap.size from HDX2.out.m0)
 clear hdc
 refine Plan.tree_fork ?_ ?_
 ·refine Plan.op_of_list rfl (fun K hK => ?_)
  refine Great.wpList_buildSliceTo rfl 60 88 1 #[(0, .tmp 111)] rfl w11.heap.size rfl (some 112) rfl Tryz.underlying60 (outL O).toArray ?_ ?_
  ·simp only [List.map_toArray, List.map_cons, List.map_nil, List.toList_toArray]
   have := built_out O
   rw [HOL.out] at this ⊢
   exact this
  obtain ⟨w12, hw12⟩ : ∃ y, y = w11.alloc (.cells (outL O).toArray 88) := ⟨_, rfl⟩
  have hb : Below w11.heap.size w11 w12 := by rw [hw12]; exact below_box _ _
  obtain ⟨bo, hbo⟩ : ∃ y, y = w11.heap.size := ⟨_, rfl⟩
  have hoc : w12.rangeAt bo 0 (outL O) := by
   rw [hw12, hbo]
   intro j v hj
   unfold World.cell?
   rw [(MapKept.heap_alloc w11 _).1]
   simpa using hj
  have hbn : bo ≠ b2 := by have := block_lt_of_cell HCB.out.e0; dsimp only at this; omega
  rw [← hw12, ← hbo]
  replace HCB := Lib.hid (HCB.out.below hb)
  replace HDC := Lib.hid (HDC.out.below hb)
  replace HS0 := Lib.hid (fun b (h1 : b < w10.heap.size) (h2 : b ≠ b2) => (hb.block b (Nat.lt_of_lt_of_le h1 HLW.out)).trans (HS0.out b h1 h2))
  replace HB := Lib.hid (HB.out.trans (hb.mono HB.out.size))
  have HOC := Lib.hid hoc
  have HBN := Lib.hid hbn
  clear hb hw12 hbo hoc hbn
  simp only [Act.put, List.setIfInBounds_toArray, List.set_cons_succ, List.set_cons_zero]
  refine wpList_nil ?_
  refine hK _ _ ⟨HS0.out, ?_⟩
  refine Plan.tree_run ?_
  obtain ⟨k0, k1, k2, k3, k4, k5, k6, -⟩ := HCB.out
  refine Plan.plan_of_effect rfl (fun K hK => ?_)
  go_wp2_with fail
  obtain ⟨z0, z1, zd, zb, zo⟩ := cb_fin (u := .slice (some ⟨g, 0, none⟩) 1 cap) HCB.out HDC.out HB.out HNE.out.2.2.2.2 now
  have hS1 := fun b (h1 : b < w10.heap.size) (h2 : b ≠ b2) => (zo b h2).trans (HS0.out b h1 h2)
  refine ⟨hS1, ?_⟩
  refine' Plan.plan_seg _ [18, 19] [] (by kernel_rfl) (by kernel_rfl) rfl (by exact hS1) (fun wx hS => ?_) ?_
  rotate_left
  ·clear hS
   go_light
   iterate 2 (apply Plan.seg_pick; rfl; intro K hK; go_wp)
   exact Plan.seg_nil
  refine Plan.plan_nil ?_
  refine Plan.tree_leaf ?_
  have hou : Outs ((w12.setCell ⟨b2, 0, none⟩ (.int .i64 now)).setCell ⟨b2, 1, none⟩ (.slice (some ⟨g, 0, none⟩) 1 cap)) (.slice (some ⟨bo, 0, none⟩) 1 1) [O] := by
   refine ⟨_, 1, rfl, Nat.le_refl _, by unfold maxLen; omega, fun i x hi => ?_⟩
   cases i with
   | zero =>
    obtain rfl := Option.some.inj hi
    exact ⟨bo, 0, rfl, rangeAt_ag HOC.out (zo bo HBN.out)⟩
   | succ i => simp at hi
  obtain ⟨wf, hwf⟩ : ∃ x, x = (w12.setCell ⟨b2, 0, none⟩ (.int .i64 now)).setCell ⟨b2, 1, none⟩ (.slice (some ⟨g, 0, none⟩) 1 cap) := ⟨_, rfl⟩
  rw [← hwf] at z0 z1 zd zb hou ⊢
  have HZ := Lib.hid (And.intro z0 (And.intro z1 (And.intro zd (And.intro zb hou))))
  clear hwf z0 z1 zd zb zo hou hS1 k0 k1 k2 k3 k4 k5 k6
  go_wp2_with fail
  obtain ⟨z0, z1, zd, zb, hou⟩ := HZ.out
  exact bodyPost_ret (v := .tuple #[.agg #[.int .i64 now, .slice (some ⟨g, 0, none⟩) 1 cap], .slice (some ⟨bo, 0, none⟩) 1 1, .int .i64 0]) (by simp [results, Tryz.results63, go_sem, z0, z1]) rfl ⟨0, now, _, _, _, _, rfl, HRD.out, zd, hou, zb⟩
 ·refine Plan.op_of_list rfl (fun K hK => ?_)
  obtain ⟨k0, k1, k2, k3, k4, k5, k6, -⟩ := HCB.out
  go_wp2_with fail
  obtain ⟨z0, z1, zd, zb, zo⟩ := cb_fin (u := .slice (some ⟨g, 0, none⟩) 1 cap) HCB.out HDC.out HB.out HNE.out.2.2.2.2 now
  have hS1 := fun b (h1 : b < w10.heap.size) (h2 : b ≠ b2) => (zo b h2).trans (HS0.out b h1 h2)
  refine ⟨hS1, ?_⟩
  obtain ⟨w12, hw12⟩ : ∃ x, x = (w11.setCell ⟨b2, 0, none⟩ (.int .i64 now)).setCell ⟨b2, 1, none⟩ (.slice (some ⟨g, 0, none⟩) 1 cap) := ⟨_, rfl⟩
  have hlw : w10.heap.size ≤ w12.heap.size := by rw [hw12]; simpa [World.setCell] using HLW.out
  rw [← hw12] at z0 z1 zd zb hS1 ⊢
  clear zo hw12 k0 k1 k2 k3 k4 k5 k6
  refine Plan.tree_run ?_
  refine Plan.plan_of_effect rfl (fun K hK => ?_)
  refine Great.wpList_buildSliceTo rfl 60 88 1 #[(0, .tmp 111)] rfl w12.heap.size rfl (some 112) rfl Tryz.underlying60 (outL O).toArray ?_ ?_
  ·simp only [List.map_toArray, List.map_cons, List.map_nil, List.toList_toArray]
   have := built_out O
   rw [HOL.out] at this ⊢
   exact this
  obtain ⟨w13, hw13⟩ : ∃ y, y = w12.alloc (.cells (outL O).toArray 88) := ⟨_, rfl⟩
  have hb : Below w12.heap.size w12 w13 := by rw [hw13]; exact below_box _ _
  obtain ⟨bo, hbo⟩ : ∃ y, y = w12.heap.size := ⟨_, rfl⟩
  have hoc : w13.rangeAt bo 0 (outL O) := by
   rw [hw13, hbo]
   intro j v hj
   unfold World.cell?
   rw [(MapKept.heap_alloc w12 _).1]
   simpa using hj
  rw [← hw13, ← hbo]
  replace z0 := (hb.cell (p := ⟨b2, 0, none⟩) (block_lt_of_cell z0)).trans z0
  replace z1 := (hb.cell (p := ⟨b2, 1, none⟩) (block_lt_of_cell z1)).trans z1
  replace zd := zd.below hb
  replace zb := zb.trans (hb.mono zb.size)
  have hS2 := fun b (h1 : b < w10.heap.size) (h2 : b ≠ b2) => (hb.block b (Nat.lt_of_lt_of_le h1 hlw)).trans (hS1 b h1 h2)
  have hou : Outs w13 (.slice (some ⟨bo, 0, none⟩) 1 1) [O] := by
   refine ⟨_, 1, rfl, Nat.le_refl _, by unfold maxLen; omega, fun i x hi => ?_⟩
   cases i with
   | zero =>
    obtain rfl := Option.some.inj hi
    exact ⟨bo, 0, rfl, hoc⟩
   | succ i => simp at hi
  have HZ := Lib.hid (And.intro z0 (And.intro z1 (And.intro zd (And.intro zb hou))))
  clear hb hw13 hbo hoc z0 z1 zd zb hou hS1 hlw
  simp only [Act.put, List.setIfInBounds_toArray, List.set_cons_succ, List.set_cons_zero]
  refine wpList_nil ?_
  refine hK _ _ ⟨hS2, ?_⟩
  refine' Plan.plan_seg _ [18, 19] [] (by kernel_rfl) (by kernel_rfl) rfl (by exact hS2) (fun wx hS => ?_) ?_
  rotate_left
  ·clear hS
   go_light
   iterate 2 (apply Plan.seg_pick; rfl; intro K hK; go_wp)
   exact Plan.seg_nil
  refine Plan.plan_nil ?_
  refine Plan.tree_leaf ?_
  clear hS2
  go_wp2_with fail
  obtain ⟨z0, z1, zd, zb, hou⟩ := HZ.out
  exact bodyPost_ret (v := .tuple #[.agg #[.int .i64 now, .slice (some ⟨g, 0, none⟩) 1 cap], .slice (some ⟨bo, 0, none⟩) 1 1, .int .i64 0]) (by simp [results, Tryz.results63, go_sem, z0, z1]) rfl ⟨0, now, _, _, _, _, rfl, HRD.out, zd, hou, zb⟩
theorem Outs.skip {w w' : World} {b : Nat} {v : Value} {os : List Rpt} (h : Outs w v os) (h2 : Two2 w b) (hs : ∀ x, x ≠ b → w'.heap[x]? = w.heap[x]?) : Outs w' v os := by
 obtain ⟨ao, cap, e, e1, e2, h3⟩ := h
 refine ⟨ao, cap, e, e1, e2, fun i x hi => ?_⟩
 obtain ⟨b', o, e3, hc⟩ := h3 i x hi
 exact ⟨b', o, e3, rangeAt_ag hc (hs b' (h2.ne (hc 2 _ rfl) (by omega)))⟩
structure Fine (R : Int → Int → List Dc → List Rpt → Prop) : Prop where
 ok : ∀ now ds os, R 0 now ds os → ds ≠ [] ∧ ds.length ≤ 1000 ∧ ∀ d ∈ ds, 1 ≤ d.revs.length ∧ d.revs.length ≤ 1000 ∧ ∀ r ∈ d.revs, r.t.length ≤ 1048576
 no : ∀ code now ds os, R code now ds os → code ≠ 0 → now = 0 ∧ ds = [] ∧ os = []
set_option maxRecDepth 100000 in
set_option maxHeartbeats 16000000 in
theorem bigstep_any {L : Int} (now : Int) (v : Value) (d : Dc) (k : Int) (u nm : ByteArray) (bs tk : Int) (ta : Option Addr) (tn tc : Nat) (T : TypeId) (x : Value) (R : Int → Int → List Dc → List Rpt → Prop) (w : World)
  (h : Dcs w v [d]) (hd : DocOK L now d) (hL : L ≤ 140737488355328) (h0 : 0 ≤ now) (h1 : now ≤ 1099511627776) (hF : Fine R)
  (hc : ∀ w1, Below w.heap.size w w1 → Calls Tryz.prog 62 #[.agg #[.int .i64 k, .string u, .string nm, .int .i64 bs, .int .i64 tk, .slice ta tn tc]] w1 fun e w' => e = .returned (.tuple #[.iface T x, .bool true]) ∧ Below w1.heap.size w1 w')
  (hs : ∀ w1, Below w.heap.size w w1 → Calls Tryz.prog 63 #[.agg #[.int .i64 now, v], .iface T x] w1 (StepPost w1 R)) :
  Calls Tryz.prog 26 #[.agg #[.int .i64 now, v], .agg #[.int .i64 k, .string u, .string nm, .int .i64 bs, .int .i64 tk, .slice ta tn tc]] w (StepPost w R) := by
 have HF := Lib.hid hF
 have HC := Lib.hid hc
 have HS := Lib.hid hs
 have VO := Lib.hid (fun w1 (hb : Below w.heap.size w w1) => valid_one d v now w1 (h.below hb) hd hL h0 h1)
 obtain ⟨va, vc, hv, -⟩ := h
 obtain ⟨N, hN⟩ : ∃ N, N = [d].length := ⟨_, rfl⟩
 rw [← hN] at hv
 subst hv
 clear hN hF hc hs hd h0 h1
 go_enter Tryz.func26, Tryz.ntmps26
 go_upto_region 1 with fail
 obtain ⟨w1, hw1⟩ : ∃ y, y = ((w.alloc (.cells #[.int .i64 now, .slice va N vc] 55)).alloc (.cells #[.int .i64 k, .string u, .string nm, .int .i64 bs, .int .i64 tk, .slice ta tn tc] 59)).alloc (.cells #[.int .i64 0, .slice none 0 0] 55) := ⟨_, rfl⟩
 obtain ⟨b1, hb1⟩ : ∃ y, y = w.heap.size := ⟨_, rfl⟩
 obtain ⟨b3, hb3⟩ : ∃ y, y = w.heap.size + 1 := ⟨_, rfl⟩
 obtain ⟨b2, hb2⟩ : ∃ y, y = w.heap.size + 1 + 1 := ⟨_, rfl⟩
 have hb : Below w.heap.size w w1 := by rw [hw1]; exact (((Below.refl _ _).alloc (Nat.le_refl _) _).alloc (by simp [go_sem]) _).alloc (by simp [go_sem]; omega) _
 have HCB := Lib.hid (show CB w1 b1 b2 now (.slice va N vc) by
  rw [hw1, hb1, hb2]
  refine ⟨by simp [go_sem], by simp [go_sem], by simp [go_sem], by simp [go_sem], by simp [go_sem], by simp [go_sem], by simp [go_sem], #[.int .i64 0, .slice none 0 0], rfl, ?_⟩
  have := (MapKept.heap_alloc ((w.alloc (.cells #[.int .i64 now, .slice va N vc] 55)).alloc (.cells #[.int .i64 k, .string u, .string nm, .int .i64 bs, .int .i64 tk, .slice ta tn tc] 59)) (.cells #[.int .i64 0, .slice none 0 0] 55)).1
  simpa using this)
 have HE := Lib.hid (show w1.rangeAt b3 0 [.int .i64 k, .string u, .string nm, .int .i64 bs, .int .i64 tk, .slice ta tn tc] by
  rw [hw1, hb3]
  intro j v hj
  have hj6 : j < 6 := by have := (List.getElem?_eq_some_iff.1 hj).1; simpa using this
  have : j = 0 ∨ j = 1 ∨ j = 2 ∨ j = 3 ∨ j = 4 ∨ j = 5 := by omega
  rcases this with rfl | rfl | rfl | rfl | rfl | rfl <;> simp only [List.getElem?_cons_zero, List.getElem?_cons_succ, Option.some.injEq] at hj <;> subst hj <;> simp [go_sem])
 have HNE := Lib.hid (show b1 ≠ b2 ∧ w.heap.size ≤ b1 ∧ w.heap.size ≤ b2 from ⟨by omega, by omega, by omega⟩)
 rw [← hw1, ← hb2, ← hb3, ← hb1]
 have HB := Lib.hid hb
 clear hw1 hb1 hb2 hb3 hb
 obtain ⟨k0, k1, k2, k3, k4, k5, k6, -⟩ := HCB.out
 go_wp2_with fail
 refine (VO.out w1 HB.out).mono ?_
 rintro e w2 ⟨rfl, hb⟩
 clear k0 k1 k2 k3 k4 k5 k6
 replace HCB := Lib.hid (HCB.out.below hb)
 replace HE := Lib.hid (rangeAt_below HE.out (by simp) hb)
 replace HB := Lib.hid (HB.out.trans (hb.mono HB.out.size))
 clear hb VO
 have e0 := HE.out 0 _ rfl
 have e1 := HE.out 1 _ rfl
 have e2 := HE.out 2 _ rfl
 have e3 := HE.out 3 _ rfl
 have e4 := HE.out 4 _ rfl
 have e5 := HE.out 5 _ rfl
 simp only [Nat.zero_add, Nat.add_zero] at e0 e1 e2 e3 e4 e5
 go_wp2_with fail
 refine (HC.out w2 HB.out).mono ?_
 rintro e w3 ⟨rfl, hb⟩
 clear e0 e1 e2 e3 e4 e5
 replace HCB := Lib.hid (HCB.out.below hb)
 replace HB := Lib.hid (HB.out.trans (hb.mono HB.out.size))
 clear hb HC HE
 obtain ⟨k0, k1, k2, k3, k4, k5, k6, -⟩ := HCB.out
 go_wp2_with fail
 refine (HS.out w3 HB.out).mono ?_
 rintro e w4 ⟨code, now', v', ov, ds', os, rfl, hr, hdc, hou, hb⟩
 clear k0 k1 k2 k3 k4 k5 k6
 replace HCB := Lib.hid (HCB.out.below hb)
 replace HB := Lib.hid (HB.out.trans (hb.mono HB.out.size))
 have HR := Lib.hid hr
 have HDC := Lib.hid hdc
 have HOU := Lib.hid hou
 obtain ⟨va', vc', hv', -⟩ := hdc
 obtain ⟨vn', hvn⟩ : ∃ n, n = ds'.length := ⟨_, rfl⟩
 rw [← hvn] at hv'
 subst hv'
 obtain ⟨oa, oc, hov, -⟩ := hou
 obtain ⟨on', hon⟩ : ∃ n, n = os.length := ⟨_, rfl⟩
 rw [← hon] at hov
 subst hov
 clear hb hr HS hvn hon
 go_upto_region 7 with fail
 obtain ⟨w5, hw5⟩ : ∃ y, y = w4.alloc (.cells #[.int .i64 now', .slice va' vn' vc'] 55) := ⟨_, rfl⟩
 obtain ⟨b9, hb9⟩ : ∃ y, y = w4.heap.size := ⟨_, rfl⟩
 have hb : Below w4.heap.size w4 w5 := by rw [hw5]; exact below_box _ _
 have n0 : w5.cell? ⟨b9, 0, none⟩ = some (.int .i64 now') := by rw [hw5, hb9]; simp [go_sem]
 have n1 : w5.cell? ⟨b9, 1, none⟩ = some (.slice va' vn' vc') := by rw [hw5, hb9]; simp [go_sem]
 rw [← hw5, ← hb9]
 replace HCB := Lib.hid (HCB.out.below hb)
 replace HB := Lib.hid (HB.out.trans (hb.mono HB.out.size))
 replace HDC := Lib.hid (HDC.out.below hb)
 replace HOU := Lib.hid (HOU.out.below hb)
 clear hb hw5 hb9
 by_cases hz : code = 0
 ·subst hz
  obtain ⟨f1, f2, f3⟩ := HF.out.ok _ _ _ HR.out
  have SC := Lib.hid (stateclone_any _ ds' now' w5 HDC.out f1 f2 f3)
  clear f1 f2 f3
  go_wp2_with fail
  refine SC.out.mono ?_
  rintro e w6 ⟨v6, rfl, hd6, hb⟩
  replace HCB := Lib.hid (HCB.out.below hb)
  replace HB := Lib.hid (HB.out.trans (hb.mono HB.out.size))
  replace HOU := Lib.hid (HOU.out.below hb)
  have HD6 := Lib.hid hd6
  obtain ⟨va6, vc6, hv6, -⟩ := hd6
  obtain ⟨vn6, hvn⟩ : ∃ n, n = ds'.length := ⟨_, rfl⟩
  rw [← hvn] at hv6
  subst hv6
  clear hb n0 n1 SC hvn
  obtain ⟨k0, k1, k2, k3, k4, k5, k6, -⟩ := HCB.out
  go_wp2_with fail
  obtain ⟨z0, z1, zd, zb, zo⟩ := cb_fin (u := .slice va6 vn6 vc6) HCB.out HD6.out HB.out HNE.out.2.2 now'
  have hou := HOU.out.skip (w' := (w6.setCell ⟨b2, 0, none⟩ (.int .i64 now')).setCell ⟨b2, 1, none⟩ (.slice va6 vn6 vc6)) HCB.out.s zo
  obtain ⟨wf, hwf⟩ : ∃ x, x = (w6.setCell ⟨b2, 0, none⟩ (.int .i64 now')).setCell ⟨b2, 1, none⟩ (.slice va6 vn6 vc6) := ⟨_, rfl⟩
  rw [← hwf] at z0 z1 zd zb hou ⊢
  clear hwf zo
  exact bodyPost_ret (v := .tuple #[.agg #[.int .i64 now', .slice va6 vn6 vc6], .slice oa on' oc, .int .i64 0]) (by simp [results, Tryz.results26, go_sem, z0, z1]) rfl ⟨0, now', _, _, ds', os, rfl, HR.out, zd, hou, zb⟩
 ·have hz2 : decide (code = 0) = false := decide_eq_false hz
  have HZ := Lib.hid hz
  obtain ⟨k0, k1, k2, k3, k4, k5, k6, -⟩ := HCB.out
  go_wp2_with fail
  obtain ⟨z0, z1, zd, zb, zo⟩ := cb_fin (u := .slice none 0 0) HCB.out (Dcs.nil _) HB.out HNE.out.2.2 0
  obtain ⟨wf, hwf⟩ : ∃ x, x = (w5.setCell ⟨b2, 0, none⟩ (.int .i64 0)).setCell ⟨b2, 1, none⟩ (.slice none 0 0) := ⟨_, rfl⟩
  rw [← hwf] at z0 z1 zd zb ⊢
  clear hwf zo
  obtain ⟨rfl, rfl, rfl⟩ := HF.out.no _ _ _ _ HR.out HZ.out
  exact bodyPost_ret (v := .tuple #[.agg #[.int .i64 0, .slice none 0 0], .slice none 0 0, .int .i64 code]) (by simp [results, Tryz.results26, go_sem, z0, z1]) rfl ⟨code, 0, _, _, [], [], rfl, HR.out, zd, Outs.nil _, zb⟩
theorem RevOK.backTo {L i : Int} {r : Rv} (h : RevOK L i r) (b : Bool) : RevOK L i { r with back := b } := ⟨h.n, h.v, h.m, h.z, h.s⟩
theorem DocOK.rvs {L now : Int} {d : Dc} (h : DocOK L now d) : RvsOK L d.revs := ⟨h.l0, h.l1, fun r hr => by
 obtain ⟨i, hi, e⟩ := List.getElem_of_mem hr
 have := h.r i r (by rw [List.getElem?_eq_getElem hi, e])
 exact ⟨this.v, this.m⟩⟩
theorem DocOK.own {L now : Int} {d : Dc} (h : DocOK L now d) : ownOK d := by
 rcases h.f with ⟨h1, -⟩ | ⟨h1, -⟩
 ·exact .inl h1
 ·exact .inr h1
theorem DocOK.base4 {L now : Int} {d : Dc} (h : DocOK L now d) : ∀ (j : Nat) (r : Rv), d.revs[j]? = some r → r.kind = 4 → 0 ≤ r.base ∧ r.base < (j : Int) := by
 intro j r hj hk
 have hr := h.r j r hj
 by_cases h0 : (j : Int) = 0
 ·have := (hr.z h0).1; omega
 ·rcases hr.s h0 with ⟨-, h1, h2⟩ | ⟨-, h1, h2⟩ <;> omega
theorem DocOK.snoc {L now : Int} {d : Dc} (h : DocOK L now d) {r : Rv} (hl : d.revs.length < 64) (hr : RevOK L (d.revs.length : Int) r) : DocOK L now { d with revs := d.revs ++ [r] } := by
 refine ⟨h.n, by simp, by simp; omega, h.f, fun i x hi => ?_⟩
 by_cases hlt : i < d.revs.length
 ·rw [List.getElem?_append_left hlt] at hi
  exact h.r i x hi
 ·have h1 := (List.getElem?_eq_some_iff.1 hi).1
  rw [List.length_append, List.length_singleton] at h1
  have h2 : i = d.revs.length := by omega
  subst h2
  rw [List.getElem?_append_right (Nat.le_refl _)] at hi
  simp only [Nat.sub_self, List.getElem?_cons_zero, Option.some.injEq] at hi
  subst hi
  exact hr
theorem DocOK.setBack {L now : Int} {d : Dc} (h : DocOK L now d) {j : Nat} {r : Rv} (hj : d.revs[j]? = some r) (b : Bool) : DocOK L now { d with revs := d.revs.set j { r with back := b } } := by
 refine ⟨h.n, by rw [List.length_set]; exact h.l0, by rw [List.length_set]; exact h.l1, h.f, fun i x hi => ?_⟩
 dsimp only at hi
 rw [List.getElem?_set] at hi
 by_cases hij : j = i
 ·subst hij
  rw [if_pos rfl, if_pos (List.getElem?_eq_some_iff.1 hj).1] at hi
  cases hi
  exact (h.r j r hj).backTo b
 ·rw [if_neg hij] at hi
  exact h.r i x hi
theorem DocOK.addR {L now : Int} {d : Dc} (h : DocOK L now d) {cur r : Rv} (hl : d.revs.length < 64) (hr : RevOK L (d.revs.length : Int) r) : DocOK L now (addR d cur r) := by
 unfold Go.Proofs.YtfoohocgdcgbcaaGreat.addR
 split
 ·exact h
 ·exact h.snoc hl hr
theorem CommitR.keeps {L now : Int} {d d' : Dc} {u : ByteArray} {bs code : Int} {t : List Trk.Clip} (h : DocOK L now d) (hu : okWord u) (Vt : VT L t) (hc : CommitR d u bs t code d') : DocOK L now d' := by
 have l0 := h.l0
 cases hc with
 | locked _ => exact h
 | range _ _ => exact h
 | full _ _ _ => exact h
 | last _ h2 h3 cur hcur =>
  exact h.addR h3 ⟨hu, nf_vt Vt, Trk.nf_norm Vt.good, fun e => by omega, fun _ => .inl ⟨.inl rfl, by show 0 ≤ bs; omega, by show bs < _; omega⟩⟩
 | merge _ k h2 h2' h3 cur b hcur hb x hm =>
  have hk := (List.getElem?_eq_some_iff.1 hb).1
  have h5 := mergeR_vt hm (h.rvs.v b (List.mem_of_getElem? hb)).1 (h.rvs.v cur (List.mem_of_getElem? hcur)).1 Vt
  exact h.addR h3 ⟨hu, h5.1, h5.2, fun e => by omega, fun _ => .inl ⟨.inr rfl, by show 0 ≤ bs; omega, by show bs < _; omega⟩⟩
 | fails _ _ _ _ _ _ _ _ _ _ _ _ _ => exact h
theorem RevertR.keeps {L now : Int} {d d' : Dc} {j : Nat} {kind code : Int} {u : ByteArray} (h : DocOK L now d) (hu : okWord u) (j0 : 1 ≤ j) (hk : kind = 4 ∨ kind = 5) (hc : RevertR d j kind u code d') : DocOK L now d' := by
 cases hc with
 | full _ => exact h
 | fails _ _ _ _ _ _ _ _ _ _ _ => exact h
 | done hl cur r p hcur hr hp x hm =>
  have hj := (List.getElem?_eq_some_iff.1 hr).1
  have h5 := mergeR_vt hm (h.rvs.v r (List.mem_of_getElem? hr)).1 (h.rvs.v cur (List.mem_of_getElem? hcur)).1 (h.rvs.v p (List.mem_of_getElem? hp)).1
  have h6 := h.snoc (r := ⟨kind, u, (j : Int), false, x⟩) hl ⟨hu, h5.1, h5.2, fun e => by omega, fun _ => .inr ⟨hk, by show 1 ≤ (j : Int); omega, by show (j : Int) < _; omega⟩⟩
  exact h6.setBack (j := j) (r := r) (by rw [List.getElem?_append_left hj]; exact hr) true
theorem UndoR.keeps {L now : Int} {d d' : Dc} {code : Int} {u : ByteArray} (h : DocOK L now d) (hu : okWord u) (hc : UndoR d u code d') : DocOK L now d' := by
 cases hc with
 | locked _ => exact h
 | none _ _ => exact h
 | some _ j j0 _ _ _ _ _ hr => exact RevertR.keeps h hu j0 (.inl rfl) hr
theorem RedoR.keeps {L now : Int} {d d' : Dc} {code : Int} {u : ByteArray} (h : DocOK L now d) (hu : okWord u) (hc : RedoR d u code d') : DocOK L now d' := by
 cases hc with
 | locked _ => exact h
 | none _ _ => exact h
 | hit _ _ _ _ _ => exact h
 | fails _ j j0 _ _ _ _ _ _ _ hr => exact RevertR.keeps h hu j0 (.inr rfl) hr
 | done _ j j0 _ _ _ _ d1 hr r hj b hb =>
  have h1 := RevertR.keeps h hu j0 (.inr rfl) hr
  unfold unback
  split
  ·rename_i x hx
   exact h1.setBack hx false
  ·exact h1
theorem madeD.ok {L now : Int} {u nm : ByteArray} {t : List Trk.Clip} (hu : okWord u) (hn : okWord nm) (Vt : VT L t) : DocOK L now (madeD u nm t) := by
 refine ⟨hn, by simp [madeD], by simp [madeD], .inl ⟨rfl, rfl⟩, fun i r hi => ?_⟩
 cases i with
 | zero =>
  obtain rfl := Option.some.inj hi
  exact ⟨hu, nf_vt Vt, Trk.nf_norm Vt.good, fun _ => ⟨rfl, rfl⟩, fun h => absurd rfl h⟩
 | succ i => simp [madeD] at hi
theorem LockR.keeps {L now n : Int} {d d' : Dc} {code : Int} {u : ByteArray} (h : DocOK L now d) (hu : okWord u) (n0 : 1 ≤ n) (n1 : n ≤ 1000) (hc : LockR d u (now + n) code d') : DocOK L now d' := by
 cases hc with
 | locked _ => exact h
 | done _ => exact ⟨h.n, h.l0, h.l1, .inr ⟨hu, by show now < now + n; omega, by show now + n ≤ now + 1000; omega⟩, h.r⟩
theorem UnlockR.keeps {L now : Int} {d d' : Dc} {code : Int} {u : ByteArray} (h : DocOK L now d) (hc : UnlockR d u code d') : DocOK L now d' := by
 cases hc with
 | other _ => exact h
 | done _ => exact ⟨h.n, h.l0, h.l1, .inl ⟨rfl, rfl⟩, h.r⟩
theorem OneR.fine {L now : Int} {ds : List Dc} {kind : Int} {u nm : ByteArray} {R : Dc → Int → Dc → Prop} (hl : ds.length ≤ 16) (hd : ∀ d ∈ ds, DocOK L now d) (hk : ∀ d d', DocOK L now d → R d 0 d' → DocOK L now d') : Fine (OneR now ds kind u nm R) := by
 have aux : ∀ d, DocOK L now d → 1 ≤ d.revs.length ∧ d.revs.length ≤ 1000 ∧ ∀ r ∈ d.revs, r.t.length ≤ 1048576 := fun d h => ⟨h.l0, by have := h.l1; omega, fun r hr => by have := (h.rvs.v r hr).1.n; omega⟩
 refine ⟨fun now' ds' os h => ?_, fun code now' ds' os h hz => ?_⟩
 ·cases h with
  | fails _ _ _ _ _ _ _ hz => exact absurd rfl hz
  | done i d hf hdk d' hr =>
   have hi := (List.getElem?_eq_some_iff.1 hdk).1
   refine ⟨fun e => ?_, by rw [List.length_set]; omega, fun x hx => ?_⟩
   ·have := congrArg List.length e
    rw [List.length_set, List.length_nil] at this
    omega
   ·rcases List.mem_or_eq_of_mem_set hx with h1 | rfl
    ·exact aux x (hd x h1)
    ·exact aux _ (hk d _ (hd d (List.mem_of_getElem? hdk)) hr)
 ·cases h with
  | none _ => exact ⟨rfl, rfl, rfl⟩
  | fails _ _ _ _ _ _ _ _ => exact ⟨rfl, rfl, rfl⟩
  | done _ _ _ _ _ _ => exact absurd rfl hz
section
variable {L : Int} {now : Int} {v : Value} {d : Dc} {w : World} {u nm : ByteArray}
theorem bigstep_undo (h : Dcs w v [d]) (hd : DocOK L now d) (hL : L ≤ 140737488355328) (h0 : 0 ≤ now) (h1 : now ≤ 1099511627776) (hu : okWord u) (hn : okWord nm) :
  Calls Tryz.prog 26 #[.agg #[.int .i64 now, v], .agg #[.int .i64 5, .string u, .string nm, .int .i64 0, .int .i64 0, .slice none 0 0]] w (StepPost w (OneR now [d] 5 u nm (fun d c d' => UndoR d u c d'))) :=
 bigstep_any now v d 5 u nm 0 0 none 0 0 151 (.agg #[.int .i64 5, .string u, .string nm]) _ w h hd hL h0 h1
  (OneR.fine (L := L) (by simp) (fun x hx => by rw [List.mem_singleton.1 hx]; exact hd) (fun d d' h hr => UndoR.keeps h hu hr))
  (fun w1 hb => convert_undo u nm w1 hu hn)
  (fun w1 hb => step_undo [d] v now u nm w1 (h.below hb) (by simp) (by simp) (fun x hx => by rw [List.mem_singleton.1 hx]; exact ⟨hd.own, hd.rvs⟩) hL)
end
def NoStr (w : World) (b : Nat) : Prop := ∀ (o : Nat) (s : ByteArray), w.cell? ⟨b, o, none⟩ ≠ some (.string s)
theorem NoStr.ne {w : World} {b b' o : Nat} {s : ByteArray} (h : NoStr w b) (hc : w.cell? ⟨b', o, none⟩ = some (.string s)) : b' ≠ b := by
 rintro rfl
 exact h o s hc
theorem Tk.skipS {w w' : World} {b : Nat} {v : Value} {l : List Trk.Clip} (h : Tk w v l) (h2 : NoStr w b) (hs : ∀ x, x ≠ b → w'.heap[x]? = w.heap[x]?) : Tk w' v l := by
 obtain ⟨ao, cap, e, e1, e2, h3⟩ := h
 refine ⟨ao, cap, e, e1, e2, fun i c hi => ?_⟩
 obtain ⟨b', o, e3, hc⟩ := h3 i c hi
 exact ⟨b', o, e3, hc.same (hs b' (h2.ne hc.k3))⟩
theorem Dcs.skipS {w w' : World} {b : Nat} {v : Value} {ds : List Dc} (h : Dcs w v ds) (h2 : NoStr w b) (hs : ∀ x, x ≠ b → w'.heap[x]? = w.heap[x]?) : Dcs w' v ds := by
 obtain ⟨ao, cap, e, e1, e2, h3⟩ := h
 refine ⟨ao, cap, e, e1, e2, fun i d hi => ?_⟩
 obtain ⟨b', o, rv, e3, hc, ao2, cap2, f, f1, f2, h4⟩ := h3 i d hi
 refine ⟨b', o, rv, e3, rangeAt_ag hc (hs b' (h2.ne (hc 0 _ rfl))), ao2, cap2, f, f1, f2, fun j r hj => ?_⟩
 obtain ⟨b3, o3, tv, g3, hc3, ht⟩ := h4 j r hj
 exact ⟨b3, o3, tv, g3, rangeAt_ag hc3 (hs b3 (h2.ne (hc3 1 _ rfl))), ht.skipS h2 hs⟩
theorem Outs.skipS {w w' : World} {b : Nat} {v : Value} {os : List Rpt} (h : Outs w v os) (h2 : NoStr w b) (hs : ∀ x, x ≠ b → w'.heap[x]? = w.heap[x]?) : Outs w' v os := by
 obtain ⟨ao, cap, e, e1, e2, h3⟩ := h
 refine ⟨ao, cap, e, e1, e2, fun i x hi => ?_⟩
 obtain ⟨b', o, e3, hc⟩ := h3 i x hi
 exact ⟨b', o, e3, rangeAt_ag hc (hs b' (h2.ne (hc 1 _ rfl)))⟩
def SB (w : World) (b : Nat) (n : Int) (a : Option Addr) (k c : Nat) : Prop := w.heap[b]? = some (.cells #[.int .i64 n, .slice a k c] 55 (0, 0))
theorem SB.c0 {w : World} {b : Nat} {n : Int} {a : Option Addr} {k c : Nat} (h : SB w b n a k c) : w.cell? ⟨b, 0, none⟩ = some (.int .i64 n) := by
 unfold SB at h
 unfold World.cell?
 simp [h]
theorem SB.c1 {w : World} {b : Nat} {n : Int} {a : Option Addr} {k c : Nat} (h : SB w b n a k c) : w.cell? ⟨b, 1, none⟩ = some (.slice a k c) := by
 unfold SB at h
 unfold World.cell?
 simp [h]
theorem SB.f {w : World} {b : Nat} {n : Int} {a : Option Addr} {k c : Nat} (h : SB w b n a k c) (o : Nat) : w.frozen? ⟨b, o, none⟩ = false := by
 unfold SB at h
 simp [World.frozen?, h]
theorem SB.lt {w : World} {b : Nat} {n : Int} {a : Option Addr} {k c : Nat} (h : SB w b n a k c) : b < w.heap.size := (Array.getElem?_eq_some_iff.1 h).1
theorem SB.noStr {w : World} {b : Nat} {n : Int} {a : Option Addr} {k c : Nat} (h : SB w b n a k c) : NoStr w b := by
 intro o s hc
 unfold SB at h
 unfold World.cell? at hc
 simp only [h] at hc
 match o with
 | 0 => simp at hc
 | 1 => simp at hc
 | o + 2 => simp at hc
theorem SB.same {w w' : World} {b : Nat} {n : Int} {a : Option Addr} {k c : Nat} (h : SB w b n a k c) (hs : w'.heap[b]? = w.heap[b]?) : SB w' b n a k c := hs.trans h
theorem SB.below {w w' : World} {b : Nat} {n : Int} {a : Option Addr} {k c : Nat} (h : SB w b n a k c) (hb : Below w.heap.size w w') : SB w' b n a k c := h.same (hb.block b h.lt)
theorem SB.put {w : World} {b : Nat} {n : Int} {a : Option Addr} {k c : Nat} (h : SB w b n a k c) (n' : Int) (a' : Option Addr) (k' c' : Nat) : SB ((w.setCell ⟨b, 0, none⟩ (.int .i64 n')).setCell ⟨b, 1, none⟩ (.slice a' k' c')) b n' a' k' c' := by
 unfold SB at h ⊢
 simp [World.setCell, Array.getElem?_modify, h]
theorem RowX.noStr {w : World} {B g n : Nat} {E : TypeId} {cs : List Int} (h : RowX w B E 1 (.slice (some ⟨g, 0, none⟩) n n) n (cs.map fun c => .int .i64 c)) : NoStr w g := by
 rcases h with ⟨e, _⟩ | ⟨g', cap, cur, e, hB, hg, hk, hc, hs, ht, hl⟩
 ·simp at e
 ·simp only [Value.slice.injEq, Option.some.injEq, Addr.mk.injEq, and_true, true_and] at e
  obtain ⟨rfl, rfl⟩ := e
  intro o s hcell
  unfold World.cell? at hcell
  simp only [hg] at hcell
  rw [List.take_of_length_le (by rw [Array.length_toList, hs]; exact Nat.le_refl _)] at ht
  have h2 : cur.toList[o]? = some (.string s) := by rw [Array.getElem?_toList]; exact hcell
  rw [ht, List.getElem?_map] at h2
  cases hx : cs[o]? with
  | none => rw [hx] at h2; simp at h2
  | some c => rw [hx] at h2; simp at h2
def RowP (P : Value → Prop) (w : World) (B : Nat) (E : TypeId) (s : Nat) (v : Value) (k : Nat) (xs : List Value) : Prop :=
 (v = .slice none 0 0 ∧ k = 0 ∧ xs = []) ∨ ∃ g cap cur, v = .slice (some ⟨g, 0, none⟩) k cap ∧ B ≤ g ∧ w.heap[g]? = some (.cells cur E (0, 0)) ∧ k ≤ cap ∧ cap ≤ maxLen ∧ cur.size = cap * s ∧
  cur.toList.take (k * s) = xs ∧ xs.length = k * s ∧ ∀ u ∈ cur.toList, P u
theorem zeros_all {P : Value → Prop} {z : Array Value} (h : ∀ u ∈ z, P u) (n : Nat) : ∀ u ∈ (Builtin.zeroCells z n).toList, P u := by
 intro u hu
 unfold Builtin.zeroCells at hu
 rw [Array.toList_map, List.mem_map] at hu
 obtain ⟨i, hi, rfl⟩ := hu
 have h0 : 0 < z.size := by
  rw [Array.mem_toList_iff, Array.mem_range] at hi
  by_cases h0 : z.size = 0
  ·rw [h0] at hi; omega
  ·omega
 have hlt := Nat.mod_lt i h0
 rw [getElem!_pos z _ hlt]
 exact h _ (Array.getElem_mem hlt)
theorem append_p (P : Value → Prop) (w : World) (B : Nat) (t E : TypeId) (s bytes : Nat) (z : Value) (ht : Tryz.prog.underlying t = some (.slice E)) (hinfo : (Tryz.prog.info? E).map (fun i => (i.zero, i.size, i.bytes)) = some (some z, s, bytes))
  (hz : ∀ n, (Builtin.zeroCells z.cells n).size = n * s) (v : Value) (k : Nat) (xs : List Value) (h : RowP P w B E s v k xs) (hPz : ∀ u ∈ z.cells, P u) (hB : B ≤ w.heap.size) (a : Addr) (m c : Nat) (news : List Value) (hl : news.length = m * s) (hPn : ∀ u ∈ news, P u)
  (hnews : ∀ j u, news[j]? = some u → w.cell? (a.add j) = some u) (h1 : ∀ u ∈ news, u.oneCell' = true) (hm : 0 < m) (h63 : k + m ≤ maxLen) (hfit : ∀ cap, k ≤ cap → cap < k + m → Builtin.nextslicecap (k + m) cap * bytes ≤ 281474976710656) :
  ∃ v' w', (Builtin.append_ #[t, t] t #[v, .slice (some a) m c]).run Tryz.prog w = .ok v' w' ∧ RowP P w' B E s v' (k + m) (xs ++ news) ∧ Below B w w' ∧ v' ≠ .slice none 0 0 ∧
   (∀ b, b < w.heap.size → (∀ g cap, v = .slice (some ⟨g, 0, none⟩) k cap → b ≠ g) → w'.heap[b]? = w.heap[b]?) ∧ w.heap.size ≤ w'.heap.size := by
 obtain ⟨i0, hi, hz0, hz1, hz2⟩ := info_parts hinfo
 have hl' : news.length = m * i0.size := by rw [hz1]; exact hl
 have hs63 : k + m ≤ 9223372036854775807 := by unfold maxLen at h63; omega
 rcases h with ⟨rfl, rfl, rfl⟩ | ⟨g, cap, cur, rfl, h2, h3, h4, h5, h6, h8, h9, h10⟩
 ·have h48 := hfit 0 (Nat.le_refl _) (by omega)
  rw [Nat.zero_add, nextslicecap_zero hm] at h48
  have hr := run_append_nil (P := Tryz.prog) w t t E i0 z ht hi hz0 a m c news hl' hnews hm (by omega) (by rw [hz2]; exact h48)
  have hcap : m ≤ grownCap w m 0 E := grownCap_ge w m 0 E
  have hb : Below w.heap.size w (w.drew.alloc (.cells (news.toArray ++ Builtin.zeroCells z.cells (grownCap w m 0 E - m)) E)) := ((Below.refl _ w).drew).alloc (by simp) _
  have hh := (MapKept.heap_alloc w.drew (.cells (news.toArray ++ Builtin.zeroCells z.cells (grownCap w m 0 E - m)) E)).1
  refine ⟨_, _, hr, Or.inr ⟨w.heap.size, grownCap w m 0 E, _, by rw [Nat.zero_add], hB, hh, by omega, grownCap_le_maxLen w m 0 E (by omega), ?_, ?_, ?_, ?_⟩, hb.mono hB, by simp, fun b hb' _ => hb.block b hb', hb.size⟩
  ·rw [Array.size_append, hz _]
   have e1 : news.toArray.size = m * s := by simpa using hl
   rw [e1, ← Nat.add_mul, Nat.add_sub_cancel' hcap]
  ·rw [Array.toList_append]
   simp only [Nat.zero_add, List.nil_append]
   rw [List.take_append_of_le_length (by simp [hl]), List.take_of_length_le (by simp [hl])]
  ·simpa using hl
  ·intro u hu
   rw [Array.toList_append] at hu
   rcases List.mem_append.1 hu with hu | hu
   ·exact hPn u (by simpa using hu)
   ·exact zeros_all hPz _ u hu
 ·have hcs : cur.toList.length = cap * s := by simpa using h6
  by_cases hroom : k + m ≤ cap
  ·have hle : (k + m) * s ≤ cap * s := Nat.mul_le_mul_right _ hroom
   have hfit2 : k * i0.size + news.length ≤ cur.size := by rw [hz1, hl, h6, ← Nat.add_mul]; exact hle
   have hr := run_append_room (P := Tryz.prog) w t t E i0 ht hi g k cap cur h3 a m c news hl' hnews h1 hroom hfit2
   rw [hz1] at hr hfit2
   have hh := setRow_heap w g cur (cur.toList.take (k * s) ++ news ++ cur.toList.drop (k * s + news.length)).toArray E (0, 0) h3
   have hsame : ∀ b, b < w.heap.size → b ≠ g → (w.setRow g (cur.toList.take (k * s) ++ news ++ cur.toList.drop (k * s + news.length)).toArray).heap[b]? = w.heap[b]? := fun b _ hn => setRow_other w g b _ hn
   refine ⟨_, _, hr, Or.inr ⟨g, cap, _, rfl, h2, hh, hroom, h5, ?_, ?_, ?_, ?_⟩, ⟨rfl, rfl, rfl, by simp [World.setRow], fun j hj => setRow_other w g j _ (by omega)⟩, by simp, fun b hb' hne => hsame b hb' (hne g cap rfl), by simp [World.setRow]⟩
   ·simp only [List.size_toArray, List.length_append, List.length_take, List.length_drop, hcs]
    rw [hl] at hfit2 ⊢
    omega
   ·rw [List.take_append_of_le_length (by rw [List.length_append, List.length_take, hcs, hl, Nat.add_mul]; omega), List.take_of_length_le (by rw [List.length_append, List.length_take, hcs, hl, Nat.add_mul]; omega), h8]
   ·rw [List.length_append, h9, hl, Nat.add_mul]
   ·intro u hu
    rw [List.toList_toArray] at hu
    rcases List.mem_append.1 hu with hu | hu
    ·rcases List.mem_append.1 hu with hu | hu
     ·exact h10 u (List.mem_of_mem_take hu)
     ·exact hPn u hu
    ·exact h10 u (List.mem_of_mem_drop hu)
  ·have holds : ∀ j u, xs[j]? = some u → w.cell? ((⟨g, 0, none⟩ : Addr).add j) = some u := fun j u hu => by
    have hadd : (⟨g, 0, none⟩ : Addr).add j = ⟨g, j, none⟩ := by unfold Addr.add; split <;> simp_all
    rw [hadd]
    rw [← h8, List.getElem?_take] at hu
    split at hu
    ·simp only [World.cell?, h3]
     simpa using hu
    ·cases hu
   have h48 := hfit cap h4 (by omega)
   have hr := run_append_grow (P := Tryz.prog) w t t E i0 z ht hi hz0 ⟨g, 0, none⟩ k cap xs (by rw [hz1]; exact h9) holds a m c news hl' hnews (by omega) (by omega) (by rw [hz2]; exact h48)
   have hcap : k + m ≤ grownCap w (k + m) cap E := grownCap_ge w _ cap E
   have hb : Below w.heap.size w (w.drew.alloc (.cells (xs.toArray ++ news.toArray ++ Builtin.zeroCells z.cells (grownCap w (k + m) cap E - (k + m))) E)) := ((Below.refl _ w).drew).alloc (by simp) _
   have hh := (MapKept.heap_alloc w.drew (.cells (xs.toArray ++ news.toArray ++ Builtin.zeroCells z.cells (grownCap w (k + m) cap E - (k + m))) E)).1
   refine ⟨_, _, hr, Or.inr ⟨w.heap.size, grownCap w (k + m) cap E, _, rfl, hB, hh, hcap, grownCap_le_maxLen w _ cap E h63, ?_, ?_, ?_, ?_⟩, hb.mono hB, by simp, fun b hb' _ => hb.block b hb', hb.size⟩
   ·rw [Array.size_append, Array.size_append, hz _]
    have e1 : news.toArray.size = m * s := by simpa using hl
    have e2 : xs.toArray.size = k * s := by simpa using h9
    rw [e1, e2, ← Nat.add_mul, ← Nat.add_mul, Nat.add_sub_cancel' hcap]
   ·rw [Array.toList_append, Array.toList_append]
    rw [List.take_append_of_le_length (by simp [hl, h9, Nat.add_mul]), List.take_of_length_le (by simp [hl, h9, Nat.add_mul])]
   ·rw [List.length_append, h9, hl, Nat.add_mul]
   ·intro u hu
    rw [Array.toList_append, Array.toList_append] at hu
    rcases List.mem_append.1 hu with hu | hu
    ·rcases List.mem_append.1 hu with hu | hu
     ·exact h10 u (List.mem_of_mem_take (by rw [h8]; simpa using hu))
     ·exact hPn u (by simpa using hu)
    ·exact zeros_all hPz _ u hu
theorem RowP.x {P : Value → Prop} {w : World} {B : Nat} {E : TypeId} {s : Nat} {v : Value} {k : Nat} {xs : List Value} (h : RowP P w B E s v k xs) : RowX w B E s v k xs := by
 rcases h with h | ⟨g, cap, cur, h1, h2, h3, h4, h5, h6, h7, h8, -⟩
 ·exact .inl h
 ·exact .inr ⟨g, cap, cur, h1, h2, h3, h4, h5, h6, h7, h8⟩
theorem RowP.below {P : Value → Prop} {w w' : World} {B : Nat} {E : TypeId} {s : Nat} {v : Value} {k : Nat} {xs : List Value} (h : RowP P w B E s v k xs) (hb : Below w.heap.size w w') : RowP P w' B E s v k xs := by
 rcases h with h | ⟨g, cap, cur, h1, h2, h3, h⟩
 ·exact .inl h
 ·exact .inr ⟨g, cap, cur, h1, h2, (hb.block g (Array.getElem?_eq_some_iff.1 h3).1).trans h3, h⟩
theorem RowP.other {P : Value → Prop} {w : World} {B n b : Nat} {E E2 : TypeId} {s : Nat} {v : Value} {xs : List Value} {c : Array Value} {f : Nat × Nat} (h : RowP P w B E s v n xs) (hb : w.heap[b]? = some (.cells c E2 f)) (hE : E2 ≠ E) (o : Nat) (u : Value) : RowP P (w.setCell ⟨b, o, none⟩ u) B E s v n xs := by
 rcases h with h | ⟨g, cap, cur, e, hB, hg, h⟩
 ·exact .inl h
 ·have hne : g ≠ b := by
   rintro rfl
   rw [hb] at hg
   cases hg
   exact hE rfl
  exact .inr ⟨g, cap, cur, e, hB, (setCells_other b g hne [u] o w).trans hg, h⟩
def NotSl (u : Value) : Prop := ∀ a k c, u ≠ .slice a k c
def NoSl (w : World) (b : Nat) : Prop := ∀ (o : Nat) (a : Option Addr) (k c : Nat), w.cell? ⟨b, o, none⟩ ≠ some (.slice a k c)
theorem NoSl.ne {w : World} {b b' o k c : Nat} {a : Option Addr} (h : NoSl w b) (hc : w.cell? ⟨b', o, none⟩ = some (.slice a k c)) : b' ≠ b := by
 rintro rfl
 exact h o a k c hc
theorem RowP.noSl {w : World} {B g n cap s : Nat} {E : TypeId} {xs : List Value} (h : RowP NotSl w B E s (.slice (some ⟨g, 0, none⟩) n cap) n xs) : NoSl w g := by
 rcases h with ⟨e, _⟩ | ⟨g', cap', cur, e, hB, hg, _, _, _, _, _, hP⟩
 ·simp at e
 ·simp only [Value.slice.injEq, Option.some.injEq, Addr.mk.injEq, and_true, true_and] at e
  obtain ⟨rfl, rfl⟩ := e
  intro o a k c hcell
  unfold World.cell? at hcell
  simp only [hg] at hcell
  exact hP _ (by rw [Array.mem_toList_iff]; exact Array.mem_of_getElem? hcell) a k c rfl
theorem Tk.skipL {w w' : World} {b : Nat} {v : Value} {l : List Trk.Clip} (h : Tk w v l) (h2 : NoSl w b) (hs : ∀ x, x < w.heap.size → x ≠ b → w'.heap[x]? = w.heap[x]?) : Tk w' v l := by
 obtain ⟨ao, cap, e, e1, e2, h3⟩ := h
 refine ⟨ao, cap, e, e1, e2, fun i c hi => ?_⟩
 obtain ⟨b', o, e3, hc⟩ := h3 i c hi
 exact ⟨b', o, e3, hc.same (hs b' hc.lt (h2.ne hc.k21))⟩
theorem Dcs.skipL {w w' : World} {b : Nat} {v : Value} {ds : List Dc} (h : Dcs w v ds) (h2 : NoSl w b) (hs : ∀ x, x < w.heap.size → x ≠ b → w'.heap[x]? = w.heap[x]?) : Dcs w' v ds := by
 obtain ⟨ao, cap, e, e1, e2, h3⟩ := h
 refine ⟨ao, cap, e, e1, e2, fun i d hi => ?_⟩
 obtain ⟨b', o, rv, e3, hc, ao2, cap2, rfl, f1, f2, h4⟩ := h3 i d hi
 refine ⟨b', o, _, e3, rangeAt_ag hc (hs b' (rangeAt_lt hc (by simp [docL])) (h2.ne (hc 3 _ rfl))), ao2, cap2, rfl, f1, f2, fun j r hj => ?_⟩
 obtain ⟨b3, o3, tv, g3, hc3, ht⟩ := h4 j r hj
 have ht' := ht
 obtain ⟨ta, tc, rfl, -⟩ := ht'
 exact ⟨b3, o3, _, g3, rangeAt_ag hc3 (hs b3 (rangeAt_lt hc3 (by simp [revL])) (h2.ne (hc3 4 _ rfl))), ht.skipL h2 hs⟩
structure Ev where
 kind : Int
 user : ByteArray
 doc : ByteArray
 base : Int
 ticks : Int
 t : List Trk.Clip
def evtL (e : Ev) (tv : Value) : List Value := [.int .i64 e.kind, .string e.user, .string e.doc, .int .i64 e.base, .int .i64 e.ticks, tv]
def Evs (w : World) (v : Value) (es : List Ev) : Prop := ∃ ao cap, v = .slice ao es.length cap ∧ es.length ≤ cap ∧ cap ≤ maxLen ∧ ∀ i e, es[i]? = some e → ∃ b o tv, ao = some ⟨b, o, none⟩ ∧ w.rangeAt b (o + i * 6) (evtL e tv) ∧ Tk w tv e.t ∧ (e.kind ≠ 1 → e.kind ≠ 4 → tv = .slice none 0 0)
theorem Evs.below {w w' : World} {v : Value} {es : List Ev} (h : Evs w v es) (hb : Below w.heap.size w w') : Evs w' v es := by
 obtain ⟨ao, cap, e, h1, h2, h3⟩ := h
 refine ⟨ao, cap, e, h1, h2, fun i x hi => ?_⟩
 obtain ⟨b, o, tv, e2, hr, ht, hn⟩ := h3 i x hi
 exact ⟨b, o, tv, e2, rangeAt_below hr (by simp [evtL]) hb, ht.below hb, hn⟩
inductive RunR (S : Int → List Dc → Ev → Int → Int → List Dc → List Rpt → Prop) : List Ev → Int → List Dc → List Int → Prop where
 | nil : RunR S [] 0 [] []
 | ok (es : List Ev) (now : Int) (ds : List Dc) (cs : List Int) (h : RunR S es now ds cs) (e : Ev) (now' : Int) (ds' : List Dc) (os : List Rpt) (hs : S now ds e 0 now' ds' os) : RunR S (es ++ [e]) now' ds' (cs ++ [0])
 | no (es : List Ev) (now : Int) (ds : List Dc) (cs : List Int) (h : RunR S es now ds cs) (e : Ev) (c : Int) (now' : Int) (ds' : List Dc) (os : List Rpt) (hs : S now ds e c now' ds' os) (hz : c ≠ 0) : RunR S (es ++ [e]) now ds (cs ++ [c])
theorem RunR.len {S : Int → List Dc → Ev → Int → Int → List Dc → List Rpt → Prop} {es : List Ev} {now : Int} {ds : List Dc} {cs : List Int} (h : RunR S es now ds cs) : cs.length = es.length := by
 induction h with
 | nil => rfl
 | ok _ _ _ _ _ _ _ _ _ _ ih => simp [ih]
 | no _ _ _ _ _ _ _ _ _ _ _ _ ih => simp [ih]
def cvT (e : Ev) : TypeId := if e.kind = 1 then 144 else if e.kind = 2 then 146 else if e.kind = 3 then 148 else if e.kind = 4 then 150 else if e.kind = 5 then 151 else 152
def cvX (e : Ev) (tv : Value) : Value :=
 if e.kind = 1 then .agg #[.int .i64 1, .string e.user, .string e.doc, tv] else if e.kind = 2 then .agg #[.int .i64 2, .string e.user, .string e.doc, .int .i64 e.ticks] else if e.kind = 3 then .agg #[.int .i64 3, .string e.user, .string e.doc]
 else if e.kind = 4 then .agg #[.int .i64 4, .string e.user, .string e.doc, .int .i64 e.base, tv] else if e.kind = 5 then .agg #[.int .i64 5, .string e.user, .string e.doc] else .agg #[.int .i64 6, .string e.user, .string e.doc]
set_option maxRecDepth 100000 in
theorem info30 : (Tryz.prog.info? 30).map (fun i => (i.zero, i.size, i.bytes)) = some (some (.int .i64 0), 1, 8) := by kernel_rfl
theorem made_zero (n : Nat) : (madeCells (Value.int .i64 0).cells (n * 1)).toList = List.replicate n (.int .i64 0) := by
 refine List.ext_getElem? fun i => ?_
 simp only [madeCells, Value.cells, Nat.mul_one, List.getElem?_replicate, Array.getElem?_toList, Array.getElem?_map, Array.getElem?_range]
 split
 ·simp [Nat.mod_one]
 ·simp
theorem RowX.of_owns {w : World} {B : Nat} {E : TypeId} {s : Nat} {v : Value} {n : Nat} {xs : List Value} (h : w.ownsRow B E s v n xs) : RowX w B E s v n xs := by
 obtain ⟨hl, ⟨rfl, rfl⟩ | ⟨g, cap, cur, e, hB, hg, h1, h2, h3, h4⟩⟩ := h
 ·exact .inl ⟨rfl, rfl, List.length_eq_zero_iff.1 (by omega)⟩
 ·exact .inr ⟨g, cap, cur, e, hB, hg, h1, h2, h3, h4, hl⟩
theorem wpl_loadEv {ops : Array Oper} {rest : List Oper} {op : Oper} {a : Act} {w : World} {Q : Exit → Act → World → Prop} {b o : Nat} {e : Ev} {tv : Value} {x : Operand} (hc : w.rangeAt b o (evtL e tv)) (hgd : op.guard = none) (ho : op.op = .load 59 x)
  (hx : a.eval x = .pointer (some ⟨b, o, none⟩)) (h : wpList Tryz.prog ops Q rest (a.put op.dst (.agg (evtL e tv).toArray)) w) : wpList Tryz.prog ops Q (op :: rest) a w :=
 wpList_load_mid hgd 59 x ho b o hx (evtL e tv) _ hc Tryz.underlying59 rfl (by kernel_rfl) h
def z88 : Value := .agg #[.int .i64 0, .string ⟨#[]⟩, .string ⟨#[]⟩, .int .i64 0]
set_option maxRecDepth 100000 in
theorem info88 : (Tryz.prog.info? 88).map (fun i => (i.zero, i.size, i.bytes)) = some (some z88, 4, 48) := by kernel_rfl
theorem zeros88 (n : Nat) : (Builtin.zeroCells z88.cells n).size = n * 4 := by simp [Builtin.zeroCells, z88, Value.cells]
theorem outL_nosl {o : Rpt} : ∀ u ∈ outL o, NotSl u := by
 intro u hu a k c e
 subst e
 simp [outL] at hu
theorem outL_one {o : Rpt} : ∀ u ∈ outL o, u.oneCell' = true := by
 intro u hu
 simp only [outL, List.mem_cons, List.not_mem_nil, or_false] at hu
 rcases hu with rfl | rfl | rfl | rfl <;> rfl
theorem z88_nosl : ∀ u ∈ z88.cells, NotSl u := by
 intro u hu a k c e
 subst e
 simp [z88, Value.cells] at hu
theorem SB.put0 {w : World} {b : Nat} {n : Int} {a : Option Addr} {k c : Nat} (h : SB w b n a k c) (n' : Int) : (w.setCell ⟨b, 0, none⟩ (.int .i64 n')).heap[b]? = some (.cells #[.int .i64 n', .slice a k c] 55 (0, 0)) := by
 unfold SB at h
 simp [World.setCell, Array.getElem?_modify, h]
theorem RowX.obj {w : World} {B n g cap : Nat} {E : TypeId} {s : Nat} {xs : List Value} (h : RowX w B E s (.slice (some ⟨g, 0, none⟩) n cap) n xs) : ∃ c, w.heap[g]? = some (.cells c E (0, 0)) := by
 rcases h with ⟨e, _⟩ | ⟨g', cap', cur, e, hB, hg, _⟩
 ·simp at e
 ·simp only [Value.slice.injEq, Option.some.injEq, Addr.mk.injEq, and_true, true_and] at e
  obtain ⟨rfl, rfl⟩ := e
  exact ⟨cur, hg⟩
theorem codes_set (cs : List Int) (N k : Nat) (c : Int) (hk : cs.length = k) (hN : k < N) : ((cs ++ List.replicate (N - k) 0).map fun c => Value.int .i64 c).set k (.int .i64 c) = ((cs ++ [c]) ++ List.replicate (N - (k + 1)) 0).map fun c => Value.int .i64 c := by
 subst hk
 rw [show N - cs.length = (N - (cs.length + 1)) + 1 by omega, List.replicate_succ]
 simp [List.map_append, List.set_append]
theorem RunR.eq {S : Int → List Dc → Ev → Int → Int → List Dc → List Rpt → Prop} {es es' : List Ev} {now : Int} {ds : List Dc} {cs : List Int} (h : RunR S es now ds cs) (e : es = es') : RunR S es' now ds cs := e ▸ h
def Szs (ds : List Dc) : Prop := ds.length ≤ 1000 ∧ ∀ d ∈ ds, 1 ≤ d.revs.length ∧ d.revs.length ≤ 1000 ∧ ∀ r ∈ d.revs, r.t.length ≤ 1048576
def RunPost (w : World) (S : Int → List Dc → Ev → Int → Int → List Dc → List Rpt → Prop) (es : List Ev) (e : Ending) (w' : World) : Prop :=
 ∃ now v ov ec ds cs, e = .returned (.tuple #[.agg #[.int .i64 now, v], ov, ec]) ∧ RunR S es now ds cs ∧ Dcs w' v ds ∧ RowX w' w.heap.size 30 1 ec es.length (cs.map fun c => .int .i64 c) ∧ Below w.heap.size w w'
set_option maxRecDepth 100000 in
set_option maxHeartbeats 16000000 in
theorem run_any (S : Int → List Dc → Ev → Int → Int → List Dc → List Rpt → Prop) (v : Value) (es : List Ev) (w : World) (h : Evs w v es) (hl : es.length ≤ 1000)
  (hconv : ∀ (i : Nat) (e : Ev) (tv : Value) (w1 : World), es[i]? = some e → Tk w1 tv e.t → (e.kind ≠ 1 → e.kind ≠ 4 → tv = .slice none 0 0) → Calls Tryz.prog 62 #[.agg (evtL e tv).toArray] w1 fun r w' => r = .returned (.tuple #[.iface (cvT e) (cvX e tv), .bool true]) ∧ Below w1.heap.size w1 w')
  (hstep : ∀ (i : Nat) (e : Ev) (tv : Value) (now : Int) (a : Option Addr) (k c : Nat) (ds : List Dc) (cs : List Int) (w1 : World), es[i]? = some e → Tk w1 tv e.t → (e.kind ≠ 1 → e.kind ≠ 4 → tv = .slice none 0 0) → RunR S (es.take i) now ds cs → Dcs w1 (.slice a k c) ds → (ds = [] → a = none ∧ k = 0 ∧ c = 0) →
   Calls Tryz.prog 63 #[.agg #[.int .i64 now, .slice a k c], .iface (cvT e) (cvX e tv)] w1 (StepPost w1 (S now ds e)))
  (hfine : ∀ (i : Nat) (e : Ev) (now : Int) (ds : List Dc) (cs : List Int), es[i]? = some e → RunR S (es.take i) now ds cs → ∀ now' ds' os, S now ds e 0 now' ds' os → os.length = 1 ∧ ds' ≠ [] ∧ ds'.length ≤ 1000 ∧ ∀ d ∈ ds', 1 ≤ d.revs.length ∧ d.revs.length ≤ 1000 ∧ ∀ r ∈ d.revs, r.t.length ≤ 1048576) :
  Calls Tryz.prog 33 #[.agg #[.int .i64 0, .slice none 0 0], v] w (RunPost w S es) := by
 have HEV := Lib.hid h
 have HCV := Lib.hid hconv
 have HST := Lib.hid hstep
 have HFN := Lib.hid hfine
 clear hconv hstep hfine
 obtain ⟨va, vc, hv, -⟩ := h
 obtain ⟨N, hN⟩ : ∃ N, N = es.length := ⟨_, rfl⟩
 rw [← hN] at hv hl
 subst hv
 have HN2 := Lib.hid hl
 go_enter Tryz.func33, Tryz.ntmps33
 go_upto_region 1 with fail
 have HN := Lib.hid hN
 clear hN
 apply wp_region_lit
 iterate 6 go_step
 obtain ⟨i0, hi, hz0, hz1, hz2⟩ := info_parts info30
 refine wpList_make_full _ rfl (.tmp 18) (.tmp 18) 75 rfl w.heap.size 30 i0 (.int .i64 0) 1 Tryz.underlying75 hi hz0 hz1 .i64 .i64 (N : Int) (N : Int) N rfl rfl rfl rfl (by rw [hz2]; omega) (by unfold maxLen; omega) (by simp [go_sem]; omega) ?_
 intro w1 hrow hgr
 obtain ⟨w0, hw0⟩ : ∃ y, y = (w.alloc (.cells #[.int .i64 0, .slice none 0 0] 55)).alloc (.cells #[.int .i64 0, .slice none 0 0] 55) := ⟨_, rfl⟩
 obtain ⟨b1, hb1⟩ : ∃ y, y = w.heap.size := ⟨_, rfl⟩
 obtain ⟨b2, hb2⟩ : ∃ y, y = w.heap.size + 1 := ⟨_, rfl⟩
 have hb0 : Below w.heap.size w w0 := by rw [hw0]; exact ((Below.refl _ _).alloc (Nat.le_refl _) _).alloc (by simp [go_sem]) _
 have hs1 : SB w0 b1 0 none 0 0 := by
  rw [hw0, hb1]
  unfold SB
  have h1 := (MapKept.heap_alloc w (.cells #[.int .i64 0, .slice none 0 0] 55)).1
  rw [← h1]
  exact (below_box _ _).block _ (by simp [go_sem])
 have hs2 : SB w0 b2 0 none 0 0 := by
  rw [hw0, hb2]
  unfold SB
  have := (MapKept.heap_alloc (w.alloc (.cells #[.int .i64 0, .slice none 0 0] 55)) (.cells #[.int .i64 0, .slice none 0 0] 55)).1
  simpa using this
 have HNE := Lib.hid (show b1 ≠ b2 ∧ b1 < w0.heap.size ∧ b2 < w0.heap.size ∧ w.heap.size ≤ b1 ∧ w.heap.size ≤ b2 from ⟨by omega, hs1.lt, hs2.lt, by omega, by omega⟩)
 rw [← hw0] at hrow hgr ⊢
 rw [← hb2, ← hb1]
 have hb : Below w0.heap.size w0 w1 := (Below.refl _ _).grown hgr (Nat.le_refl _) (fun k hk => by cases hk)
 obtain ⟨ge, hge⟩ : ∃ y, y = w0.heap.size := ⟨_, rfl⟩
 have hrx := (RowX.of_owns hrow)
 rw [made_zero, show List.replicate N (Value.int .i64 0) = (List.replicate N (0 : Int)).map (fun c => Value.int .i64 c) by rw [List.map_replicate]] at hrx
 rw [← hge] at hrx ⊢
 have HRX := Lib.hid hrx
 have HGE := Lib.hid (show w.heap.size ≤ ge ∧ b1 ≠ ge ∧ b2 ≠ ge from ⟨by have := hb0.size; omega, by have := HNE.out; omega, by have := HNE.out; omega⟩)
 have HS1 := Lib.hid (hs1.below hb)
 have HS2 := Lib.hid (hs2.below hb)
 have HB := Lib.hid (hb0.trans (hb.mono hb0.size))
 clear hw0 hb1 hb2 hb0 hs1 hs2 hrow hgr hb hge hrx hi hz0 hz1 hz2
 simp only [Act.put, List.setIfInBounds_toArray, List.set_cons_succ, List.set_cons_zero]
 have k0 := HS1.out.c0
 have k1 := HS1.out.c1
 go_wp2_with fail
 refine (valid_none w1).mono ?_
 rintro e w2 ⟨rfl, hw2⟩
 have hb : Below w1.heap.size w1 w2 := by rw [hw2]; exact ((Below.refl _ _).alloc (Nat.le_refl _) _).alloc (by simp [go_sem]) _
 replace HS1 := Lib.hid (HS1.out.below hb)
 replace HS2 := Lib.hid (HS2.out.below hb)
 replace HRX := Lib.hid (HRX.out.below hb)
 replace HB := Lib.hid (HB.out.trans (hb.mono HB.out.size))
 clear hb hw2 k0 k1
 go_upto_region 11 with fail
 clear hl i0
 go_loopw [9, 36] (fun ov i wr => ∃ k : Nat, k ≤ N ∧ i = .int .i64 (k : Int) ∧ ∃ (now : Int) (a : Option Addr) (dk dc : Nat) (ds : List Dc) (cs : List Int) (m : Nat) (xs : List Value), RunR S (es.take k) now ds cs ∧ SB wr b1 now a dk dc ∧ Dcs wr (.slice a dk dc) ds ∧ (ds = [] → a = none ∧ dk = 0 ∧ dc = 0) ∧ Szs ds ∧ SB wr b2 0 none 0 0 ∧ RowX wr w.heap.size 30 1 (.slice (some ⟨ge, 0, none⟩) N N) N ((cs ++ List.replicate (N - k) 0).map fun c => .int .i64 c) ∧ RowP NotSl wr w.heap.size 88 4 ov m xs ∧ m ≤ k ∧ Below w.heap.size w wr) (fun _ i _ => N - (intOf i).toNat)
 case atStart => exact ⟨0, Nat.zero_le _, rfl, 0, none, 0, 0, [], [], 0, [], .nil, HS1.out, Dcs.nil _, fun _ => ⟨rfl, rfl, rfl⟩, ⟨by simp, fun d hd => by simp at hd⟩, HS2.out, HRX.out, .inl ⟨rfl, rfl, rfl⟩, Nat.le_refl _, HB.out⟩
 case round =>
  clear HS1 HS2 HRX HB
  obtain ⟨k, hk, rfl, now, a, dk, dc, ds, cs, m, xs, hrun, hs1, hdc, hnil, hszs, hs2, hrx, hox, hm, hb⟩ := hrel
  have HRUN := Lib.hid hrun
  have HS1 := Lib.hid hs1
  have HDC := Lib.hid hdc
  have HNIL := Lib.hid hnil
  have HSZS := Lib.hid hszs
  have HS2 := Lib.hid hs2
  have HRX := Lib.hid hrx
  have HOX := Lib.hid hox
  have HK := Lib.hid (And.intro hk hm)
  have HB := Lib.hid hb
  clear hrun hs1 hdc hnil hszs hs2 hrx hox hm hk hb
  by_cases hlt : k < N
  ·obtain ⟨e, he⟩ : ∃ e, es[k]? = some e := ⟨_, List.getElem?_eq_getElem (by have := HN.out; omega)⟩
   have hlt' : (k : Int) < (N : Int) := by omega
   have HLT := Lib.hid hlt
   obtain ⟨ao, cap, ev, -, -, hT⟩ := HEV.out.below HB.out
   have en := HN.out
   simp only [Value.slice.injEq] at ev
   obtain ⟨rfl, -, rfl⟩ := ev
   obtain ⟨b, o, tv, rfl, hA, hR, hNT⟩ := hT k e he
   have HA := Lib.hid hA
   have HTK := Lib.hid hR
   have HEK := Lib.hid he
   obtain ⟨ta, tc, htv, -⟩ := hR
   obtain ⟨tn, htn⟩ : ∃ n, n = e.t.length := ⟨_, rfl⟩
   rw [← htn] at htv
   subst htv
   have HNT2 := Lib.hid hNT
   clear hT hA he en htn hlt hNT
   go_upto_region 12 with fail
   apply wp_region_lit
   iterate 6 go_step
   refine wpl_loadEv HA.out rfl rfl rfl ?_
   unfold evtL
   go_upto_region 13 with fail
   obtain ⟨w3, hw3⟩ : ∃ y, y = wr.alloc (.cells #[.int .i64 e.kind, .string e.user, .string e.doc, .int .i64 e.base, .int .i64 e.ticks, .slice ta tn tc] 59) := ⟨_, rfl⟩
   obtain ⟨b11, hb11⟩ : ∃ y, y = wr.heap.size := ⟨_, rfl⟩
   have hb : Below wr.heap.size wr w3 := by rw [hw3]; exact below_box _ _
   have HE := Lib.hid (show w3.rangeAt b11 0 (evtL e (.slice ta tn tc)) by
    rw [hw3, hb11]
    intro j v hj
    unfold World.cell?
    rw [(MapKept.heap_alloc wr _).1]
    simpa [evtL] using hj)
   rw [← hw3, ← hb11]
   replace HTK := Lib.hid (HTK.out.below hb)
   replace HS1 := Lib.hid (HS1.out.below hb)
   replace HS2 := Lib.hid (HS2.out.below hb)
   replace HDC := Lib.hid (HDC.out.below hb)
   replace HRX := Lib.hid (HRX.out.below hb)
   replace HOX := Lib.hid (HOX.out.below hb)
   replace HB := Lib.hid (HB.out.trans (hb.mono HB.out.size))
   clear hb hw3 hb11 HA
   apply wp_region_lit
   refine wpl_loadEv HE.out rfl rfl rfl ?_
   simp only [Act.put, List.setIfInBounds_toArray, List.set_cons_succ, List.set_cons_zero]
   go_wp2_with fail
   refine (HCV.out k e _ w3 HEK.out HTK.out HNT2.out).mono ?_
   rintro r w4 ⟨rfl, hb⟩
   replace HTK := Lib.hid (HTK.out.below hb)
   replace HS1 := Lib.hid (HS1.out.below hb)
   replace HS2 := Lib.hid (HS2.out.below hb)
   replace HDC := Lib.hid (HDC.out.below hb)
   replace HRX := Lib.hid (HRX.out.below hb)
   replace HOX := Lib.hid (HOX.out.below hb)
   replace HB := Lib.hid (HB.out.trans (hb.mono HB.out.size))
   clear hb HE
   obtain ⟨cx, hcx⟩ : ∃ cx, cx = cvX e (.slice ta tn tc) := ⟨_, rfl⟩
   obtain ⟨ct, hct⟩ : ∃ ct, ct = cvT e := ⟨_, rfl⟩
   have HCX := Lib.hid (And.intro hcx hct)
   rw [← hcx, ← hct]
   clear hcx hct
   have k0 := HS1.out.c0
   have k1 := HS1.out.c1
   have HSTK := Lib.hid (HST.out k e (.slice ta tn tc) now a dk dc ds cs w4 HEK.out HTK.out HNT2.out HRUN.out HDC.out HNIL.out)
   rw [← HCX.out.1, ← HCX.out.2] at HSTK
   go_wp2_with fail
   refine HSTK.out.mono ?_
   rintro r w5 ⟨code, now', v', ov', ds', os, rfl, hr, hdc, hou, hb⟩
   replace HS1 := Lib.hid (HS1.out.below hb)
   replace HS2 := Lib.hid (HS2.out.below hb)
   replace HDC := Lib.hid (HDC.out.below hb)
   replace HRX := Lib.hid (HRX.out.below hb)
   replace HOX := Lib.hid (HOX.out.below hb)
   replace HB := Lib.hid (HB.out.trans (hb.mono HB.out.size))
   have HSR := Lib.hid hr
   have HDC2 := Lib.hid hdc
   have HOU := Lib.hid hou
   obtain ⟨va', vc', hv', -⟩ := hdc
   obtain ⟨vn', hvn⟩ : ∃ n, n = ds'.length := ⟨_, rfl⟩
   rw [← hvn] at hv'
   have HVN := Lib.hid hvn
   subst hv'
   obtain ⟨oa, oc, hov, -⟩ := hou
   obtain ⟨on', hon⟩ : ∃ n, n = os.length := ⟨_, rfl⟩
   rw [← hon] at hov
   have HON := Lib.hid hon
   subst hov
   clear hb hr hvn hon k0 k1 HSTK HCX HTK
   go_upto_region 17 with fail
   obtain ⟨w6, hw6⟩ : ∃ y, y = w5.alloc (.cells #[.int .i64 now', .slice va' vn' vc'] 55) := ⟨_, rfl⟩
   obtain ⟨b14, hb14⟩ : ∃ y, y = w5.heap.size := ⟨_, rfl⟩
   have hb : Below w5.heap.size w5 w6 := by rw [hw6]; exact below_box _ _
   have n0 : w6.cell? ⟨b14, 0, none⟩ = some (.int .i64 now') := by rw [hw6, hb14]; simp [go_sem]
   have n1 : w6.cell? ⟨b14, 1, none⟩ = some (.slice va' vn' vc') := by rw [hw6, hb14]; simp [go_sem]
   rw [← hw6, ← hb14]
   replace HS1 := Lib.hid (HS1.out.below hb)
   replace HS2 := Lib.hid (HS2.out.below hb)
   replace HDC := Lib.hid (HDC.out.below hb)
   replace HDC2 := Lib.hid (HDC2.out.below hb)
   replace HOU := Lib.hid (HOU.out.below hb)
   replace HRX := Lib.hid (HRX.out.below hb)
   replace HOX := Lib.hid (HOX.out.below hb)
   replace HB := Lib.hid (HB.out.trans (hb.mono HB.out.size))
   clear hb hw6 hb14
   by_cases hz : code = 0
   ·subst hz
    obtain ⟨f1, f2, f3, f4⟩ := HFN.out k e now ds cs HEK.out HRUN.out now' ds' os HSR.out
    have k0 := HS1.out.c0
    have k1 := HS1.out.c1
    have g0 := HS1.out.f 0
    have g1 := HS1.out.f 1
    have HF4 := Lib.hid (And.intro f1 (And.intro f2 (And.intro f3 f4)))
    clear f1 f2 f3 f4
    go_upto_region 20 with fail
    clear k0 k1 g0 g1 n0 n1
    have hput := HS1.out.put now' va' vn' vc'
    have hoth : ∀ x, x ≠ b1 → ((w6.setCell ⟨b1, 0, none⟩ (.int .i64 now')).setCell ⟨b1, 1, none⟩ (.slice va' vn' vc')).heap[x]? = w6.heap[x]? := fun x hx => (setCells_other b1 x hx [_] 1 _).trans (setCells_other b1 x hx [_] 0 w6)
    have hd7 := HDC2.out.skipS HS1.out.noStr hoth
    have ho7 := HOU.out.skipS HS1.out.noStr hoth
    have hs27 := HS2.out.same (hoth b2 (Ne.symm HNE.out.1))
    have hrx7 := HRX.out.blk (hoth ge (Ne.symm HGE.out.2.1))
    have hox7 := (HOX.out.other HS1.out (by decide) 0 (.int .i64 now')).other (by have := HS1.out.put0 now'; exact this) (by decide) 1 (.slice va' vn' vc')
    have hb7 := below_setCells b1 HNE.out.2.2.2.1 [.slice va' vn' vc'] 1 _ (below_setCells b1 HNE.out.2.2.2.1 [.int .i64 now'] 0 _ HB.out)
    simp only [World.setCells] at hb7
    obtain ⟨w7, hw7⟩ : ∃ x, x = (w6.setCell ⟨b1, 0, none⟩ (.int .i64 now')).setCell ⟨b1, 1, none⟩ (.slice va' vn' vc') := ⟨_, rfl⟩
    rw [← hw7] at hput hd7 ho7 hs27 hrx7 hox7 hb7 ⊢
    have H7 := Lib.hid (And.intro hput (And.intro hd7 (And.intro hs27 (And.intro hrx7 hb7))))
    have HOX7 := Lib.hid hox7
    have HO7 := Lib.hid ho7
    clear hw7 hput hoth hd7 ho7 hs27 hrx7 hox7 hb7 HS1 HS2 HDC HDC2 HOU HRX HOX HB
    obtain ⟨o1, ho1⟩ : ∃ o1, os = [o1] := List.length_eq_one_iff.1 HF4.out.1
    obtain ⟨oa2, oc2, ove, ol1, ol2, ocell⟩ := HO7.out
    simp only [Value.slice.injEq] at ove
    obtain ⟨rfl, hon1, rfl⟩ := ove
    obtain ⟨ob, oo, rfl, hor⟩ := ocell 0 o1 (by rw [ho1]; rfl)
    have hon2 : on' = 1 := by rw [hon1, HF4.out.1]
    have hl63 : m + 1 ≤ 2000 := by have := HK.out.2; have := HLT.out; have := HN2.out; omega
    obtain ⟨v8, w8, hrun8, a1, a2, a3, a4, a5⟩ := append_p NotSl w7 w.heap.size 60 88 4 48 z88 Tryz.underlying60 info88 zeros88 u9 m xs HOX7.out z88_nosl H7.out.2.2.2.2.size ⟨ob, oo, none⟩ 1 oc (outL o1) rfl outL_nosl (fun j u hu => by rw [Addr.add_mid]; have := hor j u hu; rwa [Nat.zero_mul, Nat.add_zero] at this) outL_one (by omega) (by unfold maxLen; omega) (fun cap h1 h2 => growslice_fits h2 (by omega))
    subst hon2
    have hkeep : ∀ (x : Nat) (c : Array Value) (E : TypeId) (f : Nat × Nat), w7.heap[x]? = some (.cells c E f) → E ≠ 88 → w8.heap[x]? = w7.heap[x]? := by
     intro x c E f hx hE
     refine a4 x (Array.getElem?_eq_some_iff.1 hx).1 (fun g cap hg => ?_)
     rintro rfl
     rcases HOX7.out with ⟨e1, _⟩ | ⟨g', cap', cur, e1, _, hg', _⟩
     ·rw [hg] at e1; simp at e1
     ·rw [hg] at e1
      simp only [Value.slice.injEq, Option.some.injEq, Addr.mk.injEq, and_true, true_and] at e1
      obtain ⟨rfl, -⟩ := e1
      rw [hx] at hg'
      cases hg'
      exact hE rfl
    apply wp_region_lit
    iterate 6 go_step
    refine Lib.wpList_append_run (P := Tryz.prog) w7 rfl (.tmp 65) (.tmp 66) 60 60 rfl u9 (.slice (some ⟨ob, oo, none⟩) 1 oc) rfl rfl _ _ hrun8 ?_
    obtain ⟨p1, p2, p3, p4, p5⟩ := H7.out
    obtain ⟨gc, hgc⟩ := p4.obj
    have hck : cs.length = k := by rw [HRUN.out.len, List.length_take]; have := HN.out; have := HLT.out; omega
    have q1 : SB w8 b1 now' va' vn' vc' := p1.same (hkeep b1 _ _ _ p1 (by decide))
    have q3 : SB w8 b2 0 none 0 0 := p3.same (hkeep b2 _ _ _ p3 (by decide))
    have q4 := p4.blk (hkeep ge _ _ _ hgc (by decide))
    have q2 : Dcs w8 (.slice va' vn' vc') ds' := by
     rcases HOX7.out with ⟨rfl, rfl, rfl⟩ | ⟨g, cap, cur, rfl, hrest⟩
     ·exact p2.skipL (b := w7.heap.size) (fun o a k c hc => by have := block_lt_of_cell hc; dsimp only at this; omega) (fun x hx _ => a4 x hx (fun g cap hg => by simp at hg))
     ·exact p2.skipL (b := g) HOX7.out.noSl (fun x hx hn => a4 x hx (fun g' cap' hg => by simp only [Value.slice.injEq, Option.some.injEq, Addr.mk.injEq, and_true, true_and] at hg; obtain ⟨rfl, -⟩ := hg; exact hn))
    have HQ := Lib.hid (And.intro q1 (And.intro q2 (And.intro q3 (And.intro q4 (And.intro a1 (p5.trans a2))))))
    have HCK := Lib.hid hck
    clear q1 q2 q3 q4 p1 p2 p3 p4 p5 hck hkeep a1 a2 a3 a4 a5 hrun8
    simp only [Act.put, List.setIfInBounds_toArray, List.set_cons_succ, List.set_cons_zero]
    go_wp2_with fail
    obtain ⟨q1, q2, q3, q4, q5, q6⟩ := HQ.out
    have hww : wrap64 ((k : Int) + 1) = (k : Int) + 1 := by have := HLT.out; have := HN2.out; unfold wrap64; omega
    have hcz : (cs ++ List.replicate (N - k) 0) = ((cs ++ [0]) ++ List.replicate (N - (k + 1)) 0) := by
     rw [show N - k = (N - (k + 1)) + 1 by have := HLT.out; omega, List.replicate_succ]
     simp
    rw [hcz] at q4
    refine ⟨⟨k + 1, by have := HLT.out; omega, by rw [hww]; simp, now', va', vn', vc', ds', cs ++ [0], m + 1, _, ?_, q1, q2, fun hd => absurd hd HF4.out.2.1, ⟨HF4.out.2.2.1, HF4.out.2.2.2⟩, q3, q4, q5, by have := HK.out.2; omega, q6⟩, by rw [hww]; have := HLT.out; simp [intOf]; omega⟩
    exact (RunR.ok _ _ _ _ HRUN.out e now' ds' os HSR.out).eq (by rw [List.take_add_one, HEK.out]; rfl)
   ·have hz2 : decide (code = 0) = false := decide_eq_false hz
    have HZ := Lib.hid hz
    have hcl := HRUN.out.len
    have hck : cs.length = k := by rw [hcl, List.length_take]; have := HN.out; have := HLT.out; omega
    have HCK := Lib.hid hck
    have hcell : ∃ z, w6.cell? ⟨ge, k, none⟩ = some z := by
     have hlen : k < ((cs ++ List.replicate (N - k) 0).map fun c => Value.int .i64 c).length := by rw [List.length_map, List.length_append, List.length_replicate]; have := HLT.out; omega
     exact ⟨_, HRX.out.cell (List.getElem?_eq_getElem hlen)⟩
    obtain ⟨z, hcell⟩ := hcell
    have hfz := HRX.out.frozen k
    have hq0 : ¬ ((k : Int) < 0) := by omega
    clear hcl hck n0 n1
    go_wp2_with fail
    obtain ⟨gc, hgc⟩ := HRX.out.obj
    have hoth : ∀ x, x ≠ ge → (w6.setCell ⟨ge, k, none⟩ (.int .i64 code)).heap[x]? = w6.heap[x]? := fun x hx => setCells_other ge x hx [_] k w6
    have hlen : k < ((cs ++ List.replicate (N - k) 0).map fun c => Value.int .i64 c).length := by rw [List.length_map, List.length_append, List.length_replicate, HCK.out]; have := HLT.out; omega
    have hrx := HRX.out.setCell hlen (.int .i64 code)
    rw [codes_set cs N k code HCK.out HLT.out] at hrx
    have hww : wrap64 ((k : Int) + 1) = (k : Int) + 1 := by have := HLT.out; have := HN2.out; unfold wrap64; omega
    have hbw := below_setCells ge HGE.out.1 [.int .i64 code] k _ HB.out
    simp only [World.setCells] at hbw
    refine ⟨⟨k + 1, by have := HLT.out; omega, by rw [hww]; simp, now, a, dk, dc, ds, cs ++ [code], m, xs, ?_, HS1.out.same (hoth b1 HGE.out.2.1), HDC.out.skipS HRX.out.noStr hoth, HNIL.out, HSZS.out, HS2.out.same (hoth b2 HGE.out.2.2), hrx, HOX.out.other hgc (by decide) k _, by have := HK.out.2; omega, hbw⟩, by rw [hww]; have := HLT.out; simp [intOf]; omega⟩
    exact (RunR.no _ _ _ _ HRUN.out e code now' ds' os HSR.out HZ.out).eq (by rw [List.take_add_one, HEK.out]; rfl)
  ·have hkn : k = N := by have := HK.out.1; omega
   subst hkn
   have hcs : cs.length = k := by rw [HRUN.out.len, List.length_take]; have := HN.out; omega
   have hrun2 : RunR S es now ds cs := HRUN.out.eq (List.take_of_length_le (by rw [HN.out]; exact Nat.le_refl _))
   have hrx2 : RowX wr w.heap.size 30 1 (.slice (some ⟨ge, 0, none⟩) k k) k (cs.map fun c => .int .i64 c) := by
    have := HRX.out
    rw [Nat.sub_self, List.replicate_zero, List.append_nil] at this
    exact this
   have HR2 := Lib.hid (And.intro hrun2 hrx2)
   have k0 := HS1.out.c0
   have k1 := HS1.out.c1
   have HCLN : Hid (Calls Tryz.prog 64 #[.agg #[.int .i64 now, .slice a dk dc]] wr fun e w' => ∃ v', e = .returned (.agg #[.int .i64 now, v']) ∧ Dcs w' v' ds ∧ Below wr.heap.size wr w') := Lib.hid (by
    by_cases hd : ds = []
    ·obtain ⟨rfl, rfl, rfl⟩ := HNIL.out hd
     subst hd
     refine (clone_none now wr).mono ?_
     rintro e w' ⟨rfl, rfl⟩
     exact ⟨_, rfl, Dcs.nil _, ((Below.refl _ _).alloc (Nat.le_refl _) _).alloc (by simp [go_sem]) _⟩
    ·exact stateclone_any _ ds now wr HDC.out hd HSZS.out.1 HSZS.out.2)
   clear hcs hrun2 hrx2
   go_wp2_with fail
   refine HCLN.out.mono ?_
   rintro r w3 ⟨v3, rfl, hd3, hb⟩
   have hd3' := hd3
   obtain ⟨va3, vc3, hv3, -⟩ := hd3'
   obtain ⟨vn3, hvn⟩ : ∃ n, n = ds.length := ⟨_, rfl⟩
   rw [← hvn] at hv3
   have HD3 := Lib.hid hd3
   subst hv3
   have s2 := HS2.out.below hb
   have HS2b := Lib.hid s2
   have HE2 := Lib.hid (HR2.out.2.below hb)
   have HB2 := Lib.hid (HB.out.trans (hb.mono HB.out.size))
   have j0 := s2.c0
   have j1 := s2.c1
   have f0 := s2.f 0
   have f1 := s2.f 1
   clear hb hd3 hvn s2 k0 k1
   go_wp2_with fail
   have hput := HS2b.out.put now va3 vn3 vc3
   have z0 := hput.c0
   have z1 := hput.c1
   have hoth : ∀ x, x ≠ b2 → ((w3.setCell ⟨b2, 0, none⟩ (.int .i64 now)).setCell ⟨b2, 1, none⟩ (.slice va3 vn3 vc3)).heap[x]? = w3.heap[x]? := fun x hx => (setCells_other b2 x hx [_] 1 _).trans (setCells_other b2 x hx [_] 0 w3)
   have hdf := HD3.out.skipS HS2b.out.noStr hoth
   have hef := HE2.out.blk (hoth ge (Ne.symm HGE.out.2.2))
   have hbf := below_setCells b2 HNE.out.2.2.2.2 [.slice va3 vn3 vc3] 1 _ (below_setCells b2 HNE.out.2.2.2.2 [.int .i64 now] 0 _ HB2.out)
   simp only [World.setCells] at hbf
   obtain ⟨wf, hwf⟩ : ∃ x, x = (w3.setCell ⟨b2, 0, none⟩ (.int .i64 now)).setCell ⟨b2, 1, none⟩ (.slice va3 vn3 vc3) := ⟨_, rfl⟩
   rw [← hwf] at z0 z1 hdf hef hbf ⊢
   clear hwf hput hoth
   exact bodyPost_ret (v := .tuple #[.agg #[.int .i64 now, .slice va3 vn3 vc3], _, .slice (some ⟨ge, 0, none⟩) k k]) (by simp [results, Tryz.results33, go_sem, z0, z1]; rfl) rfl ⟨now, _, _, _, ds, cs, rfl, HR2.out.1, hdf, (by rw [← HN.out]; exact hef), hbf⟩
structure EvOK (L : Int) (e : Ev) : Prop where
 k : e.kind = 1 ∨ e.kind = 2 ∨ e.kind = 3 ∨ e.kind = 4 ∨ e.kind = 5 ∨ e.kind = 6
 u : okWord e.user
 d : okWord e.doc
 v : VT L e.t
 b : e.kind ≠ 4 → e.base = 0
 t : e.kind ≠ 2 → e.ticks = 0
 n : e.kind = 2 → 1 ≤ e.ticks ∧ e.ticks ≤ 1000
def ChR (now : Int) (e : Ev) (d : Dc) (c : Int) (d' : Dc) : Prop :=
 if e.kind = 2 then LockR d e.user (now + e.ticks) c d' else if e.kind = 3 then UnlockR d e.user c d' else if e.kind = 4 then CommitR d e.user e.base e.t c d' else if e.kind = 5 then UndoR d e.user c d' else RedoR d e.user c d'
def StpS (now : Int) (ds : List Dc) (e : Ev) (code now' : Int) (ds' : List Dc) (os : List Rpt) : Prop :=
 if e.kind = 1 then FirstR now e.user e.doc e.t code now' ds' os else OneR now ds e.kind e.user e.doc (ChR now e) code now' ds' os
theorem ChR.keeps {L now code : Int} {e : Ev} {d d' : Dc} (h : DocOK L now d) (he : EvOK L e) (hc : ChR now e d code d') : DocOK L now d' := by
 unfold ChR at hc
 split at hc
 ·rename_i h2
  exact LockR.keeps h he.u (he.n h2).1 (he.n h2).2 hc
 ·split at hc
  ·exact UnlockR.keeps h hc
  ·split at hc
   ·exact CommitR.keeps h he.u he.v hc
   ·split at hc
    ·exact UndoR.keeps h he.u hc
    ·exact RedoR.keeps h he.u hc
structure EvsOK (L : Int) (es : List Ev) : Prop where
 ok : ∀ (i : Nat) (e : Ev), es[i]? = some e → EvOK L e
 first : ∀ (i : Nat) (e : Ev), es[i]? = some e → (e.kind = 1 ↔ i = 0)
theorem EvsOK.left {L : Int} {es fs : List Ev} (h : EvsOK L (es ++ fs)) : EvsOK L es :=
 ⟨fun i e hi => h.ok i e (by rw [List.getElem?_append_left (List.getElem?_eq_some_iff.1 hi).1]; exact hi), fun i e hi => h.first i e (by rw [List.getElem?_append_left (List.getElem?_eq_some_iff.1 hi).1]; exact hi)⟩
theorem EvsOK.take {L : Int} {es : List Ev} (h : EvsOK L es) (k : Nat) : EvsOK L (es.take k) := by
 have := List.take_append_drop k es
 rw [← this] at h
 exact h.left
theorem set_one {d d' : Dc} {i : Nat} {x : Dc} (h : [d][i]? = some x) : x = d ∧ [d].set i d' = [d'] := by
 cases i with
 | zero => exact ⟨(Option.some.inj h).symm, rfl⟩
 | succ i => simp at h
theorem run_inv {L : Int} {es : List Ev} {now : Int} {ds : List Dc} {cs : List Int} (h : RunR StpS es now ds cs) : EvsOK L es → now = 0 ∧ ((es = [] ∧ ds = []) ∨ (es ≠ [] ∧ ∃ d, ds = [d] ∧ DocOK L 0 d)) := by
 induction h with
 | nil => exact fun _ => ⟨rfl, .inl ⟨rfl, rfl⟩⟩
 | ok es now ds cs h e now' ds' os hs ih =>
  intro hE
  have hl : (es ++ [e])[es.length]? = some e := by simp
  have he := hE.ok _ _ hl
  have hf := hE.first _ _ hl
  obtain ⟨rfl, hx⟩ := ih hE.left
  unfold StpS at hs
  rcases hx with ⟨rfl, rfl⟩ | ⟨hne, d, rfl, hd⟩
  ·rw [if_pos (hf.2 rfl)] at hs
   obtain ⟨-, rfl, rfl, -⟩ := hs
   exact ⟨rfl, .inr ⟨by simp, _, rfl, madeD.ok he.u he.d he.v⟩⟩
  ·rw [if_neg (fun hk => hne (List.length_eq_zero_iff.1 (hf.1 hk)))] at hs
   cases hs with
   | fails _ _ _ _ _ _ _ hz => exact absurd rfl hz
   | done i x hfi hdk d' hr =>
    obtain ⟨rfl, hset⟩ := set_one (d' := d') hdk
    exact ⟨rfl, .inr ⟨by simp, d', hset, hr.keeps hd he⟩⟩
 | no es now ds cs h e c now' ds' os hs hz ih =>
  intro hE
  have hl : (es ++ [e])[es.length]? = some e := by simp
  have hf := hE.first _ _ hl
  obtain ⟨rfl, hx⟩ := ih hE.left
  rcases hx with ⟨rfl, rfl⟩ | ⟨hne, d, rfl, hd⟩
  ·unfold StpS at hs
   rw [if_pos (hf.2 rfl)] at hs
   exact absurd hs.1 hz
  ·exact ⟨rfl, .inr ⟨by simp, d, rfl, hd⟩⟩
def annB : ByteArray := ⟨#[97, 110, 110]⟩
def docB : ByteArray := ⟨#[100]⟩
theorem ann_ok : okWord annB := .inr ⟨97, 110, 110, rfl, ⟨by decide, by decide⟩, ⟨by decide, by decide⟩, by decide, by decide⟩
theorem doc_ok : okWord docB := .inl ⟨100, rfl, by decide, by decide⟩
theorem merge_back {t a x : List Trk.Clip} {c : Int} (ht : Trk.Norm t) (ha : Trk.Norm a) (hne : t ≠ a) (hm : MergeR a a t c x) : c = 0 ∧ x = t := by
 have hs : shortC a a t := .inr (.inr rfl)
 rcases hm with ⟨-, rfl, rfl⟩ | ⟨h, -⟩
 ·refine ⟨rfl, ?_⟩
  unfold shortL
  rw [ht.nf, ha.nf, if_neg (by rintro (h | h) <;> exact hne h)]
 ·exact absurd hs h
structure Hist (t a : List Trk.Clip) (k : Nat) (d : Dc) : Prop where
 o : d.owner = ⟨#[]⟩
 n : d.name = docB
 l : d.revs.length = 2 + 2 * k
 r0 : ∃ r, d.revs[0]? = some r ∧ r.kind = 1 ∧ r.t = t
 r1 : ∃ r, d.revs[1]? = some r ∧ r.kind = 2 ∧ r.by_ = annB ∧ r.back = false ∧ r.t = a
 r2 : ∀ (j : Nat) (r : Rv), 2 ≤ j → d.revs[j]? = some r → (r.kind = 4 ∧ r.back = true) ∨ r.kind = 5
 c : ∃ r, d.revs[2 + 2 * k - 1]? = some r ∧ r.t = a
structure Back (t a : List Trk.Clip) (k : Nat) (d : Dc) : Prop where
 o : d.owner = ⟨#[]⟩
 n : d.name = docB
 l : d.revs.length = 3 + 2 * k
 r0 : ∃ r, d.revs[0]? = some r ∧ r.kind = 1 ∧ r.t = t
 r1 : ∃ r, d.revs[1]? = some r ∧ r.kind = 2 ∧ r.by_ = annB ∧ r.back = true ∧ r.t = a
 r2 : ∀ (j : Nat) (r : Rv), 2 ≤ j → j < 2 + 2 * k → d.revs[j]? = some r → (r.kind = 4 ∧ r.back = true) ∨ r.kind = 5
 b : ∃ r, d.revs[1 + 2 * k]? = some r ∧ r.t = a
 c : ∃ r, d.revs[2 + 2 * k]? = some r ∧ r.kind = 4 ∧ r.by_ = annB ∧ r.base = 1 ∧ r.back = false ∧ r.t = t
theorem free_held {d : Dc} {u : ByteArray} (h : d.owner = ⟨#[]⟩) : ¬ Held d u := fun hh => hh.1 h
theorem Hist.openB {t a : List Trk.Clip} {k : Nat} {d : Dc} (h : Hist t a k d) : openB d annB 1 = true ∧ ∀ j, 1 ≤ j → openB d annB j = true → j = 1 := by
 obtain ⟨r, hr, h1, h2, h3, -⟩ := h.r1
 refine ⟨by unfold Go.Proofs.YtfoohocgdcgbcaaGreat.openB changedB; rw [hr]; simp [h1, h2, h3], fun j hj ho => ?_⟩
 by_cases h2 : 2 ≤ j
 ·exfalso
  unfold Go.Proofs.YtfoohocgdcgbcaaGreat.openB changedB at ho
  split at ho
  ·rename_i x hx
   rcases h.r2 j x h2 hx with ⟨e, -⟩ | e <;> simp [e] at ho
  ·cases ho
 ·omega
theorem Hist.undo {t a : List Trk.Clip} {k : Nat} {d d' : Dc} {c : Int} (h : Hist t a k d) (hk : k ≤ 5) (ht : Trk.Norm t) (ha : Trk.Norm a) (hne : t ≠ a) (hu : UndoR d annB c d') : c = 0 ∧ Back t a k d' := by
 have hl := h.l
 cases hu with
 | locked hh => exact absurd hh (free_held h.o)
 | none _ hn => exact absurd h.openB.1 (by rw [hn 1 (Nat.le_refl 1)]; decide)
 | some _ j j0 j1 ho hn _ _ hr =>
  obtain rfl := h.openB.2 j j0 ho
  obtain ⟨r0, e0, k0, t0⟩ := h.r0
  obtain ⟨r1, e1, k1, b1, bk1, t1⟩ := h.r1
  obtain ⟨rc, ec, tc⟩ := h.c
  have aux : ∀ cur r p x c, curR d cur → d.revs[1]? = some r → d.revs[1 - 1]? = some p → MergeR r.t cur.t p.t c x → c = 0 ∧ x = t := by
   intro cur r p x c hc hr' hp hm
   unfold curR at hc
   rw [hl, ec] at hc
   rw [e1] at hr'
   rw [show (1 : Nat) - 1 = 0 from rfl, e0] at hp
   cases hc; cases hr'; cases hp
   rw [t1, tc, t0] at hm
   exact merge_back ht ha hne hm
  cases hr with
  | full hf => omega
  | fails _ cur r p hc hr' hp _ x hm hz => exact absurd (aux cur r p x _ hc hr' hp hm).1 hz
  | done _ cur r p hc hr' hp x hm =>
   obtain ⟨-, rfl⟩ := aux cur r p x _ hc hr' hp hm
   rw [e1] at hr'
   cases hr'
   refine ⟨rfl, h.o, h.n, ?_, ?_, ?_, ?_, ?_, ?_⟩
   ·simp [hl]; omega
   ·exact ⟨r0, by simp only [List.getElem?_set, if_neg (show ¬ (1 : Nat) = 0 by decide)]; rw [List.getElem?_append_left (by omega), e0], k0, t0⟩
   ·refine ⟨{ r1 with back := true }, by simp only [List.getElem?_set, if_true]; rw [if_pos (by simp; omega)], k1, b1, rfl, t1⟩
   ·intro j r hj hjk hx
    simp only [List.getElem?_set, if_neg (show ¬ (1 : Nat) = j by omega)] at hx
    rw [List.getElem?_append_left (by omega)] at hx
    exact h.r2 j r hj hx
   ·by_cases hk0 : k = 0
    ·subst hk0
     exact ⟨{ r1 with back := true }, by simp only [List.getElem?_set]; rw [if_pos (by simp), if_pos (by simp; omega)], t1⟩
    ·refine ⟨rc, ?_, tc⟩
     simp only [List.getElem?_set, if_neg (show ¬ (1 : Nat) = 1 + 2 * k by omega)]
     rw [List.getElem?_append_left (by omega)]
     rw [show 1 + 2 * k = 2 + 2 * k - 1 by omega]
     exact ec
   ·refine ⟨⟨4, annB, ((1 : Nat) : Int), false, x⟩, ?_, rfl, rfl, rfl, rfl, rfl⟩
    simp only [List.getElem?_set, if_neg (show ¬ (1 : Nat) = 2 + 2 * k by omega)]
    rw [List.getElem?_append_right (by omega), hl, Nat.sub_self]
    rfl
theorem Back.undo {t a : List Trk.Clip} {k : Nat} {d d' : Dc} {c : Int} (h : Back t a k d) (hu : UndoR d annB c d') : c = 13 := by
 have hl := h.l
 cases hu with
 | locked hh => exact absurd hh (free_held h.o)
 | none _ hn => rfl
 | some _ j j0 j1 ho hn _ _ hr =>
  exfalso
  obtain ⟨r1, e1, k1, b1, bk1, t1⟩ := h.r1
  obtain ⟨rc, ec, kc, -⟩ := h.c
  unfold openB changedB at ho
  split at ho
  ·rename_i x hx
   by_cases h1 : j = 1
   ·subst h1
    rw [e1] at hx
    cases hx
    simp [bk1] at ho
   ·by_cases h2 : j < 2 + 2 * k
    ·rcases h.r2 j x (by omega) h2 hx with ⟨e, -⟩ | e <;> simp [e] at ho
    ·obtain rfl : j = 2 + 2 * k := by omega
     rw [ec] at hx
     cases hx
     simp [kc] at ho
  ·cases ho
theorem conv_any {L : Int} (e : Ev) (tv : Value) (w : World) (he : EvOK L e) (hL : L ≤ 140737488355328) (ht : Tk w tv e.t) (hn : e.kind ≠ 1 → e.kind ≠ 4 → tv = .slice none 0 0) :
  Calls Tryz.prog 62 #[.agg (evtL e tv).toArray] w fun r w' => r = .returned (.tuple #[.iface (cvT e) (cvX e tv), .bool true]) ∧ Below w.heap.size w w' := by
 obtain ⟨k, u, d, bs, tk, t⟩ := e
 obtain ⟨hk, hu, hd, hv, hb, htk, hn2⟩ := he
 dsimp only at hk hu hd hv hb htk hn2 ht hn
 unfold evtL cvT cvX
 dsimp only
 rcases hk with rfl | rfl | rfl | rfl | rfl | rfl
 ·obtain rfl := hb (by decide)
  obtain rfl := htk (by decide)
  exact convert_create u d tv t w hu hd ht hv hL
 ·obtain rfl := hb (by decide)
  obtain rfl := hn (by decide) (by decide)
  exact convert_lock u d tk w hu hd (hn2 rfl).1 (hn2 rfl).2
 ·obtain rfl := hb (by decide)
  obtain rfl := htk (by decide)
  obtain rfl := hn (by decide) (by decide)
  exact convert_unlock u d w hu hd
 ·obtain rfl := htk (by decide)
  exact convert_commit u d bs tv t w hu hd ht hv hL
 ·obtain rfl := hb (by decide)
  obtain rfl := htk (by decide)
  obtain rfl := hn (by decide) (by decide)
  exact convert_undo u d w hu hd
 ·obtain rfl := hb (by decide)
  obtain rfl := htk (by decide)
  obtain rfl := hn (by decide) (by decide)
  exact convert_redo u d w hu hd
theorem StepPost.imp {w w' : World} {R S : Int → Int → List Dc → List Rpt → Prop} {e : Ending} (h : StepPost w R e w') (hi : ∀ c n ds os, R c n ds os → S c n ds os) : StepPost w S e w' := by
 obtain ⟨c, n, v, ov, ds, os, h1, h2, h3⟩ := h
 exact ⟨c, n, v, ov, ds, os, h1, hi _ _ _ _ h2, h3⟩
theorem stepS_any {L : Int} (e : Ev) (tv : Value) (now : Int) (v : Value) (d : Dc) (w : World) (he : EvOK L e) (h1 : e.kind ≠ 1) (hd : DocOK L now d) (hL : L ≤ 140737488355328) (hn0 : 0 ≤ now) (hn1 : now ≤ 1099511627776) (ht : Tk w tv e.t) (hv : Dcs w v [d]) :
  Calls Tryz.prog 63 #[.agg #[.int .i64 now, v], .iface (cvT e) (cvX e tv)] w (StepPost w (StpS now [d] e)) := by
 obtain ⟨k, u, nm, bs, tk, t⟩ := e
 obtain ⟨hk, hu, hdn, hvt, hb, htk, hn2⟩ := he
 dsimp only at hk hu hdn hvt hb htk hn2 ht h1
 unfold cvT cvX StpS
 dsimp only
 rw [if_neg h1]
 have hds : ∀ x ∈ [d], ownOK x ∧ RvsOK L x.revs := fun x hx => by rw [List.mem_singleton.1 hx]; exact ⟨hd.own, hd.rvs⟩
 rcases hk with rfl | rfl | rfl | rfl | rfl | rfl
 ·exact absurd rfl h1
 ·exact step_lock (L := L) [d] v now u nm tk w hv (by simp) (by simp) hds ⟨hn0, hn1⟩ ⟨by have := (hn2 rfl).1; omega, (hn2 rfl).2⟩ hL
 ·exact step_unlock (L := L) [d] v now u nm w hv (by simp) (by simp) hds hL
 ·obtain ⟨ta, tc, rfl, -⟩ := id ht
  exact step_commit (L := L) [d] v now u nm bs ta _ tc t w hv (by simp) (by simp) hds ht hvt hL
 ·exact step_undo (L := L) [d] v now u nm w hv (by simp) (by simp) hds hL
 ·exact step_redo (L := L) [d] v now u nm w hv (by simp) (by simp) hds (fun x hx => by rw [List.mem_singleton.1 hx]; exact hd.base4) hL
theorem docs_small {L now : Int} {d : Dc} (h : DocOK L now d) : 1 ≤ d.revs.length ∧ d.revs.length ≤ 1000 ∧ ∀ r ∈ d.revs, r.t.length ≤ 1048576 :=
 ⟨h.l0, by have := h.l1; omega, fun r hr => by have := (h.rvs.v r hr).1.n; omega⟩
theorem runs_any {L : Int} (v : Value) (es : List Ev) (w : World) (h : Evs w v es) (hl : es.length ≤ 1000) (hE : EvsOK L es) (hL : L ≤ 140737488355328) :
  Calls Tryz.prog 33 #[.agg #[.int .i64 0, .slice none 0 0], v] w (RunPost w StpS es) := by
 refine run_any StpS v es w h hl (fun i e tv w1 hi ht hn => conv_any e tv w1 (hE.ok i e hi) hL ht hn) ?_ ?_
 ·intro i e tv now a k c ds cs w1 hi ht hn hr hd hnil
  obtain ⟨rfl, hx⟩ := run_inv hr (hE.take i)
  have hlt := (List.getElem?_eq_some_iff.1 hi).1
  rcases hx with ⟨h0, rfl⟩ | ⟨hne, d, rfl, hok⟩
  ·obtain ⟨rfl, rfl, rfl⟩ := hnil rfl
   have hi0 : i = 0 := by
    have := congrArg List.length h0
    rw [List.length_take, List.length_nil] at this
    omega
   have hk := (hE.first i e hi).2 hi0
   have hok := hE.ok i e hi
   obtain ⟨kk, u, nm, bs, tk, t⟩ := e
   dsimp only at hk ht
   subst hk
   obtain ⟨ta, tc, rfl, -⟩ := id ht
   have hv := hok.v
   unfold cvT cvX StpS
   dsimp only
   exact step_create0 (L := L) 0 u nm ta _ tc t w1 ht hv hL
  ·have hi0 : i ≠ 0 := by rintro rfl; exact hne (List.take_zero)
   exact stepS_any e tv 0 _ d w1 (hE.ok i e hi) (fun hk => hi0 ((hE.first i e hi).1 hk)) hok hL (Int.le_refl 0) (by decide) ht hd
 ·intro i e now ds cs hi hr now' ds' os hs
  obtain ⟨rfl, hx⟩ := run_inv hr (hE.take i)
  have hok := hE.ok i e hi
  unfold StpS at hs
  rcases hx with ⟨h0, rfl⟩ | ⟨hne, d, rfl, hdk⟩
  ·have hi0 : i = 0 := by
    have := congrArg List.length h0
    rw [List.length_take, List.length_nil] at this
    have := (List.getElem?_eq_some_iff.1 hi).1
    omega
   rw [if_pos ((hE.first i e hi).2 hi0)] at hs
   obtain ⟨-, -, rfl, rfl⟩ := hs
   exact ⟨rfl, by simp, by simp, fun x hx => by rw [List.mem_singleton.1 hx]; exact docs_small (madeD.ok (now := 0) hok.u hok.d hok.v)⟩
  ·have hi0 : i ≠ 0 := by rintro rfl; exact hne (List.take_zero)
   rw [if_neg (fun hk => hi0 ((hE.first i e hi).1 hk))] at hs
   cases hs with
   | fails _ _ _ _ _ _ _ hz => exact absurd rfl hz
   | done j x hfi hdk2 d' hr2 =>
    obtain ⟨rfl, hset⟩ := set_one (d' := d') hdk2
    rw [hset]
    exact ⟨rfl, by simp, by simp, fun x hx => by rw [List.mem_singleton.1 hx]; exact docs_small (hr2.keeps hdk hok)⟩
theorem RunR.nil_inv {S : Int → List Dc → Ev → Int → Int → List Dc → List Rpt → Prop} {now : Int} {ds : List Dc} {cs : List Int} (h : RunR S [] now ds cs) : now = 0 ∧ ds = [] ∧ cs = [] := by
 generalize he : ([] : List Ev) = es at h
 cases h with
 | nil => exact ⟨rfl, rfl, rfl⟩
 | ok es => simp at he
 | no es => simp at he
theorem RunR.snoc_inv {S : Int → List Dc → Ev → Int → Int → List Dc → List Rpt → Prop} {es : List Ev} {e : Ev} {now : Int} {ds : List Dc} {cs : List Int} (h : RunR S (es ++ [e]) now ds cs) :
  ∃ now0 ds0 cs0 c now' ds' os, RunR S es now0 ds0 cs0 ∧ S now0 ds0 e c now' ds' os ∧ cs = cs0 ++ [c] ∧ ((c = 0 ∧ now = now' ∧ ds = ds') ∨ (c ≠ 0 ∧ now = now0 ∧ ds = ds0)) := by
 generalize he : es ++ [e] = fs at h
 cases h with
 | nil => simp at he
 | ok es2 now0 ds0 cs0 h e2 now' ds' os hs =>
  obtain ⟨rfl, h2⟩ := List.append_inj' he rfl
  cases h2
  exact ⟨now0, ds0, cs0, 0, _, _, os, h, hs, rfl, .inl ⟨rfl, rfl, rfl⟩⟩
 | no es2 now0 ds0 cs0 h e2 c now' ds' os hs hz =>
  obtain ⟨rfl, h2⟩ := List.append_inj' he rfl
  cases h2
  exact ⟨_, _, cs0, c, now', ds', os, h, hs, rfl, .inr ⟨hz, rfl, rfl⟩⟩
theorem first_run {L : Int} {e : Ev} {now : Int} {ds : List Dc} {cs : List Int} (hk : e.kind = 1) (h : RunR StpS [e] now ds cs) : now = 0 ∧ cs = [0] ∧ ds = [madeD e.user e.doc e.t] := by
 obtain ⟨now0, ds0, cs0, c, now', ds', os, hr, hs, rfl, hx⟩ := RunR.snoc_inv (es := []) h
 obtain ⟨rfl, rfl, rfl⟩ := hr.nil_inv
 unfold StpS at hs
 rw [if_pos hk] at hs
 obtain ⟨rfl, rfl, rfl, -⟩ := hs
 rcases hx with ⟨-, rfl, rfl⟩ | ⟨hz, -⟩
 ·exact ⟨rfl, rfl, rfl⟩
 ·exact absurd rfl hz
theorem next_run {es : List Ev} {e : Ev} {now : Int} {ds : List Dc} {cs : List Int} (hk : e.kind ≠ 1) {d : Dc} (h0 : ∀ now ds cs, RunR StpS es now ds cs → now = 0 ∧ ds = [d]) (hn : e.doc = d.name) (h : RunR StpS (es ++ [e]) now ds cs) :
  ∃ cs0 c d', RunR StpS es 0 [d] cs0 ∧ cs = cs0 ++ [c] ∧ now = 0 ∧ ds = [if c = 0 then d' else d] ∧ ChR 0 e d c d' := by
 obtain ⟨now0, ds0, cs0, c, now', ds', os, hr, hs, rfl, hx⟩ := RunR.snoc_inv h
 obtain ⟨rfl, rfl⟩ := h0 _ _ _ hr
 unfold StpS at hs
 rw [if_neg hk] at hs
 cases hs with
 | none hf =>
  exfalso
  cases hf with
  | none hf => exact hf 0 d rfl hn.symm
 | fails i x hf hi _ d' hc hz =>
  obtain ⟨rfl, -⟩ := set_one (d' := d') hi
  rcases hx with ⟨h1, -⟩ | ⟨-, rfl, rfl⟩
  ·exact absurd h1 hz
  ·exact ⟨cs0, c, d', hr, rfl, rfl, by rw [if_neg hz], hc⟩
 | done i x hf hi d' hc =>
  obtain ⟨rfl, h2⟩ := set_one (d' := d') hi
  rcases hx with ⟨-, rfl, rfl⟩ | ⟨h1, -⟩
  ·exact ⟨cs0, 0, d', hr, rfl, rfl, by rw [if_pos rfl]; exact h2, hc⟩
  ·exact absurd rfl h1
structure Apart (u1 u2 v P1 P2 : List Trk.Clip) (a1 r1 a2 r2 : Int) : Prop where
 h1 : InL u1 P1 a1 r1
 h2 : InL u2 P2 a2 r2
 s : a1 + r1 < a2
 v : ExF u1 v P2 (a2 + (Trk.total P1 - r1)) r2
 l1 : P1.length ≤ 3
 l2 : P2.length ≤ 3
 z1 : Trk.total P1 ≤ 1000
 z2 : Trk.total P2 ≤ 1000
section
variable {u1 u2 v P1 P2 : List Trk.Clip} {a1 r1 a2 r2 : Int}
theorem Apart.ne1 (h : Apart u1 u2 v P1 P2 a1 r1 a2 r2) : Trk.fr v (a2 + (Trk.total P1 - r1)) ≠ Trk.fr u1 (a2 + (Trk.total P1 - r1)) := by
 have q0 := h.h1.p0
 have q1 := h.h1.r0
 have q2 := h.h2.r0
 have q3 := h.h2.e
 have q4 := h.s
 have t1 := Trk.total_nonneg h.h1.g
 have t2 := Trk.total_nonneg h.h2.g
 intro e
 rw [h.h1.f2 (by omega), long_fr (by omega), show a2 + (Trk.total P1 - r1) - Trk.total P1 + r1 = a2 by omega] at e
 rw [h.v.f _ (by omega), if_neg (by omega)] at e
 by_cases hp : 1 ≤ Trk.total P2
 ·rw [if_pos (by omega)] at e
  have := fr_name (i := a2 + (Trk.total P1 - r1) - (a2 + (Trk.total P1 - r1))) h.h2.g h.h2.z
  rw [e] at this
  exact this (long_name a2)
 ·rw [if_neg (by omega), h.h1.f2 (by omega), long_fr (by omega)] at e
  have := long_inj e
  have := h.h2.s
  omega
theorem Apart.vu (h : Apart u1 u2 v P1 P2 a1 r1 a2 r2) : v ≠ u1 := fun e => h.ne1 (by rw [e])
theorem Apart.at1 (h : Apart u1 u2 v P1 P2 a1 r1 a2 r2) : Trk.fr v a1 = Trk.fr u1 a1 := by
 have q0 := h.h1.p0
 have q1 := h.h1.r0
 have q4 := h.s
 have t1 := Trk.total_nonneg h.h1.g
 rw [h.v.f _ q0, if_pos (by omega)]
theorem Apart.ne0 (h : Apart u1 u2 v P1 P2 a1 r1 a2 r2) : Trk.fr u1 a1 ≠ Trk.fr [longC] a1 := by
 have q1 := h.h1.r0
 have q3 := h.h1.e
 rw [long_fr (by omega)]
 exact h.h1.ne
theorem Apart.vl (h : Apart u1 u2 v P1 P2 a1 r1 a2 r2) : v ≠ [longC] := fun e => h.ne0 (by rw [← h.at1, e])
theorem Apart.both (h : Apart u1 u2 v P1 P2 a1 r1 a2 r2) {s t : List Trk.Clip} (hst : (s = u1 ∧ t = u2) ∨ (s = u2 ∧ t = u1)) {c : Int} {x : List Trk.Clip} (hm : MergeR [longC] s t c x) : c = 0 ∧ x = v := by
 obtain ⟨k1, k2, k3⟩ := both_merge h.h1 h.h2 (by have := h.l1; omega) (by have := h.l2; omega) h.z1 h.z2 h.s hst hm
 exact ⟨k1, both_same h.h1 h.h2 h.s k2 k3 h.v⟩
end
structure Both2 (t a v : List Trk.Clip) (U W : ByteArray) (d : Dc) : Prop where
 o : d.owner = ⟨#[]⟩
 n : d.name = docB
 r : d.revs = [⟨1, annB, 0, false, t⟩, ⟨2, U, 0, false, a⟩, ⟨3, W, 0, false, v⟩]
def CurIs (u : List Trk.Clip) (d : Dc) : Prop := ∃ r, curR d r ∧ r.t = u
theorem Both2.undo {t a v x : List Trk.Clip} {U W V : ByteArray} {d d' : Dc} {c : Int} (h : Both2 t a v U W d) (hUW : U ≠ W) (hV : (V = U ∧ ∀ c y, MergeR a v t c y → c = 0 ∧ y = x) ∨ (V = W ∧ ∀ c y, MergeR v v a c y → c = 0 ∧ y = x)) (hu : UndoR d V c d') : c = 0 ∧ CurIs x d' := by
 obtain ⟨nm, ow, tl, rs⟩ := d
 obtain ⟨ho, hn, hr⟩ := h
 dsimp only at ho hn hr
 subst ho hn hr
 have hopen : openB ⟨docB, ⟨#[]⟩, tl, [⟨1, annB, 0, false, t⟩, ⟨2, U, 0, false, a⟩, ⟨3, W, 0, false, v⟩]⟩ V 1 = decide (U = V) ∧ openB ⟨docB, ⟨#[]⟩, tl, [⟨1, annB, 0, false, t⟩, ⟨2, U, 0, false, a⟩, ⟨3, W, 0, false, v⟩]⟩ V 2 = decide (W = V) := by
  constructor <;> simp [openB, changedB]
 cases hu with
 | locked hh => exact absurd rfl hh.1
 | none _ hn =>
  exfalso
  have h1 := hn 1 (by omega)
  have h2 := hn 2 (by omega)
  rw [hopen.1] at h1
  rw [hopen.2] at h2
  rcases hV with ⟨rfl, -⟩ | ⟨rfl, -⟩
  ·simp at h1
  ·simp at h2
 | some _ j j0 j1 ho hn _ _ hr =>
  have hj : j = 1 ∨ j = 2 := by
   simp at j1
   omega
  rcases hj with rfl | rfl
  ·rw [hopen.1] at ho
   have hUV : U = V := of_decide_eq_true ho
   rcases hV with ⟨-, hm⟩ | ⟨rfl, -⟩
   ·cases hr with
    | full hf => simp at hf
    | fails _ cur r p hc hr' hp _ y hmm hz =>
     cases hc; cases hr'; cases hp
     exact absurd (hm _ _ hmm).1 hz
    | done _ cur r p hc hr' hp y hmm =>
     cases hc; cases hr'; cases hp
     obtain ⟨-, rfl⟩ := hm _ _ hmm
     exact ⟨rfl, _, rfl, rfl⟩
   ·exact absurd hUV hUW
  ·rw [hopen.2] at ho
   have hWV : W = V := of_decide_eq_true ho
   rcases hV with ⟨rfl, -⟩ | ⟨-, hm⟩
   ·exact absurd hWV.symm hUW
   ·cases hr with
    | full hf => simp at hf
    | fails _ cur r p hc hr' hp _ y hmm hz =>
     cases hc; cases hr'; cases hp
     exact absurd (hm _ _ hmm).1 hz
    | done _ cur r p hc hr' hp y hmm =>
     cases hc; cases hr'; cases hp
     obtain ⟨-, rfl⟩ := hm _ _ hmm
     exact ⟨rfl, _, rfl, rfl⟩
def Ers (w : World) (v : Value) (cs : List Int) : Prop := ∃ ao cap, v = .slice ao cs.length cap ∧ cs.length ≤ cap ∧ cap ≤ maxLen ∧ ∀ (i : Nat) (c : Int), cs[i]? = some c → ∃ b o, ao = some ⟨b, o, none⟩ ∧ w.cell? ⟨b, o + i, none⟩ = some (.int .i64 c)
theorem Ers.below {w w' : World} {v : Value} {cs : List Int} (h : Ers w v cs) (hb : Below w.heap.size w w') : Ers w' v cs := by
 obtain ⟨ao, cap, e, h1, h2, h3⟩ := h
 refine ⟨ao, cap, e, h1, h2, fun i c hi => ?_⟩
 obtain ⟨b, o, e2, hc⟩ := h3 i c hi
 exact ⟨b, o, e2, (hb.cell (p := ⟨b, o + i, none⟩) (block_lt_of_cell hc)).trans hc⟩
theorem Ers.of_row {w : World} {B n : Nat} {v : Value} {cs : List Int} (h : RowX w B 30 1 v n (cs.map fun c => .int .i64 c)) (hn : n = cs.length) : Ers w v cs := by
 subst hn
 rcases id h with ⟨rfl, h2, h3⟩ | ⟨g, cap, cur, rfl, -, -, h4, h5, -⟩
 ·have : cs = [] := by simpa using h3
  subst this
  exact ⟨none, 0, rfl, Nat.le_refl _, by unfold maxLen; omega, fun i c hi => by simp at hi⟩
 ·exact ⟨_, cap, rfl, h4, h5, fun i c hi => ⟨g, 0, rfl, by rw [Nat.zero_add]; exact h.cell (by rw [List.getElem?_map, hi]; rfl)⟩⟩
theorem range_box (w : World) (L : List Value) (T : TypeId) (o : Nat) (xs : List Value) (h : ∀ (j : Nat) u, xs[j]? = some u → L[o + j]? = some u) : (w.alloc (.cells L.toArray T)).rangeAt w.heap.size o xs := by
 intro j u hj
 unfold World.cell?
 rw [(MapKept.heap_alloc w _).1]
 simpa using h j u hj
theorem Ers.box (w : World) (cs : List Int) (hl : cs.length ≤ maxLen) : Ers (w.alloc (.cells (cs.map fun c => Value.int .i64 c).toArray 30)) (.slice (some ⟨w.heap.size, 0, none⟩) cs.length cs.length) cs := by
 refine ⟨_, _, rfl, Nat.le_refl _, hl, fun i c hi => ⟨_, 0, rfl, ?_⟩⟩
 exact range_box w _ 30 0 (cs.map fun c => Value.int .i64 c) (fun j u hj => by rw [Nat.zero_add]; exact hj) i _ (by rw [List.getElem?_map, hi]; rfl)
set_option maxRecDepth 100000 in
set_option maxHeartbeats 8000000 in
theorem errnos_self (v u : Value) (cs : List Int) (w : World) (h : Ers w v cs) (k : Ers w u cs) : Calls Tryz.prog 37 #[v, u] w fun e w' => e = .returned (.bool true) ∧ Below w.heap.size w w' := by
 have HV := Lib.hid h
 have HU := Lib.hid k
 obtain ⟨ao, cap, hv, hc1, hc2, -⟩ := h
 obtain ⟨bo, dap, hu, hd1, hd2, -⟩ := k
 obtain ⟨N, hN⟩ : ∃ N, N = cs.length := ⟨_, rfl⟩
 rw [← hN] at hv hu hc1
 have HN := Lib.hid hN
 have HNB := Lib.hid (show N ≤ 9223372036854775807 by unfold maxLen at hc2; omega)
 subst hv hu
 clear hN hc1 hc2 hd1 hd2
 go_enter Tryz.func37, Tryz.ntmps37
 go_wp2_with fail
 go_loopw [13] (fun i wr => ∃ k : Nat, k ≤ N ∧ i = .int .i64 (k : Int) ∧ Below w.heap.size w wr) (fun i _ => N - (intOf i).toNat)
 case atStart => exact ⟨0, Nat.zero_le _, rfl, Below.refl _ _⟩
 case round =>
  obtain ⟨k, hk, rfl, hb⟩ := hrel
  have HB := Lib.hid hb
  have HK := Lib.hid hk
  clear hb hk
  by_cases hlt : k < N
  ·obtain ⟨c, hc⟩ : ∃ c, cs[k]? = some c := ⟨_, List.getElem?_eq_getElem (by have := HN.out; omega)⟩
   have hlt' : (k : Int) < (N : Int) := by omega
   obtain ⟨ao2, cap2, e, -, -, hT⟩ := HV.out.below HB.out
   have e1 := HN.out
   simp only [Value.slice.injEq] at e
   obtain ⟨rfl, -, rfl⟩ := e
   obtain ⟨b, o, rfl, c1⟩ := hT k c hc
   obtain ⟨bo2, dap2, e, -, -, hT2⟩ := HU.out.below HB.out
   simp only [Value.slice.injEq] at e
   obtain ⟨rfl, -, rfl⟩ := e
   obtain ⟨b2, o2, rfl, c2⟩ := hT2 k c hc
   have HLT := Lib.hid hlt
   have hw9 : (k : Int) + 1 ≤ 9223372036854775807 := by have := HNB.out; omega
   have HW9 := Lib.hid hw9
   clear hT hT2 hc e1 hw9 hlt
   go_upto_region 6 with fail
   go_quiet (fail)
   clear c1 c2
   have hw9 := HW9.out
   go_wp2_with fail
   go_roundw
   case rel => exact ⟨k + 1, by have := HLT.out; omega, by simp, below_drewN HB.out nq⟩
   case measure =>
    have := HLT.out
    simp [intOf]
    omega
  ·have hkn : k = N := by have := HK.out; omega
   subst hkn
   go_wp2_with fail
   go_ret
   exact ⟨rfl, HB.out⟩
set_option maxRecDepth 100000 in
set_option maxHeartbeats 8000000 in
theorem current1_any (v : Value) (now : Int) (d : Dc) (r : Rv) (w : World) (h : Dcs w v [d]) (hl : 1 ≤ d.revs.length) (hr : curR d r) :
  Calls Tryz.prog 42 #[.agg #[.int .i64 now, v]] w fun e w' => ∃ tv, e = .returned tv ∧ Tk w' tv r.t ∧ Below w.heap.size w w' := by
 have HD := Lib.hid h
 obtain ⟨ao, cap, hv, hc1, hc2, hT⟩ := h
 obtain ⟨b, o, rv, rfl, hA, hR⟩ := hT 0 d rfl
 obtain ⟨ro, rcap, hrv, hr1, hr2, hRT⟩ := hR
 obtain ⟨b2, o2, tv, rfl, hA2, hTk⟩ := hRT _ r hr
 obtain ⟨M, hM⟩ : ∃ M, M = d.revs.length := ⟨_, rfl⟩
 rw [← hM] at hrv hr1 hA2 hl
 obtain ⟨k, hk⟩ : ∃ k, k = M - 1 := ⟨_, rfl⟩
 rw [← hk] at hA2
 subst hrv
 rw [show [d].length = 1 from rfl] at hv hc1
 subst hv
 rw [show o + 0 * 4 = o by omega] at hA
 obtain ⟨w1, hw1⟩ : ∃ y, y = w.alloc (.cells #[.int .i64 now, .slice (some ⟨b, o, none⟩) 1 cap] 55) := ⟨_, rfl⟩
 obtain ⟨g, hg⟩ : ∃ y, y = w.heap.size := ⟨_, rfl⟩
 have hb : Below w.heap.size w w1 := by rw [hw1]; exact below_box _ _
 have c1 : w1.cell? ⟨g, 1, none⟩ = some (.slice (some ⟨b, o, none⟩) 1 cap) := by rw [hw1, hg]; simp [go_sem]
 have HA := Lib.hid (rangeAt_below hA (by simp [docL]) hb)
 have HA2 := Lib.hid (rangeAt_below hA2 (by simp [revL]) hb)
 have HTK := Lib.hid (hTk.below hb)
 have HB := Lib.hid hb
 have HK := Lib.hid (show (M : Int) ≤ 9223372036854775807 ∧ (M : Int) - 1 = (k : Int) ∧ (k : Int) < (M : Int) ∧ ¬ ((k : Int) < 0) from ⟨by unfold maxLen at hr2; omega, by omega, by omega, by omega⟩)
 clear hA hA2 hTk hT hRT hc1 hc2 hr1 hr2 hM hr hl HD hk
 go_enter Tryz.func42, Tryz.ntmps42
 go_upto_region 1 with fail
 rw [← hw1, ← hg]
 clear hw1 hg hb
 have d3 := HA.out 3 _ rfl
 have r4 := HA2.out 4 _ rfl
 obtain ⟨hk, hq, hlt, hge⟩ := HK.out
 go_upto_region 3 with fail
 go_quiet (fail)
 go_wp2_with fail
 go_ret
 exact ⟨tv, rfl, HTK.out.below (below_drewN (Below.refl _ _) nq), below_drewN HB.out nq⟩
theorem one_of {now : Int} {d : Dc} {kind : Int} {u nm : ByteArray} {R : Dc → Int → Dc → Prop} {code now' : Int} {ds' : List Dc} {os : List Rpt} (h : OneR now [d] kind u nm R code now' ds' os) (hn : d.name = nm) :
  ∃ d', R d code d' ∧ (code ≠ 0 ∨ (code = 0 ∧ now' = now ∧ ds' = [d'])) := by
 cases h with
 | none hf =>
  exfalso
  generalize hz : (-1 : Int) = z at hf
  cases hf with
  | «at» i x => omega
  | none hf => exact hf 0 d rfl hn
 | fails i x hf hi _ d' hr hz =>
  obtain ⟨rfl, -⟩ := set_one (d' := d') hi
  exact ⟨d', hr, .inl hz⟩
 | done i x hf hi d' hr =>
  obtain ⟨rfl, h2⟩ := set_one (d' := d') hi
  exact ⟨d', hr, .inr ⟨rfl, rfl, h2⟩⟩
def OnePost (w : World) (c : Int) (P : Dc → Prop) (e : Ending) (w' : World) : Prop :=
 ∃ n a k cap ov d', e = .returned (.tuple #[.agg #[.int .i64 n, .slice a k cap], ov, .int .i64 c]) ∧ P d' ∧ (c = 0 → n = 0 ∧ k = 1 ∧ Dcs w' (.slice a k cap) [d']) ∧ Below w.heap.size w w'
section
variable {L : Int} {v : Value} {d : Dc} {w : World}
theorem one_post {w' : World} {kind : Int} {u nm : ByteArray} {R : Dc → Int → Dc → Prop} {e : Ending} (h : StepPost w (OneR 0 [d] kind u nm R) e w') (hn : d.name = nm) {c : Int} {P : Dc → Prop} (hR : ∀ code d', R d code d' → code = c ∧ P d') : OnePost w c P e w' := by
 obtain ⟨code, now, v', ov, ds, os, rfl, hr, hd, -, hb⟩ := h
 obtain ⟨d', hrr, hx⟩ := one_of hr hn
 obtain ⟨rfl, hp⟩ := hR _ _ hrr
 obtain ⟨sa, sc, rfl, -⟩ := id hd
 refine ⟨now, sa, _, sc, ov, d', rfl, hp, fun hz => ?_, hb⟩
 rcases hx with h | ⟨-, rfl, rfl⟩
 ·exact absurd hz h
 ·exact ⟨rfl, rfl, hd⟩
theorem cur_any {now : Int} {x : List Trk.Clip} (hv : Dcs w v [d]) (hd : DocOK L 0 d) (hc : ∃ r, curR d r ∧ r.t = x) :
  Calls Tryz.prog 42 #[.agg #[.int .i64 now, v]] w fun e w' => ∃ tv, e = .returned tv ∧ Tk w' tv x ∧ Below w.heap.size w w' := by
 obtain ⟨r, h1, rfl⟩ := hc
 exact current1_any v now d r w hv hd.l0 h1
end
end Go.Proofs.YtfoohocgdcgbcaaGreat
