/- Texts of this claim joined: NF NG NH NK NL NJ NT NU. -/
import Derived.OwnWalk
import Derived.Handy
import Derived.Test.YtfoohocgdcgbcaaGreatHb16
set_option linter.unusedVariables false
set_option linter.unusedSimpArgs false
namespace Go.Proofs.YtfoohocgdcgbcaaGreat
open Go.RowKit
set_option maxRecDepth 100000 in
theorem built_doc (d : Dc) (t : Value) : Tryz.prog.builtSlice 65 1 [(0, .agg (docL d t).toArray)] = some (docL d t).toArray := by kernel_rfl
theorem OT.tsr {w : World} {B : Nat} {v : Value} {l : List Trk.Clip} (h : OT w B v l) : TS (fun b => B ≤ b ∧ b < w.heap.size) w v l := by
 intro w' ha
 have h' := h
 rcases h with ⟨rfl, hl, he⟩ | ⟨b, cap, cur, rfl, hB, hb, _⟩
 ·exact OT.tk (w := w') (B := B) (.inl ⟨rfl, hl, he⟩)
 ·exact OT.tk (w := w') (B := B) (RowX.blk h' (ha b ⟨hB, (Array.getElem?_eq_some_iff.1 hb).1⟩))
def madeD (u nm : ByteArray) (t : List Trk.Clip) : Dc := ⟨nm, ⟨#[]⟩, 0, [⟨1, u, 0, false, Trk.nf t⟩]⟩
def FirstR (now : Int) (u nm : ByteArray) (t : List Trk.Clip) (code now' : Int) (ds : List Dc) (os : List Rpt) : Prop := code = 0 ∧ now' = now ∧ ds = [madeD u nm t] ∧ os = [⟨1, u, nm, 0⟩]
set_option maxRecDepth 100000 in
set_option maxHeartbeats 16000000 in
theorem step_create0 {L : Int} (now : Int) (u nm : ByteArray) (ta : Option Addr) (tn tc : Nat) (t : List Trk.Clip) (w : World) (ht : Tk w (.slice ta tn tc) t) (Vt : VT L t) (hL : L ≤ 140737488355328) :
  Calls Tryz.prog 63 #[.agg #[.int .i64 now, .slice none 0 0], .iface 144 (.agg #[.int .i64 1, .string u, .string nm, .slice ta tn tc])] w (StepPost w (FirstR now u nm t)) := by
 have HTK := Lib.hid ht
 have NO := Lib.hid (fun w (h : Tk w (.slice ta tn tc) t) => normal_any _ t w h Vt hL)
 clear ht Vt
 have m154 := ta_miss154 144 (by decide)
 have m144 := ta_hit144
 have maddr := ta_addr144
 go_enter Tryz.func63, Tryz.ntmps63
 go_upto_region 1 with fail
 obtain ⟨w1, hw1⟩ : ∃ y, y = (w.alloc (.cells #[.int .i64 now, .slice none 0 0] 55)).alloc (.cells #[.int .i64 0, .slice none 0 0] 55) := ⟨_, rfl⟩
 obtain ⟨b1, hb1⟩ : ∃ y, y = w.heap.size := ⟨_, rfl⟩
 obtain ⟨b2, hb2⟩ : ∃ y, y = w.heap.size + 1 := ⟨_, rfl⟩
 have hb : Below w.heap.size w w1 := by rw [hw1]; exact ((Below.refl _ _).alloc (Nat.le_refl _) _).alloc (by simp [go_sem]) _
 have HCB := Lib.hid (show CB w1 b1 b2 now (.slice none 0 0) by
  rw [hw1, hb1, hb2]
  refine ⟨by simp [go_sem], by simp [go_sem], by simp [go_sem], by simp [go_sem], by simp [go_sem], by simp [go_sem], by simp [go_sem], #[.int .i64 0, .slice none 0 0], rfl, ?_⟩
  have := (MapKept.heap_alloc (w.alloc (.cells #[.int .i64 now, .slice none 0 0] 55)) (.cells #[.int .i64 0, .slice none 0 0] 55)).1
  simpa using this)
 have HNE := Lib.hid (show b1 ≠ b2 ∧ b1 < w1.heap.size ∧ b2 < w1.heap.size ∧ w.heap.size ≤ b1 ∧ w.heap.size ≤ b2 from ⟨by omega, block_lt_of_cell HCB.out.c0, block_lt_of_cell HCB.out.e0, by omega, by omega⟩)
 rw [← hw1, ← hb2, ← hb1]
 have HB := Lib.hid hb
 clear hw1 hb1 hb2 hb
 obtain ⟨k0, k1, k2, k3, k4, k5, k6, -⟩ := HCB.out
 go_wp2_with fail
 refine (docs_nil w1).mono ?_
 rintro e w2 ⟨rfl, rfl⟩
 go_upto_region 2 with fail
 clear k0 k1 k2 k3 k4 k5 k6
 replace HCB := Lib.hid (HCB.out.put HNE.out.1 (.slice none 0 0))
 replace HB := Lib.hid (below_setCells b1 HNE.out.2.2.2.1 [.slice none 0 0] 1 _ HB.out)
 simp only [World.setCells] at HB
 replace HNE := Lib.hid (show b1 ≠ b2 ∧ b1 < (w2.setCell ⟨b1, 1, none⟩ (.slice none 0 0)).heap.size ∧ b2 < (w2.setCell ⟨b1, 1, none⟩ (.slice none 0 0)).heap.size ∧ w.heap.size ≤ b1 ∧ w.heap.size ≤ b2 from ⟨HNE.out.1, by simpa [World.setCell] using HNE.out.2.1, by simpa [World.setCell] using HNE.out.2.2.1, HNE.out.2.2.2⟩)
 obtain ⟨w3, hw3⟩ : ∃ y, y = w2.setCell ⟨b1, 1, none⟩ (.slice none 0 0) := ⟨_, rfl⟩
 rw [← hw3] at HCB HB HNE ⊢
 clear hw3
 go_upto_region 9 with fail
 have hba : Below w3.heap.size w3 (w3.alloc (.cells #[.int .i64 0] 154)) := below_box _ _
 obtain ⟨w4, hw4⟩ : ∃ y, y = w3.alloc (.cells #[.int .i64 0] 154) := ⟨_, rfl⟩
 rw [← hw4] at hba ⊢
 clear hw4
 rw [take4]
 refine (address_any 1 u nm w4).mono ?_
 rintro e w5 ⟨rfl, hb⟩
 replace hb := hba.trans (hb.mono hba.size)
 replace HCB := Lib.hid (HCB.out.below hb)
 replace HB := Lib.hid (HB.out.trans (hb.mono HB.out.size))
 clear hb hba
 go_upto_region 9 with fail
 obtain ⟨w6, hw6⟩ : ∃ y, y = w5.alloc (.cells #[.int .i64 1, .string u, .string nm] 142) := ⟨_, rfl⟩
 obtain ⟨b11, hb11⟩ : ∃ y, y = w5.heap.size := ⟨_, rfl⟩
 have hb : Below w5.heap.size w5 w6 := by rw [hw6]; exact below_box _ _
 have HT := Lib.hid (show TG w6 b11 1 u nm by rw [hw6, hb11]; exact ⟨by simp [go_sem], by simp [go_sem], by simp [go_sem]⟩)
 have HNT := Lib.hid (show b11 ≠ b2 ∧ b11 ≠ b1 from ⟨by have := block_lt_of_cell HCB.out.e0; dsimp only at this; omega, by have := block_lt_of_cell HCB.out.c0; dsimp only at this; omega⟩)
 rw [← hw6, ← hb11]
 replace HCB := Lib.hid (HCB.out.below hb)
 replace HB := Lib.hid (HB.out.trans (hb.mono HB.out.size))
 clear hb hw6 hb11
 obtain ⟨k0, k1, k2, k3, k4, k5, k6, -⟩ := HCB.out
 obtain ⟨t0, t1, t2⟩ := HT.out
 go_wp2_with fail
 refine (find_none nm now w6).mono ?_
 rintro e w7 ⟨rfl, hb⟩
 replace HCB := Lib.hid (HCB.out.below hb)
 replace HT := Lib.hid (HT.out.below hb)
 replace HB := Lib.hid (HB.out.trans (hb.mono HB.out.size))
 clear k0 k1 k2 k3 k4 k5 k6 t0 t1 t2 hb
 go_upto_region 11 with fail
 obtain ⟨w8, hw8⟩ : ∃ y, y = w7.alloc (.cells #[.int .i64 1, .string u, .string nm, .slice ta tn tc] 144) := ⟨_, rfl⟩
 obtain ⟨b13, hb13⟩ : ∃ y, y = w7.heap.size := ⟨_, rfl⟩
 have hb : Below w7.heap.size w7 w8 := by rw [hw8]; exact below_box _ _
 have c3 : w8.cell? ⟨b13, 3, none⟩ = some (.slice ta tn tc) := by rw [hw8, hb13]; simp [go_sem]
 have HC3 := Lib.hid c3
 rw [← hw8, ← hb13]
 replace HCB := Lib.hid (HCB.out.below hb)
 replace HT := Lib.hid (HT.out.below hb)
 replace HB := Lib.hid (HB.out.trans (hb.mono HB.out.size))
 replace HTK := Lib.hid (HTK.out.below HB.out)
 clear hb hw8 hb13 c3 m154 m144 maddr
 obtain ⟨k0, k1, k2, k3, k4, k5, k6, -⟩ := HCB.out
 go_upto_region 16 with fail
 clear k0 k1 k2 k3 k4 k5 k6
 go_cut [15] from 62 to 67 (fun v15 wx => ∃ (b : Nat) (x : Value), v15 = .pointer (some ⟨b, 0, none⟩) ∧ Below w8.heap.size w8 wx ∧ w8.heap.size ≤ b ∧ OT wx w8.heap.size x (Trk.nf t) ∧ wx.rangeAt b 0 (revL ⟨1, u, 0, false, Trk.nf t⟩ x))
 case first =>
  obtain ⟨t0, t1, t2⟩ := HT.out
  have c3 := HC3.out
  have hS0 : Below w8.heap.size w8 w8.drew := (Below.refl _ _).drew
  refine Plan.wp_region_tree (fun w' => Below w8.heap.size w8 w') (.run ([0, 1, 2, 3].map (·, true)) (.fork 4 (.run ([5].map (·, true) ++ [6, 7].map (·, false)) .leaf) 6 (.run ([4].map (·, false) ++ ([5].map (·, true) ++ [7].map (·, false))) .leaf))) (by kernel_rfl) (by kernel_rfl) (by kernel_rfl) hS0 ?_
  refine Plan.tree_run ?_
  refine' Plan.plan_seg _ [0, 1, 2, 3] [] (by kernel_rfl) (by kernel_rfl) rfl (by exact hS0) (fun wx hS => ?_) ?_
  rotate_left
  ·have t := HT.out.below hS
   obtain ⟨t0, t1, t2⟩ := t
   have c3 := (hS.cell (p := ⟨b13, 3, none⟩) (block_lt_of_cell HC3.out)).trans HC3.out
   clear hS
   go_light
   iterate 4 (apply Plan.seg_pick; rfl; intro K hK; go_wp)
   exact Plan.seg_nil
  refine Plan.plan_nil ?_
  obtain ⟨w9, hw9⟩ : ∃ x, x = w8.drew := ⟨_, rfl⟩
  rw [← hw9] at hS0 ⊢
  have HS0 := Lib.hid hS0
  clear hw9 t0 t1 t2 c3 hS0
  refine Plan.tree_fork ?_ ?_
  ·refine Plan.op_of_list rfl (fun K hK => ?_)
   go_wp2_with fail
   refine (NO.out _ (HTK.out.below HS0.out)).mono ?_
   rintro e w10 ⟨xv, rfl, ho, hb⟩
   obtain ⟨xa, xc, hxv, -⟩ := ho.tk
   obtain ⟨xn, hxn⟩ : ∃ n, n = (Trk.nf t).length := ⟨_, rfl⟩
   rw [← hxn] at hxv
   subst hxv
   have HO := Lib.hid (ho.lower HS0.out.size)
   replace HS0 := Lib.hid (HS0.out.trans (hb.mono HS0.out.size))
   clear ho hb hxn
   go_wp2_with fail
   refine ⟨HS0.out, ?_⟩
   refine Plan.tree_run ?_
   refine' Plan.plan_seg _ [5] [(6, false), (7, false)] (by kernel_rfl) (by kernel_rfl) rfl (by exact HS0.out) (fun wx hS => ?_) ?_
   rotate_left
   ·clear hS
    go_light
    iterate 1 (apply Plan.seg_pick; rfl; intro K hK; go_wp)
    exact Plan.seg_nil
   refine Plan.plan_of_effect rfl (fun K hK => ?_)
   go_wp2_with fail
   refine ⟨HS0.out.alloc HS0.out.size _, ?_⟩
   refine Plan.plan_of_effect rfl (fun K hK => ?_)
   go_wp2_with fail
   refine ⟨HS0.out.alloc HS0.out.size _, ?_⟩
   refine Plan.plan_nil ?_
   refine Plan.tree_leaf ?_
   have hob := HO.out.below (below_box w10 (.cells #[.int .i64 1, .string u, .int .i64 0, .bool false, .slice xa xn xc] 67))
   go_wp2_with fail
   go_meet
   case rel =>
    refine ⟨w10.heap.size, .slice xa xn xc, rfl, HS0.out.alloc HS0.out.size _, HS0.out.size, hob, fun j v hj => ?_⟩
    unfold World.cell?
    rw [(MapKept.heap_alloc w10 _).1]
    simpa [revL] using hj
  ·refine Plan.op_of_list rfl (fun K hK => ?_)
   go_wp2_with fail
   refine ⟨HS0.out.alloc HS0.out.size _, ?_⟩
   obtain ⟨w10, hw10⟩ : ∃ y, y = w9.alloc (.cells #[.int .i64 0, .string ⟨#[]⟩, .int .i64 0, .bool false, .slice none 0 0] 67) := ⟨_, rfl⟩
   obtain ⟨b15, hb15⟩ : ∃ y, y = w9.heap.size := ⟨_, rfl⟩
   have hb : Below w9.heap.size w9 w10 := by rw [hw10]; exact below_box _ _
   have r0 : w10.cell? ⟨b15, 0, none⟩ = some (.int .i64 0) := by rw [hw10, hb15]; simp [go_sem]
   have r1 : w10.cell? ⟨b15, 1, none⟩ = some (.string ⟨#[]⟩) := by rw [hw10, hb15]; simp [go_sem]
   have r2 : w10.cell? ⟨b15, 2, none⟩ = some (.int .i64 0) := by rw [hw10, hb15]; simp [go_sem]
   have r3 : w10.cell? ⟨b15, 3, none⟩ = some (.bool false) := by rw [hw10, hb15]; simp [go_sem]
   have r4 : w10.cell? ⟨b15, 4, none⟩ = some (.slice none 0 0) := by rw [hw10, hb15]; simp [go_sem]
   have rf : ∀ o, w10.frozen? ⟨b15, o, none⟩ = false := fun o => by rw [hw10, hb15]; simp [go_sem]
   have HBL := Lib.hid (show w8.heap.size ≤ b15 by rw [hb15]; exact HS0.out.size)
   rw [← hw10, ← hb15]
   replace HS0 := Lib.hid (HS0.out.trans (hb.mono HS0.out.size))
   clear hb hw10 hb15
   refine Plan.tree_run ?_
   refine Plan.plan_of_effect rfl (fun K hK => ?_)
   have HR := Lib.hid (And.intro r0 (And.intro r1 (And.intro r2 (And.intro r3 (And.intro r4 rf)))))
   clear r0 r1 r2 r3 r4 rf
   go_wp2_with fail
   refine (NO.out _ (HTK.out.below HS0.out)).mono ?_
   rintro e w12 ⟨xv, rfl, ho, hb⟩
   obtain ⟨xa, xc, hxv, -⟩ := ho.tk
   obtain ⟨xn, hxn⟩ : ∃ n, n = (Trk.nf t).length := ⟨_, rfl⟩
   rw [← hxn] at hxv
   subst hxv
   have hbl := block_lt_of_cell HR.out.1
   dsimp only at hbl
   have HO := Lib.hid (((((ho.far (p := ⟨b15, 0, none⟩) hbl (.int .i64 1)).far (p := ⟨b15, 1, none⟩) hbl (.string u)).far (p := ⟨b15, 2, none⟩) hbl (.int .i64 0)).far (p := ⟨b15, 3, none⟩) hbl (.bool false)).far (p := ⟨b15, 4, none⟩) hbl (.slice xa xn xc))
   obtain ⟨r0, r1, r2, r3, r4, rf⟩ := HR.out
   replace r0 := (hb.cell (p := ⟨b15, 0, none⟩) hbl).trans r0
   replace r1 := (hb.cell (p := ⟨b15, 1, none⟩) hbl).trans r1
   replace r2 := (hb.cell (p := ⟨b15, 2, none⟩) hbl).trans r2
   replace r3 := (hb.cell (p := ⟨b15, 3, none⟩) hbl).trans r3
   replace r4 := (hb.cell (p := ⟨b15, 4, none⟩) hbl).trans r4
   replace rf : ∀ o, w12.frozen? ⟨b15, o, none⟩ = false := fun o => (hb.frozen (p := ⟨b15, o, none⟩) hbl).trans (rf o)
   have HR2 := Lib.hid (And.intro r0 (And.intro r1 (And.intro r2 (And.intro r3 (And.intro r4 rf)))))
   replace HO := Lib.hid (HO.out.lower HS0.out.size)
   replace HS0 := Lib.hid (HS0.out.trans (hb.mono HS0.out.size))
   clear ho hb hxn hbl HR r0 r1 r2 r3 r4 rf
   go_wp2_with fail
   refine ⟨HS0.out, ?_⟩
   refine' Plan.plan_seg _ [5] [(7, false)] (by kernel_rfl) (by kernel_rfl) rfl (by exact HS0.out) (fun wx hS => ?_) ?_
   rotate_left
   ·clear hS
    go_light
    iterate 1 (apply Plan.seg_pick; rfl; intro K hK; go_wp)
    exact Plan.seg_nil
   refine Plan.plan_of_effect rfl (fun K hK => ?_)
   obtain ⟨r0, r1, r2, r3, r4, rf⟩ := HR2.out
   go_wp2_with fail
   have hbf := below_setCells b15 HBL.out [.int .i64 1, .string u, .int .i64 0, .bool false, .slice xa xn xc] 0 _ HS0.out
   simp only [World.setCells, Nat.zero_add, Nat.reduceAdd] at hbf
   refine ⟨hbf, ?_⟩
   refine Plan.plan_nil ?_
   refine Plan.tree_leaf ?_
   have hra : (((((w12.setCell ⟨b15, 0, none⟩ (.int .i64 1)).setCell ⟨b15, 1, none⟩ (.string u)).setCell ⟨b15, 2, none⟩ (.int .i64 0)).setCell ⟨b15, 3, none⟩ (.bool false)).setCell ⟨b15, 4, none⟩ (.slice xa xn xc)).rangeAt b15 0 (revL ⟨1, u, 0, false, Trk.nf t⟩ (.slice xa xn xc)) := by
    apply rev_put (x := .slice none 0 0) <;> simp [go_sem, r0, r1, r2, r3, r4, rf]
   obtain ⟨wf, hwf⟩ : ∃ x, x = ((((w12.setCell ⟨b15, 0, none⟩ (.int .i64 1)).setCell ⟨b15, 1, none⟩ (.string u)).setCell ⟨b15, 2, none⟩ (.int .i64 0)).setCell ⟨b15, 3, none⟩ (.bool false)).setCell ⟨b15, 4, none⟩ (.slice xa xn xc) := ⟨_, rfl⟩
   rw [← hwf] at hra hbf HO ⊢
   clear hwf r0 r1 r2 r3 r4 rf
   go_wp2_with fail
   go_meet
   case rel => exact ⟨b15, .slice xa xn xc, rfl, hbf, HBL.out, HO.out, hra⟩
 case rest =>
 obtain ⟨b15, xv, rfl, hb, hb15, hox, hrc⟩ := hcut
 obtain ⟨xa, xc, hxv, -⟩ := hox.tk
 obtain ⟨xn, hxn⟩ : ∃ n, n = (Trk.nf t).length := ⟨_, rfl⟩
 rw [← hxn] at hxv
 subst hxv
 have HOX := Lib.hid hox
 have HRC := Lib.hid hrc
 have HL8 := Lib.hid (show b1 < w8.heap.size ∧ b2 < w8.heap.size ∧ b11 < w8.heap.size from ⟨block_lt_of_cell HCB.out.c0, block_lt_of_cell HCB.out.e0, block_lt_of_cell HT.out.c0⟩)
 replace HCB := Lib.hid (HCB.out.below hb)
 replace HT := Lib.hid (HT.out.below hb)
 have HS8 := Lib.hid (show w8.heap.size ≤ wc.heap.size from hb.size)
 replace HB := Lib.hid (HB.out.trans (hb.mono HB.out.size))
 clear hb hox hrc hxn
 obtain ⟨k0, k1, k2, k3, k4, k5, k6, -⟩ := HCB.out
 obtain ⟨t0, t1, t2⟩ := HT.out
 go_upto_region 18 with fail
 apply wp_region_lit
 iterate 12 go_step
 refine wpl_loadR HRC.out rfl rfl rfl ?_
 simp only [Act.put, List.setIfInBounds_toArray, List.set_cons_succ, List.set_cons_zero]
 obtain ⟨R, hR⟩ : ∃ R : Rv, R = ⟨1, u, 0, false, Trk.nf t⟩ := ⟨_, rfl⟩
 have HRE := Lib.hid hR
 rw [← hR]
 clear hR
 refine Great.wpList_buildSliceTo rfl 63 67 1 #[(0, .tmp 75)] rfl wc.heap.size rfl (some 76) rfl Tryz.underlying63 (revL R (.slice xa xn xc)).toArray ?_ ?_
 ·simp only [List.map_toArray, List.map_cons, List.map_nil, List.toList_toArray]
  exact built_rev R (.slice xa xn xc)
 obtain ⟨x1, hx1⟩ : ∃ y, y = wc.alloc (.cells (revL R (.slice xa xn xc)).toArray 67) := ⟨_, rfl⟩
 obtain ⟨q, hq⟩ : ∃ y, y = wc.heap.size := ⟨_, rfl⟩
 have hb1 : Below wc.heap.size wc x1 := by rw [hx1]; exact below_box _ _
 have hrow : RowX x1 q 67 5 (.slice (some ⟨q, 0, none⟩) 1 1) 1 (revL R (.slice xa xn xc)) := by
  rw [hx1, hq]
  exact .inr ⟨wc.heap.size, 1, (revL R (.slice xa xn xc)).toArray, rfl, Nat.le_refl _, (MapKept.heap_alloc wc _).1, Nat.le_refl _, by unfold maxLen; omega, rfl, rfl, rfl⟩
 rw [← hx1, ← hq]
 have HROW := Lib.hid hrow
 have HQQ := Lib.hid hq
 have HQX := Lib.hid (show q < x1.heap.size from hrow.lt.2.1)
 clear hx1 hrow hq
 simp only [Act.put, List.setIfInBounds_toArray, List.set_cons_succ, List.set_cons_zero]
 iterate 3 go_step
 obtain ⟨D, hD⟩ : ∃ D : Dc, D = ⟨nm, ⟨#[]⟩, 0, [R]⟩ := ⟨_, rfl⟩
 refine Great.wpList_buildSliceTo rfl 53 65 1 #[(0, .tmp 77)] rfl x1.heap.size rfl (some 78) rfl Tryz.underlying53 (docL D (.slice (some ⟨q, 0, none⟩) 1 1)).toArray ?_ ?_
 ·simp only [List.map_toArray, List.map_cons, List.map_nil, List.toList_toArray]
  rw [hD]
  exact built_doc ⟨nm, ⟨#[]⟩, 0, [R]⟩ (.slice (some ⟨q, 0, none⟩) 1 1)
 obtain ⟨x2, hx2⟩ : ∃ y, y = x1.alloc (.cells (docL D (.slice (some ⟨q, 0, none⟩) 1 1)).toArray 65) := ⟨_, rfl⟩
 obtain ⟨bd, hbd⟩ : ∃ y, y = x1.heap.size := ⟨_, rfl⟩
 have hb2 : Below x1.heap.size x1 x2 := by rw [hx2]; exact below_box _ _
 have hcd : ∀ j v, (docL D (.slice (some ⟨q, 0, none⟩) 1 1))[j]? = some v → x2.cell? ((⟨bd, 0, none⟩ : Addr).add j) = some v := by
  intro j v hj
  rw [Addr.add_mid, Nat.zero_add, hx2, hbd]
  unfold World.cell?
  rw [(MapKept.heap_alloc x1 _).1]
  simpa using hj
 rw [← hx2, ← hbd]
 clear hx2 hbd
 simp only [Act.put, List.setIfInBounds_toArray, List.set_cons_succ, List.set_cons_zero]
 obtain ⟨v', x3, hrun, a1, a2, a3, a4, a5⟩ := append_x x2 x2.heap.size 53 65 4 64 z65 Tryz.underlying53 info65 zeros65 (.slice none 0 0) 0 [] (.inl ⟨rfl, rfl, rfl⟩) (Nat.le_refl _) ⟨bd, 0, none⟩ 1 1 (docL D (.slice (some ⟨q, 0, none⟩) 1 1)) rfl hcd (docL_one rfl) (by omega) (by unfold maxLen; omega) (fun cap h1 h2 => growslice_fits h2 (by omega))
 rw [Nat.zero_add, List.nil_append] at a1
 obtain ⟨g, cap, rfl⟩ : ∃ g cap, v' = .slice (some ⟨g, 0, none⟩) 1 cap := by
  rcases a1 with ⟨_, e2, _⟩ | ⟨g', cap', cur, e, _⟩
  ·omega
  ·exact ⟨_, _, e⟩
 have HDR := Lib.hid a1
 have HW1 := Lib.hid hb1
 have HW2 := Lib.hid hb2
 have HW3 := Lib.hid a2
 clear a1 a2 a3 a4 a5 hcd hb1 hb2
 refine Lib.wpList_append_run (P := Tryz.prog) x2 rfl (.tmp 72) (.tmp 78) 53 53 rfl (.slice none 0 0) (.slice (some ⟨bd, 0, none⟩) 1 1) rfl rfl _ _ hrun ?_
 clear hrun
 simp only [Act.put, List.setIfInBounds_toArray, List.set_cons_succ, List.set_cons_zero]
 have HWC := Lib.hid (show Below wc.heap.size wc x3 from HW1.out.trans ((HW2.out.mono HW1.out.size).trans (HW3.out.mono (Nat.le_trans HW1.out.size HW2.out.size))))
 replace HCB := Lib.hid (HCB.out.below HWC.out)
 replace HT := Lib.hid (HT.out.below HWC.out)
 replace HROW := Lib.hid ((HROW.out.below HW2.out).below HW3.out)
 clear k0 k1 k2 k3 k4 k5 k6 t0 t1 t2
 obtain ⟨k0, k1, k2, k3, k4, k5, k6, -⟩ := HCB.out
 have HSZ := Lib.hid (show wc.heap.size ≤ x1.heap.size ∧ x1.heap.size ≤ x2.heap.size ∧ x2.heap.size ≤ x3.heap.size from ⟨HW1.out.size, HW2.out.size, HW3.out.size⟩)
 have HGQ := Lib.hid (show x2.heap.size ≤ g ∧ q < x1.heap.size from ⟨HDR.out.lt.1, HQX.out⟩)
 go_upto_region 24 with fail
 obtain ⟨w10, hw10⟩ : ∃ y, y = x3.setCell ⟨b1, 1, none⟩ (.slice (some ⟨g, 0, none⟩) 1 cap) := ⟨_, rfl⟩
 clear k0 k1 k2 k3 k4 k5 k6
 have hsz10 : w10.heap.size = x3.heap.size := by rw [hw10]; simp [World.setCell]
 have hoth : ∀ b, b ≠ b1 → w10.heap[b]? = x3.heap[b]? := fun b hb => by rw [hw10]; exact setCells_other b1 b hb [_] 1 x3
 have h1 := HL8.out
 have h2 := HS8.out
 have h3 := HSZ.out
 have h4 := HGQ.out
 have h5 := HQQ.out
 have h6 := HDR.out.lt
 replace HB := Lib.hid (show Below w.heap.size w w10 by
  have := below_setCells b1 HNE.out.2.2.2.1 [.slice (some ⟨g, 0, none⟩) 1 cap] 1 _ (HB.out.trans (HWC.out.mono HB.out.size))
  rw [hw10]
  simpa only [World.setCells] using this)
 replace HT := Lib.hid (HT.out.same (hoth b11 HNT.out.2))
 replace HCB := Lib.hid (show CB w10 b1 b2 now (.slice (some ⟨g, 0, none⟩) 1 cap) by rw [hw10]; exact HCB.out.put HNE.out.1 _)
 have hRt : R.t = Trk.nf t := by rw [HRE.out]
 have hts : TS (fun b => b < w10.heap.size ∧ b ≠ g ∧ b ≠ q) w10 (.slice xa xn xc) R.t := by
  rw [hRt]
  refine (HOX.out.tsr.on (w' := w10) fun b hb => ?_).mono fun b hb => ⟨by omega, by omega, by omega⟩
  exact (hoth b (by omega)).trans (HWC.out.block b hb.2)
 have hoq : OQ w10 q 1 g [R] := by
  refine ⟨by omega, [.slice xa xn xc], rfl, ?_, fun i r v hr hv => ?_⟩
  ·have := HROW.out.blk (hoth q (by omega))
   simpa [flatC] using this
  ·cases i with
   | zero =>
    obtain rfl := Option.some.inj hr
    obtain rfl := Option.some.inj hv
    exact hts
   | succ i => simp at hr
 have hdx : DX w10 g cap w10.heap.size [D] := by
  refine ⟨Nat.le_refl _, [.slice (some ⟨q, 0, none⟩) 1 1], rfl, ?_, fun i d v hd hv => ?_⟩
  ·have := (HDR.out.blk (hoth g (by omega))).raise
   simpa [flatC] using this
  ·cases i with
   | zero =>
    obtain rfl := Option.some.inj hd
    obtain rfl := Option.some.inj hv
    rw [hD]
    exact hoq.rs
   | succ i => simp at hd
 have d3 : w10.cell? ⟨g, 3, none⟩ = some (.slice (some ⟨q, 0, none⟩) 1 1) := by
  obtain ⟨rv, hcd, -⟩ := hdx.doc (i := 0) rfl
  have e3 := (HDR.out.blk (hoth g (by omega))).cell (j := 3) (u := .slice (some ⟨q, 0, none⟩) 1 1) rfl
  exact e3
 have HDX2 := Lib.hid hdx
 have HGL := Lib.hid (hdx.lt.1)
 have HD3 := Lib.hid d3
 have HG := Lib.hid (show b1 ≠ g ∧ b2 ≠ g ∧ True from ⟨by omega, by omega, trivial⟩)
 rw [← hw10]
 clear hw10 hsz10 hoth h1 h2 h3 h4 h5 h6 hts hoq hdx d3 hRt
 have hS0 : ∀ b, b < w10.heap.size → b ≠ b2 → w10.drew.heap[b]? = w10.heap[b]? := fun b _ _ => rfl
 refine Plan.wp_region_tree (fun w' => ∀ b, b < w10.heap.size → b ≠ b2 → w'.heap[b]? = w10.heap[b]?) (.run ([0, 1, 2, 3, 4, 5, 6, 7, 8, 9, 10, 11, 12, 13, 14, 15].map (·, true)) (.fork 16 (.run ([17].map (·, false) ++ [18, 19].map (·, true)) .leaf) 17 (.run ([16].map (·, false) ++ [18, 19].map (·, true)) .leaf))) (by kernel_rfl) (by kernel_rfl) (by kernel_rfl) hS0 ?_
 refine Plan.tree_run ?_
 refine' Plan.plan_seg _ [0, 1, 2, 3, 4, 5, 6, 7, 8, 9, 10, 11, 12, 13, 14, 15] [] (by kernel_rfl) (by kernel_rfl) rfl (by exact hS0) (fun wx hS => ?_) ?_
 rotate_left
 ·have t := HT.out.same (hS b11 (block_lt_of_cell HT.out.c0) HNT.out.1)
  obtain ⟨t0, t1, t2⟩ := t
  have k0 := (World.cell?_of_block (a := ⟨b1, 0, none⟩) (hS b1 (block_lt_of_cell HCB.out.c0) HNE.out.1)).trans HCB.out.c0
  have k1 := (World.cell?_of_block (a := ⟨b1, 1, none⟩) (hS b1 (block_lt_of_cell HCB.out.c0) HNE.out.1)).trans HCB.out.c1
  have d3 := (World.cell?_of_block (a := ⟨g, 3, none⟩) (hS g HGL.out (Ne.symm HG.out.2.1))).trans HD3.out
  go_light
  iterate 16 (apply Plan.seg_pick; rfl; intro K hK; go_wp)
  exact Plan.seg_nil
 refine Plan.plan_nil ?_
 obtain ⟨w11, hw11⟩ : ∃ x, x = w10.drew := ⟨_, rfl⟩
 have hb : Below w10.heap.size w10 w11 := by rw [hw11]; exact (Below.refl _ _).drew
 rw [← hw11] at hS0 ⊢
 replace HDX2 := Lib.hid (HDX2.out.below hb)
 replace HCB := Lib.hid (HCB.out.below hb)
 replace HB := Lib.hid (HB.out.trans (hb.mono HB.out.size))
 have HS0 := Lib.hid hS0
 have HLN := Lib.hid (show [D].length = 1 from rfl)
 clear hb hw11 hS0 HD3
 obtain ⟨O, hO⟩ : ∃ O : Rpt, O = ⟨1, u, nm, 0⟩ := ⟨_, rfl⟩
 have HO := Lib.hid hO
 have hOL : (outL O).toArray = #[.int .i64 1, .string u, .string nm, .int .i64 0] := by rw [hO]; rfl
 have HOL := Lib.hid hOL
 have hRD : FirstR now u nm t 0 now [D] [O] := by rw [hO, hD, HRE.out]; exact ⟨rfl, rfl, rfl, rfl⟩
 have HRD := Lib.hid hRD
 clear hO hOL hRD
 have hdc : Dcs w11 (.slice (some ⟨g, 0, none⟩) 1 cap) [D] := by have := HDX2.out.dcs; rwa [HLN.out] at this
 have HDC := Lib.hid hdc
 have HLW := Lib.hid (show w10.heap.size ≤ w11.heap.size from HDX2.out.m0)
 clear hdc
 refine Plan.tree_fork ?_ ?_
 ·refine Plan.op_of_list rfl (fun K hK => ?_)
  refine Great.wpList_buildSliceTo rfl 60 88 1 #[(0, .tmp 111)] rfl w11.heap.size rfl (some 112) rfl Tryz.underlying60 (outL O).toArray ?_ ?_
  ·simp only [List.map_toArray, List.map_cons, List.map_nil, List.toList_toArray]
   have := built_out O
   rw [HOL.out] at this ⊢
   exact this
  obtain ⟨w12, hw12⟩ : ∃ y, y = w11.alloc (.cells (outL O).toArray 88) := ⟨_, rfl⟩
  have hb : Below w11.heap.size w11 w12 := by rw [hw12]; exact below_box _ _
  obtain ⟨bo, hbo⟩ : ∃ y, y = w11.heap.size := ⟨_, rfl⟩
  have hoc : w12.rangeAt bo 0 (outL O) := by
   rw [hw12, hbo]
   intro j v hj
   unfold World.cell?
   rw [(MapKept.heap_alloc w11 _).1]
   simpa using hj
  have hbn : bo ≠ b2 := by have := block_lt_of_cell HCB.out.e0; dsimp only at this; omega
  rw [← hw12, ← hbo]
  replace HCB := Lib.hid (HCB.out.below hb)
  replace HDC := Lib.hid (HDC.out.below hb)
  replace HS0 := Lib.hid (fun b (h1 : b < w10.heap.size) (h2 : b ≠ b2) => (hb.block b (Nat.lt_of_lt_of_le h1 HLW.out)).trans (HS0.out b h1 h2))
  replace HB := Lib.hid (HB.out.trans (hb.mono HB.out.size))
  have HOC := Lib.hid hoc
  have HBN := Lib.hid hbn
  clear hb hw12 hbo hoc hbn
  simp only [Act.put, List.setIfInBounds_toArray, List.set_cons_succ, List.set_cons_zero]
  refine wpList_nil ?_
  refine hK _ _ ⟨HS0.out, ?_⟩
  refine Plan.tree_run ?_
  obtain ⟨k0, k1, k2, k3, k4, k5, k6, -⟩ := HCB.out
  refine Plan.plan_of_effect rfl (fun K hK => ?_)
  go_wp2_with fail
  obtain ⟨z0, z1, zd, zb, zo⟩ := cb_fin (u := .slice (some ⟨g, 0, none⟩) 1 cap) HCB.out HDC.out HB.out HNE.out.2.2.2.2 now
  have hS1 := fun b (h1 : b < w10.heap.size) (h2 : b ≠ b2) => (zo b h2).trans (HS0.out b h1 h2)
  refine ⟨hS1, ?_⟩
  refine' Plan.plan_seg _ [18, 19] [] (by kernel_rfl) (by kernel_rfl) rfl (by exact hS1) (fun wx hS => ?_) ?_
  rotate_left
  ·clear hS
   go_light
   iterate 2 (apply Plan.seg_pick; rfl; intro K hK; go_wp)
   exact Plan.seg_nil
  refine Plan.plan_nil ?_
  refine Plan.tree_leaf ?_
  have hou : Outs ((w12.setCell ⟨b2, 0, none⟩ (.int .i64 now)).setCell ⟨b2, 1, none⟩ (.slice (some ⟨g, 0, none⟩) 1 cap)) (.slice (some ⟨bo, 0, none⟩) 1 1) [O] := by
   refine ⟨_, 1, rfl, Nat.le_refl _, by unfold maxLen; omega, fun i x hi => ?_⟩
   cases i with
   | zero =>
    obtain rfl := Option.some.inj hi
    exact ⟨bo, 0, rfl, rangeAt_ag HOC.out (zo bo HBN.out)⟩
   | succ i => simp at hi
  obtain ⟨wf, hwf⟩ : ∃ x, x = (w12.setCell ⟨b2, 0, none⟩ (.int .i64 now)).setCell ⟨b2, 1, none⟩ (.slice (some ⟨g, 0, none⟩) 1 cap) := ⟨_, rfl⟩
  rw [← hwf] at z0 z1 zd zb hou ⊢
  have HZ := Lib.hid (And.intro z0 (And.intro z1 (And.intro zd (And.intro zb hou))))
  clear hwf z0 z1 zd zb zo hou hS1 k0 k1 k2 k3 k4 k5 k6
  go_wp2_with fail
  obtain ⟨z0, z1, zd, zb, hou⟩ := HZ.out
  exact bodyPost_ret (v := .tuple #[.agg #[.int .i64 now, .slice (some ⟨g, 0, none⟩) 1 cap], .slice (some ⟨bo, 0, none⟩) 1 1, .int .i64 0]) (by simp [results, Tryz.results63, go_sem, z0, z1]) rfl ⟨0, now, _, _, _, _, rfl, HRD.out, zd, hou, zb⟩
 ·refine Plan.op_of_list rfl (fun K hK => ?_)
  obtain ⟨k0, k1, k2, k3, k4, k5, k6, -⟩ := HCB.out
  go_wp2_with fail
  obtain ⟨z0, z1, zd, zb, zo⟩ := cb_fin (u := .slice (some ⟨g, 0, none⟩) 1 cap) HCB.out HDC.out HB.out HNE.out.2.2.2.2 now
  have hS1 := fun b (h1 : b < w10.heap.size) (h2 : b ≠ b2) => (zo b h2).trans (HS0.out b h1 h2)
  refine ⟨hS1, ?_⟩
  obtain ⟨w12, hw12⟩ : ∃ x, x = (w11.setCell ⟨b2, 0, none⟩ (.int .i64 now)).setCell ⟨b2, 1, none⟩ (.slice (some ⟨g, 0, none⟩) 1 cap) := ⟨_, rfl⟩
  have hlw : w10.heap.size ≤ w12.heap.size := by rw [hw12]; simpa [World.setCell] using HLW.out
  rw [← hw12] at z0 z1 zd zb hS1 ⊢
  clear zo hw12 k0 k1 k2 k3 k4 k5 k6
  refine Plan.tree_run ?_
  refine Plan.plan_of_effect rfl (fun K hK => ?_)
  refine Great.wpList_buildSliceTo rfl 60 88 1 #[(0, .tmp 111)] rfl w12.heap.size rfl (some 112) rfl Tryz.underlying60 (outL O).toArray ?_ ?_
  ·simp only [List.map_toArray, List.map_cons, List.map_nil, List.toList_toArray]
   have := built_out O
   rw [HOL.out] at this ⊢
   exact this
  obtain ⟨w13, hw13⟩ : ∃ y, y = w12.alloc (.cells (outL O).toArray 88) := ⟨_, rfl⟩
  have hb : Below w12.heap.size w12 w13 := by rw [hw13]; exact below_box _ _
  obtain ⟨bo, hbo⟩ : ∃ y, y = w12.heap.size := ⟨_, rfl⟩
  have hoc : w13.rangeAt bo 0 (outL O) := by
   rw [hw13, hbo]
   intro j v hj
   unfold World.cell?
   rw [(MapKept.heap_alloc w12 _).1]
   simpa using hj
  rw [← hw13, ← hbo]
  replace z0 := (hb.cell (p := ⟨b2, 0, none⟩) (block_lt_of_cell z0)).trans z0
  replace z1 := (hb.cell (p := ⟨b2, 1, none⟩) (block_lt_of_cell z1)).trans z1
  replace zd := zd.below hb
  replace zb := zb.trans (hb.mono zb.size)
  have hS2 := fun b (h1 : b < w10.heap.size) (h2 : b ≠ b2) => (hb.block b (Nat.lt_of_lt_of_le h1 hlw)).trans (hS1 b h1 h2)
  have hou : Outs w13 (.slice (some ⟨bo, 0, none⟩) 1 1) [O] := by
   refine ⟨_, 1, rfl, Nat.le_refl _, by unfold maxLen; omega, fun i x hi => ?_⟩
   cases i with
   | zero =>
    obtain rfl := Option.some.inj hi
    exact ⟨bo, 0, rfl, hoc⟩
   | succ i => simp at hi
  have HZ := Lib.hid (And.intro z0 (And.intro z1 (And.intro zd (And.intro zb hou))))
  clear hb hw13 hbo hoc z0 z1 zd zb hou hS1 hlw
  simp only [Act.put, List.setIfInBounds_toArray, List.set_cons_succ, List.set_cons_zero]
  refine wpList_nil ?_
  refine hK _ _ ⟨hS2, ?_⟩
  refine' Plan.plan_seg _ [18, 19] [] (by kernel_rfl) (by kernel_rfl) rfl (by exact hS2) (fun wx hS => ?_) ?_
  rotate_left
  ·clear hS
   go_light
   iterate 2 (apply Plan.seg_pick; rfl; intro K hK; go_wp)
   exact Plan.seg_nil
  refine Plan.plan_nil ?_
  refine Plan.tree_leaf ?_
  clear hS2
  go_wp2_with fail
  obtain ⟨z0, z1, zd, zb, hou⟩ := HZ.out
  exact bodyPost_ret (v := .tuple #[.agg #[.int .i64 now, .slice (some ⟨g, 0, none⟩) 1 cap], .slice (some ⟨bo, 0, none⟩) 1 1, .int .i64 0]) (by simp [results, Tryz.results63, go_sem, z0, z1]) rfl ⟨0, now, _, _, _, _, rfl, HRD.out, zd, hou, zb⟩
theorem Outs.skip {w w' : World} {b : Nat} {v : Value} {os : List Rpt} (h : Outs w v os) (h2 : Two2 w b) (hs : ∀ x, x ≠ b → w'.heap[x]? = w.heap[x]?) : Outs w' v os := by
 obtain ⟨ao, cap, e, e1, e2, h3⟩ := h
 refine ⟨ao, cap, e, e1, e2, fun i x hi => ?_⟩
 obtain ⟨b', o, e3, hc⟩ := h3 i x hi
 exact ⟨b', o, e3, rangeAt_ag hc (hs b' (h2.ne (hc 2 _ rfl) (by omega)))⟩
structure Fine (R : Int → Int → List Dc → List Rpt → Prop) : Prop where
 ok : ∀ now ds os, R 0 now ds os → ds ≠ [] ∧ ds.length ≤ 1000 ∧ ∀ d ∈ ds, 1 ≤ d.revs.length ∧ d.revs.length ≤ 1000 ∧ ∀ r ∈ d.revs, r.t.length ≤ 1048576
 no : ∀ code now ds os, R code now ds os → code ≠ 0 → now = 0 ∧ ds = [] ∧ os = []
set_option maxRecDepth 100000 in
set_option maxHeartbeats 16000000 in
theorem bigstep_docs (now : Int) (v : Value) (ds0 : List Dc) (k : Int) (u nm : ByteArray) (bs tk : Int) (ta : Option Addr) (tn tc : Nat) (T : TypeId) (x : Value) (R : Int → Int → List Dc → List Rpt → Prop) (w : World)
  (h : Dcs w v ds0) (hval : ∀ w1, Below w.heap.size w w1 → Calls Tryz.prog 38 #[.agg #[.int .i64 now, v]] w1 fun e w' => e = .returned (.bool true) ∧ Below w1.heap.size w1 w') (hF : Fine R)
  (hc : ∀ w1, Below w.heap.size w w1 → Calls Tryz.prog 62 #[.agg #[.int .i64 k, .string u, .string nm, .int .i64 bs, .int .i64 tk, .slice ta tn tc]] w1 fun e w' => e = .returned (.tuple #[.iface T x, .bool true]) ∧ Below w1.heap.size w1 w')
  (hs : ∀ w1, Below w.heap.size w w1 → Calls Tryz.prog 63 #[.agg #[.int .i64 now, v], .iface T x] w1 (StepPost w1 R)) :
  Calls Tryz.prog 26 #[.agg #[.int .i64 now, v], .agg #[.int .i64 k, .string u, .string nm, .int .i64 bs, .int .i64 tk, .slice ta tn tc]] w (StepPost w R) := by
 have HF := Lib.hid hF
 have HC := Lib.hid hc
 have HS := Lib.hid hs
 have VO := Lib.hid hval
 obtain ⟨va, vc, hv, -⟩ := h
 obtain ⟨N, hN⟩ : ∃ N, N = ds0.length := ⟨_, rfl⟩
 rw [← hN] at hv
 subst hv
 clear hN hF hc hs hval
 go_enter Tryz.func26, Tryz.ntmps26
 go_upto_region 1 with fail
 obtain ⟨w1, hw1⟩ : ∃ y, y = ((w.alloc (.cells #[.int .i64 now, .slice va N vc] 55)).alloc (.cells #[.int .i64 k, .string u, .string nm, .int .i64 bs, .int .i64 tk, .slice ta tn tc] 59)).alloc (.cells #[.int .i64 0, .slice none 0 0] 55) := ⟨_, rfl⟩
 obtain ⟨b1, hb1⟩ : ∃ y, y = w.heap.size := ⟨_, rfl⟩
 obtain ⟨b3, hb3⟩ : ∃ y, y = w.heap.size + 1 := ⟨_, rfl⟩
 obtain ⟨b2, hb2⟩ : ∃ y, y = w.heap.size + 1 + 1 := ⟨_, rfl⟩
 have hb : Below w.heap.size w w1 := by rw [hw1]; exact (((Below.refl _ _).alloc (Nat.le_refl _) _).alloc (by simp [go_sem]) _).alloc (by simp [go_sem]; omega) _
 have HCB := Lib.hid (show CB w1 b1 b2 now (.slice va N vc) by
  rw [hw1, hb1, hb2]
  refine ⟨by simp [go_sem], by simp [go_sem], by simp [go_sem], by simp [go_sem], by simp [go_sem], by simp [go_sem], by simp [go_sem], #[.int .i64 0, .slice none 0 0], rfl, ?_⟩
  have := (MapKept.heap_alloc ((w.alloc (.cells #[.int .i64 now, .slice va N vc] 55)).alloc (.cells #[.int .i64 k, .string u, .string nm, .int .i64 bs, .int .i64 tk, .slice ta tn tc] 59)) (.cells #[.int .i64 0, .slice none 0 0] 55)).1
  simpa using this)
 have HE := Lib.hid (show w1.rangeAt b3 0 [.int .i64 k, .string u, .string nm, .int .i64 bs, .int .i64 tk, .slice ta tn tc] by
  rw [hw1, hb3]
  intro j v hj
  have hj6 : j < 6 := by have := (List.getElem?_eq_some_iff.1 hj).1; simpa using this
  have : j = 0 ∨ j = 1 ∨ j = 2 ∨ j = 3 ∨ j = 4 ∨ j = 5 := by omega
  rcases this with rfl | rfl | rfl | rfl | rfl | rfl <;> simp only [List.getElem?_cons_zero, List.getElem?_cons_succ, Option.some.injEq] at hj <;> subst hj <;> simp [go_sem])
 have HNE := Lib.hid (show b1 ≠ b2 ∧ w.heap.size ≤ b1 ∧ w.heap.size ≤ b2 from ⟨by omega, by omega, by omega⟩)
 rw [← hw1, ← hb2, ← hb3, ← hb1]
 have HB := Lib.hid hb
 clear hw1 hb1 hb2 hb3 hb
 obtain ⟨k0, k1, k2, k3, k4, k5, k6, -⟩ := HCB.out
 go_wp2_with fail
 refine (VO.out w1 HB.out).mono ?_
 rintro e w2 ⟨rfl, hb⟩
 clear k0 k1 k2 k3 k4 k5 k6
 replace HCB := Lib.hid (HCB.out.below hb)
 replace HE := Lib.hid (rangeAt_below HE.out (by simp) hb)
 replace HB := Lib.hid (HB.out.trans (hb.mono HB.out.size))
 clear hb VO
 have e0 := HE.out 0 _ rfl
 have e1 := HE.out 1 _ rfl
 have e2 := HE.out 2 _ rfl
 have e3 := HE.out 3 _ rfl
 have e4 := HE.out 4 _ rfl
 have e5 := HE.out 5 _ rfl
 simp only [Nat.zero_add, Nat.add_zero] at e0 e1 e2 e3 e4 e5
 go_wp2_with fail
 refine (HC.out w2 HB.out).mono ?_
 rintro e w3 ⟨rfl, hb⟩
 clear e0 e1 e2 e3 e4 e5
 replace HCB := Lib.hid (HCB.out.below hb)
 replace HB := Lib.hid (HB.out.trans (hb.mono HB.out.size))
 clear hb HC HE
 obtain ⟨k0, k1, k2, k3, k4, k5, k6, -⟩ := HCB.out
 go_wp2_with fail
 refine (HS.out w3 HB.out).mono ?_
 rintro e w4 ⟨code, now', v', ov, ds', os, rfl, hr, hdc, hou, hb⟩
 clear k0 k1 k2 k3 k4 k5 k6
 replace HCB := Lib.hid (HCB.out.below hb)
 replace HB := Lib.hid (HB.out.trans (hb.mono HB.out.size))
 have HR := Lib.hid hr
 have HDC := Lib.hid hdc
 have HOU := Lib.hid hou
 obtain ⟨va', vc', hv', -⟩ := hdc
 obtain ⟨vn', hvn⟩ : ∃ n, n = ds'.length := ⟨_, rfl⟩
 rw [← hvn] at hv'
 subst hv'
 obtain ⟨oa, oc, hov, -⟩ := hou
 obtain ⟨on', hon⟩ : ∃ n, n = os.length := ⟨_, rfl⟩
 rw [← hon] at hov
 subst hov
 clear hb hr HS hvn hon
 go_upto_region 7 with fail
 obtain ⟨w5, hw5⟩ : ∃ y, y = w4.alloc (.cells #[.int .i64 now', .slice va' vn' vc'] 55) := ⟨_, rfl⟩
 obtain ⟨b9, hb9⟩ : ∃ y, y = w4.heap.size := ⟨_, rfl⟩
 have hb : Below w4.heap.size w4 w5 := by rw [hw5]; exact below_box _ _
 have n0 : w5.cell? ⟨b9, 0, none⟩ = some (.int .i64 now') := by rw [hw5, hb9]; simp [go_sem]
 have n1 : w5.cell? ⟨b9, 1, none⟩ = some (.slice va' vn' vc') := by rw [hw5, hb9]; simp [go_sem]
 rw [← hw5, ← hb9]
 replace HCB := Lib.hid (HCB.out.below hb)
 replace HB := Lib.hid (HB.out.trans (hb.mono HB.out.size))
 replace HDC := Lib.hid (HDC.out.below hb)
 replace HOU := Lib.hid (HOU.out.below hb)
 clear hb hw5 hb9
 by_cases hz : code = 0
 ·subst hz
  obtain ⟨f1, f2, f3⟩ := HF.out.ok _ _ _ HR.out
  have SC := Lib.hid (stateclone_any _ ds' now' w5 HDC.out f1 f2 f3)
  clear f1 f2 f3
  go_wp2_with fail
  refine SC.out.mono ?_
  rintro e w6 ⟨v6, rfl, hd6, hb⟩
  replace HCB := Lib.hid (HCB.out.below hb)
  replace HB := Lib.hid (HB.out.trans (hb.mono HB.out.size))
  replace HOU := Lib.hid (HOU.out.below hb)
  have HD6 := Lib.hid hd6
  obtain ⟨va6, vc6, hv6, -⟩ := hd6
  obtain ⟨vn6, hvn⟩ : ∃ n, n = ds'.length := ⟨_, rfl⟩
  rw [← hvn] at hv6
  subst hv6
  clear hb n0 n1 SC hvn
  obtain ⟨k0, k1, k2, k3, k4, k5, k6, -⟩ := HCB.out
  go_wp2_with fail
  obtain ⟨z0, z1, zd, zb, zo⟩ := cb_fin (u := .slice va6 vn6 vc6) HCB.out HD6.out HB.out HNE.out.2.2 now'
  have hou := HOU.out.skip (w' := (w6.setCell ⟨b2, 0, none⟩ (.int .i64 now')).setCell ⟨b2, 1, none⟩ (.slice va6 vn6 vc6)) HCB.out.s zo
  obtain ⟨wf, hwf⟩ : ∃ x, x = (w6.setCell ⟨b2, 0, none⟩ (.int .i64 now')).setCell ⟨b2, 1, none⟩ (.slice va6 vn6 vc6) := ⟨_, rfl⟩
  rw [← hwf] at z0 z1 zd zb hou ⊢
  clear hwf zo
  exact bodyPost_ret (v := .tuple #[.agg #[.int .i64 now', .slice va6 vn6 vc6], .slice oa on' oc, .int .i64 0]) (by simp [results, Tryz.results26, go_sem, z0, z1]) rfl ⟨0, now', _, _, ds', os, rfl, HR.out, zd, hou, zb⟩
 ·have hz2 : decide (code = 0) = false := decide_eq_false hz
  have HZ := Lib.hid hz
  obtain ⟨k0, k1, k2, k3, k4, k5, k6, -⟩ := HCB.out
  go_wp2_with fail
  obtain ⟨z0, z1, zd, zb, zo⟩ := cb_fin (u := .slice none 0 0) HCB.out (Dcs.nil _) HB.out HNE.out.2.2 0
  obtain ⟨wf, hwf⟩ : ∃ x, x = (w5.setCell ⟨b2, 0, none⟩ (.int .i64 0)).setCell ⟨b2, 1, none⟩ (.slice none 0 0) := ⟨_, rfl⟩
  rw [← hwf] at z0 z1 zd zb ⊢
  clear hwf zo
  obtain ⟨rfl, rfl, rfl⟩ := HF.out.no _ _ _ _ HR.out HZ.out
  exact bodyPost_ret (v := .tuple #[.agg #[.int .i64 0, .slice none 0 0], .slice none 0 0, .int .i64 code]) (by simp [results, Tryz.results26, go_sem, z0, z1]) rfl ⟨code, 0, _, _, [], [], rfl, HR.out, zd, Outs.nil _, zb⟩
theorem RevOK.backTo {L i : Int} {r : Rv} (h : RevOK L i r) (b : Bool) : RevOK L i { r with back := b } := ⟨h.n, h.v, h.m, h.z, h.s⟩
theorem DocOK.rvs {L now : Int} {d : Dc} (h : DocOK L now d) : RvsOK L d.revs := ⟨h.l0, h.l1, fun r hr => by
 obtain ⟨i, hi, e⟩ := List.getElem_of_mem hr
 have := h.r i r (by rw [List.getElem?_eq_getElem hi, e])
 exact ⟨this.v, this.m⟩⟩
theorem DocOK.own {L now : Int} {d : Dc} (h : DocOK L now d) : ownOK d := by
 rcases h.f with ⟨h1, -⟩ | ⟨h1, -⟩
 ·exact .inl h1
 ·exact .inr h1
theorem DocOK.base4 {L now : Int} {d : Dc} (h : DocOK L now d) : ∀ (j : Nat) (r : Rv), d.revs[j]? = some r → r.kind = 4 → 0 ≤ r.base ∧ r.base < (j : Int) := by
 intro j r hj hk
 have hr := h.r j r hj
 by_cases h0 : (j : Int) = 0
 ·have := (hr.z h0).1; omega
 ·rcases hr.s h0 with ⟨-, h1, h2⟩ | ⟨-, h1, h2⟩ <;> omega
theorem DocOK.snoc {L now : Int} {d : Dc} (h : DocOK L now d) {r : Rv} (hl : d.revs.length < 64) (hr : RevOK L (d.revs.length : Int) r) : DocOK L now { d with revs := d.revs ++ [r] } := by
 refine ⟨h.n, by simp, by simp; omega, h.f, fun i x hi => ?_⟩
 by_cases hlt : i < d.revs.length
 ·rw [List.getElem?_append_left hlt] at hi
  exact h.r i x hi
 ·have h1 := (List.getElem?_eq_some_iff.1 hi).1
  rw [List.length_append, List.length_singleton] at h1
  have h2 : i = d.revs.length := by omega
  subst h2
  rw [List.getElem?_append_right (Nat.le_refl _)] at hi
  simp only [Nat.sub_self, List.getElem?_cons_zero, Option.some.injEq] at hi
  subst hi
  exact hr
theorem DocOK.setBack {L now : Int} {d : Dc} (h : DocOK L now d) {j : Nat} {r : Rv} (hj : d.revs[j]? = some r) (b : Bool) : DocOK L now { d with revs := d.revs.set j { r with back := b } } := by
 refine ⟨h.n, by rw [List.length_set]; exact h.l0, by rw [List.length_set]; exact h.l1, h.f, fun i x hi => ?_⟩
 dsimp only at hi
 rw [List.getElem?_set] at hi
 by_cases hij : j = i
 ·subst hij
  rw [if_pos rfl, if_pos (List.getElem?_eq_some_iff.1 hj).1] at hi
  cases hi
  exact (h.r j r hj).backTo b
 ·rw [if_neg hij] at hi
  exact h.r i x hi
theorem DocOK.addR {L now : Int} {d : Dc} (h : DocOK L now d) {cur r : Rv} (hl : d.revs.length < 64) (hr : RevOK L (d.revs.length : Int) r) : DocOK L now (addR d cur r) := by
 unfold Go.Proofs.YtfoohocgdcgbcaaGreat.addR
 split
 ·exact h
 ·exact h.snoc hl hr
theorem CommitR.keeps {L now : Int} {d d' : Dc} {u : ByteArray} {bs code : Int} {t : List Trk.Clip} (h : DocOK L now d) (hu : okWord u) (Vt : VT L t) (hc : CommitR d u bs t code d') : DocOK L now d' := by
 have l0 := h.l0
 cases hc with
 | locked _ => exact h
 | range _ _ => exact h
 | full _ _ _ => exact h
 | last _ h2 h3 cur hcur =>
  exact h.addR h3 ⟨hu, nf_vt Vt, Trk.nf_norm Vt.good, fun e => by omega, fun _ => .inl ⟨.inl rfl, by show 0 ≤ bs; omega, by show bs < _; omega⟩⟩
 | merge _ k h2 h2' h3 cur b hcur hb x hm =>
  have hk := (List.getElem?_eq_some_iff.1 hb).1
  have h5 := mergeR_vt hm (h.rvs.v b (List.mem_of_getElem? hb)).1 (h.rvs.v cur (List.mem_of_getElem? hcur)).1 Vt
  exact h.addR h3 ⟨hu, h5.1, h5.2, fun e => by omega, fun _ => .inl ⟨.inr rfl, by show 0 ≤ bs; omega, by show bs < _; omega⟩⟩
 | fails _ _ _ _ _ _ _ _ _ _ _ _ _ => exact h
theorem RevertR.keeps {L now : Int} {d d' : Dc} {j : Nat} {kind code : Int} {u : ByteArray} (h : DocOK L now d) (hu : okWord u) (j0 : 1 ≤ j) (hk : kind = 4 ∨ kind = 5) (hc : RevertR d j kind u code d') : DocOK L now d' := by
 cases hc with
 | full _ => exact h
 | fails _ _ _ _ _ _ _ _ _ _ _ => exact h
 | done hl cur r p hcur hr hp x hm =>
  have hj := (List.getElem?_eq_some_iff.1 hr).1
  have h5 := mergeR_vt hm (h.rvs.v r (List.mem_of_getElem? hr)).1 (h.rvs.v cur (List.mem_of_getElem? hcur)).1 (h.rvs.v p (List.mem_of_getElem? hp)).1
  have h6 := h.snoc (r := ⟨kind, u, (j : Int), false, x⟩) hl ⟨hu, h5.1, h5.2, fun e => by omega, fun _ => .inr ⟨hk, by show 1 ≤ (j : Int); omega, by show (j : Int) < _; omega⟩⟩
  exact h6.setBack (j := j) (r := r) (by rw [List.getElem?_append_left hj]; exact hr) true
theorem UndoR.keeps {L now : Int} {d d' : Dc} {code : Int} {u : ByteArray} (h : DocOK L now d) (hu : okWord u) (hc : UndoR d u code d') : DocOK L now d' := by
 cases hc with
 | locked _ => exact h
 | none _ _ => exact h
 | some _ j j0 _ _ _ _ _ hr => exact RevertR.keeps h hu j0 (.inl rfl) hr
theorem RedoR.keeps {L now : Int} {d d' : Dc} {code : Int} {u : ByteArray} (h : DocOK L now d) (hu : okWord u) (hc : RedoR d u code d') : DocOK L now d' := by
 cases hc with
 | locked _ => exact h
 | none _ _ => exact h
 | hit _ _ _ _ _ => exact h
 | fails _ j j0 _ _ _ _ _ _ _ hr => exact RevertR.keeps h hu j0 (.inr rfl) hr
 | done _ j j0 _ _ _ _ d1 hr r hj b hb =>
  have h1 := RevertR.keeps h hu j0 (.inr rfl) hr
  unfold unback
  split
  ·rename_i x hx
   exact h1.setBack hx false
  ·exact h1
theorem madeD.ok {L now : Int} {u nm : ByteArray} {t : List Trk.Clip} (hu : okWord u) (hn : okWord nm) (Vt : VT L t) : DocOK L now (madeD u nm t) := by
 refine ⟨hn, by simp [madeD], by simp [madeD], .inl ⟨rfl, rfl⟩, fun i r hi => ?_⟩
 cases i with
 | zero =>
  obtain rfl := Option.some.inj hi
  exact ⟨hu, nf_vt Vt, Trk.nf_norm Vt.good, fun _ => ⟨rfl, rfl⟩, fun h => absurd rfl h⟩
 | succ i => simp [madeD] at hi
theorem LockR.keeps {L now n : Int} {d d' : Dc} {code : Int} {u : ByteArray} (h : DocOK L now d) (hu : okWord u) (n0 : 1 ≤ n) (n1 : n ≤ 1000) (hc : LockR d u (now + n) code d') : DocOK L now d' := by
 cases hc with
 | locked _ => exact h
 | done _ => exact ⟨h.n, h.l0, h.l1, .inr ⟨hu, by show now < now + n; omega, by show now + n ≤ now + 1000; omega⟩, h.r⟩
theorem UnlockR.keeps {L now : Int} {d d' : Dc} {code : Int} {u : ByteArray} (h : DocOK L now d) (hc : UnlockR d u code d') : DocOK L now d' := by
 cases hc with
 | other _ => exact h
 | done _ => exact ⟨h.n, h.l0, h.l1, .inl ⟨rfl, rfl⟩, h.r⟩
theorem OneR.fine {L now : Int} {ds : List Dc} {kind : Int} {u nm : ByteArray} {R : Dc → Int → Dc → Prop} (hl : ds.length ≤ 16) (hd : ∀ d ∈ ds, DocOK L now d) (hk : ∀ d d', DocOK L now d → R d 0 d' → DocOK L now d') : Fine (OneR now ds kind u nm R) := by
 have aux : ∀ d, DocOK L now d → 1 ≤ d.revs.length ∧ d.revs.length ≤ 1000 ∧ ∀ r ∈ d.revs, r.t.length ≤ 1048576 := fun d h => ⟨h.l0, by have := h.l1; omega, fun r hr => by have := (h.rvs.v r hr).1.n; omega⟩
 refine ⟨fun now' ds' os h => ?_, fun code now' ds' os h hz => ?_⟩
 ·cases h with
  | fails _ _ _ _ _ _ _ hz => exact absurd rfl hz
  | done i d hf hdk d' hr =>
   have hi := (List.getElem?_eq_some_iff.1 hdk).1
   refine ⟨fun e => ?_, by rw [List.length_set]; omega, fun x hx => ?_⟩
   ·have := congrArg List.length e
    rw [List.length_set, List.length_nil] at this
    omega
   ·rcases List.mem_or_eq_of_mem_set hx with h1 | rfl
    ·exact aux x (hd x h1)
    ·exact aux _ (hk d _ (hd d (List.mem_of_getElem? hdk)) hr)
 ·cases h with
  | none _ => exact ⟨rfl, rfl, rfl⟩
  | fails _ _ _ _ _ _ _ _ => exact ⟨rfl, rfl, rfl⟩
  | done _ _ _ _ _ _ => exact absurd rfl hz
def NoStr (w : World) (b : Nat) : Prop := ∀ (o : Nat) (s : ByteArray), w.cell? ⟨b, o, none⟩ ≠ some (.string s)
theorem NoStr.ne {w : World} {b b' o : Nat} {s : ByteArray} (h : NoStr w b) (hc : w.cell? ⟨b', o, none⟩ = some (.string s)) : b' ≠ b := by
 rintro rfl
 exact h o s hc
theorem Tk.skipS {w w' : World} {b : Nat} {v : Value} {l : List Trk.Clip} (h : Tk w v l) (h2 : NoStr w b) (hs : ∀ x, x ≠ b → w'.heap[x]? = w.heap[x]?) : Tk w' v l := by
 obtain ⟨ao, cap, e, e1, e2, h3⟩ := h
 refine ⟨ao, cap, e, e1, e2, fun i c hi => ?_⟩
 obtain ⟨b', o, e3, hc⟩ := h3 i c hi
 exact ⟨b', o, e3, hc.same (hs b' (h2.ne hc.k3))⟩
theorem Dcs.skipS {w w' : World} {b : Nat} {v : Value} {ds : List Dc} (h : Dcs w v ds) (h2 : NoStr w b) (hs : ∀ x, x ≠ b → w'.heap[x]? = w.heap[x]?) : Dcs w' v ds := by
 obtain ⟨ao, cap, e, e1, e2, h3⟩ := h
 refine ⟨ao, cap, e, e1, e2, fun i d hi => ?_⟩
 obtain ⟨b', o, rv, e3, hc, ao2, cap2, f, f1, f2, h4⟩ := h3 i d hi
 refine ⟨b', o, rv, e3, rangeAt_ag hc (hs b' (h2.ne (hc 0 _ rfl))), ao2, cap2, f, f1, f2, fun j r hj => ?_⟩
 obtain ⟨b3, o3, tv, g3, hc3, ht⟩ := h4 j r hj
 exact ⟨b3, o3, tv, g3, rangeAt_ag hc3 (hs b3 (h2.ne (hc3 1 _ rfl))), ht.skipS h2 hs⟩
theorem Outs.skipS {w w' : World} {b : Nat} {v : Value} {os : List Rpt} (h : Outs w v os) (h2 : NoStr w b) (hs : ∀ x, x ≠ b → w'.heap[x]? = w.heap[x]?) : Outs w' v os := by
 obtain ⟨ao, cap, e, e1, e2, h3⟩ := h
 refine ⟨ao, cap, e, e1, e2, fun i x hi => ?_⟩
 obtain ⟨b', o, e3, hc⟩ := h3 i x hi
 exact ⟨b', o, e3, rangeAt_ag hc (hs b' (h2.ne (hc 1 _ rfl)))⟩
def SB (w : World) (b : Nat) (n : Int) (a : Option Addr) (k c : Nat) : Prop := w.heap[b]? = some (.cells #[.int .i64 n, .slice a k c] 55 (0, 0))
theorem SB.c0 {w : World} {b : Nat} {n : Int} {a : Option Addr} {k c : Nat} (h : SB w b n a k c) : w.cell? ⟨b, 0, none⟩ = some (.int .i64 n) := by
 unfold SB at h
 unfold World.cell?
 simp [h]
theorem SB.c1 {w : World} {b : Nat} {n : Int} {a : Option Addr} {k c : Nat} (h : SB w b n a k c) : w.cell? ⟨b, 1, none⟩ = some (.slice a k c) := by
 unfold SB at h
 unfold World.cell?
 simp [h]
theorem SB.f {w : World} {b : Nat} {n : Int} {a : Option Addr} {k c : Nat} (h : SB w b n a k c) (o : Nat) : w.frozen? ⟨b, o, none⟩ = false := by
 unfold SB at h
 simp [World.frozen?, h]
theorem SB.lt {w : World} {b : Nat} {n : Int} {a : Option Addr} {k c : Nat} (h : SB w b n a k c) : b < w.heap.size := (Array.getElem?_eq_some_iff.1 h).1
theorem SB.noStr {w : World} {b : Nat} {n : Int} {a : Option Addr} {k c : Nat} (h : SB w b n a k c) : NoStr w b := by
 intro o s hc
 unfold SB at h
 unfold World.cell? at hc
 simp only [h] at hc
 match o with
 | 0 => simp at hc
 | 1 => simp at hc
 | o + 2 => simp at hc
theorem SB.same {w w' : World} {b : Nat} {n : Int} {a : Option Addr} {k c : Nat} (h : SB w b n a k c) (hs : w'.heap[b]? = w.heap[b]?) : SB w' b n a k c := hs.trans h
theorem SB.below {w w' : World} {b : Nat} {n : Int} {a : Option Addr} {k c : Nat} (h : SB w b n a k c) (hb : Below w.heap.size w w') : SB w' b n a k c := h.same (hb.block b h.lt)
theorem SB.put {w : World} {b : Nat} {n : Int} {a : Option Addr} {k c : Nat} (h : SB w b n a k c) (n' : Int) (a' : Option Addr) (k' c' : Nat) : SB ((w.setCell ⟨b, 0, none⟩ (.int .i64 n')).setCell ⟨b, 1, none⟩ (.slice a' k' c')) b n' a' k' c' := by
 unfold SB at h ⊢
 simp [World.setCell, Array.getElem?_modify, h]
theorem RowX.noStr {w : World} {B g n : Nat} {E : TypeId} {cs : List Int} (h : RowX w B E 1 (.slice (some ⟨g, 0, none⟩) n n) n (cs.map fun c => .int .i64 c)) : NoStr w g := by
 rcases h with ⟨e, _⟩ | ⟨g', cap, cur, e, hB, hg, hk, hc, hs, ht, hl⟩
 ·simp at e
 ·simp only [Value.slice.injEq, Option.some.injEq, Addr.mk.injEq, and_true, true_and] at e
  obtain ⟨rfl, rfl⟩ := e
  intro o s hcell
  unfold World.cell? at hcell
  simp only [hg] at hcell
  rw [List.take_of_length_le (by rw [Array.length_toList, hs]; exact Nat.le_refl _)] at ht
  have h2 : cur.toList[o]? = some (.string s) := by rw [Array.getElem?_toList]; exact hcell
  rw [ht, List.getElem?_map] at h2
  cases hx : cs[o]? with
  | none => rw [hx] at h2; simp at h2
  | some c => rw [hx] at h2; simp at h2
def RowP (P : Value → Prop) (w : World) (B : Nat) (E : TypeId) (s : Nat) (v : Value) (k : Nat) (xs : List Value) : Prop :=
 (v = .slice none 0 0 ∧ k = 0 ∧ xs = []) ∨ ∃ g cap cur, v = .slice (some ⟨g, 0, none⟩) k cap ∧ B ≤ g ∧ w.heap[g]? = some (.cells cur E (0, 0)) ∧ k ≤ cap ∧ cap ≤ maxLen ∧ cur.size = cap * s ∧
  cur.toList.take (k * s) = xs ∧ xs.length = k * s ∧ ∀ u ∈ cur.toList, P u
theorem RowP.x {P : Value → Prop} {w : World} {B : Nat} {E : TypeId} {s : Nat} {v : Value} {k : Nat} {xs : List Value} (h : RowP P w B E s v k xs) : RowX w B E s v k xs := by
 rcases h with h | ⟨g, cap, cur, h1, h2, h3, h4, h5, h6, h7, h8, -⟩
 ·exact .inl h
 ·exact .inr ⟨g, cap, cur, h1, h2, h3, h4, h5, h6, h7, h8⟩
theorem RowP.below {P : Value → Prop} {w w' : World} {B : Nat} {E : TypeId} {s : Nat} {v : Value} {k : Nat} {xs : List Value} (h : RowP P w B E s v k xs) (hb : Below w.heap.size w w') : RowP P w' B E s v k xs := by
 rcases h with h | ⟨g, cap, cur, h1, h2, h3, h⟩
 ·exact .inl h
 ·exact .inr ⟨g, cap, cur, h1, h2, (hb.block g (Array.getElem?_eq_some_iff.1 h3).1).trans h3, h⟩
theorem RowP.other {P : Value → Prop} {w : World} {B n b : Nat} {E E2 : TypeId} {s : Nat} {v : Value} {xs : List Value} {c : Array Value} {f : Nat × Nat} (h : RowP P w B E s v n xs) (hb : w.heap[b]? = some (.cells c E2 f)) (hE : E2 ≠ E) (o : Nat) (u : Value) : RowP P (w.setCell ⟨b, o, none⟩ u) B E s v n xs := by
 rcases h with h | ⟨g, cap, cur, e, hB, hg, h⟩
 ·exact .inl h
 ·have hne : g ≠ b := by
   rintro rfl
   rw [hb] at hg
   cases hg
   exact hE rfl
  exact .inr ⟨g, cap, cur, e, hB, (setCells_other b g hne [u] o w).trans hg, h⟩
def NoSl (w : World) (b : Nat) : Prop := ∀ (o : Nat) (a : Option Addr) (k c : Nat), w.cell? ⟨b, o, none⟩ ≠ some (.slice a k c)
theorem NoSl.ne {w : World} {b b' o k c : Nat} {a : Option Addr} (h : NoSl w b) (hc : w.cell? ⟨b', o, none⟩ = some (.slice a k c)) : b' ≠ b := by
 rintro rfl
 exact h o a k c hc
structure Ev where
 kind : Int
 user : ByteArray
 doc : ByteArray
 base : Int
 ticks : Int
 t : List Trk.Clip
def evtL (e : Ev) (tv : Value) : List Value := [.int .i64 e.kind, .string e.user, .string e.doc, .int .i64 e.base, .int .i64 e.ticks, tv]
def Evs (w : World) (v : Value) (es : List Ev) : Prop := ∃ ao cap, v = .slice ao es.length cap ∧ es.length ≤ cap ∧ cap ≤ maxLen ∧ ∀ i e, es[i]? = some e → ∃ b o tv, ao = some ⟨b, o, none⟩ ∧ w.rangeAt b (o + i * 6) (evtL e tv) ∧ Tk w tv e.t ∧ (e.kind ≠ 1 → e.kind ≠ 4 → tv = .slice none 0 0)
theorem Evs.below {w w' : World} {v : Value} {es : List Ev} (h : Evs w v es) (hb : Below w.heap.size w w') : Evs w' v es := by
 obtain ⟨ao, cap, e, h1, h2, h3⟩ := h
 refine ⟨ao, cap, e, h1, h2, fun i x hi => ?_⟩
 obtain ⟨b, o, tv, e2, hr, ht, hn⟩ := h3 i x hi
 exact ⟨b, o, tv, e2, rangeAt_below hr (by simp [evtL]) hb, ht.below hb, hn⟩
inductive RunR (S : Int → List Dc → Ev → Int → Int → List Dc → List Rpt → Prop) : List Ev → Int → List Dc → List Int → Prop where
 | nil : RunR S [] 0 [] []
 | ok (es : List Ev) (now : Int) (ds : List Dc) (cs : List Int) (h : RunR S es now ds cs) (e : Ev) (now' : Int) (ds' : List Dc) (os : List Rpt) (hs : S now ds e 0 now' ds' os) : RunR S (es ++ [e]) now' ds' (cs ++ [0])
 | no (es : List Ev) (now : Int) (ds : List Dc) (cs : List Int) (h : RunR S es now ds cs) (e : Ev) (c : Int) (now' : Int) (ds' : List Dc) (os : List Rpt) (hs : S now ds e c now' ds' os) (hz : c ≠ 0) : RunR S (es ++ [e]) now ds (cs ++ [c])
theorem RunR.len {S : Int → List Dc → Ev → Int → Int → List Dc → List Rpt → Prop} {es : List Ev} {now : Int} {ds : List Dc} {cs : List Int} (h : RunR S es now ds cs) : cs.length = es.length := by
 induction h with
 | nil => rfl
 | ok _ _ _ _ _ _ _ _ _ _ ih => simp [ih]
 | no _ _ _ _ _ _ _ _ _ _ _ _ ih => simp [ih]
def cvT (e : Ev) : TypeId := if e.kind = 1 then 144 else if e.kind = 2 then 146 else if e.kind = 3 then 148 else if e.kind = 4 then 150 else if e.kind = 5 then 151 else 152
def cvX (e : Ev) (tv : Value) : Value :=
 if e.kind = 1 then .agg #[.int .i64 1, .string e.user, .string e.doc, tv] else if e.kind = 2 then .agg #[.int .i64 2, .string e.user, .string e.doc, .int .i64 e.ticks] else if e.kind = 3 then .agg #[.int .i64 3, .string e.user, .string e.doc]
 else if e.kind = 4 then .agg #[.int .i64 4, .string e.user, .string e.doc, .int .i64 e.base, tv] else if e.kind = 5 then .agg #[.int .i64 5, .string e.user, .string e.doc] else .agg #[.int .i64 6, .string e.user, .string e.doc]
theorem wpl_loadEv {ops : Array Oper} {rest : List Oper} {op : Oper} {a : Act} {w : World} {Q : Exit → Act → World → Prop} {b o : Nat} {e : Ev} {tv : Value} {x : Operand} (hc : w.rangeAt b o (evtL e tv)) (hgd : op.guard = none) (ho : op.op = .load 59 x)
  (hx : a.eval x = .pointer (some ⟨b, o, none⟩)) (h : wpList Tryz.prog ops Q rest (a.put op.dst (.agg (evtL e tv).toArray)) w) : wpList Tryz.prog ops Q (op :: rest) a w :=
 wpList_load_mid hgd 59 x ho b o hx (evtL e tv) _ hc Tryz.underlying59 rfl (by kernel_rfl) h
def z88 : Value := .agg #[.int .i64 0, .string ⟨#[]⟩, .string ⟨#[]⟩, .int .i64 0]
set_option maxRecDepth 100000 in
theorem info88 : (Tryz.prog.info? 88).map (fun i => (i.zero, i.size, i.bytes)) = some (some z88, 4, 48) := by kernel_rfl
theorem zeros88 (n : Nat) : (Builtin.zeroCells z88.cells n).size = n * 4 := by simp [Builtin.zeroCells, z88, Value.cells]
theorem outL_one {o : Rpt} : ∀ u ∈ outL o, u.oneCell' = true := by
 intro u hu
 simp only [outL, List.mem_cons, List.not_mem_nil, or_false] at hu
 rcases hu with rfl | rfl | rfl | rfl <;> rfl
theorem SB.put0 {w : World} {b : Nat} {n : Int} {a : Option Addr} {k c : Nat} (h : SB w b n a k c) (n' : Int) : (w.setCell ⟨b, 0, none⟩ (.int .i64 n')).heap[b]? = some (.cells #[.int .i64 n', .slice a k c] 55 (0, 0)) := by
 unfold SB at h
 simp [World.setCell, Array.getElem?_modify, h]
theorem RowX.obj {w : World} {B n g cap : Nat} {E : TypeId} {s : Nat} {xs : List Value} (h : RowX w B E s (.slice (some ⟨g, 0, none⟩) n cap) n xs) : ∃ c, w.heap[g]? = some (.cells c E (0, 0)) := by
 rcases h with ⟨e, _⟩ | ⟨g', cap', cur, e, hB, hg, _⟩
 ·simp at e
 ·simp only [Value.slice.injEq, Option.some.injEq, Addr.mk.injEq, and_true, true_and] at e
  obtain ⟨rfl, rfl⟩ := e
  exact ⟨cur, hg⟩
theorem RunR.eq {S : Int → List Dc → Ev → Int → Int → List Dc → List Rpt → Prop} {es es' : List Ev} {now : Int} {ds : List Dc} {cs : List Int} (h : RunR S es now ds cs) (e : es = es') : RunR S es' now ds cs := e ▸ h
def stays (now : Int) (d : Dc) : Bool := decide (d.owner = ⟨#[]⟩) || decide (now < d.till)
def tickD (now : Int) (d : Dc) : Dc := if stays now d = true then d else { d with owner := ⟨#[]⟩, till := 0 }
def tickO (now : Int) (ds : List Dc) : List Rpt := ds.filterMap fun d => if stays now d = true then none else some ⟨3, d.owner, d.name, (d.revs.length : Int) - 1⟩
def TickR (now n : Int) (ds : List Dc) (code now' : Int) (ds' : List Dc) (os : List Rpt) : Prop :=
 (1099511627776 < now + n ∧ code = 2 ∧ now' = 0 ∧ ds' = [] ∧ os = []) ∨ (now + n ≤ 1099511627776 ∧ code = 0 ∧ now' = now + n ∧ ds' = ds.map (tickD (now + n)) ∧ os = tickO (now + n) ds)
def mixD (T : Int) (ds : List Dc) (k : Nat) : List Dc := (ds.take k).map (tickD T) ++ ds.drop k
theorem mixD_zero (T : Int) (ds : List Dc) : mixD T ds 0 = ds := by simp [mixD]
theorem mixD_all (T : Int) (ds : List Dc) : mixD T ds ds.length = ds.map (tickD T) := by simp [mixD]
theorem mixD_len (T : Int) (ds : List Dc) (k : Nat) : (mixD T ds k).length = ds.length := by
 simp [mixD]
 omega
theorem mixD_at {T : Int} {ds : List Dc} {k : Nat} {d : Dc} (h : ds[k]? = some d) : (mixD T ds k)[k]? = some d := by
 have hl := (List.getElem?_eq_some_iff.1 h).1
 unfold mixD
 rw [List.getElem?_append_right (by simp; omega), List.length_map, List.length_take, show k - min k ds.length = 0 by omega, List.getElem?_drop, Nat.add_zero]
 exact h
theorem mixD_set {T : Int} {ds : List Dc} {k : Nat} {d : Dc} (h : ds[k]? = some d) : (mixD T ds k).set k (tickD T d) = mixD T ds (k + 1) := by
 obtain ⟨hl, rfl⟩ := List.getElem?_eq_some_iff.1 h
 unfold mixD
 have e : ((ds.take k).map (tickD T)).length = k := by simp; omega
 have e2 : (ds.take (k + 1)).map (tickD T) = (ds.take k).map (tickD T) ++ [tickD T ds[k]] := by rw [List.take_succ_eq_append_getElem hl, List.map_append]; rfl
 rw [List.set_append_right _ _ (by omega), e, Nat.sub_self, List.drop_eq_getElem_cons hl, List.set_cons_zero, e2, List.append_assoc]
 rfl
theorem mixD_next {T : Int} {ds : List Dc} {k : Nat} {d : Dc} (h : ds[k]? = some d) (hs : stays T d = true) : mixD T ds (k + 1) = mixD T ds k := by
 rw [← mixD_set h]
 refine list_set_same ?_
 rw [mixD_at h]
 unfold tickD
 rw [if_pos hs]
theorem tickO_stay {T : Int} {ds : List Dc} {k : Nat} {d : Dc} (h : ds[k]? = some d) (hs : stays T d = true) : tickO T (ds.take (k + 1)) = tickO T (ds.take k) := by
 rw [List.take_add_one, h]
 simp [tickO, hs]
theorem tickO_out {T : Int} {ds : List Dc} {k : Nat} {d : Dc} (h : ds[k]? = some d) (hs : stays T d = false) : tickO T (ds.take (k + 1)) = tickO T (ds.take k) ++ [⟨3, d.owner, d.name, (d.revs.length : Int) - 1⟩] := by
 rw [List.take_add_one, h]
 simp [tickO, hs]
theorem flat_out {os : List Rpt} {i : Nat} {o : Rpt} (h : os[i]? = some o) {j : Nat} (hj : j < 4) : (os.flatMap outL)[i * 4 + j]? = (outL o)[j]? := by
 induction os generalizing i with
 | nil => simp at h
 | cons x os ih =>
  rw [List.flatMap_cons]
  cases i with
  | zero =>
   obtain rfl := Option.some.inj h
   rw [List.getElem?_append_left (by simp [outL]; omega), Nat.zero_mul, Nat.zero_add]
  | succ i =>
   rw [List.getElem?_append_right (by simp [outL]; omega), show (i + 1) * 4 + j - (outL x).length = i * 4 + j by simp [outL]; omega]
   exact ih (by simpa using h)
theorem Outs.of_row {w : World} {B : Nat} {v : Value} {os : List Rpt} (h : RowX w B 88 4 v os.length (os.flatMap outL)) : Outs w v os := by
 rcases id h with ⟨rfl, h2, -⟩ | ⟨g, cap, cur, rfl, -, -, h4, h5, -⟩
 ·obtain rfl := List.length_eq_zero_iff.1 h2
  exact Outs.nil w
 ·refine ⟨_, cap, rfl, h4, h5, fun i x hi => ⟨g, 0, rfl, fun j u hj => ?_⟩⟩
  have hj4 : j < 4 := by have := (List.getElem?_eq_some_iff.1 hj).1; simpa [outL] using this
  rw [Nat.zero_add]
  exact h.cell (by rw [flat_out hi hj4]; exact hj)
theorem DX.on {w w' : World} {g cap m : Nat} {ds : List Dc} (h : DX w g cap m ds) (hg : w'.heap[g]? = w.heap[g]?) (ha : Ag (Lo m g) w w') (hm : m ≤ w'.heap.size) : DX w' g cap m ds := by
 obtain ⟨ts, h1, h2, h3⟩ := h.r
 exact ⟨hm, ts, h1, h2.blk hg, fun i d t hi ht => (h3 i d t hi ht).on ha⟩
set_option maxRecDepth 100000 in
set_option maxHeartbeats 16000000 in
theorem tick_any (ds : List Dc) (B g cap m N : Nat) (now n : Int) (w : World) (hN : ds.length = N) (hB : B ≤ g) (h : DX w g cap m ds) (hd : ∀ d ∈ ds, ownOK d ∧ 1 ≤ d.revs.length ∧ d.revs.length ≤ 64) (h0 : 0 ≤ now ∧ now ≤ 1099511627776) (h1 : 0 ≤ n ∧ n ≤ 1000) (hl : N ≤ 1000) :
  Calls Tryz.prog 103 #[.agg #[.int .i64 now, .slice (some ⟨g, 0, none⟩) N cap], .int .i64 n] w fun e w' => ∃ code now' v ov ds' os, e = .returned (.tuple #[.agg #[.int .i64 now', v], ov, .int .i64 code]) ∧ TickR now n ds code now' ds' os ∧ Dcs w' v ds' ∧ Outs w' ov os ∧ (∀ b, b < w.heap.size → b ≠ g → w'.heap[b]? = w.heap[b]?) ∧ Below B w w' := by
 have HOK := Lib.hid hd
 have HN := Lib.hid hN
 have HNB := Lib.hid hl
 obtain ⟨T, hT⟩ : ∃ T, now + n = T := ⟨_, rfl⟩
 have hT3 : T ≤ 9223372036854775807 := by omega
 have hT4 : -9223372036854775808 ≤ T := by omega
 have HT := Lib.hid hT
 have HGL := Lib.hid (show g < w.heap.size ∧ m ≤ w.heap.size ∧ B ≤ w.heap.size from ⟨h.lt.1, h.m0, by have := h.lt.1; omega⟩)
 have HDX := Lib.hid h
 have HBG := Lib.hid hB
 clear h hd hN h0 h1 hl hB
 go_enter Tryz.func103, Tryz.ntmps103
 go_upto_region 1 with fail
 obtain ⟨w1, hw1⟩ : ∃ y, y = (w.alloc (.cells #[.int .i64 now, .slice (some ⟨g, 0, none⟩) N cap] 55)).alloc (.cells #[.int .i64 0, .slice none 0 0] 55) := ⟨_, rfl⟩
 obtain ⟨b1, hb1⟩ : ∃ y, y = w.heap.size := ⟨_, rfl⟩
 obtain ⟨b2, hb2⟩ : ∃ y, y = w.heap.size + 1 := ⟨_, rfl⟩
 have hb : Below w.heap.size w w1 := by rw [hw1]; exact ((Below.refl _ _).alloc (Nat.le_refl _) _).alloc (by simp [go_sem]) _
 have hs1 : SB w1 b1 now (some ⟨g, 0, none⟩) N cap := by
  rw [hw1, hb1]
  unfold SB
  have h1 := (MapKept.heap_alloc w (.cells #[.int .i64 now, .slice (some ⟨g, 0, none⟩) N cap] 55)).1
  rw [← h1]
  exact (below_box _ _).block _ (by simp [go_sem])
 have hs2 : SB w1 b2 0 none 0 0 := by
  rw [hw1, hb2]
  unfold SB
  have := (MapKept.heap_alloc (w.alloc (.cells #[.int .i64 now, .slice (some ⟨g, 0, none⟩) N cap] 55)) (.cells #[.int .i64 0, .slice none 0 0] 55)).1
  simpa using this
 have HNE := Lib.hid (show b1 ≠ b2 ∧ b1 ≠ g ∧ b2 ≠ g ∧ w.heap.size ≤ b1 ∧ w.heap.size ≤ b2 from ⟨by omega, by have := HGL.out; omega, by have := HGL.out; omega, by omega, by omega⟩)
 rw [← hw1, ← hb2, ← hb1]
 have HS1 := Lib.hid hs1
 have HS2 := Lib.hid hs2
 replace HDX := Lib.hid (HDX.out.below hb)
 have HF := Lib.hid (show (∀ b, b < w.heap.size → b ≠ g → w1.heap[b]? = w.heap[b]?) ∧ Below B w w1 from ⟨fun b h1 _ => hb.block b h1, hb.mono HGL.out.2.2⟩)
 clear hw1 hb1 hb2 hb hs1 hs2
 have k0 := HS1.out.c0
 by_cases hr : 1099511627776 < T
 ·have HR := Lib.hid hr
  have e0 := HS2.out.c0
  have e1 := HS2.out.c1
  have f0 := HS2.out.f 0
  have f1 := HS2.out.f 1
  go_wp2_with fail
  have hput := HS2.out.put 0 none 0 0
  have z0 := hput.c0
  have z1 := hput.c1
  have hoth : ∀ x, x ≠ b2 → ((w1.setCell ⟨b2, 0, none⟩ (.int .i64 0)).setCell ⟨b2, 1, none⟩ (.slice none 0 0)).heap[x]? = w1.heap[x]? := fun x hx => (setCells_other b2 x hx [_] 1 _).trans (setCells_other b2 x hx [_] 0 w1)
  have hsz := below_setCells b2 (show B ≤ b2 by have := HNE.out; have := HGL.out; omega) [.slice none 0 0] 1 _ (below_setCells b2 (show B ≤ b2 by have := HNE.out; have := HGL.out; omega) [.int .i64 0] 0 _ HF.out.2)
  simp only [World.setCells] at hsz
  obtain ⟨wf, hwf⟩ : ∃ x, x = (w1.setCell ⟨b2, 0, none⟩ (.int .i64 0)).setCell ⟨b2, 1, none⟩ (.slice none 0 0) := ⟨_, rfl⟩
  rw [← hwf] at z0 z1 hoth hsz ⊢
  clear hwf hput
  exact bodyPost_ret (v := .tuple #[.agg #[.int .i64 0, .slice none 0 0], .slice none 0 0, .int .i64 2]) (by simp [results, Tryz.results103, go_sem, z0, z1]) rfl ⟨2, 0, _, _, [], [], rfl, .inl ⟨by rw [HT.out]; exact HR.out, rfl, rfl, rfl, rfl⟩, Dcs.nil _, Outs.nil _, fun b h1 h2 => (hoth b (by have := HNE.out; omega)).trans (HF.out.1 b h1 h2), hsz⟩
 have HR := Lib.hid hr
 have k1 := HS1.out.f 0
 go_upto_region 4 with fail
 have hs1 := HS1.out.put0 T
 have hoth : ∀ x, x ≠ b1 → (w1.setCell ⟨b1, 0, none⟩ (.int .i64 T)).heap[x]? = w1.heap[x]? := fun x hx => setCells_other b1 x hx [_] 0 w1
 replace HS2 := Lib.hid (HS2.out.same (hoth b2 (Ne.symm HNE.out.1)))
 replace HDX := Lib.hid (HDX.out.far (by have := HNE.out; have := HGL.out; omega) (Ne.symm HNE.out.2.1) 0 (.int .i64 T))
 replace HF := Lib.hid (show (∀ b, b < w.heap.size → b ≠ g → (w1.setCell ⟨b1, 0, none⟩ (.int .i64 T)).heap[b]? = w.heap[b]?) ∧ Below B w (w1.setCell ⟨b1, 0, none⟩ (.int .i64 T)) from ⟨fun b h1 h2 => (hoth b (by have := HNE.out; omega)).trans (HF.out.1 b h1 h2), by have := below_setCells b1 (show B ≤ b1 by have := HNE.out; have := HGL.out; omega) [.int .i64 T] 0 _ HF.out.2; simpa only [World.setCells] using this⟩)
 obtain ⟨w2, hw2⟩ : ∃ x, x = w1.setCell ⟨b1, 0, none⟩ (.int .i64 T) := ⟨_, rfl⟩
 rw [← hw2] at hs1 HS2 HDX HF ⊢
 replace HS1 := Lib.hid (show SB w2 b1 T (some ⟨g, 0, none⟩) N cap from hs1)
 clear hw2 hs1 hoth k0 k1 hr
 have k1 := HS1.out.c1
 go_upto_region 6 with fail
 clear k1
 go_loopw [7, 24] (fun ov i wr => ∃ k : Nat, k ≤ N ∧ i = .int .i64 (k : Int) ∧ SB wr b1 T (some ⟨g, 0, none⟩) N cap ∧ SB wr b2 0 none 0 0 ∧ DX wr g cap m (mixD T ds k) ∧ RowX wr w.heap.size 88 4 ov (tickO T (ds.take k)).length ((tickO T (ds.take k)).flatMap outL) ∧ (∀ b, b < w.heap.size → b ≠ g → wr.heap[b]? = w.heap[b]?) ∧ Below B w wr) (fun _ i _ => N - (intOf i).toNat)
 case atStart => exact ⟨0, Nat.zero_le _, rfl, HS1.out, HS2.out, by rw [mixD_zero]; exact HDX.out, .inl ⟨rfl, rfl, rfl⟩, HF.out.1, HF.out.2⟩
 case round =>
  clear HS1 HS2 HDX HF
  obtain ⟨k, hk, rfl, hs1, hs2, hdx, hox, hf1, hf2⟩ := hrel
  have HS1 := Lib.hid hs1
  have HS2 := Lib.hid hs2
  have HDX := Lib.hid hdx
  have HOX := Lib.hid hox
  have HF := Lib.hid (And.intro hf1 hf2)
  have HK := Lib.hid hk
  clear hs1 hs2 hdx hox hf1 hf2 hk
  by_cases hlt : k < N
  ·obtain ⟨d, hd⟩ : ∃ d, ds[k]? = some d := ⟨_, List.getElem?_eq_getElem (by have := HN.out; omega)⟩
   have hlt' : (k : Int) < (N : Int) := by omega
   have HD := Lib.hid hd
   have hmx := mixD_at (T := T) hd
   obtain ⟨rv, hcd, hrs⟩ := HDX.out.doc hmx
   have HMX := Lib.hid hmx
   have HOD := Lib.hid (HOK.out d (List.mem_of_getElem? hd))
   have HLT := Lib.hid hlt
   have HCD := Lib.hid hcd
   obtain ⟨ra, rc, hrv, hl1, hl2, -⟩ := hrs.get
   obtain ⟨rn, hrn⟩ : ∃ n, n = d.revs.length := ⟨_, rfl⟩
   rw [← hrn] at hrv hl1
   subst hrv
   have HRN := Lib.hid hrn
   clear hd hmx hcd hrs hl1 hl2 hrn hlt
   have hq0 : ¬ ((k : Int) < 0) := by omega
   have k1 := HS1.out.c1
   go_upto_region 9 with fail
   have d1 : wr.cell? ⟨g, k * 4 + 1, none⟩ = some (.string d.owner) := HCD.out 1 _ rfl
   have d2 : wr.cell? ⟨g, k * 4 + 2, none⟩ = some (.int .i64 d.till) := HCD.out 2 _ rfl
   have k0 := HS1.out.c0
   have hw9 : (k : Int) + 1 ≤ 9223372036854775807 := by have := HNB.out; omega
   have HW9 := Lib.hid hw9
   clear hw9
   by_cases he : d.owner = ⟨#[]⟩
   ·have HST := Lib.hid (show stays T d = true by unfold stays; rw [decide_eq_true he]; rfl)
    rw [he] at d1
    clear he d2
    go_quiet (fail)
    clear d1 k0 k1
    have hw9 := HW9.out
    go_wp2_with fail
    go_roundw
    case rel => exact ⟨k + 1, by have := HLT.out; omega, by simp, HS1.out, HS2.out, by rw [mixD_next HD.out HST.out]; exact HDX.out.below (below_drewN (Below.refl _ _) nq), by rw [tickO_stay HD.out HST.out]; exact HOX.out, HF.out.1, below_drewN HF.out.2 nq⟩
    case measure =>
     have := HLT.out
     simp [intOf]
     omega
   ·have hem : d.owner.toList.isEmpty = false := ((HOD.out.1).resolve_left he).isEmpty
    by_cases htl : T < d.till
    ·have HST := Lib.hid (show stays T d = true by unfold stays; rw [decide_eq_true htl, Bool.or_true])
     clear he
     go_quiet (fail)
     clear d1 d2 k0 k1 hem htl
     have hw9 := HW9.out
     go_wp2_with fail
     go_roundw
     case rel => exact ⟨k + 1, by have := HLT.out; omega, by simp, HS1.out, HS2.out, by rw [mixD_next HD.out HST.out]; exact HDX.out.below (below_drewN (Below.refl _ _) nq), by rw [tickO_stay HD.out HST.out]; exact HOX.out, HF.out.1, below_drewN HF.out.2 nq⟩
     case measure =>
      have := HLT.out
      simp [intOf]
      omega
    ·have HTL := Lib.hid (show (tickO T (ds.take k)).length ≤ 1000 by
      have h1 : (tickO T (ds.take k)).length ≤ (ds.take k).length := List.length_filterMap_le _ _
      rw [List.length_take] at h1
      have := HK.out; have := HNB.out
      omega)
     have HST := Lib.hid (show stays T d = false by unfold stays; rw [decide_eq_false he, decide_eq_false htl]; rfl)
     clear he
     go_quiet (fail)
     clear d1 d2 k0 k1 hem htl
     obtain ⟨w3, hw3⟩ : ∃ x, x = wr.drewN nq := ⟨_, rfl⟩
     have hb : Below wr.heap.size wr w3 := by rw [hw3]; exact below_drewN (Below.refl _ _) nq
     rw [← hw3]
     replace HS1 := Lib.hid (HS1.out.below hb)
     replace HS2 := Lib.hid (HS2.out.below hb)
     replace HDX := Lib.hid (HDX.out.below hb)
     replace HCD := Lib.hid (rangeAt_below HCD.out (by simp [docL]) hb)
     replace HOX := Lib.hid (HOX.out.below hb)
     replace HF := Lib.hid (show (∀ b, b < w.heap.size → b ≠ g → w3.heap[b]? = w.heap[b]?) ∧ Below B w w3 from ⟨fun b h1 h2 => by rw [hw3]; exact HF.out.1 b h1 h2, by rw [hw3]; exact below_drewN HF.out.2 nq⟩)
     clear hb hw3
     go_upto_region 10 with fail
     obtain ⟨O, hO⟩ : ∃ O : Rpt, O = ⟨3, d.owner, d.name, (rn : Int) - 1⟩ := ⟨_, rfl⟩
     have hOL : (outL O).toArray = #[.int .i64 3, .string d.owner, .string d.name, .int .i64 ((rn : Int) - 1)] := by rw [hO]; rfl
     have HO := Lib.hid hO
     have HOL := Lib.hid hOL
     have HRB := Lib.hid (show (rn : Int) ≤ 9223372036854775807 by have := HOD.out.2.2; have := HRN.out; omega)
     clear hO hOL
     have HCD2 := Lib.hid (rangeAt_below HCD.out (by simp [docL]) (Below.refl _ _).drew)
     refine Plan.wp_region_plan (fun w' => w'.rangeAt g (k * 4) (docL d (.slice ra rn rc))) (([0, 1, 2, 3, 4, 5, 6, 7, 8, 9, 10, 11, 12, 13, 14, 15].map (·, true)) ++ (([16, 17].map (·, false)) ++ ([18].map (·, true)))) (by kernel_rfl) (by kernel_rfl) (by kernel_rfl) HCD2.out ?_
     refine' Plan.plan_seg _ [0, 1, 2, 3, 4, 5, 6, 7, 8, 9, 10, 11, 12, 13, 14, 15] (([16, 17].map (·, false)) ++ ([18].map (·, true))) (by kernel_rfl) (by kernel_rfl) rfl (by exact HCD2.out) (fun wx hS => ?_) ?_
     rotate_left
     ·have d0 : wx.cell? ⟨g, k * 4 + 0, none⟩ = some (.string d.name) := hS 0 _ rfl
      have d1 : wx.cell? ⟨g, k * 4 + 1, none⟩ = some (.string d.owner) := hS 1 _ rfl
      have d3 : wx.cell? ⟨g, k * 4 + 3, none⟩ = some (.slice ra rn rc) := hS 3 _ rfl
      rw [Nat.add_zero] at d0
      have i2 := HRB.out
      clear hS
      go_light
      iterate 16 (apply Plan.seg_pick; rfl; intro K hK; go_wp)
      exact Plan.seg_nil
     have hb : Below w3.heap.size w3 w3.drew := (Below.refl _ _).drew
     obtain ⟨w4, hw4⟩ : ∃ x, x = w3.drew := ⟨_, rfl⟩
     rw [← hw4] at hb ⊢
     replace HS1 := Lib.hid (HS1.out.below hb)
     replace HS2 := Lib.hid (HS2.out.below hb)
     replace HDX := Lib.hid (HDX.out.below hb)
     replace HCD := Lib.hid (rangeAt_below HCD.out (by simp [docL]) hb)
     replace HOX := Lib.hid (HOX.out.below hb)
     replace HF := Lib.hid (show (∀ b, b < w.heap.size → b ≠ g → w4.heap[b]? = w.heap[b]?) ∧ Below B w w4 from ⟨fun b h1 h2 => by rw [hw4]; exact HF.out.1 b h1 h2, by rw [hw4]; exact HF.out.2.drew⟩)
     have HSZ := Lib.hid (show w.heap.size ≤ w4.heap.size from HF.out.2.size)
     clear hb hw4 HCD2
     refine Plan.plan_of_effect rfl (fun K hK => ?_)
     refine Great.wpList_buildSliceTo rfl 60 88 1 #[(0, .tmp 60)] rfl w4.heap.size rfl (some 61) rfl Tryz.underlying60 (outL O).toArray ?_ ?_
     ·simp only [List.map_toArray, List.map_cons, List.map_nil, List.toList_toArray]
      have := built_out O
      rw [HOL.out] at this ⊢
      exact this
     obtain ⟨w5, hw5⟩ : ∃ y, y = w4.alloc (.cells (outL O).toArray 88) := ⟨_, rfl⟩
     have hb : Below w4.heap.size w4 w5 := by rw [hw5]; exact below_box _ _
     obtain ⟨bo, hbo⟩ : ∃ y, y = w4.heap.size := ⟨_, rfl⟩
     have HOC := Lib.hid (show w5.rangeAt bo 0 (outL O) by
      rw [hw5, hbo]
      intro j v hj
      unfold World.cell?
      rw [(MapKept.heap_alloc w4 _).1]
      simpa using hj)
     rw [← hw5, ← hbo]
     replace HS1 := Lib.hid (HS1.out.below hb)
     replace HS2 := Lib.hid (HS2.out.below hb)
     replace HDX := Lib.hid (HDX.out.below hb)
     replace HCD := Lib.hid (rangeAt_below HCD.out (by simp [docL]) hb)
     replace HOX := Lib.hid (HOX.out.below hb)
     replace HF := Lib.hid (show (∀ b, b < w.heap.size → b ≠ g → w5.heap[b]? = w.heap[b]?) ∧ Below B w w5 from ⟨fun b h1 h2 => (hb.block b (by have := HSZ.out; omega)).trans (HF.out.1 b h1 h2), HF.out.2.trans (hb.mono (by have := HSZ.out; have := HGL.out; omega))⟩)
     replace HSZ := Lib.hid (show w.heap.size ≤ w5.heap.size from HF.out.2.size)
     clear hb hw5 hbo
     simp only [Act.put, List.setIfInBounds_toArray, List.set_cons_succ, List.set_cons_zero]
     refine wpList_nil ?_
     refine hK _ _ ⟨HCD.out, ?_⟩
     refine Plan.plan_of_effect rfl (fun K hK => ?_)
     obtain ⟨v6, w6, hrun, r1, r2, r3, r4, r5⟩ := append_x w5 w.heap.size 60 88 4 48 z88 Tryz.underlying60 info88 zeros88 u7 _ _ HOX.out HSZ.out ⟨bo, 0, none⟩ 1 1 (outL O) rfl (fun j u hj => by rw [Addr.add_mid, Nat.zero_add]; have := HOC.out j u hj; rwa [Nat.zero_add] at this) outL_one (by omega) (by unfold maxLen; have := HTL.out; omega) (fun cap h1 h2 => growslice_fits h2 (by have := HTL.out; omega))
     refine Lib.wpList_append_run (P := Tryz.prog) w5 rfl (.tmp 45) (.tmp 61) 60 60 rfl u7 (.slice (some ⟨bo, 0, none⟩) 1 1) rfl rfl _ _ hrun ?_
     have hkeep : ∀ (x : Nat) (c : Array Value) (E : TypeId) (f : Nat × Nat), w5.heap[x]? = some (.cells c E f) → E ≠ 88 → w6.heap[x]? = w5.heap[x]? := by
      intro x c E f hx hE
      refine r4 x (Array.getElem?_eq_some_iff.1 hx).1 (fun g cap hg => ?_)
      rintro rfl
      rcases HOX.out with ⟨e1, _⟩ | ⟨g', cap', cur, e1, _, hg', _⟩
      ·rw [hg] at e1; simp at e1
      ·rw [hg] at e1
       simp only [Value.slice.injEq, Option.some.injEq, Addr.mk.injEq, and_true, true_and] at e1
       obtain ⟨rfl, -⟩ := e1
       rw [hx] at hg'
       cases hg'
       exact hE rfl
     replace HS1 := Lib.hid (HS1.out.same (hkeep b1 _ _ _ HS1.out (by decide)))
     replace HS2 := Lib.hid (HS2.out.same (hkeep b2 _ _ _ HS2.out (by decide)))
     replace HCD := Lib.hid (rangeAt_ag HCD.out (r2.block g HGL.out.1))
     replace HDX := Lib.hid (HDX.out.on (r2.block g HGL.out.1) (fun b hb => r2.block b (by have := hb.1; have := HGL.out; omega)) (by have := r2.size; have := HSZ.out; have := HGL.out; omega))
     replace HOX := Lib.hid r1
     replace HF := Lib.hid (show (∀ b, b < w.heap.size → b ≠ g → w6.heap[b]? = w.heap[b]?) ∧ Below B w w6 from ⟨fun b h1 h2 => (r2.block b h1).trans (HF.out.1 b h1 h2), HF.out.2.trans (r2.mono HGL.out.2.2)⟩)
     clear hkeep r1 r2 r3 r4 r5 hrun HSZ HOC
     simp only [Act.put, List.setIfInBounds_toArray, List.set_cons_succ, List.set_cons_zero]
     refine wpList_nil ?_
     refine hK _ _ ⟨HCD.out, ?_⟩
     refine' Plan.plan_seg _ [18] [] (by kernel_rfl) (by kernel_rfl) rfl (by exact HCD.out) (fun wx hS => ?_) ?_
     rotate_left
     ·clear hS
      go_light
      iterate 1 (apply Plan.seg_pick; rfl; intro K hK; go_wp)
      exact Plan.seg_nil
     refine Plan.plan_done ?_
     have d1 : w6.cell? ⟨g, k * 4 + 1, none⟩ = some (.string d.owner) := HCD.out 1 _ rfl
     have d2 : w6.cell? ⟨g, k * 4 + 2, none⟩ = some (.int .i64 d.till) := HCD.out 2 _ rfl
     have f1 := HDX.out.frozen (k * 4 + 1)
     have f2 := HDX.out.frozen (k * 4 + 2)
     have hw9 := HW9.out
     go_wp2_with fail
     have hoth : ∀ x, x ≠ g → ((w6.setCell ⟨g, k * 4 + 1, none⟩ (.string ⟨#[]⟩)).setCell ⟨g, k * 4 + 2, none⟩ (.int .i64 0)).heap[x]? = w6.heap[x]? := fun x hx => (setCells_other g x hx [_] (k * 4 + 2) _).trans (setCells_other g x hx [_] (k * 4 + 1) w6)
     have h1 := HDX.out.set (j := 1) (d' := { d with owner := ⟨#[]⟩ }) (u := .string ⟨#[]⟩) HMX.out (by decide) rfl (fun t => rfl)
     have hi2 : ((mixD T ds k).set k { d with owner := ⟨#[]⟩ })[k]? = some { d with owner := ⟨#[]⟩ } := by rw [List.getElem?_set_self (List.getElem?_eq_some_iff.1 HMX.out).1]
     have h2 := h1.set (j := 2) (d' := { d with owner := ⟨#[]⟩, till := 0 }) (u := .int .i64 0) hi2 (by decide) rfl (fun t => rfl)
     rw [List.set_set, show ({ d with owner := ⟨#[]⟩, till := 0 } : Dc) = tickD T d by unfold tickD; rw [if_neg (by rw [HST.out]; decide)], mixD_set HD.out] at h2
     have hox : RowX w6 w.heap.size 88 4 v6 (tickO T (ds.take (k + 1))).length ((tickO T (ds.take (k + 1))).flatMap outL) := by
      have := HOX.out
      rw [HO.out, HRN.out] at this
      rw [tickO_out HD.out HST.out, List.flatMap_append, List.length_append]
      simpa using this
     have hox2 : RowX ((w6.setCell ⟨g, k * 4 + 1, none⟩ (.string ⟨#[]⟩)).setCell ⟨g, k * 4 + 2, none⟩ (.int .i64 0)) w.heap.size 88 4 v6 (tickO T (ds.take (k + 1))).length ((tickO T (ds.take (k + 1))).flatMap outL) := by
      rcases hox with h | ⟨g', cap', cur, e1, e2, e3, e4⟩
      ·exact .inl h
      ·exact .inr ⟨g', cap', cur, e1, e2, (hoth g' (by have := HGL.out; omega)).trans e3, e4⟩
     have hbf := below_setCells g HBG.out [.int .i64 0] (k * 4 + 2) _ (below_setCells g HBG.out [.string ⟨#[]⟩] (k * 4 + 1) _ HF.out.2)
     simp only [World.setCells] at hbf
     refine ⟨⟨k + 1, by have := HLT.out; omega, by simp, HS1.out.same (hoth b1 HNE.out.2.1), HS2.out.same (hoth b2 HNE.out.2.2.1), h2, hox2, fun b h1 h2 => (hoth b h2).trans (HF.out.1 b h1 h2), hbf⟩, by have := HLT.out; simp [intOf]; omega⟩
  ·have hkn : k = N := by have := HK.out; omega
   subst hkn
   have k0 := HS1.out.c0
   have k1 := HS1.out.c1
   have e0 := HS2.out.c0
   have e1 := HS2.out.c1
   have f0 := HS2.out.f 0
   have f1 := HS2.out.f 1
   have hdc := HDX.out.dcs
   rw [mixD_len, HN.out] at hdc
   have hou := Outs.of_row HOX.out
   rw [List.take_of_length_le (by rw [HN.out]; exact Nat.le_refl _)] at hou
   have HDC := Lib.hid hdc
   have HOU := Lib.hid hou
   obtain ⟨oa, oc, hov, -⟩ := hou
   obtain ⟨on', hon⟩ : ∃ n, n = (tickO T ds).length := ⟨_, rfl⟩
   rw [← hon] at hov
   subst hov
   clear hdc hon HOX
   go_wp2_with fail
   have hput := HS2.out.put T (some ⟨g, 0, none⟩) k cap
   have z0 := hput.c0
   have z1 := hput.c1
   have hoth : ∀ x, x ≠ b2 → ((wr.setCell ⟨b2, 0, none⟩ (.int .i64 T)).setCell ⟨b2, 1, none⟩ (.slice (some ⟨g, 0, none⟩) k cap)).heap[x]? = wr.heap[x]? := fun x hx => (setCells_other b2 x hx [_] 1 _).trans (setCells_other b2 x hx [_] 0 wr)
   have hB2 : B ≤ b2 := by have := HNE.out; have := HGL.out; omega
   have hbf := below_setCells b2 hB2 [.slice (some ⟨g, 0, none⟩) k cap] 1 _ (below_setCells b2 hB2 [.int .i64 T] 0 _ HF.out.2)
   simp only [World.setCells] at hbf
   have hdc := HDC.out.skipS HS2.out.noStr hoth
   have hou := HOU.out.skipS HS2.out.noStr hoth
   have hmx : mixD T ds k = ds.map (tickD T) := by rw [← HN.out]; exact mixD_all T ds
   rw [hmx] at hdc
   obtain ⟨wf, hwf⟩ : ∃ x, x = (wr.setCell ⟨b2, 0, none⟩ (.int .i64 T)).setCell ⟨b2, 1, none⟩ (.slice (some ⟨g, 0, none⟩) k cap) := ⟨_, rfl⟩
   rw [← hwf] at z0 z1 hoth hbf hdc hou ⊢
   clear hwf hput
   exact bodyPost_ret (v := .tuple #[.agg #[.int .i64 T, .slice (some ⟨g, 0, none⟩) k cap], .slice oa on' oc, .int .i64 0]) (by simp [results, Tryz.results103, go_sem, z0, z1]) rfl ⟨0, T, _, _, ds.map (tickD T), tickO T ds, rfl, .inr ⟨by rw [HT.out]; have := HR.out; omega, rfl, HT.out.symm, by rw [HT.out], by rw [HT.out]⟩, hdc, hou, fun b h1 h2 => (hoth b (by have := HNE.out; omega)).trans (HF.out.1 b h1 h2), hbf⟩
set_option maxRecDepth 100000 in
set_option maxHeartbeats 8000000 in
theorem fields_ticks (n : Int) (w : World) (n0 : 1 ≤ n) (n1 : n ≤ 1000) : Calls Tryz.prog 101 #[.agg #[.int .i64 7, .string ⟨#[]⟩, .string ⟨#[]⟩, .int .i64 0, .int .i64 n, .slice none 0 0]] w fun e w' => e = .returned (.bool true) ∧ w' = w.alloc (.cells #[.int .i64 7, .string ⟨#[]⟩, .string ⟨#[]⟩, .int .i64 0, .int .i64 n, .slice none 0 0] 59) := by
 go_enter Tryz.func101, Tryz.ntmps101
 go_wp2_with fail
 go_ret
 exact ⟨ret_bool (by simp [n0, n1]), rfl⟩
set_option maxRecDepth 100000 in
set_option maxHeartbeats 8000000 in
theorem convert_ticks (n : Int) (w : World) (n0 : 1 ≤ n) (n1 : n ≤ 1000) : Calls Tryz.prog 62 #[.agg #[.int .i64 7, .string ⟨#[]⟩, .string ⟨#[]⟩, .int .i64 0, .int .i64 n, .slice none 0 0]] w fun e w' => e = .returned (.tuple #[.iface 154 (.agg #[.int .i64 n]), .bool true]) ∧ Below w.heap.size w w' := by
 go_enter Tryz.func62, Tryz.ntmps62
 go_wp2_with fail
 refine (fields_ticks n _ n0 n1).mono ?_
 rintro e w1 ⟨rfl, rfl⟩
 go_wp2_with fail
 go_ret2
 exact ⟨rfl, by go_grown⟩
theorem DocOK.tick {L now n : Int} {d : Dc} (h : DocOK L now d) (n0 : 0 ≤ n) : DocOK L (now + n) (tickD (now + n) d) := by
 unfold tickD
 split
 ·rename_i hs
  refine ⟨h.n, h.l0, h.l1, ?_, h.r⟩
  rcases h.f with ⟨h1, h2⟩ | ⟨h1, h2, h3⟩
  ·exact .inl ⟨h1, h2⟩
  ·refine .inr ⟨h1, ?_, by omega⟩
   unfold stays at hs
   simp only [Bool.or_eq_true, decide_eq_true_eq] at hs
   rcases hs with h | h
   ·exact absurd (by rw [h]; rfl) h1.size
   ·exact h
 ·exact ⟨h.n, h.l0, h.l1, .inl ⟨rfl, rfl⟩, h.r⟩
set_option maxRecDepth 100000 in
set_option maxHeartbeats 16000000 in
theorem step_ticks (ds : List Dc) (v : Value) (now n : Int) (w : World) (h : Dcs w v ds) (h0 : ds ≠ []) (h1 : ds.length ≤ 16) (hd : ∀ d ∈ ds, ownOK d ∧ 1 ≤ d.revs.length ∧ d.revs.length ≤ 64) (hn : 0 ≤ now ∧ now ≤ 1099511627776) (hk : 0 ≤ n ∧ n ≤ 1000) :
  Calls Tryz.prog 63 #[.agg #[.int .i64 now, v], .iface 154 (.agg #[.int .i64 n])] w (StepPost w (TickR now n ds)) := by
 have OD := Lib.hid (fun w2 (hb : Below w.heap.size w w2) => owndocs_any v ds w w2 h hb h0 (by omega))
 have TK := Lib.hid (fun (B g cap m N : Nat) (w : World) (hN : ds.length = N) (hB : B ≤ g) (h : DX w g cap m ds) => tick_any ds B g cap m N now n w hN hB h hd hn hk (by omega))
 obtain ⟨va, vc, hv, -⟩ := h
 obtain ⟨N, hN⟩ : ∃ N, N = ds.length := ⟨_, rfl⟩
 rw [← hN] at hv OD
 have HN := Lib.hid hN
 subst hv
 clear hd h0 h1 hN hn hk
 have m154 := ta_hit154
 go_enter Tryz.func63, Tryz.ntmps63
 go_upto_region 1 with fail
 obtain ⟨w1, hw1⟩ : ∃ y, y = (w.alloc (.cells #[.int .i64 now, .slice va N vc] 55)).alloc (.cells #[.int .i64 0, .slice none 0 0] 55) := ⟨_, rfl⟩
 obtain ⟨b1, hb1⟩ : ∃ y, y = w.heap.size := ⟨_, rfl⟩
 obtain ⟨b2, hb2⟩ : ∃ y, y = w.heap.size + 1 := ⟨_, rfl⟩
 have hb : Below w.heap.size w w1 := by rw [hw1]; exact ((Below.refl _ _).alloc (Nat.le_refl _) _).alloc (by simp [go_sem]) _
 have HCB := Lib.hid (show CB w1 b1 b2 now (.slice va N vc) by
  rw [hw1, hb1, hb2]
  refine ⟨by simp [go_sem], by simp [go_sem], by simp [go_sem], by simp [go_sem], by simp [go_sem], by simp [go_sem], by simp [go_sem], #[.int .i64 0, .slice none 0 0], rfl, ?_⟩
  have := (MapKept.heap_alloc (w.alloc (.cells #[.int .i64 now, .slice va N vc] 55)) (.cells #[.int .i64 0, .slice none 0 0] 55)).1
  simpa using this)
 have HNE := Lib.hid (show b1 ≠ b2 ∧ b1 < w1.heap.size ∧ b2 < w1.heap.size ∧ w.heap.size ≤ b1 ∧ w.heap.size ≤ b2 from ⟨by omega, block_lt_of_cell HCB.out.c0, block_lt_of_cell HCB.out.e0, by omega, by omega⟩)
 rw [← hw1, ← hb2, ← hb1]
 have HB := Lib.hid hb
 clear hw1 hb1 hb2 hb
 obtain ⟨k0, k1, k2, k3, k4, k5, k6, -⟩ := HCB.out
 go_wp2_with fail
 refine (OD.out w1 HB.out).mono ?_
 rintro e w2 ⟨g, cap, rfl, hg, hdx, hb⟩
 replace HCB := Lib.hid (HCB.out.below hb)
 clear k0 k1 k2 k3 k4 k5 k6
 obtain ⟨k0, k1, k2, k3, k4, k5, k6, -⟩ := HCB.out
 have HG := Lib.hid (show b1 ≠ g ∧ b2 ≠ g ∧ w.heap.size ≤ g from ⟨by have := HNE.out; omega, by have := HNE.out; omega, by have := HNE.out; omega⟩)
 replace HB := Lib.hid (HB.out.trans (hb.mono HB.out.size))
 have HDX := Lib.hid hdx
 clear hb hdx hg OD
 go_upto_region 2 with fail
 clear k0 k1 k2 k3 k4 k5 k6
 replace HDX := Lib.hid (HDX.out.far HNE.out.2.2.2.1 (Ne.symm HG.out.1) 1 (.slice (some ⟨g, 0, none⟩) N cap))
 replace HCB := Lib.hid (HCB.out.put HNE.out.1 (.slice (some ⟨g, 0, none⟩) N cap))
 replace HB := Lib.hid (below_setCells b1 HNE.out.2.2.2.1 [.slice (some ⟨g, 0, none⟩) N cap] 1 _ HB.out)
 simp only [World.setCells] at HB
 obtain ⟨w3, hw3⟩ : ∃ y, y = w2.setCell ⟨b1, 1, none⟩ (.slice (some ⟨g, 0, none⟩) N cap) := ⟨_, rfl⟩
 rw [← hw3] at HDX HCB HB ⊢
 clear hw3
 go_upto_region 4 with fail
 obtain ⟨w4, hw4⟩ : ∃ y, y = w3.alloc (.cells #[.int .i64 n] 154) := ⟨_, rfl⟩
 obtain ⟨b7, hb7⟩ : ∃ y, y = w3.heap.size := ⟨_, rfl⟩
 have hb : Below w3.heap.size w3 w4 := by rw [hw4]; exact below_box _ _
 have c7 : w4.cell? ⟨b7, 0, none⟩ = some (.int .i64 n) := by rw [hw4, hb7]; simp [go_sem]
 rw [← hw4, ← hb7]
 replace HDX := Lib.hid (HDX.out.below hb)
 replace HCB := Lib.hid (HCB.out.below hb)
 replace HB := Lib.hid (HB.out.trans (hb.mono HB.out.size))
 clear hb hw4 hb7 m154
 obtain ⟨k0, k1, k2, k3, k4, k5, k6, -⟩ := HCB.out
 go_wp2_with fail
 refine (TK.out w.heap.size g cap _ N _ HN.out.symm HG.out.2.2 HDX.out).mono ?_
 rintro e w5 ⟨code, now', v', ov, ds', os, rfl, hr, hdc, hou, hf, hbt⟩
 have HL1 := Lib.hid (And.intro (block_lt_of_cell HCB.out.c0) (block_lt_of_cell HCB.out.e0))
 replace HCB := Lib.hid (HCB.out.same (hf b1 HL1.out.1 HG.out.1) (hf b2 HL1.out.2 HG.out.2.1))
 replace HB := Lib.hid (HB.out.trans hbt)
 have HR := Lib.hid hr
 have HDC := Lib.hid hdc
 have HOU := Lib.hid hou
 obtain ⟨va', vc', hv', -⟩ := hdc
 obtain ⟨vn', hvn⟩ : ∃ n, n = ds'.length := ⟨_, rfl⟩
 rw [← hvn] at hv'
 subst hv'
 obtain ⟨oa, oc, hov, -⟩ := hou
 obtain ⟨on', hon⟩ : ∃ n, n = os.length := ⟨_, rfl⟩
 rw [← hon] at hov
 subst hov
 clear hr hf hbt TK hvn hon k0 k1 k2 k3 k4 k5 k6 c7
 obtain ⟨k0, k1, k2, k3, k4, k5, k6, -⟩ := HCB.out
 go_wp2_with fail
 obtain ⟨z0, z1, zd, zb, zo⟩ := cb_fin (u := .slice va' vn' vc') HCB.out HDC.out HB.out HNE.out.2.2.2.2 now'
 have hou := HOU.out.skip (w' := (w5.setCell ⟨b2, 0, none⟩ (.int .i64 now')).setCell ⟨b2, 1, none⟩ (.slice va' vn' vc')) HCB.out.s zo
 obtain ⟨wf, hwf⟩ : ∃ x, x = (w5.setCell ⟨b2, 0, none⟩ (.int .i64 now')).setCell ⟨b2, 1, none⟩ (.slice va' vn' vc') := ⟨_, rfl⟩
 rw [← hwf] at z0 z1 zd zb hou ⊢
 clear hwf zo
 exact bodyPost_ret (v := .tuple #[.agg #[.int .i64 now', .slice va' vn' vc'], .slice oa on' oc, .int .i64 code]) (by simp [results, Tryz.results63, go_sem, z0, z1]) rfl ⟨code, now', _, _, ds', os, rfl, HR.out, zd, hou, zb⟩
theorem TickR.fine {L now n : Int} {ds : List Dc} (hl : ds.length ≤ 16) (h0 : ds ≠ []) (hn : 0 ≤ n) (hd : ∀ d ∈ ds, DocOK L now d) : Fine (TickR now n ds) := by
 refine ⟨fun now' ds' os h => ?_, fun code now' ds' os h hz => ?_⟩
 ·rcases h with ⟨-, h, -⟩ | ⟨-, -, -, rfl, -⟩
  ·cases h
  ·refine ⟨by simpa using h0, by simp; omega, fun x hx => ?_⟩
   obtain ⟨d, hm, rfl⟩ := List.mem_map.1 hx
   have k := (hd d hm).tick hn
   exact ⟨k.l0, by have := k.l1; omega, fun r hr => by have := (k.rvs.v r hr).1.n; omega⟩
 ·rcases h with ⟨-, -, h1, h2, h3⟩ | ⟨-, h, -⟩
  ·exact ⟨h1, h2, h3⟩
  ·exact absurd h hz
end Go.Proofs.YtfoohocgdcgbcaaGreat
