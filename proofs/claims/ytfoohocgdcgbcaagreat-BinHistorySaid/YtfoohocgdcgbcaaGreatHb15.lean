/- Texts of this claim joined: SR ST SU SV SW SX SY. -/
import Derived.Test.YtfoohocgdcgbcaaGreatHb14
set_option linter.unusedVariables false
set_option linter.unusedSimpArgs false
namespace Go.Proofs.YtfoohocgdcgbcaaGreat
open Go.RowKit
theorem OT.ts {w : World} {B g : Nat} {v : Value} {l : List Trk.Clip} (h : OT w B v l) (hg : g < B) : TS (Lo w.heap.size g) w v l := by
 intro w' ha
 have h' := h
 rcases h with ⟨rfl, hl, he⟩ | ⟨b, cap, cur, rfl, hB, hb, _⟩
 ·exact OT.tk (w := w') (B := B) (.inl ⟨rfl, hl, he⟩)
 ·exact OT.tk (w := w') (B := B) (RowX.blk h' (ha b ⟨(Array.getElem?_eq_some_iff.1 hb).1, by omega⟩))
theorem OR.top {w : World} {q cap m g : Nat} {rs : List Rv} (h : OR w q cap m g rs) : OR w q cap q g rs := by
 obtain ⟨us, h1, h2, h3⟩ := h.r
 exact ⟨Nat.le_refl _, h.n0, us, h1, h2, fun i r u hr hu => (h3 i r u hr hu).mono fun b hb => ⟨Nat.lt_of_lt_of_le hb.1 h.m0, hb.2⟩⟩
theorem PD.far {w : World} {g o m b : Nat} {d : Dc} (h : PD w g o m d) (hm : m ≤ b) (hg : g ≠ b) (p : Nat) (u : Value) : PD (w.setCell ⟨b, p, none⟩ u) g o m d := by
 obtain ⟨rv, h1, h2⟩ := h.r
 have hs : (w.setCell ⟨b, p, none⟩ u).heap[g]? = w.heap[g]? := setCells_other b g hg [u] p w
 refine ⟨by simpa [World.setCell] using h.m0, by simpa [World.setCell] using h.g0, fun q => ?_, rv, rangeAt_ag h1 hs, h2.on (ag_far hm)⟩
 have := h.f q
 unfold World.frozen? at this ⊢
 simpa [hs] using this
theorem rev_put {w : World} {b : Nat} {k bs : Int} {u : ByteArray} {bk : Bool} {t : List Trk.Clip} {x xv : Value} (h0 : w.cell? ⟨b, 0, none⟩ = some (.int .i64 k)) (h1 : w.cell? ⟨b, 1, none⟩ = some (.string u)) (h2 : w.cell? ⟨b, 2, none⟩ = some (.int .i64 bs)) (h3 : w.cell? ⟨b, 3, none⟩ = some (.bool bk)) (h4 : w.cell? ⟨b, 4, none⟩ = some x) (hf : w.frozen? ⟨b, 0, none⟩ = false) :
  (w.setCell ⟨b, 4, none⟩ xv).rangeAt b 0 (revL ⟨k, u, bs, bk, t⟩ xv) := by
 intro j v hj
 have hj5 : j < 5 := by have := (List.getElem?_eq_some_iff.1 hj).1; simpa [revL] using this
 have : j = 0 ∨ j = 1 ∨ j = 2 ∨ j = 3 ∨ j = 4 := by omega
 rcases this with rfl | rfl | rfl | rfl | rfl <;> simp only [revL, List.getElem?_cons_zero, List.getElem?_cons_succ, Option.some.injEq] at hj <;> subst hj <;> simp [go_sem, h0, h1, h2, h3, h4]
def Held (d : Dc) (u : ByteArray) : Prop := d.owner ≠ ⟨#[]⟩ ∧ d.owner ≠ u
instance (d : Dc) (u : ByteArray) : Decidable (Held d u) := by unfold Held; infer_instance
def ownOK (d : Dc) : Prop := d.owner = ⟨#[]⟩ ∨ okWord d.owner
def Chg (w : World) (g o : Nat) (d d' : Dc) (w' : World) : Prop :=
 (d' = d ∧ Below w.heap.size w w') ∨ ∃ q cap rs, d' = { d with revs := rs } ∧ w.heap.size ≤ q ∧ Below w.heap.size (w.setCell ⟨g, o + 3, none⟩ (.slice (some ⟨q, 0, none⟩) rs.length cap)) w' ∧ OR w' q cap q g rs
def PtrPost (w : World) (g o : Nat) (d : Dc) (R : Int → Dc → Prop) (e : Ending) (w' : World) : Prop := ∃ code d', e = .returned (.int .i64 code) ∧ R code d' ∧ Chg w g o d d' w'
theorem locked_any (g o m : Nat) (d : Dc) (u : ByteArray) (w : World) (h : PD w g o m d) (hd : ownOK d) : Calls Tryz.prog 147 #[.pointer (some ⟨g, o, none⟩), .string u] w fun e w' => e = .returned (.bool (decide (Held d u))) ∧ w' = w := by
 obtain ⟨rv, hc, -⟩ := h.r
 have c1 : w.cell? ⟨g, o + 1, none⟩ = some (.string d.owner) := hc 1 _ rfl
 by_cases he : d.owner = ⟨#[]⟩
 ·rw [decide_eq_false (fun h : Held d u => h.1 he)]
  exact locked_free g o u w (by rw [c1, he])
 ·have hok := hd.resolve_left he
  by_cases hu : d.owner = u
  ·rw [decide_eq_false (fun h : Held d u => h.2 hu)]
   exact locked_own g o u w (by rw [c1, hu]) (hu ▸ hok)
  ·rw [decide_eq_true (show Held d u from ⟨he, hu⟩)]
   exact locked_other g o u d.owner w c1 hok hu
structure RvsOK (L : Int) (rs : List Rv) : Prop where
 l0 : 1 ≤ rs.length
 l1 : rs.length ≤ 64
 v : ∀ r ∈ rs, VT L r.t ∧ Trk.Norm r.t
def addR (d : Dc) (cur r : Rv) : Dc := if Trk.nf r.t = Trk.nf cur.t then d else { d with revs := d.revs ++ [r] }
def curR (d : Dc) (cur : Rv) : Prop := d.revs[d.revs.length - 1]? = some cur
inductive CommitR (d : Dc) (u : ByteArray) (bs : Int) (t : List Trk.Clip) : Int → Dc → Prop where
 | locked (h : Held d u) : CommitR d u bs t 11 d
 | range (h : ¬ Held d u) (h2 : bs < 0 ∨ (d.revs.length : Int) ≤ bs) : CommitR d u bs t 1 d
 | full (h : ¬ Held d u) (h2 : 0 ≤ bs ∧ bs < (d.revs.length : Int)) (h3 : 64 ≤ d.revs.length) : CommitR d u bs t 18 d
 | last (h : ¬ Held d u) (h2 : bs = (d.revs.length : Int) - 1) (h3 : d.revs.length < 64) (cur : Rv) (hc : curR d cur) : CommitR d u bs t 0 (addR d cur ⟨2, u, bs, false, Trk.nf t⟩)
 | merge (h : ¬ Held d u) (k : Nat) (h2 : bs = (k : Int)) (h2' : bs ≠ (d.revs.length : Int) - 1) (h3 : d.revs.length < 64) (cur b : Rv) (hc : curR d cur) (hb : d.revs[k]? = some b) (x : List Trk.Clip) (hm : MergeR b.t cur.t t 0 x) : CommitR d u bs t 0 (addR d cur ⟨3, u, bs, false, x⟩)
 | fails (h : ¬ Held d u) (k : Nat) (h2 : bs = (k : Int)) (h2' : bs ≠ (d.revs.length : Int) - 1) (h3 : d.revs.length < 64) (cur b : Rv) (hc : curR d cur) (hb : d.revs[k]? = some b) (c : Int) (x : List Trk.Clip) (hm : MergeR b.t cur.t t c x) (hz : c ≠ 0) : CommitR d u bs t c d
set_option maxRecDepth 100000 in
set_option maxHeartbeats 16000000 in
theorem commit_any {L : Int} (g o m : Nat) (d : Dc) (u nm : ByteArray) (bs : Int) (t : List Trk.Clip) (tv : Value) (w : World) (h : PD w g o m d) (hd : ownOK d) (hR : RvsOK L d.revs) (ht : Tk w tv t) (Vt : VT L t) (hL : L ≤ 140737488355328) :
  Calls Tryz.prog 148 #[.pointer (some ⟨g, o, none⟩), .agg #[.int .i64 4, .string u, .string nm, .int .i64 bs, tv]] w (PtrPost w g o d (CommitR d u bs t)) := by
 have HP := Lib.hid h
 have HM0 := Lib.hid h.m0
 have HD := Lib.hid hd
 have HRR := Lib.hid hR
 have HT := Lib.hid ht
 have HV := Lib.hid Vt
 obtain ⟨ta, tc, htv, -⟩ := ht
 obtain ⟨tn, htn⟩ : ∃ k, k = t.length := ⟨_, rfl⟩
 rw [← htn] at htv
 subst htv
 clear h hd hR Vt htn
 obtain ⟨w1, hw1⟩ : ∃ y, y = w.alloc (.cells #[.int .i64 4, .string u, .string nm, .int .i64 bs, .slice ta tn tc] 150) := ⟨_, rfl⟩
 obtain ⟨b3, hb3⟩ : ∃ y, y = w.heap.size := ⟨_, rfl⟩
 have hb : Below w.heap.size w w1 := by rw [hw1]; exact below_box _ _
 have c1 : w1.cell? ⟨b3, 1, none⟩ = some (.string u) := by rw [hw1, hb3]; simp [go_sem]
 have c3 : w1.cell? ⟨b3, 3, none⟩ = some (.int .i64 bs) := by rw [hw1, hb3]; simp [go_sem]
 have c4 : w1.cell? ⟨b3, 4, none⟩ = some (.slice ta tn tc) := by rw [hw1, hb3]; simp [go_sem]
 replace HP := Lib.hid (HP.out.below hb)
 replace HT := Lib.hid (HT.out.below hb)
 have HB := Lib.hid hb
 go_enter Tryz.func148, Tryz.ntmps148
 go_upto_region 1 with fail
 rw [← hw1, ← hb3]
 clear hw1 hb3 hb
 go_wp2_with fail
 refine (locked_any g o m d u w1 HP.out HD.out).mono ?_
 rintro e w2 ⟨rfl, rfl⟩
 by_cases hlk : Held d u
 ·rw [decide_eq_true hlk]
  have HLK := Lib.hid hlk
  clear hlk
  go_wp2_with fail
  go_ret
  exact ⟨11, d, rfl, .locked HLK.out, .inl ⟨rfl, HB.out⟩⟩
 rw [decide_eq_false hlk]
 have HLK := Lib.hid hlk
 clear hlk
 obtain ⟨rv, hcd, hrs⟩ := HP.out.r
 have hn0 := HRR.out.l0
 have hn1 := HRR.out.l1
 obtain ⟨k, hk⟩ : ∃ k, d.revs.length = k + 1 := ⟨d.revs.length - 1, by omega⟩
 obtain ⟨cur, hcur⟩ : ∃ cur, d.revs[k]? = some cur := ⟨_, List.getElem?_eq_getElem (by omega)⟩
 obtain ⟨rb, ro, rc, cv, hrv, hcc, hct⟩ := hrs.nth hcur
 rw [hk] at hrv
 have d3 : w2.cell? ⟨g, o + 3, none⟩ = some rv := hcd 3 _ rfl
 subst hrv
 have HK := Lib.hid hk
 have HCUR := Lib.hid hcur
 have HNK := Lib.hid (show k < 64 by omega)
 clear hcd hrs hcc hct hcur hk hn0 hn1
 have hkk : ((k : Int) + 1) ≤ 9223372036854775807 := by have := HNK.out; omega
 go_upto_region 3 with fail
 by_cases hb0 : bs < 0
 ·go_quiet (fail)
  go_wp2_with fail
  go_ret
  exact ⟨1, d, rfl, .range HLK.out (.inl hb0), .inl ⟨rfl, below_drewN HB.out _⟩⟩
 have hb0' : decide (bs < 0) = false := decide_eq_false hb0
 by_cases hb1 : (k : Int) + 1 ≤ bs
 ·go_quiet (fail)
  go_wp2_with fail
  go_ret
  exact ⟨1, d, rfl, .range HLK.out (.inr (by rw [HK.out]; omega)), .inl ⟨rfl, below_drewN HB.out _⟩⟩
 have hb1' : decide ((k : Int) + 1 ≤ bs) = false := decide_eq_false hb1
 go_quiet (fail)
 obtain ⟨w3, hw3⟩ : ∃ y, y = w2.drewN nq := ⟨_, rfl⟩
 have hb : Below w2.heap.size w2 w3 := by rw [hw3]; exact below_drewN (Below.refl _ _) _
 rw [← hw3]
 replace c1 : w3.cell? ⟨b3, 1, none⟩ = some (.string u) := by rw [hw3]; simpa [go_sem] using c1
 replace c3 : w3.cell? ⟨b3, 3, none⟩ = some (.int .i64 bs) := by rw [hw3]; simpa [go_sem] using c3
 replace c4 : w3.cell? ⟨b3, 4, none⟩ = some (.slice ta tn tc) := by rw [hw3]; simpa [go_sem] using c4
 replace d3 : w3.cell? ⟨g, o + 3, none⟩ = some (.slice (some ⟨rb, ro, none⟩) (k + 1) rc) := by rw [hw3]; simpa [go_sem] using d3
 replace HP := Lib.hid (HP.out.below hb)
 replace HT := Lib.hid (HT.out.below hb)
 replace HB := Lib.hid (HB.out.trans (hb.mono HB.out.size))
 clear hb hw3
 go_upto_region 5 with fail
 by_cases hfull : k = 63
 ·subst hfull
  go_wp2_with fail
  go_ret
  exact ⟨18, d, rfl, .full HLK.out ⟨by omega, by rw [HK.out]; omega⟩ (by rw [HK.out]; omega), .inl ⟨rfl, HB.out⟩⟩
 have hnf : ¬ 64 ≤ (k : Int) + 1 := by have := HNK.out; omega
 go_upto_region 8 with fail
 obtain ⟨w4, hw4⟩ : ∃ y, y = w3.alloc (.cells #[.int .i64 2, .string u, .int .i64 bs, .bool false, .slice none 0 0] 67) := ⟨_, rfl⟩
 obtain ⟨b5, hb5⟩ : ∃ y, y = w3.heap.size := ⟨_, rfl⟩
 have hb : Below w3.heap.size w3 w4 := by rw [hw4]; exact below_box _ _
 have r0 : w4.cell? ⟨b5, 0, none⟩ = some (.int .i64 2) := by rw [hw4, hb5]; simp [go_sem]
 have r1 : w4.cell? ⟨b5, 1, none⟩ = some (.string u) := by rw [hw4, hb5]; simp [go_sem]
 have r2 : w4.cell? ⟨b5, 2, none⟩ = some (.int .i64 bs) := by rw [hw4, hb5]; simp [go_sem]
 have r3 : w4.cell? ⟨b5, 3, none⟩ = some (.bool false) := by rw [hw4, hb5]; simp [go_sem]
 have r4 : w4.cell? ⟨b5, 4, none⟩ = some (.slice none 0 0) := by rw [hw4, hb5]; simp [go_sem]
 have rf : ∀ o, w4.frozen? ⟨b5, o, none⟩ = false := fun o => by rw [hw4, hb5]; simp [go_sem]
 replace c1 := (hb.cell (p := ⟨b3, 1, none⟩) (block_lt_of_cell c1)).trans c1
 replace c3 := (hb.cell (p := ⟨b3, 3, none⟩) (block_lt_of_cell c3)).trans c3
 replace c4 := (hb.cell (p := ⟨b3, 4, none⟩) (block_lt_of_cell c4)).trans c4
 replace d3 := (hb.cell (p := ⟨g, o + 3, none⟩) (block_lt_of_cell d3)).trans d3
 replace HT := Lib.hid (HT.out.below hb)
 have HGG := Lib.hid (show g < b5 by rw [hb5]; exact HP.out.g0)
 have HB5 := Lib.hid (show w.heap.size ≤ b5 by rw [hb5]; exact HB.out.size)
 have hb5l : b5 < w4.heap.size := block_lt_of_cell r0
 replace HP := Lib.hid (HP.out.below hb)
 replace HB := Lib.hid (HB.out.trans (hb.mono HB.out.size))
 have HNF := Lib.hid (show k + 1 < 64 by have := HNK.out; omega)
 rw [← hw4, ← hb5]
 clear hb hw4 hb5 hb0' hb1' hfull hnf
 obtain ⟨kb, hkb⟩ : ∃ kb : Nat, bs = (kb : Int) := ⟨bs.toNat, by omega⟩
 subst hkb
 by_cases hl : kb = k
 ·subst hl
  go_quiet (fail)
  obtain ⟨w5, hw5⟩ : ∃ y, y = w4.drewN nq := ⟨_, rfl⟩
  have hb : Below w4.heap.size w4 w5 := by rw [hw5]; exact below_drewN (Below.refl _ _) _
  rw [← hw5]
  replace c4 := (hb.cell (p := ⟨b3, 4, none⟩) (block_lt_of_cell c4)).trans c4
  replace r0 := (hb.cell (p := ⟨b5, 0, none⟩) (block_lt_of_cell r0)).trans r0
  replace r1 := (hb.cell (p := ⟨b5, 1, none⟩) (block_lt_of_cell r1)).trans r1
  replace r2 := (hb.cell (p := ⟨b5, 2, none⟩) (block_lt_of_cell r2)).trans r2
  replace r3 := (hb.cell (p := ⟨b5, 3, none⟩) (block_lt_of_cell r3)).trans r3
  replace r4 := (hb.cell (p := ⟨b5, 4, none⟩) (block_lt_of_cell r4)).trans r4
  replace rf : ∀ o, w5.frozen? ⟨b5, o, none⟩ = false := fun o => (hb.frozen (p := ⟨b5, o, none⟩) hb5l).trans (rf o)
  replace hb5l := Nat.lt_of_lt_of_le hb5l hb.size
  replace HT := Lib.hid (HT.out.below hb)
  replace HP := Lib.hid (HP.out.below hb)
  replace HB := Lib.hid (HB.out.trans (hb.mono HB.out.size))
  clear hb hw5
  go_wp2_with fail
  refine (normal_any _ t w5 HT.out HV.out hL).mono ?_
  rintro e w6 ⟨xv, rfl, ho, hb⟩
  replace r0 := (hb.cell (p := ⟨b5, 0, none⟩) (block_lt_of_cell r0)).trans r0
  replace r1 := (hb.cell (p := ⟨b5, 1, none⟩) (block_lt_of_cell r1)).trans r1
  replace r2 := (hb.cell (p := ⟨b5, 2, none⟩) (block_lt_of_cell r2)).trans r2
  replace r3 := (hb.cell (p := ⟨b5, 3, none⟩) (block_lt_of_cell r3)).trans r3
  replace r4 := (hb.cell (p := ⟨b5, 4, none⟩) (block_lt_of_cell r4)).trans r4
  replace rf : ∀ o, w6.frozen? ⟨b5, o, none⟩ = false := fun o => (hb.frozen (p := ⟨b5, o, none⟩) hb5l).trans (rf o)
  have HG6 := Lib.hid hb5l
  replace HP := Lib.hid (HP.out.below hb)
  replace HB := Lib.hid (HB.out.trans (hb.mono HB.out.size))
  obtain ⟨xa, xc, hxv, -⟩ := ho.tk
  obtain ⟨xn, hxn⟩ : ∃ n, n = (Trk.nf t).length := ⟨_, rfl⟩
  rw [← hxn] at hxv
  subst hxv
  have HO := Lib.hid ho
  clear hb ho hxn
  go_upto_region 14 with fail
  obtain ⟨w7, hw7⟩ : ∃ y, y = w6.setCell ⟨b5, 4, none⟩ (.slice xa xn xc) := ⟨_, rfl⟩
  have HRC := Lib.hid (rev_put (t := Trk.nf t) (xv := .slice xa xn xc) r0 r1 r2 r3 r4 (rf 0))
  have HX := Lib.hid (HO.out.far (p := ⟨b5, 4, none⟩) HG6.out (.slice xa xn xc))
  have HXV := Lib.hid (nf_vt HV.out)
  have HGB := Lib.hid (show g < w5.heap.size from Nat.lt_trans HGG.out HG6.out)
  replace HP := Lib.hid (HP.out.far (b := b5) (Nat.le_trans HM0.out HB5.out) (Nat.ne_of_lt HGG.out) 4 (.slice xa xn xc))
  replace HB := Lib.hid (below_setCells b5 HB5.out [.slice xa xn xc] 4 _ HB.out)
  simp only [World.setCells] at HB
  rw [← hw7] at HRC HX HP HB ⊢
  clear hw7 r0 r1 r2 r3 r4 rf c4 hb5l HT HO HG6 c1 c3 d3
  obtain ⟨R, hR⟩ : ∃ R : Rv, R = ⟨2, u, (kb : Int), false, Trk.nf t⟩ := ⟨_, rfl⟩
  have HRE := Lib.hid hR
  rw [← hR] at HRC
  have hRt : R.t = Trk.nf t := by rw [hR]
  rw [← hRt] at HX HXV
  have CU := Lib.hid (fun w (h : PD w g o m d) => current_any g o m d cur w h kb HK.out HCUR.out)
  have SA := Lib.hid (fun v v2 w (h : Tk w v R.t) (h2 : Tk w v2 cur.t) => same_any v v2 R.t cur.t w h h2 HXV.out (HRR.out.v cur (List.mem_of_getElem? HCUR.out)).1 hL)
  obtain ⟨D, hD⟩ : ∃ D, D = decide (Trk.nf R.t = Trk.nf cur.t) := ⟨_, rfl⟩
  rw [← hD] at SA
  have HDD := Lib.hid hD
  clear hR hRt hD hb0 hb1 hkk
  go_upto_region 14 with fail
  have hx4 : w7.cell? ⟨b5, 4, none⟩ = some (.slice xa xn xc) := by have := HRC.out 4 _ rfl; simpa using this
  refine Plan.wp_region_plan (fun w' => w'.cell? ⟨b5, 4, none⟩ = some (.slice xa xn xc)) (([0, 1, 2].map (·, true)) ++ (([3, 4].map (·, false)) ++ ([5].map (·, true)))) (by kernel_rfl) (by kernel_rfl) (by kernel_rfl) hx4 ?_
  refine' Plan.plan_seg _ [0, 1, 2] (([3, 4].map (·, false)) ++ ([5].map (·, true))) (by kernel_rfl) (by kernel_rfl) rfl (by exact hx4) (fun wx hS => ?_) ?_
  rotate_left
  ·go_light
   iterate 3 (apply Plan.seg_pick; rfl; intro K hK; go_wp)
   exact Plan.seg_nil
  obtain ⟨v1, hv1⟩ : ∃ x, x = w7.drew := ⟨_, rfl⟩
  rw [← hv1]
  have hb : Below w7.heap.size w7 v1 := by rw [hv1]; exact (Below.refl _ _).drew
  replace hx4 : v1.cell? ⟨b5, 4, none⟩ = some (.slice xa xn xc) := by rw [hv1]; exact hx4
  have HX4 := Lib.hid hx4
  replace HP := Lib.hid (HP.out.below hb)
  replace HX := Lib.hid (HX.out.below hb)
  replace HRC := Lib.hid (rangeAt_below HRC.out (by simp [revL]) hb)
  replace HB := Lib.hid (HB.out.trans (hb.mono HB.out.size))
  clear hb hv1 hx4
  refine Plan.plan_of_effect rfl (fun K hK => ?_)
  go_wp2_with fail
  refine (CU.out _ HP.out).mono ?_
  rintro e v2 ⟨⟨cv2, rfl, hcv⟩, hb⟩
  have HCV := Lib.hid (hcv.get.below hb)
  replace HX4 := Lib.hid ((hb.cell (p := ⟨b5, 4, none⟩) (block_lt_of_cell HX4.out)).trans HX4.out)
  replace HP := Lib.hid (HP.out.below hb)
  replace HX := Lib.hid (HX.out.below hb)
  replace HRC := Lib.hid (rangeAt_below HRC.out (by simp [revL]) hb)
  replace HB := Lib.hid (HB.out.trans (hb.mono HB.out.size))
  clear hb hcv
  go_wp2_with fail
  refine ⟨HX4.out, ?_⟩
  refine Plan.plan_of_effect rfl (fun K hK => ?_)
  go_wp2_with fail
  refine (SA.out _ _ _ HX.out.tk HCV.out).mono ?_
  rintro e v3 ⟨rfl, hb⟩
  replace HX4 := Lib.hid ((hb.cell (p := ⟨b5, 4, none⟩) (block_lt_of_cell HX4.out)).trans HX4.out)
  replace HP := Lib.hid (HP.out.below hb)
  replace HX := Lib.hid (HX.out.below hb)
  replace HRC := Lib.hid (rangeAt_below HRC.out (by simp [revL]) hb)
  replace HB := Lib.hid (HB.out.trans (hb.mono HB.out.size))
  clear hb
  go_wp2_with fail
  refine ⟨HX4.out, ?_⟩
  refine' Plan.plan_seg _ [5] [] (by kernel_rfl) (by kernel_rfl) rfl (by exact HX4.out) (fun wx hS => ?_) ?_
  rotate_left
  ·clear hS
   go_light
   iterate 1 (apply Plan.seg_pick; rfl; intro K hK; go_wp)
   exact Plan.seg_nil
  refine Plan.plan_done ?_
  by_cases hs : Trk.nf R.t = Trk.nf cur.t
  ·have hD : D = true := by rw [HDD.out]; exact decide_eq_true hs
   rw [hD]
   have HS := Lib.hid hs
   clear hs hD HDD
   go_wp2_with fail
   go_ret
   refine ⟨0, d, rfl, ?_, .inl ⟨rfl, HB.out⟩⟩
   have := CommitR.last (bs := (kb : Int)) (t := t) HLK.out (by have := HK.out; omega) (by have := HK.out; have := HNF.out; omega) cur (by unfold curR; rw [HK.out]; exact HCUR.out)
   unfold addR at this
   rw [← HRE.out] at this
   rwa [if_pos HS.out] at this
  have hD : D = false := by rw [HDD.out]; exact decide_eq_false hs
  rw [hD]
  have HS := Lib.hid hs
  clear hs hD HDD SA CU HX4
  go_upto_region 15 with fail
  apply wp_region_lit
  iterate 3 go_step
  refine wpl_loadR HRC.out rfl rfl rfl ?_
  simp only [Act.put, List.setIfInBounds_toArray, List.set_cons_succ, List.set_cons_zero]
  have AD := Lib.hid (addrev_any g o m d R (.slice xa xn xc) v3 HP.out (by intro h; have := HK.out; rw [h] at this; simp at this) (by have := HK.out; have := HNK.out; omega) (HX.out.ts HGB.out))
  go_wp2_with fail
  refine AD.out.mono ?_
  rintro e v4 ⟨rfl, q, cap, hq, hbb, hor⟩
  go_wp2_with fail
  go_ret
  refine ⟨0, { d with revs := d.revs ++ [R] }, rfl, ?_, .inr ⟨q, cap, d.revs ++ [R], rfl, Nat.le_trans HB.out.size hq, ?_, hor.top⟩⟩
  ·have := CommitR.last (bs := (kb : Int)) (t := t) HLK.out (by have := HK.out; omega) (by have := HK.out; have := HNF.out; omega) cur (by unfold curR; rw [HK.out]; exact HCUR.out)
   unfold addR at this
   rw [← HRE.out] at this
   rwa [if_neg HS.out] at this
  ·rw [List.length_append, List.length_singleton]
   exact (below_set_both HB.out _ _).trans (hbb.mono HB.out.size)
 have hkl : kb < k := by omega
 go_quiet (fail)
 have hl2 : ((kb : Int) == (k : Int)) = false := by rw [beq_eq_false_iff_ne]; omega
 rw [hl2]
 obtain ⟨w5, hw5⟩ : ∃ y, y = w4.drewN nq := ⟨_, rfl⟩
 have hb : Below w4.heap.size w4 w5 := by rw [hw5]; exact below_drewN (Below.refl _ _) _
 rw [← hw5]
 replace c3 := (hb.cell (p := ⟨b3, 3, none⟩) (block_lt_of_cell c3)).trans c3
 replace c4 := (hb.cell (p := ⟨b3, 4, none⟩) (block_lt_of_cell c4)).trans c4
 replace d3 := (hb.cell (p := ⟨g, o + 3, none⟩) (block_lt_of_cell d3)).trans d3
 replace r0 := (hb.cell (p := ⟨b5, 0, none⟩) (block_lt_of_cell r0)).trans r0
 replace r1 := (hb.cell (p := ⟨b5, 1, none⟩) (block_lt_of_cell r1)).trans r1
 replace r2 := (hb.cell (p := ⟨b5, 2, none⟩) (block_lt_of_cell r2)).trans r2
 replace r3 := (hb.cell (p := ⟨b5, 3, none⟩) (block_lt_of_cell r3)).trans r3
 replace r4 := (hb.cell (p := ⟨b5, 4, none⟩) (block_lt_of_cell r4)).trans r4
 replace rf : ∀ o, w5.frozen? ⟨b5, o, none⟩ = false := fun o => (hb.frozen (p := ⟨b5, o, none⟩) hb5l).trans (rf o)
 replace hb5l := Nat.lt_of_lt_of_le hb5l hb.size
 replace HT := Lib.hid (HT.out.below hb)
 replace HP := Lib.hid (HP.out.below hb)
 replace HB := Lib.hid (HB.out.trans (hb.mono HB.out.size))
 clear hb hw5 c1 hl2
 have HKL := Lib.hid hkl
 obtain ⟨b, hbk⟩ : ∃ b, d.revs[kb]? = some b := ⟨_, List.getElem?_eq_getElem (by have := HK.out; omega)⟩
 obtain ⟨rv2, hcd, hrs⟩ := HP.out.r
 have e3 := hcd 3 _ rfl
 rw [d3] at e3
 obtain rfl := (Option.some.inj e3).symm
 obtain ⟨rb', ro', rc', bv, hrv, hcc, hct⟩ := hrs.nth hbk
 simp only [Value.slice.injEq, Option.some.injEq, Addr.mk.injEq, and_true, true_and] at hrv
 obtain ⟨⟨rfl, rfl⟩, -, rfl⟩ := hrv
 have e4 : w5.cell? ⟨rb, ro + kb * 5 + 4, none⟩ = some bv := hcc 4 _ rfl
 obtain ⟨ba, bc, hbv, -⟩ := hct.get
 obtain ⟨bn, hbn⟩ : ∃ n, n = b.t.length := ⟨_, rfl⟩
 rw [← hbn] at hbv
 subst hbv
 have HBV := Lib.hid hct.get
 have HBK := Lib.hid hbk
 have HR5 := Lib.hid (And.intro r0 (And.intro r1 (And.intro r2 (And.intro r3 (And.intro r4 (And.intro rf hb5l))))))
 have HS4 := Lib.hid (And.intro c3 (And.intro c4 (And.intro d3 e4)))
 have HQ01 := Lib.hid (show ¬ ((kb : Int) < 0) ∧ (kb : Int) < ((k + 1 : Nat) : Int) from ⟨by omega, by omega⟩)
 have CU := Lib.hid (fun w (h : PD w g o m d) => current_any g o m d cur w h k HK.out HCUR.out)
 have MG := Lib.hid (fun v2 w (h1 : Tk w (.slice ba bn bc) b.t) (h2 : Tk w v2 cur.t) (h3 : Tk w (.slice ta tn tc) t) => merge_any (.slice ba bn bc) v2 (.slice ta tn tc) b.t cur.t t w h1 h2 h3 (HRR.out.v b (List.mem_of_getElem? HBK.out)).1 (HRR.out.v cur (List.mem_of_getElem? HCUR.out)).1 HV.out hL)
 clear hcd hrs hcc hct hbn hbk r0 r1 r2 r3 r4 rf hb5l c3 c4 d3 e3 e4 hb0 hb1 hl hkl hkk
 go_upto_region 10 with fail
 have hT0 : Below w5.heap.size w5 w5 := Below.refl _ _
 refine Plan.wp_region_plan (fun w' => Below w5.heap.size w5 w') (([0, 1, 2, 3, 4, 5, 6, 7, 8, 9, 11, 12].map (·, true)) ++ (([10, 13].map (·, false)) ++ ([14, 15, 16, 17, 18].map (·, true)))) (by kernel_rfl) (by kernel_rfl) (by kernel_rfl) (Below.refl _ _).drew ?_
 refine' Plan.plan_seg _ [0, 1, 2, 3, 4, 5, 6, 7, 8, 9, 11, 12] (([10, 13].map (·, false)) ++ ([14, 15, 16, 17, 18].map (·, true))) (by kernel_rfl) (by kernel_rfl) rfl (by exact (Below.refl _ _).drew) (fun wx hS => ?_) ?_
 rotate_left
 ·have c3 := (hS.cell (p := ⟨b3, 3, none⟩) (block_lt_of_cell HS4.out.1)).trans HS4.out.1
  have c4 := (hS.cell (p := ⟨b3, 4, none⟩) (block_lt_of_cell HS4.out.2.1)).trans HS4.out.2.1
  have d3 := (hS.cell (p := ⟨g, o + 3, none⟩) (block_lt_of_cell HS4.out.2.2.1)).trans HS4.out.2.2.1
  have e4 := (hS.cell (p := ⟨rb, ro + kb * 5 + 4, none⟩) (block_lt_of_cell HS4.out.2.2.2)).trans HS4.out.2.2.2
  obtain ⟨hq0, hq1⟩ := HQ01.out
  clear hS
  go_light
  iterate 12 (apply Plan.seg_pick; rfl; intro K hK; go_wp)
  exact Plan.seg_nil
 have hb : Below w5.heap.size w5 w5.drew := (Below.refl _ _).drew
 replace HBV := Lib.hid (HBV.out.below hb)
 replace HT := Lib.hid (HT.out.below hb)
 replace HP := Lib.hid (HP.out.below hb)
 have HSS := Lib.hid hb
 clear hb hT0
 refine Plan.plan_of_effect rfl (fun K hK => ?_)
 go_wp2_with fail
 refine (CU.out _ HP.out).mono ?_
 rintro e w6 ⟨⟨cv2, rfl, hcv⟩, hb⟩
 have HCV := Lib.hid (hcv.get.below hb)
 replace HBV := Lib.hid (HBV.out.below hb)
 replace HT := Lib.hid (HT.out.below hb)
 replace HP := Lib.hid (HP.out.below hb)
 replace HSS := Lib.hid (HSS.out.trans (hb.mono HSS.out.size))
 clear hb hcv
 go_wp2_with fail
 refine ⟨HSS.out, ?_⟩
 refine Plan.plan_of_effect rfl (fun K hK => ?_)
 go_wp2_with fail
 refine (MG.out _ _ HBV.out HCV.out HT.out).mono ?_
 rintro e w7 ⟨xv, code, x, rfl, ho, hb, hmr⟩
 have HG7 := Lib.hid (show b5 < w6.heap.size from Nat.lt_of_lt_of_le HR5.out.2.2.2.2.2.2 HSS.out.size)
 replace HP := Lib.hid (HP.out.below hb)
 replace HSS := Lib.hid (HSS.out.trans (hb.mono HSS.out.size))
 have HMR := Lib.hid hmr
 obtain ⟨xa, xc, hxv, -⟩ := ho.tk
 obtain ⟨xn, hxn⟩ : ∃ n, n = x.length := ⟨_, rfl⟩
 rw [← hxn] at hxv
 subst hxv
 have HO := Lib.hid ho
 clear hb ho hxn hmr
 go_wp2_with fail
 refine ⟨HSS.out, ?_⟩
 refine' Plan.plan_seg _ [14, 15, 16, 17, 18] [] (by kernel_rfl) (by kernel_rfl) rfl (by exact HSS.out) (fun wx hS => ?_) ?_
 rotate_left
 ·clear hS
  go_light
  iterate 5 (apply Plan.seg_pick; rfl; intro K hK; go_wp)
  exact Plan.seg_nil
 refine Plan.plan_done ?_
 replace HB := Lib.hid (HB.out.trans (HSS.out.mono HB.out.size))
 by_cases hz : code = 0
 ·subst hz
  obtain ⟨r0, r1, r2, r3, r4, rf, hbl⟩ := HR5.out
  replace r0 := (HSS.out.cell (p := ⟨b5, 0, none⟩) hbl).trans r0
  replace r1 := (HSS.out.cell (p := ⟨b5, 1, none⟩) hbl).trans r1
  replace r2 := (HSS.out.cell (p := ⟨b5, 2, none⟩) hbl).trans r2
  replace r3 := (HSS.out.cell (p := ⟨b5, 3, none⟩) hbl).trans r3
  replace r4 := (HSS.out.cell (p := ⟨b5, 4, none⟩) hbl).trans r4
  replace rf : ∀ o, w7.frozen? ⟨b5, o, none⟩ = false := fun o => (HSS.out.frozen (p := ⟨b5, o, none⟩) hbl).trans (rf o)
  clear hbl
  go_upto_region 14 with fail
  obtain ⟨w8, hw8⟩ : ∃ y, y = (w7.setCell ⟨b5, 0, none⟩ (.int .i64 3)).setCell ⟨b5, 4, none⟩ (.slice xa xn xc) := ⟨_, rfl⟩
  have s0 : (w7.setCell ⟨b5, 0, none⟩ (.int .i64 3)).cell? ⟨b5, 0, none⟩ = some (.int .i64 3) := by simp [go_sem, r0, rf]
  have s1 : (w7.setCell ⟨b5, 0, none⟩ (.int .i64 3)).cell? ⟨b5, 1, none⟩ = some (.string u) := by simp [go_sem, r1]
  have s2 : (w7.setCell ⟨b5, 0, none⟩ (.int .i64 3)).cell? ⟨b5, 2, none⟩ = some (.int .i64 kb) := by simp [go_sem, r2]
  have s3 : (w7.setCell ⟨b5, 0, none⟩ (.int .i64 3)).cell? ⟨b5, 3, none⟩ = some (.bool false) := by simp [go_sem, r3]
  have s4 : (w7.setCell ⟨b5, 0, none⟩ (.int .i64 3)).cell? ⟨b5, 4, none⟩ = some (.slice none 0 0) := by simp [go_sem, r4]
  have sf : (w7.setCell ⟨b5, 0, none⟩ (.int .i64 3)).frozen? ⟨b5, 0, none⟩ = false := by simp [go_sem, rf]
  have HRC := Lib.hid (rev_put (t := x) (xv := .slice xa xn xc) s0 s1 s2 s3 s4 sf)
  have HX := Lib.hid ((HO.out.far (p := ⟨b5, 0, none⟩) HG7.out (.int .i64 3)).far (p := ⟨b5, 4, none⟩) HG7.out (.slice xa xn xc))
  have HXV := Lib.hid (mergeR_vt HMR.out (HRR.out.v b (List.mem_of_getElem? HBK.out)).1 (HRR.out.v cur (List.mem_of_getElem? HCUR.out)).1 HV.out).1
  have HGB := Lib.hid (show g < w6.heap.size from Nat.lt_trans HGG.out HG7.out)
  replace HP := Lib.hid ((HP.out.far (b := b5) (Nat.le_trans HM0.out HB5.out) (Nat.ne_of_lt HGG.out) 0 (.int .i64 3)).far (b := b5) (Nat.le_trans HM0.out HB5.out) (Nat.ne_of_lt HGG.out) 4 (.slice xa xn xc))
  replace HB := Lib.hid (below_setCells b5 HB5.out [.slice xa xn xc] 4 _ (below_setCells b5 HB5.out [.int .i64 3] 0 _ HB.out))
  simp only [World.setCells] at HB
  rw [← hw8] at HRC HX HP HB ⊢
  clear hw8 r0 r1 r2 r3 r4 rf s0 s1 s2 s3 s4 sf HR5 HS4 HSS HO HG7 HT CU MG
  obtain ⟨R, hR⟩ : ∃ R : Rv, R = ⟨3, u, (kb : Int), false, x⟩ := ⟨_, rfl⟩
  have HRE := Lib.hid hR
  rw [← hR] at HRC
  have hRt : R.t = x := by rw [hR]
  rw [← hRt] at HX HXV
  have CU := Lib.hid (fun w (h : PD w g o m d) => current_any g o m d cur w h k HK.out HCUR.out)
  have SA := Lib.hid (fun v v2 w (h : Tk w v R.t) (h2 : Tk w v2 cur.t) => same_any v v2 R.t cur.t w h h2 HXV.out (HRR.out.v cur (List.mem_of_getElem? HCUR.out)).1 hL)
  obtain ⟨D, hD⟩ : ∃ D, D = decide (Trk.nf R.t = Trk.nf cur.t) := ⟨_, rfl⟩
  rw [← hD] at SA
  have HDD := Lib.hid hD
  clear hR hRt hD
  go_upto_region 14 with fail
  have hx4 : w8.cell? ⟨b5, 4, none⟩ = some (.slice xa xn xc) := by have := HRC.out 4 _ rfl; simpa using this
  refine Plan.wp_region_plan (fun w' => w'.cell? ⟨b5, 4, none⟩ = some (.slice xa xn xc)) (([0, 1, 2].map (·, true)) ++ (([3, 4].map (·, false)) ++ ([5].map (·, true)))) (by kernel_rfl) (by kernel_rfl) (by kernel_rfl) hx4 ?_
  refine' Plan.plan_seg _ [0, 1, 2] (([3, 4].map (·, false)) ++ ([5].map (·, true))) (by kernel_rfl) (by kernel_rfl) rfl (by exact hx4) (fun wx hS => ?_) ?_
  rotate_left
  ·go_light
   iterate 3 (apply Plan.seg_pick; rfl; intro K hK; go_wp)
   exact Plan.seg_nil
  obtain ⟨v1, hv1⟩ : ∃ x, x = w8.drew := ⟨_, rfl⟩
  rw [← hv1]
  have hb : Below w8.heap.size w8 v1 := by rw [hv1]; exact (Below.refl _ _).drew
  replace hx4 : v1.cell? ⟨b5, 4, none⟩ = some (.slice xa xn xc) := by rw [hv1]; exact hx4
  have HX4 := Lib.hid hx4
  replace HP := Lib.hid (HP.out.below hb)
  replace HX := Lib.hid (HX.out.below hb)
  replace HRC := Lib.hid (rangeAt_below HRC.out (by simp [revL]) hb)
  replace HB := Lib.hid (HB.out.trans (hb.mono HB.out.size))
  clear hb hv1 hx4
  refine Plan.plan_of_effect rfl (fun K hK => ?_)
  go_wp2_with fail
  refine (CU.out _ HP.out).mono ?_
  rintro e v2 ⟨⟨cv2, rfl, hcv⟩, hb⟩
  have HCV := Lib.hid (hcv.get.below hb)
  replace HX4 := Lib.hid ((hb.cell (p := ⟨b5, 4, none⟩) (block_lt_of_cell HX4.out)).trans HX4.out)
  replace HP := Lib.hid (HP.out.below hb)
  replace HX := Lib.hid (HX.out.below hb)
  replace HRC := Lib.hid (rangeAt_below HRC.out (by simp [revL]) hb)
  replace HB := Lib.hid (HB.out.trans (hb.mono HB.out.size))
  clear hb hcv
  go_wp2_with fail
  refine ⟨HX4.out, ?_⟩
  refine Plan.plan_of_effect rfl (fun K hK => ?_)
  go_wp2_with fail
  refine (SA.out _ _ _ HX.out.tk HCV.out).mono ?_
  rintro e v3 ⟨rfl, hb⟩
  replace HX4 := Lib.hid ((hb.cell (p := ⟨b5, 4, none⟩) (block_lt_of_cell HX4.out)).trans HX4.out)
  replace HP := Lib.hid (HP.out.below hb)
  replace HX := Lib.hid (HX.out.below hb)
  replace HRC := Lib.hid (rangeAt_below HRC.out (by simp [revL]) hb)
  replace HB := Lib.hid (HB.out.trans (hb.mono HB.out.size))
  clear hb
  go_wp2_with fail
  refine ⟨HX4.out, ?_⟩
  refine' Plan.plan_seg _ [5] [] (by kernel_rfl) (by kernel_rfl) rfl (by exact HX4.out) (fun wx hS => ?_) ?_
  rotate_left
  ·clear hS
   go_light
   iterate 1 (apply Plan.seg_pick; rfl; intro K hK; go_wp)
   exact Plan.seg_nil
  refine Plan.plan_done ?_
  by_cases hs : Trk.nf R.t = Trk.nf cur.t
  ·have hD : D = true := by rw [HDD.out]; exact decide_eq_true hs
   rw [hD]
   have HS := Lib.hid hs
   clear hs hD HDD
   go_wp2_with fail
   go_ret
   refine ⟨0, d, rfl, ?_, .inl ⟨rfl, HB.out⟩⟩
   have := CommitR.merge (t := t) HLK.out kb rfl (by have := HK.out; have := HKL.out; omega) (by have := HK.out; have := HNF.out; omega) cur b (by unfold curR; rw [HK.out]; exact HCUR.out) HBK.out x HMR.out
   unfold addR at this
   rw [← HRE.out] at this
   rwa [if_pos HS.out] at this
  have hD : D = false := by rw [HDD.out]; exact decide_eq_false hs
  rw [hD]
  have HS := Lib.hid hs
  clear hs hD HDD SA CU HX4
  go_upto_region 15 with fail
  apply wp_region_lit
  iterate 3 go_step
  refine wpl_loadR HRC.out rfl rfl rfl ?_
  simp only [Act.put, List.setIfInBounds_toArray, List.set_cons_succ, List.set_cons_zero]
  have AD := Lib.hid (addrev_any g o m d R (.slice xa xn xc) v3 HP.out (by intro h; have := HK.out; rw [h] at this; simp at this) (by have := HK.out; have := HNK.out; omega) (HX.out.ts HGB.out))
  go_wp2_with fail
  refine AD.out.mono ?_
  rintro e v4 ⟨rfl, q, cap, hq, hbb, hor⟩
  go_wp2_with fail
  go_ret
  refine ⟨0, { d with revs := d.revs ++ [R] }, rfl, ?_, .inr ⟨q, cap, d.revs ++ [R], rfl, Nat.le_trans HB.out.size hq, ?_, hor.top⟩⟩
  ·have := CommitR.merge (t := t) HLK.out kb rfl (by have := HK.out; have := HKL.out; omega) (by have := HK.out; have := HNF.out; omega) cur b (by unfold curR; rw [HK.out]; exact HCUR.out) HBK.out x HMR.out
   unfold addR at this
   rw [← HRE.out] at this
   rwa [if_neg HS.out] at this
  ·rw [List.length_append, List.length_singleton]
   exact (below_set_both HB.out _ _).trans (hbb.mono HB.out.size)
 ·have hz2 : decide (code = 0) = false := decide_eq_false hz
  have HZ := Lib.hid hz
  go_wp2_with fail
  go_ret
  exact ⟨code, d, rfl, .fails HLK.out kb rfl (by have := HK.out; have := HKL.out; omega) (by have := HK.out; have := HNF.out; omega) cur b (by unfold curR; rw [HK.out]; exact HCUR.out) HBK.out code x HMR.out HZ.out, .inl ⟨rfl, HB.out⟩⟩
inductive RevertR (d : Dc) (j : Nat) (kind : Int) (u : ByteArray) : Int → Dc → Prop where
 | full (h : 64 ≤ d.revs.length) : RevertR d j kind u 18 d
 | fails (h : d.revs.length < 64) (cur r p : Rv) (hc : curR d cur) (hr : d.revs[j]? = some r) (hp : d.revs[j - 1]? = some p) (c : Int) (x : List Trk.Clip) (hm : MergeR r.t cur.t p.t c x) (hz : c ≠ 0) : RevertR d j kind u c d
 | done (h : d.revs.length < 64) (cur r p : Rv) (hc : curR d cur) (hr : d.revs[j]? = some r) (hp : d.revs[j - 1]? = some p) (x : List Trk.Clip) (hm : MergeR r.t cur.t p.t 0 x) : RevertR d j kind u 0 { d with revs := (d.revs ++ [(⟨kind, u, (j : Int), false, x⟩ : Rv)]).set j { r with back := true } }
set_option maxRecDepth 100000 in
set_option maxHeartbeats 16000000 in
theorem revert_any {L : Int} (g o m : Nat) (d : Dc) (j : Nat) (kind : Int) (u : ByteArray) (w : World) (h : PD w g o m d) (hR : RvsOK L d.revs) (j0 : 1 ≤ j) (j1 : j < d.revs.length) (hL : L ≤ 140737488355328) :
  Calls Tryz.prog 167 #[.pointer (some ⟨g, o, none⟩), .int .i64 (j : Int), .int .i64 kind, .string u] w (PtrPost w g o d (RevertR d j kind u)) := by
 have HP := Lib.hid h
 have HM0 := Lib.hid h.m0
 have HRR := Lib.hid hR
 have hn0 := HRR.out.l0
 have hn1 := HRR.out.l1
 obtain ⟨k, hk⟩ : ∃ k, d.revs.length = k + 1 := ⟨d.revs.length - 1, by omega⟩
 obtain ⟨cur, hcur⟩ : ∃ cur, d.revs[k]? = some cur := ⟨_, List.getElem?_eq_getElem (by omega)⟩
 obtain ⟨i, hi⟩ : ∃ i, j = i + 1 := ⟨j - 1, by omega⟩
 obtain ⟨r, hr⟩ : ∃ r, d.revs[j]? = some r := ⟨_, List.getElem?_eq_getElem j1⟩
 obtain ⟨p, hp⟩ : ∃ p, d.revs[i]? = some p := ⟨_, List.getElem?_eq_getElem (by omega)⟩
 obtain ⟨rv, hcd, hrs⟩ := HP.out.r
 obtain ⟨rb, ro, rc, cv, hrv, hcc, hct⟩ := hrs.nth hr
 obtain ⟨rb2, ro2, rc2, pv, hrv2, hcc2, hpt⟩ := hrs.nth hp
 rw [hrv] at hrv2
 simp only [Value.slice.injEq, Option.some.injEq, Addr.mk.injEq, and_true, true_and] at hrv2
 obtain ⟨⟨rfl, rfl⟩, rfl⟩ := hrv2
 rw [hk] at hrv
 have d3 : w.cell? ⟨g, o + 3, none⟩ = some rv := hcd 3 _ rfl
 have e4 : w.cell? ⟨rb, ro + j * 5 + 4, none⟩ = some cv := hcc 4 _ rfl
 have f4 : w.cell? ⟨rb, ro + i * 5 + 4, none⟩ = some pv := hcc2 4 _ rfl
 subst hrv
 obtain ⟨ba, bc, hbv, -⟩ := hct.get
 obtain ⟨bn, hbn⟩ : ∃ n, n = r.t.length := ⟨_, rfl⟩
 rw [← hbn] at hbv
 subst hbv
 obtain ⟨pa, pc, hpv, -⟩ := hpt.get
 obtain ⟨pn, hpn⟩ : ∃ n, n = p.t.length := ⟨_, rfl⟩
 rw [← hpn] at hpv
 subst hpv
 have HRV := Lib.hid hct.get
 have HPV := Lib.hid hpt.get
 have HRJ := Lib.hid (And.intro hr hp)
 have HK := Lib.hid hk
 have HCUR := Lib.hid hcur
 have HIJ := Lib.hid (show 1 ≤ j ∧ j < k + 1 ∧ j = i + 1 ∧ k < 64 from ⟨j0, by omega, hi, by omega⟩)
 have CU := Lib.hid (fun w (h : PD w g o m d) => current_any g o m d cur w h k HK.out HCUR.out)
 have MG := Lib.hid (fun v2 w (h1 : Tk w (.slice ba bn bc) r.t) (h2 : Tk w v2 cur.t) (h3 : Tk w (.slice pa pn pc) p.t) => merge_any (.slice ba bn bc) v2 (.slice pa pn pc) r.t cur.t p.t w h1 h2 h3 (HRR.out.v r (List.mem_of_getElem? hr)).1 (HRR.out.v cur (List.mem_of_getElem? hcur)).1 (HRR.out.v p (List.mem_of_getElem? hp)).1 hL)
 have HS4 := Lib.hid (And.intro d3 (And.intro e4 f4))
 clear h hR hcd hrs hcc hcc2 hct hpt hbn hpn hk hcur hr hp j0 j1 hi hn0 hn1 e4 f4
 go_enter Tryz.func167, Tryz.ntmps167
 go_upto_region 1 with fail
 by_cases hfull : k = 63
 ·subst hfull
  go_wp2_with fail
  go_ret
  exact ⟨18, d, rfl, .full (by rw [HK.out]; omega), .inl ⟨rfl, Below.refl _ _⟩⟩
 have hnf : ¬ 64 ≤ (k : Int) + 1 := by have := HIJ.out; omega
 have HNF := Lib.hid (show k + 1 < 64 by have := HIJ.out; omega)
 have hkk : ((k : Int) + 1) ≤ 9223372036854775807 := by have := HNF.out; omega
 go_upto_region 3 with fail
 clear hfull hnf hkk d3
 have HQ := Lib.hid (show (¬ ((j : Int) < 0) ∧ (j : Int) < ((k + 1 : Nat) : Int)) ∧ (¬ ((i : Int) < 0) ∧ (i : Int) < ((k + 1 : Nat) : Int)) ∧ (j : Int) - 1 = (i : Int) ∧ (i : Int) ≤ 9223372036854775807 from ⟨⟨by omega, by have := HIJ.out; omega⟩, ⟨by omega, by have := HIJ.out; omega⟩, by have := HIJ.out; omega, by have := HIJ.out; omega⟩)
 refine Plan.wp_region_plan (fun w' => Below w.heap.size w w') (([0, 1, 2, 3, 4, 5, 6, 7, 8, 10, 11, 12, 13, 14, 15, 16, 17, 18].map (·, true)) ++ (([9, 19].map (·, false)) ++ ([20, 21, 22, 23, 24].map (·, true)))) (by kernel_rfl) (by kernel_rfl) (by kernel_rfl) (Below.refl _ _).drew ?_
 refine' Plan.plan_seg _ [0, 1, 2, 3, 4, 5, 6, 7, 8, 10, 11, 12, 13, 14, 15, 16, 17, 18] (([9, 19].map (·, false)) ++ ([20, 21, 22, 23, 24].map (·, true))) (by kernel_rfl) (by kernel_rfl) rfl (by exact (Below.refl _ _).drew) (fun wx hS => ?_) ?_
 rotate_left
 ·have d3 := (hS.cell (p := ⟨g, o + 3, none⟩) (block_lt_of_cell HS4.out.1)).trans HS4.out.1
  have e4 := (hS.cell (p := ⟨rb, ro + j * 5 + 4, none⟩) (block_lt_of_cell HS4.out.2.1)).trans HS4.out.2.1
  have f4 := (hS.cell (p := ⟨rb, ro + i * 5 + 4, none⟩) (block_lt_of_cell HS4.out.2.2)).trans HS4.out.2.2
  obtain ⟨⟨hq0, hq1⟩, ⟨hq2, hq3⟩, hq4, hq5⟩ := HQ.out
  clear hS
  go_light
  iterate 18 (apply Plan.seg_pick; rfl; intro K hK; go_wp)
  exact Plan.seg_nil
 have hb : Below w.heap.size w w.drew := (Below.refl _ _).drew
 replace HRV := Lib.hid (HRV.out.below hb)
 replace HPV := Lib.hid (HPV.out.below hb)
 replace HP := Lib.hid (HP.out.below hb)
 have HB := Lib.hid hb
 clear hb
 refine Plan.plan_of_effect rfl (fun K hK => ?_)
 go_wp2_with fail
 refine (CU.out _ HP.out).mono ?_
 rintro e w6 ⟨⟨cv2, rfl, hcv⟩, hb⟩
 have HCV := Lib.hid (hcv.get.below hb)
 replace HRV := Lib.hid (HRV.out.below hb)
 replace HPV := Lib.hid (HPV.out.below hb)
 replace HP := Lib.hid (HP.out.below hb)
 replace HB := Lib.hid (HB.out.trans (hb.mono HB.out.size))
 clear hb hcv
 go_wp2_with fail
 refine ⟨HB.out, ?_⟩
 refine Plan.plan_of_effect rfl (fun K hK => ?_)
 go_wp2_with fail
 refine (MG.out _ _ HRV.out HCV.out HPV.out).mono ?_
 rintro e w7 ⟨xv, code, x, rfl, ho, hb, hmr⟩
 have HG7 := Lib.hid (show g < w6.heap.size from HP.out.g0)
 replace HP := Lib.hid (HP.out.below hb)
 replace HB := Lib.hid (HB.out.trans (hb.mono HB.out.size))
 have HMR := Lib.hid hmr
 obtain ⟨xa, xc, hxv, -⟩ := ho.tk
 obtain ⟨xn, hxn⟩ : ∃ n, n = x.length := ⟨_, rfl⟩
 rw [← hxn] at hxv
 subst hxv
 have HO := Lib.hid ho
 clear hb ho hxn hmr
 go_wp2_with fail
 refine ⟨HB.out, ?_⟩
 refine' Plan.plan_seg _ [20, 21, 22, 23, 24] [] (by kernel_rfl) (by kernel_rfl) rfl (by exact HB.out) (fun wx hS => ?_) ?_
 rotate_left
 ·clear hS
  go_light
  iterate 5 (apply Plan.seg_pick; rfl; intro K hK; go_wp)
  exact Plan.seg_nil
 refine Plan.plan_done ?_
 clear CU MG HCV HRV HPV HS4 HQ
 by_cases hz : code = 0
 ·subst hz
  obtain ⟨R, hR⟩ : ∃ R : Rv, R = ⟨kind, u, (j : Int), false, x⟩ := ⟨_, rfl⟩
  have HRE := Lib.hid hR
  have hRt : R.t = x := by rw [hR]
  have AD := Lib.hid (addrev_any g o m d R (.slice xa xn xc) w7 HP.out (by intro h; have := HK.out; rw [h] at this; simp at this) (by have := HK.out; have := HNF.out; omega) (by rw [hRt]; exact HO.out.ts HG7.out))
  rw [hR] at AD
  unfold revL at AD
  dsimp only at AD
  rw [← hR] at AD
  clear hR hRt
  go_upto_region 6 with fail
  go_wp2_with fail
  refine AD.out.mono ?_
  rintro e w8 ⟨rfl, q, cap, hq, hbb, hor⟩
  have hc7 : ∃ old, w7.cell? ⟨g, o + 3, none⟩ = some old := by
   obtain ⟨rv, hcd, -⟩ := HP.out.r
   exact ⟨_, hcd 3 _ rfl⟩
  obtain ⟨old, hc7⟩ := hc7
  have hl : d.revs.length + 1 = k + 1 + 1 := by rw [HK.out]
  have hd8 : w8.cell? ⟨g, o + 3, none⟩ = some (.slice (some ⟨q, 0, none⟩) (k + 1 + 1) cap) := by
   have h1 := hbb.cell (p := ⟨g, o + 3, none⟩) HP.out.g0
   rw [h1, ← hl]
   simp [go_sem, hc7, HP.out.f]
  have hrj : (d.revs ++ [R])[j]? = some r := by rw [List.getElem?_append_left (by rw [HK.out]; exact HIJ.out.2.1)]; exact HRJ.out.1
  obtain ⟨uu, hru, -⟩ := hor.cells hrj
  have he8 : w8.cell? ⟨q, j * 5 + 3, none⟩ = some (.bool r.back) := hru 3 _ rfl
  have hf8 := hor.frozen (j * 5 + 3)
  have HOR := Lib.hid (hor.setBack hrj true)
  have HBB := Lib.hid (And.intro hq hbb)
  have hq0 : ¬ ((j : Int) < 0) := by omega
  have hq1 : (j : Int) < ((k + 1 + 1 : Nat) : Int) := by have := HIJ.out; omega
  have hq2 : (j : Int) < (k : Int) + 1 + 1 := by have := HIJ.out; omega
  clear hq hbb hor hrj hru hc7 hl AD
  go_wp2_with fail
  go_ret
  refine ⟨0, _, rfl, .done (by have := HK.out; have := HNF.out; omega) cur r p (by unfold curR; rw [HK.out]; exact HCUR.out) HRJ.out.1 (by have := HIJ.out.2.2.1; rw [this]; exact HRJ.out.2) x HMR.out, .inr ⟨q, cap, _, rfl, Nat.le_trans HB.out.size HBB.out.1, ?_, ?_⟩⟩
  ·rw [← HRE.out, List.length_set, List.length_append, List.length_singleton]
   have := below_setCells q (Nat.le_trans HB.out.size HBB.out.1) [.bool true] (j * 5 + 3) _ ((below_set_both HB.out ⟨g, o + 3, none⟩ (.slice (some ⟨q, 0, none⟩) (d.revs.length + 1) cap)).trans (HBB.out.2.mono HB.out.size))
   simpa only [World.setCells] using this
  ·have := HOR.out.top
   rw [← HRE.out]
   exact this
 ·have hz2 : decide (code = 0) = false := decide_eq_false hz
  have HZ := Lib.hid hz
  go_wp2_with fail
  go_ret
  exact ⟨code, d, rfl, .fails (by have := HK.out; have := HNF.out; omega) cur r p (by unfold curR; rw [HK.out]; exact HCUR.out) HRJ.out.1 (by have := HIJ.out.2.2.1; rw [this]; exact HRJ.out.2) code x HMR.out HZ.out, .inl ⟨rfl, HB.out⟩⟩
theorem Chg.from {w w1 w2 : World} {g o : Nat} {d d' : Dc} (hb : Below w.heap.size w w1) (h : Chg w1 g o d d' w2) : Chg w g o d d' w2 := by
 rcases h with ⟨e, h⟩ | ⟨q, cap, rs, e, hq, hbb, ho⟩
 ·exact .inl ⟨e, hb.trans (h.mono hb.size)⟩
 ·exact .inr ⟨q, cap, rs, e, Nat.le_trans hb.size hq, (below_set_both hb _ _).trans (hbb.mono hb.size), ho⟩
def openB (d : Dc) (u : ByteArray) (j : Nat) : Bool := match d.revs[j]? with
 | some r => changedB r u && !r.back
 | none => false
inductive UndoR (d : Dc) (u : ByteArray) : Int → Dc → Prop where
 | locked (h : Held d u) : UndoR d u 11 d
 | none (h : ¬ Held d u) (hn : ∀ j, 1 ≤ j → openB d u j = false) : UndoR d u 13 d
 | some (h : ¬ Held d u) (j : Nat) (j0 : 1 ≤ j) (j1 : j < d.revs.length) (ho : openB d u j = true) (hn : ∀ i, j < i → openB d u i = false) (code : Int) (d' : Dc) (hr : RevertR d j 4 u code d') : UndoR d u code d'
theorem openB_out {d : Dc} {u : ByteArray} {j : Nat} (h : d.revs.length ≤ j) : openB d u j = false := by
 unfold openB
 rw [List.getElem?_eq_none h]
set_option maxRecDepth 100000 in
set_option maxHeartbeats 16000000 in
theorem undo_any {L : Int} (g o m : Nat) (d : Dc) (u : ByteArray) (w : World) (h : PD w g o m d) (hd : ownOK d) (hR : RvsOK L d.revs) (hL : L ≤ 140737488355328) :
  Calls Tryz.prog 149 #[.pointer (some ⟨g, o, none⟩), .string u] w (PtrPost w g o d (UndoR d u)) := by
 have HP := Lib.hid h
 have HD := Lib.hid hd
 have HRR := Lib.hid hR
 have hn0 := hR.l0
 have hn1 := hR.l1
 obtain ⟨k, hk⟩ : ∃ k, d.revs.length = k + 1 := ⟨d.revs.length - 1, by omega⟩
 have HK := Lib.hid hk
 have HNK := Lib.hid (show k < 64 by omega)
 obtain ⟨rv, hcd, hrs⟩ := HP.out.r
 obtain ⟨c0, hc0⟩ : ∃ c0, d.revs[k]? = some c0 := ⟨_, List.getElem?_eq_getElem (by omega)⟩
 obtain ⟨rb, ro, rc, cv, hrv, -, -⟩ := hrs.nth hc0
 rw [hk] at hrv
 have d3 : w.cell? ⟨g, o + 3, none⟩ = some rv := hcd 3 _ rfl
 subst hrv
 have HN := Lib.hid (fun (j : Nat) (r : Rv) (hj : d.revs[j]? = some r) => show ∃ tv, w.rangeAt rb (ro + j * 5) (revL r tv) ∧ Tk w tv r.t by
  obtain ⟨rb2, ro2, rc2, pv, hrv2, hcc2, hpt⟩ := hrs.nth hj
  simp only [Value.slice.injEq, Option.some.injEq, Addr.mk.injEq, and_true, true_and] at hrv2
  obtain ⟨⟨rfl, rfl⟩, -⟩ := hrv2
  exact ⟨pv, hcc2, hpt.get⟩)
 have HD3 := Lib.hid d3
 clear h hd hR hcd hrs hc0 hn0 hn1 hk
 go_enter Tryz.func149, Tryz.ntmps149
 go_wp2_with fail
 refine (locked_any g o m d u w HP.out HD.out).mono ?_
 rintro e w2 ⟨rfl, rfl⟩
 by_cases hlk : Held d u
 ·rw [decide_eq_true hlk]
  have HLK := Lib.hid hlk
  clear hlk
  go_wp2_with fail
  go_ret
  exact ⟨11, d, rfl, .locked HLK.out, .inl ⟨rfl, Below.refl _ _⟩⟩
 rw [decide_eq_false hlk]
 have HLK := Lib.hid hlk
 clear hlk
 have hkk : ((k : Int) + 1) ≤ 9223372036854775807 := by have := HNK.out; omega
 go_upto_region 4 with fail
 clear hkk d3
 go_loopw [5] (fun i wr => ∃ c : Nat, c < k + 1 ∧ i = .int .i64 (c : Int) ∧ Below w2.heap.size w2 wr ∧ ∀ j, c < j → openB d u j = false) (fun i _ => (intOf i).toNat)
 case atStart => exact ⟨k, by omega, rfl, Below.refl _ _, fun j hj => openB_out (by have := HK.out; omega)⟩
 case round =>
  obtain ⟨c, hc, rfl, hb, hno⟩ := hrel
  have HB := Lib.hid hb
  have HNO := Lib.hid hno
  have HC := Lib.hid hc
  clear hb hno hc
  by_cases hc0 : c = 0
  ·subst hc0
   go_wp2_with fail
   go_ret
   exact ⟨13, d, rfl, .none HLK.out (fun j hj => HNO.out j (by omega)), .inl ⟨rfl, HB.out⟩⟩
  have hpos : 0 < (c : Int) := by omega
  obtain ⟨r, hr⟩ : ∃ r, d.revs[c]? = some r := ⟨_, List.getElem?_eq_getElem (by have := HK.out; have := HC.out; omega)⟩
  obtain ⟨tv, hrt, htk⟩ := HN.out c r hr
  have HRT := Lib.hid (rangeAt_below hrt (by simp [revL]) HB.out)
  have HTO := Lib.hid htk.one
  have HRC := Lib.hid hr
  have hd3 := (HB.out.cell (p := ⟨g, o + 3, none⟩) (block_lt_of_cell HD3.out)).trans HD3.out
  have hbk : wr.cell? ⟨rb, ro + c * 5 + 3, none⟩ = some (.bool r.back) := HRT.out 3 _ rfl
  have hq1 : (c : Int) < ((k + 1 : Nat) : Int) := by have := HC.out; omega
  have hq0 : ¬ ((c : Int) < 0) := by omega
  have HC0 := Lib.hid hc0
  clear hrt htk hr hc0
  go_upto_region 6 with fail
  apply wp_region_lit
  iterate 18 go_step
  refine wpl_loadR HRT.out rfl rfl rfl ?_
  go_wp2_with fail
  refine (changed_any r tv u wr HTO.out).mono ?_
  rintro e w4 ⟨rfl, hb⟩
  replace hd3 := (hb.cell (p := ⟨g, o + 3, none⟩) (block_lt_of_cell hd3)).trans hd3
  replace hbk := (hb.cell (p := ⟨rb, ro + c * 5 + 3, none⟩) (block_lt_of_cell hbk)).trans hbk
  replace HB := Lib.hid (HB.out.trans (hb.mono HB.out.size))
  clear hb HRT
  have HOB := Lib.hid (show openB d u c = (changedB r u && !r.back) by unfold openB; rw [HRC.out])
  obtain ⟨B, hB⟩ : ∃ B, B = changedB r u := ⟨_, rfl⟩
  rw [← hB] at HOB ⊢
  clear hB
  obtain ⟨e1, he1⟩ : ∃ e1 : Nat, c = e1 + 1 := ⟨c - 1, by have := HC0.out; omega⟩
  have hs1 : (c : Int) - 1 = (e1 : Int) := by omega
  have hs2 : (e1 : Int) ≤ 9223372036854775807 := by have := HC.out; have := HNK.out; omega
  have HE1 := Lib.hid he1
  clear he1
  cases B with
  | false =>
   go_wp2_with fail
   refine ⟨⟨e1, by have := HC.out; have := HE1.out; omega, rfl, HB.out, fun j hj => ?_⟩, by have := HE1.out; simp [intOf]; omega⟩
   by_cases hjc : j = c
   ·rw [hjc, HOB.out]
    rfl
   ·exact HNO.out j (by have := HE1.out; omega)
  | true =>
   obtain ⟨kd, by2, bs2, bk, tt⟩ := r
   dsimp only at hbk HOB
   cases bk with
   | true =>
    go_wp2_with fail
    refine ⟨⟨e1, by have := HC.out; have := HE1.out; omega, rfl, HB.out, fun j hj => ?_⟩, by have := HE1.out; simp [intOf]; omega⟩
    by_cases hjc : j = c
    ·rw [hjc, HOB.out]
     rfl
    ·exact HNO.out j (by have := HE1.out; omega)
   | false =>
    go_wp2_with fail
    have HRJ := Lib.hid (revert_any g o m d c 4 u w4 (HP.out.below HB.out) HRR.out (by have := HC0.out; omega) (by have := HK.out; have := HC.out; omega) hL)
    refine HRJ.out.mono ?_
    rintro e w5 ⟨code, d', rfl, hrv, hch⟩
    have HV := Lib.hid hrv
    have HCH := Lib.hid (Chg.from HB.out hch)
    clear hrv hch HRJ
    go_wp2_with fail
    go_ret
    exact ⟨code, d', rfl, .some HLK.out c (by have := HC0.out; omega) (by have := HK.out; have := HC.out; omega) (by rw [HOB.out]; rfl) HNO.out code d' HV.out, HCH.out⟩
def takeB (d : Dc) (u : ByteArray) (j : Nat) : Bool := match d.revs[j]? with
 | some r => decide (r.kind = 4) && decide (r.by_ = u) && !r.back
 | none => false
def hitB (d : Dc) (u : ByteArray) (j : Nat) : Bool := match d.revs[j]? with
 | some r => changedB r u
 | none => false
def skipB (d : Dc) (u : ByteArray) (j : Nat) : Bool := !hitB d u j && !takeB d u j
def unback (d : Dc) (b : Nat) : Dc := match d.revs[b]? with
 | some r => { d with revs := d.revs.set b { r with back := false } }
 | none => d
inductive RedoR (d : Dc) (u : ByteArray) : Int → Dc → Prop where
 | locked (h : Held d u) : RedoR d u 11 d
 | none (h : ¬ Held d u) (hn : ∀ j, 1 ≤ j → skipB d u j = true) : RedoR d u 13 d
 | hit (h : ¬ Held d u) (j : Nat) (j0 : 1 ≤ j) (ho : hitB d u j = true) (hn : ∀ i, j < i → skipB d u i = true) : RedoR d u 13 d
 | fails (h : ¬ Held d u) (j : Nat) (j0 : 1 ≤ j) (j1 : j < d.revs.length) (hh : hitB d u j = false) (ho : takeB d u j = true) (hn : ∀ i, j < i → skipB d u i = true) (code : Int) (d' : Dc) (hz : code ≠ 0) (hr : RevertR d j 5 u code d') : RedoR d u code d'
 | done (h : ¬ Held d u) (j : Nat) (j0 : 1 ≤ j) (j1 : j < d.revs.length) (hh : hitB d u j = false) (ho : takeB d u j = true) (hn : ∀ i, j < i → skipB d u i = true) (d' : Dc) (hr : RevertR d j 5 u 0 d') (r : Rv) (hj : d.revs[j]? = some r) (b : Nat) (hb : r.base = (b : Int)) : RedoR d u 0 (unback d' b)
theorem skipB_out {d : Dc} {u : ByteArray} {j : Nat} (h : d.revs.length ≤ j) : skipB d u j = true := by
 unfold skipB hitB takeB
 rw [List.getElem?_eq_none h]
 rfl
theorem RevertR.zero_len {d d' : Dc} {j : Nat} {kind code : Int} {u : ByteArray} (h : RevertR d j kind u code d') (hz : code = 0) : d'.revs.length = d.revs.length + 1 := by
 cases h with
 | full h => omega
 | fails h cur r p hc hr hp c x hm hz' => exact absurd hz hz'
 | done h cur r p hc hr hp x hm => simp
set_option maxRecDepth 100000 in
set_option maxHeartbeats 16000000 in
theorem redo_any {L : Int} (g o m : Nat) (d : Dc) (u : ByteArray) (w : World) (h : PD w g o m d) (hd : ownOK d) (hR : RvsOK L d.revs) (hB : ∀ (j : Nat) (r : Rv), d.revs[j]? = some r → r.kind = 4 → 0 ≤ r.base ∧ r.base < (j : Int)) (hL : L ≤ 140737488355328) :
  Calls Tryz.prog 150 #[.pointer (some ⟨g, o, none⟩), .string u] w (PtrPost w g o d (RedoR d u)) := by
 have HP := Lib.hid h
 have HD := Lib.hid hd
 have HRR := Lib.hid hR
 have HBS := Lib.hid hB
 have hn0 := hR.l0
 have hn1 := hR.l1
 obtain ⟨k, hk⟩ : ∃ k, d.revs.length = k + 1 := ⟨d.revs.length - 1, by omega⟩
 have HK := Lib.hid hk
 have HNK := Lib.hid (show k < 64 by omega)
 obtain ⟨rv, hcd, hrs⟩ := HP.out.r
 obtain ⟨c0, hc0⟩ : ∃ c0, d.revs[k]? = some c0 := ⟨_, List.getElem?_eq_getElem (by omega)⟩
 obtain ⟨rb, ro, rc, cv, hrv, -, -⟩ := hrs.nth hc0
 rw [hk] at hrv
 have d3 : w.cell? ⟨g, o + 3, none⟩ = some rv := hcd 3 _ rfl
 subst hrv
 have HN := Lib.hid (fun (j : Nat) (r : Rv) (hj : d.revs[j]? = some r) => show ∃ tv, w.rangeAt rb (ro + j * 5) (revL r tv) ∧ Tk w tv r.t by
  obtain ⟨rb2, ro2, rc2, pv, hrv2, hcc2, hpt⟩ := hrs.nth hj
  simp only [Value.slice.injEq, Option.some.injEq, Addr.mk.injEq, and_true, true_and] at hrv2
  obtain ⟨⟨rfl, rfl⟩, -⟩ := hrv2
  exact ⟨pv, hcc2, hpt.get⟩)
 have HD3 := Lib.hid d3
 clear h hd hR hB hcd hrs hc0 hn0 hn1 hk
 go_enter Tryz.func150, Tryz.ntmps150
 go_wp2_with fail
 refine (locked_any g o m d u w HP.out HD.out).mono ?_
 rintro e w2 ⟨rfl, rfl⟩
 by_cases hlk : Held d u
 ·rw [decide_eq_true hlk]
  have HLK := Lib.hid hlk
  clear hlk
  go_wp2_with fail
  go_ret
  exact ⟨11, d, rfl, .locked HLK.out, .inl ⟨rfl, Below.refl _ _⟩⟩
 rw [decide_eq_false hlk]
 have HLK := Lib.hid hlk
 clear hlk
 have hkk : ((k : Int) + 1) ≤ 9223372036854775807 := by have := HNK.out; omega
 go_upto_region 4 with fail
 clear hkk d3
 go_loopw [5] (fun i wr => ∃ c : Nat, c < k + 1 ∧ i = .int .i64 (c : Int) ∧ Below w2.heap.size w2 wr ∧ ∀ j, c < j → skipB d u j = true) (fun i _ => (intOf i).toNat)
 case atStart => exact ⟨k, by omega, rfl, Below.refl _ _, fun j hj => skipB_out (by have := HK.out; omega)⟩
 case round =>
  obtain ⟨c, hc, rfl, hb, hno⟩ := hrel
  have HB := Lib.hid hb
  have HNO := Lib.hid hno
  have HC := Lib.hid hc
  clear hb hno hc
  by_cases hc0 : c = 0
  ·subst hc0
   go_wp2_with fail
   go_ret
   exact ⟨13, d, rfl, .none HLK.out (fun j hj => HNO.out j (by omega)), .inl ⟨rfl, HB.out⟩⟩
  have hpos : 0 < (c : Int) := by omega
  obtain ⟨r, hr⟩ : ∃ r, d.revs[c]? = some r := ⟨_, List.getElem?_eq_getElem (by have := HK.out; have := HC.out; omega)⟩
  obtain ⟨tv, hrt, htk⟩ := HN.out c r hr
  have HRT := Lib.hid (rangeAt_below hrt (by simp [revL]) HB.out)
  have HRC := Lib.hid hr
  have hd3 := (HB.out.cell (p := ⟨g, o + 3, none⟩) (block_lt_of_cell HD3.out)).trans HD3.out
  have hq1 : (c : Int) < ((k + 1 : Nat) : Int) := by have := HC.out; omega
  have hq0 : ¬ ((c : Int) < 0) := by omega
  have HC0 := Lib.hid hc0
  obtain ⟨ta, tc, htv, -⟩ := htk
  obtain ⟨tn, htn⟩ : ∃ n, n = r.t.length := ⟨_, rfl⟩
  rw [← htn] at htv
  subst htv
  have CH := Lib.hid (fun w => changed_any r (.slice ta tn tc) u w rfl)
  have HOB := Lib.hid (show hitB d u c = changedB r u by unfold hitB; rw [HRC.out])
  have HTB := Lib.hid (show takeB d u c = (decide (r.kind = 4) && decide (r.by_ = u) && !r.back) by unfold takeB; rw [HRC.out])
  obtain ⟨B, hB⟩ : ∃ B, B = changedB r u := ⟨_, rfl⟩
  rw [← hB] at HOB CH
  have HBASE := Lib.hid (HBS.out c r HRC.out)
  obtain ⟨kd, by2, bs2, bk, tt⟩ := r
  dsimp only at HTB HBASE CH
  unfold revL at HRT CH
  dsimp only at HRT CH
  clear hrt hr hc0 hB htn
  go_upto_region 6 with fail
  apply wp_region_lit
  iterate 18 go_step
  refine wpl_loadR (r := ⟨kd, by2, bs2, bk, tt⟩) HRT.out rfl rfl rfl ?_
  unfold revL
  go_upto_region 7 with fail
  obtain ⟨w3, hw3⟩ : ∃ y, y = wr.alloc (.cells #[.int .i64 kd, .string by2, .int .i64 bs2, .bool bk, .slice ta tn tc] 67) := ⟨_, rfl⟩
  obtain ⟨b6, hb6⟩ : ∃ y, y = wr.heap.size := ⟨_, rfl⟩
  have hb : Below wr.heap.size wr w3 := by rw [hw3]; exact below_box _ _
  have r0 : w3.cell? ⟨b6, 0, none⟩ = some (.int .i64 kd) := by rw [hw3, hb6]; simp [go_sem]
  have r1 : w3.cell? ⟨b6, 1, none⟩ = some (.string by2) := by rw [hw3, hb6]; simp [go_sem]
  have r2 : w3.cell? ⟨b6, 2, none⟩ = some (.int .i64 bs2) := by rw [hw3, hb6]; simp [go_sem]
  have r3 : w3.cell? ⟨b6, 3, none⟩ = some (.bool bk) := by rw [hw3, hb6]; simp [go_sem]
  have r4 : w3.cell? ⟨b6, 4, none⟩ = some (.slice ta tn tc) := by rw [hw3, hb6]; simp [go_sem]
  have HG6 := Lib.hid (show g < b6 by rw [hb6]; exact Nat.lt_of_lt_of_le HP.out.g0 HB.out.size)
  rw [← hw3, ← hb6]
  replace HB := Lib.hid (HB.out.trans (hb.mono HB.out.size))
  clear hb hw3 hb6 hd3 HRT
  go_wp2_with fail
  refine (CH.out w3).mono ?_
  rintro e w4 ⟨rfl, hb⟩
  replace r0 := (hb.cell (p := ⟨b6, 0, none⟩) (block_lt_of_cell r0)).trans r0
  replace r1 := (hb.cell (p := ⟨b6, 1, none⟩) (block_lt_of_cell r1)).trans r1
  replace r2 := (hb.cell (p := ⟨b6, 2, none⟩) (block_lt_of_cell r2)).trans r2
  replace r3 := (hb.cell (p := ⟨b6, 3, none⟩) (block_lt_of_cell r3)).trans r3
  replace HB := Lib.hid (HB.out.trans (hb.mono HB.out.size))
  clear hb r4 CH
  obtain ⟨e1, he1⟩ : ∃ e1 : Nat, c = e1 + 1 := ⟨c - 1, by have := HC0.out; omega⟩
  have hs1 : (c : Int) - 1 = (e1 : Int) := by omega
  have hs2 : (e1 : Int) ≤ 9223372036854775807 := by have := HC.out; have := HNK.out; omega
  have HE1 := Lib.hid he1
  clear he1
  cases B with
  | true =>
   go_wp2_with fail
   go_ret
   exact ⟨13, d, rfl, .hit HLK.out c (by have := HC0.out; omega) HOB.out HNO.out, .inl ⟨rfl, HB.out⟩⟩
  | false =>
   by_cases hk4 : kd = 4
   ·subst hk4
    by_cases hu : by2 = u
    ·subst hu
     cases bk with
     | true =>
      go_wp2_with fail
      refine ⟨⟨e1, by have := HC.out; have := HE1.out; omega, rfl, HB.out, fun j hj => ?_⟩, by have := HE1.out; simp [intOf]; omega⟩
      by_cases hjc : j = c
      ·rw [hjc]
       unfold skipB
       rw [HOB.out, HTB.out]
       simp
      ·exact HNO.out j (by have := HE1.out; omega)
     | false =>
      go_wp2_with fail
      have HRJ := Lib.hid (revert_any g o m d c 5 by2 w4 (HP.out.below HB.out) HRR.out (by have := HC0.out; omega) (by have := HK.out; have := HC.out; omega) hL)
      have HR2 := Lib.hid r2
      clear r0 r1 r2 r3 hpos hq1 hq0 hs1 hs2
      refine HRJ.out.mono ?_
      rintro e w5 ⟨code, d', rfl, hrv, hch⟩
      have HV := Lib.hid hrv
      have HCH := Lib.hid hch
      clear hrv hch HRJ
      by_cases hz : code = 0
      ·subst hz
       obtain ⟨q, cap, rs, hd', hq, hbb, hor⟩ : ∃ q cap rs, d' = { d with revs := rs } ∧ w4.heap.size ≤ q ∧ Below w4.heap.size (w4.setCell ⟨g, o + 3, none⟩ (.slice (some ⟨q, 0, none⟩) rs.length cap)) w5 ∧ OR w5 q cap q g rs := by
        rcases HCH.out with ⟨e, -⟩ | h
        ·exfalso
         have h1 := HV.out
         rw [e] at h1
         have h2 := h1.zero_len rfl
         omega
        ·exact h
       have hlen : rs.length = k + 1 + 1 := by
        have h2 := HV.out.zero_len rfl
        rw [hd'] at h2
        dsimp only at h2
        have := HK.out
        omega
       obtain ⟨bb, hbb2⟩ : ∃ bb : Nat, bs2 = (bb : Int) := ⟨bs2.toNat, by have := (HBASE.out (by trivial)).1; omega⟩
       have hbc := (HBASE.out (by trivial)).2
       subst hbb2
       have hbl : bb < rs.length := by have := HC.out; omega
       obtain ⟨rr, hrr⟩ : ∃ rr, rs[bb]? = some rr := ⟨_, List.getElem?_eq_getElem hbl⟩
       obtain ⟨uu, hru, -⟩ := hor.cells hrr
       have HW5 := Lib.hid (show w5.cell? ⟨g, o + 3, none⟩ = some (.slice (some ⟨q, 0, none⟩) (k + 1 + 1) cap) ∧ w5.cell? ⟨b6, 2, none⟩ = some (.int .i64 (bb : Int)) ∧ w5.cell? ⟨q, bb * 5 + 3, none⟩ = some (.bool rr.back) ∧ w5.frozen? ⟨q, bb * 5 + 3, none⟩ = false by
        refine ⟨?_, ?_, hru 3 _ rfl, hor.frozen _⟩
        ·have hP4 := HP.out.below HB.out
         obtain ⟨rv, hcd, -⟩ := hP4.r
         have h1 := hbb.cell (p := ⟨g, o + 3, none⟩) hP4.g0
         have h3 : w4.cell? ⟨g, o + 3, none⟩ = some rv := hcd 3 _ rfl
         rw [h1, ← hlen]
         simp [go_sem, h3]
        ·have h1 := hbb.cell (p := ⟨b6, 2, none⟩) (block_lt_of_cell HR2.out)
         rw [h1]
         have hne : b6 ≠ g := by have := HG6.out; omega
         have := World.cell?_of_block (a := ⟨b6, 2, none⟩) (setCells_other g b6 hne [.slice (some ⟨q, 0, none⟩) rs.length cap] (o + 3) w4)
         exact this.trans HR2.out)
       have HOR := Lib.hid (OR.setBack (w := w5.drew) (hor.on rfl (fun b hb => rfl)) hrr false)
       have HBB := Lib.hid (And.intro hq hbb)
       have HBI := Lib.hid (show ¬ ((bb : Int) < 0) ∧ (bb : Int) < ((k + 1 + 1 : Nat) : Int) from ⟨by omega, by have := HC.out; omega⟩)
       have HRS := Lib.hid (And.intro hd' hrr)
       clear hd' hq hbb hor hlen hbc hbl hrr hru HCH HBASE
       go_upto_region 12 with fail
       refine Plan.wp_region_planw (fun w' => Below w5.heap.size w5 w') 8 (([0, 1, 2, 3, 4, 5, 6, 7].map (·, true)) ++ ([8].map (·, false))) (by kernel_rfl) (by kernel_rfl) (by kernel_rfl) (Below.refl _ _).drew ?_
       refine' Plan.plan_seg _ [0, 1, 2, 3, 4, 5, 6, 7] [(8, false)] (by kernel_rfl) (by kernel_rfl) rfl (by exact (Below.refl _ _).drew) (fun wx hS => ?_) ?_
       rotate_left
       ·have s1 := (hS.cell (p := ⟨g, o + 3, none⟩) (block_lt_of_cell HW5.out.1)).trans HW5.out.1
        have s2 := (hS.cell (p := ⟨b6, 2, none⟩) (block_lt_of_cell HW5.out.2.1)).trans HW5.out.2.1
        obtain ⟨hi0, hi1⟩ := HBI.out
        clear hS
        go_light
        iterate 8 (apply Plan.seg_pick; rfl; intro K hK; go_wp)
        exact Plan.seg_nil
       have s3 : w5.drew.cell? ⟨q, bb * 5 + 3, none⟩ = some (.bool rr.back) := HW5.out.2.2.1
       have s4 : w5.drew.frozen? ⟨q, bb * 5 + 3, none⟩ = false := HW5.out.2.2.2
       obtain ⟨w6, hw6⟩ : ∃ y, y = w5.drew := ⟨_, rfl⟩
       rw [← hw6] at s3 s4 ⊢
       have HW6 := Lib.hid hw6
       clear hw6
       refine Plan.plan_of_last rfl (fun K hK => ?_)
       go_wp2_with fail
       refine Plan.plan_done ?_
       go_wp2_with fail
       go_ret
       refine ⟨0, unback d' bb, rfl, .done HLK.out c (by have := HC0.out; omega) (by have := HK.out; have := HC.out; omega) HOB.out (by rw [HTB.out]; simp) HNO.out d' HV.out _ HRC.out bb rfl, ?_⟩
       have hub : unback d' bb = { d with revs := rs.set bb { rr with back := false } } := by
        unfold unback
        rw [HRS.out.1]
        dsimp only
        rw [HRS.out.2]
       refine .inr ⟨q, cap, _, hub, Nat.le_trans HB.out.size HBB.out.1, ?_, ?_⟩
       ·rw [List.length_set]
        have h1 : Below w2.heap.size (w2.setCell ⟨g, o + 3, none⟩ (.slice (some ⟨q, 0, none⟩) rs.length cap)) w6 := by
         rw [HW6.out]
         exact ((below_set_both HB.out _ _).trans (HBB.out.2.mono HB.out.size)).drew
        have := below_setCells q (Nat.le_trans HB.out.size HBB.out.1) [.bool false] (bb * 5 + 3) _ h1
        simpa only [World.setCells] using this
       ·rw [HW6.out]
        exact HOR.out
      ·have HZ := Lib.hid hz
       have hz2 : decide (code = 0) = false := decide_eq_false hz
       have HCH2 := Lib.hid (Chg.from HB.out HCH.out)
       go_wp2_with fail
       go_ret
       exact ⟨code, d', rfl, .fails HLK.out c (by have := HC0.out; omega) (by have := HK.out; have := HC.out; omega) HOB.out (by rw [HTB.out]; simp) HNO.out code d' HZ.out HV.out, HCH2.out⟩
    ·have hu2 : decide (by2 = u) = false := decide_eq_false hu
     have hu3 := bytes_ne hu
     have HU := Lib.hid hu
     go_wp2_with fail
     refine ⟨⟨e1, by have := HC.out; have := HE1.out; omega, rfl, HB.out, fun j hj => ?_⟩, by have := HE1.out; simp [intOf]; omega⟩
     by_cases hjc : j = c
     ·rw [hjc]
      unfold skipB
      rw [HOB.out, HTB.out]
      simp [HU.out]
     ·exact HNO.out j (by have := HE1.out; omega)
   ·have hk5 : decide (kd = 4) = false := decide_eq_false hk4
    have HK4 := Lib.hid hk4
    go_wp2_with fail
    refine ⟨⟨e1, by have := HC.out; have := HE1.out; omega, rfl, HB.out, fun j hj => ?_⟩, by have := HE1.out; simp [intOf]; omega⟩
    by_cases hjc : j = c
    ·rw [hjc]
     unfold skipB
     rw [HOB.out, HTB.out]
     simp [HK4.out]
    ·exact HNO.out j (by have := HE1.out; omega)
theorem PtrPost.from {w w1 w2 : World} {g o : Nat} {d : Dc} {R : Int → Dc → Prop} {e : Ending} (hb : Below w.heap.size w w1) (h : PtrPost w1 g o d R e w2) : PtrPost w g o d R e w2 := by
 obtain ⟨c, d', e1, h1, h2⟩ := h
 exact ⟨c, d', e1, h1, h2.from hb⟩
def Chg2 (w : World) (g o : Nat) (d d' : Dc) (w' : World) : Prop :=
 Chg w g o d d' w' ∨ ∃ ow tl, d' = { d with owner := ow, till := tl } ∧ Below w.heap.size ((w.setCell ⟨g, o + 1, none⟩ (.string ow)).setCell ⟨g, o + 2, none⟩ (.int .i64 tl)) w'
def ChangePost (w : World) (g o : Nat) (d : Dc) (R : Int → Dc → Prop) (e : Ending) (w' : World) : Prop := ∃ code d', e = .returned (.int .i64 code) ∧ R code d' ∧ Chg2 w g o d d' w'
inductive LockR (d : Dc) (u : ByteArray) (t : Int) : Int → Dc → Prop where
 | locked (h : Held d u) : LockR d u t 11 d
 | done (h : ¬ Held d u) : LockR d u t 0 { d with owner := u, till := t }
inductive UnlockR (d : Dc) (u : ByteArray) : Int → Dc → Prop where
 | other (h : d.owner ≠ u) : UnlockR d u 13 d
 | done (h : d.owner = u) : UnlockR d u 0 { d with owner := ⟨#[]⟩, till := 0 }
set_option maxRecDepth 100000 in
set_option maxHeartbeats 8000000 in
theorem change_commit {L : Int} (g o m : Nat) (d : Dc) (u nm : ByteArray) (bs : Int) (ta : Option Addr) (tn tc : Nat) (t : List Trk.Clip) (now : Int) (w : World) (h : PD w g o m d) (hd : ownOK d) (hR : RvsOK L d.revs) (ht : Tk w (.slice ta tn tc) t) (Vt : VT L t) (hL : L ≤ 140737488355328) :
  Calls Tryz.prog 105 #[.pointer (some ⟨g, o, none⟩), .iface 150 (.agg #[.int .i64 4, .string u, .string nm, .int .i64 bs, .slice ta tn tc]), .int .i64 now] w (ChangePost w g o d (CommitR d u bs t)) := by
 have H := Lib.hid (fun (w1 : World) (hb : Below w.heap.size w w1) => commit_any g o m d u nm bs t (.slice ta tn tc) w1 (h.below hb) hd hR (ht.below hb) Vt hL)
 have m146 := ta_miss146 150 (by decide)
 have m148 := ta_miss148 150 (by decide)
 have m150 := ta_hit150
 clear h hd hR ht Vt
 go_enter Tryz.func105, Tryz.ntmps105
 go_wp2_with fail
 have hb0 : ∀ w1 w2 e, Below w.heap.size w w1 → PtrPost w1 g o d (CommitR d u bs t) e w2 → PtrPost w g o d (CommitR d u bs t) e w2 := fun w1 w2 e hb h => h.from hb
 refine (H.out _ (by go_grown)).mono ?_
 intro e w3 hp
 replace hp := hb0 _ _ _ (by go_grown) hp
 obtain ⟨code, d', rfl, hr, hc⟩ := hp
 have HRR := Lib.hid (And.intro hr hc)
 clear hr hc hb0 H
 go_wp2_with fail
 go_ret
 exact ⟨code, d', rfl, HRR.out.1, .inl HRR.out.2⟩
set_option maxRecDepth 100000 in
set_option maxHeartbeats 8000000 in
theorem change_undo {L : Int} (g o m : Nat) (d : Dc) (u nm : ByteArray) (now : Int) (w : World) (h : PD w g o m d) (hd : ownOK d) (hR : RvsOK L d.revs) (hL : L ≤ 140737488355328) :
  Calls Tryz.prog 105 #[.pointer (some ⟨g, o, none⟩), .iface 151 (.agg #[.int .i64 5, .string u, .string nm]), .int .i64 now] w (ChangePost w g o d (UndoR d u)) := by
 have H := Lib.hid (fun (w1 : World) (hb : Below w.heap.size w w1) => undo_any g o m d u w1 (h.below hb) hd hR hL)
 have m146 := ta_miss146 151 (by decide)
 have m148 := ta_miss148 151 (by decide)
 have m150 := ta_miss150 151 (by decide)
 have m151 := ta_hit151
 clear h hd hR
 go_enter Tryz.func105, Tryz.ntmps105
 go_wp2_with fail
 have hb0 : ∀ w1 w2 e, Below w.heap.size w w1 → PtrPost w1 g o d (UndoR d u) e w2 → PtrPost w g o d (UndoR d u) e w2 := fun w1 w2 e hb h => h.from hb
 refine (H.out _ (by go_grown)).mono ?_
 intro e w3 hp
 replace hp := hb0 _ _ _ (by go_grown) hp
 obtain ⟨code, d', rfl, hr, hc⟩ := hp
 have HRR := Lib.hid (And.intro hr hc)
 clear hr hc hb0 H
 go_wp2_with fail
 go_ret
 exact ⟨code, d', rfl, HRR.out.1, .inl HRR.out.2⟩
set_option maxRecDepth 100000 in
set_option maxHeartbeats 8000000 in
theorem change_redo {L : Int} (g o m : Nat) (d : Dc) (u nm : ByteArray) (now : Int) (w : World) (h : PD w g o m d) (hd : ownOK d) (hR : RvsOK L d.revs) (hB : ∀ (j : Nat) (r : Rv), d.revs[j]? = some r → r.kind = 4 → 0 ≤ r.base ∧ r.base < (j : Int)) (hL : L ≤ 140737488355328) :
  Calls Tryz.prog 105 #[.pointer (some ⟨g, o, none⟩), .iface 152 (.agg #[.int .i64 6, .string u, .string nm]), .int .i64 now] w (ChangePost w g o d (RedoR d u)) := by
 have H := Lib.hid (fun (w1 : World) (hb : Below w.heap.size w w1) => redo_any g o m d u w1 (h.below hb) hd hR hB hL)
 have m146 := ta_miss146 152 (by decide)
 have m148 := ta_miss148 152 (by decide)
 have m150 := ta_miss150 152 (by decide)
 have m151 := ta_miss151 152 (by decide)
 have m152 := ta_hit152
 clear h hd hR hB
 go_enter Tryz.func105, Tryz.ntmps105
 go_wp2_with fail
 have hb0 : ∀ w1 w2 e, Below w.heap.size w w1 → PtrPost w1 g o d (RedoR d u) e w2 → PtrPost w g o d (RedoR d u) e w2 := fun w1 w2 e hb h => h.from hb
 refine (H.out _ (by go_grown)).mono ?_
 intro e w3 hp
 replace hp := hb0 _ _ _ (by go_grown) hp
 obtain ⟨code, d', rfl, hr, hc⟩ := hp
 have HRR := Lib.hid (And.intro hr hc)
 clear hr hc hb0 H
 go_wp2_with fail
 go_ret
 exact ⟨code, d', rfl, HRR.out.1, .inl HRR.out.2⟩
set_option maxRecDepth 100000 in
set_option maxHeartbeats 8000000 in
theorem change_unlock (g o m : Nat) (d : Dc) (u nm : ByteArray) (now : Int) (w : World) (h : PD w g o m d) :
  Calls Tryz.prog 105 #[.pointer (some ⟨g, o, none⟩), .iface 148 (.agg #[.int .i64 3, .string u, .string nm]), .int .i64 now] w (ChangePost w g o d (UnlockR d u)) := by
 have HP := Lib.hid h
 have m146 := ta_miss146 148 (by decide)
 have m148 := ta_hit148
 clear h
 go_enter Tryz.func105, Tryz.ntmps105
 go_upto_region 9 with fail
 obtain ⟨w1, hw1⟩ : ∃ y, y = w.alloc (.cells #[.int .i64 3, .string u, .string nm] 148) := ⟨_, rfl⟩
 obtain ⟨b8, hb8⟩ : ∃ y, y = w.heap.size := ⟨_, rfl⟩
 have hb : Below w.heap.size w w1 := by rw [hw1]; exact below_box _ _
 have c1 : w1.cell? ⟨b8, 1, none⟩ = some (.string u) := by rw [hw1, hb8]; simp [go_sem]
 rw [← hw1, ← hb8]
 have HB := Lib.hid hb
 replace HP := Lib.hid (HP.out.below hb)
 clear hw1 hb8 hb m146 m148
 obtain ⟨rv, hcd, -⟩ := HP.out.r
 have d1 : w1.cell? ⟨g, o + 1, none⟩ = some (.string d.owner) := hcd 1 _ rfl
 have d2 : w1.cell? ⟨g, o + 2, none⟩ = some (.int .i64 d.till) := hcd 2 _ rfl
 have f1 := HP.out.f (o + 1)
 have f2 := HP.out.f (o + 2)
 clear hcd
 go_quiet (fail)
 by_cases hu : d.owner = u
 ·have hu2 : (d.owner.toList == u.toList) = true := by rw [hu]; exact beq_self_eq_true _
  have HU := Lib.hid hu
  clear hu
  rw [hu2]
  have hdn : ∀ p, (w1.drewN nq).cell? p = w1.cell? p := fun p => by simp [go_sem]
  obtain ⟨w2, hw2⟩ : ∃ y, y = w1.drewN nq := ⟨_, rfl⟩
  have e1 : w2.cell? ⟨g, o + 1, none⟩ = some (.string d.owner) := by rw [hw2, hdn]; exact d1
  have e2 : w2.cell? ⟨g, o + 2, none⟩ = some (.int .i64 d.till) := by rw [hw2, hdn]; exact d2
  have g1 : w2.frozen? ⟨g, o + 1, none⟩ = false := by rw [hw2]; exact f1
  have g2 : w2.frozen? ⟨g, o + 2, none⟩ = false := by rw [hw2]; exact f2
  have HB2 := Lib.hid (show Below w.heap.size w w2 by rw [hw2]; exact below_drewN HB.out _)
  rw [← hw2]
  clear hw2 d1 d2 f1 f2 hdn hu2
  go_wp2_with fail
  go_ret
  exact ⟨0, _, rfl, .done HU.out, .inr ⟨⟨#[]⟩, 0, rfl, below_set_both (below_set_both HB2.out _ _) _ _⟩⟩
 ·have hu2 : (d.owner.toList == u.toList) = false := by rw [beq_eq_false_iff_ne]; exact bytes_ne hu
  have HU := Lib.hid hu
  clear hu
  rw [hu2]
  have HB2 := Lib.hid (below_drewN HB.out nq)
  go_wp2_with fail
  go_ret
  exact ⟨13, d, rfl, .other HU.out, .inl (.inl ⟨rfl, HB2.out⟩)⟩
set_option maxRecDepth 100000 in
set_option maxHeartbeats 8000000 in
theorem change_lock (g o m : Nat) (d : Dc) (u nm : ByteArray) (n now : Int) (w : World) (h : PD w g o m d) (hd : ownOK d) (h0 : 0 ≤ now ∧ now ≤ 1099511627776) (h1 : 0 ≤ n ∧ n ≤ 1000) :
  Calls Tryz.prog 105 #[.pointer (some ⟨g, o, none⟩), .iface 146 (.agg #[.int .i64 2, .string u, .string nm, .int .i64 n]), .int .i64 now] w (ChangePost w g o d (LockR d u (now + n))) := by
 have HP := Lib.hid h
 have HD := Lib.hid hd
 have m146 := ta_hit146
 clear h hd
 go_enter Tryz.func105, Tryz.ntmps105
 go_upto_region 6 with (first | (go_at_call 147; refine (locked_any g o m d u _ (HP.out.below (by go_grown)) HD.out).mono ?_) | fail)
 rintro e w2 ⟨rfl, rfl⟩
 by_cases hlk : Held d u
 ·rw [decide_eq_true hlk]
  have HLK := Lib.hid hlk
  clear hlk
  go_wp2_with fail
  go_ret
  exact ⟨11, d, rfl, .locked HLK.out, .inl (.inl ⟨rfl, by go_grown⟩)⟩
 rw [decide_eq_false hlk]
 have HLK := Lib.hid hlk
 clear hlk
 go_upto_region 6 with fail
 obtain ⟨w1, hw1⟩ : ∃ y, y = w.alloc (.cells #[.int .i64 2, .string u, .string nm, .int .i64 n] 146) := ⟨_, rfl⟩
 obtain ⟨b7, hb7⟩ : ∃ y, y = w.heap.size := ⟨_, rfl⟩
 have hb : Below w.heap.size w w1 := by rw [hw1]; exact below_box _ _
 have c1 : w1.cell? ⟨b7, 1, none⟩ = some (.string u) := by rw [hw1, hb7]; simp [go_sem]
 have c3 : w1.cell? ⟨b7, 3, none⟩ = some (.int .i64 n) := by rw [hw1, hb7]; simp [go_sem]
 have hne : g ≠ b7 := by have := HP.out.g0; omega
 rw [← hw1, ← hb7]
 have HB := Lib.hid hb
 replace HP := Lib.hid (HP.out.below hb)
 clear hw1 hb7 hb m146
 obtain ⟨rv, hcd, -⟩ := HP.out.r
 have d1 : w1.cell? ⟨g, o + 1, none⟩ = some (.string d.owner) := hcd 1 _ rfl
 have d2 : w1.cell? ⟨g, o + 2, none⟩ = some (.int .i64 d.till) := hcd 2 _ rfl
 have f1 := HP.out.f (o + 1)
 have f2 := HP.out.f (o + 2)
 clear hcd
 have HC13 := Lib.hid (And.intro c1 c3)
 have HNE := Lib.hid hne
 have hs : -9223372036854775808 ≤ now + n ∧ now + n ≤ 9223372036854775807 := by omega
 obtain ⟨T, hT⟩ : ∃ T, T = now + n := ⟨_, rfl⟩
 have HT := Lib.hid hT
 have hT2 : now + n = T := hT.symm
 have hT3 : T ≤ 9223372036854775807 := by omega
 have hT4 : -9223372036854775808 ≤ T := by omega
 have HTT := Lib.hid (And.intro hT2 (And.intro hT3 hT4))
 clear hs hT hT2 hT3 hT4 h0 h1
 refine Plan.wp_region_plan (fun w' => w'.cell? ⟨b7, 1, none⟩ = some (.string u) ∧ w'.cell? ⟨b7, 3, none⟩ = some (.int .i64 n)) (([0, 1, 2, 3, 4, 5, 6, 7, 8, 9, 10].map (·, true)) ++ (([11].map (·, false)) ++ (([12, 13].map (·, true)) ++ ([14].map (·, false))))) (by kernel_rfl) (by kernel_rfl) (by kernel_rfl) ⟨c1, c3⟩ ?_
 refine' Plan.plan_seg _ [0, 1, 2, 3, 4, 5, 6, 7, 8, 9, 10] (([11].map (·, false)) ++ (([12, 13].map (·, true)) ++ ([14].map (·, false)))) (by kernel_rfl) (by kernel_rfl) rfl (by exact ⟨c1, c3⟩) (fun wx hS => ?_) ?_
 rotate_left
 ·obtain ⟨s1, s3⟩ := hS
  obtain ⟨t1, t2, t3⟩ := HTT.out
  go_light
  iterate 11 (apply Plan.seg_pick; rfl; intro K hK; go_wp)
  exact Plan.seg_nil
 obtain ⟨w2, hw2⟩ : ∃ y, y = w1.drew := ⟨_, rfl⟩
 replace c1 : w2.cell? ⟨b7, 1, none⟩ = some (.string u) := by rw [hw2]; exact c1
 replace c3 : w2.cell? ⟨b7, 3, none⟩ = some (.int .i64 n) := by rw [hw2]; exact c3
 replace d1 : w2.cell? ⟨g, o + 1, none⟩ = some (.string d.owner) := by rw [hw2]; exact d1
 replace d2 : w2.cell? ⟨g, o + 2, none⟩ = some (.int .i64 d.till) := by rw [hw2]; exact d2
 replace f1 : w2.frozen? ⟨g, o + 1, none⟩ = false := by rw [hw2]; exact f1
 replace f2 : w2.frozen? ⟨g, o + 2, none⟩ = false := by rw [hw2]; exact f2
 replace HB := Lib.hid (show Below w.heap.size w w2 by rw [hw2]; exact HB.out.drew)
 rw [← hw2]
 clear hw2 HC13
 have hne2 : b7 ≠ g := Ne.symm hne
 refine Plan.plan_of_effect rfl (fun K hK => ?_)
 go_wp2_with fail
 have k1 : (w2.setCell ⟨g, o + 1, none⟩ (.string u)).cell? ⟨b7, 1, none⟩ = some (.string u) := by simp [go_sem, c1, hne, hne2]
 have k3 : (w2.setCell ⟨g, o + 1, none⟩ (.string u)).cell? ⟨b7, 3, none⟩ = some (.int .i64 n) := by simp [go_sem, c3, hne, hne2]
 refine ⟨⟨k1, k3⟩, ?_⟩
 refine' Plan.plan_seg _ [12, 13] [(14, false)] (by kernel_rfl) (by kernel_rfl) rfl (by exact ⟨k1, k3⟩) (fun wx hS => ?_) ?_
 rotate_left
 ·clear hS
  go_light
  iterate 2 (apply Plan.seg_pick; rfl; intro K hK; go_wp)
  exact Plan.seg_nil
 refine Plan.plan_of_effect rfl (fun K hK => ?_)
 go_wp2_with fail
 refine ⟨⟨by simp [go_sem, c1, hne, hne2], by simp [go_sem, c3, hne, hne2]⟩, ?_⟩
 refine Plan.plan_done ?_
 clear c1 c3 d1 d2 f1 f2 k1 k3
 go_wp2_with fail
 go_ret
 rw [← HT.out]
 exact ⟨0, _, rfl, .done HLK.out, .inr ⟨u, T, rfl, below_set_both (below_set_both HB.out _ _) _ _⟩⟩
theorem list_set_same {α : Type} {l : List α} {i : Nat} {a : α} (h : l[i]? = some a) : l.set i a = l := by
 refine List.ext_getElem? fun n => ?_
 rw [List.getElem?_set]
 by_cases hin : i = n
 ·subst hin
  rw [if_pos rfl, if_pos (List.getElem?_eq_some_iff.1 h).1, h]
 ·rw [if_neg hin]
theorem DX.turn {w w' : World} {g cap m : Nat} {ds : List Dc} (h : DX w g cap m ds) {i : Nat} {d : Dc} {u : Value} {rs : List Rv} (hi : ds[i]? = some d) (hb : Below w.heap.size (w.setCell ⟨g, i * 4 + 3, none⟩ u) w') (hu : RS (Lo w'.heap.size g) w' u rs) : DX w' g cap w'.heap.size (ds.set i { d with revs := rs }) := by
 obtain ⟨ts, h1, h2, h3⟩ := h.r
 have hil := (List.getElem?_eq_some_iff.1 hi).1
 obtain ⟨t, ht⟩ : ∃ t, ts[i]? = some t := ⟨_, List.getElem?_eq_getElem (by omega)⟩
 have hsz : (w.setCell ⟨g, i * 4 + 3, none⟩ u).heap.size = w.heap.size := by simp [World.setCell]
 have hsz2 : w.heap.size ≤ w'.heap.size := by have := hb.size; rwa [hsz] at this
 have hag : Ag (Lo m g) w w' := fun b hb2 => (hb.block b (Nat.lt_of_lt_of_le hb2.1 h.m0)).trans (ag_set (m := m) (o := i * 4 + 3) (u := u) b hb2)
 refine ⟨Nat.le_refl _, ts.set i u, by simpa using h1, ?_, fun k x y hk hy => ?_⟩
 ·have hs := h2.setCell (o := i * 4 + 3) (by rw [flatC_len docL_len ds ts h1]; omega) u
  rw [flatC_set (a' := { d with revs := rs }) (v' := u) docL_len ds ts h1 hi ht (by decide) rfl] at hs
  rw [List.length_set]
  exact hs.below (by rw [hsz]; exact hb)
 ·rw [List.getElem?_set] at hk hy
  by_cases hik : i = k
  ·subst hik
   rw [if_pos rfl, if_pos hil] at hk
   rw [if_pos rfl, if_pos (by omega)] at hy
   cases hk; cases hy
   exact hu
  ·rw [if_neg hik] at hk hy
   exact ((h3 k x y hk hy).on hag).mono fun b hb2 => ⟨Nat.lt_of_lt_of_le hb2.1 (Nat.le_trans h.m0 hsz2), hb2.2⟩
theorem DX.full {w : World} {g cap m : Nat} {ds : List Dc} (h : DX w g cap m ds) : DX w g cap w.heap.size ds := h.raise h.m0 (Nat.le_refl _)
theorem DX.grow {w w' : World} {g cap m : Nat} {ds : List Dc} (h : DX w g cap m ds) (hb : Below w.heap.size w w') : DX w' g cap w'.heap.size ds := (h.below hb).full
theorem DX.chg {w w' : World} {g cap m : Nat} {ds : List Dc} (h : DX w g cap m ds) {i : Nat} {d d' : Dc} (hi : ds[i]? = some d) (hc : Chg w g (i * 4) d d' w') : DX w' g cap w'.heap.size (ds.set i d') := by
 rcases hc with ⟨rfl, hb⟩ | ⟨q, c, rs, rfl, hq, hbb, hor⟩
 ·rw [list_set_same hi]
  exact h.grow hb
 ·exact h.turn hi hbb (hor.rs.mono fun b hb => ⟨by have := hb.1; have := hor.lt.1; omega, hb.2⟩)
theorem DX.chg2 {w w' : World} {g cap m : Nat} {ds : List Dc} (h : DX w g cap m ds) {i : Nat} {d d' : Dc} (hi : ds[i]? = some d) (hc : Chg2 w g (i * 4) d d' w') : DX w' g cap w'.heap.size (ds.set i d') := by
 rcases hc with hc | ⟨ow, tl, rfl, hb⟩
 ·exact h.chg hi hc
 ·have h1 := h.set (j := 1) (d' := { d with owner := ow }) (u := .string ow) hi (by decide) rfl (fun t => rfl)
  have hi2 : (ds.set i { d with owner := ow })[i]? = some { d with owner := ow } := by rw [List.getElem?_set_self (List.getElem?_eq_some_iff.1 hi).1]
  have h2 := h1.set (j := 2) (d' := { d with owner := ow, till := tl }) (u := .int .i64 tl) hi2 (by decide) rfl (fun t => rfl)
  rw [List.set_set] at h2
  exact h2.grow (by simpa [World.setCell] using hb)
theorem docL_one {d : Dc} {t : Value} (h : t.oneCell' = true) : ∀ u ∈ docL d t, u.oneCell' = true := by
 intro u hu
 simp only [docL, List.mem_cons, List.not_mem_nil, or_false] at hu
 rcases hu with rfl | rfl | rfl | rfl <;> first | rfl | exact h
theorem Rvs.one {w : World} {v : Value} {l : List Rv} (h : Rvs w v l) : v.oneCell' = true := by
 obtain ⟨ao, cap, rfl, -⟩ := h
 rfl
theorem owndocs_any (v : Value) (ds : List Dc) (w0 w : World) (h : Dcs w0 v ds) (hw : Below w0.heap.size w0 w) (h0 : ds ≠ []) (h1 : ds.length ≤ 1024) :
  Calls Tryz.prog 102 #[v] w fun e w' => ∃ g cap, e = .returned (.slice (some ⟨g, 0, none⟩) ds.length cap) ∧ w.heap.size ≤ g ∧ DX w' g cap w0.heap.size ds ∧ Below w.heap.size w w' := by
 obtain ⟨ts, hts, hrow, hT⟩ := h.row h0
 have hO : ∀ u ∈ flatC docL ds ts, u.oneCell' = true := flatC_one hts fun i r t hi hj => docL_one (hT i r t hi hj).one
 refine (clonedocs_any v ds.length _ w (hrow.below hw) (List.length_pos_iff.2 h0) h1 hO).mono ?_
 rintro e w' ⟨v', rfl, hr, hb⟩
 obtain ⟨g, cap, rfl⟩ : ∃ g cap, v' = .slice (some ⟨g, 0, none⟩) ds.length cap := by
  rcases hr with ⟨_, e2, _⟩ | ⟨g', cap', cur, e, _⟩
  ·exact absurd (List.length_eq_zero_iff.1 e2) h0
  ·exact ⟨_, _, e⟩
 have hg := hr.lt.1
 have hsz := hw.size
 refine ⟨g, cap, rfl, hg, ⟨Nat.le_trans hsz hb.size, ts, hts, hr.raise, fun i d t hi ht => ?_⟩, hb⟩
 have h2 := RS.of (hT i d t hi ht)
 exact (h2.on fun b hb2 => (hb.block b (Nat.lt_of_lt_of_le hb2 hsz)).trans (hw.block b hb2)).mono fun b hb2 => ⟨hb2, by omega⟩
structure OQ (w : World) (q cap g : Nat) (rs : List Rv) : Prop where
 n0 : q ≠ g
 r : ∃ us : List Value, us.length = rs.length ∧ RowX w q 67 5 (.slice (some ⟨q, 0, none⟩) rs.length cap) rs.length (flatC revL rs us) ∧ ∀ (i : Nat) (r : Rv) (u : Value), rs[i]? = some r → us[i]? = some u → TS (fun b => b < w.heap.size ∧ b ≠ g ∧ b ≠ q) w u r.t
theorem OQ.below {w w' : World} {q cap g : Nat} {rs : List Rv} (h : OQ w q cap g rs) (hb : Below w.heap.size w w') : OQ w' q cap g rs := by
 obtain ⟨us, h1, h2, h3⟩ := h.r
 exact ⟨h.n0, us, h1, h2.below hb, fun i r u hr hu => ((h3 i r u hr hu).on fun b hb2 => hb.block b hb2.1).mono fun b hb2 => ⟨Nat.lt_of_lt_of_le hb2.1 hb.size, hb2.2⟩⟩
theorem OQ.rs {w : World} {q cap g : Nat} {rs : List Rv} (h : OQ w q cap g rs) : RS (Lo w.heap.size g) w (.slice (some ⟨q, 0, none⟩) rs.length cap) rs := by
 obtain ⟨us, h1, h2, h3⟩ := h.r
 refine ⟨some ⟨q, 0, none⟩, cap, rfl, h2.lt.2.2.1, h2.lt.2.2.2, fun i r hi => ?_⟩
 have hil := (List.getElem?_eq_some_iff.1 hi).1
 obtain ⟨t, ht⟩ : ∃ t, us[i]? = some t := ⟨_, List.getElem?_eq_getElem (by omega)⟩
 refine ⟨q, 0, t, rfl, ⟨h2.lt.2.1, h.n0⟩, fun j u hj => ?_, (h3 i r t hi ht).mono fun b hb => ⟨hb.1, hb.2.1⟩⟩
 have hj5 : j < 5 := by rw [← revL_len r t]; exact (List.getElem?_eq_some_iff.1 hj).1
 have hg := flatC_get revL_len rs us hi ht hj5
 rw [hj] at hg
 have := h2.cell hg
 simpa using this
theorem OQ.frozen {w : World} {q cap g : Nat} {rs : List Rv} (h : OQ w q cap g rs) (o : Nat) : w.frozen? ⟨q, o, none⟩ = false := by
 obtain ⟨ts, -, hr, -⟩ := h.r
 exact hr.frozen o
theorem OQ.lt {w : World} {q cap g : Nat} {rs : List Rv} (h : OQ w q cap g rs) : q < w.heap.size ∧ rs.length ≤ cap ∧ cap ≤ maxLen := by
 obtain ⟨ts, -, hr, -⟩ := h.r
 exact ⟨hr.lt.2.1, hr.lt.2.2⟩
theorem OQ.cells {w : World} {q cap g : Nat} {rs : List Rv} (h : OQ w q cap g rs) {i : Nat} {r : Rv} (hi : rs[i]? = some r) : ∃ u, w.rangeAt q (i * 5) (revL r u) ∧ Tk w u r.t := by
 obtain ⟨us, h1, h2, h3⟩ := h.r
 have hil := (List.getElem?_eq_some_iff.1 hi).1
 obtain ⟨t, ht⟩ : ∃ t, us[i]? = some t := ⟨_, List.getElem?_eq_getElem (by omega)⟩
 refine ⟨t, fun j u hj => ?_, (h3 i r t hi ht).get⟩
 have hj5 : j < 5 := by rw [← revL_len r t]; exact (List.getElem?_eq_some_iff.1 hj).1
 have hg := flatC_get revL_len rs us hi ht hj5
 rw [hj] at hg
 exact h2.cell hg
theorem OQ.setT {w : World} {q cap g : Nat} {rs : List Rv} (h : OQ w q cap g rs) {i : Nat} {r : Rv} {u : Value} (hi : rs[i]? = some r) (hu : TS (fun b => b < w.heap.size ∧ b ≠ g ∧ b ≠ q) w u r.t) : OQ (w.setCell ⟨q, i * 5 + 4, none⟩ u) q cap g rs := by
 obtain ⟨us, h1, h2, h3⟩ := h.r
 have hil := (List.getElem?_eq_some_iff.1 hi).1
 obtain ⟨t, ht⟩ : ∃ t, us[i]? = some t := ⟨_, List.getElem?_eq_getElem (by omega)⟩
 have hsz : (w.setCell ⟨q, i * 5 + 4, none⟩ u).heap.size = w.heap.size := by simp [World.setCell]
 have hag : Ag (fun b => b < w.heap.size ∧ b ≠ g ∧ b ≠ q) w (w.setCell ⟨q, i * 5 + 4, none⟩ u) := fun b hb => setCells_other q b hb.2.2 [u] (i * 5 + 4) w
 refine ⟨h.n0, us.set i u, by simpa using h1, ?_, fun k x y hk hy => ?_⟩
 ·have hs := h2.setCell (o := i * 5 + 4) (by rw [flatC_len revL_len rs us h1]; omega) u
  rw [flatC_set (a' := r) (v' := u) revL_len rs us h1 hi ht (by decide) rfl, list_set_same hi] at hs
  exact hs
 ·rw [hsz]
  rw [List.getElem?_set] at hy
  by_cases hik : i = k
  ·subst hik
   rw [hi] at hk
   rw [if_pos rfl, if_pos (by omega)] at hy
   cases hk; cases hy
   exact hu.on hag
  ·rw [if_neg hik] at hy
   exact (h3 k x y hk hy).on hag
theorem ownrevs_any (v : Value) (rs : List Rv) (g : Nat) (w : World) (h : RS (Lo w.heap.size g) w v rs) (hg : g < w.heap.size) (h0 : rs ≠ []) (h1 : rs.length ≤ 1000) :
  Calls Tryz.prog 106 #[v] w fun e w' => ∃ q cap, e = .returned (.slice (some ⟨q, 0, none⟩) rs.length cap) ∧ w.heap.size ≤ q ∧ OQ w' q cap g rs ∧ Below w.heap.size w w' := by
 obtain ⟨ts, hts, hrow, hT⟩ := h.row h0
 have hO : ∀ u ∈ flatC revL rs ts, u.oneCell' = true := flatC_one hts fun i r t hi hj => revL_one (hT i r t hi hj).get.one
 refine (clonerevs_any v rs.length _ w hrow (List.length_pos_iff.2 h0) (by omega) hO).mono ?_
 rintro e w' ⟨v', rfl, hr, hb⟩
 obtain ⟨q, cap, rfl⟩ : ∃ q cap, v' = .slice (some ⟨q, 0, none⟩) rs.length cap := by
  rcases hr with ⟨_, e2, _⟩ | ⟨g', cap', cur, e, _⟩
  ·exact absurd (List.length_eq_zero_iff.1 e2) h0
  ·exact ⟨_, _, e⟩
 have hq := hr.lt.1
 refine ⟨q, cap, rfl, hq, ⟨by omega, ts, hts, hr.raise, fun i r t hi ht => ?_⟩, hb⟩
 exact ((hT i r t hi ht).on fun b hb2 => hb.block b hb2.1).mono fun b hb2 => ⟨Nat.lt_of_lt_of_le hb2.1 hb.size, hb2.2, by have := hb2.1; omega⟩
end Go.Proofs.YtfoohocgdcgbcaaGreat
