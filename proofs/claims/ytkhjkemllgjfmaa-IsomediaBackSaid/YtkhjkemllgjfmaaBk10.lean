/- Texts of this claim joined: BS BT BU BV BW YW BX. -/
import Derived.Test.YtkhjkemllgjfmaaBk01
import Derived.Test.YtkhjkemllgjfmaaBk02
import Derived.Test.YtkhjkemllgjfmaaBk07
import Derived.Test.YtkhjkemllgjfmaaBk09
set_option linter.unusedVariables false
set_option linter.unusedSimpArgs false

/- The reader's media: the walk. -/
namespace Go.Proofs.Ytkhjkemllgjfmaa
open Go.RowKit
set_option linter.unusedVariables false
set_option linter.unusedSimpArgs false
theorem mdhd_seg (T : Tr) : Seg (mdhdL T) 12 (num4 T.sc) ∧ (mdhdL T).length = 24 :=
  ⟨⟨zs 12, num4 0 ++ [85, 196, 0, 0], by simp [mdhdL, numsL], rfl⟩, rfl⟩
theorem hdlr_seg (T : Tr) (h : T.h.size = 4) : Seg (hdlrL T) 8 (strB T.h) ∧ (hdlrL T).length = 25 :=
  ⟨⟨zs 8, zs 13, by simp [hdlrL], rfl⟩, by unfold hdlrL; simp only [List.length_append, strB_len, h]; rfl⟩
theorem okTr_facts {T : Tr} (h : okTr T = true) : T.h.size = 4 ∧ 1 ≤ T.sc ∧ T.sc ≤ 16777216 ∧ T.nC ≤ 4096 ∧ T.nS ≤ 4096 ∧ T.nE ≤ 64 ∧ (∀ i, i < T.nS → 0 ≤ (T.S i).dur ∧ (T.S i).dur < 4294967296 ∧ 0 ≤ (T.S i).shift ∧ (T.S i).shift < 4294967296) ∧ (∀ i, i < T.nE → okEd (T.E i) = true) := by
  unfold okTr at h
  simp only [Bool.and_eq_true, decide_eq_true_eq, all_range] at h
  obtain ⟨⟨⟨a, b, c, d, e, f⟩, g⟩, k⟩ := h
  refine ⟨a, b, c, d, e, f, fun i hi => ?_, k⟩
  have := g i hi
  unfold okSm at this
  simp only [decide_eq_true_eq] at this
  omega
set_option maxRecDepth 100000 in
set_option maxHeartbeats 8000000 in
theorem media_any (v : Value) (L : List Int) (T : Tr) (f0 : Nat) (x : Bx) (tb : Nat) (h0 : ByteArray) (sc0 : Int) (cv0 sv0 ev : Value) (w : World) (hv : BY w v L) (hvt : ∀ a m c, v = .slice (some a) m c → a.block ≠ tb) (ht : TV w tb h0 sc0 cv0 sv0 ev)
    (hs : Seg L (x.p + 8) (catB (mdiaB T (f0 : Int)))) (hz : x.sz = 8 + (catB (mdiaB T (f0 : Int))).length) (hok : okTr T = true) (hfit : f0 + sizeN T.S T.nS ≤ L.length) (hl : L.length < 100000000) :
    Calls Try.prog 71 #[.agg #[v], .agg (bxC x).toArray, .pointer (some ⟨tb, 0, none⟩)] w fun e w' => e = .returned (.bool true) ∧ ∃ q cv vb vo vc, v = .slice (some ⟨vb, vo, none⟩) L.length vc ∧ w.heap.size ≤ q ∧ q < w'.heap.size ∧ TV w' tb T.h T.sc cv (.slice (some ⟨q, 0, none⟩) T.nS T.nS) ev ∧
      BR w' cv (cfL T) w.heap.size q ∧ SB w' q T.nS (fun i => slX vb vo (f0 + sizeN T.S i) (T.S i).n) T.S ∧ But w.heap.size tb w w' := by
  obtain ⟨k1, k2, k3, k4, k5, k6, k7, -⟩ := okTr_facts hok
  obtain ⟨g1, g2⟩ := mdhd_seg T
  obtain ⟨g3, g4⟩ := hdlr_seg T k1
  have hl' : L.length ≤ 100000000 := Nat.le_of_lt hl
  obtain ⟨x1, p1, s1, z1⟩ := pick_named (i := 0) (nm := nMdhd) (D := mdhdL T) hs rfl rfl (show [nMdhd.data.toList, nHdlr.data.toList, nMinf.data.toList].Nodup by decide)
  obtain ⟨x2, p2, s2, z2⟩ := pick_named (i := 1) (nm := nHdlr) (D := hdlrL T) hs rfl rfl (show [nMdhd.data.toList, nHdlr.data.toList, nMinf.data.toList].Nodup by decide)
  obtain ⟨x3, p3, s3, z3⟩ := pick_named (i := 2) (nm := nMinf) (D := catB (minfB T (f0 : Int))) hs rfl rfl (show [nMdhd.data.toList, nHdlr.data.toList, nMinf.data.toList].Nodup by decide)
  obtain ⟨x4, p4, s4, z4⟩ := pick_named (i := 0) (nm := nStbl) (D := catB (stblB T (f0 : Int))) s3 rfl rfl (show [nStbl.data.toList].Nodup by decide)
  obtain ⟨y0, a0, b0, c0⟩ := pick_named (i := 0) (nm := nStsd) (D := stsdL T) s4 rfl rfl (show [nStsd.data.toList, nStts.data.toList, nCtts.data.toList, nStss.data.toList, nStsz.data.toList, nStsc.data.toList, nStco.data.toList].Nodup by decide)
  obtain ⟨y1, a1, b1, c1⟩ := pick_named (i := 1) (nm := nStts) (D := runsL (fun i => (T.S i).dur) T.nS) s4 rfl rfl (show [nStsd.data.toList, nStts.data.toList, nCtts.data.toList, nStss.data.toList, nStsz.data.toList, nStsc.data.toList, nStco.data.toList].Nodup by decide)
  obtain ⟨y2, a2, b2, c2⟩ := pick_named (i := 2) (nm := nCtts) (D := runsL (fun i => (T.S i).shift) T.nS) s4 rfl rfl (show [nStsd.data.toList, nStts.data.toList, nCtts.data.toList, nStss.data.toList, nStsz.data.toList, nStsc.data.toList, nStco.data.toList].Nodup by decide)
  obtain ⟨y3, a3, b3, c3⟩ := pick_named (i := 3) (nm := nStss) (D := stssL T) s4 rfl rfl (show [nStsd.data.toList, nStts.data.toList, nCtts.data.toList, nStss.data.toList, nStsz.data.toList, nStsc.data.toList, nStco.data.toList].Nodup by decide)
  obtain ⟨y4, a4, b4, c4⟩ := pick_named (i := 4) (nm := nStsz) (D := stszL T) s4 rfl rfl (show [nStsd.data.toList, nStts.data.toList, nCtts.data.toList, nStss.data.toList, nStsz.data.toList, nStsc.data.toList, nStco.data.toList].Nodup by decide)
  obtain ⟨y5, a5, b5, c5⟩ := pick_named (i := 5) (nm := nStsc) (D := chunkL) s4 rfl rfl (show [nStsd.data.toList, nStts.data.toList, nCtts.data.toList, nStss.data.toList, nStsz.data.toList, nStsc.data.toList, nStco.data.toList].Nodup by decide)
  obtain ⟨y6, a6, b6, c6⟩ := pick_named (i := 6) (nm := nStco) (D := stcoL T (f0 : Int)) s4 rfl rfl (show [nStsd.data.toList, nStts.data.toList, nCtts.data.toList, nStss.data.toList, nStsz.data.toList, nStsc.data.toList, nStco.data.toList].Nodup by decide)
  have HOP1 := Lib.hid (fun (w : World) (hv : BY w v L) => open_any v L x (mdiaB T (f0 : Int)) w hv hl hs hz (by intro y hy; simp only [mdiaB, List.mem_cons, List.not_mem_nil, or_false] at hy; rcases hy with rfl | rfl | rfl <;> rfl) (show 3 ≤ 100000 by decide))
  have HOP2 := Lib.hid (fun (w : World) (hv : BY w v L) => open_any v L x3 (minfB T (f0 : Int)) w hv hl s3 z3 (by intro y hy; simp only [minfB, List.mem_cons, List.not_mem_nil, or_false] at hy; subst hy; rfl) (show 1 ≤ 100000 by decide))
  have HOP3 := Lib.hid (fun (w : World) (hv : BY w v L) => open_any v L x4 (stblB T (f0 : Int)) w hv hl s4 z4 (by intro y hy; simp only [stblB, List.mem_cons, List.not_mem_nil, or_false] at hy; rcases hy with rfl | rfl | rfl | rfl | rfl | rfl | rfl <;> rfl) (show 7 ≤ 100000 by decide))
  have HDT1 := Lib.hid (fun (mb B : Nat) (w : World) (hv : BY w v L) (h : DirA w B mb (lay (x.p + 8) (mdiaB T (f0 : Int)))) => data_any2 v L (mdhdL T) mb 24 _ nMdhd x1 B w hv s1 z1 h (by decide) p1 (Nat.le_of_eq g2.symm) hl')
  have HDT2 := Lib.hid (fun (mb B : Nat) (w : World) (hv : BY w v L) (h : DirA w B mb (lay (x.p + 8) (mdiaB T (f0 : Int)))) => data_any2 v L (hdlrL T) mb 25 _ nHdlr x2 B w hv s2 z2 h (by decide) p2 (Nat.le_of_eq g4.symm) hl')
  have HON1 := Lib.hid (fun (mb B : Nat) (w : World) (h : DirA w B mb (lay (x.p + 8) (mdiaB T (f0 : Int)))) => only_any mb _ nMinf x3 B w h (by decide) p3)
  have HON2 := Lib.hid (fun (mb B : Nat) (w : World) (h : DirA w B mb (lay (x3.p + 8) (minfB T (f0 : Int)))) => only_any mb _ nStbl x4 B w h (by decide) p4)
  have HCF := Lib.hid (fun (mb B : Nat) (h : ByteArray) (sc : Int) (cv sv ev : Value) (w : World) (hv : BY w v L) (ht : TV w tb h sc cv sv ev) (hd : DirA w B mb (lay (x4.p + 8) (stblB T (f0 : Int)))) (htB : tb < B) => config_any v L T mb _ B tb h sc cv sv ev y0 y5 w hv hvt ht hd htB (ht.ne_dir hd) a0 b0 c0 a5 b5 c5 k4 hl')
  have HSM := Lib.hid (fun (mb B : Nat) (h : ByteArray) (sc : Int) (cv sv ev : Value) (w : World) (hv : BY w v L) (ht : TV w tb h sc cv sv ev) (hd : DirA w B mb (lay (x4.p + 8) (stblB T (f0 : Int)))) (htB : tb < B) => samples_any v L T f0 mb _ B tb h sc cv sv ev y4 y6 y1 y2 y3 w hv hvt ht hd htB (ht.ne_dir hd) a4 b4 c4 a6 b6 c6 a1 b1 c1 a2 b2 c2 a3 b3 c3 k7 hfit k5 hl')
  have HN := Lib.hid (fun (u : Value) (w : World) (h : BY w u (mdhdL T)) => number_at u (mdhdL T) 12 T.sc w h (by rw [g2]; decide) g1)
  have husc : u32 T.sc = T.sc := by unfold u32; omega
  rw [husc] at HN
  have HCVT := Lib.hid (fun (w : World) (b o n c m : Nat) (h : BY w (.slice (some ⟨b, o, none⟩) n c) (hdlrL T)) => conv_seg (m := m) h g3 k1)
  obtain ⟨l1, hl1⟩ : ∃ l, l = lay (x.p + 8) (mdiaB T (f0 : Int)) := ⟨_, rfl⟩
  obtain ⟨l2, hl2⟩ : ∃ l, l = lay (x3.p + 8) (minfB T (f0 : Int)) := ⟨_, rfl⟩
  obtain ⟨l3, hl3⟩ : ∃ l, l = lay (x4.p + 8) (stblB T (f0 : Int)) := ⟨_, rfl⟩
  rw [← hl1] at HOP1 HDT1 HDT2 HON1
  rw [← hl2] at HOP2 HON2
  rw [← hl3] at HOP3 HCF HSM
  simp only [nMdhd, Int.cast_ofNat_Int] at HDT1 HN
  simp only [nHdlr, Int.cast_ofNat_Int] at HDT2
  simp only [nMinf] at HON1
  simp only [nStbl] at HON2
  rw [g2] at HDT1
  rw [g4] at HDT2
  have HVT := Lib.hid hvt
  have HT := Lib.hid ht
  have htw := ht.lt
  obtain ⟨vb, vo, vc, rfl, hvb⟩ : ∃ vb vo vc, v = .slice (some ⟨vb, vo, none⟩) L.length vc ∧ vb < w.heap.size := by
    have hle := s1.le
    obtain ⟨vb, vo, vc, e, h1, h2, h3⟩ := BA.open hv (by omega)
    exact ⟨vb, vo, vc, e, block_lt_of_cell (h2 0 (by omega))⟩
  have hvt2 : vb ≠ tb := hvt _ _ _ rfl
  obtain ⟨N, hN⟩ : ∃ N, N = L.length := ⟨_, rfl⟩
  rw [← hN] at hfit hl HOP1 HOP2 HOP3 HDT1 HDT2 HCF HSM hv ⊢
  have HVA := Lib.hid (fun (wx : World) (hx : But w.heap.size tb w wx) => hv.but hx (fun a m c e => by
    simp only [Value.slice.injEq, Option.some.injEq] at e
    have e1 := e.1
    subst e1
    exact ⟨hvb, hvt2⟩))
  obtain ⟨C, hC⟩ : ∃ C, C = (bxC x).toArray := ⟨_, rfl⟩
  obtain ⟨C3, hC3⟩ : ∃ C, C = (bxC x3).toArray := ⟨_, rfl⟩
  obtain ⟨C4, hC4⟩ : ∃ C, C = (bxC x4).toArray := ⟨_, rfl⟩
  rw [← hC] at HOP1 ⊢
  rw [← hC3] at HON1 HOP2
  rw [← hC4] at HON2 HOP3
  have HC := Lib.hid hC
  have HC3 := Lib.hid hC3
  have HC4 := Lib.hid hC4
  clear hl1 hl2 hl3 hN hC hC3 hC4 hv hvt ht hs hz hok k1 k2 k3 k4 k5 k6 k7 g1 g2 g3 g4 hl' p1 s1 z1 p2 s2 z2 p3 s3 z3 p4 s4 z4 a0 b0 c0 a1 b1 c1 a2 b2 c2 a3 b3 c3 a4 b4 c4 a5 b5 c5 a6 b6 c6 husc hvt2 hvb hfit hl
  go_enter Try.func71, Try.ntmps71
  go_upto_region 1 with fail
  obtain ⟨w1, hw1⟩ : ∃ y, y = w.alloc (.cells #[.slice (some ⟨vb, vo, none⟩) N vc] 98) := ⟨_, rfl⟩
  rw [← hw1]
  obtain ⟨w2, hw2⟩ : ∃ y, y = w1.alloc (.cells C 31) := ⟨_, rfl⟩
  obtain ⟨g, hg⟩ : ∃ y, y = w.heap.size := ⟨_, rfl⟩
  have hs1 : w1.heap.size = g + 1 := by rw [hw1, hg]; simp
  have hb1 : Below w.heap.size w w1 := by rw [hw1]; exact below_box _ _
  have hb2 : Below w1.heap.size w1 w2 := by rw [hw2]; exact below_box _ _
  have HY := Lib.hid (show C1 w2 g (.slice (some ⟨vb, vo, none⟩) N vc) by rw [hw2, hw1, hg]; constructor <;> simp [go_sem])
  have HX := Lib.hid (show VB w2 (g + 1) x by rw [hw2, HC.out, ← hs1]; exact VB.box w1 x 31)
  have hb := hb1.trans (hb2.mono hb1.size)
  have HW := Lib.hid (But.of (g := tb) hb (Nat.le_refl _))
  have HG := Lib.hid (show w.heap.size ≤ g ∧ tb ≠ g from ⟨Nat.le_of_eq hg.symm, by omega⟩)
  replace HT := Lib.hid (HT.out.below hb)
  rw [← hw2, ← hg]
  clear hw1 hw2 hg hs1 hb1 hb2 hb
  apply wp_region_lit
  have y0 := HY.out.k0
  iterate 3 go_step
  refine wpl_loadB HX.out.r rfl rfl rfl ?_
  rw [← HC.out]
  simp only [Act.put, List.setIfInBounds_toArray, List.set_cons_succ, List.set_cons_zero]
  clear y0 HX
  go_wp2_with fail
  refine (HOP1.out _ (HVA.out _ HW.out)).mono ?_
  rintro e w3 ⟨mb1, rfl, hd, hb⟩
  have HD1 := Lib.hid hd
  have HL1 := Lib.hid (show tb < w2.heap.size from Nat.lt_of_lt_of_le htw HW.out.size)
  replace HT := Lib.hid (HT.out.below hb)
  replace HY := Lib.hid (HY.out.below hb)
  replace HW := Lib.hid (HW.out.trans (But.of hb HW.out.size))
  clear hb hd
  have y0 := HY.out.k0
  go_wp2_with fail
  refine (HDT1.out mb1 _ _ (HVA.out _ HW.out) HD1.out).mono ?_
  rintro e w4 ⟨v4, rfl, hby, hsb, hb⟩
  obtain ⟨b4, c4, rfl⟩ := hsb _ _ _ _ rfl
  have HS4 := Lib.hid hby
  replace HT := Lib.hid (HT.out.below hb)
  replace HY := Lib.hid (HY.out.below hb)
  replace HD1 := Lib.hid (HD1.out.below hb)
  replace HW := Lib.hid (HW.out.trans (But.of hb HW.out.size))
  clear hb hby hsb y0
  go_wp2_with fail
  refine (HN.out _ w4 HS4.out).mono ?_
  rintro e w5 ⟨rfl, hw5⟩
  have hb : Below w4.heap.size w4 w5 := by rw [hw5]; exact (Below.refl _ _).drew
  replace HT := Lib.hid (HT.out.below hb)
  replace HY := Lib.hid (HY.out.below hb)
  replace HD1 := Lib.hid (HD1.out.below hb)
  replace HW := Lib.hid (HW.out.trans (But.of hb HW.out.size))
  clear hw5 hb HS4
  have y1 := HT.out.k1
  have yf := HT.out.f
  go_upto_region 8 with fail
  obtain ⟨w6, hw6⟩ : ∃ y, y = w5.setCell ⟨tb, 1, none⟩ (.int .i64 T.sc) := ⟨_, rfl⟩
  rw [← hw6]
  have hg : w5.grownBy w6 (some tb) := by rw [hw6]; exact grown_set _ _ _ _
  replace HD1 := Lib.hid (HD1.out.grown hg HL1.out (HT.out.ne_dir HD1.out))
  replace HY := Lib.hid (show C1 w6 g (.slice (some ⟨vb, vo, none⟩) N vc) by
    have k := HY.out
    have e := hg.block g k.lt (by intro e; cases e; exact HG.out.2 rfl)
    exact ⟨(World.cell?_of_block (a := ⟨g, 0, none⟩) e).trans k.k0, (World.frozen?_of_block (a := ⟨g, 0, none⟩) e).trans k.fz⟩)
  replace HT := Lib.hid (show TV w6 tb h0 T.sc cv0 sv0 ev by rw [hw6]; exact HT.out.set1 _)
  replace HW := Lib.hid (show But w.heap.size tb w w6 by rw [hw6]; exact HW.out.trans (But.cell _ _ _ _ _))
  clear hw6 hg y1 yf
  have y0 := HY.out.k0
  go_wp2_with fail
  refine (HDT2.out mb1 _ _ (HVA.out _ HW.out) HD1.out).mono ?_
  rintro e w7 ⟨v7, rfl, hby, hsb, hb⟩
  obtain ⟨b7, c7, rfl⟩ := hsb _ _ _ _ rfl
  have hcv := HCVT.out _ _ _ _ _ (c7 - 8) hby
  have hc7 : 25 ≤ c7 := by
    obtain ⟨_, _, e7, hc7, -⟩ := hby
    simp only [Value.slice.injEq] at e7
    omega
  replace HT := Lib.hid (HT.out.below hb)
  replace HY := Lib.hid (HY.out.below hb)
  replace HD1 := Lib.hid (HD1.out.below hb)
  replace HW := Lib.hid (HW.out.trans (But.of hb HW.out.size))
  clear hb hby hsb y0
  have y1 := HT.out.k0
  have yf := HT.out.f
  go_upto_region 12 with fail
  obtain ⟨w8, hw8⟩ : ∃ y, y = w7.setCell ⟨tb, 0, none⟩ (.string T.h) := ⟨_, rfl⟩
  rw [← hw8]
  have hg : w7.grownBy w8 (some tb) := by rw [hw8]; exact grown_set _ _ _ _
  replace HD1 := Lib.hid (HD1.out.grown hg HL1.out (HT.out.ne_dir HD1.out))
  replace HY := Lib.hid (show C1 w8 g (.slice (some ⟨vb, vo, none⟩) N vc) by
    have k := HY.out
    have e := hg.block g k.lt (by intro e; cases e; exact HG.out.2 rfl)
    exact ⟨(World.cell?_of_block (a := ⟨g, 0, none⟩) e).trans k.k0, (World.frozen?_of_block (a := ⟨g, 0, none⟩) e).trans k.fz⟩)
  replace HT := Lib.hid (show TV w8 tb T.h T.sc cv0 sv0 ev by rw [hw8]; exact HT.out.set0 _)
  replace HW := Lib.hid (show But w.heap.size tb w w8 by rw [hw8]; exact HW.out.trans (But.cell _ _ _ _ _))
  clear hw8 hg y1 yf
  clear hcv hc7
  go_wp2_with fail
  refine (HON1.out mb1 _ _ HD1.out).mono ?_
  rintro e w9 ⟨rfl, hb⟩
  replace HT := Lib.hid (HT.out.below hb)
  replace HY := Lib.hid (HY.out.below hb)
  replace HW := Lib.hid (HW.out.trans (But.of hb HW.out.size))
  clear hb HD1
  try dsimp only
  iterate 10 go_step
  refine wpl_allocB rfl rfl (fun w9a ht hf hb3 hs3 => ?_)
  refine wpl_storeB x3 ht hf rfl rfl rfl (by rw [← HC3.out]; rfl) ?_
  intro w9b hv ho3 hs4 hb4
  have HXw9 := Lib.hid hv
  have hb : Below w9.heap.size w9 w9b := hb4 _ _ (Nat.le_refl _) hb3
  replace HT := Lib.hid (HT.out.below hb)
  replace HY := Lib.hid (HY.out.below hb)
  replace HW := Lib.hid (HW.out.trans (But.of hb HW.out.size))
  obtain ⟨qw9, hqw9⟩ : ∃ y, y = w9.heap.size := ⟨_, rfl⟩
  rw [← hqw9] at HXw9 ⊢
  clear ht hf hb3 hs3 hv ho3 hs4 hb4 hb hqw9
  simp only [Act.put, List.setIfInBounds_toArray, List.set_cons_succ, List.set_cons_zero]
  go_upto_region 15 with fail
  have y0 := HY.out.k0
  apply wp_region_lit
  iterate 3 go_step
  refine wpl_loadB HXw9.out.r rfl rfl rfl ?_
  rw [← HC3.out]
  simp only [Act.put, List.setIfInBounds_toArray, List.set_cons_succ, List.set_cons_zero]
  clear y0 HXw9
  go_wp2_with fail
  refine (HOP2.out _ (HVA.out _ HW.out)).mono ?_
  rintro e w10 ⟨mb2, rfl, hd, hb⟩
  have HD2 := Lib.hid hd
  have HL2 := Lib.hid (Nat.lt_of_lt_of_le htw HW.out.size)
  replace HT := Lib.hid (HT.out.below hb)
  replace HY := Lib.hid (HY.out.below hb)
  replace HW := Lib.hid (HW.out.trans (But.of hb HW.out.size))
  clear hb hd
  go_wp2_with fail
  refine (HON2.out mb2 _ _ HD2.out).mono ?_
  rintro e w11 ⟨rfl, hb⟩
  replace HT := Lib.hid (HT.out.below hb)
  replace HY := Lib.hid (HY.out.below hb)
  replace HW := Lib.hid (HW.out.trans (But.of hb HW.out.size))
  clear hb HD2
  try dsimp only
  iterate 10 go_step
  refine wpl_allocB rfl rfl (fun w11a ht hf hb3 hs3 => ?_)
  refine wpl_storeB x4 ht hf rfl rfl rfl (by rw [← HC4.out]; rfl) ?_
  intro w11b hv ho3 hs4 hb4
  have HXw11 := Lib.hid hv
  have hb : Below w11.heap.size w11 w11b := hb4 _ _ (Nat.le_refl _) hb3
  replace HT := Lib.hid (HT.out.below hb)
  replace HY := Lib.hid (HY.out.below hb)
  replace HW := Lib.hid (HW.out.trans (But.of hb HW.out.size))
  obtain ⟨qw11, hqw11⟩ : ∃ y, y = w11.heap.size := ⟨_, rfl⟩
  rw [← hqw11] at HXw11 ⊢
  clear ht hf hb3 hs3 hv ho3 hs4 hb4 hb hqw11
  simp only [Act.put, List.setIfInBounds_toArray, List.set_cons_succ, List.set_cons_zero]
  go_upto_region 21 with fail
  have y0 := HY.out.k0
  apply wp_region_lit
  iterate 3 go_step
  refine wpl_loadB HXw11.out.r rfl rfl rfl ?_
  rw [← HC4.out]
  simp only [Act.put, List.setIfInBounds_toArray, List.set_cons_succ, List.set_cons_zero]
  clear y0 HXw11
  go_wp2_with fail
  refine (HOP3.out _ (HVA.out _ HW.out)).mono ?_
  rintro e w12 ⟨mb3, rfl, hd, hb⟩
  have HD3 := Lib.hid hd
  have HL3 := Lib.hid (Nat.lt_of_lt_of_le htw HW.out.size)
  replace HT := Lib.hid (HT.out.below hb)
  replace HY := Lib.hid (HY.out.below hb)
  replace HW := Lib.hid (HW.out.trans (But.of hb HW.out.size))
  clear hb hd
  go_upto_region 22 with fail
  have y0 := HY.out.k0
  go_wp2_with fail
  refine (HCF.out mb3 _ _ _ _ _ _ w12 (HVA.out _ HW.out) HT.out HD3.out HL3.out).mono ?_
  rintro e w13 ⟨cv, rfl, ht, hbl, hlo, hbt⟩
  have HBR := Lib.hid ((BR.of hbl hlo).mono HW.out.size (Nat.le_refl _))
  have HD4 := Lib.hid (HD3.out.but hbt HL3.out (HT.out.ne_dir HD3.out))
  replace HY := Lib.hid (show C1 w13 g (.slice (some ⟨vb, vo, none⟩) N vc) by
    have k := HY.out
    have e := hbt.block g k.lt (fun e => HG.out.2 e.symm)
    exact ⟨(World.cell?_of_block (a := ⟨g, 0, none⟩) e).trans k.k0, (World.frozen?_of_block (a := ⟨g, 0, none⟩) e).trans k.fz⟩)
  replace HT := Lib.hid ht
  have HW13 := Lib.hid (HW.out.trans (hbt.mono HW.out.size))
  clear ht hbl hlo hbt y0 HD3 HW
  have y0 := HY.out.k0
  go_wp2_with fail
  refine (HSM.out mb3 _ _ _ _ _ _ w13 (HVA.out _ HW13.out) HT.out HD4.out HL3.out).mono ?_
  rintro e w14 ⟨rfl, q, vb', vo', vc', e1, hq, hq2, ht, hsb, hbt⟩
  simp only [Value.slice.injEq, Option.some.injEq, Addr.mk.injEq, and_true, true_and] at e1
  obtain ⟨⟨rfl, rfl⟩, rfl⟩ := e1
  have HRES := Lib.hid (show TV w14 tb T.h T.sc cv (.slice (some ⟨q, 0, none⟩) T.nS T.nS) ev ∧ BR w14 cv (cfL T) w.heap.size q ∧ SB w14 q T.nS (fun i => slX vb vo (f0 + sizeN T.S i) (T.S i).n) T.S ∧ But w.heap.size tb w w14 ∧ w.heap.size ≤ q ∧ q < w14.heap.size from
    ⟨ht, (HBR.out.but hbt (Nat.le_refl _) (Or.inl htw)).mono (Nat.le_refl _) hq, hsb, HW13.out.trans (hbt.mono HW13.out.size), Nat.le_trans HW13.out.size hq, hq2⟩)
  clear ht hsb hbt hq hq2 y0
  go_wp2_with fail
  go_ret
  exact ⟨rfl, q, cv, vb, vo, vc, rfl, HRES.out.2.2.2.2.1, HRES.out.2.2.2.2.2, HRES.out.1, HRES.out.2.1, HRES.out.2.2.1, HRES.out.2.2.2.1⟩
end Go.Proofs.Ytkhjkemllgjfmaa

/- The reader's track. -/
namespace Go.Proofs.Ytkhjkemllgjfmaa
open Go.RowKit
set_option linter.unusedVariables false
set_option linter.unusedSimpArgs false
theorem owns_but {w w' : World} {B E size n m g : Nat} {v : Value} {xs : List Value} (h : w.ownsRow B E size v n xs) (hb : But m g w w') (hn : ∀ k, v.ownBlock = some k → k < m ∧ k ≠ g) : w'.ownsRow B E size v n xs := by
  refine ⟨h.1, ?_⟩
  rcases h.2 with h1 | ⟨k, cap, cur, rfl, h1, h2, h3⟩
  · exact .inl h1
  · have := hn k rfl
    exact .inr ⟨k, cap, cur, rfl, h1, (hb.block k this.1 this.2).trans h2, h3⟩
/-- A track as read: its config and edits in blocks before q, its samples in block q. -/
structure TK (w : World) (lo q : Nat) (X : Nat → Value) (T : Tr) (cv ev : Value) : Prop where
  cf : BR w cv (cfL T) lo q
  ed : w.ownsRow lo 76 2 ev T.nE (edX T.E T.nE)
  el : ∀ k, ev.ownBlock = some k → k < q
  sb : SB w q T.nS X T.S
  lq : lo ≤ q
theorem TK.but {w w' : World} {lo q n g : Nat} {X : Nat → Value} {T : Tr} {cv ev : Value} (h : TK w lo q X T cv ev) (hb : But n g w w') (hn : q < n) (hg : g < lo ∨ q < g) : TK w' lo q X T cv ev :=
  ⟨h.cf.but hb (by omega) (by omega), owns_but h.ed hb (fun k hk => by have h1 := h.el k hk; have h2 := (World.ownsRow.lt h.ed k hk).1; omega), h.el, h.sb.block (hb.block q hn (by have := h.lq; omega)), h.lq⟩
theorem TK.below {w w' : World} {lo q : Nat} {X : Nat → Value} {T : Tr} {cv ev : Value} (h : TK w lo q X T cv ev) (hb : Below w.heap.size w w') (hq : q < w.heap.size) : TK w' lo q X T cv ev :=
  h.but (But.of (g := w.heap.size) hb (Nat.le_refl _)) hq (Or.inr hq)
theorem edR_ok {e : Ed} (h : okEd e = true) : edR e = e := by
  unfold okEd at h
  simp only [decide_eq_true_eq] at h
  obtain ⟨d, t⟩ := e
  dsimp only at h
  unfold edR u32
  dsimp only
  rw [show d % 4294967296 = d by omega]
  by_cases h1 : t = -1
  · subst h1; rfl
  · rw [show t % 4294967296 = t by omega, if_neg (by omega)]
theorem edX_congr {E E' : Nat → Ed} : ∀ n, (∀ i, i < n → E' i = E i) → edX E' n = edX E n
  | 0, _ => rfl
  | n + 1, h => by rw [edX, edX, edX_congr n (fun i hi => h i (by omega)), h n (by omega)]
theorem trak_picks {L : List Int} {p : Nat} {T : Tr} {k first : Int} (h : Seg L p (catB (trakB T k first))) :
    (∃ b, pick nTkhd (lay p (trakB T k first)) = [b]) ∧ (∃ b : Bx, pick nMdia (lay p (trakB T k first)) = [b] ∧ Seg L (b.p + 8) (catB (mdiaB T first)) ∧ b.sz = 8 + (catB (mdiaB T first)).length) ∧
      ((T.nE = 0 ∧ pick nEdts (lay p (trakB T k first)) = []) ∨ (0 < T.nE ∧ ∃ b : Bx, pick nEdts (lay p (trakB T k first)) = [b] ∧ Seg L (b.p + 8) (catB (edB T.E T.nE)) ∧ b.sz = 8 + (catB (edB T.E T.nE)).length)) := by
  by_cases h0 : 0 < T.nE
  · have e : trakB T k first = [(nTkhd, tkhdL k), (nEdts, catB (edB T.E T.nE)), (nMdia, catB (mdiaB T first))] := by unfold trakB edtsB; rw [if_pos h0]; rfl
    rw [e] at h ⊢
    obtain ⟨x1, p1, -, -⟩ := pick_named (i := 0) (nm := nTkhd) (D := tkhdL k) h rfl rfl (show [nTkhd.data.toList, nEdts.data.toList, nMdia.data.toList].Nodup by decide)
    obtain ⟨x2, p2⟩ := pick_named (i := 1) (nm := nEdts) (D := catB (edB T.E T.nE)) h rfl rfl (show [nTkhd.data.toList, nEdts.data.toList, nMdia.data.toList].Nodup by decide)
    obtain ⟨x3, p3⟩ := pick_named (i := 2) (nm := nMdia) (D := catB (mdiaB T first)) h rfl rfl (show [nTkhd.data.toList, nEdts.data.toList, nMdia.data.toList].Nodup by decide)
    exact ⟨⟨x1, p1⟩, ⟨x3, p3⟩, .inr ⟨h0, x2, p2⟩⟩
  · have e : trakB T k first = [(nTkhd, tkhdL k), (nMdia, catB (mdiaB T first))] := by unfold trakB edtsB; rw [if_neg h0]; rfl
    rw [e] at h ⊢
    obtain ⟨x1, p1, -, -⟩ := pick_named (i := 0) (nm := nTkhd) (D := tkhdL k) h rfl rfl (show [nTkhd.data.toList, nMdia.data.toList].Nodup by decide)
    obtain ⟨x3, p3⟩ := pick_named (i := 1) (nm := nMdia) (D := catB (mdiaB T first)) h rfl rfl (show [nTkhd.data.toList, nMdia.data.toList].Nodup by decide)
    exact ⟨⟨x1, p1⟩, ⟨x3, p3⟩, .inl ⟨by omega, by simp [lay, pick, nEdts, nTkhd, nMdia]⟩⟩
theorem trak_four {T : Tr} {k first : Int} : (∀ y ∈ trakB T k first, y.1.size = 4) ∧ (trakB T k first).length ≤ 3 := by
  unfold trakB edtsB
  by_cases h0 : 0 < T.nE
  · rw [if_pos h0]
    refine ⟨fun y hy => ?_, by simp⟩
    simp only [List.cons_append, List.nil_append, List.mem_cons, List.not_mem_nil, or_false] at hy
    rcases hy with rfl | rfl | rfl <;> rfl
  · rw [if_neg h0]
    refine ⟨fun y hy => ?_, by simp⟩
    simp only [List.nil_append, List.mem_cons, List.not_mem_nil, or_false] at hy
    rcases hy with rfl | rfl <;> rfl
theorem load43v {w : World} {b : Nat} {h : ByteArray} {sc : Int} {cv sv ev : Value} (k : TV w b h sc cv sv ev) : (loadVar 43 ⟨b, 0, none⟩).run Try.prog w = .ok (.agg #[.string h, .int .i64 sc, cv, sv, ev]) w := by
  obtain ⟨k0, k1, k2, k3, k4, _⟩ := k
  simp [go_sem, k0, k1, k2, k3, k4]
theorem results_tv2 {fn : Func} {tmps : Array Value} {w : World} {s t : Tmp} {b : Nat} {h : ByteArray} {sc : Int} {cv sv ev v : Value} (hr : fn.results = #[.cell s 43, .tmp t]) (ht : tmps.getD s undef = .pointer (some ⟨b, 0, none⟩)) (hv : tmps.getD t undef = v) (hc : TV w b h sc cv sv ev) :
    (results fn tmps).run Try.prog w = .ok (.tuple #[.agg #[.string h, .int .i64 sc, cv, sv, ev], v]) w := by
  have hld := load43v hc
  obtain ⟨C, hC⟩ : ∃ C, C = Value.agg #[.string h, .int .i64 sc, cv, sv, ev] := ⟨_, rfl⟩
  rw [← hC] at hld ⊢
  unfold results
  rw [hr]
  have ht2 : tmps[s]?.getD undef = .pointer (some ⟨b, 0, none⟩) := by rw [← Array.getD_eq_getD_getElem?]; exact ht
  have hv2 : tmps[t]?.getD undef = v := by rw [← Array.getD_eq_getD_getElem?]; exact hv
  simp [ht2, hv2, asAddr, hld]
theorem TV.fresh (w : World) (t : TypeId) : TV (w.alloc (.cells #[.string ⟨#[]⟩, .int .i64 0, .slice none 0 0, .slice none 0 0, .slice none 0 0] t)) w.heap.size ⟨#[]⟩ 0 (.slice none 0 0) (.slice none 0 0) (.slice none 0 0) :=
  ⟨by simp [go_sem], by simp [go_sem], by simp [go_sem], by simp [go_sem], by simp [go_sem], fun o => by simp [go_sem]⟩
theorem TV.putAll {w : World} {b : Nat} {h h' : ByteArray} {sc sc' : Int} {cv sv ev cv' sv' ev' : Value} (k : TV w b h sc cv sv ev) : TV (((((w.setCell ⟨b, 0, none⟩ (.string h')).setCell ⟨b, 1, none⟩ (.int .i64 sc')).setCell ⟨b, 2, none⟩ cv').setCell ⟨b, 3, none⟩ sv').setCell ⟨b, 4, none⟩ ev') b h' sc' cv' sv' ev' :=
  ((((k.set0 h').set1 sc').set2 cv').set3 sv').set4 ev'
set_option maxRecDepth 100000 in
set_option maxHeartbeats 8000000 in
theorem rtrack_any (L : List Int) (T : Tr) (k : Int) (f0 : Nat) (x : Bx) (vb vo vc : Nat) (w : World) (hv : BY w (.slice (some ⟨vb, vo, none⟩) L.length vc) L)
    (hs : Seg L (x.p + 8) (catB (trakB T k (f0 : Int)))) (hz : x.sz = 8 + (catB (trakB T k (f0 : Int))).length) (hok : okTr T = true) (hfit : f0 + sizeN T.S T.nS ≤ L.length) (hl : L.length < 100000000) :
    Calls Try.prog 63 #[.agg #[.slice (some ⟨vb, vo, none⟩) L.length vc], .agg (bxC x).toArray] w fun e w' => ∃ q cv ev, e = .returned (.tuple #[.agg #[.string T.h, .int .i64 T.sc, cv, .slice (some ⟨q, 0, none⟩) T.nS T.nS, ev], .bool true]) ∧
      TK w' w.heap.size q (fun i => slX vb vo (f0 + sizeN T.S i) (T.S i).n) T cv ev ∧ q < w'.heap.size ∧ (∃ a m c, cv = .slice a m c) ∧ (∃ a m c, ev = .slice a m c) ∧ Below w.heap.size w w' := by
  obtain ⟨-, -, -, -, -, k6, -, k8⟩ := okTr_facts hok
  obtain ⟨⟨x1, p1⟩, ⟨x3, p3, s3, z3⟩, hedts⟩ := trak_picks hs
  obtain ⟨t4, t3⟩ := trak_four (T := T) (k := k) (first := (f0 : Int))
  have hvb : vb < w.heap.size := by
    have hle := hs.le
    have h3 := s3.le
    obtain ⟨vb', vo', vc', e, h1, h2, h3⟩ := BA.open hv (by omega)
    simp only [Value.slice.injEq, Option.some.injEq, Addr.mk.injEq, and_true] at e
    obtain ⟨⟨rfl, rfl⟩, -, -⟩ := e
    exact block_lt_of_cell (h2 0 (by omega))
  have HOP := Lib.hid (fun (w : World) (hv : BY w (.slice (some ⟨vb, vo, none⟩) L.length vc) L) => open_any _ L x (trakB T k (f0 : Int)) w hv hl hs hz t4 (by omega))
  have HON1 := Lib.hid (fun (mb B : Nat) (w : World) (h : DirA w B mb (lay (x.p + 8) (trakB T k (f0 : Int)))) => only_any mb _ nTkhd x1 B w h (by decide) p1)
  have HON2 := Lib.hid (fun (mb B : Nat) (w : World) (h : DirA w B mb (lay (x.p + 8) (trakB T k (f0 : Int)))) => only_any mb _ nMdia x3 B w h (by decide) p3)
  have HMD := Lib.hid (fun (tb : Nat) (h0 : ByteArray) (sc0 : Int) (cv0 sv0 ev : Value) (w : World) (hv : BY w (.slice (some ⟨vb, vo, none⟩) L.length vc) L) (hvt : vb ≠ tb) (ht : TV w tb h0 sc0 cv0 sv0 ev) => media_any _ L T f0 x3 tb h0 sc0 cv0 sv0 ev w hv (fun a m c e => by simp only [Value.slice.injEq, Option.some.injEq] at e; rw [← e.1]; exact hvt) ht s3 z3 hok hfit hl)
  obtain ⟨l, hl1⟩ : ∃ l, l = lay (x.p + 8) (trakB T k (f0 : Int)) := ⟨_, rfl⟩
  rw [← hl1] at HOP HON1 HON2 hedts
  obtain ⟨pe, hpe⟩ : ∃ pe, pe = pick nEdts l := ⟨_, rfl⟩
  rw [← hpe] at hedts
  obtain ⟨n, hn⟩ : ∃ n, n = pe.length := ⟨_, rfl⟩
  have HNE := Lib.hid (show n ≤ 1 ∧ (if n = 0 then 0 else T.nE) = T.nE by
    rcases hedts with ⟨e0, e1⟩ | ⟨e0, b, e1, -⟩
    · rw [hn, e1]; exact ⟨by simp, by simp [e0]⟩
    · rw [hn, e1]; exact ⟨by simp, by simp⟩)
  have HED := Lib.hid (show 0 < n → ∃ b : Bx, pe = [b] ∧ ∀ w : World, BY w (.slice (some ⟨vb, vo, none⟩) L.length vc) L → Calls Try.prog 70 #[.agg #[.slice (some ⟨vb, vo, none⟩) L.length vc], .agg (bxC b).toArray] w fun e w' => ∃ v', e = .returned (.tuple #[v', .bool true]) ∧ w'.ownsRow w.heap.size 76 2 v' T.nE (edX T.E T.nE) ∧ Below w.heap.size w w' by
    intro h
    rcases hedts with ⟨e0, e1⟩ | ⟨e0, b, e1, e2, e3⟩
    · rw [hn, e1] at h; simp at h
    · refine ⟨b, e1, fun w hv => (redits_own _ L T.E T.nE b w hv hl e2 e3 k6).mono ?_⟩
      rintro e w' ⟨v', h1, h2, h3⟩
      rw [edX_congr T.nE (fun i hi => edR_ok (k8 i hi))] at h2
      exact ⟨v', h1, h2, h3⟩)
  have HNL := Lib.hid hn
  have HPE := Lib.hid hpe
  have HLK := Lib.hid (fun (B mb : Nat) (w : World) (h : DirA w B mb l) => h.look nEdts (by decide))
  rw [← hpe] at HLK
  simp only [nEdts] at HLK
  simp only [nTkhd] at HON1
  simp only [nMdia] at HON2
  obtain ⟨N, hN⟩ : ∃ N, N = L.length := ⟨_, rfl⟩
  rw [← hN] at HOP HMD HED hv ⊢
  have HV := Lib.hid hv
  obtain ⟨C, hC⟩ : ∃ C, C = (bxC x).toArray := ⟨_, rfl⟩
  obtain ⟨C1', hC1⟩ : ∃ C, C = (bxC x1).toArray := ⟨_, rfl⟩
  obtain ⟨C3, hC3⟩ : ∃ C, C = (bxC x3).toArray := ⟨_, rfl⟩
  rw [← hC] at HOP ⊢
  rw [← hC1] at HON1
  rw [← hC3] at HON2 HMD
  have HC := Lib.hid hC
  have HC1 := Lib.hid hC1
  have HC3 := Lib.hid hC3
  clear hl1 hN hC hC1 hC3 hv hs hz hok k6 k8 p1 p3 s3 z3 t4 t3 hedts hpe hn hfit hl
  go_enter Try.func63, Try.ntmps63
  go_upto_region 1 with fail

  obtain ⟨w1, hw1⟩ : ∃ y, y = w.alloc (.cells #[.slice (some ⟨vb, vo, none⟩) N vc] 98) := ⟨_, rfl⟩
  rw [← hw1]
  obtain ⟨w2, hw2⟩ : ∃ y, y = w1.alloc (.cells C 31) := ⟨_, rfl⟩
  rw [← hw2]
  obtain ⟨w3, hw3⟩ : ∃ y, y = w2.alloc (.cells #[.string ⟨#[]⟩, .int .i64 0, .slice none 0 0, .slice none 0 0, .slice none 0 0] 43) := ⟨_, rfl⟩
  rw [← hw3]
  obtain ⟨g, hg⟩ : ∃ y, y = w.heap.size := ⟨_, rfl⟩
  have hs1 : w1.heap.size = g + 1 := by rw [hw1, hg]; simp
  have hs2 : w2.heap.size = g + 1 + 1 := by rw [hw2, World.size_alloc, hs1]
  have hb1 : Below w.heap.size w w1 := by rw [hw1]; exact below_box _ _
  have hb2 : Below w1.heap.size w1 w2 := by rw [hw2]; exact below_box _ _
  have hb3 : Below w2.heap.size w2 w3 := by rw [hw3]; exact below_box _ _
  have HY := Lib.hid (show C1 w3 g (.slice (some ⟨vb, vo, none⟩) N vc) from C1.below (C1.below (show C1 w1 g (.slice (some ⟨vb, vo, none⟩) N vc) by rw [hw1, hg]; constructor <;> simp [go_sem]) hb2) hb3)
  have HX := Lib.hid (show VB w3 (g + 1) x from VB.below (by rw [hw2, HC.out, ← hs1]; exact VB.box w1 x 31) hb3)
  have HR := Lib.hid (show TV w3 (g + 1 + 1) ⟨#[]⟩ 0 (.slice none 0 0) (.slice none 0 0) (.slice none 0 0) by rw [hw3, ← hs2]; exact TV.fresh w2 43)
  have HW := Lib.hid ((hb1.trans (hb2.mono hb1.size)).trans (hb3.mono (by rw [hs2]; omega)))
  have HG := Lib.hid (show w.heap.size ≤ g from Nat.le_of_eq hg.symm)
  obtain ⟨rb, hrb⟩ : ∃ y, y = g + 1 + 1 := ⟨_, rfl⟩
  rw [← hg, ← hrb]
  rw [← hrb] at HR
  have HRB := Lib.hid (show w.heap.size ≤ rb ∧ g ≠ rb from by omega)
  clear hw1 hw2 hw3 hg hs1 hs2 hb1 hb2 hb3 hrb
  apply wp_region_lit
  have y0 := HY.out.k0
  iterate 3 go_step
  refine wpl_loadB HX.out.r rfl rfl rfl ?_
  rw [← HC.out]
  simp only [Act.put, List.setIfInBounds_toArray, List.set_cons_succ, List.set_cons_zero]
  clear y0 HX
  go_wp2_with fail
  refine (HOP.out _ (HV.out.below HW.out)).mono ?_
  rintro e w4 ⟨mb, rfl, hd, hb⟩
  have HD := Lib.hid hd
  replace HY := Lib.hid (HY.out.below hb)
  replace HR := Lib.hid (HR.out.below hb)
  replace HW := Lib.hid (HW.out.trans (hb.mono HW.out.size))
  clear hb hd
  obtain ⟨r, hlk, hrow, -, -⟩ := HLK.out _ mb w4 HD.out
  obtain ⟨ra, rc, rfl⟩ := hrow.shape
  rw [← HNL.out] at hlk
  have HROW := Lib.hid hrow
  have HL4 := Lib.hid hlk
  have hl4 := hlk w4 rfl
  clear hrow hlk
  have z1 : ¬ ((1 : Int) < (n : Int)) := by have := HNE.out.1; omega
  go_upto_region 4 with fail
  go_wp2_with fail
  refine (HON1.out mb _ _ HD.out).mono ?_
  rintro e w5 ⟨rfl, hb⟩
  try dsimp only
  iterate 10 go_step
  refine wpl_allocB rfl rfl (fun w5a ht hf hb3 hs3 => ?_)
  refine wpl_storeB x1 ht hf rfl rfl rfl (by rw [← HC1.out]; rfl) ?_
  intro w5b hv ho3 hs4 hb4
  replace hb : Below w4.heap.size w4 w5b := hb.trans ((hb4 _ _ (Nat.le_refl _) hb3).mono hb.size)

  replace HY := Lib.hid (HY.out.below hb)
  replace HR := Lib.hid (HR.out.below hb)
  replace HW := Lib.hid (HW.out.trans (hb.mono HW.out.size))
  have HDW := Lib.hid hb
  clear ht hf hb3 hs3 hv ho3 hs4 hb4 hb hl4
  simp only [Act.put, List.setIfInBounds_toArray, List.set_cons_succ, List.set_cons_zero]
  obtain ⟨q1, hq1⟩ : ∃ y, y = w5.heap.size := ⟨_, rfl⟩
  rw [← hq1]
  clear hq1
  go_upto_region 8 with fail
  obtain ⟨w6, hw6⟩ : ∃ y, y = w5b.alloc (.cells #[.string ⟨#[]⟩, .int .i64 0, .slice none 0 0, .slice none 0 0, .slice none 0 0] 43) := ⟨_, rfl⟩
  rw [← hw6]
  obtain ⟨tb, htb⟩ : ∃ y, y = w5b.heap.size := ⟨_, rfl⟩
  have hb : Below w5b.heap.size w5b w6 := by rw [hw6]; exact below_box _ _
  have hT := show TV w6 tb ⟨#[]⟩ 0 (.slice none 0 0) (.slice none 0 0) (.slice none 0 0) by rw [hw6, htb]; exact TV.fresh w5b 43
  have hs6 : w6.heap.size = tb + 1 := by rw [hw6, htb]; simp
  rw [← htb]
  have HTB := Lib.hid (show w5b.heap.size = tb ∧ w6.heap.size = tb + 1 ∧ w4.heap.size ≤ tb ∧ w.heap.size ≤ tb ∧ g < tb ∧ rb < tb from ⟨htb.symm, hs6, by rw [htb]; exact HDW.out.size, by rw [htb]; exact HW.out.size, by rw [htb]; exact HY.out.lt, by rw [htb]; exact HR.out.lt⟩)
  have HY5 := HY
  have HR5 := HR
  have HW5 := HW
  replace HY := Lib.hid (HY.out.below hb)
  replace HR := Lib.hid (HR.out.below hb)
  replace HW := Lib.hid (HW.out.trans (hb.mono HW.out.size))
  have hl6 := HL4.out w6 ((HDW.out.trans (hb.mono HDW.out.size)).block mb HD.out.lt)
  have HB56 := Lib.hid hb
  have HT6 := Lib.hid hT
  clear hw6 htb hb hT hs6
  go_upto_region 9 with fail
  clear hl6
  go_loopw [40] (fun i wr => ∃ (k : Nat) (ev : Value), k ≤ n ∧ i = .int .i64 (k : Int) ∧ (∃ a m c, ev = .slice a m c) ∧ TV wr tb ⟨#[]⟩ 0 (.slice none 0 0) (.slice none 0 0) ev ∧ wr.ownsRow (tb + 1) 76 2 ev (if k = 0 then 0 else T.nE) (edX T.E (if k = 0 then 0 else T.nE)) ∧ Below w5b.heap.size w5b wr) (fun i _ => n - (intOf i).toNat)
  case atStart => exact ⟨0, _, Nat.zero_le _, rfl, ⟨_, _, _, rfl⟩, HT6.out, owns_nil _ _ _ _, HB56.out⟩
  case round =>
    obtain ⟨k, ev, hk, rfl, ⟨ea, em, ec, rfl⟩, htv, how, hbw⟩ := hrel
    have HTK := Lib.hid htv
    have HOW := Lib.hid how
    have HBK := Lib.hid hbw
    have HYK := Lib.hid (HY5.out.below hbw)
    have HRK := Lib.hid (HR5.out.below hbw)
    clear htv how hbw
    by_cases hlt : k < n
    · have hk0 : k = 0 := by have := HNE.out.1; omega
      subst hk0
      obtain ⟨xe, hxe, hcall⟩ := HED.out hlt
      have HCALL := Lib.hid hcall
      obtain ⟨gr, gc, e, hgc, hx⟩ := HROW.out.range (i := 0) (b := xe) (by rw [hxe]; rfl)
      rw [hxe] at e hgc
      simp only [List.length_singleton, Value.slice.injEq] at e
      obtain ⟨rfl, en, rfl⟩ := e
      have hgr : gr < w4.heap.size := block_lt_of_cell (hx 0 _ rfl)
      have HXR := Lib.hid (show wr.rangeAt gr (0 * 4) (bxC xe) from fun j u hj => by
        have e := (HDW.out.trans (HBK.out.mono HDW.out.size)).block gr hgr
        exact (World.cell?_of_block (a := ⟨gr, 0 * 4 + j, none⟩) e).trans (hx j u hj))
      obtain ⟨Ce, hCe⟩ : ∃ C, C = (bxC xe).toArray := ⟨_, rfl⟩
      rw [← hCe] at HCALL
      have HCE := Lib.hid hCe
      clear hcall hxe hx hgr hgc hCe
      have hlt' : (0 : Int) < (n : Int) := by omega
      go_upto_region 10 with fail
      apply wp_region_lit
      iterate 3 go_step
      refine wpl_loadB HXR.out rfl rfl rfl ?_
      rw [← HCE.out]
      refine wpl_allocB rfl rfl (fun wa ht hf hb3 hs3 => ?_)
      refine wpl_storeB xe ht hf rfl rfl rfl (by rw [← HCE.out]; rfl) ?_
      intro wb hv ho3 hs4 hb4
      have hb : Below wr.heap.size wr wb := hb4 _ _ (Nat.le_refl _) hb3
      have HXB := Lib.hid hv
      have HYB := Lib.hid (HYK.out.below hb)
      have HTBk := Lib.hid (HTK.out.below hb)
      have HOB := Lib.hid (owns_below HOW.out hb)
      have HBB := Lib.hid (HBK.out.trans (hb.mono HBK.out.size))
      clear ht hf hb3 hs3 hv ho3 hs4 hb4 hb HYK HTK HOW HBK HXR
      obtain ⟨qe, hqe⟩ : ∃ y, y = wr.heap.size := ⟨_, rfl⟩
      rw [← hqe] at HXB ⊢
      clear hqe
      simp only [Act.put, List.setIfInBounds_toArray, List.set_cons_succ, List.set_cons_zero]
      go_upto_region 11 with fail
      have y0 := HYB.out.k0
      apply wp_region_lit
      iterate 3 go_step
      refine wpl_loadB HXB.out.r rfl rfl rfl ?_
      rw [← HCE.out]
      simp only [Act.put, List.setIfInBounds_toArray, List.set_cons_succ, List.set_cons_zero]
      clear y0
      go_wp2_with fail
      refine (HCALL.out wb (HV.out.below (HW5.out.trans (HBB.out.mono HW5.out.size)))).mono ?_
      rintro e wc ⟨ev, rfl, how, hb⟩
      obtain ⟨ea', em', ec', rfl⟩ := owns_shape how
      have HTC := Lib.hid (HTBk.out.below hb)
      have HOC := Lib.hid (owns_mono how (by have := HBB.out.size; have := HTBk.out.lt; omega : tb + 1 ≤ wb.heap.size))
      have HBC := Lib.hid (HBB.out.trans (hb.mono HBB.out.size))
      clear how hb HYB HOB HXB
      have y4 := HTC.out.k4
      have yf := HTC.out.f
      go_upto_region 12 with fail
      obtain ⟨wd, hwd⟩ : ∃ y, y = wc.setCell ⟨tb, 4, none⟩ (.slice ea' em' ec') := ⟨_, rfl⟩
      rw [← hwd]
      have HTD := Lib.hid (show TV wd tb ⟨#[]⟩ 0 (.slice none 0 0) (.slice none 0 0) (.slice ea' em' ec') by rw [hwd]; exact HTC.out.set4 _)
      have HOD := Lib.hid (show wd.ownsRow (tb + 1) 76 2 (.slice ea' em' ec') T.nE (edX T.E T.nE) by rw [hwd]; exact owns_far HOC.out (by simp) _)
      have HBD := Lib.hid (show Below w5b.heap.size w5b wd by rw [hwd]; exact HBC.out.setCell (by have := HTB.out.1; simp; omega) _)
      clear hwd y4 yf HTC HOC HBC HTBk HBB
      go_wp2_with fail
      go_roundw
      case rel => exact ⟨1, _, by omega, by simp, ⟨_, _, _, rfl⟩, HTD.out, HOD.out, HBD.out⟩
      case measure =>
        simp [intOf]
        omega
    · have hkn : k = n := by omega
      subst hkn
      have HOW2 := Lib.hid (show wr.ownsRow (tb + 1) 76 2 (.slice ea em ec) T.nE (edX T.E T.nE) by have := HOW.out; rw [HNE.out.2] at this; exact this)
      have HDK := Lib.hid (HD.out.below (HDW.out.trans (HBK.out.mono HDW.out.size)))
      clear HOW
      go_upto_region 15 with fail
      go_wp2_with fail
      refine (HON2.out mb _ wr HDK.out).mono ?_
      rintro e wa ⟨rfl, hb⟩
      try dsimp only
      iterate 10 go_step
      refine wpl_allocB rfl rfl (fun wa1 ht hf hb3 hs3 => ?_)
      refine wpl_storeB x3 ht hf rfl rfl rfl (by rw [← HC3.out]; rfl) ?_
      intro wb hv ho3 hs4 hb4
      have HXB := Lib.hid hv
      replace hb : Below wr.heap.size wr wb := hb.trans ((hb4 _ _ (Nat.le_refl _) hb3).mono hb.size)
      have HYB := Lib.hid (HYK.out.below hb)
      have HRB2 := Lib.hid (HRK.out.below hb)
      have HTBk := Lib.hid (HTK.out.below hb)
      have HOB := Lib.hid (owns_below HOW2.out hb)
      have HBB := Lib.hid (HBK.out.trans (hb.mono HBK.out.size))
      obtain ⟨qe, hqe⟩ : ∃ y, y = wa.heap.size := ⟨_, rfl⟩
      rw [← hqe] at HXB ⊢
      clear ht hf hb3 hs3 hv ho3 hs4 hb4 hb HYK HTK HOW2 HBK hqe HDK HRK
      simp only [Act.put, List.setIfInBounds_toArray, List.set_cons_succ, List.set_cons_zero]
      go_upto_region 16 with fail
      have y0 := HYB.out.k0
      have x0 := HXB.out.k0
      have x1' := HXB.out.k1
      have x2' := HXB.out.k2
      have x3' := HXB.out.k3
      have HMD2 := HMD
      rw [HC3.out] at HMD2
      have hlt2 : q1 = q1 := rfl
      go_wp2_with fail
      refine (HMD2.out tb _ _ _ _ _ wb (HV.out.below (HW5.out.trans (HBB.out.mono HW5.out.size))) (by have := HTB.out.2.2.2.1; omega) HTBk.out).mono ?_
      rintro e we ⟨rfl, q, cv, vb', vo', vc', e1, hq, hq2, ht, hbr, hsb, hbt⟩
      simp only [Value.slice.injEq, Option.some.injEq, Addr.mk.injEq, and_true, true_and] at e1
      obtain ⟨⟨rfl, rfl⟩, rfl⟩ := e1
      obtain ⟨ca, cc, rfl⟩ := hbr.shape
      have hrt : rb ≠ tb := by have := HTB.out.2.2.2.2.2; omega
      have HTE := Lib.hid ht
      have HRE := Lib.hid (HRB2.out.block (hbt.block rb HRB2.out.lt hrt))
      have hwb : tb < wb.heap.size := HTBk.out.lt
      have HQE := Lib.hid (show tb < q ∧ q < we.heap.size ∧ wb.heap.size ≤ q from ⟨by omega, hq2, hq⟩)
      have HTKE := Lib.hid (show TK we (tb + 1) q (fun i => slX vb vo (f0 + sizeN T.S i) (T.S i).n) T (.slice ca (cfL T).length cc) (.slice ea em ec) from
        ⟨hbr.mono (by omega) (Nat.le_refl _), owns_but HOB.out hbt (fun k hk => by have h1 := World.ownsRow.lt HOB.out k hk; omega), fun k hk => by have h1 := World.ownsRow.lt HOB.out k hk; omega, hsb, by omega⟩)
      have HBE := Lib.hid (show Below w.heap.size w we from (HW5.out.trans (HBB.out.mono HW5.out.size)).trans (hbt.below (m := w.heap.size) (Nat.le_trans HW5.out.size HBB.out.size) HTB.out.2.2.2.1))
      clear ht hbr hsb hbt hq hq2 y0 x0 x1' x2' x3' HMD2 hlt2 HXB HYB HRB2 HTBk HOB HBB hwb
      go_upto_region 18 with fail
      have e0 := HTE.out.k0
      have e1 := HTE.out.k1
      have e2 := HTE.out.k2
      have e3 := HTE.out.k3
      have e4 := HTE.out.k4
      have r0 := HRE.out.k0
      have r1 := HRE.out.k1
      have r2 := HRE.out.k2
      have r3 := HRE.out.k3
      have r4 := HRE.out.k4
      have rf := HRE.out.f
      go_wp2_with fail
      have hbut : But we.heap.size rb we (((((we.setCell ⟨rb, 0, none⟩ (.string T.h)).setCell ⟨rb, 1, none⟩ (.int .i64 T.sc)).setCell ⟨rb, 2, none⟩ (.slice ca (cfL T).length cc)).setCell ⟨rb, 3, none⟩ (.slice (some ⟨q, 0, none⟩) T.nS T.nS)).setCell ⟨rb, 4, none⟩ (.slice ea em ec)) :=
        ((((But.cell _ _ _ _ _).trans (But.cell _ _ _ _ _)).trans (But.cell _ _ _ _ _)).trans (But.cell _ _ _ _ _)).trans (But.cell _ _ _ _ _)
      refine bodyPost_ret (v := .tuple #[.agg #[.string T.h, .int .i64 T.sc, .slice ca (cfL T).length cc, .slice (some ⟨q, 0, none⟩) T.nS T.nS, .slice ea em ec], .bool true]) (results_tv2 Try.results63 rfl rfl HRE.out.putAll) rfl ?_
      have h1 := HTKE.out.but hbut HQE.out.2.1 (Or.inl (by have := HTB.out.2.2.2.2.2; omega))
      refine ⟨q, _, _, rfl, ⟨h1.cf.mono (by have := HTB.out.2.2.2.1; omega) (Nat.le_refl _), owns_mono h1.ed (by have := HTB.out.2.2.2.1; omega), h1.el, h1.sb, by have := HTB.out.2.2.2.1; have := HQE.out.1; omega⟩, Nat.lt_of_lt_of_le HQE.out.2.1 hbut.size, ⟨_, _, _, rfl⟩, ⟨_, _, _, rfl⟩, HBE.out.trans (hbut.below (m := w.heap.size) HBE.out.size HRB.out.1)⟩
end Go.Proofs.Ytkhjkemllgjfmaa

/- The reader's movie: rows of tracks, boxes of a movie. -/
namespace Go.Proofs.Ytkhjkemllgjfmaa
open Go.RowKit
set_option linter.unusedVariables false
set_option linter.unusedSimpArgs false
theorem info43z : ∃ i, Try.prog.info? 43 = some i ∧ i.zero = some (.agg #[.string { data := #[] }, .int .i64 0, .slice none 0 0, .slice none 0 0, .slice none 0 0]) ∧ i.size = 5 ∧ i.bytes = 96 := by
  have h := info43
  cases hi : Try.prog.info? 43 with
  | none => rw [hi] at h; cases h
  | some i =>
    rw [hi] at h
    simp only [Option.map_some, Option.some.injEq, Prod.mk.injEq] at h
    exact ⟨i, rfl, h.1, h.2.1, h.2.2⟩
theorem wpList_appTr (w : World) {ops : Array Oper} {rest : List Oper} {op : Oper} {a : Act} {Q : Exit → Act → World → Prop} (hg : op.guard = none) (s x : Operand) (dst : Option Tmp) (hdst : op.dst = dst)
    (hop : op.op = .call { callee := .builtin .append, args := #[s, x], argTypes := #[54, 54] }) (B : Nat) (v : Value) (n : Nat) (xs c : List Value) (hs : a.eval s = v) (h : w.ownsRow B 43 5 v n xs) (hB : B ≤ w.heap.size)
    (b m : Nat) (hx : a.eval x = .slice (some ⟨b, 0, none⟩) 1 m) (hc : w.rangeAt b 0 c) (hl5 : c.length = 5) (hone : ∀ u ∈ c, u.oneCell' = true) (hl : n ≤ 1048576)
    (hK : ∀ v' w', w'.ownsRow B 43 5 v' (n + 1) (xs ++ c) → w.grownBy w' v.ownBlock → (v'.ownBlock = v.ownBlock ∨ v'.ownBlock = some w.heap.size) → (∃ ga m c, v' = .slice ga m c) → wpList Try.prog ops Q rest (a.put dst v') w') : wpList Try.prog ops Q (op :: rest) a w := by
  subst hdst
  obtain ⟨i, hi, hz, hs2, hb⟩ := info43z
  refine wpList_append_own_at w hg s x 54 hop B 43 i _ 5 96 Try.underlying54 hi hz hs2 hb rfl (by decide) v n xs hs h ⟨b, 0, none⟩ 1 m c hx (by rw [hl5]) (fun j u hu => ?_) hone (by unfold maxLen; omega) (by omega) hB ?_
  · rw [show (⟨b, 0, none⟩ : Addr).add j = ⟨b, 0 + j, none⟩ from Addr.add_mid b 0 j]
    exact hc j u hu
  · intro v' w' q1 q2 _ q4
    refine hK v' w' q1 q2 q4 ?_
    rcases q1.2 with ⟨rfl, _⟩ | ⟨g, cap, cur, rfl, _⟩
    · exact ⟨_, _, _, rfl⟩
    · exact ⟨_, _, _, rfl⟩
def trC (T : Tr) (q : Nat) (cv ev : Value) : List Value := [.string T.h, .int .i64 T.sc, cv, .slice (some ⟨q, 0, none⟩) T.nS T.nS, ev]
def trX (T : Nat → Tr) (Q : Nat → Nat) (CV EV : Nat → Value) : Nat → List Value
  | 0 => []
  | n + 1 => trX T Q CV EV n ++ trC (T n) (Q n) (CV n) (EV n)
def upd {α : Type} (f : Nat → α) (n : Nat) (x : α) : Nat → α := fun k => if k = n then x else f k
theorem upd_here {α : Type} (f : Nat → α) (n : Nat) (x : α) : upd f n x n = x := by simp [upd]
theorem upd_far {α : Type} (f : Nat → α) {n k : Nat} (x : α) (h : k ≠ n) : upd f n x k = f k := by simp [upd, h]
theorem trX_congr {T : Nat → Tr} {Q Q' : Nat → Nat} {CV CV' EV EV' : Nat → Value} : ∀ n, (∀ k, k < n → Q' k = Q k ∧ CV' k = CV k ∧ EV' k = EV k) → trX T Q' CV' EV' n = trX T Q CV EV n
  | 0, _ => rfl
  | n + 1, h => by rw [trX, trX, trX_congr n (fun k hk => h k (by omega)), (h n (by omega)).1, (h n (by omega)).2.1, (h n (by omega)).2.2]
theorem trX_upd (T : Nat → Tr) (Q : Nat → Nat) (CV EV : Nat → Value) (n q : Nat) (cv ev : Value) : trX T (upd Q n q) (upd CV n cv) (upd EV n ev) (n + 1) = trX T Q CV EV n ++ trC (T n) q cv ev := by
  rw [trX, upd_here, upd_here, upd_here, trX_congr n (fun k hk => ⟨upd_far _ _ (by omega), upd_far _ _ (by omega), upd_far _ _ (by omega)⟩)]
theorem trX_length (T : Nat → Tr) (Q : Nat → Nat) (CV EV : Nat → Value) (n : Nat) : (trX T Q CV EV n).length = n * 5 := by
  induction n with
  | zero => rfl
  | succ n ih => rw [trX, List.length_append, ih]; simp [trC]; omega
theorem trX_at (T : Nat → Tr) (Q : Nat → Nat) (CV EV : Nat → Value) {n k j : Nat} (hk : k < n) (hj : j < 5) : (trX T Q CV EV n)[k * 5 + j]? = (trC (T k) (Q k) (CV k) (EV k))[j]? := by
  induction n with
  | zero => omega
  | succ n ih =>
    have hl := trX_length T Q CV EV n
    rw [trX]
    by_cases e : k = n
    · subst e; rw [List.getElem?_append_right (by omega), hl, show k * 5 + j - k * 5 = j by omega]
    · rw [List.getElem?_append_left (by omega)]; exact ih (by omega)
theorem TK.grown {w w' : World} {lo q : Nat} {X : Nat → Value} {T : Tr} {cv ev : Value} {row : Option Nat} (h : TK w lo q X T cv ev) (hg : w.grownBy w' row) (hq : q < w.heap.size) (hr : ∀ r, row = some r → r < lo ∨ q < r) : TK w' lo q X T cv ev := by
  cases row with
  | none => exact h.but (n := w.heap.size) (g := w.heap.size) ⟨hg.os, hg.tape, hg.output, hg.size, fun k hk _ => hg.block k hk (by simp)⟩ hq (Or.inr hq)
  | some r => exact h.but (n := w.heap.size) (g := r) ⟨hg.os, hg.tape, hg.output, hg.size, fun k hk hn => hg.block k hk (by simpa using hn)⟩ hq (hr r rfl)
/-- Tracks as read, in a row of the call's own. -/
structure MV (w : World) (lo n : Nat) (tv : Value) (T : Nat → Tr) (X : Nat → Nat → Value) (LO Q : Nat → Nat) (CV EV : Nat → Value) : Prop where
  row : w.ownsRow lo 43 5 tv n (trX T Q CV EV n)
  tk : ∀ k, k < n → TK w (LO k) (Q k) (X k) (T k) (CV k) (EV k)
  tl : ∀ k, k < n → lo ≤ LO k ∧ Q k < w.heap.size
  sh : ∀ k, k < n → (∃ a m c, CV k = .slice a m c) ∧ (∃ a m c, EV k = .slice a m c)
  ord : ∀ j k, j < k → k < n → Q j < LO k
  rb : ∀ r, tv.ownBlock = some r → ∀ k, k < n → r < LO k ∨ Q k < r
theorem MV.nil (w : World) (lo : Nat) (T : Nat → Tr) (X : Nat → Nat → Value) (LO Q : Nat → Nat) (CV EV : Nat → Value) : MV w lo 0 (.slice none 0 0) T X LO Q CV EV :=
  ⟨owns_nil _ _ _ _, fun k hk => absurd hk (Nat.not_lt_zero k), fun k hk => absurd hk (Nat.not_lt_zero k), fun k hk => absurd hk (Nat.not_lt_zero k), fun _ k _ hk => absurd hk (Nat.not_lt_zero k), fun _ _ k hk => absurd hk (Nat.not_lt_zero k)⟩
theorem MV.below {w w' : World} {lo n : Nat} {tv : Value} {T : Nat → Tr} {X : Nat → Nat → Value} {LO Q : Nat → Nat} {CV EV : Nat → Value} (h : MV w lo n tv T X LO Q CV EV) (hb : Below w.heap.size w w') : MV w' lo n tv T X LO Q CV EV :=
  ⟨owns_below h.row hb, fun k hk => (h.tk k hk).below hb (h.tl k hk).2, fun k hk => ⟨(h.tl k hk).1, Nat.lt_of_lt_of_le (h.tl k hk).2 hb.size⟩, h.sh, h.ord, h.rb⟩
/-- A store ahead of the row and of all tracks. -/
theorem MV.far {w : World} {lo n : Nat} {tv : Value} {T : Nat → Tr} {X : Nat → Nat → Value} {LO Q : Nat → Nat} {CV EV : Nat → Value} (h : MV w lo n tv T X LO Q CV EV) {b o : Nat} (hb : b < lo) (u : Value) : MV (w.setCell ⟨b, o, none⟩ u) lo n tv T X LO Q CV EV :=
  ⟨owns_far h.row hb u, fun k hk => (h.tk k hk).but (But.cell w.heap.size b o u w) (h.tl k hk).2 (Or.inl (Nat.lt_of_lt_of_le hb (h.tl k hk).1)), fun k hk => ⟨(h.tl k hk).1, by rw [World.size_setCell]; exact (h.tl k hk).2⟩, h.sh, h.ord, h.rb⟩
theorem MV.step {w w1 w2 : World} {lo n lo' q : Nat} {tv tv' cv ev : Value} {T : Nat → Tr} {X : Nat → Nat → Value} {LO Q : Nat → Nat} {CV EV : Nat → Value} (h : MV w lo n tv T X LO Q CV EV) (hb : Below w.heap.size w w1)
    (ht : TK w1 lo' q (X n) (T n) cv ev) (hlo : w.heap.size ≤ lo') (hl : lo ≤ w.heap.size) (hq : q < w1.heap.size) (hc : ∃ a m c, cv = .slice a m c) (he : ∃ a m c, ev = .slice a m c)
    (hg : w1.grownBy w2 tv.ownBlock) (hr : w2.ownsRow lo 43 5 tv' (n + 1) (trX T Q CV EV n ++ trC (T n) q cv ev)) (ho : tv'.ownBlock = tv.ownBlock ∨ tv'.ownBlock = some w1.heap.size) :
    MV w2 lo (n + 1) tv' T X (upd LO n lo') (upd Q n q) (upd CV n cv) (upd EV n ev) := by
  have h1 := h.below hb
  have hrow := fun r (e : tv.ownBlock = some r) => (World.ownsRow.lt h.row r e).2
  refine ⟨by rw [trX_upd]; exact hr, fun k hk => ?_, fun k hk => ?_, fun k hk => ?_, fun j k hj hk => ?_, fun r hr' k hk => ?_⟩
  · by_cases e : k = n
    · subst e
      simp only [upd_here]
      exact ht.grown hg hq (fun r e => Or.inl (Nat.lt_of_lt_of_le (hrow r e) hlo))
    · rw [upd_far _ _ e, upd_far _ _ e, upd_far _ _ e, upd_far _ _ e]
      exact (h1.tk k (by omega)).grown hg (h1.tl k (by omega)).2 (fun r e' => h.rb r e' k (by omega))
  · by_cases e : k = n
    · subst e; simp only [upd_here]; exact ⟨Nat.le_trans hl hlo, Nat.lt_of_lt_of_le hq hg.size⟩
    · rw [upd_far _ _ e, upd_far _ _ e]; exact ⟨(h1.tl k (by omega)).1, Nat.lt_of_lt_of_le (h1.tl k (by omega)).2 hg.size⟩
  · by_cases e : k = n
    · subst e; simp only [upd_here]; exact ⟨hc, he⟩
    · rw [upd_far _ _ e, upd_far _ _ e]; exact h.sh k (by omega)
  · by_cases e : k = n
    · subst e
      rw [upd_far _ _ (by omega), upd_here]
      have := (h.tl j hj).2
      omega
    · rw [upd_far _ _ (by omega), upd_far _ _ e]; exact h.ord j k hj (by omega)
  · rcases ho with e' | e'
    · rw [e'] at hr'
      by_cases e : k = n
      · subst e; rw [upd_here, upd_here]; exact Or.inl (Nat.lt_of_lt_of_le (hrow r hr') hlo)
      · rw [upd_far _ _ e, upd_far _ _ e]; exact h.rb r hr' k (by omega)
    · rw [e'] at hr'
      cases hr'
      by_cases e : k = n
      · subst e; rw [upd_here, upd_here]; exact Or.inr hq
      · rw [upd_far _ _ e, upd_far _ _ e]; exact Or.inr (h1.tl k (by omega)).2
/-- A row of boxes all of one name. -/
theorem pick_all {nm : ByteArray} : ∀ (bs : List (ByteArray × List Int)) (p : Nat), (∀ x ∈ bs, x.1 = nm) → pick nm (lay p bs) = lay p bs
  | [], _, _ => rfl
  | x :: r, p, h => by
    have h1 := h x (List.mem_cons_self ..)
    have h2 := pick_all r (p + (boxP x.1 x.2).length) (fun y hy => h y (List.mem_cons_of_mem _ hy))
    unfold pick at h2 ⊢
    rw [lay, List.filter_cons_of_pos (by simpa using h1), h2]
theorem row_boxes {L : List Int} {p n : Nat} {nm : ByteArray} {D : Nat → List Int} (h : Seg L p (catB ((List.range n).map fun i => (nm, D i)))) (h4 : nm.size = 4) {k : Nat} (hk : k < n) :
    ∃ b : Bx, (lay p ((List.range n).map fun i => (nm, D i)))[k]? = some b ∧ Seg L (b.p + 8) (D k) ∧ b.sz = 8 + (D k).length := by
  have hk' : ((List.range n).map fun i => (nm, D i))[k]? = some (nm, D k) := by simp [hk]
  exact ⟨_, lay_get _ _ k _ hk', box_inner (cat_seg h hk') h4, boxP_len h4⟩
def trakE (F : Fl) (first : Int) (i : Nat) : ByteArray × List Int := (nTrak, catB (trakB (F.T i) ((i + 1 : Nat) : Int) (first + (offN F.T i : Nat))))
theorem moov_picks {L : List Int} {p : Nat} {F : Fl} {first : Int} (h : Seg L p (catB (moovB F first))) :
    (∃ b : Bx, pick nMvhd (lay p (moovB F first)) = [b] ∧ Seg L (b.p + 8) (mvhdL F) ∧ b.sz = 8 + (mvhdL F).length) ∧
      (pick nTrak (lay p (moovB F first))).length = F.nT ∧ ∀ k, k < F.nT → ∃ b : Bx, (pick nTrak (lay p (moovB F first)))[k]? = some b ∧ Seg L (b.p + 8) (catB (trakB (F.T k) ((k + 1 : Nat) : Int) (first + (offN F.T k : Nat)))) ∧ b.sz = 8 + (catB (trakB (F.T k) ((k + 1 : Nat) : Int) (first + (offN F.T k : Nat)))).length := by
  have e : moovB F first = (nMvhd, mvhdL F) :: (List.range F.nT).map (trakE F first) := rfl
  have hall : ∀ x ∈ (List.range F.nT).map (trakE F first), x.1 = nTrak := fun x hx => by
    obtain ⟨i, _, rfl⟩ := List.mem_map.1 hx
    rfl
  have hne : ¬ nMvhd = nTrak := by decide
  have hp : pick nTrak (lay p (moovB F first)) = lay (p + (boxP nMvhd (mvhdL F)).length) ((List.range F.nT).map (trakE F first)) := by
    have h2 := pick_all (nm := nTrak) _ (p + (boxP nMvhd (mvhdL F)).length) hall
    rw [e, lay]
    unfold pick at h2 ⊢
    rw [List.filter_cons_of_neg (by simpa using hne)]
    exact h2
  refine ⟨lay_pick h (i := 0) rfl rfl (fun j y hj hy => ?_), ?_, fun k hk => ?_⟩
  · cases j with
    | zero => rfl
    | succ j =>
      rw [e, List.getElem?_cons_succ] at hj
      have := hall y (List.mem_of_getElem? hj)
      rw [hy] at this
      exact absurd this hne
  · rw [hp, lay_length]; simp
  · have hs : Seg L (p + (boxP nMvhd (mvhdL F)).length) (catB ((List.range F.nT).map (trakE F first))) := by rw [e, catB_cons] at h; exact h.right
    rw [hp]
    exact row_boxes (D := fun i => catB (trakB (F.T i) ((i + 1 : Nat) : Int) (first + (offN F.T i : Nat)))) hs rfl hk
theorem moov_four (F : Fl) (first : Int) : (∀ y ∈ moovB F first, y.1.size = 4) ∧ (moovB F first).length = F.nT + 1 := by
  refine ⟨fun y hy => ?_, by simp [moovB]⟩
  unfold moovB at hy
  rcases List.mem_cons.1 hy with rfl | hy
  · rfl
  · obtain ⟨i, _, rfl⟩ := List.mem_map.1 hy
    rfl
theorem mvhd_seg (F : Fl) : Seg (mvhdL F) 12 (num4 F.sc) ∧ (mvhdL F).length = 100 :=
  ⟨⟨zs 12, num4 0 ++ num4 65536 ++ [1, 0] ++ zs 10 ++ matL ++ zs 24 ++ numsL [(F.nT : Int) + 1], by simp [mvhdL, numsL], rfl⟩, rfl⟩
end Go.Proofs.Ytkhjkemllgjfmaa

/- The reader's movie. -/
namespace Go.Proofs.Ytkhjkemllgjfmaa
open Go.RowKit
set_option linter.unusedVariables false
set_option linter.unusedSimpArgs false
theorem results_fl2 {fn : Func} {tmps : Array Value} {w : World} {s t : Tmp} {b : Nat} {c0 c1 v : Value} (hr : fn.results = #[.cell s 56, .tmp t]) (ht : tmps.getD s undef = .pointer (some ⟨b, 0, none⟩)) (hv : tmps.getD t undef = v) (hc : B2 w b c0 c1) :
    (results fn tmps).run Try.prog w = .ok (.tuple #[.agg #[c0, c1], v]) w := by
  have hld := load56 hc
  obtain ⟨C, hC⟩ : ∃ C, C = Value.agg #[c0, c1] := ⟨_, rfl⟩
  rw [← hC] at hld ⊢
  unfold results
  rw [hr]
  have ht2 : tmps[s]?.getD undef = .pointer (some ⟨b, 0, none⟩) := by rw [← Array.getD_eq_getD_getElem?]; exact ht
  have hv2 : tmps[t]?.getD undef = v := by rw [← Array.getD_eq_getD_getElem?]; exact hv
  simp [ht2, hv2, asAddr, hld]
theorem B2.below {w w' : World} {b : Nat} {c0 c1 : Value} (h : B2 w b c0 c1) (hb : Below w.heap.size w w') : B2 w' b c0 c1 := h.far hb h.lt
theorem built_tr (h : ByteArray) (sc : Int) (c2 c3 c4 : Value) : Try.prog.builtSlice 43 1 [(0, .agg #[.string h, .int .i64 sc, c2, c3, c4])] = some #[.string h, .int .i64 sc, c2, c3, c4] := by kernel_rfl
theorem range_tr (w : World) (h : ByteArray) (sc : Int) (c2 c3 c4 : Value) (t : TypeId) : (w.alloc (.cells #[.string h, .int .i64 sc, c2, c3, c4] t)).rangeAt w.heap.size 0 [.string h, .int .i64 sc, c2, c3, c4] := fun j u hj =>
  match j, hj with
  | 0, hj => by simp at hj; subst hj; simp [go_sem]
  | 1, hj => by simp at hj; subst hj; simp [go_sem]
  | 2, hj => by simp at hj; subst hj; simp [go_sem]
  | 3, hj => by simp at hj; subst hj; simp [go_sem]
  | 4, hj => by simp at hj; subst hj; simp [go_sem]
  | j + 5, hj => by simp at hj
def mvX (F : Fl) (vb vo f0 : Nat) (k i : Nat) : Value := slX vb vo (f0 + offN F.T k + sizeN (F.T k).S i) ((F.T k).S i).n
set_option maxRecDepth 100000 in
set_option maxHeartbeats 8000000 in
theorem rmovie_any (L : List Int) (F : Fl) (f0 : Nat) (x : Bx) (vb vo vc : Nat) (w : World) (hv : BY w (.slice (some ⟨vb, vo, none⟩) L.length vc) L)
    (hs : Seg L (x.p + 8) (catB (moovB F (f0 : Int)))) (hz : x.sz = 8 + (catB (moovB F (f0 : Int))).length) (hok : okFl F = true) (hfit : ∀ k, k < F.nT → f0 + offN F.T k + sizeN (F.T k).S (F.T k).nS ≤ L.length) (hl : L.length < 100000000) :
    Calls Try.prog 49 #[.agg #[.slice (some ⟨vb, vo, none⟩) L.length vc], .agg (bxC x).toArray] w fun e w' => ∃ lo ta tc LO Q CV EV, e = .returned (.tuple #[.agg #[.int .i64 F.sc, .slice ta F.nT tc], .bool true]) ∧
      MV w' lo F.nT (.slice ta F.nT tc) F.T (mvX F vb vo f0) LO Q CV EV ∧ w.heap.size ≤ lo ∧ lo ≤ w'.heap.size ∧ Below w.heap.size w w' := by
  obtain ⟨⟨hsc1, hsc2, hnT⟩, htr⟩ := okFl_yes hok
  obtain ⟨⟨x1, p1, s1, z1⟩, hlen, hbx⟩ := moov_picks hs
  obtain ⟨t4, t3⟩ := moov_four F (f0 : Int)
  obtain ⟨g1, g2⟩ := mvhd_seg F
  have hl' : L.length ≤ 100000000 := Nat.le_of_lt hl
  have hvb : vb < w.heap.size := by
    have h3 := s1.le
    obtain ⟨vb', vo', vc', e, h1, h2, h3⟩ := BA.open hv (by omega)
    simp only [Value.slice.injEq, Option.some.injEq, Addr.mk.injEq, and_true] at e
    obtain ⟨⟨rfl, rfl⟩, -, -⟩ := e
    exact block_lt_of_cell (h2 0 (by omega))
  have HOP := Lib.hid (fun (w : World) (hv : BY w (.slice (some ⟨vb, vo, none⟩) L.length vc) L) => open_any _ L x (moovB F (f0 : Int)) w hv hl hs hz t4 (by omega))
  have HDT := Lib.hid (fun (mb B : Nat) (w : World) (hv : BY w (.slice (some ⟨vb, vo, none⟩) L.length vc) L) (h : DirA w B mb (lay (x.p + 8) (moovB F (f0 : Int)))) => data_any2 _ L (mvhdL F) mb 100 _ nMvhd x1 B w hv s1 z1 h (by decide) p1 (Nat.le_of_eq g2.symm) hl')
  have HTR := Lib.hid (show ∀ k, k < F.nT → ∃ b : Bx, (pick nTrak (lay (x.p + 8) (moovB F (f0 : Int))))[k]? = some b ∧ ∀ w : World, BY w (.slice (some ⟨vb, vo, none⟩) L.length vc) L →
      Calls Try.prog 63 #[.agg #[.slice (some ⟨vb, vo, none⟩) L.length vc], .agg (bxC b).toArray] w fun e w' => ∃ q cv ev, e = .returned (.tuple #[.agg #[.string (F.T k).h, .int .i64 (F.T k).sc, cv, .slice (some ⟨q, 0, none⟩) (F.T k).nS (F.T k).nS, ev], .bool true]) ∧
        TK w' w.heap.size q (mvX F vb vo f0 k) (F.T k) cv ev ∧ q < w'.heap.size ∧ (∃ a m c, cv = .slice a m c) ∧ (∃ a m c, ev = .slice a m c) ∧ Below w.heap.size w w' by
    intro k hk
    obtain ⟨b, hb, hsb, hzb⟩ := hbx k hk
    have e : (f0 : Int) + ((offN F.T k : Nat) : Int) = ((f0 + offN F.T k : Nat) : Int) := by omega
    rw [e] at hsb hzb
    exact ⟨b, hb, fun w hv => rtrack_any L (F.T k) ((k + 1 : Nat) : Int) (f0 + offN F.T k) b vb vo vc w hv hsb hzb (htr k hk) (hfit k hk) hl⟩)
  have HN := Lib.hid (fun (u : Value) (w : World) (h : BY w u (mvhdL F)) => number_at u (mvhdL F) 12 F.sc w h (by rw [g2]; decide) g1)
  have husc : u32 F.sc = F.sc := by unfold u32; omega
  rw [husc] at HN
  obtain ⟨l, hl1⟩ : ∃ l, l = lay (x.p + 8) (moovB F (f0 : Int)) := ⟨_, rfl⟩
  rw [← hl1] at HOP HDT HTR hlen
  obtain ⟨pe, hpe⟩ : ∃ pe, pe = pick nTrak l := ⟨_, rfl⟩
  have HLK := Lib.hid (fun (B mb : Nat) (w : World) (h : DirA w B mb l) => h.look nTrak (by decide))
  rw [← hpe] at hlen HTR HLK
  have HLEN := Lib.hid hlen
  simp only [nTrak] at HLK
  simp only [nMvhd, Int.cast_ofNat_Int] at HDT HN
  rw [g2] at HDT
  obtain ⟨N, hN⟩ : ∃ N, N = L.length := ⟨_, rfl⟩
  rw [← hN] at HOP HDT HTR hv ⊢
  have HV := Lib.hid hv
  obtain ⟨C, hC⟩ : ∃ C, C = (bxC x).toArray := ⟨_, rfl⟩
  rw [← hC] at HOP ⊢
  have HC := Lib.hid hC
  obtain ⟨nT, hnt⟩ : ∃ n, n = F.nT := ⟨_, rfl⟩
  rw [← hnt] at HTR HLEN hnT ⊢
  have HSC := Lib.hid (And.intro hsc1 hsc2)
  clear hl1 hN hC hv hs hz hok hsc1 hsc2 htr hlen hbx t4 t3 g1 g2 hl' p1 s1 z1 husc hpe hfit hl hnt
  go_enter Try.func49, Try.ntmps49
  go_upto_region 1 with fail
  obtain ⟨w1, hw1⟩ : ∃ y, y = w.alloc (.cells #[.slice (some ⟨vb, vo, none⟩) N vc] 98) := ⟨_, rfl⟩
  rw [← hw1]
  obtain ⟨w2, hw2⟩ : ∃ y, y = w1.alloc (.cells C 31) := ⟨_, rfl⟩
  rw [← hw2]
  obtain ⟨w3, hw3⟩ : ∃ y, y = w2.alloc (.cells #[.int .i64 0, .slice none 0 0] 56) := ⟨_, rfl⟩
  rw [← hw3]
  obtain ⟨g, hg⟩ : ∃ y, y = w.heap.size := ⟨_, rfl⟩
  have hs1 : w1.heap.size = g + 1 := by rw [hw1, hg]; simp
  have hs2 : w2.heap.size = g + 1 + 1 := by rw [hw2, World.size_alloc, hs1]
  have hb1 : Below w.heap.size w w1 := by rw [hw1]; exact below_box _ _
  have hb2 : Below w1.heap.size w1 w2 := by rw [hw2]; exact below_box _ _
  have hb3 : Below w2.heap.size w2 w3 := by rw [hw3]; exact below_box _ _
  have HY := Lib.hid (show C1 w3 g (.slice (some ⟨vb, vo, none⟩) N vc) from C1.below (C1.below (show C1 w1 g (.slice (some ⟨vb, vo, none⟩) N vc) by rw [hw1, hg]; constructor <;> simp [go_sem]) hb2) hb3)
  have HX := Lib.hid (show VB w3 (g + 1) x from VB.below (by rw [hw2, HC.out, ← hs1]; exact VB.box w1 x 31) hb3)
  have HR := Lib.hid (show B2 w3 (g + 1 + 1) (.int .i64 0) (.slice none 0 0) by rw [hw3]; exact B2.of_alloc w2 _ _ _ 56 hs2.symm)
  have HW := Lib.hid ((hb1.trans (hb2.mono hb1.size)).trans (hb3.mono (by rw [hs2]; omega)))
  have HG := Lib.hid (show w.heap.size ≤ g from Nat.le_of_eq hg.symm)
  obtain ⟨rb, hrb⟩ : ∃ y, y = g + 1 + 1 := ⟨_, rfl⟩
  rw [← hg, ← hrb]
  rw [← hrb] at HR
  have HRB := Lib.hid (show w.heap.size ≤ rb ∧ g ≠ rb from by omega)
  clear hw1 hw2 hw3 hg hs1 hs2 hb1 hb2 hb3 hrb
  apply wp_region_lit
  have y0 := HY.out.k0
  iterate 3 go_step
  refine wpl_loadB HX.out.r rfl rfl rfl ?_
  rw [← HC.out]
  simp only [Act.put, List.setIfInBounds_toArray, List.set_cons_succ, List.set_cons_zero]
  clear y0 HX
  go_wp2_with fail
  refine (HOP.out _ (HV.out.below HW.out)).mono ?_
  rintro e w4 ⟨mb, rfl, hd, hb⟩
  have HD := Lib.hid hd
  replace HY := Lib.hid (HY.out.below hb)
  replace HR := Lib.hid (HR.out.below hb)
  replace HW := Lib.hid (HW.out.trans (hb.mono HW.out.size))
  clear hb hd
  have y0 := HY.out.k0
  go_wp2_with fail
  refine (HDT.out mb _ _ (HV.out.below HW.out) HD.out).mono ?_
  rintro e w5 ⟨v5, rfl, hby, hsb, hb⟩
  obtain ⟨b5, c5, rfl⟩ := hsb _ _ _ _ rfl
  have HS5 := Lib.hid hby
  replace HY := Lib.hid (HY.out.below hb)
  replace HR := Lib.hid (HR.out.below hb)
  replace HD := Lib.hid (HD.out.below hb)
  replace HW := Lib.hid (HW.out.trans (hb.mono HW.out.size))
  clear hb hby hsb y0
  obtain ⟨r, hlk, hrow, -, -⟩ := HLK.out _ mb w5 HD.out
  obtain ⟨ra, rc, rfl⟩ := hrow.shape
  have HROW := Lib.hid hrow
  rw [HLEN.out] at hlk
  have HL5 := Lib.hid hlk
  have hl5 := hlk w5 rfl
  clear hrow hlk
  have z1 : ¬ ((4 : Int) < (nT : Int)) := by omega
  go_upto_region 7 with fail
  clear hl5
  go_wp2_with fail
  refine (HN.out _ w5 HS5.out).mono ?_
  rintro e w6 ⟨rfl, hw6⟩
  have hb : Below w5.heap.size w5 w6 := by rw [hw6]; exact (Below.refl _ _).drew
  have HDW := Lib.hid hb
  replace HY := Lib.hid (HY.out.below hb)
  replace HR := Lib.hid (HR.out.below hb)
  replace HW := Lib.hid (HW.out.trans (hb.mono HW.out.size))
  clear hb hw6 HS5
  go_upto_region 8 with fail
  obtain ⟨w7, hw7⟩ : ∃ y, y = w6.alloc (.cells #[.int .i64 F.sc, .slice none 0 0] 56) := ⟨_, rfl⟩
  rw [← hw7]
  obtain ⟨fb, hfb⟩ : ∃ y, y = w6.heap.size := ⟨_, rfl⟩
  have hb : Below w6.heap.size w6 w7 := by rw [hw7]; exact below_box _ _
  have hF := show B2 w7 fb (.int .i64 F.sc) (.slice none 0 0) by rw [hw7]; exact B2.of_alloc w6 _ _ _ 56 hfb
  have hs7 : w7.heap.size = fb + 1 := by rw [hw7, hfb]; simp
  rw [← hfb]
  have HTB := Lib.hid (show w6.heap.size = fb ∧ w7.heap.size = fb + 1 ∧ w5.heap.size ≤ fb ∧ w.heap.size ≤ fb ∧ g < fb ∧ rb < fb from ⟨hfb.symm, hs7, by rw [hfb]; exact HDW.out.size, by rw [hfb]; exact HW.out.size, by rw [hfb]; exact HY.out.lt, by rw [hfb]; exact HR.out.lt⟩)
  have HY6 := HY
  have HR6 := HR
  have HW6 := HW
  have HF7 := Lib.hid hF
  have HB67 := Lib.hid hb
  have hl7 := HL5.out w7 ((HDW.out.trans (hb.mono HDW.out.size)).block mb HD.out.lt)
  replace HROW := Lib.hid (show RowB w5 _ (.slice ra nT rc) pe by have := HROW.out; rw [HLEN.out] at this; exact this)
  clear hw7 hfb hb hF hs7 HY HR HW
  go_upto_region 9 with fail
  clear hl7
  go_loopw [44] (fun i wr => ∃ (k : Nat) (ta : Option Addr) (tc : Nat) (LO Q : Nat → Nat) (CV EV : Nat → Value), k ≤ nT ∧ i = .int .i64 (k : Int) ∧ B2 wr fb (.int .i64 F.sc) (.slice ta k tc) ∧ MV wr (fb + 1) k (.slice ta k tc) F.T (mvX F vb vo f0) LO Q CV EV ∧ Below w6.heap.size w6 wr) (fun i _ => nT - (intOf i).toNat)
  case atStart => exact ⟨0, none, 0, fun _ => 0, fun _ => 0, fun _ => .int .i64 0, fun _ => .int .i64 0, Nat.zero_le _, rfl, HF7.out, MV.nil _ _ _ _ _ _ _ _, HB67.out⟩
  case round =>
    obtain ⟨k, ta, tc, LO, Q, CV, EV, hk, rfl, hf, hmv, hbw⟩ := hrel
    have HFK := Lib.hid hf
    have HMK := Lib.hid hmv
    have HBK := Lib.hid hbw
    have HYK := Lib.hid (HY6.out.below hbw)
    have HRK := Lib.hid (HR6.out.below hbw)
    clear hf hmv hbw
    by_cases hlt : k < nT
    · obtain ⟨xe, hxe, hcall⟩ := HTR.out k hlt
      have HCALL := Lib.hid hcall
      obtain ⟨gr, gc, e, hgc, hx⟩ := HROW.out.range hxe
      simp only [HLEN.out, Value.slice.injEq, true_and] at e
      obtain ⟨rfl, rfl⟩ := e
      have hgr : gr < w5.heap.size := block_lt_of_cell (hx 0 _ rfl)
      have HXR := Lib.hid (show wr.rangeAt gr (k * 4) (bxC xe) from fun j u hj => by
        have e := (HDW.out.trans (HBK.out.mono HDW.out.size)).block gr hgr
        exact (World.cell?_of_block (a := ⟨gr, k * 4 + j, none⟩) e).trans (hx j u hj))
      obtain ⟨Ce, hCe⟩ : ∃ C, C = (bxC xe).toArray := ⟨_, rfl⟩
      rw [← hCe] at HCALL
      have HCE := Lib.hid hCe
      clear hcall hxe hx hgr hgc hCe
      have hlt' : (k : Int) < (nT : Int) := by omega
      go_upto_region 10 with fail
      apply wp_region_lit
      iterate 3 go_step
      refine wpl_loadB HXR.out rfl rfl rfl ?_
      rw [← HCE.out]
      refine wpl_allocB rfl rfl (fun wa ht hf hb3 hs3 => ?_)
      refine wpl_storeB xe ht hf rfl rfl rfl (by rw [← HCE.out]; rfl) ?_
      intro wb hv ho3 hs4 hb4
      have hb : Below wr.heap.size wr wb := hb4 _ _ (Nat.le_refl _) hb3
      have HXB := Lib.hid hv
      have HYB := Lib.hid (HYK.out.below hb)
      have HFB := Lib.hid (HFK.out.below hb)
      have HMB := Lib.hid (HMK.out.below hb)
      have HFB' := Lib.hid (Nat.succ_le_of_lt HFB.out.lt)
      have HBB := Lib.hid (HBK.out.trans (hb.mono HBK.out.size))
      clear ht hf hb3 hs3 hv ho3 hs4 hb4 hb HYK HBK HXR HFK HMK
      obtain ⟨qe, hqe⟩ : ∃ y, y = wr.heap.size := ⟨_, rfl⟩
      rw [← hqe] at HXB ⊢
      clear hqe
      simp only [Act.put, List.setIfInBounds_toArray, List.set_cons_succ, List.set_cons_zero]
      go_upto_region 11 with fail
      have y0 := HYB.out.k0
      apply wp_region_lit
      iterate 3 go_step
      refine wpl_loadB HXB.out.r rfl rfl rfl ?_
      rw [← HCE.out]
      simp only [Act.put, List.setIfInBounds_toArray, List.set_cons_succ, List.set_cons_zero]
      clear y0
      go_wp2_with fail
      refine (HCALL.out wb (HV.out.below (HW6.out.trans (HBB.out.mono HW6.out.size)))).mono ?_
      rintro e wc ⟨q, cv, ev, rfl, htk, hq, ⟨ca, cm, cc, rfl⟩, ⟨ea, em, ec, rfl⟩, hb⟩
      have HTC := Lib.hid htk
      have HQC := Lib.hid hq
      have HFC := Lib.hid (HFB.out.below hb)
      have HBC := Lib.hid hb
      have HBC0 := Lib.hid (HBB.out.trans (hb.mono HBB.out.size))
      have HYC := Lib.hid (HYB.out.below hb)
      clear htk hq hb HYB HXB HFB HBB
      go_upto_region 12 with fail
      obtain ⟨wd, hwd⟩ : ∃ y, y = wc.alloc (.cells #[.string (F.T k).h, .int .i64 (F.T k).sc, .slice ca cm cc, .slice (some ⟨q, 0, none⟩) (F.T k).nS (F.T k).nS, .slice ea em ec] 43) := ⟨_, rfl⟩
      rw [← hwd]
      obtain ⟨qd, hqd⟩ : ∃ y, y = wc.heap.size := ⟨_, rfl⟩
      rw [← hqd]
      have hb : Below wc.heap.size wc wd := by rw [hwd]; exact below_box _ _
      have d0 : wd.cell? ⟨qd, 0, none⟩ = some (.string (F.T k).h) := by rw [hwd, hqd]; simp [go_sem]
      have d1 : wd.cell? ⟨qd, 1, none⟩ = some (.int .i64 (F.T k).sc) := by rw [hwd, hqd]; simp [go_sem]
      have d2 : wd.cell? ⟨qd, 2, none⟩ = some (.slice ca cm cc) := by rw [hwd, hqd]; simp [go_sem]
      have d3 : wd.cell? ⟨qd, 3, none⟩ = some (.slice (some ⟨q, 0, none⟩) (F.T k).nS (F.T k).nS) := by rw [hwd, hqd]; simp [go_sem]
      have d4 : wd.cell? ⟨qd, 4, none⟩ = some (.slice ea em ec) := by rw [hwd, hqd]; simp [go_sem]
      have HTD := Lib.hid (HTC.out.below hb HQC.out)
      have HQD := Lib.hid (Nat.lt_of_lt_of_le HQC.out hb.size)
      have HFD := Lib.hid (HFC.out.below hb)
      have HBD := Lib.hid (HBC.out.trans (hb.mono HBC.out.size))
      have HBD0 := Lib.hid (HBC0.out.trans (hb.mono HBC0.out.size))
      clear hwd hqd hb HTC HQC HFC HBC HBC0 HYC
      have f1 := HFD.out.k1
      go_upto_region 14 with fail
      apply wp_region_lit
      iterate 9 go_step
      refine Great.wpList_buildSliceTo rfl 54 43 1 #[(0, .tmp 59)] rfl wd.heap.size rfl (some 60) rfl Try.underlying54 #[.string (F.T k).h, .int .i64 (F.T k).sc, .slice ca cm cc, .slice (some ⟨q, 0, none⟩) (F.T k).nS (F.T k).nS, .slice ea em ec] ?_ ?_
      · simp only [List.map_toArray, List.map_cons, List.map_nil, List.toList_toArray]
        exact built_tr _ _ _ _ _
      have hr := range_tr wd (F.T k).h (F.T k).sc (.slice ca cm cc) (.slice (some ⟨q, 0, none⟩) (F.T k).nS (F.T k).nS) (.slice ea em ec) 43
      have hb := below_box wd (.cells #[.string (F.T k).h, .int .i64 (F.T k).sc, .slice ca cm cc, .slice (some ⟨q, 0, none⟩) (F.T k).nS (F.T k).nS, .slice ea em ec] 43)
      obtain ⟨we, hwe⟩ : ∃ y, y = wd.alloc (.cells #[.string (F.T k).h, .int .i64 (F.T k).sc, .slice ca cm cc, .slice (some ⟨q, 0, none⟩) (F.T k).nS (F.T k).nS, .slice ea em ec] 43) := ⟨_, rfl⟩
      rw [← hwe] at hr hb ⊢
      obtain ⟨qe2, hqe2⟩ : ∃ y, y = wd.heap.size := ⟨_, rfl⟩
      rw [← hqe2] at hr ⊢
      have HTE := Lib.hid (HTD.out.below hb HQD.out)
      have HQE := Lib.hid (Nat.lt_of_lt_of_le HQD.out hb.size)
      have HFE := Lib.hid (HFD.out.below hb)
      have HBE := Lib.hid (show Below wb.heap.size wb we from HBD.out.trans (hb.mono HBD.out.size))
      have HBE0 := Lib.hid (HBD0.out.trans (hb.mono HBD0.out.size))
      have HRE := Lib.hid hr
      have HWB := Lib.hid (show fb + 1 ≤ wb.heap.size from by have := HFB'.out; omega)
      clear hwe hqe2 hr hb d0 d1 d2 d3 d4 f1 HTD HQD HFD HBD HBD0
      simp only [Act.put, List.setIfInBounds_toArray, List.set_cons_succ, List.set_cons_zero]
      refine wpList_appTr we rfl (.tmp 58) (.tmp 60) (some 61) rfl rfl (fb + 1) _ k _ _ rfl (HMB.out.below HBE.out).row (Nat.le_trans HWB.out HBE.out.size) qe2 1 rfl HRE.out rfl (by simp [Value.oneCell']) (by omega) ?_
      intro v' wf hr hg ho ⟨ga', gm', gc', hv'⟩
      subst hv'
      have hsh : gm' = k + 1 := by
        rcases hr.2 with ⟨_, h0⟩ | ⟨_, _, _, h0, _⟩
        · omega
        · simp only [Value.slice.injEq] at h0; exact h0.2.1
      subst hsh
      have HMF := Lib.hid (HMB.out.step HBE.out HTE.out (Nat.le_refl _) HWB.out HQE.out ⟨_, _, _, rfl⟩ ⟨_, _, _, rfl⟩ hg hr ho)
      have hrow := World.ownsRow.lt (HMB.out.below HBE.out).row
      have hff := hg.block fb HFE.out.lt (fun e => by have := (hrow fb e.symm).1; omega)
      have HFF := Lib.hid (show B2 wf fb (.int .i64 F.sc) (.slice ta k tc) from ⟨(World.cell?_of_block (a := ⟨fb, 0, none⟩) hff).trans HFE.out.k0, (World.cell?_of_block (a := ⟨fb, 1, none⟩) hff).trans HFE.out.k1, fun o => (World.frozen?_of_block (a := ⟨fb, o, none⟩) hff).trans (HFE.out.fz o)⟩)
      have HBF0 := Lib.hid (show Below w6.heap.size w6 wf from growB HBE0.out (Nat.le_refl _) hg (fun r e => by have h1 := (hrow r e).1; have h2 := HTB.out.1; omega))
      clear hr hg ho hrow hff HTE HQE HFE HBE HBE0 HRE HMB
      have f1 := HFF.out.k1
      have ff := HFF.out.fz
      simp only [Act.put, List.setIfInBounds_toArray, List.set_cons_succ, List.set_cons_zero]
      go_upto_region 15 with fail
      obtain ⟨wg, hwg⟩ : ∃ y, y = wf.setCell ⟨fb, 1, none⟩ (.slice ga' (k + 1) gc') := ⟨_, rfl⟩
      rw [← hwg]
      have HFG := Lib.hid (show B2 wg fb (.int .i64 F.sc) (.slice ga' (k + 1) gc') by rw [hwg]; exact HFF.out.set1 _)
      have HMG := Lib.hid (show MV wg (fb + 1) (k + 1) (.slice ga' (k + 1) gc') F.T (mvX F vb vo f0) _ _ _ _ by rw [hwg]; exact HMF.out.far (Nat.lt_succ_self fb) _)
      have HBG0 := Lib.hid (show Below w6.heap.size w6 wg by rw [hwg]; exact HBF0.out.setCell (by have := HTB.out.1; simp; omega) _)
      clear hwg f1 ff HFF HMF HBF0
      go_wp2_with fail
      go_roundw
      case rel => exact ⟨k + 1, ga', gc', _, _, _, _, by omega, by simp, HFG.out, HMG.out, HBG0.out⟩
      case measure =>
        simp [intOf]
        omega
    · have hkn : k = nT := by omega
      subst hkn
      have f0' := HFK.out.k0
      have f1' := HFK.out.k1
      have r0 := HRK.out.k0
      have r1 := HRK.out.k1
      have rf := HRK.out.fz
      go_wp2_with fail
      have hrl : rb < fb + 1 := by have := HTB.out.2.2.2.2.2; omega
      refine bodyPost_ret (v := .tuple #[.agg #[.int .i64 F.sc, .slice ta k tc], .bool true]) (results_fl2 Try.results49 rfl rfl (HRK.out.put2 _ _)) rfl ?_
      exact ⟨fb + 1, ta, tc, LO, Q, CV, EV, rfl, (HMK.out.far hrl _).far hrl _, by have := HTB.out.2.2.2.1; omega, by rw [World.size_setCell, World.size_setCell]; exact HFK.out.lt, ((HW6.out.trans (HBK.out.mono HW6.out.size)).setCell HRB.out.1 _).setCell HRB.out.1 _⟩
end Go.Proofs.Ytkhjkemllgjfmaa

/- A file as read: what its values say; the samples' data exchanged. -/
namespace Go.Proofs.Ytkhjkemllgjfmaa
open Go.RowKit
set_option linter.unusedVariables false
set_option linter.unusedSimpArgs false
theorem BR.ba {w : World} {v : Value} {n : Nat} {f : Nat → Int} {lo hi : Nat} (h : BR w v ((List.range n).map f) lo hi) (hb : ∀ i, i < n → 0 ≤ f i ∧ f i < 256) : BA w v n f := by
  obtain ⟨ao, c, rfl, hc, H⟩ := h
  have hl : ((List.range n).map f).length = n := by simp
  rw [hl] at hc ⊢
  refine ⟨ao, c, rfl, hc, fun i hi => ⟨?_, hb i hi⟩⟩
  obtain ⟨b, o, e, _, _, hcell⟩ := H i (f i) (by simp [hi])
  exact ⟨b, o, e, hcell⟩
/-- A part of the bytes, its capacity cut to its length. -/
theorem slX_bl {w : World} {vb vo n c : Nat} {L D : List Int} {p : Nat} (h : BY w (.slice (some ⟨vb, vo, none⟩) n c) L) (hs : Seg L p D) : BL w (slX vb vo p D.length) D := by
  obtain ⟨ao, c', e, hc, H⟩ := h
  simp only [Value.slice.injEq] at e
  obtain ⟨rfl, rfl, rfl⟩ := e
  have hle := hs.le
  refine ⟨_, _, rfl, Nat.le_refl _, fun i u hu => ?_⟩
  have hi := (List.getElem?_eq_some_iff.1 hu).1
  obtain ⟨⟨b, o, e, hcell⟩, _⟩ := H (p + i) (by omega)
  simp only [Option.some.injEq, Addr.mk.injEq, and_true] at e
  obtain ⟨rfl, rfl⟩ := e
  refine ⟨vb, vo + p, by rw [if_neg (by omega)], ?_⟩
  rw [Nat.add_assoc, hcell]
  dsimp only
  rw [hs.at hi, List.getD_eq_getElem?_getD, hu]
  rfl
theorem BL.ba {w : World} {v : Value} {n : Nat} {f : Nat → Int} (h : BL w v ((List.range n).map f)) (hb : ∀ i, i < n → 0 ≤ f i ∧ f i < 256) : BA w v n f := by
  obtain ⟨ao, c, rfl, hc, H⟩ := h
  have hl : ((List.range n).map f).length = n := by simp
  rw [hl] at hc ⊢
  refine ⟨ao, c, rfl, hc, fun i hi => ⟨?_, hb i hi⟩⟩
  obtain ⟨b, o, e, hcell⟩ := H i (f i) (by simp [hi])
  exact ⟨b, o, e, hcell⟩
theorem ea_of_row {w : World} {B n : Nat} {v : Value} {E : Nat → Ed} (h : w.ownsRow B 76 2 v n (edX E n)) : EA w v n E := ea_of h
theorem SB.sa {w : World} {q n : Nat} {X : Nat → Value} {S : Nat → Sm} (h : SB w q n X S) (hd : ∀ i, i < n → BA w (X i) (S i).n (S i).D) : SA w (.slice (some ⟨q, 0, none⟩) n n) n S :=
  ⟨_, _, rfl, Nat.le_refl _, fun i hi => ⟨q, 0, X i, rfl, by rw [Nat.zero_add]; exact h.k0 i hi, by rw [Nat.zero_add]; exact h.k1 i hi, by rw [Nat.zero_add]; exact h.k2 i hi, by rw [Nat.zero_add]; exact h.k3 i hi, hd i hi⟩⟩
theorem MV.cells {w : World} {lo n : Nat} {ta : Option Addr} {m tc : Nat} {T : Nat → Tr} {X : Nat → Nat → Value} {LO Q : Nat → Nat} {CV EV : Nat → Value} (h : MV w lo n (.slice ta m tc) T X LO Q CV EV) {k : Nat} (hk : k < n) :
    ∃ b, ta = some ⟨b, 0, none⟩ ∧ lo ≤ b ∧ b < w.heap.size ∧ n ≤ tc ∧ (∀ j, j < n → b < LO j ∨ Q j < b) ∧ w.cell? ⟨b, k * 5, none⟩ = some (.string (T k).h) ∧ w.cell? ⟨b, k * 5 + 1, none⟩ = some (.int .i64 (T k).sc) ∧ w.cell? ⟨b, k * 5 + 2, none⟩ = some (CV k) ∧
      w.cell? ⟨b, k * 5 + 3, none⟩ = some (.slice (some ⟨Q k, 0, none⟩) (T k).nS (T k).nS) ∧ w.cell? ⟨b, k * 5 + 4, none⟩ = some (EV k) := by
  obtain ⟨b, c, e, hc, hx⟩ := owns_open h.row (by omega)
  simp only [Value.slice.injEq] at e
  obtain ⟨rfl, rfl, rfl⟩ := e
  have hb := World.ownsRow.lt h.row b rfl
  refine ⟨b, rfl, hb.1, hb.2, hc, h.rb b rfl, hx _ _ ((trX_at T Q CV EV hk (j := 0) (by decide)).trans rfl), hx _ _ ((trX_at T Q CV EV hk (j := 1) (by decide)).trans rfl), hx _ _ ((trX_at T Q CV EV hk (j := 2) (by decide)).trans rfl), hx _ _ ((trX_at T Q CV EV hk (j := 3) (by decide)).trans rfl), hx _ _ ((trX_at T Q CV EV hk (j := 4) (by decide)).trans rfl)⟩
theorem MV.fa {w : World} {lo : Nat} {ta : Option Addr} {tc : Nat} {F : Fl} {X : Nat → Nat → Value} {LO Q : Nat → Nat} {CV EV : Nat → Value} (h : MV w lo F.nT (.slice ta F.nT tc) F.T X LO Q CV EV) (hB : ∀ k, k < F.nT → BytT (F.T k)) (hd : ∀ k, k < F.nT → ∀ i, i < (F.T k).nS → BL w (X k i) (smL ((F.T k).S i))) :
    FA w (.agg #[.int .i64 F.sc, .slice ta F.nT tc]) F := by
  refine ⟨_, rfl, ta, tc, rfl, ?_, fun k hk => ?_⟩
  · rcases h.row.2 with ⟨e, h0⟩ | ⟨g, cap, cur, e, _, _, h3, _⟩
    · omega
    · simp only [Value.slice.injEq] at e; omega
  · obtain ⟨b, rfl, _, _, _, _, c0, c1, c2, c3, c4⟩ := h.cells hk
    refine ⟨b, 0, _, _, _, _, _, rfl, by rw [Nat.zero_add]; exact c0, by rw [Nat.zero_add]; exact c1, by rw [Nat.zero_add]; exact c2, by rw [Nat.zero_add]; exact c3, by rw [Nat.zero_add]; exact c4, ?_⟩
    have ht := h.tk k hk
    exact ⟨rfl, rfl, ht.cf.ba (hB k hk).1, ht.sb.sa (fun i hi => (hd k hk i hi).ba ((hB k hk).2 i hi)), ea_of ht.ed⟩
theorem TK.put {w : World} {lo q : Nat} {X : Nat → Value} {T : Tr} {cv ev : Value} (h : TK w lo q X T cv ev) {i : Nat} (hi : i < T.nS) (u : Value) : TK (w.setCell ⟨q, i * 4, none⟩ u) lo q (upd X i u) T cv ev := by
  have hb := But.cell w.heap.size q (i * 4) u w
  have hq : ∀ b, b < q → (w.setCell ⟨q, i * 4, none⟩ u).heap[b]? = w.heap[b]? := fun b hb => Below.heap_setCell _ _ _ _ (by simp; omega)
  refine ⟨?_, owns_but h.ed (m := q + 1) (g := q) ⟨rfl, rfl, rfl, by simp, fun k hk hn => hq k (by omega)⟩ (fun k hk => by have := h.el k hk; omega), h.el, h.sb.data i hi u, h.lq⟩
  exact h.cf.but (n := q) (g := q) ⟨rfl, rfl, rfl, by simp, fun k hk _ => hq k hk⟩ (Nat.le_refl _) (Or.inr (Nat.le_refl _))
theorem MV.put {w : World} {lo n : Nat} {tv : Value} {T : Nat → Tr} {X : Nat → Nat → Value} {LO Q : Nat → Nat} {CV EV : Nat → Value} (h : MV w lo n tv T X LO Q CV EV) {k i : Nat} (hk : k < n) (hi : i < (T k).nS) (u : Value) :
    MV (w.setCell ⟨Q k, i * 4, none⟩ u) lo n tv T (upd X k (upd (X k) i u)) LO Q CV EV := by
  have hlk := (h.tk k hk).lq
  refine ⟨owns_but h.row (But.cell w.heap.size (Q k) (i * 4) u w) (fun r hr => ⟨(World.ownsRow.lt h.row r hr).2, by have := h.rb r hr k hk; omega⟩), fun j hj => ?_, fun j hj => ⟨(h.tl j hj).1, by rw [World.size_setCell]; exact (h.tl j hj).2⟩, h.sh, h.ord, h.rb⟩
  by_cases e : j = k
  · subst e; rw [upd_here]; exact (h.tk j hj).put hi u
  · rw [upd_far _ _ e]
    refine (h.tk j hj).but (But.cell w.heap.size (Q k) (i * 4) u w) (h.tl j hj).2 ?_
    rcases Nat.lt_or_gt_of_ne e with h1 | h1
    · exact Or.inr (Nat.lt_of_lt_of_le (h.ord j k h1 hk) hlk)
    · exact Or.inl (h.ord k j h1 hj)
end Go.Proofs.Ytkhjkemllgjfmaa

/- The contract of the program's Take at bytes whose last box is not complete. -/
namespace Go.Proofs.Ytkhjkemllgjfmaa
open Go.RowKit
set_option linter.unusedVariables false
set_option linter.unusedSimpArgs false

set_option maxRecDepth 100000 in
set_option maxHeartbeats 4000000 in
theorem take_short (v : Value) (n : Nat) (f : Nat → Int) (w : World) (hv : BA w v n f) (hn : n ≤ 100000000) (hc : ∀ k, Walked f 0 n k → ¬ goOn f n (pos f 0 k) → codeAt f n (pos f 0 k) = 4) :
    Calls Try.prog 25 #[v] w fun e w' => e = .returned (.tuple #[.agg #[.int .i64 0, .slice none 0 0], .int .i64 4]) ∧ Below w.heap.size w w' := by
  obtain ⟨ao, cc, rfl⟩ := hv.shape
  have HV := Lib.hid hv
  have HC := Lib.hid hc
  have hn' : ¬ (2147483647 : Int) < (n : Int) := by omega
  have hn2 : ¬ 2147483647 < n := by omega
  have hmf : ∀ (fn : Fn) (first cap : Array Value) (w : World), (Instr.makeFunc fn first cap).run Try.prog w = .ok (.func fn first cap) w := fun _ _ _ _ => rfl
  clear hv hc
  go_enter_defers Try.func25, Try.ntmps25
  go_upto_region 2 with fail
  obtain ⟨w1, hw1⟩ : ∃ x, x = ((w.alloc (.cells #[.int .i64 0, .slice none 0 0] 56)).alloc (.cells #[.int .i64 0] 24)) := ⟨_, rfl⟩
  rw [← hw1]
  obtain ⟨g1, hg1⟩ : ∃ g, g = w.heap.size := ⟨_, rfl⟩
  have hE1 : Below w.heap.size w w1 := by rw [hw1]; go_grown
  have hz1 : w1.heap.size = w.heap.size + 2 := by rw [hw1]; simp [go_sem]
  have x0 : w1.cell? ⟨g1, 0, none⟩ = some (.int .i64 0) := by rw [hw1, hg1]; simp [go_sem]
  have x1 : w1.cell? ⟨g1, 1, none⟩ = some (.slice none 0 0) := by rw [hw1, hg1]; simp [go_sem]
  have f0 : w1.frozen? ⟨g1, 0, none⟩ = false := by rw [hw1, hg1]; simp [go_sem]
  have f1 : w1.frozen? ⟨g1, 1, none⟩ = false := by rw [hw1, hg1]; simp [go_sem]
  have he1 : C1 w1 (g1 + 1) (.int .i64 0) := by rw [hw1, hg1]; constructor <;> simp [go_sem]
  rw [← hg1]
  obtain ⟨g2, hg2⟩ : ∃ g, g = g1 + 1 := ⟨_, rfl⟩
  rw [← hg2] at he1 ⊢
  have l1 : g1 < w1.heap.size := by omega
  have l2 : g2 < w1.heap.size := by omega
  have n12 : g1 ≠ g2 := by omega
  have m1 : w.heap.size ≤ g1 := by omega
  have m2 : w.heap.size ≤ g2 := by omega
  have hw0 : w.heap.size ≤ w1.heap.size := by omega
  have HB1 := Lib.hid hE1
  have HX := Lib.hid (And.intro x0 x1)
  have He := Lib.hid he1
  have HF := Lib.hid (And.intro f0 f1)
  clear hw1 hE1 hg1 hg2 hz1 he1 x0 x1 f0 f1
  go_wp2_with fail
  refine (boxes_any _ n f 0 (n : Int) w1 (HV.out.below HB1.out) hn).mono ?_
  rintro e w2 ⟨v1, c, rfl, hb2, hcase⟩
  rw [if_neg (by omega)] at hcase
  obtain ⟨k, hk, hg, hcd, hnil, _⟩ := hcase
  obtain rfl : c = 4 := hcd.trans (HC.out k (by simpa using hk) (by simpa using hg))
  obtain rfl := hnil (by decide)
  have s2 := hb2.size
  have HB2 := Lib.hid (HB1.out.trans (hb2.mono hw0))
  have y0 := (hb2.cell (p := ⟨g1, 0, none⟩) l1).trans HX.out.1
  have y1 := (hb2.cell (p := ⟨g1, 1, none⟩) l1).trans HX.out.2
  have ye := (hb2.cell (p := ⟨g2, 0, none⟩) l2).trans He.out.k0
  have yf1 := (hb2.frozen (p := ⟨g1, 0, none⟩) l1).trans HF.out.1
  have yf3 := (hb2.frozen (p := ⟨g1, 1, none⟩) l1).trans HF.out.2
  have yf := (hb2.frozen (p := ⟨g2, 0, none⟩) l2).trans He.out.fz
  clear hk hg hcd hnil hb2
  go_upto_region 6 with fail
  obtain ⟨w3, hw3⟩ : ∃ x, x = w2.setCell ⟨g2, 0, none⟩ (.int .i64 4) := ⟨_, rfl⟩
  have z0 : w3.cell? ⟨g1, 0, none⟩ = some (.int .i64 0) := by rw [hw3, World.cell?_setCell_far _ _ _ _ (by simpa using Ne.symm n12)]; exact y0
  have z1 : w3.cell? ⟨g1, 1, none⟩ = some (.slice none 0 0) := by rw [hw3, World.cell?_setCell_far _ _ _ _ (by simpa using Ne.symm n12)]; exact y1
  have z2 : w3.cell? ⟨g2, 0, none⟩ = some (.int .i64 4) := by rw [hw3]; simp [go_sem, ye]
  have zf2 : w3.frozen? ⟨g2, 0, none⟩ = false := by rw [hw3, World.frozen?_setCell]; exact yf
  have zf1 : w3.frozen? ⟨g1, 0, none⟩ = false := by rw [hw3, World.frozen?_setCell]; exact yf1
  have zf3 : w3.frozen? ⟨g1, 1, none⟩ = false := by rw [hw3, World.frozen?_setCell]; exact yf3
  have HB3 := Lib.hid (show Below w.heap.size w w3 by rw [hw3]; exact HB2.out.setCell m2 _)
  rw [← hw3]
  clear hw3 y0 y1 ye yf yf1 yf3
  refine Plan.wp_region_plan (fun wx => Below w.heap.size w wx ∧ wx.cell? ⟨g2, 0, none⟩ = some (.int .i64 4)) (([0, 1].map (·, true)) ++ (([2, 3].map (·, false)))) (by kernel_rfl) (by kernel_rfl) (by kernel_rfl) ⟨HB3.out.drew, by simpa [go_sem] using z2⟩ ?_
  refine' Plan.plan_seg _ [0, 1] (([2, 3].map (·, false))) (by kernel_rfl) (by kernel_rfl) rfl (by exact ⟨HB3.out.drew, by simpa [go_sem] using z2⟩) (fun wx hS => ?_) ?_
  rotate_left
  · have q2 := hS.2
    clear hS
    go_light
    iterate 2 (apply Plan.seg_pick; rfl; intro K hK; go_wp)
    exact Plan.seg_nil
  refine Plan.plan_of_effect rfl (fun K hK => ?_)
  go_wp2_with fail
  have hb4 : Below w.heap.size w ((w3.setCell ⟨g1, 0, none⟩ (.int .i64 0)).setCell ⟨g1, 1, none⟩ (.slice none 0 0)).drew := ((HB3.out.setCell m1 _).setCell m1 _).drew
  have z4 : ((w3.setCell ⟨g1, 0, none⟩ (.int .i64 0)).setCell ⟨g1, 1, none⟩ (.slice none 0 0)).drew.cell? ⟨g2, 0, none⟩ = some (.int .i64 4) := by
    rw [World.cell?_drew, World.cell?_setCell_far _ _ _ _ (by simpa using n12), World.cell?_setCell_far _ _ _ _ (by simpa using n12)]; exact z2
  refine ⟨⟨hb4, z4⟩, ?_⟩
  have z40 : ((w3.setCell ⟨g1, 0, none⟩ (.int .i64 0)).setCell ⟨g1, 1, none⟩ (.slice none 0 0)).drew.cell? ⟨g1, 0, none⟩ = some (.int .i64 0) := by simp [go_sem, z0, z1]
  have z41 : ((w3.setCell ⟨g1, 0, none⟩ (.int .i64 0)).setCell ⟨g1, 1, none⟩ (.slice none 0 0)).drew.cell? ⟨g1, 1, none⟩ = some (.slice none 0 0) := by simp [go_sem, z0, z1]
  have z4f : ((w3.setCell ⟨g1, 0, none⟩ (.int .i64 0)).setCell ⟨g1, 1, none⟩ (.slice none 0 0)).drew.frozen? ⟨g2, 0, none⟩ = false := by simp [go_sem, zf2]
  obtain ⟨w4, hw4⟩ : ∃ x, x = ((w3.setCell ⟨g1, 0, none⟩ (.int .i64 0)).setCell ⟨g1, 1, none⟩ (.slice none 0 0)).drew := ⟨_, rfl⟩
  rw [← hw4] at hb4 z4 z40 z41 z4f ⊢
  have HB4 := Lib.hid hb4
  clear hw4 hb4 z0 z1 z2 zf1 zf2 zf3
  refine Plan.plan_of_effect rfl (fun K hK => ?_)
  go_wp2_with fail
  refine ⟨⟨HB4.out.setCell m2 _, by simp [go_sem, z4]⟩, ?_⟩
  refine Plan.plan_done ?_
  have z50 : (w4.setCell ⟨g2, 0, none⟩ (.int .i64 4)).cell? ⟨g2, 0, none⟩ = some (.int .i64 4) := by simp [go_sem, z4]
  have z51 : (w4.setCell ⟨g2, 0, none⟩ (.int .i64 4)).cell? ⟨g1, 0, none⟩ = some (.int .i64 0) := by rw [World.cell?_setCell_far _ _ _ _ (by simpa using Ne.symm n12)]; exact z40
  have z52 : (w4.setCell ⟨g2, 0, none⟩ (.int .i64 4)).cell? ⟨g1, 1, none⟩ = some (.slice none 0 0) := by rw [World.cell?_setCell_far _ _ _ _ (by simpa using Ne.symm n12)]; exact z41
  have hb5 : Below w.heap.size w (w4.setCell ⟨g2, 0, none⟩ (.int .i64 4)) := HB4.out.setCell m2 _
  obtain ⟨w5, hw5⟩ : ∃ x, x = w4.setCell ⟨g2, 0, none⟩ (.int .i64 4) := ⟨_, rfl⟩
  rw [← hw5] at z50 z51 z52 hb5 ⊢
  clear hw5 z4 z40 z41 z4f
  go_wp2_with fail
  refine leaves_cons (f := 47) (args := #[.pointer (some ⟨g1, 0, none⟩), .pointer (some ⟨g2, 0, none⟩)]) (by simp) (by simp [go_sem]) ?_
  refine (idle47 _ _ _).mono ?_
  rintro e u' w'' ⟨rfl, rfl, rfl⟩
  simp [Leaves, settle, results, Try.results25, go_sem, z50, z51, z52]
  exact hb5
end Go.Proofs.Ytkhjkemllgjfmaa

/- Take at the bytes of a valid file. -/
namespace Go.Proofs.Ytkhjkemllgjfmaa
open Go.RowKit
set_option linter.unusedVariables false
set_option linter.unusedSimpArgs false
theorem put_picks (F : Fl) : ∃ b : Bx, pick nMoov (lay 0 (putB F)) = [b] ∧ Seg (putL F) (b.p + 8) (catB (moovB F (firstOf F))) ∧ b.sz = 8 + (catB (moovB F (firstOf F))).length := by
  have h : Seg (putL F) 0 (catB (putB F)) := by rw [← put_cat]; exact Seg.whole _
  exact pick_named (i := 1) (nm := nMoov) (D := catB (moovB F (firstOf F))) h rfl rfl (show [nFtyp.data.toList, nMoov.data.toList, nMdat.data.toList].Nodup by decide)
theorem C1.set {w : World} {b : Nat} {c : Value} (h : C1 w b c) (u : Value) : C1 (w.setCell ⟨b, 0, none⟩ u) b u :=
  ⟨by simp [go_sem, h.k0], by rw [World.frozen?_setCell]; exact h.fz⟩
theorem C1.block {w w' : World} {b : Nat} {c : Value} (h : C1 w b c) (e : w'.heap[b]? = w.heap[b]?) : C1 w' b c := ⟨(World.cell?_of_block (a := ⟨b, 0, none⟩) e).trans h.k0, (World.frozen?_of_block (a := ⟨b, 0, none⟩) e).trans h.fz⟩
theorem B2.block {w w' : World} {b : Nat} {c0 c1 : Value} (h : B2 w b c0 c1) (e : w'.heap[b]? = w.heap[b]?) : B2 w' b c0 c1 :=
  ⟨(World.cell?_of_block (a := ⟨b, 0, none⟩) e).trans h.k0, (World.cell?_of_block (a := ⟨b, 1, none⟩) e).trans h.k1, fun o => (World.frozen?_of_block (a := ⟨b, o, none⟩) e).trans (h.fz o)⟩
/-- The first tracks' samples, and of track k the first i, have data of their own, in blocks from M on; the others are as read. -/
structure DN (F : Fl) (X0 : Nat → Nat → Value) (M : Nat) (w : World) (X : Nat → Nat → Value) (k i : Nat) : Prop where
  yes : ∀ j a, j < F.nT → a < (F.T j).nS → (j < k ∨ (j = k ∧ a < i)) → BR w (X j a) (smL ((F.T j).S a)) M w.heap.size
  no : ∀ j a, ¬ (j < k ∨ (j = k ∧ a < i)) → X j a = X0 j a
theorem DN.start (F : Fl) (X0 : Nat → Nat → Value) (M : Nat) (w : World) : DN F X0 M w X0 0 0 :=
  ⟨fun j a _ _ h => by omega, fun j a _ => rfl⟩
theorem DN.below {F : Fl} {X0 X : Nat → Nat → Value} {M k i : Nat} {w w' : World} (h : DN F X0 M w X k i) (hb : Below w.heap.size w w') : DN F X0 M w' X k i :=
  ⟨fun j a h1 h2 h3 => ((h.yes j a h1 h2 h3).but (But.of (g := w.heap.size) hb (Nat.le_refl _)) (Nat.le_refl _) (Or.inr (Nat.le_refl _))).mono (Nat.le_refl _) hb.size, h.no⟩
theorem DN.far {F : Fl} {X0 X : Nat → Nat → Value} {M k i b o : Nat} {u : Value} {w : World} (h : DN F X0 M w X k i) (hb : b < M) : DN F X0 M (w.setCell ⟨b, o, none⟩ u) X k i :=
  ⟨fun j a h1 h2 h3 => by rw [World.size_setCell]; exact (h.yes j a h1 h2 h3).but (But.cell w.heap.size b o u w) (Nat.le_refl _) (Or.inl hb), h.no⟩
theorem DN.next {F : Fl} {X0 X : Nat → Nat → Value} {M k i : Nat} {w : World} (h : DN F X0 M w X k i) (hi : i = (F.T k).nS) : DN F X0 M w X (k + 1) 0 := by
  refine ⟨fun j a h1 h2 h3 => h.yes j a h1 h2 (by by_cases e : j = k; · subst e; omega
                                                  · omega), fun j a h3 => h.no j a (by omega)⟩
theorem DN.put {F : Fl} {X0 X : Nat → Nat → Value} {M k i q : Nat} {w : World} {u : Value} (h : DN F X0 M w X k i) (hq : q < M) (hu : BR w u (smL ((F.T k).S i)) M w.heap.size) : DN F X0 M (w.setCell ⟨q, i * 4, none⟩ u) (upd X k (upd (X k) i u)) k (i + 1) := by
  refine ⟨fun j a h1 h2 h3 => ?_, fun j a h3 => ?_⟩
  · rw [World.size_setCell]
    by_cases e : j = k
    · subst e
      rw [upd_here]
      by_cases e2 : a = i
      · subst e2
        rw [upd_here]
        exact hu.but (But.cell w.heap.size q _ u w) (Nat.le_refl _) (Or.inl hq)
      · rw [upd_far _ _ e2]
        exact (h.yes j a h1 h2 (by omega)).but (But.cell w.heap.size q _ u w) (Nat.le_refl _) (Or.inl hq)
    · rw [upd_far _ _ e]
      exact (h.yes j a h1 h2 (by omega)).but (But.cell w.heap.size q _ u w) (Nat.le_refl _) (Or.inl hq)
  · by_cases e : j = k
    · subst e
      rw [upd_here, upd_far _ _ (by omega)]
      exact h.no j a (by omega)
    · rw [upd_far _ _ e]
      exact h.no j a (by omega)
set_option maxRecDepth 100000 in
set_option maxHeartbeats 8000000 in
theorem take_any (F : Fl) (vb vo vc : Nat) (w : World) (hv : BY w (.slice (some ⟨vb, vo, none⟩) (putL F).length vc) (putL F)) (hok : okFl F = true) (hB : ∀ k, k < F.nT → BytT (F.T k)) (hl : (putL F).length < 90000000) :
    Calls Try.prog 25 #[.slice (some ⟨vb, vo, none⟩) (putL F).length vc] w fun e w' => ∃ r, e = .returned (.tuple #[r, .int .i64 0]) ∧ FA w' r F ∧ Below w.heap.size w w' := by
  obtain ⟨xm, pm, sm, zm⟩ := put_picks F
  have hl' : (putL F).length < 100000000 := by omega
  have hnT : F.nT ≤ 4 := (okFl_yes hok).1.2.2
  have hnS : ∀ k, k < F.nT → (F.T k).nS ≤ 4096 := fun k hk => (okTr_facts ((okFl_yes hok).2 k hk)).2.2.2.2.1
  have HNS := Lib.hid hnS
  have HMO := Lib.hid (fun (w : World) (hv : BY w (.slice (some ⟨vb, vo, none⟩) (putL F).length vc) (putL F)) => rmovie_any (putL F) F (f0 F) xm vb vo vc w hv (by rw [f0_int]; exact sm) (by rw [f0_int]; exact zm) hok (fun k hk => put_fit F hk) hl')
  have HBX := Lib.hid (fun (w : World) (hv : BY w (.slice (some ⟨vb, vo, none⟩) (putL F).length vc) (putL F)) => boxes_lay (v := .slice (some ⟨vb, vo, none⟩) (putL F).length vc) (w := w) (p := 0) (bs := putB F) hv rfl hl' (by rw [← put_cat]; exact Seg.whole _) (by intro y hy; simp only [putB, List.mem_cons, List.not_mem_nil, or_false] at hy; rcases hy with rfl | rfl | rfl <;> rfl))
  rw [← put_cat, Nat.zero_add] at HBX
  have HBT := Lib.hid (fun (r : Value) (B0 : Nat) (w : World) (h : RowB w B0 r (lay 0 (putB F))) => bytype_any r (lay 0 (putB F)) B0 w h (by rw [lay_length]; show 3 ≤ 1000000; decide) (by intro b hb; simp only [putB, lay, List.mem_cons, List.not_mem_nil, or_false] at hb; rcases hb with rfl | rfl | rfl <;> exact Nat.le_refl 4))
  have HVF := Lib.hid (fun (v : Value) (w : World) (h : FA w v F) => validF_any v F w h (by omega))
  rw [hok] at HVF
  have HSM := Lib.hid (fun (w : World) (hv : BY w (.slice (some ⟨vb, vo, none⟩) (putL F).length vc) (putL F)) (k i : Nat) (hk : k < F.nT) (hi : i < (F.T k).nS) => show BL w (mvX F vb vo (f0 F) k i) (smL ((F.T k).S i)) from by
    have h1 := slX_bl hv (put_sample F hk hi)
    rw [smL_length] at h1
    exact h1)
  have HCL := Lib.hid (fun (v : Value) (w : World) (k i : Nat) (hk : k < F.nT) (hi : i < (F.T k).nS) (h : BL w v (smL ((F.T k).S i))) => clone_any v (smL ((F.T k).S i)) w h (by have := (put_sample F hk hi).le; omega))
  have HBB := Lib.hid hB
  obtain ⟨l, hl1⟩ : ∃ l, l = lay 0 (putB F) := ⟨_, rfl⟩
  rw [← hl1] at HBX HBT pm
  have HLK := Lib.hid (fun (B mb : Nat) (w : World) (h : DirA w B mb l) => h.look nMoov (by decide))
  rw [pm] at HLK
  simp only [nMoov] at HLK
  have hvb : vb < w.heap.size := by
    have h3 := sm.le
    obtain ⟨vb', vo', vc', e, h1, h2, h3⟩ := BA.open hv (by omega)
    simp only [Value.slice.injEq, Option.some.injEq, Addr.mk.injEq, and_true] at e
    obtain ⟨⟨rfl, rfl⟩, -, -⟩ := e
    exact block_lt_of_cell (h2 0 (by omega))
  obtain ⟨L, hL⟩ : ∃ L, L = putL F := ⟨_, rfl⟩
  rw [← hL] at HMO HBX HSM hv hl ⊢
  have HV := Lib.hid hv
  obtain ⟨N, hN⟩ : ∃ N, N = L.length := ⟨_, rfl⟩
  rw [← hN] at HMO HBX HSM HV hl ⊢
  obtain ⟨C, hC⟩ : ∃ C, C = (bxC xm).toArray := ⟨_, rfl⟩
  rw [← hC] at HMO
  have HC := Lib.hid hC
  have hn' : ¬ (2147483647 : Int) < (N : Int) := by omega
  have hn2 : ¬ 2147483647 < N := by omega
  simp only [Int.natCast_zero] at HBX
  clear hl1 hL hN hC hv hok hB hl' pm sm zm hnS
  have hmf : ∀ (fn : Fn) (first cap : Array Value) (w : World), (Instr.makeFunc fn first cap).run Try.prog w = .ok (.func fn first cap) w := fun _ _ _ _ => rfl
  go_enter_defers Try.func25, Try.ntmps25
  go_upto_region 2 with fail
  obtain ⟨w1, hw1⟩ : ∃ x, x = ((w.alloc (.cells #[.int .i64 0, .slice none 0 0] 56)).alloc (.cells #[.int .i64 0] 24)) := ⟨_, rfl⟩
  rw [← hw1]
  obtain ⟨g1, hg1⟩ : ∃ g, g = w.heap.size := ⟨_, rfl⟩
  have hE1 : Below w.heap.size w w1 := by rw [hw1]; go_grown
  have hz1 : w1.heap.size = w.heap.size + 2 := by rw [hw1]; simp [go_sem]
  have HF := Lib.hid (show B2 w1 g1 (.int .i64 0) (.slice none 0 0) from ⟨by rw [hw1, hg1]; simp [go_sem], by rw [hw1, hg1]; simp [go_sem], fun o => by rw [hw1, hg1]; simp [go_sem]⟩)
  have he1 : C1 w1 (g1 + 1) (.int .i64 0) := by rw [hw1, hg1]; constructor <;> simp [go_sem]
  rw [← hg1]
  obtain ⟨g2, hg2⟩ : ∃ g, g = g1 + 1 := ⟨_, rfl⟩
  rw [← hg2] at he1 ⊢
  have HG := Lib.hid (show w.heap.size ≤ g1 ∧ w.heap.size ≤ g2 ∧ g1 ≠ g2 ∧ w1.heap.size = g2 + 1 from by omega)
  have HE := Lib.hid he1
  have HW := Lib.hid hE1
  clear hw1 hE1 hg1 hg2 hz1 he1
  go_wp2_with fail
  refine (HBX.out w1 (HV.out.below HW.out)).mono ?_
  rintro e w2 ⟨r, rfl, hr, hb⟩
  have HR := Lib.hid hr
  replace HF := Lib.hid (HF.out.below hb)
  replace HE := Lib.hid (HE.out.below hb)
  replace HW := Lib.hid (HW.out.trans (hb.mono HW.out.size))
  obtain ⟨ra, rc, rfl⟩ := hr.shape
  clear hb hr
  have e0 := HE.out.k0
  have ef := HE.out.fz
  go_upto_region 5 with fail
  obtain ⟨w3, hw3⟩ : ∃ x, x = w2.setCell ⟨g2, 0, none⟩ (.int .i64 0) := ⟨_, rfl⟩
  rw [← hw3]
  have hblk : ∀ b, b ≠ g2 → w3.heap[b]? = w2.heap[b]? := fun b hb => by rw [hw3]; exact Below.heap_setCell _ _ _ _ hb
  have HE3 := Lib.hid (show C1 w3 g2 (.int .i64 0) by rw [hw3]; exact HE.out.set _)
  have HF3 := Lib.hid (HF.out.block (hblk g1 HG.out.2.2.1))
  have HW3 := Lib.hid (show Below w.heap.size w w3 by rw [hw3]; exact HW.out.setCell HG.out.2.1 _)
  have HR3 := Lib.hid (show RowB w3 (g2 + 1) (.slice ra l.length rc) l by rw [hw3, ← HG.out.2.2.2]; exact owns_far HR.out (by rw [HG.out.2.2.2]; simp) _)
  clear hw3 hblk HE HF HW HR e0 ef
  have e0 := HE3.out.k0
  go_upto_region 7 with fail
  clear e0
  go_wp2_with fail
  refine (HBT.out _ _ w3 HR3.out).mono ?_
  rintro e w4 ⟨mb, rfl, hd, hb⟩
  have HE := Lib.hid (HE3.out.below hb)
  have HF := Lib.hid (HF3.out.below hb)
  have HW := Lib.hid (HW3.out.trans (hb.mono HW3.out.size))
  obtain ⟨rm, hlk, hrow, -, -⟩ := HLK.out _ mb w4 hd
  obtain ⟨ma, mc, rfl⟩ := hrow.shape
  have hl4 := hlk w4 rfl
  obtain ⟨gr, gc, e, hgc, hx⟩ := hrow.range (i := 0) (b := xm) rfl
  simp only [List.length_singleton, Value.slice.injEq, true_and] at e hl4
  obtain ⟨rfl, rfl⟩ := e
  have HX := Lib.hid hx
  clear hd hb hlk hrow hgc hx HE3 HF3 HW3 HR3
  go_upto_region 12 with fail
  clear hl4
  apply wp_region_lit
  iterate 12 go_step
  refine wpl_loadB HX.out rfl rfl rfl ?_
  rw [← HC.out]
  simp only [Act.put, List.setIfInBounds_toArray, List.set_cons_succ, List.set_cons_zero]
  go_wp2_with fail
  refine (HMO.out w4 (HV.out.below HW.out)).mono ?_
  rintro e w5 ⟨lo, ta, tc, LO, Q, CV, EV, rfl, hmv, hlo, hlo2, hb⟩
  have HM := Lib.hid hmv
  have HLO := Lib.hid (show g1 < lo ∧ g2 < lo ∧ w.heap.size ≤ lo from ⟨Nat.lt_of_lt_of_le HF.out.lt hlo, Nat.lt_of_lt_of_le HE.out.lt hlo, Nat.le_trans HW.out.size hlo⟩)
  replace HF := Lib.hid (HF.out.below hb)
  replace HE := Lib.hid (HE.out.below hb)
  replace HW := Lib.hid (HW.out.trans (hb.mono HW.out.size))
  have HLE5 := Lib.hid hlo2
  clear hmv hlo hlo2 hb HX
  have f0' := HF.out.k0
  have f1' := HF.out.k1
  have ff := HF.out.fz
  go_upto_region 13 with fail
  obtain ⟨w6, hw6⟩ : ∃ y, y = (w5.setCell ⟨g1, 0, none⟩ (.int .i64 F.sc)).setCell ⟨g1, 1, none⟩ (.slice ta F.nT tc) := ⟨_, rfl⟩
  rw [← hw6]
  have HF6 := Lib.hid (show B2 w6 g1 (.int .i64 F.sc) (.slice ta F.nT tc) by rw [hw6]; exact HF.out.put2 _ _)
  have HM6 := Lib.hid (show MV w6 lo F.nT (.slice ta F.nT tc) F.T (mvX F vb vo (f0 F)) LO Q CV EV by rw [hw6]; exact (HM.out.far HLO.out.1 _).far HLO.out.1 _)
  have HW6 := Lib.hid (show Below w.heap.size w w6 by rw [hw6]; exact (HW.out.setCell HG.out.1 _).setCell HG.out.1 _)
  have HE6 := Lib.hid (show C1 w6 g2 (.int .i64 0) by
    rw [hw6]
    exact (HE.out.block (Below.heap_setCell _ _ _ _ HG.out.2.2.1.symm)).block (Below.heap_setCell _ _ _ _ HG.out.2.2.1.symm))
  have HLE := Lib.hid (show lo ≤ w6.heap.size by rw [hw6, World.size_setCell, World.size_setCell]; exact HLE5.out)
  clear hw6 f0' f1' ff HF HM HW HE HLE5
  have HFA := Lib.hid (HM6.out.fa HBB.out (fun k hk i hi => HSM.out w6 (HV.out.below HW6.out) k i hk hi))
  have f0' := HF6.out.k0
  have f1' := HF6.out.k1
  go_wp2_with fail
  refine (HVF.out _ w6 HFA.out).mono ?_
  rintro e w7 ⟨rfl, hb⟩
  have HF := Lib.hid (HF6.out.below hb)
  have HE := Lib.hid (HE6.out.below hb)
  have HM := Lib.hid (HM6.out.below hb)
  have HW := Lib.hid (HW6.out.trans (hb.mono HW6.out.size))
  have HLW := Lib.hid (Nat.le_trans (show lo ≤ w6.heap.size from HLE.out) hb.size)
  clear hb f0' f1' HFA HF6 HE6 HM6 HW6
  have f1' := HF.out.k1
  go_upto_region 16 with fail
  go_loopw [58] (fun i wr => ∃ (k : Nat) (X : Nat → Nat → Value), k ≤ F.nT ∧ i = .int .i64 (k : Int) ∧ MV wr lo F.nT (.slice ta F.nT tc) F.T X LO Q CV EV ∧ DN F (mvX F vb vo (f0 F)) w7.heap.size wr X k 0 ∧ Below lo w7 wr ∧ w7.heap.size ≤ wr.heap.size) (fun i _ => F.nT - (intOf i).toNat)
  case atStart => exact ⟨0, _, Nat.zero_le _, rfl, HM.out, DN.start _ _ _ _, Below.refl _ _, Nat.le_refl _⟩
  case round =>
    obtain ⟨k, X, hk, rfl, hmv, hdn, hbw, hsz⟩ := hrel
    have HMK := Lib.hid hmv
    have HDK := Lib.hid hdn
    have HBK := Lib.hid hbw
    have HZK := Lib.hid hsz
    clear hmv hdn hbw hsz
    by_cases hlt : k < F.nT
    · have hlt' : (k : Int) < (F.nT : Int) := by omega
      obtain ⟨br, rfl, hb1, hb2, hb3, hb4, c0, c1, c2, c3, c4⟩ := HMK.out.cells hlt
      obtain ⟨⟨cva, cvm, cvc, hcv⟩, ⟨eva, evm, evc, hev⟩⟩ := HMK.out.sh k hlt
      rw [hcv] at c2
      rw [hev] at c4
      clear hb1 hb2 hb3 hb4 hcv hev
      go_upto_region 18 with fail
      obtain ⟨wq0, hwq0⟩ : ∃ y, y = wr.alloc (.cells #[.string (F.T k).h, .int .i64 (F.T k).sc, .slice cva cvm cvc, .slice (some ⟨Q k, 0, none⟩) (F.T k).nS (F.T k).nS, .slice eva evm evc] 43) := ⟨_, rfl⟩
      rw [← hwq0]
      obtain ⟨b8, hb8⟩ : ∃ y, y = wr.heap.size := ⟨_, rfl⟩
      have hb : Below wr.heap.size wr wq0 := by rw [hwq0]; exact below_box _ _
      have HT0 := Lib.hid (show wq0.cell? ⟨b8, 3, none⟩ = some (.slice (some ⟨Q k, 0, none⟩) (F.T k).nS (F.T k).nS) ∧ w7.heap.size ≤ b8 from ⟨by rw [hwq0, hb8]; simp [go_sem], by rw [hb8]; exact HZK.out⟩)
      rw [← hb8]
      have HM0 := Lib.hid (HMK.out.below hb)
      have HD0 := Lib.hid (HDK.out.below hb)
      have HB0 := Lib.hid (HBK.out.trans (hb.mono (Nat.le_trans HLW.out HZK.out)))
      have HZ0 := Lib.hid (Nat.le_trans HZK.out hb.size)
      have HQK := Lib.hid (show Q k < w7.heap.size ∧ lo ≤ Q k from ⟨(HM.out.tl k hlt).2, Nat.le_trans (HM.out.tl k hlt).1 (HM.out.tk k hlt).lq⟩)
      have hnk := HNS.out k hlt
      clear hwq0 hb8 hb c0 c1 c2 c3 c4 HMK HDK HBK HZK
      have t3 := HT0.out.1
      go_upto_region 19 with fail
      clear t3
      go_loopw [65] (fun ii wq => ∃ (i : Nat) (X : Nat → Nat → Value), i ≤ (F.T k).nS ∧ ii = .int .i64 (i : Int) ∧ MV wq lo F.nT (.slice (some ⟨br, 0, none⟩) F.nT tc) F.T X LO Q CV EV ∧ DN F (mvX F vb vo (f0 F)) w7.heap.size wq X k i ∧ Below lo w7 wq ∧ w7.heap.size ≤ wq.heap.size ∧ wq.cell? ⟨b8, 3, none⟩ = some (.slice (some ⟨Q k, 0, none⟩) (F.T k).nS (F.T k).nS)) (fun ii _ => (F.T k).nS - (intOf ii).toNat)
      case atStart => exact ⟨0, _, Nat.zero_le _, rfl, HM0.out, HD0.out, HB0.out, HZ0.out, HT0.out.1⟩
      case round =>
        obtain ⟨i, X', hi, rfl, hmv, hdn, hbw, hsz, ht3⟩ := hrel
        have HMK := Lib.hid hmv
        have HDK := Lib.hid hdn
        have HBK := Lib.hid hbw
        have HZK := Lib.hid hsz
        have HT3 := Lib.hid ht3
        clear hmv hdn hbw hsz ht3
        by_cases hlti : i < (F.T k).nS
        · have hlti' : (i : Int) < ((F.T k).nS : Int) := by omega
          obtain ⟨xa, xz, hxa⟩ : ∃ xa xz, X' k i = .slice (some xa) xz xz := ⟨_, _, HDK.out.no k i (by omega)⟩
          have hbl := HSM.out wr (HV.out.below (HW.out.trans (HBK.out.mono HLO.out.2.2))) k i hlt hlti
          rw [← HDK.out.no k i (by omega), hxa] at hbl
          have HBL := Lib.hid hbl
          have hsb := (HMK.out.tk k hlt).sb
          have s0 := hsb.k0 i hlti
          have s1 := hsb.k1 i hlti
          have s2 := hsb.k2 i hlti
          have s3 := hsb.k3 i hlti
          rw [hxa] at s0
          clear hbl hsb hxa
          go_upto_region 21 with fail
          obtain ⟨wa, hwa⟩ : ∃ y, y = wr.alloc (.cells #[.slice (some xa) xz xz, .int .i64 ((F.T k).S i).dur, .int .i64 ((F.T k).S i).shift, .bool ((F.T k).S i).sync] 75) := ⟨_, rfl⟩
          rw [← hwa]
          obtain ⟨b10, hb10⟩ : ∃ y, y = wr.heap.size := ⟨_, rfl⟩
          have hb : Below wr.heap.size wr wa := by rw [hwa]; exact below_box _ _
          have d0 : wa.cell? ⟨b10, 0, none⟩ = some (.slice (some xa) xz xz) := by rw [hwa, hb10]; simp [go_sem]
          have h10 : w7.heap.size ≤ b10 := by rw [hb10]; exact HZK.out
          rw [← hb10]
          have HMA := Lib.hid (HMK.out.below hb)
          have HDA := Lib.hid (HDK.out.below hb)
          have HBA := Lib.hid (HBK.out.trans (hb.mono (Nat.le_trans HLW.out HZK.out)))
          have HZA := Lib.hid (Nat.le_trans HZK.out hb.size)
          have HBLA := Lib.hid (HBL.out.below hb)
          have d3 := (hb.cell (p := ⟨b8, 3, none⟩) (block_lt_of_cell HT3.out)).trans HT3.out
          clear hwa hb10 hb s0 s1 s2 s3 HMK HDK HBK HZK HBL HT3
          refine Plan.wp_region_plan (fun w' => w'.cell? ⟨b8, 3, none⟩ = some (.slice (some ⟨Q k, 0, none⟩) (F.T k).nS (F.T k).nS) ∧ w'.cell? ⟨b10, 0, none⟩ = some (.slice (some xa) xz xz)) (([0, 1, 2, 3, 4].map (·, true)) ++ (([5].map (·, false)) ++ (([6, 7].map (·, true)) ++ (([8].map (·, false)))))) (by kernel_rfl) (by kernel_rfl) (by kernel_rfl) ⟨d3, d0⟩ ?_
          refine' Plan.plan_seg _ [0, 1, 2, 3, 4] (([5].map (·, false)) ++ (([6, 7].map (·, true)) ++ (([8].map (·, false))))) (by kernel_rfl) (by kernel_rfl) rfl (by exact ⟨d3, d0⟩) (fun wx hS => ?_) ?_
          rotate_left
          · obtain ⟨z0, z1⟩ := hS
            go_light
            iterate 5 (apply Plan.seg_pick; rfl; intro K hK; go_wp)
            exact Plan.seg_nil
          refine Plan.plan_of_effect rfl (fun K hK => ?_)
          obtain ⟨wb, hwb⟩ : ∃ y, y = wa.drew := ⟨_, rfl⟩
          rw [← hwb]
          have hb : Below wa.heap.size wa wb := by rw [hwb]; exact (Below.refl _ _).drew
          have hwbs : wa.heap.size ≤ wb.heap.size := by rw [hwb]; exact Nat.le_refl _
          clear hwb
          go_wp2_with fail
          refine (HCL.out _ wb k i hlt hlti (HBLA.out.below hb)).mono ?_
          rintro e wc ⟨r, rfl, hbl, hfr, hbc⟩
          replace hb := hb.trans (hbc.mono hb.size)
          have hbr := BR.of hbl (fun a n c e => Nat.le_trans HZA.out (Nat.le_trans hwbs (hfr a n c e).1))
          obtain ⟨ra', rc', rfl⟩ := hbl.shape
          have HMC := Lib.hid (HMA.out.below hb)
          have HDC := Lib.hid (HDA.out.below hb)
          have HBC := Lib.hid (HBA.out.trans (hb.mono (Nat.le_trans HLW.out HZA.out)))
          have HZC := Lib.hid (Nat.le_trans HZA.out hb.size)
          replace d3 := (hb.cell (p := ⟨b8, 3, none⟩) (block_lt_of_cell d3)).trans d3
          replace d0 := (hb.cell (p := ⟨b10, 0, none⟩) (block_lt_of_cell d0)).trans d0
          have HBR := Lib.hid hbr
          have HD3 := Lib.hid (And.intro d3 d0)
          obtain ⟨zl, hzl⟩ : ∃ z, z = (smL ((F.T k).S i)).length := ⟨_, rfl⟩
          rw [← hzl] at hbr ⊢
          replace HBR := Lib.hid hbr
          clear hb hbl hfr hbc hwbs hbr hzl HMA HDA HBA HZA HBLA
          go_wp2_with fail
          refine ⟨⟨d3, d0⟩, ?_⟩
          refine' Plan.plan_seg _ [6, 7] (([8].map (·, false))) (by kernel_rfl) (by kernel_rfl) rfl (by exact ⟨d3, d0⟩) (fun wx hS => ?_) ?_
          rotate_left
          · obtain ⟨z0, z1⟩ := hS
            go_light
            iterate 2 (apply Plan.seg_pick; rfl; intro K hK; go_wp)
            exact Plan.seg_nil
          refine Plan.plan_of_effect rfl (fun K hK => ?_)
          have s0 := (HMC.out.tk k hlt).sb.k0 i hlti
          have sf := (HMC.out.tk k hlt).sb.f
          clear d3 d0
          go_wp2_with fail
          obtain ⟨wd, hwd⟩ : ∃ y, y = wc.setCell ⟨Q k, i * 4, none⟩ (.slice ra' zl rc') := ⟨_, rfl⟩
          rw [← hwd]
          have hfar : ∀ b, b ≠ Q k → wd.heap[b]? = wc.heap[b]? := fun b hb => by rw [hwd]; exact Below.heap_setCell _ _ _ _ hb
          have d3 := (World.cell?_of_block (a := ⟨b8, 3, none⟩) (hfar b8 (by have := HT0.out.2; have := HQK.out.1; omega))).trans HD3.out.1
          have d0 := (World.cell?_of_block (a := ⟨b10, 0, none⟩) (hfar b10 (by have := HQK.out.1; omega))).trans HD3.out.2
          have HMD := Lib.hid (show MV wd lo F.nT (.slice (some ⟨br, 0, none⟩) F.nT tc) F.T (upd X' k (upd (X' k) i (.slice ra' zl rc'))) LO Q CV EV by rw [hwd]; exact HMC.out.put hlt hlti _)
          have HDD := Lib.hid (show DN F (mvX F vb vo (f0 F)) w7.heap.size wd (upd X' k (upd (X' k) i (.slice ra' zl rc'))) k (i + 1) by rw [hwd]; exact HDC.out.put HQK.out.1 HBR.out)
          have HBD := Lib.hid (show Below lo w7 wd by rw [hwd]; exact HBC.out.setCell HQK.out.2 _)
          have HZD := Lib.hid (show w7.heap.size ≤ wd.heap.size by rw [hwd, World.size_setCell]; exact HZC.out)
          have HD3' := Lib.hid d3
          clear hwd hfar s0 sf HMC HDC HBC HZC HBR HD3
          refine ⟨⟨d3, d0⟩, ?_⟩
          clear d3 d0
          refine Plan.plan_done ?_
          go_wp2_with fail
          go_roundw
          case rel => exact ⟨i + 1, _, by omega, by simp, HMD.out, HDD.out, HBD.out, HZD.out, HD3'.out⟩
          case measure =>
            simp [intOf]
            omega
        · have hii : i = (F.T k).nS := by omega
          go_wp2_with fail
          go_roundw
          case rel => exact ⟨k + 1, X', by omega, by simp, HMK.out, HDK.out.next hii, HBK.out, HZK.out⟩
          case measure =>
            simp [intOf]
            omega
    · have hkn : k = F.nT := by omega
      have HWR := Lib.hid (HW.out.trans (HBK.out.mono HLO.out.2.2))
      have HFR := Lib.hid (HMK.out.fa HBB.out (fun j hj a ha => (HDK.out.yes j a hj ha (by omega)).bl))
      have HF8 := Lib.hid (show B2 wr g1 (.int .i64 F.sc) (.slice ta F.nT tc) from HF.out.block (HBK.out.block g1 HLO.out.1))
      have HE8 := Lib.hid (show C1 wr g2 (.int .i64 0) from HE.out.block (HBK.out.block g2 HLO.out.2.1))
      have f0' := HF8.out.k0
      have f1' := HF8.out.k1
      have ff := HF8.out.fz
      have e0 := HE8.out.k0
      have ef := HE8.out.fz
      have n12 := HG.out.2.2.1
      have n21 := n12.symm
      go_wp2_with fail
      obtain ⟨wz, hwz⟩ : ∃ y, y = ((wr.setCell ⟨g1, 0, none⟩ (.int .i64 F.sc)).setCell ⟨g1, 1, none⟩ (.slice ta F.nT tc)).setCell ⟨g2, 0, none⟩ (.int .i64 0) := ⟨_, rfl⟩
      rw [← hwz]
      have hM : lo ≤ w7.heap.size := HLW.out
      have hmz : MV wz lo F.nT (.slice ta F.nT tc) F.T X LO Q CV EV := by rw [hwz]; exact ((HMK.out.far HLO.out.1 _).far HLO.out.1 _).far HLO.out.2.1 _
      have hdz : DN F (mvX F vb vo (f0 F)) w7.heap.size wz X k 0 := by rw [hwz]; exact ((HDK.out.far (by have := HLO.out.1; omega)).far (by have := HLO.out.1; omega)).far (by have := HLO.out.2.1; omega)
      have HFZ := Lib.hid (hmz.fa HBB.out (fun j hj a ha => (hdz.yes j a hj ha (by omega)).bl))
      have HWZ := Lib.hid (show Below w.heap.size w wz by rw [hwz]; exact ((HWR.out.setCell HG.out.1 _).setCell HG.out.1 _).setCell HG.out.2.1 _)
      have z50 : wz.cell? ⟨g1, 0, none⟩ = some (.int .i64 F.sc) := by rw [hwz, World.cell?_setCell_far _ _ _ _ (by simpa using n21)]; exact (HF8.out.put2 _ _).k0
      have z51 : wz.cell? ⟨g1, 1, none⟩ = some (.slice ta F.nT tc) := by rw [hwz, World.cell?_setCell_far _ _ _ _ (by simpa using n21)]; exact (HF8.out.put2 _ _).k1
      have z52 : wz.cell? ⟨g2, 0, none⟩ = some (.int .i64 0) := by rw [hwz]; exact (C1.set (c := .int .i64 0) ((HE8.out.block (Below.heap_setCell _ _ _ _ n21)).block (Below.heap_setCell _ _ _ _ n21)) _).k0
      clear hwz hmz hdz f0' f1' ff e0 ef HMK HDK HBK HFR HF8 HE8 HWR
      refine leaves_cons (f := 47) (args := #[.pointer (some ⟨g1, 0, none⟩), .pointer (some ⟨g2, 0, none⟩)]) (by simp) (by simp [go_sem]) ?_
      refine (idle47 _ _ _).mono ?_
      rintro e u' w'' ⟨rfl, rfl, rfl⟩
      simp [Leaves, settle, results, Try.results25, go_sem, z50, z51, z52]
      exact ⟨HFZ.out, HWZ.out⟩
end Go.Proofs.Ytkhjkemllgjfmaa
