/- Texts of this claim joined: WF WG WH WI QB QC SA SB SC SE. -/
import Derived.Deep.CutBlock
import Derived.Handy
import Derived.OwnWalk
import Derived.Maps.Own
import Derived.StringKeys
import Derived.Test.YtfoohocgdcgbcaaGreatHb10
set_option linter.unusedVariables false
set_option linter.unusedSimpArgs false
namespace Go.Proofs.YtfoohocgdcgbcaaGreat
open Go.RowKit
theorem CV.turn {w w' : World} {g g2 : Nat} {c : Trk.Clip} (h : CV w g c) (ht : Turn g2 w w') (hn : g ≠ g2) : CV w' g c := h.same (ht.o g h.lt hn)
theorem CV.thereS {w : World} {g : Nat} {c : Trk.Clip} (h : CV w g c) (j : Nat) (hj : j + 7 ≤ 22) : w.there g j 7 := fun q hq => by
 have := h.there (j + q) (by omega)
 rwa [Nat.zero_add] at this
theorem CV.seta {w : World} {g : Nat} {c : Trk.Clip} (h : CV w g c) (s : Trk.Src) : CV (w.setCells g 2 (srcC s)) g { c with a := s } := h.set_a s
theorem CV.setb {w : World} {g : Nat} {c : Trk.Clip} (h : CV w g c) (s : Trk.Src) : CV (w.setCells g 9 (srcC s)) g { c with b := s } := h.set_b s
theorem CV.set_total {w : World} {b : Nat} {c : Trk.Clip} (h : CV w b c) (v : Int) : CV (w.setCell ⟨b, 17, none⟩ (.int .i64 v)) b { c with total := v } := by
 obtain ⟨h0, f⟩ := h
 obtain ⟨x0, x1, x2, x3, x4, x5, x6, x7, x8, x9, x10, x11, x12, x13, x14, x15, x16, x17, x18, x19, x20, x21⟩ := h0.at0
 exact ⟨by constructor <;> simp [go_sem, x0, x1, x2, x3, x4, x5, x6, x7, x8, x9, x10, x11, x12, x13, x14, x15, x16, x17, x18, x19, x20, x21], fun o => (World.frozen?_setCell _ _ _ _).trans (f o)⟩
theorem CV.set_param {w : World} {b : Nat} {c : Trk.Clip} (h : CV w b c) (v : Int) : CV (w.setCell ⟨b, 18, none⟩ (.int .i64 v)) b { c with param := v } := by
 obtain ⟨h0, f⟩ := h
 obtain ⟨x0, x1, x2, x3, x4, x5, x6, x7, x8, x9, x10, x11, x12, x13, x14, x15, x16, x17, x18, x19, x20, x21⟩ := h0.at0
 exact ⟨by constructor <;> simp [go_sem, x0, x1, x2, x3, x4, x5, x6, x7, x8, x9, x10, x11, x12, x13, x14, x15, x16, x17, x18, x19, x20, x21], fun o => (World.frozen?_setCell _ _ _ _).trans (f o)⟩
theorem CV.set_text {w : World} {b : Nat} {c : Trk.Clip} (h : CV w b c) (v : ByteArray) : CV (w.setCell ⟨b, 19, none⟩ (.string v)) b { c with text := v } := by
 obtain ⟨h0, f⟩ := h
 obtain ⟨x0, x1, x2, x3, x4, x5, x6, x7, x8, x9, x10, x11, x12, x13, x14, x15, x16, x17, x18, x19, x20, x21⟩ := h0.at0
 exact ⟨by constructor <;> simp [go_sem, x0, x1, x2, x3, x4, x5, x6, x7, x8, x9, x10, x11, x12, x13, x14, x15, x16, x17, x18, x19, x20, x21], fun o => (World.frozen?_setCell _ _ _ _).trans (f o)⟩
theorem tape_in {s : Trk.Src} (h : TapeS s) {n : Int} (n0 : 0 ≤ n) (n1 : n ≤ 32) : Trk.SrcIn 1000000 n s := by
 rcases h with rfl | ⟨h1, h2, h3, h4, h5, h6, h7⟩
 ·exact .inl rfl
 ·have b := Trk.mul_bound (d := n) (D := 32) (by omega) n1 h4 h5
  exact .inr ⟨h1, h2, h3, h4, h5, by omega, by omega, by omega, by omega⟩
structure TapeC (c : Trk.Clip) : Prop where
 l0 : 1 ≤ c.len
 l1 : c.len ≤ 9
 a : TapeS c.a
 b : TapeS c.b
 ch : c.chan = []
 gn : c.gain = 0
 kd : Trk.KindOK c
 sh : Trk.shares c.kind = true → 0 ≤ c.off ∧ c.off ≤ 2 ∧ c.off + c.len ≤ c.total ∧ c.total ≤ 20
theorem TapeC.vc {c : Trk.Clip} (h : TapeC c) : Trk.VC 1000000 c :=
 ⟨⟨tape_in h.a (by have := h.l0; omega) (by have := h.l1; omega), tape_in h.b (by have := h.l0; omega) (by have := h.l1; omega), h.ch, h.gn, h.kd⟩, h.l0, by have := h.l1; omega, fun hs => by
  obtain ⟨a, b, c, d⟩ := h.sh hs
  have := h.l0
  omega⟩
theorem wpl_storeC {ops : Array Oper} {rest : List Oper} {op : Oper} {a : Act} {w : World} {Q : Exit → Act → World → Prop} {b : Nat} {c : Trk.Clip} (e : Trk.Clip) {x y : Operand} (hc : CV w b c) (hgd : op.guard = none) (ho : op.op = .store 48 x y)
  (hx : a.eval x = .pointer (some ⟨b, 0, none⟩)) (hy : a.eval y = .agg (clipC e).toArray) (h : wpList Tryz.prog ops Q rest (a.put op.dst undef) (w.setCells b 0 (clipC e))) : wpList Tryz.prog ops Q (op :: rest) a w :=
 wpList_store_mid hgd 48 x y ho b 0 (clipC e).toArray hx hy hc.there (by kernel_rfl) (clip_oneCell e) h
def kinds : Array Int := #[1, 1, 1, 0, 2, 3, 4, 5]
def kindTab : Array Value := #[.int .i64 1, .int .i64 1, .int .i64 1, .int .i64 0, .int .i64 2, .int .i64 3, .int .i64 4, .int .i64 5]
theorem kind_get {w : World} {g q : Nat} (h : w.heap[g]? = some (.cells kindTab 3 (0, 0))) (hq : q < 8) : w.cell? ⟨g, q, none⟩ = some (.int .i64 (kinds[q]!)) := by
 rcases (show q = 0 ∨ q = 1 ∨ q = 2 ∨ q = 3 ∨ q = 4 ∨ q = 5 ∨ q = 6 ∨ q = 7 by omega) with rfl | rfl | rfl | rfl | rfl | rfl | rfl | rfl <;> simp [World.cell?, h, kinds, kindTab]
theorem kind_ok {q : Nat} (hq : q < 8) : kinds[q]! = 0 ∨ kinds[q]! = 1 ∨ kinds[q]! = 2 ∨ kinds[q]! = 3 ∨ kinds[q]! = 4 ∨ kinds[q]! = 5 := by
 rcases (show q = 0 ∨ q = 1 ∨ q = 2 ∨ q = 3 ∨ q = 4 ∨ q = 5 ∨ q = 6 ∨ q = 7 by omega) with rfl | rfl | rfl | rfl | rfl | rfl | rfl | rfl <;> simp [kinds]
def textTab : Array Value := #[.string ⟨#[65]⟩, .string ⟨#[82, 69, 69, 76, 32, 55]⟩, .string ⟨#[116, 104, 101, 32, 101, 110, 100, 46]⟩, .string ⟨#[49, 50, 58, 51, 48]⟩]
theorem line_of {b : ByteArray} (h : 1 ≤ b.size ∧ b.size ≤ 64 ∧ ∀ x ∈ b.data.toList, 32 ≤ x.toNat ∧ x.toNat ≤ 126) : Trk.okLine b := by
 refine ⟨h.1, h.2.1, fun i hi => ?_⟩
 have hm : b[i] ∈ b.data.toList := by
  have e : b[i] = b.data[i] := rfl
  rw [e]
  exact Array.mem_toList_iff.2 (Array.getElem_mem _)
 have := h.2.2 _ hm
 omega
theorem text_get {w : World} {g q : Nat} (h : w.heap[g]? = some (.cells textTab 9 (0, 0))) (hq : q < 4) : ∃ tx, w.cell? ⟨g, q, none⟩ = some (.string tx) ∧ Trk.okLine tx := by
 rcases (show q = 0 ∨ q = 1 ∨ q = 2 ∨ q = 3 by omega) with rfl | rfl | rfl | rfl
 ·exact ⟨_, by simp [World.cell?, h, textTab]; rfl, line_of (by decide)⟩
 ·exact ⟨_, by simp [World.cell?, h, textTab]; rfl, line_of (by decide)⟩
 ·exact ⟨_, by simp [World.cell?, h, textTab]; rfl, line_of (by decide)⟩
 ·exact ⟨_, by simp [World.cell?, h, textTab]; rfl, line_of (by decide)⟩
def ClipPost (w : World) (B p k j : Nat) (P : Trk.Clip → Prop) (e : Ending) (w' : World) : Prop := (∃ c, e = .returned (clipV c) ∧ P c) ∧ TQ w B p k j w'
set_option maxRecDepth 100000 in
set_option maxHeartbeats 16000000 in
theorem clip_any (B p k : Nat) (w : World) (ht : TP w B p k) (hk : k < 700000) :
  Calls Tryz.prog 44 #[.pointer (some ⟨p, 0, none⟩), .int .i64 3, .int .i64 2] w (ClipPost w B p k 20 TapeC) := by
 have HT := Lib.hid ht
 have hB := ht.1
 have hp := ht.2.1
 clear ht
 go_enter Tryz.func44, Tryz.ntmps44
 go_upto_region 1 with fail
 obtain ⟨w1, hw1⟩ : ∃ y, y = w.alloc (.cells (clipC (Trk.gap 0)).toArray 48) := ⟨_, rfl⟩
 have hw1' := hw1
 simp only [clipC, Trk.gap, Trk.black, show (ByteArray.empty : ByteArray) = ⟨#[]⟩ from rfl] at hw1'
 rw [← hw1']
 clear hw1'
 obtain ⟨g6, hg6⟩ : ∃ y, y = w.heap.size := ⟨_, rfl⟩
 have hb : Below w.heap.size w w1 := by rw [hw1]; exact below_box _ _
 have HV := Lib.hid (show CV w1 g6 (Trk.gap 0) by rw [hw1, hg6]; exact CV.box w (Trk.gap 0) 48)
 have HU := Lib.hid (Turn.of (g := p) (Nat.le_of_lt hp) hb)
 replace HT := Lib.hid (HT.out.below (by omega) hb)
 have HG := Lib.hid (show w.heap.size ≤ g6 ∧ g6 ≠ p ∧ B ≤ g6 ∧ p ≤ g6 by omega)
 rw [← hg6]
 clear hw1 hb hg6
 go_wp2_with fail
 refine (next_any B p k 9 _ HT.out (by omega) (by omega) (by omega)).mono ?_
 rintro e w2 ⟨r, rfl, r0, r1, hT_, hg_⟩
 have ht := Turn.grown hg_ HT.out.2.1
 replace HU := Lib.hid (HU.out.trans ht)
 replace HV := Lib.hid (HV.out.turn ht HG.out.2.1)
 replace HT := Lib.hid hT_
 clear hT_ hg_ ht
 dsimp only
 iterate 4 go_step
 refine Great.wpList_buildSliceTo rfl 24 3 8 #[(0, .const (.int .i64 1)), (1, .const (.int .i64 1)), (2, .const (.int .i64 1)), (3, .const (.int .i64 0)), (4, .const (.int .i64 2)), (5, .const (.int .i64 3)), (6, .const (.int .i64 4)), (7, .const (.int .i64 5))] rfl _ rfl (some 11) rfl Tryz.underlying24 kindTab ?_ ?_
 ·kernel_rfl
 obtain ⟨w3, hw3⟩ : ∃ y, y = w2.alloc (.cells kindTab 3) := ⟨_, rfl⟩
 obtain ⟨g9, hg9⟩ : ∃ y, y = w2.heap.size := ⟨_, rfl⟩
 have hb : Below w2.heap.size w2 w3 := by rw [hw3]; exact below_box _ _
 have HK := Lib.hid (show w3.heap[g9]? = some (.cells kindTab 3 (0, 0)) by rw [hw3, hg9]; exact (MapKept.heap_alloc w2 _).1)
 have HG9 := Lib.hid (show g9 ≠ p by have := HT.out.2.1; omega)
 rw [← hw3, ← hg9]
 replace HU := Lib.hid (HU.out.trans (Turn.of (g := p) (Nat.le_of_lt HT.out.2.1) hb))
 replace HV := Lib.hid (HV.out.below hb)
 replace HT := Lib.hid (HT.out.below (Nat.le_trans HT.out.1 (Nat.le_of_lt HT.out.2.1)) hb)
 clear hw3 hg9 hb
 simp only [Act.put, List.setIfInBounds_toArray, List.set_cons_succ, List.set_cons_zero]
 go_wp2_with fail
 refine (next_any B p (k + 1) 8 _ HT.out (by omega) (by omega) (by omega)).mono ?_
 rintro e w4 ⟨q, rfl, q0, q1, hT_, hg_⟩
 obtain ⟨q, rfl⟩ : ∃ n : Nat, q = n := ⟨q.toNat, by omega⟩
 have ht := Turn.grown hg_ HT.out.2.1
 replace HU := Lib.hid (HU.out.trans ht)
 replace HV := Lib.hid (HV.out.turn ht HG.out.2.1)
 replace HK := Lib.hid ((ht.o g9 (Array.getElem?_eq_some_iff.1 HK.out).1 HG9.out).trans HK.out)
 replace HT := Lib.hid hT_
 clear hT_ hg_ ht
 have hq8 : q < 8 := by omega
 have z := kind_get HK.out hq8
 have HKO := Lib.hid (kind_ok hq8)
 obtain ⟨kd, hkd⟩ : ∃ kd, kd = kinds[q]! := ⟨_, rfl⟩
 rw [← hkd] at z HKO
 clear hkd hq8
 dsimp only
 iterate 10 go_step
 iterate 0 go_step
 refine wpl_alloc rfl rfl (fun w5 hg hb2 hs2 => ?_)
 obtain ⟨g7, hg7⟩ : ∃ y, y = w4.heap.size := ⟨_, rfl⟩
 rw [← hg7] at hg ⊢
 have HG7 := Lib.hid (show w.heap.size ≤ g7 ∧ g7 ≠ p ∧ B ≤ g7 ∧ p ≤ g7 ∧ g6 ≠ g7 by have h1 := HT.out.2.1; have h2 := HU.out.s; have h3 := HV.out.lt; omega)
 replace HU := Lib.hid (HU.out.trans (Turn.of (g := p) (Nat.le_of_lt HT.out.2.1) hb2))
 replace HV := Lib.hid (HV.out.below hb2)
 replace HT := Lib.hid (HT.out.below (Nat.le_trans HT.out.1 (Nat.le_of_lt HT.out.2.1)) hb2)
 clear hb2 hs2 hg7 z
 obtain ⟨LL, hLL⟩ : ∃ y, y = 1 + r := ⟨_, rfl⟩
 rw [← hLL]
 have hL0 : 1 ≤ LL := by omega
 have hL1 : LL ≤ 9 := by omega
 clear hLL r0 r1
 simp only [Act.put, List.setIfInBounds_toArray, List.set_cons_succ, List.set_cons_zero]
 refine wpl_storeC ⟨LL, kd, Trk.black, Trk.black, 0, 0, 0, ByteArray.empty, 0, []⟩ hg rfl rfl rfl rfl ?_
 have hv := hg.put ⟨LL, kd, Trk.black, Trk.black, 0, 0, 0, ByteArray.empty, 0, []⟩
 have ht := Turn.cells g7 0 (clipC ⟨LL, kd, Trk.black, Trk.black, 0, 0, 0, ByteArray.empty, 0, []⟩) w5
 obtain ⟨w6, hw6⟩ : ∃ y, y = w5.setCells g7 0 (clipC ⟨LL, kd, Trk.black, Trk.black, 0, 0, 0, ByteArray.empty, 0, []⟩) := ⟨_, rfl⟩
 rw [← hw6] at hv ht ⊢
 have HX := Lib.hid hv
 replace HU := Lib.hid (HU.out.into HG7.out.1 HG7.out.2.2.2.1 ht)
 replace HT := Lib.hid (HT.out.turn ht HG7.out.2.1.symm HG7.out.2.2.1)
 replace HV := Lib.hid (HV.out.turn ht HG7.out.2.2.2.2)
 clear hv ht hw6 hg HK
 simp only [Act.put, List.setIfInBounds_toArray, List.set_cons_succ, List.set_cons_zero]
 rcases HKO.out with rfl | rfl | rfl | rfl | rfl | rfl
 ·have x1 := HX.out.c.k1
  simp only [Nat.zero_add] at x1
  go_upto_region 3 with fail
  clear x1
  apply wp_region_lit
  obtain ⟨CC, hCC⟩ : ∃ C, C = (clipC ⟨LL, 0, Trk.black, Trk.black, 0, 0, 0, ByteArray.empty, 0, []⟩).toArray := ⟨_, rfl⟩
  have HCC := Lib.hid hCC
  clear hCC
  refine wpl_load HX.out.c rfl rfl rfl ?_
  rw [← HCC.out]
  simp only [Act.put, List.setIfInBounds_toArray, List.set_cons_succ, List.set_cons_zero]
  refine wpl_storeC ⟨LL, 0, Trk.black, Trk.black, 0, 0, 0, ByteArray.empty, 0, []⟩ HV.out rfl rfl rfl (by rw [← HCC.out]; rfl) ?_
  have hv := HV.out.put ⟨LL, 0, Trk.black, Trk.black, 0, 0, 0, ByteArray.empty, 0, []⟩
  have ht := Turn.cells g6 0 (clipC ⟨LL, 0, Trk.black, Trk.black, 0, 0, 0, ByteArray.empty, 0, []⟩) w6
  obtain ⟨wz, hwz⟩ : ∃ y, y = World.setCells w6 g6 0 (clipC ⟨LL, 0, Trk.black, Trk.black, 0, 0, 0, ByteArray.empty, 0, []⟩) := ⟨_, rfl⟩
  rw [← hwz] at hv ht ⊢
  replace HU := Lib.hid (HU.out.into HG.out.1 HG.out.2.2.2 ht)
  replace HT := Lib.hid (HT.out.turn ht HG.out.2.1.symm HG.out.2.2.1)
  have HV9 := Lib.hid hv
  clear hv ht hwz HX HV
  simp only [Act.put, List.setIfInBounds_toArray, List.set_cons_succ, List.set_cons_zero]
  iterate 4 go_step
  refine bodyPost_ret (v := .agg CC) (by rw [HCC.out]; exact results_clip Tryz.results44 rfl HV9.out.c) rfl ⟨⟨_, by rw [HCC.out]; rfl, ?_⟩, TQ.of (by omega) HT.out HU.out⟩
  exact ⟨hL0, hL1, .inl rfl, .inl rfl, rfl, rfl, .inl ⟨rfl, rfl, rfl, rfl, rfl, rfl, rfl⟩, fun h => by simp [Trk.shares] at h⟩
 ·have x1 := HX.out.c.k1
  simp only [Nat.zero_add] at x1
  go_wp2_with fail
  refine (source_any B p (k + 1 + 1) _ HT.out (by omega)).mono ?_
  rintro e w7 ⟨⟨sa, rfl, hsa⟩, ⟨ksa, hksa, hT_⟩, ht⟩
  replace HU := Lib.hid (HU.out.trans ht)
  replace HV := Lib.hid (HV.out.turn ht HG.out.2.1)
  replace HX := Lib.hid (HX.out.turn ht HG7.out.2.1)
  replace HT := Lib.hid hT_
  clear hT_ ht
  have Hsa := Lib.hid hsa
  clear hsa
  dsimp only
  iterate 4 go_step
  refine wpl_storeS sa none rfl (HX.out.thereS 2 (by decide)) rfl rfl rfl rfl ?_
  have hx := HX.out.seta sa
  have ht := Turn.cells g7 2 (srcC sa) w7
  obtain ⟨w7s, hwn⟩ : ∃ y, y = World.setCells w7 g7 2 (srcC sa) := ⟨_, rfl⟩
  rw [← hwn] at hx ht ⊢
  replace HX := Lib.hid hx
  replace HU := Lib.hid (HU.out.into HG7.out.1 HG7.out.2.2.2.1 ht)
  replace HT := Lib.hid (HT.out.turn ht HG7.out.2.1.symm HG7.out.2.2.1)
  replace HV := Lib.hid (HV.out.turn ht HG7.out.2.2.2.2)
  clear hx ht hwn
  simp only [Act.put, List.setIfInBounds_toArray, List.set_cons_succ, List.set_cons_zero]
  have x1 := HX.out.c.k1
  simp only [Nat.zero_add] at x1
  go_upto_region 18 with fail
  clear x1
  apply wp_region_lit
  obtain ⟨CC, hCC⟩ : ∃ C, C = (clipC ⟨LL, 1, sa, Trk.black, 0, 0, 0, ByteArray.empty, 0, []⟩).toArray := ⟨_, rfl⟩
  have HCC := Lib.hid hCC
  clear hCC
  refine wpl_load HX.out.c rfl rfl rfl ?_
  rw [← HCC.out]
  simp only [Act.put, List.setIfInBounds_toArray, List.set_cons_succ, List.set_cons_zero]
  refine wpl_storeC ⟨LL, 1, sa, Trk.black, 0, 0, 0, ByteArray.empty, 0, []⟩ HV.out rfl rfl rfl (by rw [← HCC.out]; rfl) ?_
  have hv := HV.out.put ⟨LL, 1, sa, Trk.black, 0, 0, 0, ByteArray.empty, 0, []⟩
  have ht := Turn.cells g6 0 (clipC ⟨LL, 1, sa, Trk.black, 0, 0, 0, ByteArray.empty, 0, []⟩) w7s
  obtain ⟨wz, hwz⟩ : ∃ y, y = World.setCells w7s g6 0 (clipC ⟨LL, 1, sa, Trk.black, 0, 0, 0, ByteArray.empty, 0, []⟩) := ⟨_, rfl⟩
  rw [← hwz] at hv ht ⊢
  replace HU := Lib.hid (HU.out.into HG.out.1 HG.out.2.2.2 ht)
  replace HT := Lib.hid (HT.out.turn ht HG.out.2.1.symm HG.out.2.2.1)
  have HV9 := Lib.hid hv
  clear hv ht hwz HX HV
  simp only [Act.put, List.setIfInBounds_toArray, List.set_cons_succ, List.set_cons_zero]
  iterate 4 go_step
  refine bodyPost_ret (v := .agg CC) (by rw [HCC.out]; exact results_clip Tryz.results44 rfl HV9.out.c) rfl ⟨⟨_, by rw [HCC.out]; rfl, ?_⟩, TQ.of (by omega) HT.out HU.out⟩
  exact ⟨hL0, hL1, Hsa.out, .inl rfl, rfl, rfl, .inr (.inl ⟨rfl, rfl, rfl, rfl, rfl, rfl⟩), fun h => by simp [Trk.shares] at h⟩
 ·have x1 := HX.out.c.k1
  simp only [Nat.zero_add] at x1
  go_wp2_with fail
  refine (source_any B p (k + 1 + 1) _ HT.out (by omega)).mono ?_
  clear x1
  rintro e w7 ⟨⟨sa, rfl, hsa⟩, ⟨ksa, hksa, hT_⟩, ht⟩
  replace HU := Lib.hid (HU.out.trans ht)
  replace HV := Lib.hid (HV.out.turn ht HG.out.2.1)
  replace HX := Lib.hid (HX.out.turn ht HG7.out.2.1)
  replace HT := Lib.hid hT_
  clear hT_ ht
  have Hsa := Lib.hid hsa
  clear hsa
  dsimp only
  iterate 4 go_step
  refine wpl_storeS sa none rfl (HX.out.thereS 2 (by decide)) rfl rfl rfl rfl ?_
  have hx := HX.out.seta sa
  have ht := Turn.cells g7 2 (srcC sa) w7
  obtain ⟨w7s, hwn⟩ : ∃ y, y = World.setCells w7 g7 2 (srcC sa) := ⟨_, rfl⟩
  rw [← hwn] at hx ht ⊢
  replace HX := Lib.hid hx
  replace HU := Lib.hid (HU.out.into HG7.out.1 HG7.out.2.2.2.1 ht)
  replace HT := Lib.hid (HT.out.turn ht HG7.out.2.1.symm HG7.out.2.2.1)
  replace HV := Lib.hid (HV.out.turn ht HG7.out.2.2.2.2)
  clear hx ht hwn
  simp only [Act.put, List.setIfInBounds_toArray, List.set_cons_succ, List.set_cons_zero]
  have x1 := HX.out.c.k1
  simp only [Nat.zero_add] at x1
  go_wp2_with fail
  refine (source_any B p ksa _ HT.out (by omega)).mono ?_
  clear x1
  rintro e w8 ⟨⟨sb, rfl, hsb⟩, ⟨ksb, hksb, hT_⟩, ht⟩
  replace HU := Lib.hid (HU.out.trans ht)
  replace HV := Lib.hid (HV.out.turn ht HG.out.2.1)
  replace HX := Lib.hid (HX.out.turn ht HG7.out.2.1)
  replace HT := Lib.hid hT_
  clear hT_ ht
  have Hsb := Lib.hid hsb
  clear hsb
  dsimp only
  iterate 4 go_step
  refine wpl_storeS sb none rfl (HX.out.thereS 9 (by decide)) rfl rfl rfl rfl ?_
  have hx := HX.out.setb sb
  have ht := Turn.cells g7 9 (srcC sb) w8
  obtain ⟨w8s, hwn⟩ : ∃ y, y = World.setCells w8 g7 9 (srcC sb) := ⟨_, rfl⟩
  rw [← hwn] at hx ht ⊢
  replace HX := Lib.hid hx
  replace HU := Lib.hid (HU.out.into HG7.out.1 HG7.out.2.2.2.1 ht)
  replace HT := Lib.hid (HT.out.turn ht HG7.out.2.1.symm HG7.out.2.2.1)
  replace HV := Lib.hid (HV.out.turn ht HG7.out.2.2.2.2)
  clear hx ht hwn
  simp only [Act.put, List.setIfInBounds_toArray, List.set_cons_succ, List.set_cons_zero]
  go_wp2_with fail
  refine (next_any B p ksb 3 _ HT.out (by omega) (by omega) (by omega)).mono ?_
  rintro e w9 ⟨of, rfl, of0, of1, hT_, hg_⟩
  have ht := Turn.grown hg_ HT.out.2.1
  clear hg_
  replace HU := Lib.hid (HU.out.trans ht)
  replace HV := Lib.hid (HV.out.turn ht HG.out.2.1)
  replace HX := Lib.hid (HX.out.turn ht HG7.out.2.1)
  replace HT := Lib.hid hT_
  clear hT_ ht
  have y1 := HX.out.c.k16
  simp only [Nat.zero_add] at y1
  have yf := HX.out.f
  go_upto_region 10 with fail
  clear y1 yf
  have hx := HX.out.set_off of
  have ht := Turn.cell g7 16 (.int .i64 of) w9
  obtain ⟨w9s, hwn⟩ : ∃ y, y = World.setCell w9 ⟨g7, 16, none⟩ (.int .i64 of) := ⟨_, rfl⟩
  rw [← hwn] at hx ht ⊢
  replace HX := Lib.hid hx
  replace HU := Lib.hid (HU.out.into HG7.out.1 HG7.out.2.2.2.1 ht)
  replace HT := Lib.hid (HT.out.turn ht HG7.out.2.1.symm HG7.out.2.2.1)
  replace HV := Lib.hid (HV.out.turn ht HG7.out.2.2.2.2)
  clear hx ht hwn
  refine Plan.wp_region_plan (fun w' => w'.cell? ⟨g7, 16, none⟩ = some (.int .i64 of) ∧ w'.cell? ⟨g7, 0, none⟩ = some (.int .i64 LL)) (([0, 1, 2, 3, 4, 5].map (·, true)) ++ (([6].map (·, false)) ++ (([7, 8].map (·, true)) ++ ([9].map (·, false))))) (by kernel_rfl) (by kernel_rfl) (by kernel_rfl) ⟨(HX.out.below (Below.refl _ _).drew).c.at0.2.2.2.2.2.2.2.2.2.2.2.2.2.2.2.2.1, (HX.out.below (Below.refl _ _).drew).c.at0.1⟩ ?_
  refine' Plan.plan_seg _ [0, 1, 2, 3, 4, 5] (([6].map (·, false)) ++ (([7, 8].map (·, true)) ++ ([9].map (·, false)))) (by kernel_rfl) (by kernel_rfl) rfl (by exact ⟨(HX.out.below (Below.refl _ _).drew).c.at0.2.2.2.2.2.2.2.2.2.2.2.2.2.2.2.2.1, (HX.out.below (Below.refl _ _).drew).c.at0.1⟩) (fun wx hS => ?_) ?_
  rotate_left
  ·obtain ⟨S1, S2⟩ := hS
   go_light
   iterate 6 (apply Plan.seg_pick; rfl; intro K hK; go_wp)
   exact Plan.seg_nil
  obtain ⟨wd, hwd⟩ : ∃ y, y = World.drew w9s := ⟨_, rfl⟩
  rw [← hwd]
  have hb : Below w9s.heap.size w9s wd := by rw [hwd]; exact (Below.refl _ _).drew
  replace HU := Lib.hid (HU.out.trans (Turn.of (g := p) (Nat.le_of_lt HT.out.2.1) hb))
  replace HV := Lib.hid (HV.out.below hb)
  replace HX := Lib.hid (HX.out.below hb)
  replace HT := Lib.hid (HT.out.below (Nat.le_trans HT.out.1 (Nat.le_of_lt HT.out.2.1)) hb)
  clear hb hwd
  refine Plan.plan_of_effect rfl (fun K hK => ?_)
  go_wp2_with fail
  refine (next_any B p (ksb + 1) 3 _ HT.out (by omega) (by omega) (by omega)).mono ?_
  rintro e w10 ⟨tt, rfl, tt0, tt1, hT_, hg_⟩
  have ht := Turn.grown hg_ HT.out.2.1
  clear hg_
  replace HU := Lib.hid (HU.out.trans ht)
  replace HV := Lib.hid (HV.out.turn ht HG.out.2.1)
  replace HX := Lib.hid (HX.out.turn ht HG7.out.2.1)
  replace HT := Lib.hid hT_
  clear hT_ ht
  go_wp2_with fail
  refine ⟨⟨HX.out.c.at0.2.2.2.2.2.2.2.2.2.2.2.2.2.2.2.2.1, HX.out.c.at0.1⟩, ?_⟩
  refine' Plan.plan_seg (S := (fun w' => w'.cell? ⟨g7, 16, none⟩ = some (.int .i64 of) ∧ w'.cell? ⟨g7, 0, none⟩ = some (.int .i64 LL))) _ [7, 8] ([9].map (·, false)) (by kernel_rfl) (by kernel_rfl) rfl (by exact ⟨HX.out.c.at0.2.2.2.2.2.2.2.2.2.2.2.2.2.2.2.2.1, HX.out.c.at0.1⟩) (fun wx hS => ?_) ?_
  rotate_left
  ·clear hS
   go_light
   iterate 2 (apply Plan.seg_pick; rfl; intro K hK; go_wp)
   exact Plan.seg_nil
  refine Plan.plan_of_effect rfl (fun K hK => ?_)
  have y1 := HX.out.c.k17
  simp only [Nat.zero_add] at y1
  have yf := HX.out.f
  go_wp2_with fail
  clear y1 yf
  have hx := HX.out.set_total (of + LL + tt)
  have ht := Turn.cell g7 17 (.int .i64 (of + LL + tt)) w10
  obtain ⟨w10s, hwn⟩ : ∃ y, y = World.setCell w10 ⟨g7, 17, none⟩ (.int .i64 (of + LL + tt)) := ⟨_, rfl⟩
  rw [← hwn] at hx ht ⊢
  replace HX := Lib.hid hx
  replace HU := Lib.hid (HU.out.into HG7.out.1 HG7.out.2.2.2.1 ht)
  replace HT := Lib.hid (HT.out.turn ht HG7.out.2.1.symm HG7.out.2.2.1)
  replace HV := Lib.hid (HV.out.turn ht HG7.out.2.2.2.2)
  clear hx ht hwn
  first | refine ⟨⟨HX.out.c.at0.2.2.2.2.2.2.2.2.2.2.2.2.2.2.2.2.1, HX.out.c.at0.1⟩, ?_⟩ | refine ⟨HX.out.c.at0.2.2.2.2.2.2.2.2.2.2.2.2.2.2.2.2.1, HX.out.c.at0.1, ?_⟩
  refine Plan.plan_done ?_
  have x1 := HX.out.c.k1
  simp only [Nat.zero_add] at x1
  go_upto_region 18 with fail
  clear x1
  apply wp_region_lit
  obtain ⟨CC, hCC⟩ : ∃ C, C = (clipC ⟨LL, 2, sa, sb, of, (of + LL + tt), 0, ByteArray.empty, 0, []⟩).toArray := ⟨_, rfl⟩
  have HCC := Lib.hid hCC
  clear hCC
  refine wpl_load HX.out.c rfl rfl rfl ?_
  rw [← HCC.out]
  simp only [Act.put, List.setIfInBounds_toArray, List.set_cons_succ, List.set_cons_zero]
  refine wpl_storeC ⟨LL, 2, sa, sb, of, (of + LL + tt), 0, ByteArray.empty, 0, []⟩ HV.out rfl rfl rfl (by rw [← HCC.out]; rfl) ?_
  have hv := HV.out.put ⟨LL, 2, sa, sb, of, (of + LL + tt), 0, ByteArray.empty, 0, []⟩
  have ht := Turn.cells g6 0 (clipC ⟨LL, 2, sa, sb, of, (of + LL + tt), 0, ByteArray.empty, 0, []⟩) w10s
  obtain ⟨wz, hwz⟩ : ∃ y, y = World.setCells w10s g6 0 (clipC ⟨LL, 2, sa, sb, of, (of + LL + tt), 0, ByteArray.empty, 0, []⟩) := ⟨_, rfl⟩
  rw [← hwz] at hv ht ⊢
  replace HU := Lib.hid (HU.out.into HG.out.1 HG.out.2.2.2 ht)
  replace HT := Lib.hid (HT.out.turn ht HG.out.2.1.symm HG.out.2.2.1)
  have HV9 := Lib.hid hv
  clear hv ht hwz HX HV
  simp only [Act.put, List.setIfInBounds_toArray, List.set_cons_succ, List.set_cons_zero]
  iterate 4 go_step
  refine bodyPost_ret (v := .agg CC) (by rw [HCC.out]; exact results_clip Tryz.results44 rfl HV9.out.c) rfl ⟨⟨_, by rw [HCC.out]; rfl, ?_⟩, TQ.of (by omega) HT.out HU.out⟩
  exact ⟨hL0, hL1, Hsa.out, Hsb.out, rfl, rfl, .inr (.inr (.inl ⟨rfl, rfl, rfl⟩)), fun _ => ⟨of0, by show of ≤ 2; omega, by show of + LL ≤ of + LL + tt; omega, by show of + LL + tt ≤ 20; omega⟩⟩
 ·have x1 := HX.out.c.k1
  simp only [Nat.zero_add] at x1
  go_wp2_with fail
  refine (source_any B p (k + 1 + 1) _ HT.out (by omega)).mono ?_
  clear x1
  rintro e w7 ⟨⟨sa, rfl, hsa⟩, ⟨ksa, hksa, hT_⟩, ht⟩
  replace HU := Lib.hid (HU.out.trans ht)
  replace HV := Lib.hid (HV.out.turn ht HG.out.2.1)
  replace HX := Lib.hid (HX.out.turn ht HG7.out.2.1)
  replace HT := Lib.hid hT_
  clear hT_ ht
  have Hsa := Lib.hid hsa
  clear hsa
  dsimp only
  iterate 4 go_step
  refine wpl_storeS sa none rfl (HX.out.thereS 2 (by decide)) rfl rfl rfl rfl ?_
  have hx := HX.out.seta sa
  have ht := Turn.cells g7 2 (srcC sa) w7
  obtain ⟨w7s, hwn⟩ : ∃ y, y = World.setCells w7 g7 2 (srcC sa) := ⟨_, rfl⟩
  rw [← hwn] at hx ht ⊢
  replace HX := Lib.hid hx
  replace HU := Lib.hid (HU.out.into HG7.out.1 HG7.out.2.2.2.1 ht)
  replace HT := Lib.hid (HT.out.turn ht HG7.out.2.1.symm HG7.out.2.2.1)
  replace HV := Lib.hid (HV.out.turn ht HG7.out.2.2.2.2)
  clear hx ht hwn
  simp only [Act.put, List.setIfInBounds_toArray, List.set_cons_succ, List.set_cons_zero]
  have x1 := HX.out.c.k1
  simp only [Nat.zero_add] at x1
  go_wp2_with fail
  refine (source_any B p ksa _ HT.out (by omega)).mono ?_
  clear x1
  rintro e w8 ⟨⟨sb, rfl, hsb⟩, ⟨ksb, hksb, hT_⟩, ht⟩
  replace HU := Lib.hid (HU.out.trans ht)
  replace HV := Lib.hid (HV.out.turn ht HG.out.2.1)
  replace HX := Lib.hid (HX.out.turn ht HG7.out.2.1)
  replace HT := Lib.hid hT_
  clear hT_ ht
  have Hsb := Lib.hid hsb
  clear hsb
  dsimp only
  iterate 4 go_step
  refine wpl_storeS sb none rfl (HX.out.thereS 9 (by decide)) rfl rfl rfl rfl ?_
  have hx := HX.out.setb sb
  have ht := Turn.cells g7 9 (srcC sb) w8
  obtain ⟨w8s, hwn⟩ : ∃ y, y = World.setCells w8 g7 9 (srcC sb) := ⟨_, rfl⟩
  rw [← hwn] at hx ht ⊢
  replace HX := Lib.hid hx
  replace HU := Lib.hid (HU.out.into HG7.out.1 HG7.out.2.2.2.1 ht)
  replace HT := Lib.hid (HT.out.turn ht HG7.out.2.1.symm HG7.out.2.2.1)
  replace HV := Lib.hid (HV.out.turn ht HG7.out.2.2.2.2)
  clear hx ht hwn
  simp only [Act.put, List.setIfInBounds_toArray, List.set_cons_succ, List.set_cons_zero]
  go_wp2_with fail
  refine (next_any B p ksb 3 _ HT.out (by omega) (by omega) (by omega)).mono ?_
  rintro e w9 ⟨of, rfl, of0, of1, hT_, hg_⟩
  have ht := Turn.grown hg_ HT.out.2.1
  clear hg_
  replace HU := Lib.hid (HU.out.trans ht)
  replace HV := Lib.hid (HV.out.turn ht HG.out.2.1)
  replace HX := Lib.hid (HX.out.turn ht HG7.out.2.1)
  replace HT := Lib.hid hT_
  clear hT_ ht
  have y1 := HX.out.c.k16
  simp only [Nat.zero_add] at y1
  have yf := HX.out.f
  go_upto_region 10 with fail
  clear y1 yf
  have hx := HX.out.set_off of
  have ht := Turn.cell g7 16 (.int .i64 of) w9
  obtain ⟨w9s, hwn⟩ : ∃ y, y = World.setCell w9 ⟨g7, 16, none⟩ (.int .i64 of) := ⟨_, rfl⟩
  rw [← hwn] at hx ht ⊢
  replace HX := Lib.hid hx
  replace HU := Lib.hid (HU.out.into HG7.out.1 HG7.out.2.2.2.1 ht)
  replace HT := Lib.hid (HT.out.turn ht HG7.out.2.1.symm HG7.out.2.2.1)
  replace HV := Lib.hid (HV.out.turn ht HG7.out.2.2.2.2)
  clear hx ht hwn
  refine Plan.wp_region_plan (fun w' => w'.cell? ⟨g7, 16, none⟩ = some (.int .i64 of) ∧ w'.cell? ⟨g7, 0, none⟩ = some (.int .i64 LL)) (([0, 1, 2, 3, 4, 5].map (·, true)) ++ (([6].map (·, false)) ++ (([7, 8].map (·, true)) ++ ([9].map (·, false))))) (by kernel_rfl) (by kernel_rfl) (by kernel_rfl) ⟨(HX.out.below (Below.refl _ _).drew).c.at0.2.2.2.2.2.2.2.2.2.2.2.2.2.2.2.2.1, (HX.out.below (Below.refl _ _).drew).c.at0.1⟩ ?_
  refine' Plan.plan_seg _ [0, 1, 2, 3, 4, 5] (([6].map (·, false)) ++ (([7, 8].map (·, true)) ++ ([9].map (·, false)))) (by kernel_rfl) (by kernel_rfl) rfl (by exact ⟨(HX.out.below (Below.refl _ _).drew).c.at0.2.2.2.2.2.2.2.2.2.2.2.2.2.2.2.2.1, (HX.out.below (Below.refl _ _).drew).c.at0.1⟩) (fun wx hS => ?_) ?_
  rotate_left
  ·obtain ⟨S1, S2⟩ := hS
   go_light
   iterate 6 (apply Plan.seg_pick; rfl; intro K hK; go_wp)
   exact Plan.seg_nil
  obtain ⟨wd, hwd⟩ : ∃ y, y = World.drew w9s := ⟨_, rfl⟩
  rw [← hwd]
  have hb : Below w9s.heap.size w9s wd := by rw [hwd]; exact (Below.refl _ _).drew
  replace HU := Lib.hid (HU.out.trans (Turn.of (g := p) (Nat.le_of_lt HT.out.2.1) hb))
  replace HV := Lib.hid (HV.out.below hb)
  replace HX := Lib.hid (HX.out.below hb)
  replace HT := Lib.hid (HT.out.below (Nat.le_trans HT.out.1 (Nat.le_of_lt HT.out.2.1)) hb)
  clear hb hwd
  refine Plan.plan_of_effect rfl (fun K hK => ?_)
  go_wp2_with fail
  refine (next_any B p (ksb + 1) 3 _ HT.out (by omega) (by omega) (by omega)).mono ?_
  rintro e w10 ⟨tt, rfl, tt0, tt1, hT_, hg_⟩
  have ht := Turn.grown hg_ HT.out.2.1
  clear hg_
  replace HU := Lib.hid (HU.out.trans ht)
  replace HV := Lib.hid (HV.out.turn ht HG.out.2.1)
  replace HX := Lib.hid (HX.out.turn ht HG7.out.2.1)
  replace HT := Lib.hid hT_
  clear hT_ ht
  go_wp2_with fail
  refine ⟨⟨HX.out.c.at0.2.2.2.2.2.2.2.2.2.2.2.2.2.2.2.2.1, HX.out.c.at0.1⟩, ?_⟩
  refine' Plan.plan_seg (S := (fun w' => w'.cell? ⟨g7, 16, none⟩ = some (.int .i64 of) ∧ w'.cell? ⟨g7, 0, none⟩ = some (.int .i64 LL))) _ [7, 8] ([9].map (·, false)) (by kernel_rfl) (by kernel_rfl) rfl (by exact ⟨HX.out.c.at0.2.2.2.2.2.2.2.2.2.2.2.2.2.2.2.2.1, HX.out.c.at0.1⟩) (fun wx hS => ?_) ?_
  rotate_left
  ·clear hS
   go_light
   iterate 2 (apply Plan.seg_pick; rfl; intro K hK; go_wp)
   exact Plan.seg_nil
  refine Plan.plan_of_effect rfl (fun K hK => ?_)
  have y1 := HX.out.c.k17
  simp only [Nat.zero_add] at y1
  have yf := HX.out.f
  go_wp2_with fail
  clear y1 yf
  have hx := HX.out.set_total (of + LL + tt)
  have ht := Turn.cell g7 17 (.int .i64 (of + LL + tt)) w10
  obtain ⟨w10s, hwn⟩ : ∃ y, y = World.setCell w10 ⟨g7, 17, none⟩ (.int .i64 (of + LL + tt)) := ⟨_, rfl⟩
  rw [← hwn] at hx ht ⊢
  replace HX := Lib.hid hx
  replace HU := Lib.hid (HU.out.into HG7.out.1 HG7.out.2.2.2.1 ht)
  replace HT := Lib.hid (HT.out.turn ht HG7.out.2.1.symm HG7.out.2.2.1)
  replace HV := Lib.hid (HV.out.turn ht HG7.out.2.2.2.2)
  clear hx ht hwn
  first | refine ⟨⟨HX.out.c.at0.2.2.2.2.2.2.2.2.2.2.2.2.2.2.2.2.1, HX.out.c.at0.1⟩, ?_⟩ | refine ⟨HX.out.c.at0.2.2.2.2.2.2.2.2.2.2.2.2.2.2.2.2.1, HX.out.c.at0.1, ?_⟩
  refine Plan.plan_done ?_
  have x1 := HX.out.c.k1
  simp only [Nat.zero_add] at x1
  go_wp2_with fail
  refine (next_any B p (ksb + 1 + 1) 4 _ HT.out (by omega) (by omega) (by omega)).mono ?_
  clear x1
  rintro e w11 ⟨pa, rfl, pa0, pa1, hT_, hg_⟩
  have ht := Turn.grown hg_ HT.out.2.1
  clear hg_
  replace HU := Lib.hid (HU.out.trans ht)
  replace HV := Lib.hid (HV.out.turn ht HG.out.2.1)
  replace HX := Lib.hid (HX.out.turn ht HG7.out.2.1)
  replace HT := Lib.hid hT_
  clear hT_ ht
  have y1 := HX.out.c.k18
  simp only [Nat.zero_add] at y1
  have yf := HX.out.f
  go_upto_region 18 with fail
  clear y1 yf
  have hx := HX.out.set_param pa
  have ht := Turn.cell g7 18 (.int .i64 pa) w11
  obtain ⟨w11s, hwn⟩ : ∃ y, y = World.setCell w11 ⟨g7, 18, none⟩ (.int .i64 pa) := ⟨_, rfl⟩
  rw [← hwn] at hx ht ⊢
  replace HX := Lib.hid hx
  replace HU := Lib.hid (HU.out.into HG7.out.1 HG7.out.2.2.2.1 ht)
  replace HT := Lib.hid (HT.out.turn ht HG7.out.2.1.symm HG7.out.2.2.1)
  replace HV := Lib.hid (HV.out.turn ht HG7.out.2.2.2.2)
  clear hx ht hwn
  apply wp_region_lit
  obtain ⟨CC, hCC⟩ : ∃ C, C = (clipC ⟨LL, 3, sa, sb, of, (of + LL + tt), pa, ByteArray.empty, 0, []⟩).toArray := ⟨_, rfl⟩
  have HCC := Lib.hid hCC
  clear hCC
  refine wpl_load HX.out.c rfl rfl rfl ?_
  rw [← HCC.out]
  simp only [Act.put, List.setIfInBounds_toArray, List.set_cons_succ, List.set_cons_zero]
  refine wpl_storeC ⟨LL, 3, sa, sb, of, (of + LL + tt), pa, ByteArray.empty, 0, []⟩ HV.out rfl rfl rfl (by rw [← HCC.out]; rfl) ?_
  have hv := HV.out.put ⟨LL, 3, sa, sb, of, (of + LL + tt), pa, ByteArray.empty, 0, []⟩
  have ht := Turn.cells g6 0 (clipC ⟨LL, 3, sa, sb, of, (of + LL + tt), pa, ByteArray.empty, 0, []⟩) w11s
  obtain ⟨wz, hwz⟩ : ∃ y, y = World.setCells w11s g6 0 (clipC ⟨LL, 3, sa, sb, of, (of + LL + tt), pa, ByteArray.empty, 0, []⟩) := ⟨_, rfl⟩
  rw [← hwz] at hv ht ⊢
  replace HU := Lib.hid (HU.out.into HG.out.1 HG.out.2.2.2 ht)
  replace HT := Lib.hid (HT.out.turn ht HG.out.2.1.symm HG.out.2.2.1)
  have HV9 := Lib.hid hv
  clear hv ht hwz HX HV
  simp only [Act.put, List.setIfInBounds_toArray, List.set_cons_succ, List.set_cons_zero]
  iterate 4 go_step
  refine bodyPost_ret (v := .agg CC) (by rw [HCC.out]; exact results_clip Tryz.results44 rfl HV9.out.c) rfl ⟨⟨_, by rw [HCC.out]; rfl, ?_⟩, TQ.of (by omega) HT.out HU.out⟩
  exact ⟨hL0, hL1, Hsa.out, Hsb.out, rfl, rfl, .inr (.inr (.inr (.inl ⟨rfl, pa0, by show pa ≤ 3; omega, rfl⟩))), fun _ => ⟨of0, by show of ≤ 2; omega, by show of + LL ≤ of + LL + tt; omega, by show of + LL + tt ≤ 20; omega⟩⟩
 ·have x1 := HX.out.c.k1
  simp only [Nat.zero_add] at x1
  go_wp2_with fail
  refine (source_any B p (k + 1 + 1) _ HT.out (by omega)).mono ?_
  clear x1
  rintro e w7 ⟨⟨sa, rfl, hsa⟩, ⟨ksa, hksa, hT_⟩, ht⟩
  replace HU := Lib.hid (HU.out.trans ht)
  replace HV := Lib.hid (HV.out.turn ht HG.out.2.1)
  replace HX := Lib.hid (HX.out.turn ht HG7.out.2.1)
  replace HT := Lib.hid hT_
  clear hT_ ht
  have Hsa := Lib.hid hsa
  clear hsa
  dsimp only
  iterate 4 go_step
  refine wpl_storeS sa none rfl (HX.out.thereS 2 (by decide)) rfl rfl rfl rfl ?_
  have hx := HX.out.seta sa
  have ht := Turn.cells g7 2 (srcC sa) w7
  obtain ⟨w7s, hwn⟩ : ∃ y, y = World.setCells w7 g7 2 (srcC sa) := ⟨_, rfl⟩
  rw [← hwn] at hx ht ⊢
  replace HX := Lib.hid hx
  replace HU := Lib.hid (HU.out.into HG7.out.1 HG7.out.2.2.2.1 ht)
  replace HT := Lib.hid (HT.out.turn ht HG7.out.2.1.symm HG7.out.2.2.1)
  replace HV := Lib.hid (HV.out.turn ht HG7.out.2.2.2.2)
  clear hx ht hwn
  simp only [Act.put, List.setIfInBounds_toArray, List.set_cons_succ, List.set_cons_zero]
  have x1 := HX.out.c.k1
  simp only [Nat.zero_add] at x1
  go_wp2_with fail
  refine (source_any B p ksa _ HT.out (by omega)).mono ?_
  clear x1
  rintro e w8 ⟨⟨sb, rfl, hsb⟩, ⟨ksb, hksb, hT_⟩, ht⟩
  replace HU := Lib.hid (HU.out.trans ht)
  replace HV := Lib.hid (HV.out.turn ht HG.out.2.1)
  replace HX := Lib.hid (HX.out.turn ht HG7.out.2.1)
  replace HT := Lib.hid hT_
  clear hT_ ht
  have Hsb := Lib.hid hsb
  clear hsb
  dsimp only
  iterate 4 go_step
  refine wpl_storeS sb none rfl (HX.out.thereS 9 (by decide)) rfl rfl rfl rfl ?_
  have hx := HX.out.setb sb
  have ht := Turn.cells g7 9 (srcC sb) w8
  obtain ⟨w8s, hwn⟩ : ∃ y, y = World.setCells w8 g7 9 (srcC sb) := ⟨_, rfl⟩
  rw [← hwn] at hx ht ⊢
  replace HX := Lib.hid hx
  replace HU := Lib.hid (HU.out.into HG7.out.1 HG7.out.2.2.2.1 ht)
  replace HT := Lib.hid (HT.out.turn ht HG7.out.2.1.symm HG7.out.2.2.1)
  replace HV := Lib.hid (HV.out.turn ht HG7.out.2.2.2.2)
  clear hx ht hwn
  simp only [Act.put, List.setIfInBounds_toArray, List.set_cons_succ, List.set_cons_zero]
  go_wp2_with fail
  refine (next_any B p ksb 256 _ HT.out (by omega) (by omega) (by omega)).mono ?_
  rintro e w9 ⟨pa, rfl, pa0, pa1, hT_, hg_⟩
  have ht := Turn.grown hg_ HT.out.2.1
  clear hg_
  replace HU := Lib.hid (HU.out.trans ht)
  replace HV := Lib.hid (HV.out.turn ht HG.out.2.1)
  replace HX := Lib.hid (HX.out.turn ht HG7.out.2.1)
  replace HT := Lib.hid hT_
  clear hT_ ht
  have y1 := HX.out.c.k18
  simp only [Nat.zero_add] at y1
  have yf := HX.out.f
  go_upto_region 18 with fail
  clear y1 yf
  have hx := HX.out.set_param pa
  have ht := Turn.cell g7 18 (.int .i64 pa) w9
  obtain ⟨w9s, hwn⟩ : ∃ y, y = World.setCell w9 ⟨g7, 18, none⟩ (.int .i64 pa) := ⟨_, rfl⟩
  rw [← hwn] at hx ht ⊢
  replace HX := Lib.hid hx
  replace HU := Lib.hid (HU.out.into HG7.out.1 HG7.out.2.2.2.1 ht)
  replace HT := Lib.hid (HT.out.turn ht HG7.out.2.1.symm HG7.out.2.2.1)
  replace HV := Lib.hid (HV.out.turn ht HG7.out.2.2.2.2)
  clear hx ht hwn
  apply wp_region_lit
  obtain ⟨CC, hCC⟩ : ∃ C, C = (clipC ⟨LL, 4, sa, sb, 0, 0, pa, ByteArray.empty, 0, []⟩).toArray := ⟨_, rfl⟩
  have HCC := Lib.hid hCC
  clear hCC
  refine wpl_load HX.out.c rfl rfl rfl ?_
  rw [← HCC.out]
  simp only [Act.put, List.setIfInBounds_toArray, List.set_cons_succ, List.set_cons_zero]
  refine wpl_storeC ⟨LL, 4, sa, sb, 0, 0, pa, ByteArray.empty, 0, []⟩ HV.out rfl rfl rfl (by rw [← HCC.out]; rfl) ?_
  have hv := HV.out.put ⟨LL, 4, sa, sb, 0, 0, pa, ByteArray.empty, 0, []⟩
  have ht := Turn.cells g6 0 (clipC ⟨LL, 4, sa, sb, 0, 0, pa, ByteArray.empty, 0, []⟩) w9s
  obtain ⟨wz, hwz⟩ : ∃ y, y = World.setCells w9s g6 0 (clipC ⟨LL, 4, sa, sb, 0, 0, pa, ByteArray.empty, 0, []⟩) := ⟨_, rfl⟩
  rw [← hwz] at hv ht ⊢
  replace HU := Lib.hid (HU.out.into HG.out.1 HG.out.2.2.2 ht)
  replace HT := Lib.hid (HT.out.turn ht HG.out.2.1.symm HG.out.2.2.1)
  have HV9 := Lib.hid hv
  clear hv ht hwz HX HV
  simp only [Act.put, List.setIfInBounds_toArray, List.set_cons_succ, List.set_cons_zero]
  iterate 4 go_step
  refine bodyPost_ret (v := .agg CC) (by rw [HCC.out]; exact results_clip Tryz.results44 rfl HV9.out.c) rfl ⟨⟨_, by rw [HCC.out]; rfl, ?_⟩, TQ.of (by omega) HT.out HU.out⟩
  exact ⟨hL0, hL1, Hsa.out, Hsb.out, rfl, rfl, .inr (.inr (.inr (.inr (.inl ⟨rfl, rfl, rfl, pa0, by show pa ≤ 255; omega, rfl⟩)))), fun h => by simp [Trk.shares] at h⟩
 ·have x1 := HX.out.c.k1
  simp only [Nat.zero_add] at x1
  go_wp2_with fail
  refine (source_any B p (k + 1 + 1) _ HT.out (by omega)).mono ?_
  clear x1
  rintro e w7 ⟨⟨sa, rfl, hsa⟩, ⟨ksa, hksa, hT_⟩, ht⟩
  replace HU := Lib.hid (HU.out.trans ht)
  replace HV := Lib.hid (HV.out.turn ht HG.out.2.1)
  replace HX := Lib.hid (HX.out.turn ht HG7.out.2.1)
  replace HT := Lib.hid hT_
  clear hT_ ht
  have Hsa := Lib.hid hsa
  clear hsa
  dsimp only
  iterate 4 go_step
  refine wpl_storeS sa none rfl (HX.out.thereS 2 (by decide)) rfl rfl rfl rfl ?_
  have hx := HX.out.seta sa
  have ht := Turn.cells g7 2 (srcC sa) w7
  obtain ⟨w7s, hwn⟩ : ∃ y, y = World.setCells w7 g7 2 (srcC sa) := ⟨_, rfl⟩
  rw [← hwn] at hx ht ⊢
  replace HX := Lib.hid hx
  replace HU := Lib.hid (HU.out.into HG7.out.1 HG7.out.2.2.2.1 ht)
  replace HT := Lib.hid (HT.out.turn ht HG7.out.2.1.symm HG7.out.2.2.1)
  replace HV := Lib.hid (HV.out.turn ht HG7.out.2.2.2.2)
  clear hx ht hwn
  simp only [Act.put, List.setIfInBounds_toArray, List.set_cons_succ, List.set_cons_zero]
  have x1 := HX.out.c.k1
  simp only [Nat.zero_add] at x1
  go_upto_region 17 with fail
  clear x1
  apply wp_region_lit
  refine Great.wpList_buildSliceTo rfl 107 9 4 #[(0, .const (.string ⟨#[65]⟩)), (1, .const (.string ⟨#[82, 69, 69, 76, 32, 55]⟩)), (2, .const (.string ⟨#[116, 104, 101, 32, 101, 110, 100, 46]⟩)), (3, .const (.string ⟨#[49, 50, 58, 51, 48]⟩))] rfl _ rfl (some 66) rfl Tryz.underlying107 textTab ?_ ?_
  ·kernel_rfl
  obtain ⟨w8, hw8⟩ : ∃ y, y = w7s.alloc (.cells textTab 9) := ⟨_, rfl⟩
  obtain ⟨gt, hgt⟩ : ∃ y, y = w7s.heap.size := ⟨_, rfl⟩
  have hb : Below w7s.heap.size w7s w8 := by rw [hw8]; exact below_box _ _
  have HTX := Lib.hid (show w8.heap[gt]? = some (.cells textTab 9 (0, 0)) by rw [hw8, hgt]; exact (MapKept.heap_alloc w7s _).1)
  have HGT := Lib.hid (show gt ≠ p by have := HT.out.2.1; omega)
  rw [← hw8, ← hgt]
  replace HU := Lib.hid (HU.out.trans (Turn.of (g := p) (Nat.le_of_lt HT.out.2.1) hb))
  replace HV := Lib.hid (HV.out.below hb)
  replace HX := Lib.hid (HX.out.below hb)
  replace HT := Lib.hid (HT.out.below (Nat.le_trans HT.out.1 (Nat.le_of_lt HT.out.2.1)) hb)
  clear hw8 hgt hb
  simp only [Act.put, List.setIfInBounds_toArray, List.set_cons_succ, List.set_cons_zero]
  go_wp2_with fail
  refine (next_any B p ksa 4 _ HT.out (by omega) (by omega) (by omega)).mono ?_
  rintro e w9 ⟨ti, rfl, ti0, ti1, hT_, hg_⟩
  have ht := Turn.grown hg_ HT.out.2.1
  replace HTX := Lib.hid ((ht.o gt (Array.getElem?_eq_some_iff.1 HTX.out).1 HGT.out).trans HTX.out)
  obtain ⟨ti, rfl⟩ : ∃ n : Nat, ti = n := ⟨ti.toNat, by omega⟩
  clear hg_
  replace HU := Lib.hid (HU.out.trans ht)
  replace HV := Lib.hid (HV.out.turn ht HG.out.2.1)
  replace HX := Lib.hid (HX.out.turn ht HG7.out.2.1)
  replace HT := Lib.hid hT_
  clear hT_ ht
  obtain ⟨tx, y2, htx⟩ := text_get HTX.out (show ti < 4 by omega)
  have HLN := Lib.hid htx
  clear htx
  have y1 := HX.out.c.k19
  simp only [Nat.zero_add] at y1
  have yf := HX.out.f
  go_upto_region 18 with fail
  clear y1 yf y2
  have hx := HX.out.set_text tx
  have ht := Turn.cell g7 19 (.string tx) w9
  obtain ⟨w9s, hwn⟩ : ∃ y, y = World.setCell w9 ⟨g7, 19, none⟩ (.string tx) := ⟨_, rfl⟩
  rw [← hwn] at hx ht ⊢
  replace HX := Lib.hid hx
  replace HU := Lib.hid (HU.out.into HG7.out.1 HG7.out.2.2.2.1 ht)
  replace HT := Lib.hid (HT.out.turn ht HG7.out.2.1.symm HG7.out.2.2.1)
  replace HV := Lib.hid (HV.out.turn ht HG7.out.2.2.2.2)
  clear hx ht hwn
  apply wp_region_lit
  obtain ⟨CC, hCC⟩ : ∃ C, C = (clipC ⟨LL, 5, sa, Trk.black, 0, 0, 0, tx, 0, []⟩).toArray := ⟨_, rfl⟩
  have HCC := Lib.hid hCC
  clear hCC
  refine wpl_load HX.out.c rfl rfl rfl ?_
  rw [← HCC.out]
  simp only [Act.put, List.setIfInBounds_toArray, List.set_cons_succ, List.set_cons_zero]
  refine wpl_storeC ⟨LL, 5, sa, Trk.black, 0, 0, 0, tx, 0, []⟩ HV.out rfl rfl rfl (by rw [← HCC.out]; rfl) ?_
  have hv := HV.out.put ⟨LL, 5, sa, Trk.black, 0, 0, 0, tx, 0, []⟩
  have ht := Turn.cells g6 0 (clipC ⟨LL, 5, sa, Trk.black, 0, 0, 0, tx, 0, []⟩) w9s
  obtain ⟨wz, hwz⟩ : ∃ y, y = World.setCells w9s g6 0 (clipC ⟨LL, 5, sa, Trk.black, 0, 0, 0, tx, 0, []⟩) := ⟨_, rfl⟩
  rw [← hwz] at hv ht ⊢
  replace HU := Lib.hid (HU.out.into HG.out.1 HG.out.2.2.2 ht)
  replace HT := Lib.hid (HT.out.turn ht HG.out.2.1.symm HG.out.2.2.1)
  have HV9 := Lib.hid hv
  clear hv ht hwz HX HV
  simp only [Act.put, List.setIfInBounds_toArray, List.set_cons_succ, List.set_cons_zero]
  iterate 4 go_step
  refine bodyPost_ret (v := .agg CC) (by rw [HCC.out]; exact results_clip Tryz.results44 rfl HV9.out.c) rfl ⟨⟨_, by rw [HCC.out]; rfl, ?_⟩, TQ.of (by omega) HT.out HU.out⟩
  exact ⟨hL0, hL1, Hsa.out, .inl rfl, rfl, rfl, .inr (.inr (.inr (.inr (.inr ⟨rfl, rfl, rfl, rfl, rfl, HLN.out⟩)))), fun h => by simp [Trk.shares] at h⟩
def Short (c : Trk.Clip) : Prop := Trk.VC 1000000 c ∧ c.len ≤ 9 ∧ c.a.name.size ≠ 1
theorem TapeS.nz {s : Trk.Src} (h : TapeS s) : s.name.size ≠ 1 := by
 rcases h with rfl | h
 ·show (0 : Nat) ≠ 1; decide
 ·exact h.2.2.2.2.2.2.2
theorem TapeC.short {c : Trk.Clip} (h : TapeC c) : Short c := ⟨h.vc, h.l1, h.a.nz⟩
theorem half_short {c : Trk.Clip} {m : Int} (h : TapeC c) (m0 : 1 ≤ m) (m1 : m ≤ 4) (k2 : c.kind ≠ 2) (k3 : c.kind ≠ 3) (s0 : c.a.sn = 1) (s1 : c.a.sd = 1) (hb : c.b = Trk.black) :
  Short { c with len := m, a := { c.a with an := c.a.an + c.len * c.a.ad } } := by
 have l0 := h.l0
 have l1 := h.l1
 have hsh : Trk.shares c.kind = false := by unfold Trk.shares; simp [k2, k3]
 rcases h.a with e | ⟨h1, h2, h3, h4, h5, h6, h7⟩
 ·rw [e] at s0
  exact absurd s0 (by decide)
 ·have g := h1.g
  have hv : Trk.svel c.a = 6006 := by unfold Trk.svel; rw [s0, s1]; rfl
  have hp : Trk.spos { c.a with an := c.a.an + c.len * c.a.ad } = Trk.spos c.a + c.len * 6006 := by
   show (c.a.an + c.len * c.a.ad) * (6006 / c.a.ad) = c.a.an * (6006 / c.a.ad) + c.len * 6006
   have e := Int.mul_ediv_cancel' h1.a
   rw [Int.add_mul, Int.mul_assoc, e]
  have hv2 : Trk.svel { c.a with an := c.a.an + c.len * c.a.ad } = 6006 := hv
  have hg : Trk.Good { c.a with an := c.a.an + c.len * c.a.ad } := by
   refine ⟨g.k, g.a0, ?_, g.s0, g.s1⟩
   have e1 : Int.gcd (c.a.an + c.len * c.a.ad) c.a.ad = Int.gcd c.a.an c.a.ad := by rw [Int.gcd_add_mul_right_left]
   have e2 : ∀ n d : Int, 1 ≤ d → n.natAbs.gcd d.toNat = Int.gcd n d := fun n d hd => by
    show n.natAbs.gcd d.toNat = n.natAbs.gcd d.natAbs
    congr 1
    omega
   show (c.a.an + c.len * c.a.ad).natAbs.gcd c.a.ad.toNat = 1
   rw [e2 _ _ g.a0, e1, ← e2 _ _ g.a0]
   exact g.a1
  refine ⟨⟨⟨.inr ⟨⟨hg, h1.a, h1.s⟩, h2, h3, by rw [hv2]; decide, by rw [hv2]; decide, by rw [hp]; omega, by rw [hp]; omega, ?_, ?_⟩, tape_in h.b (show 0 ≤ m by omega) (show m ≤ 32 by omega), h.ch, h.gn, ?_⟩, m0, show m ≤ 2147483647 by omega, fun hs => ?_⟩, show m ≤ 9 by omega, h.a.nz⟩
  ·rw [hp, hv2]; show _ ≤ _ + m * 6006; omega
  ·rw [hp, hv2]; show _ + m * 6006 ≤ _; omega
  ·have k := h.kd
   unfold Trk.KindOK at k ⊢
   rcases k with ⟨k0, ka, _⟩ | k | k | k | k | k
   ·exact absurd (h2) (by rw [ka]; decide)
   ·exact .inr (.inl k)
   ·exact .inr (.inr (.inl k))
   ·exact .inr (.inr (.inr (.inl k)))
   ·exact .inr (.inr (.inr (.inr (.inl k))))
   ·exact .inr (.inr (.inr (.inr (.inr k))))
  ·have hs' : Trk.shares c.kind = true := hs
   rw [hsh] at hs'
   cases hs'
theorem CV.set_an {w : World} {b : Nat} {c : Trk.Clip} (h : CV w b c) (v : Int) : CV (w.setCell ⟨b, 4, none⟩ (.int .i64 v)) b { c with a := { c.a with an := v } } := by
 obtain ⟨h0, f⟩ := h
 obtain ⟨x0, x1, x2, x3, x4, x5, x6, x7, x8, x9, x10, x11, x12, x13, x14, x15, x16, x17, x18, x19, x20, x21⟩ := h0.at0
 exact ⟨by constructor <;> simp [go_sem, x0, x1, x2, x3, x4, x5, x6, x7, x8, x9, x10, x11, x12, x13, x14, x15, x16, x17, x18, x19, x20, x21], fun o => (World.frozen?_setCell _ _ _ _).trans (f o)⟩
theorem Turn.low {w w1 w2 : World} {p : Nat} (h : Turn p w w1) (hp : p < w.heap.size) (hb : Below w.heap.size w1 w2) : Turn p w w2 :=
 ⟨Nat.le_trans h.s hb.size, fun b hbw hn => (hb.block b hbw).trans (h.o b hbw hn), fun n w0 hn hbb => (h.b n w0 hn hbb).trans (hb.mono (by omega))⟩
theorem TP.low {w w' : World} {B p k n : Nat} (h : TP w B p k) (hB : B ≤ n) (hp : p < n) (hb : Below n w w') : TP w' B p k := by
 obtain ⟨h1, h2, ao, m, c, c0, c1, hf, h3, h4, h5⟩ := h
 refine ⟨h1, Nat.lt_of_lt_of_le h2 hb.size, ao, m, c, (hb.cell hp).trans c0, (hb.cell hp).trans c1, (hb.frozen (p := ⟨p, 1, none⟩) hp).trans hf, h3, h4, fun i hi => ?_⟩
 obtain ⟨b, o, x, e, hbB, hc⟩ := h5 i hi
 exact ⟨b, o, x, e, hbB, (hb.cell (Nat.lt_of_lt_of_le hbB hB)).trans hc⟩
theorem OT.turn {w w' : World} {B p : Nat} {v : Value} {l : List Trk.Clip} (h : OT w B v l) (ht : Turn p w w') (hp : p < B) : OT w' B v l :=
 h.blocks fun g kk cp e => ht.o g (h.blk e).2 (by have := (h.blk e).1; omega)
def ShortL (l : List Trk.Clip) : Prop := ∀ c ∈ l, Short c
theorem ShortL.snoc {l : List Trk.Clip} {c : Trk.Clip} (h : ShortL l) (hc : Short c) : ShortL (l ++ [c]) := fun x hx => by
 rcases List.mem_append.1 hx with hx | hx
 ·exact h x hx
 ·simp at hx; subst hx; exact hc
def TrackPost (w : World) (B p k j n : Nat) (e : Ending) (w' : World) : Prop := (∃ v l, e = .returned v ∧ OT w' w.heap.size v l ∧ ShortL l ∧ l.length ≤ n) ∧ TQ w B p k j w'
set_option maxRecDepth 100000 in
set_option maxHeartbeats 16000000 in
theorem track_any (B p k m : Nat) (w : World) (ht : TP w B p k) (hk : k < 500000) (hm : m ≤ 20) :
  Calls Tryz.prog 43 #[.pointer (some ⟨p, 0, none⟩), .int .i64 3, .int .i64 2, .int .i64 (m : Int)] w (TrackPost w B p k (1 + m * 30) (2 * m)) := by
 have HT := Lib.hid ht
 have hB := ht.1
 have hp := ht.2.1
 clear ht
 go_enter Tryz.func43, Tryz.ntmps43
 go_wp2_with fail
 refine (next_any B p k ((m : Int) + 1) _ HT.out (by omega) (by omega) (by omega)).mono ?_
 rintro e w1 ⟨r, rfl, r0, r1, hT_, hg_⟩
 obtain ⟨r, rfl⟩ : ∃ n : Nat, r = n := ⟨r.toNat, by omega⟩
 have HU := Lib.hid (Turn.grown hg_ HT.out.2.1)
 replace HT := Lib.hid hT_
 have hrm : r ≤ m := by omega
 clear hT_ hg_ r0 r1
 go_wp2_with fail
 go_loopw [9, 10] (fun v9 v10 wr => ∃ (j k' : Nat) (l : List Trk.Clip), j ≤ r ∧ v10 = .int .i64 (j : Int) ∧ OT wr w.heap.size v9 l ∧ Hid (ShortL l) ∧ l.length + 2 * j ≤ 2 * r ∧ k' + j * 30 ≤ k + 1 + r * 30 ∧ TP wr B p k' ∧ Turn p w wr) (fun _ i _ => (intOf i).toNat)
 case atStart => exact ⟨r, k + 1, [], Nat.le_refl _, rfl, OT.nil _ _, Lib.hid (fun c hc => by cases hc), by simp, by omega, HT.out, HU.out⟩
 case round =>
  clear HT HU
  obtain ⟨j, k', l, hj, rfl, ho, HSL, hlen, hk', ht, hu⟩ := hrel
  have HO := Lib.hid ho
  have HT := Lib.hid ht
  have HU := Lib.hid hu
  clear ho ht hu
  by_cases hj0 : 0 < j
  ·have hj0' : (0 : Int) < (j : Int) := by omega
   go_wp2_with fail
   refine (clip_any B p k' _ HT.out (by omega)).mono ?_
   rintro e w2 ⟨⟨c, rfl, hc⟩, ⟨k2, hk2, hT_⟩, ht⟩
   replace HU := Lib.hid (HU.out.trans ht)
   replace HO := Lib.hid (HO.out.turn ht hp)
   replace HT := Lib.hid hT_
   have HC := Lib.hid hc
   clear hT_ ht hc
   unfold clipV
   obtain ⟨C, hC⟩ : ∃ C, C = (clipC c).toArray := ⟨_, rfl⟩
   rw [← hC]
   have HCC := Lib.hid hC
   clear hC
   dsimp only
   iterate 1 go_step
   refine wpl_alloc rfl rfl (fun w3 hg hb2 hs2 => ?_)
   obtain ⟨g11, hg11⟩ : ∃ y, y = w2.heap.size := ⟨_, rfl⟩
   rw [← hg11] at hg ⊢
   have HNO := Lib.hid (show ∀ g kk cp, u9 = .slice (some ⟨g, 0, none⟩) kk cp → g < g11 from fun g kk cp e => by rw [hg11]; exact (HO.out.blk e).2)
   have HG := Lib.hid (show w.heap.size ≤ g11 ∧ g11 ≠ p by have h1 := HT.out.2.1; have h2 := HU.out.s; omega)
   replace HO := Lib.hid (HO.out.below hb2)
   replace HU := Lib.hid (HU.out.low hp (hb2.mono HU.out.s))
   replace HT := Lib.hid (HT.out.below (Nat.le_trans HT.out.1 (Nat.le_of_lt HT.out.2.1)) hb2)
   clear hb2 hs2
   simp only [Act.put, List.setIfInBounds_toArray, List.set_cons_succ, List.set_cons_zero]
   refine wpl_storeC c hg rfl rfl rfl (by rw [← HCC.out]; rfl) ?_
   have hv := hg.put c
   have ht := Turn.cells g11 0 (clipC c) w3
   have hb3 : Below w.heap.size w3 (w3.setCells g11 0 (clipC c)) := ht.b _ _ HG.out.1 (Below.refl _ _)
   obtain ⟨w4, hw4⟩ : ∃ y, y = w3.setCells g11 0 (clipC c) := ⟨_, rfl⟩
   rw [← hw4] at hv ht hb3 ⊢
   have HX := Lib.hid hv
   replace HO := Lib.hid (HO.out.blocks (fun g kk cp e => ht.o g (by have := HNO.out g kk cp e; have := hg.lt; omega) (by have := HNO.out g kk cp e; omega)))
   replace HU := Lib.hid (HU.out.low hp hb3)
   replace HT := Lib.hid (HT.out.low (show B ≤ w.heap.size by omega) hp hb3)
   clear hv ht hw4 hg hg11 hb3
   simp only [Act.put, List.setIfInBounds_toArray, List.set_cons_succ, List.set_cons_zero]
   go_upto_region 6 with fail
   apply wp_region_lit
   iterate 3 go_step
   refine wpl_load HX.out.c rfl rfl rfl ?_
   rw [← HCC.out]
   simp only [Act.put, List.setIfInBounds_toArray, List.set_cons_succ, List.set_cons_zero]
   refine Great.wpList_buildSliceTo rfl 23 48 1 #[(0, .tmp 27)] rfl w4.heap.size rfl _ rfl Tryz.underlying23 C ?_ ?_
   ·simp only [List.map_toArray, List.map_cons, List.map_nil, List.toList_toArray]
    rw [HCC.out]
    exact built_clip c
   have hbx : CA (w4.alloc (.cells C 48)) w4.heap.size 0 c := by rw [HCC.out]; exact CA.box w4 c 48
   have hb : Below w4.heap.size w4 (w4.alloc (.cells C 48)) := below_box _ _
   have hsz : w.heap.size ≤ (w4.alloc (.cells C 48)).heap.size := Nat.le_trans HU.out.s hb.size
   replace HO := Lib.hid (HO.out.below hb)
   have HBX := Lib.hid hb
   clear hb
   simp only [Act.put, List.setIfInBounds_toArray, List.set_cons_succ, List.set_cons_zero]
   refine wpList_appT 23 Tryz.underlying23 _ rfl (.tmp 26) (.tmp 28) rfl rfl w.heap.size u9 l rfl HO.out hsz w4.heap.size 1 c rfl hbx (by have := hlen; simp; omega) ?_
   intro vn w5 r1 r2 r3 r4
   simp only [Act.put, List.setIfInBounds_toArray, List.set_cons_succ, List.set_cons_zero]
   have hbl : Below w.heap.size w4 w5 := (HBX.out.mono HU.out.s).trans r2
   replace HX := Lib.hid (HX.out.same ((r3 g11 (Nat.lt_of_lt_of_le HX.out.lt HBX.out.size) (fun g cp e => by have := HNO.out g _ cp e; omega)).trans (HBX.out.block g11 HX.out.lt)))
   replace HO := Lib.hid r1
   replace HU := Lib.hid (HU.out.low hp hbl)
   replace HT := Lib.hid (HT.out.low (show B ≤ w.heap.size by omega) hp hbl)
   clear r1 r2 r3 r4 hbl hbx hsz HBX HNO
   go_wp2_with fail
   refine (next_any B p k2 4 _ HT.out (by omega) (by omega) (by omega)).mono ?_
   rintro e w6 ⟨q, rfl, q0, q1, hT_, hg_⟩
   have ht := Turn.grown hg_ HT.out.2.1
   replace HU := Lib.hid (HU.out.trans ht)
   replace HO := Lib.hid (HO.out.turn ht hp)
   replace HX := Lib.hid (HX.out.turn ht HG.out.2)
   replace HT := Lib.hid hT_
   clear hT_ hg_ ht
   obtain ⟨va, vc, rfl⟩ : ∃ va vc, vn = .slice va (l.length + 1) vc := by
    obtain ⟨ao, cp, e, _⟩ := HO.out.tk
    rw [List.length_append] at e
    exact ⟨ao, cp, e⟩
   obtain ⟨N, hN⟩ : ∃ N, N = l.length := ⟨_, rfl⟩
   rw [← hN] at HO hlen ⊢
   have HNL := Lib.hid hN
   clear hN
   have hN64 : ((N : Int) + 1) < 64 := by omega
   by_cases hq0 : q = 0
   ·subst hq0
    go_upto_region 9 with fail
    apply wp_region_lit
    refine wpl_load HX.out.c rfl rfl rfl ?_
    rw [← HCC.out]
    refine wpl_alloc rfl rfl (fun w7 hg hb2 hs2 => ?_)
    obtain ⟨g13, hg13⟩ : ∃ y, y = w6.heap.size := ⟨_, rfl⟩
    rw [← hg13] at hg ⊢
    have HNO := Lib.hid (show ∀ g kk cp, Value.slice va (N + 1) vc = .slice (some ⟨g, 0, none⟩) kk cp → g < g13 from fun g kk cp e => by rw [hg13]; exact (HO.out.blk e).2)
    have HG3 := Lib.hid (show w.heap.size ≤ g13 ∧ g13 ≠ p ∧ g11 ≠ g13 by have h1 := HT.out.2.1; have h2 := HU.out.s; have h3 := HX.out.lt; omega)
    replace HO := Lib.hid (HO.out.below hb2)
    replace HX := Lib.hid (HX.out.below hb2)
    replace HU := Lib.hid (HU.out.low hp (hb2.mono HU.out.s))
    replace HT := Lib.hid (HT.out.below (Nat.le_trans HT.out.1 (Nat.le_of_lt HT.out.2.1)) hb2)
    clear hb2 hs2
    simp only [Act.put, List.setIfInBounds_toArray, List.set_cons_succ, List.set_cons_zero]
    refine wpl_storeC c hg rfl rfl rfl (by rw [← HCC.out]; rfl) ?_
    have hv := hg.put c
    have ht := Turn.cells g13 0 (clipC c) w7
    have hb3 : Below w.heap.size w7 (w7.setCells g13 0 (clipC c)) := ht.b _ _ HG3.out.1 (Below.refl _ _)
    obtain ⟨w8, hw8⟩ : ∃ y, y = w7.setCells g13 0 (clipC c) := ⟨_, rfl⟩
    rw [← hw8] at hv ht hb3 ⊢
    have HY := Lib.hid hv
    replace HO := Lib.hid (HO.out.blocks (fun g kk cp e => ht.o g (by have := HNO.out g kk cp e; have := hg.lt; omega) (by have := HNO.out g kk cp e; omega)))
    replace HX := Lib.hid (HX.out.turn ht HG3.out.2.2)
    replace HU := Lib.hid (HU.out.low hp hb3)
    replace HT := Lib.hid (HT.out.low (show B ≤ w.heap.size by omega) hp hb3)
    clear hv ht hw8 hg hg13 hb3
    simp only [Act.put, List.setIfInBounds_toArray, List.set_cons_succ, List.set_cons_zero]
    go_wp2_with fail
    refine (next_any B p (k2 + 1) 4 _ HT.out (by omega) (by omega) (by omega)).mono ?_
    rintro e w9 ⟨i, rfl, i0, i1, hT_, hg_⟩
    have ht := Turn.grown hg_ HT.out.2.1
    replace HU := Lib.hid (HU.out.trans ht)
    replace HO := Lib.hid (HO.out.turn ht hp)
    replace HX := Lib.hid (HX.out.turn ht HG.out.2)
    replace HY := Lib.hid (HY.out.turn ht HG3.out.2.1)
    replace HT := Lib.hid hT_
    clear hT_ hg_ ht
    have y1 := HY.out.c.k0
    have yf := HY.out.f
    go_upto_region 11 with fail
    clear y1 yf
    obtain ⟨ml, hml⟩ : ∃ y, y = 1 + i := ⟨_, rfl⟩
    rw [← hml]
    have hml0 : 1 ≤ ml := by omega
    have hml1 : ml ≤ 4 := by omega
    clear hml i0 i1
    have hv := HY.out.set_len ml
    have ht := Turn.cell g13 0 (.int .i64 ml) w9
    have hb3 : Below w.heap.size w9 (w9.setCell ⟨g13, 0, none⟩ (.int .i64 ml)) := ht.b _ _ HG3.out.1 (Below.refl _ _)
    obtain ⟨w10, hw10⟩ : ∃ y, y = w9.setCell ⟨g13, 0, none⟩ (.int .i64 ml) := ⟨_, rfl⟩
    rw [← hw10] at hv ht hb3 ⊢
    replace HO := Lib.hid (HO.out.blocks (fun g kk cp e => ht.o g (HO.out.blk e).2 (by have := HNO.out g kk cp e; omega)))
    replace HX := Lib.hid (HX.out.turn ht HG3.out.2.2)
    replace HY := Lib.hid hv
    replace HU := Lib.hid (HU.out.low hp hb3)
    replace HT := Lib.hid (HT.out.low (show B ≤ w.heap.size by omega) hp hb3)
    clear hv ht hw10 hb3
    go_cut [64] from 44 to 83 (fun v64 wx => ∃ tb : Bool, v64 = .bool tb ∧ Hid (tb = true → c.kind ≠ 2 ∧ c.kind ≠ 3 ∧ c.a.sn = 1 ∧ c.a.sd = 1 ∧ c.b = Trk.black) ∧ wx = w10)
    case first =>
     obtain ⟨_, x1, _, _, _, _, x6, x7, _, x9, x10, x11, x12, x13, x14, x15, _⟩ := HX.out.c.at0
     have hbk : c.b = Trk.black ∨ c.b.kind = 1 ∨ c.b.kind = 2 := by rcases HC.out.b with h | h; exact .inl h; exact .inr h.2.1
     have HBK := Lib.hid hbk
     clear hbk
     obtain ⟨kd, hkd⟩ : ∃ y, y = c.kind := ⟨_, rfl⟩
     obtain ⟨sn, hsn⟩ : ∃ y, y = c.a.sn := ⟨_, rfl⟩
     obtain ⟨sd, hsd⟩ : ∃ y, y = c.a.sd := ⟨_, rfl⟩
     rw [← hkd] at x1
     rw [← hsn] at x6
     rw [← hsd] at x7
     have HEQ := Lib.hid (And.intro hkd (And.intro hsn hsd))
     clear hkd hsn hsd
     by_cases k2' : kd = 2
     ·have f2 : (kd != 2) = false := by simp [k2']
      clear k2'
      go_wp2_with fail
      all_goals go_meet
      all_goals exact ⟨_, rfl, Lib.hid (fun h => by cases h), rfl⟩
     have f2 : (kd != 2) = true := by simp [k2']
     by_cases k3' : kd = 3
     ·have f3 : (kd != 3) = false := by simp [k3']
      clear k2' k3'
      go_wp2_with fail
      all_goals go_meet
      all_goals exact ⟨_, rfl, Lib.hid (fun h => by cases h), rfl⟩
     have f3 : (kd != 3) = true := by simp [k3']
     have HKK := Lib.hid (And.intro k2' k3')
     clear k2' k3'
     by_cases s1 : sn = 1
     ·by_cases s2 : sd = 1
      ·have HSS := Lib.hid (And.intro s1 s2)
       subst s1
       subst s2
       rcases HBK.out with hb | hb
       ·rw [hb] at x9 x10 x11 x12 x13 x14 x15
        simp only [Trk.black, show (ByteArray.empty : ByteArray) = ⟨#[]⟩ from rfl] at x9 x10 x11 x12 x13 x14 x15
        have HBB := Lib.hid hb
        clear hb
        go_wp2_with fail
        all_goals go_meet
        all_goals exact ⟨_, rfl, Lib.hid (fun h => ⟨by rw [← HEQ.out.1]; exact HKK.out.1, by rw [← HEQ.out.1]; exact HKK.out.2, HEQ.out.2.1.symm, HEQ.out.2.2.symm, HBB.out⟩), rfl⟩
       ·obtain ⟨bk, hbk⟩ : ∃ y, y = c.b.kind := ⟨_, rfl⟩
        rw [← hbk] at x9 hb
        have hb0 : (bk == 0) = false := by rcases hb with h | h <;> simp [h]
        have hb1 : ¬ bk = 0 := by simpa using hb0
        clear hb hbk
        go_wp2_with fail
        all_goals go_meet
        all_goals exact ⟨_, rfl, Lib.hid (fun h => by first | cases h | (simp at h)), rfl⟩
      ·have g2 : (sd == 1) = false := by simpa using s2
       go_wp2_with fail
       all_goals go_meet
       all_goals exact ⟨_, rfl, Lib.hid (fun h => by first | cases h | (simp at h)), rfl⟩
     ·have g1 : (sn == 1) = false := by simpa using s1
      go_wp2_with fail
      all_goals go_meet
      all_goals exact ⟨_, rfl, Lib.hid (fun h => by first | cases h | (simp at h)), rfl⟩
    obtain ⟨tb, rfl, HTB, rfl⟩ := hcut
    cases tb
    ·go_wp2_with fail
     go_roundw
     case rel => exact ⟨j - 1, k2 + 1 + 1, l ++ [c], by omega, by congr 1; omega, HO.out, Lib.hid (HSL.out.snoc HC.out.short), by rw [List.length_append, ← HNL.out]; show N + 1 + 2 * (j - 1) ≤ _; omega, by omega, HT.out, HU.out⟩
     case measure =>
      show ((j : Int) - 1).toNat < ((j : Int)).toNat
      omega
    ·obtain ⟨c2, c3, cs, cd, cb⟩ := HTB.out rfl
     have HHS := Lib.hid (half_short HC.out hml0 hml1 c2 c3 cs cd cb)
     have hml9 := HC.out.l1
     have hml8 := HC.out.l0
     have han : 0 ≤ c.a.an ∧ c.a.an ≤ 1000000 ∧ 0 ≤ c.a.ad ∧ c.a.ad ≤ 6006 := by
      rcases tape_in HC.out.a (show (0 : Int) ≤ 1 by decide) (by decide) with e | h
      ·rw [e] at cs; exact absurd cs (by decide)
      ·have h1 := h.nums
       have h2 : 0 ≤ c.a.an := by
        rcases HC.out.a with e | ⟨g1, _, _, _, _, g6, _⟩
        ·rw [e] at cs; exact absurd cs (by decide)
        ·unfold Trk.spos at g6
         have hq : 0 < 6006 / c.a.ad := Int.ediv_pos_of_pos_of_dvd (by decide) (by omega) g1.a
         rcases Int.lt_or_le c.a.an 0 with hn | hn
         ·have := Int.mul_neg_of_neg_of_pos hn hq
          omega
         ·exact hn
       omega
     obtain ⟨ha0, ha1, ha2, ha3⟩ := han
     have hmu := Trk.mul_bound0 (d := c.len) (D := 9) (v := c.a.ad) (V := 6006) (by omega) (by omega) (by omega) ha3
     obtain ⟨hmu0, hmu1⟩ := hmu
     have y0 := HX.out.c.k0
     have z4 := HY.out.c.k4
     have z5 := HY.out.c.k5
     simp only [Nat.zero_add] at z4 z5
     have yf := HY.out.f
     have c4 : ({ c with len := ml } : Trk.Clip).a.an = c.a.an := rfl
     have c5 : ({ c with len := ml } : Trk.Clip).a.ad = c.a.ad := rfl
     rw [c4] at z4
     rw [c5] at z5
     clear c2 c3 cs cd cb c4 c5
     go_upto_region 13 with fail
     clear y0 z4 z5 yf
     have hv := HY.out.set_an (c.a.an + c.len * c.a.ad)
     have ht := Turn.cell g13 4 (.int .i64 (c.a.an + c.len * c.a.ad)) wc
     have hb3 : Below w.heap.size wc (wc.setCell ⟨g13, 4, none⟩ (.int .i64 (c.a.an + c.len * c.a.ad))) := ht.b _ _ HG3.out.1 (Below.refl _ _)
     obtain ⟨w11, hw11⟩ : ∃ y, y = wc.setCell ⟨g13, 4, none⟩ (.int .i64 (c.a.an + c.len * c.a.ad)) := ⟨_, rfl⟩
     rw [← hw11] at hv ht hb3 ⊢
     replace HO := Lib.hid (HO.out.blocks (fun g kk cp e => ht.o g (HO.out.blk e).2 (by have := HNO.out g kk cp e; omega)))
     replace HY := Lib.hid hv
     replace HU := Lib.hid (HU.out.low hp hb3)
     replace HT := Lib.hid (HT.out.low (show B ≤ w.heap.size by omega) hp hb3)
     clear hv ht hw11 hb3 hmu0 hmu1 ha0 ha1 ha2 ha3 HX HCC
     obtain ⟨dd, hdd⟩ : ∃ dd : Trk.Clip, dd = { c with len := ml, a := { c.a with an := c.a.an + c.len * c.a.ad } } := ⟨_, rfl⟩
     replace HY := Lib.hid (show CV w11 g13 dd by rw [hdd]; exact HY.out)
     rw [← hdd] at HHS
     clear hdd
     obtain ⟨E, hE⟩ : ∃ C, C = (clipC dd).toArray := ⟨_, rfl⟩
     have HEE := Lib.hid hE
     clear hE
     apply wp_region_lit
     iterate 3 go_step
     refine wpl_load HY.out.c rfl rfl rfl ?_
     rw [← HEE.out]
     simp only [Act.put, List.setIfInBounds_toArray, List.set_cons_succ, List.set_cons_zero]
     refine Great.wpList_buildSliceTo rfl 23 48 1 #[(0, .tmp 81)] rfl w11.heap.size rfl _ rfl Tryz.underlying23 E ?_ ?_
     ·simp only [List.map_toArray, List.map_cons, List.map_nil, List.toList_toArray]
      rw [HEE.out]
      exact built_clip dd
     have hbx : CA (w11.alloc (.cells E 48)) w11.heap.size 0 dd := by rw [HEE.out]; exact CA.box w11 dd 48
     have hb : Below w11.heap.size w11 (w11.alloc (.cells E 48)) := below_box _ _
     have hsz : w.heap.size ≤ (w11.alloc (.cells E 48)).heap.size := Nat.le_trans HU.out.s hb.size
     replace HO := Lib.hid (HO.out.below hb)
     have HBX := Lib.hid hb
     clear hb
     simp only [Act.put, List.setIfInBounds_toArray, List.set_cons_succ, List.set_cons_zero]
     refine wpList_appT 23 Tryz.underlying23 _ rfl (.tmp 80) (.tmp 82) rfl rfl w.heap.size (.slice va (N + 1) vc) (l ++ [c]) rfl HO.out hsz w11.heap.size 1 dd rfl hbx (by have := hlen; have := HNL.out; simp; omega) ?_
     intro vm w12 r1 r2 r3 r4
     simp only [Act.put, List.setIfInBounds_toArray, List.set_cons_succ, List.set_cons_zero]
     have hbl : Below w.heap.size w11 w12 := (HBX.out.mono HU.out.s).trans r2
     replace HO := Lib.hid r1
     replace HU := Lib.hid (HU.out.low hp hbl)
     replace HT := Lib.hid (HT.out.low (show B ≤ w.heap.size by omega) hp hbl)
     clear r1 r2 r3 r4 hbl hbx hsz HBX HNO
     go_wp2_with fail
     go_roundw
     case rel => exact ⟨j - 1, k2 + 1 + 1, l ++ [c] ++ [dd], by omega, by congr 1; omega, HO.out, Lib.hid ((HSL.out.snoc HC.out.short).snoc HHS.out), by rw [List.length_append, List.length_append, ← HNL.out]; show N + 1 + 1 + 2 * (j - 1) ≤ _; omega, by omega, HT.out, HU.out⟩
     case measure =>
      show ((j : Int) - 1).toNat < ((j : Int)).toNat
      omega
   ·have hqb : (q == 0) = false := by simpa using hq0
    go_wp2_with fail
    go_roundw
    case rel => exact ⟨j - 1, k2 + 1, l ++ [c], by omega, by congr 1; omega, HO.out, Lib.hid (HSL.out.snoc HC.out.short), by rw [List.length_append, ← HNL.out]; show N + 1 + 2 * (j - 1) ≤ _; omega, by omega, HT.out, HU.out⟩
    case measure =>
     show ((j : Int) - 1).toNat < ((j : Int)).toNat
     omega
  ·have hj1 : j = 0 := by omega
   subst hj1
   go_wp2_with fail
   go_ret
   exact ⟨⟨_, l, rfl, HO.out, HSL.out, by omega⟩, ⟨k', by omega, HT.out⟩, HU.out⟩
def Ints (w : World) (v : Value) : Prop := ∃ ao n c, v = .slice ao n c ∧ n ≤ c ∧ n ≤ 9223372036854775807 ∧ ∀ i, i < n → ∃ b o x, ao = some ⟨b, o, none⟩ ∧ w.cell? ⟨b, o + i, none⟩ = some (.int .i64 x)
structure Made (t : List Trk.Clip) : Prop where
 v : Trk.VL 1000000 t
 n : Trk.Norm t
 l : t.length ≤ 13
 tt : Trk.total t ≤ 117
 ne : t ≠ []
theorem Made.vt {t : List Trk.Clip} (h : Made t) : VT 1000000 t := ⟨h.v, by have := h.l; omega, by have := h.tt; omega⟩
theorem short_total : ∀ {l : List Trk.Clip}, ShortL l → Trk.total l ≤ 9 * l.length
 | [], _ => by show (0 : Int) ≤ _; simp
 | c :: l, h => by
  have ih := short_total (l := l) fun x hx => h x (List.mem_cons_of_mem _ hx)
  have hc := (h c List.mem_cons_self).2.1
  rw [Trk.total_cons, List.length_cons]
  omega
theorem nf_vt {L : Int} {t : List Trk.Clip} (h : VT L t) : VT L (Trk.nf t) :=
 ⟨Trk.nf_vl h.v (by have := h.t; omega), Nat.le_trans (Trk.nf_length h.v.good) h.n, Int.le_trans (Trk.nf_total h.v.good) h.t⟩
theorem exl_vl {L : Int} {n : List Trk.Clip} {e : Trk.Ed} (hV : VT L n) (hE : ExV L e) (hee : (if e.k = 1 then max e.p (Trk.total n) else e.p) + e.T ≤ 2147483647) :
  Trk.VL L (e.exl n) ∧ Trk.total (e.exl n) ≤ 2147483647 ∧ (e.exl n).length ≤ n.length + 1 + 1 + 64 + (n.length + 1) := by
 have hx := hE.x
 have o := hx.of hV.v.good
 have pt := hx.put_total
 have tn := Trk.total_nonneg hV.v.good
 have hp := hx.p
 have hr := hx.rem_nonneg
 have h1 := hV.t
 have ht := hx.t
 have hrem : e.rem = if e.k = 1 then 0 else e.T := rfl
 refine ⟨?_, ?_, ?_⟩
 ·show Trk.VL L (Trk.exL n e.p e.rem e.put)
  unfold Trk.exL
  refine ((((Trk.cut_vl hV.v (Int.le_refl 0) (by omega) (by omega)).append (Trk.gapL_vl (by have := hE.p; omega))).append ?_).append (Trk.aft_vl hV.v (by omega) h1))
  show Trk.VL L (if e.k = 4 then [Trk.gap e.m] else e.ins)
  split
  ·rename_i h4
   have hT : e.T = e.m := by unfold Trk.Ed.T; rw [if_neg (by omega)]
   exact Trk.VL.cons (Trk.gap_vc (by omega) (by have := hE.t; omega)) Trk.VL.nil
  ·exact hE.v.v
 ·rw [o.t, pt, hrem]
  by_cases k1 : e.k = 1
  ·rw [if_pos k1] at hee ⊢
   rw [if_neg (by omega)]
   omega
  ·rw [if_neg k1] at hee ⊢
   have := hE.p
   split <;> omega
 ·have h2 := o.n
  have h3 : e.put.length ≤ 64 := by
   show (if e.k = 4 then [Trk.gap e.m] else e.ins).length ≤ 64
   split
   ·simp
   ·exact hE.v.n
  omega
theorem apply_x {L : Int} (v u : Value) (t : List Trk.Clip) (e : Trk.Ed) (w : World) (h : Tk w v t) (hu : Tk w u e.ins) (hV : VT L t) (hE : ExV L e) (hL : L ≤ 140737488355328) (hn : (Trk.nf t).length ≤ 63)
  (hee : (if e.k = 1 then max e.p (Trk.total (Trk.nf t)) else e.p) + e.T ≤ 2147483647) (hl : (Trk.nf (e.exl (Trk.nf t))).length ≤ 64) :
  Calls Tryz.prog 45 #[v, EdV e u] w (EdPost w (Trk.nf t) (Trk.nf (e.exl (Trk.nf t))) e.p (e.p + e.T) (Trk.undoK e.k)) := by
 have hx := exl_vl (nf_vt hV) hE hee
 refine (apply_exch (M := L) v u t (e.exl (Trk.nf t)) e.k e.p e.m e.c e.d e.sn e.sd e.p (e.p + e.T) (Trk.undoK e.k) 0 true w h e.ins hu hV hL hE.x.k (fun w' hu' => valid_ex u e w' hu' hE hL)
  (fun _ w' vn hn' hu' => (ex_any vn u (Trk.nf t) e w' hn' hu' (nf_vt hV) hE.v hL hn hE.x hee).mono fun _ _ h => .inl ⟨rfl, h⟩) (fun _ => ⟨hx.1, hx.2.1, by omega, hl⟩) hL (by decide)).mono ?_
 rintro ev w' (⟨_, _, h⟩ | ⟨h, _⟩)
 ·exact h
 ·rcases h with h | h
  ·cases h
  ·exact absurd rfl h
theorem take_ne {α : Type} {l m : List α} {k : Nat} {c d : α} (hc : l[k]? = some c) (hd : m[k]? = some d) (h : c ≠ d) : l ≠ m := fun e => by
 subst e
 rw [hc] at hd
 exact h (by simpa using hd)
theorem take_eq {α : Type} {l m : List α} {k : Nat} {c : α} (hc : l[k]? = some c) (hd : m[k]? = some c) (h : l.take k = m.take k) : l.take (k + 1) = m.take (k + 1) := by
 rw [List.take_add_one, List.take_add_one, h, hc, hd]
set_option maxRecDepth 100000 in
set_option maxHeartbeats 8000000 in
theorem eqfunc_any (v u : Value) (l m : List Trk.Clip) (w : World) (h : Tk w v l) (h' : Tk w u m) (hl : ∀ c ∈ l, c.chan = []) (hm : ∀ c ∈ m, c.chan = []) :
  Calls Tryz.prog 65 #[v, u, .func (.func 66) #[] #[]] w fun e w' => e = .returned (.bool (decide (l = m))) ∧ Below w.heap.size w w' := by
 have HT := Lib.hid h
 have HU := Lib.hid h'
 obtain ⟨ao, cap, rfl, hc1, hc2, -⟩ := h
 obtain ⟨bo, dap, rfl, hd1, hd2, -⟩ := h'
 have HL := Lib.hid hl
 have HM := Lib.hid hm
 obtain ⟨N, hN⟩ : ∃ N, N = l.length := ⟨_, rfl⟩
 obtain ⟨M, hM⟩ : ∃ M, M = m.length := ⟨_, rfl⟩
 have hNm : N ≤ 9223372036854775807 := by unfold maxLen at hc2; omega
 have hMm : M ≤ 9223372036854775807 := by unfold maxLen at hd2; omega
 rw [← hN, ← hM]
 rw [← hN] at HT
 rw [← hM] at HU
 have HN := Lib.hid hN
 have HMM := Lib.hid hM
 clear hl hm hN hM hc1 hc2 hd1 hd2
 by_cases hlen : N = M
 rotate_left
 ·have hne : decide (l = m) = false := decide_eq_false fun e => hlen (by rw [HN.out, HMM.out, e])
  rw [hne]
  have z1 : ((N : Int) == (M : Int)) = false := by simp; omega
  have z2 : ((N : Int) != (M : Int)) = true := by simp; omega
  have z3 : ¬ ((N : Int) = (M : Int)) := by omega
  go_enter Tryz.func65, Tryz.ntmps65
  go_wp2_with fail
  go_ret
  exact ⟨rfl, Below.refl _ _⟩
 subst hlen
 obtain ⟨r, hr⟩ : ∃ r, r = decide (l = m) := ⟨_, rfl⟩
 have HR := Lib.hid hr
 rw [← hr]
 clear hr
 go_enter Tryz.func65, Tryz.ntmps65
 go_upto_region 4 with fail
 go_loopw [17] (fun i wr => ∃ k : Nat, k ≤ N ∧ i = .int .i64 (k : Int) ∧ l.take k = m.take k ∧ Below w.heap.size w wr) (fun i _ => N - (intOf i).toNat)
 case atStart => exact ⟨0, Nat.zero_le _, rfl, by simp, Below.refl _ _⟩
 case round =>
  obtain ⟨k, hk, rfl, hpre, hb⟩ := hrel
  have HP := Lib.hid hpre
  have HB := Lib.hid hb
  clear hpre hb
  by_cases hlt : k < N
  ·have hlt' : (k : Int) < (N : Int) := by omega
   obtain ⟨c, hc⟩ : ∃ c, l[k]? = some c := ⟨_, List.getElem?_eq_getElem (by have := HN.out; omega)⟩
   obtain ⟨d, hd⟩ : ∃ d, m[k]? = some d := ⟨_, List.getElem?_eq_getElem (by have := HMM.out; omega)⟩
   obtain ⟨ao', cap', e, _, _, hT⟩ := HT.out.below HB.out
   have e1 := HN.out
   simp only [Value.slice.injEq] at e
   obtain ⟨rfl, -, rfl⟩ := e
   obtain ⟨b, o, rfl, hA⟩ := hT k c hc
   obtain ⟨bo', dap', e, _, _, hU⟩ := HU.out.below HB.out
   simp only [Value.slice.injEq] at e
   obtain ⟨rfl, -, rfl⟩ := e
   obtain ⟨b2, o2, rfl, hA2⟩ := hU k d hd
   have HA := Lib.hid hA
   have HA2 := Lib.hid hA2
   have HQ := Lib.hid (And.intro hc hd)
   have HEQ := Lib.hid (fun w => equal_any c d w (HL.out c (List.mem_of_getElem? hc)) (HM.out d (List.mem_of_getElem? hd)))
   unfold clipV at HEQ
   obtain ⟨C, hC⟩ : ∃ C, C = (clipC c).toArray := ⟨_, rfl⟩
   obtain ⟨D, hD⟩ : ∃ D, D = (clipC d).toArray := ⟨_, rfl⟩
   rw [← hC, ← hD] at HEQ
   have HC := Lib.hid hC
   have HD := Lib.hid hD
   clear hT hU hA hA2 hc hd e1 hC hD
   go_upto_region 5 with fail
   apply wp_region_lit
   iterate 6 go_step
   refine wpl_load HA.out rfl rfl rfl ?_
   rw [← HC.out]
   refine wpl_alloc rfl rfl (fun w3 hcv hb3 hs3 => ?_)
   iterate 3 go_step
   refine wpl_store c hcv rfl rfl rfl (by rw [← HC.out]; rfl) ?_
   intro w4 hv4 ho4 hb4
   have hb : Below wr.heap.size wr w4 := hb4 _ _ (Nat.le_refl _) hb3
   have HV8 := Lib.hid hv4
   obtain ⟨g8, hg8⟩ : ∃ y, y = wr.heap.size := ⟨_, rfl⟩
   rw [← hg8] at HV8 ⊢
   have HA4 := Lib.hid (HA2.out.below hb)
   have HB4 := Lib.hid (HB.out.trans (hb.mono HB.out.size))
   clear hcv hb3 hs3 hv4 ho4 hb4 hb hg8 HA HA2 HB
   simp only [Act.put, List.setIfInBounds_toArray, List.set_cons_succ, List.set_cons_zero]
   go_upto_region 6 with fail
   apply wp_region_lit
   iterate 9 go_step
   refine wpl_load HA4.out rfl rfl rfl ?_
   rw [← HD.out]
   refine wpl_alloc rfl rfl (fun w5 hcv hb3 hs3 => ?_)
   refine wpl_store d hcv rfl rfl rfl (by rw [← HD.out]; rfl) ?_
   intro w6 hv6 ho6 hb6
   have hb : Below w4.heap.size w4 w6 := hb6 _ _ (Nat.le_refl _) hb3
   have HV9 := Lib.hid hv6
   obtain ⟨g9, hg9⟩ : ∃ y, y = w4.heap.size := ⟨_, rfl⟩
   rw [← hg9] at HV9 ⊢
   replace HV8 := Lib.hid (HV8.out.below hb)
   have HB6 := Lib.hid (HB4.out.trans (hb.mono HB4.out.size))
   clear hcv hb3 hs3 hv6 ho6 hb6 hb hg9 HA4 HB4
   simp only [Act.put, List.setIfInBounds_toArray, List.set_cons_succ, List.set_cons_zero]
   go_upto_region 7 with fail
   apply wp_region_lit
   iterate 3 go_step
   refine wpl_load HV8.out.c rfl rfl rfl ?_
   rw [← HC.out]
   refine wpl_load HV9.out.c rfl rfl rfl ?_
   rw [← HD.out]
   simp only [Act.put, List.setIfInBounds_toArray, List.set_cons_succ, List.set_cons_zero]
   go_wp2_with fail
   refine (HEQ.out w6).mono ?_
   rintro e w7 ⟨rfl, hb⟩
   have HB7 := Lib.hid (HB6.out.trans (hb.mono HB6.out.size))
   clear hb HV8 HV9 HB6
   by_cases hcd : c = d
   ·have hdec : decide (c = d) = true := decide_eq_true hcd
    have HCD := Lib.hid hcd
    clear hcd
    rw [hdec]
    go_wp2_with fail
    go_roundw
    case rel => exact ⟨k + 1, by omega, by simp, take_eq HQ.out.1 (by rw [HQ.out.2, HCD.out]) HP.out, HB7.out⟩
    case measure =>
     simp [intOf]
     omega
   ·have hdec : decide (c = d) = false := decide_eq_false hcd
    rw [hdec]
    have hrf : r = false := by rw [HR.out]; exact decide_eq_false (take_ne HQ.out.1 HQ.out.2 hcd)
    subst hrf
    clear hcd
    go_wp2_with fail
    go_ret
    exact ⟨rfl, HB7.out⟩
  ·have hkn : k = N := by omega
   have hrt : r = true := by
    rw [HR.out]
    refine decide_eq_true ?_
    have h1 := HP.out
    rw [List.take_of_length_le (by have := HN.out; omega), List.take_of_length_le (by have := HMM.out; omega)] at h1
    exact h1
   subst hrt
   go_wp2_with fail
   go_ret
   exact ⟨rfl, HB.out⟩
theorem vt_chan {L : Int} {l : List Trk.Clip} (h : Trk.VL L l) : ∀ c ∈ l, c.chan = [] := fun c hc => (h c hc).c.ch
set_option maxRecDepth 100000 in
set_option maxHeartbeats 8000000 in
theorem same_any {L : Int} (v u : Value) (l m : List Trk.Clip) (w : World) (h : Tk w v l) (h' : Tk w u m) (hl : VT L l) (hm : VT L m) (hL : L ≤ 140737488355328) :
  Calls Tryz.prog 29 #[v, u] w fun e w' => e = .returned (.bool (decide (Trk.nf l = Trk.nf m))) ∧ Below w.heap.size w w' := by
 have HT := Lib.hid h
 have HU := Lib.hid h'
 have HV1 := Lib.hid (fun (w : World) (h : Tk w v l) => vtrack_any v l w h hl hL)
 have HV2 := Lib.hid (fun (w : World) (h : Tk w u m) => vtrack_any u m w h hm hL)
 have HN1 := Lib.hid (fun (w : World) (h : Tk w v l) => normal_any v l w h hl hL)
 have HN2 := Lib.hid (fun (w : World) (h : Tk w u m) => normal_any u m w h hm hL)
 have HEQ := Lib.hid (fun (a b : Value) (w : World) (h : Tk w a (Trk.nf l)) (h' : Tk w b (Trk.nf m)) => eqfunc_any a b _ _ w h h' (vt_chan (nf_vt hl).v) (vt_chan (nf_vt hm).v))
 obtain ⟨ao, cap, rfl, -⟩ := h
 obtain ⟨bo, dap, rfl, -⟩ := h'
 clear hl hm
 go_enter Tryz.func29, Tryz.ntmps29
 go_wp2_with fail
 refine (HV1.out w HT.out).mono ?_
 rintro e w1 ⟨rfl, hb⟩
 have HB := Lib.hid hb
 clear hb
 go_wp2_with fail
 refine (HV2.out w1 (HU.out.below HB.out)).mono ?_
 rintro e w2 ⟨rfl, hb⟩
 replace HB := Lib.hid (HB.out.trans (hb.mono HB.out.size))
 clear hb
 go_wp2_with fail
 refine (HN1.out w2 (HT.out.below HB.out)).mono ?_
 rintro e w3 ⟨r1, rfl, ho, hb⟩
 replace HB := Lib.hid (HB.out.trans (hb.mono HB.out.size))
 have HO := Lib.hid ho.tk
 clear hb ho
 go_wp2_with fail
 refine (HN2.out w3 (HU.out.below HB.out)).mono ?_
 rintro e w4 ⟨r2, rfl, ho, hb⟩
 replace HB := Lib.hid (HB.out.trans (hb.mono HB.out.size))
 replace HO := Lib.hid (HO.out.below hb)
 have HO2 := Lib.hid ho.tk
 clear hb ho
 go_wp2_with fail
 refine (HEQ.out r1 r2 w4 HO.out HO2.out).mono ?_
 rintro e w5 ⟨rfl, hb⟩
 replace HB := Lib.hid (HB.out.trans (hb.mono HB.out.size))
 clear hb
 go_wp2_with fail
 go_ret
 exact ⟨rfl, HB.out⟩
theorem OT.chan {w : World} {B g cap kk : Nat} {l : List Trk.Clip} {i : Nat} {x : Trk.Clip} (h : OT w B (.slice (some ⟨g, 0, none⟩) kk cap) l) (hx : l[i]? = some x) : OT (w.setCell ⟨g, i * 22 + 21, none⟩ (.slice none 0 0)) B (.slice (some ⟨g, 0, none⟩) kk cap) l := by
 have h1 := h.range (i := i) (j := 21) (x := x) (x' := x) (vs := [.slice none 0 0]) hx (by decide) rfl
 have e : l.set i x = l := by
  refine List.ext_getElem? (fun j => ?_)
  rw [List.getElem?_set]
  split
  ·rename_i e
   subst e
   split
   ·exact hx.symm
   ·rename_i hn
    exact absurd (List.getElem?_eq_some_iff.1 hx).1 hn
  ·rfl
 rw [e] at h1
 exact h1
set_option maxRecDepth 100000 in
set_option maxHeartbeats 8000000 in
theorem clonetrack_any (v : Value) (l : List Trk.Clip) (w : World) (h : Tk w v l) (hl : l.length ≤ 1048576) : Calls Tryz.prog 48 #[v] w (OTPost w l) := by
 have HT := Lib.hid h
 obtain ⟨ao, cap, rfl, -⟩ := h
 obtain ⟨N, hN⟩ : ∃ N, N = l.length := ⟨_, rfl⟩
 rw [← hN] at HT hl ⊢
 have HN := Lib.hid hN
 clear hN
 go_enter Tryz.func48, Tryz.ntmps48
 go_wp2_with fail
 refine (clonel_any _ l w HT.out (by rw [← HN.out]; exact hl)).mono ?_
 rintro e w1 ⟨r, rfl, ho, hb⟩
 have HO := Lib.hid ho
 have HB := Lib.hid hb
 obtain ⟨ra, rc, rfl, -⟩ := ho.tk
 rw [← HN.out] at HO ⊢
 clear ho hb
 go_upto_region 3 with fail
 go_loopw [9] (fun i wr => ∃ k : Nat, k ≤ N ∧ i = .int .i64 (k : Int) ∧ OT wr w.heap.size (.slice ra N rc) l ∧ Below w.heap.size w wr) (fun i _ => N - (intOf i).toNat)
 case atStart => exact ⟨0, Nat.zero_le _, rfl, HO.out, HB.out⟩
 case round =>
  obtain ⟨k, hk, rfl, ho, hb⟩ := hrel
  have HOK := Lib.hid ho
  have HBK := Lib.hid hb
  clear ho hb
  by_cases hlt : k < N
  ·have hlt' : (k : Int) < (N : Int) := by omega
   obtain ⟨c, hc⟩ : ∃ c, l[k]? = some c := ⟨_, List.getElem?_eq_getElem (by have := HN.out; omega)⟩
   rcases HOK.out.shape with ⟨-, e⟩ | ⟨g, cp, e⟩
   ·have := HN.out
    rw [e] at this
    simp only [List.length_nil] at this
    omega
   simp only [Value.slice.injEq] at e
   obtain ⟨rfl, -, rfl⟩ := e
   have k21 := (HOK.out.own.2.2.2 k c hc).k21
   have kf := HOK.out.frozen (k * 22 + 21)
   have HC := Lib.hid hc
   clear hc
   go_upto_region 5 with fail
   go_wp2_with fail
   refine (clone_nil wr).mono ?_
   rintro e w2 ⟨rfl, rfl⟩
   have HO2 := Lib.hid (HOK.out.chan HC.out)
   have HB2 := Lib.hid (HBK.out.setCell (p := ⟨g, k * 22 + 21, none⟩) HOK.out.own.1 (.slice none 0 0))
   go_wp2_with fail
   go_roundw
   case rel => exact ⟨k + 1, by omega, by simp, HO2.out, HB2.out⟩
   case measure =>
    simp [intOf]
    omega
  ·have hkn : k = N := by omega
   go_wp2_with fail
   go_ret
   exact ⟨_, rfl, HOK.out, HBK.out⟩
def shortL (n a b : List Trk.Clip) : List Trk.Clip := if Trk.nf b = Trk.nf n ∨ Trk.nf b = Trk.nf a then Trk.nf a else Trk.nf b
set_option maxRecDepth 100000 in
set_option maxHeartbeats 8000000 in
theorem merge_short {L : Int} (vn va vb : Value) (n a b : List Trk.Clip) (w : World) (hn : Tk w vn n) (ha : Tk w va a) (hb : Tk w vb b) (Vn : VT L n) (Va : VT L a) (Vb : VT L b) (hL : L ≤ 140737488355328)
  (hs : Trk.nf b = Trk.nf n ∨ Trk.nf b = Trk.nf a ∨ Trk.nf a = Trk.nf n) :
  Calls Tryz.prog 17 #[vn, va, vb] w fun e w' => ∃ v', e = .returned (.tuple #[v', .int .i64 0]) ∧ OT w' w.heap.size v' (shortL n a b) ∧ Below w.heap.size w w' := by
 have HN := Lib.hid hn
 have HA := Lib.hid ha
 have HBB := Lib.hid hb
 have V1 := Lib.hid (fun (w : World) (h : Tk w vn n) => vtrack_any vn n w h Vn hL)
 have V2 := Lib.hid (fun (w : World) (h : Tk w va a) => vtrack_any va a w h Va hL)
 have V3 := Lib.hid (fun (w : World) (h : Tk w vb b) => vtrack_any vb b w h Vb hL)
 have S1 := Lib.hid (fun (w : World) (h : Tk w vb b) (h' : Tk w vn n) => same_any vb vn b n w h h' Vb Vn hL)
 have S2 := Lib.hid (fun (w : World) (h : Tk w vb b) (h' : Tk w va a) => same_any vb va b a w h h' Vb Va hL)
 have S3 := Lib.hid (fun (w : World) (h : Tk w va a) (h' : Tk w vn n) => same_any va vn a n w h h' Va Vn hL)
 have NA := Lib.hid (fun (w : World) (h : Tk w va a) => normal_any va a w h Va hL)
 have NB := Lib.hid (fun (w : World) (h : Tk w vb b) => normal_any vb b w h Vb hL)
 have CA' := Lib.hid (fun (v : Value) (w : World) (h : Tk w v (Trk.nf a)) => clonetrack_any v (Trk.nf a) w h (by have := (nf_vt Va).n; omega))
 have CB' := Lib.hid (fun (v : Value) (w : World) (h : Tk w v (Trk.nf b)) => clonetrack_any v (Trk.nf b) w h (by have := (nf_vt Vb).n; omega))
 obtain ⟨xn, cn, rfl, -⟩ := hn
 obtain ⟨xa, ca, rfl, -⟩ := ha
 obtain ⟨xb, cb, rfl, -⟩ := hb
 obtain ⟨nn, hnn⟩ : ∃ k, k = n.length := ⟨_, rfl⟩
 obtain ⟨na, hna⟩ : ∃ k, k = a.length := ⟨_, rfl⟩
 obtain ⟨nb, hnb⟩ : ∃ k, k = b.length := ⟨_, rfl⟩
 rw [← hnn] at HN V1 S1 S3 ⊢
 rw [← hna] at HA V2 S2 S3 NA ⊢
 rw [← hnb] at HBB V3 S1 S2 NB ⊢
 obtain ⟨R, hR⟩ : ∃ R, R = shortL n a b := ⟨_, rfl⟩
 rw [← hR]
 have HR := Lib.hid hR
 have HS := Lib.hid hs
 clear Vn Va Vb hnn hna hnb hs hR
 go_enter Tryz.func17, Tryz.ntmps17
 go_wp2_with fail
 refine (V1.out w HN.out).mono ?_
 rintro e w1 ⟨rfl, hb⟩
 have HB := Lib.hid hb
 clear hb
 go_wp2_with fail
 refine (V2.out w1 (HA.out.below HB.out)).mono ?_
 rintro e w2 ⟨rfl, hb⟩
 replace HB := Lib.hid (HB.out.trans (hb.mono HB.out.size))
 clear hb
 go_wp2_with fail
 refine (V3.out w2 (HBB.out.below HB.out)).mono ?_
 rintro e w3 ⟨rfl, hb⟩
 replace HB := Lib.hid (HB.out.trans (hb.mono HB.out.size))
 clear hb
 go_wp2_with fail
 refine (S1.out w3 (HBB.out.below HB.out) (HN.out.below HB.out)).mono ?_
 rintro e w4 ⟨rfl, hb⟩
 replace HB := Lib.hid (HB.out.trans (hb.mono HB.out.size))
 clear hb
 by_cases c1 : Trk.nf b = Trk.nf n
 ·have HC1 := Lib.hid c1
  have d1 : decide (Trk.nf b = Trk.nf n) = true := decide_eq_true c1
  rw [d1]
  clear c1 d1
  go_wp2_with fail
  refine (NA.out w4 (HA.out.below HB.out)).mono ?_
  rintro e wp ⟨r1, rfl, ho, hb⟩
  replace HB := Lib.hid (HB.out.trans (hb.mono HB.out.size))
  have HO := Lib.hid ho.tk
  clear hb ho
  go_wp2_with fail
  refine (CA'.out r1 wp HO.out).mono ?_
  rintro e wq ⟨r2, rfl, ho, hb⟩
  have HO2 := Lib.hid ho
  have HB2 := Lib.hid (HB.out.trans (hb.mono HB.out.size))
  have HLE := Lib.hid HB.out.size
  clear hb ho
  go_wp2_with fail
  go_ret2
  exact ⟨_, rfl, by rw [HR.out]; unfold shortL; rw [if_pos (Or.inl HC1.out)]; exact HO2.out.lower HLE.out, HB2.out⟩
 have HC1 := Lib.hid c1
 have d1 : decide (Trk.nf b = Trk.nf n) = false := decide_eq_false c1
 rw [d1]
 clear c1 d1
 go_wp2_with fail
 refine (S2.out w4 (HBB.out.below HB.out) (HA.out.below HB.out)).mono ?_
 rintro e w5 ⟨rfl, hb⟩
 replace HB := Lib.hid (HB.out.trans (hb.mono HB.out.size))
 clear hb
 by_cases c2 : Trk.nf b = Trk.nf a
 ·have HC2 := Lib.hid c2
  have d1 : decide (Trk.nf b = Trk.nf a) = true := decide_eq_true c2
  rw [d1]
  clear c2 d1
  go_wp2_with fail
  refine (NA.out w5 (HA.out.below HB.out)).mono ?_
  rintro e wp ⟨r1, rfl, ho, hb⟩
  replace HB := Lib.hid (HB.out.trans (hb.mono HB.out.size))
  have HO := Lib.hid ho.tk
  clear hb ho
  go_wp2_with fail
  refine (CA'.out r1 wp HO.out).mono ?_
  rintro e wq ⟨r2, rfl, ho, hb⟩
  have HO2 := Lib.hid ho
  have HB2 := Lib.hid (HB.out.trans (hb.mono HB.out.size))
  have HLE := Lib.hid HB.out.size
  clear hb ho
  go_wp2_with fail
  go_ret2
  exact ⟨_, rfl, by rw [HR.out]; unfold shortL; rw [if_pos (Or.inr HC2.out)]; exact HO2.out.lower HLE.out, HB2.out⟩
 have HC2 := Lib.hid c2
 have d1 : decide (Trk.nf b = Trk.nf a) = false := decide_eq_false c2
 have c3 : Trk.nf a = Trk.nf n := by rcases HS.out with h | h | h; exact absurd h HC1.out; exact absurd h c2; exact h
 have d3 : decide (Trk.nf a = Trk.nf n) = true := decide_eq_true c3
 rw [d1]
 clear c2 d1 c3
 go_wp2_with fail
 refine (S3.out w5 (HA.out.below HB.out) (HN.out.below HB.out)).mono ?_
 rintro e w6 ⟨rfl, hb⟩
 replace HB := Lib.hid (HB.out.trans (hb.mono HB.out.size))
 clear hb
 rw [d3]
 clear d3
 go_wp2_with fail
 refine (NB.out w6 (HBB.out.below HB.out)).mono ?_
 rintro e wp ⟨r1, rfl, ho, hb⟩
 replace HB := Lib.hid (HB.out.trans (hb.mono HB.out.size))
 have HO := Lib.hid ho.tk
 clear hb ho
 go_wp2_with fail
 refine (CB'.out r1 wp HO.out).mono ?_
 rintro e wq ⟨r2, rfl, ho, hb⟩
 have HO2 := Lib.hid ho
 have HB2 := Lib.hid (HB.out.trans (hb.mono HB.out.size))
 have HLE := Lib.hid HB.out.size
 clear hb ho
 go_wp2_with fail
 go_ret2
 exact ⟨_, rfl, by rw [HR.out]; unfold shortL; rw [if_neg (fun h => h.elim HC1.out HC2.out)]; exact HO2.out.lower HLE.out, HB2.out⟩
def NC (c : Nat) : Prop := (97 ≤ c ∧ c ≤ 122) ∨ (48 ≤ c ∧ c ≤ 57) ∨ c = 45 ∨ c = 95 ∨ c = 46
structure TextP (P : Nat → Prop) (m : Nat) (s : ByteArray) : Prop where
 l : 1 ≤ s.size
 m : s.size ≤ m
 c : ∀ i (hi : i < s.size), P (s[i].toNat)
open Classical in
noncomputable def nameB (s : ByteArray) : Bool := decide (TextP NC 32 s)
open Classical in
theorem nameB_yes {s : ByteArray} (h : TextP NC 32 s) : nameB s = true := decide_eq_true h
open Classical in
theorem nameB_no {s : ByteArray} (h : ¬ TextP NC 32 s) : nameB s = false := decide_eq_false h
set_option maxRecDepth 100000 in
set_option maxHeartbeats 8000000 in
theorem name_all (s : ByteArray) (w : World) (hs : s.size < 9223372036854775808) : Calls Tryz.prog 114 #[.string s] w fun e w' => e = .returned (.bool (nameB s)) ∧ w = w' := by
 go_enter Tryz.func114, Tryz.ntmps114
 by_cases h1 : s.size < 1
 ·have g1 : decide ((s.size : Int) < 1) = true := decide_eq_true (by omega)
  have hr := nameB_no (s := s) (fun h => by have := h.l; omega)
  rw [hr]
  go_wp2_with fail
  go_ret
  exact ⟨rfl, rfl⟩
 have g1 : decide ((s.size : Int) < 1) = false := decide_eq_false (by omega)
 by_cases h2 : 32 < s.size
 ·have g2 : decide ((s.size : Int) > 32) = true := decide_eq_true (by omega)
  have hr := nameB_no (s := s) (fun h => by have := h.m; omega)
  rw [hr]
  go_wp2_with fail
  go_ret
  exact ⟨rfl, rfl⟩
 have g2 : decide ((s.size : Int) > 32) = false := decide_eq_false (by omega)
 go_wp2_with fail
 go_loop [15] (fun i => ∃ k : Nat, k ≤ s.size ∧ i = .int .i64 (k : Int) ∧ ∀ j (hj : j < s.size), j < k → NC (s[j].toNat)) (fun i => s.size - (intOf i).toNat)
 case atStart => exact ⟨0, Nat.zero_le _, rfl, fun j _ h => absurd h (Nat.not_lt_zero j)⟩
 case round =>
  obtain ⟨k, hk, rfl, hL⟩ := hrel
  have HL := Lib.hid hL
  clear hL
  by_cases hlt : k < s.size
  ·have hlt' : (k : Int) < (s.size : Int) := by omega
   go_wp2_with fail
   all_goals try simp only [bne_iff_ne, ne_eq, bne_eq_false_iff_eq] at *
   all_goals first
    | (exfalso; omega)
    | (go_ret
       have hr := nameB_no (s := s) (fun h => by have h3 := h.c k hlt; unfold NC at h3; omega)
       exact ⟨by rw [hr]; rfl, rfl⟩)
    | exact ⟨⟨k + 1, by omega, by simp, fun j hj hk2 => by
      rcases Nat.lt_or_ge j k with h | h
      ·exact HL.out j hj h
      ·have e : j = k := by omega
       subst e
       unfold NC
       omega⟩, by simp [intOf]; omega⟩
    | skip
  ·have hkl : k = s.size := by omega
   have hr := nameB_yes (s := s) ⟨by omega, by omega, fun i hi => HL.out i hi (by omega)⟩
   clear hkl
   have HRR := Lib.hid hr
   clear hr
   go_wp2_with fail
   go_ret
   exact ⟨by rw [HRR.out]; rfl, rfl⟩
def okWord (s : ByteArray) : Prop := TextP NC 32 s
theorem okWord.size {s : ByteArray} (h : okWord s) : s.size ≠ 0 := by have := h.l; omega
theorem empty_isEmpty : ({ data := #[] } : ByteArray).toList.isEmpty = true := by
 first | rfl | decide | kernel_rfl | simp [ByteArray.toList, ByteArray.toList.loop]
theorem okWord.isEmpty {s : ByteArray} (h : okWord s) : s.toList.isEmpty = false := by
 cases he : s.toList.isEmpty with
 | false => rfl
 | true =>
  have h2 : s = ⟨#[]⟩ := bytes_inj2 ((List.isEmpty_iff.1 he).trans (List.isEmpty_iff.1 empty_isEmpty).symm)
  exact absurd (by rw [h2]; rfl) h.size
theorem word_any (s : ByteArray) (w : World) (h : okWord s) : Calls Tryz.prog 114 #[.string s] w fun e w' => e = .returned (.bool true) ∧ w' = w :=
 (name_all s w (by have := h.m; omega)).mono fun e w' hh => ⟨by rw [hh.1, nameB_yes h], hh.2.symm⟩
def ncB (c : Nat) : Bool := (decide (97 ≤ c) && decide (c ≤ 122)) || (decide (48 ≤ c) && decide (c ≤ 57)) || decide (c = 45) || decide (c = 95) || decide (c = 46)
theorem ncB_spec {c : Nat} (h : ncB c = true) : NC c := by
 unfold ncB at h
 simp only [Bool.or_eq_true, Bool.and_eq_true, decide_eq_true_eq] at h
 unfold NC
 omega
theorem okWord_of (l : List UInt8) (h0 : 1 ≤ l.length) (h1 : l.length ≤ 32) (h : (l.all fun c => ncB c.toNat) = true) : okWord ⟨l.toArray⟩ := by
 refine ⟨h0, h1, fun i hi => ncB_spec ?_⟩
 exact List.all_eq_true.1 h _ (List.getElem_mem (show i < l.length from hi))
set_option maxRecDepth 100000 in
set_option maxHeartbeats 4000000 in
theorem isnormal_any {L : Int} (v : Value) (l : List Trk.Clip) (w : World) (h : Tk w v l) (hV : VT L l) (hN : Trk.Norm l) (hL : L ≤ 140737488355328) : Calls Tryz.prog 154 #[v] w fun e w' => e = .returned (.bool true) ∧ Below w.heap.size w w' := by
 have HT := Lib.hid h
 have H1 := Lib.hid (fun (w : World) (h : Tk w v l) => vtrack_any v l w h hV hL)
 have H2 := Lib.hid (fun (w : World) (h : Tk w v l) => normal_any v l w h hV hL)
 have HNF := Lib.hid hN.nf
 obtain ⟨ao, cap, rfl, -⟩ := h
 go_enter Tryz.func154, Tryz.ntmps154
 go_wp2_with fail
 refine (H1.out w HT.out).mono ?_
 rintro e w1 ⟨rfl, hb⟩
 have HB := Lib.hid hb
 clear hb
 go_wp2_with fail
 refine (H2.out w1 (HT.out.below HB.out)).mono ?_
 rintro e w2 ⟨v', rfl, ho, hb⟩
 rw [HNF.out] at ho
 obtain ⟨ra, rc, rfl, -⟩ := ho.tk
 replace HB := Lib.hid (HB.out.trans (hb.mono HB.out.size))
 clear hb ho
 go_wp2_with fail
 go_ret
 exact ⟨ret_bool (by simp), HB.out⟩
structure Rv where
 kind : Int
 by_ : ByteArray
 base : Int
 back : Bool
 t : List Trk.Clip
structure RevOK (L : Int) (i : Int) (r : Rv) : Prop where
 n : okWord r.by_
 v : VT L r.t
 m : Trk.Norm r.t
 z : i = 0 → r.kind = 1 ∧ r.base = 0
 s : i ≠ 0 → ((r.kind = 2 ∨ r.kind = 3) ∧ 0 ≤ r.base ∧ r.base < i) ∨ ((r.kind = 4 ∨ r.kind = 5) ∧ 1 ≤ r.base ∧ r.base < i)
def revC (r : Rv) (tv : Value) : Array Value := #[.int .i64 r.kind, .string r.by_, .int .i64 r.base, .bool r.back, tv]
set_option maxRecDepth 100000 in
set_option maxHeartbeats 4000000 in
theorem vrev_any {L : Int} (r : Rv) (tv : Value) (i : Int) (w : World) (h : Tk w tv r.t) (hr : RevOK L i r) (hL : L ≤ 140737488355328) : Calls Tryz.prog 115 #[.agg (revC r tv), .int .i64 i] w fun e w' => e = .returned (.bool true) ∧ Below w.heap.size w w' := by
 have HT := Lib.hid h
 have HW := Lib.hid (fun w => word_any r.by_ w hr.n)
 have HN := Lib.hid (fun (w : World) (h : Tk w tv r.t) => isnormal_any tv r.t w h hr.v hr.m hL)
 have hz := hr.z
 have hs := hr.s
 have HR := Lib.hid (And.intro hz hs)
 clear h hr hz hs
 obtain ⟨k, nm, bs, bk, t⟩ := r
 unfold revC
 dsimp only at HT HW HN HR ⊢
 obtain ⟨w1, hw1⟩ : ∃ y, y = w.alloc (.cells #[.int .i64 k, .string nm, .int .i64 bs, .bool bk, tv] 67) := ⟨_, rfl⟩
 obtain ⟨g, hg⟩ : ∃ y, y = w.heap.size := ⟨_, rfl⟩
 have hb : Below w.heap.size w w1 := by rw [hw1]; exact below_box _ _
 have c0 : w1.cell? ⟨g, 0, none⟩ = some (.int .i64 k) := by rw [hw1, hg]; simp [go_sem]
 have c1 : w1.cell? ⟨g, 1, none⟩ = some (.string nm) := by rw [hw1, hg]; simp [go_sem]
 have c2 : w1.cell? ⟨g, 2, none⟩ = some (.int .i64 bs) := by rw [hw1, hg]; simp [go_sem]
 have c4 : w1.cell? ⟨g, 4, none⟩ = some tv := by rw [hw1, hg]; simp [go_sem]
 have C0 := Lib.hid c0
 have C2 := Lib.hid c2
 have HG := Lib.hid (block_lt_of_cell c0)
 have HB := Lib.hid hb
 go_enter Tryz.func115, Tryz.ntmps115
 go_upto_region 1 with fail
 rw [← hw1, ← hg]
 clear hw1 hg hb c0 c2
 go_wp2_with fail
 refine (HW.out _).mono ?_
 rintro e w2 ⟨rfl, rfl⟩
 go_wp2_with fail
 refine (HN.out _ (HT.out.below HB.out)).mono ?_
 rintro e w2 ⟨rfl, hb⟩
 replace HB := Lib.hid (HB.out.trans (hb.mono HB.out.size))
 have d0 := (hb.cell (p := ⟨g, 0, none⟩) HG.out).trans C0.out
 have d2 := (hb.cell (p := ⟨g, 2, none⟩) HG.out).trans C2.out
 clear hb c1 c4 C0 C2 HG HT HW HN
 by_cases hi : i = 0
 ·obtain ⟨rfl, rfl⟩ := HR.out.1 hi
  subst hi
  go_wp2_with fail
  go_ret
  exact ⟨rfl, HB.out⟩
 ·rcases HR.out.2 hi with ⟨rfl | rfl, h1, h2⟩ | ⟨rfl | rfl, h1, h2⟩
  all_goals
   clear HR
   go_wp2_with fail
   go_ret
   exact ⟨ret_bool (by simp <;> omega), HB.out⟩
theorem rangeAt_below {w w' : World} {b o : Nat} {xs : List Value} (h : w.rangeAt b o xs) (hn : xs ≠ []) (hb : Below w.heap.size w w') : w'.rangeAt b o xs := by
 have hlt : b < w.heap.size := by
  cases xs with
  | nil => exact absurd rfl hn
  | cons x l => exact block_lt_of_cell (h 0 x rfl)
 exact fun j u hj => (hb.cell (p := ⟨b, o + j, none⟩) hlt).trans (h j u hj)
def revL (r : Rv) (tv : Value) : List Value := [.int .i64 r.kind, .string r.by_, .int .i64 r.base, .bool r.back, tv]
structure Dc where
 name : ByteArray
 owner : ByteArray
 till : Int
 revs : List Rv
def docL (d : Dc) (rv : Value) : List Value := [.string d.name, .string d.owner, .int .i64 d.till, rv]
def Rvs (w : World) (v : Value) (rs : List Rv) : Prop := ∃ ao cap, v = .slice ao rs.length cap ∧ rs.length ≤ cap ∧ cap ≤ maxLen ∧ ∀ i r, rs[i]? = some r → ∃ b o tv, ao = some ⟨b, o, none⟩ ∧ w.rangeAt b (o + i * 5) (revL r tv) ∧ Tk w tv r.t
def Dcs (w : World) (v : Value) (ds : List Dc) : Prop := ∃ ao cap, v = .slice ao ds.length cap ∧ ds.length ≤ cap ∧ cap ≤ maxLen ∧ ∀ i d, ds[i]? = some d → ∃ b o rv, ao = some ⟨b, o, none⟩ ∧ w.rangeAt b (o + i * 4) (docL d rv) ∧ Rvs w rv d.revs
theorem Rvs.below {w w' : World} {v : Value} {rs : List Rv} (h : Rvs w v rs) (hb : Below w.heap.size w w') : Rvs w' v rs := by
 obtain ⟨ao, cap, e, h1, h2, h3⟩ := h
 refine ⟨ao, cap, e, h1, h2, fun i r hi => ?_⟩
 obtain ⟨b, o, tv, e2, hr, ht⟩ := h3 i r hi
 exact ⟨b, o, tv, e2, rangeAt_below hr (by simp [revL]) hb, ht.below hb⟩
theorem Dcs.below {w w' : World} {v : Value} {ds : List Dc} (h : Dcs w v ds) (hb : Below w.heap.size w w') : Dcs w' v ds := by
 obtain ⟨ao, cap, e, h1, h2, h3⟩ := h
 refine ⟨ao, cap, e, h1, h2, fun i d hi => ?_⟩
 obtain ⟨b, o, rv, e2, hr, ht⟩ := h3 i d hi
 exact ⟨b, o, rv, e2, rangeAt_below hr (by simp [docL]) hb, ht.below hb⟩
theorem wpl_loadR {ops : Array Oper} {rest : List Oper} {op : Oper} {a : Act} {w : World} {Q : Exit → Act → World → Prop} {b o : Nat} {r : Rv} {tv : Value} {x : Operand} (hc : w.rangeAt b o (revL r tv)) (hgd : op.guard = none) (ho : op.op = .load 67 x)
  (hx : a.eval x = .pointer (some ⟨b, o, none⟩)) (h : wpList Tryz.prog ops Q rest (a.put op.dst (.agg (revL r tv).toArray)) w) : wpList Tryz.prog ops Q (op :: rest) a w :=
 wpList_load_mid hgd 67 x ho b o hx (revL r tv) _ hc Tryz.underlying67 rfl (by kernel_rfl) h
theorem wpl_loadD {ops : Array Oper} {rest : List Oper} {op : Oper} {a : Act} {w : World} {Q : Exit → Act → World → Prop} {b o : Nat} {d : Dc} {rv : Value} {x : Operand} (hc : w.rangeAt b o (docL d rv)) (hgd : op.guard = none) (ho : op.op = .load 65 x)
  (hx : a.eval x = .pointer (some ⟨b, o, none⟩)) (h : wpList Tryz.prog ops Q rest (a.put op.dst (.agg (docL d rv).toArray)) w) : wpList Tryz.prog ops Q (op :: rest) a w :=
 wpList_load_mid hgd 65 x ho b o hx (docL d rv) _ hc Tryz.underlying65 rfl (by kernel_rfl) h
structure DocOK (L now : Int) (d : Dc) : Prop where
 n : okWord d.name
 l0 : 1 ≤ d.revs.length
 l1 : d.revs.length ≤ 64
 f : (d.owner = ⟨#[]⟩ ∧ d.till = 0) ∨ (okWord d.owner ∧ now < d.till ∧ d.till ≤ now + 1000)
 r : ∀ (i : Nat) (r : Rv), d.revs[i]? = some r → RevOK L (i : Int) r
set_option maxRecDepth 100000 in
set_option maxHeartbeats 8000000 in
theorem vrevs_any {L : Int} (d : Dc) (rv : Value) (now : Int) (w : World) (h : Rvs w rv d.revs) (hd : DocOK L now d) (hL : L ≤ 140737488355328) (h0 : 0 ≤ now) (h1 : now ≤ 1099511627776) :
  Calls Tryz.prog 75 #[.agg #[.string d.name, .string d.owner, .int .i64 d.till, rv], .int .i64 now] w fun e w' => e = .returned (.bool true) ∧ Below w.heap.size w w' := by
 have HR := Lib.hid h
 have HW := Lib.hid (fun w => word_any d.name w hd.n)
 have HV := Lib.hid (fun (i : Nat) (r : Rv) (hi : d.revs[i]? = some r) (tv : Value) (w : World) (h : Tk w tv r.t) => vrev_any r tv (i : Int) w h (hd.r i r hi) hL)
 have l0 := hd.l0
 have l1 := hd.l1
 have HF := Lib.hid hd.f
 obtain ⟨nm, ow, tl, rs⟩ := d
 dsimp only at HR HW HV HF l0 l1 h ⊢
 obtain ⟨ao, cap, rfl, hc1, hc2, -⟩ := h
 clear hd
 obtain ⟨N, hN⟩ : ∃ N, N = rs.length := ⟨_, rfl⟩
 rw [← hN] at HR l0 l1 hc1 ⊢
 have HN := Lib.hid hN
 clear hN
 have hN2 : N ≤ 9223372036854775807 := by omega
 go_enter Tryz.func75, Tryz.ntmps75
 go_upto_region 1 with fail
 obtain ⟨w1, hw1⟩ : ∃ y, y = w.alloc (.cells #[.string nm, .string ow, .int .i64 tl, .slice ao N cap] 65) := ⟨_, rfl⟩
 obtain ⟨g, hg⟩ : ∃ y, y = w.heap.size := ⟨_, rfl⟩
 have hb : Below w.heap.size w w1 := by rw [hw1]; exact below_box _ _
 have c0 : w1.cell? ⟨g, 0, none⟩ = some (.string nm) := by rw [hw1, hg]; simp [go_sem]
 have c1 : w1.cell? ⟨g, 1, none⟩ = some (.string ow) := by rw [hw1, hg]; simp [go_sem]
 have c2 : w1.cell? ⟨g, 2, none⟩ = some (.int .i64 tl) := by rw [hw1, hg]; simp [go_sem]
 have c3 : w1.cell? ⟨g, 3, none⟩ = some (.slice ao N cap) := by rw [hw1, hg]; simp [go_sem]
 rw [← hw1, ← hg]
 clear hw1 hg
 have HB := Lib.hid hb
 replace HR := Lib.hid (HR.out.below hb)
 clear hb
 go_wp2_with fail
 refine (HW.out _).mono ?_
 rintro e w2 ⟨rfl, rfl⟩
 have l0' : ¬ ((N : Int) < 1) := by omega
 have l1' : ¬ (64 < (N : Int)) := by omega
 go_upto_if 25 with fail
 go_cut [4] from 25 to 45 (fun v4 wx => v4 = .bool false ∧ wx = w2)
 case first =>
  rcases HF.out with ⟨rfl, rfl⟩ | ⟨h, h2, h3⟩
  ·clear HF
   rw [empty_isEmpty]
   go_wp2_with fail
   go_meet
   case rel => exact ⟨rfl, rfl⟩
  ·have HWW := Lib.hid (fun w => word_any ow w h)
   rw [h.isEmpty]
   have h2' : ¬ tl ≤ now := by omega
   have h3' : ¬ now + 1000 < tl := by omega
   clear h h2 h3
   go_wp2_with fail
   refine (HWW.out _).mono ?_
   rintro e w3 ⟨rfl, rfl⟩
   go_wp2_with fail
   go_meet
   case rel => exact ⟨rfl, rfl⟩
 case rest =>
 obtain ⟨rfl, rfl⟩ := hcut
 go_upto_region 8 with fail
 clear HF HW l0' l1'
 go_upto_region 9 with fail
 go_loopw [49] (fun i wr => ∃ k : Nat, k ≤ N ∧ i = .int .i64 (k : Int) ∧ Below w.heap.size w wr ∧ Rvs wr (.slice ao N cap) rs) (fun i _ => N - (intOf i).toNat)
 case atStart => exact ⟨0, Nat.zero_le _, rfl, HB.out, HR.out⟩
 case round =>
  clear HB HR
  obtain ⟨k, hk, rfl, hb, hr⟩ := hrel
  have HB := Lib.hid hb
  have HR := Lib.hid hr
  clear hb hr
  by_cases hlt : k < N
  ·have hlt' : (k : Int) < (N : Int) := by omega
   obtain ⟨r, hr⟩ : ∃ r, rs[k]? = some r := ⟨_, List.getElem?_eq_getElem (by have := HN.out; omega)⟩
   obtain ⟨ao', cap', e, _, _, hT⟩ := HR.out
   have e1 := HN.out
   simp only [Value.slice.injEq] at e
   obtain ⟨rfl, -, rfl⟩ := e
   obtain ⟨b, o, tv, rfl, hA, hk2⟩ := hT k r hr
   have HA := Lib.hid hA
   have HTK := Lib.hid hk2
   obtain ⟨ta, tc, rfl, -⟩ := hk2
   have HVR := Lib.hid (HV.out k r hr (.slice ta r.t.length tc))
   clear hT hr hA e1
   obtain ⟨tn, htn⟩ : ∃ n, n = r.t.length := ⟨_, rfl⟩
   rw [← htn] at HA HTK HVR
   clear htn
   go_upto_region 10 with fail
   apply wp_region_lit
   iterate 6 go_step
   refine wpl_loadR HA.out rfl rfl rfl ?_
   unfold revL
   simp only [Act.put, List.setIfInBounds_toArray, List.set_cons_succ, List.set_cons_zero]
   go_upto_region 11 with fail
   obtain ⟨w3, hw3⟩ : ∃ y, y = wr.alloc (.cells #[.int .i64 r.kind, .string r.by_, .int .i64 r.base, .bool r.back, .slice ta tn tc] 67) := ⟨_, rfl⟩
   go_wp2_with fail
   have hb : Below wr.heap.size wr w3 := by rw [hw3]; exact below_box _ _
   rw [← hw3]
   refine (HVR.out w3 (HTK.out.below hb)).mono ?_
   rintro e w4 ⟨rfl, hb2⟩
   have hbb := hb.trans (hb2.mono hb.size)
   replace HB := Lib.hid (HB.out.trans (hbb.mono HB.out.size))
   replace HR := Lib.hid (HR.out.below hbb)
   clear hb hb2 hbb hw3 HVR HTK HA
   go_wp2_with fail
   go_roundw
   case rel => exact ⟨k + 1, by omega, by simp, HB.out, HR.out⟩
   case measure =>
    simp [intOf]
    omega
  ·have hkn : k = N := by omega
   go_wp2_with fail
   go_ret
   exact ⟨rfl, HB.out⟩
theorem okWord.len {s : ByteArray} (h : okWord s) : s.size ≤ maxLen := by have := h.m; unfold maxLen; omega
theorem zero4 (w : World) : (zeroValue 4).run Tryz.prog w = .ok (.bool false) w := by kernel_rfl
theorem law9 : Go.Maps.Keyed Tryz.prog 9 := Go.Maps.string_keyed Tryz.underlying9
set_option maxRecDepth 100000 in
set_option maxHeartbeats 8000000 in
theorem locked_free (b o : Nat) (u : ByteArray) (w : World) (h : w.cell? ⟨b, o + 1, none⟩ = some (.string ⟨#[]⟩)) : Calls Tryz.prog 147 #[.pointer (some ⟨b, o, none⟩), .string u] w fun e w' => e = .returned (.bool false) ∧ w' = w := by
 go_enter Tryz.func147, Tryz.ntmps147
 go_upto_region 1 with fail
 go_wp2_with fail
 go_ret
 exact ⟨ret_bool (by simp), rfl⟩
set_option maxRecDepth 100000 in
set_option maxHeartbeats 8000000 in
theorem locked_own (b o : Nat) (u : ByteArray) (w : World) (h : w.cell? ⟨b, o + 1, none⟩ = some (.string u)) (hu : okWord u) : Calls Tryz.prog 147 #[.pointer (some ⟨b, o, none⟩), .string u] w fun e w' => e = .returned (.bool false) ∧ w' = w := by
 have he := hu.isEmpty
 go_enter Tryz.func147, Tryz.ntmps147
 go_wp2_with fail
 go_ret
 exact ⟨ret_bool (by simp), rfl⟩
set_option maxRecDepth 100000 in
set_option maxHeartbeats 8000000 in
theorem locked_other (b o : Nat) (u x : ByteArray) (w : World) (h : w.cell? ⟨b, o + 1, none⟩ = some (.string x)) (hx : okWord x) (hn : x ≠ u) : Calls Tryz.prog 147 #[.pointer (some ⟨b, o, none⟩), .string u] w fun e w' => e = .returned (.bool true) ∧ w' = w := by
 have he := hx.isEmpty
 go_enter Tryz.func147, Tryz.ntmps147
 go_wp2_with fail
 go_ret
 have hn2 : ¬ x.toList = u.toList := fun e => hn (bytes_inj2 e)
 exact ⟨ret_bool (by simp [hn2]), rfl⟩
end Go.Proofs.YtfoohocgdcgbcaaGreat
