/- Texts of this claim joined: WF WG WH WI WJ WK WL WM WN WO. -/
import Derived.Deep.CutBlock
import Derived.Test.YtnmkcpgcdjhdjaaVa11
set_option linter.unusedVariables false
set_option linter.unusedSimpArgs false

/- The contract of the tape's Clip with three media and two sequences. -/
namespace Go.Proofs.Ytnmkcpgcdjhdjaa
open Go.RowKit
set_option linter.unusedVariables false
set_option linter.unusedSimpArgs false
theorem CV.turn {w w' : World} {g g2 : Nat} {c : Trk.Clip} (h : CV w g c) (ht : Turn g2 w w') (hn : g ≠ g2) : CV w' g c := h.same (ht.o g h.lt hn)
theorem CV.thereS {w : World} {g : Nat} {c : Trk.Clip} (h : CV w g c) (j : Nat) (hj : j + 7 ≤ 22) : w.there g j 7 := fun q hq => by
  have := h.there (j + q) (by omega)
  rwa [Nat.zero_add] at this
theorem CV.seta {w : World} {g : Nat} {c : Trk.Clip} (h : CV w g c) (s : Trk.Src) : CV (w.setCells g 2 (srcC s)) g { c with a := s } := h.set_a s
theorem CV.setb {w : World} {g : Nat} {c : Trk.Clip} (h : CV w g c) (s : Trk.Src) : CV (w.setCells g 9 (srcC s)) g { c with b := s } := h.set_b s
theorem CV.set_total {w : World} {b : Nat} {c : Trk.Clip} (h : CV w b c) (v : Int) : CV (w.setCell ⟨b, 17, none⟩ (.int .i64 v)) b { c with total := v } := by
  obtain ⟨h0, f⟩ := h
  obtain ⟨x0, x1, x2, x3, x4, x5, x6, x7, x8, x9, x10, x11, x12, x13, x14, x15, x16, x17, x18, x19, x20, x21⟩ := h0.at0
  exact ⟨by constructor <;> simp [go_sem, x0, x1, x2, x3, x4, x5, x6, x7, x8, x9, x10, x11, x12, x13, x14, x15, x16, x17, x18, x19, x20, x21], fun o => (World.frozen?_setCell _ _ _ _).trans (f o)⟩
theorem CV.set_param {w : World} {b : Nat} {c : Trk.Clip} (h : CV w b c) (v : Int) : CV (w.setCell ⟨b, 18, none⟩ (.int .i64 v)) b { c with param := v } := by
  obtain ⟨h0, f⟩ := h
  obtain ⟨x0, x1, x2, x3, x4, x5, x6, x7, x8, x9, x10, x11, x12, x13, x14, x15, x16, x17, x18, x19, x20, x21⟩ := h0.at0
  exact ⟨by constructor <;> simp [go_sem, x0, x1, x2, x3, x4, x5, x6, x7, x8, x9, x10, x11, x12, x13, x14, x15, x16, x17, x18, x19, x20, x21], fun o => (World.frozen?_setCell _ _ _ _).trans (f o)⟩
theorem CV.set_text {w : World} {b : Nat} {c : Trk.Clip} (h : CV w b c) (v : ByteArray) : CV (w.setCell ⟨b, 19, none⟩ (.string v)) b { c with text := v } := by
  obtain ⟨h0, f⟩ := h
  obtain ⟨x0, x1, x2, x3, x4, x5, x6, x7, x8, x9, x10, x11, x12, x13, x14, x15, x16, x17, x18, x19, x20, x21⟩ := h0.at0
  exact ⟨by constructor <;> simp [go_sem, x0, x1, x2, x3, x4, x5, x6, x7, x8, x9, x10, x11, x12, x13, x14, x15, x16, x17, x18, x19, x20, x21], fun o => (World.frozen?_setCell _ _ _ _).trans (f o)⟩
theorem tape_in {s : Trk.Src} (h : TapeS s) {n : Int} (n0 : 0 ≤ n) (n1 : n ≤ 32) : Trk.SrcIn 1000000 n s := by
  rcases h with rfl | ⟨h1, h2, h3, h4, h5, h6, h7⟩
  · exact .inl rfl
  · have b := Trk.mul_bound (d := n) (D := 32) (by omega) n1 h4 h5
    exact .inr ⟨h1, h2, h3, h4, h5, by omega, by omega, by omega, by omega⟩
/-- A clip of the tape. -/
structure TapeC (c : Trk.Clip) : Prop where
  l0 : 1 ≤ c.len
  l1 : c.len ≤ 9
  a : TapeS c.a
  b : TapeS c.b
  ch : c.chan = []
  gn : c.gain = 0
  kd : Trk.KindOK c
  sh : Trk.shares c.kind = true → 0 ≤ c.off ∧ c.off ≤ 2 ∧ c.off + c.len ≤ c.total ∧ c.total ≤ 20
theorem TapeC.vc {c : Trk.Clip} (h : TapeC c) : Trk.VC 1000000 c :=
  ⟨⟨tape_in h.a (by have := h.l0; omega) (by have := h.l1; omega), tape_in h.b (by have := h.l0; omega) (by have := h.l1; omega), h.ch, h.gn, h.kd⟩, h.l0, by have := h.l1; omega, fun hs => by
    obtain ⟨a, b, c, d⟩ := h.sh hs
    have := h.l0
    omega⟩
theorem wpl_storeC {ops : Array Oper} {rest : List Oper} {op : Oper} {a : Act} {w : World} {Q : Exit → Act → World → Prop} {b : Nat} {c : Trk.Clip} (e : Trk.Clip) {x y : Operand} (hc : CV w b c) (hgd : op.guard = none) (ho : op.op = .store 53 x y)
    (hx : a.eval x = .pointer (some ⟨b, 0, none⟩)) (hy : a.eval y = .agg (clipC e).toArray) (h : wpList Try.prog ops Q rest (a.put op.dst undef) (w.setCells b 0 (clipC e))) : wpList Try.prog ops Q (op :: rest) a w :=
  wpList_store_mid hgd 53 x y ho b 0 (clipC e).toArray hx hy hc.there (by kernel_rfl) (clip_oneCell e) h
def kinds : Array Int := #[1, 1, 1, 0, 2, 3, 4, 5]
def kindTab : Array Value := #[.int .i64 1, .int .i64 1, .int .i64 1, .int .i64 0, .int .i64 2, .int .i64 3, .int .i64 4, .int .i64 5]
theorem kind_get {w : World} {g q : Nat} (h : w.heap[g]? = some (.cells kindTab 3 (0, 0))) (hq : q < 8) : w.cell? ⟨g, q, none⟩ = some (.int .i64 (kinds[q]!)) := by
  rcases (show q = 0 ∨ q = 1 ∨ q = 2 ∨ q = 3 ∨ q = 4 ∨ q = 5 ∨ q = 6 ∨ q = 7 by omega) with rfl | rfl | rfl | rfl | rfl | rfl | rfl | rfl <;> simp [World.cell?, h, kinds, kindTab]
theorem kind_ok {q : Nat} (hq : q < 8) : kinds[q]! = 0 ∨ kinds[q]! = 1 ∨ kinds[q]! = 2 ∨ kinds[q]! = 3 ∨ kinds[q]! = 4 ∨ kinds[q]! = 5 := by
  rcases (show q = 0 ∨ q = 1 ∨ q = 2 ∨ q = 3 ∨ q = 4 ∨ q = 5 ∨ q = 6 ∨ q = 7 by omega) with rfl | rfl | rfl | rfl | rfl | rfl | rfl | rfl <;> simp [kinds]
def textTab : Array Value := #[.string ⟨#[65]⟩, .string ⟨#[82, 69, 69, 76, 32, 55]⟩, .string ⟨#[116, 104, 101, 32, 101, 110, 100, 46]⟩, .string ⟨#[49, 50, 58, 51, 48]⟩]
theorem line_of {b : ByteArray} (h : 1 ≤ b.size ∧ b.size ≤ 64 ∧ ∀ x ∈ b.data.toList, 32 ≤ x.toNat ∧ x.toNat ≤ 126) : Trk.okLine b := by
  refine ⟨h.1, h.2.1, fun i hi => ?_⟩
  have hm : b[i] ∈ b.data.toList := by
    have e : b[i] = b.data[i] := rfl
    rw [e]
    exact Array.mem_toList_iff.2 (Array.getElem_mem _)
  have := h.2.2 _ hm
  omega
theorem text_get {w : World} {g q : Nat} (h : w.heap[g]? = some (.cells textTab 9 (0, 0))) (hq : q < 4) : ∃ tx, w.cell? ⟨g, q, none⟩ = some (.string tx) ∧ Trk.okLine tx := by
  rcases (show q = 0 ∨ q = 1 ∨ q = 2 ∨ q = 3 by omega) with rfl | rfl | rfl | rfl
  · exact ⟨_, by simp [World.cell?, h, textTab]; rfl, line_of (by decide)⟩
  · exact ⟨_, by simp [World.cell?, h, textTab]; rfl, line_of (by decide)⟩
  · exact ⟨_, by simp [World.cell?, h, textTab]; rfl, line_of (by decide)⟩
  · exact ⟨_, by simp [World.cell?, h, textTab]; rfl, line_of (by decide)⟩
def ClipPost (w : World) (B p k j : Nat) (P : Trk.Clip → Prop) (e : Ending) (w' : World) : Prop := (∃ c, e = .returned (clipV c) ∧ P c) ∧ TQ w B p k j w'
set_option maxRecDepth 100000 in
set_option maxHeartbeats 16000000 in
theorem clip_any (B p k : Nat) (w : World) (ht : TP w B p k) (hk : k < 700000) :
    Calls Try.prog 27 #[.pointer (some ⟨p, 0, none⟩), .int .i64 3, .int .i64 2] w (ClipPost w B p k 20 TapeC) := by
  have HT := Lib.hid ht
  have hB := ht.1
  have hp := ht.2.1
  clear ht
  go_enter Try.func27, Try.ntmps27
  go_upto_region 1 with fail
  obtain ⟨w1, hw1⟩ : ∃ y, y = w.alloc (.cells (clipC (Trk.gap 0)).toArray 53) := ⟨_, rfl⟩
  have hw1' := hw1
  simp only [clipC, Trk.gap, Trk.black, show (ByteArray.empty : ByteArray) = ⟨#[]⟩ from rfl] at hw1'
  rw [← hw1']
  clear hw1'
  obtain ⟨g6, hg6⟩ : ∃ y, y = w.heap.size := ⟨_, rfl⟩
  have hb : Below w.heap.size w w1 := by rw [hw1]; exact below_box _ _
  have HV := Lib.hid (show CV w1 g6 (Trk.gap 0) by rw [hw1, hg6]; exact CV.box w (Trk.gap 0) 53)
  have HU := Lib.hid (Turn.of (g := p) (Nat.le_of_lt hp) hb)
  replace HT := Lib.hid (HT.out.below (by omega) hb)
  have HG := Lib.hid (show w.heap.size ≤ g6 ∧ g6 ≠ p ∧ B ≤ g6 ∧ p ≤ g6 by omega)
  rw [← hg6]
  clear hw1 hb hg6
  go_wp2_with fail
  refine (next_any B p k 9 _ HT.out (by omega) (by omega) (by omega)).mono ?_
  rintro e w2 ⟨r, rfl, r0, r1, hT_, hg_⟩
  have ht := Turn.grown hg_ HT.out.2.1
  replace HU := Lib.hid (HU.out.trans ht)
  replace HV := Lib.hid (HV.out.turn ht HG.out.2.1)
  replace HT := Lib.hid hT_
  clear hT_ hg_ ht
  dsimp only
  iterate 4 go_step
  refine Great.wpList_buildSliceTo rfl 27 3 8 #[(0, .const (.int .i64 1)), (1, .const (.int .i64 1)), (2, .const (.int .i64 1)), (3, .const (.int .i64 0)), (4, .const (.int .i64 2)), (5, .const (.int .i64 3)), (6, .const (.int .i64 4)), (7, .const (.int .i64 5))] rfl _ rfl (some 11) rfl Try.underlying27 kindTab ?_ ?_
  · kernel_rfl
  obtain ⟨w3, hw3⟩ : ∃ y, y = w2.alloc (.cells kindTab 3) := ⟨_, rfl⟩
  obtain ⟨g9, hg9⟩ : ∃ y, y = w2.heap.size := ⟨_, rfl⟩
  have hb : Below w2.heap.size w2 w3 := by rw [hw3]; exact below_box _ _
  have HK := Lib.hid (show w3.heap[g9]? = some (.cells kindTab 3 (0, 0)) by rw [hw3, hg9]; exact (MapKept.heap_alloc w2 _).1)
  have HG9 := Lib.hid (show g9 ≠ p by have := HT.out.2.1; omega)
  rw [← hw3, ← hg9]
  replace HU := Lib.hid (HU.out.trans (Turn.of (g := p) (Nat.le_of_lt HT.out.2.1) hb))
  replace HV := Lib.hid (HV.out.below hb)
  replace HT := Lib.hid (HT.out.below (Nat.le_trans HT.out.1 (Nat.le_of_lt HT.out.2.1)) hb)
  clear hw3 hg9 hb
  simp only [Act.put, List.setIfInBounds_toArray, List.set_cons_succ, List.set_cons_zero]
  go_wp2_with fail
  refine (next_any B p (k + 1) 8 _ HT.out (by omega) (by omega) (by omega)).mono ?_
  rintro e w4 ⟨q, rfl, q0, q1, hT_, hg_⟩
  obtain ⟨q, rfl⟩ : ∃ n : Nat, q = n := ⟨q.toNat, by omega⟩
  have ht := Turn.grown hg_ HT.out.2.1
  replace HU := Lib.hid (HU.out.trans ht)
  replace HV := Lib.hid (HV.out.turn ht HG.out.2.1)
  replace HK := Lib.hid ((ht.o g9 (Array.getElem?_eq_some_iff.1 HK.out).1 HG9.out).trans HK.out)
  replace HT := Lib.hid hT_
  clear hT_ hg_ ht
  have hq8 : q < 8 := by omega
  have z := kind_get HK.out hq8
  have HKO := Lib.hid (kind_ok hq8)
  obtain ⟨kd, hkd⟩ : ∃ kd, kd = kinds[q]! := ⟨_, rfl⟩
  rw [← hkd] at z HKO
  clear hkd hq8
  dsimp only
  iterate 10 go_step
  iterate 0 go_step
  refine wpl_alloc rfl rfl (fun w5 hg hb2 hs2 => ?_)
  obtain ⟨g7, hg7⟩ : ∃ y, y = w4.heap.size := ⟨_, rfl⟩
  rw [← hg7] at hg ⊢
  have HG7 := Lib.hid (show w.heap.size ≤ g7 ∧ g7 ≠ p ∧ B ≤ g7 ∧ p ≤ g7 ∧ g6 ≠ g7 by have h1 := HT.out.2.1; have h2 := HU.out.s; have h3 := HV.out.lt; omega)
  replace HU := Lib.hid (HU.out.trans (Turn.of (g := p) (Nat.le_of_lt HT.out.2.1) hb2))
  replace HV := Lib.hid (HV.out.below hb2)
  replace HT := Lib.hid (HT.out.below (Nat.le_trans HT.out.1 (Nat.le_of_lt HT.out.2.1)) hb2)
  clear hb2 hs2 hg7 z
  obtain ⟨LL, hLL⟩ : ∃ y, y = 1 + r := ⟨_, rfl⟩
  rw [← hLL]
  have hL0 : 1 ≤ LL := by omega
  have hL1 : LL ≤ 9 := by omega
  clear hLL r0 r1
  simp only [Act.put, List.setIfInBounds_toArray, List.set_cons_succ, List.set_cons_zero]
  refine wpl_storeC ⟨LL, kd, Trk.black, Trk.black, 0, 0, 0, ByteArray.empty, 0, []⟩ hg rfl rfl rfl rfl ?_
  have hv := hg.put ⟨LL, kd, Trk.black, Trk.black, 0, 0, 0, ByteArray.empty, 0, []⟩
  have ht := Turn.cells g7 0 (clipC ⟨LL, kd, Trk.black, Trk.black, 0, 0, 0, ByteArray.empty, 0, []⟩) w5
  obtain ⟨w6, hw6⟩ : ∃ y, y = w5.setCells g7 0 (clipC ⟨LL, kd, Trk.black, Trk.black, 0, 0, 0, ByteArray.empty, 0, []⟩) := ⟨_, rfl⟩
  rw [← hw6] at hv ht ⊢
  have HX := Lib.hid hv
  replace HU := Lib.hid (HU.out.into HG7.out.1 HG7.out.2.2.2.1 ht)
  replace HT := Lib.hid (HT.out.turn ht HG7.out.2.1.symm HG7.out.2.2.1)
  replace HV := Lib.hid (HV.out.turn ht HG7.out.2.2.2.2)
  clear hv ht hw6 hg HK
  simp only [Act.put, List.setIfInBounds_toArray, List.set_cons_succ, List.set_cons_zero]
  rcases HKO.out with rfl | rfl | rfl | rfl | rfl | rfl
  · have x1 := HX.out.c.k1
    simp only [Nat.zero_add] at x1
    go_upto_region 3 with fail
    clear x1
    apply wp_region_lit
    obtain ⟨CC, hCC⟩ : ∃ C, C = (clipC ⟨LL, 0, Trk.black, Trk.black, 0, 0, 0, ByteArray.empty, 0, []⟩).toArray := ⟨_, rfl⟩
    have HCC := Lib.hid hCC
    clear hCC
    refine wpl_load HX.out.c rfl rfl rfl ?_
    rw [← HCC.out]
    simp only [Act.put, List.setIfInBounds_toArray, List.set_cons_succ, List.set_cons_zero]
    refine wpl_storeC ⟨LL, 0, Trk.black, Trk.black, 0, 0, 0, ByteArray.empty, 0, []⟩ HV.out rfl rfl rfl (by rw [← HCC.out]; rfl) ?_
    have hv := HV.out.put ⟨LL, 0, Trk.black, Trk.black, 0, 0, 0, ByteArray.empty, 0, []⟩
    have ht := Turn.cells g6 0 (clipC ⟨LL, 0, Trk.black, Trk.black, 0, 0, 0, ByteArray.empty, 0, []⟩) w6
    obtain ⟨wz, hwz⟩ : ∃ y, y = World.setCells w6 g6 0 (clipC ⟨LL, 0, Trk.black, Trk.black, 0, 0, 0, ByteArray.empty, 0, []⟩) := ⟨_, rfl⟩
    rw [← hwz] at hv ht ⊢
    replace HU := Lib.hid (HU.out.into HG.out.1 HG.out.2.2.2 ht)
    replace HT := Lib.hid (HT.out.turn ht HG.out.2.1.symm HG.out.2.2.1)
    have HV9 := Lib.hid hv
    clear hv ht hwz HX HV
    simp only [Act.put, List.setIfInBounds_toArray, List.set_cons_succ, List.set_cons_zero]
    iterate 4 go_step
    refine bodyPost_ret (v := .agg CC) (by rw [HCC.out]; exact results_clip Try.results27 rfl HV9.out.c) rfl ⟨⟨_, by rw [HCC.out]; rfl, ?_⟩, TQ.of (by omega) HT.out HU.out⟩
    exact ⟨hL0, hL1, .inl rfl, .inl rfl, rfl, rfl, .inl ⟨rfl, rfl, rfl, rfl, rfl, rfl, rfl⟩, fun h => by simp [Trk.shares] at h⟩
  · have x1 := HX.out.c.k1
    simp only [Nat.zero_add] at x1
    go_wp2_with fail
    refine (source_any B p (k + 1 + 1) _ HT.out (by omega)).mono ?_
    rintro e w7 ⟨⟨sa, rfl, hsa⟩, ⟨ksa, hksa, hT_⟩, ht⟩
    replace HU := Lib.hid (HU.out.trans ht)
    replace HV := Lib.hid (HV.out.turn ht HG.out.2.1)
    replace HX := Lib.hid (HX.out.turn ht HG7.out.2.1)
    replace HT := Lib.hid hT_
    clear hT_ ht
    have Hsa := Lib.hid hsa
    clear hsa
    dsimp only
    iterate 4 go_step
    refine wpl_storeS sa none rfl (HX.out.thereS 2 (by decide)) rfl rfl rfl rfl ?_
    have hx := HX.out.seta sa
    have ht := Turn.cells g7 2 (srcC sa) w7
    obtain ⟨w7s, hwn⟩ : ∃ y, y = World.setCells w7 g7 2 (srcC sa) := ⟨_, rfl⟩
    rw [← hwn] at hx ht ⊢
    replace HX := Lib.hid hx
    replace HU := Lib.hid (HU.out.into HG7.out.1 HG7.out.2.2.2.1 ht)
    replace HT := Lib.hid (HT.out.turn ht HG7.out.2.1.symm HG7.out.2.2.1)
    replace HV := Lib.hid (HV.out.turn ht HG7.out.2.2.2.2)
    clear hx ht hwn
    simp only [Act.put, List.setIfInBounds_toArray, List.set_cons_succ, List.set_cons_zero]
    have x1 := HX.out.c.k1
    simp only [Nat.zero_add] at x1
    go_upto_region 18 with fail
    clear x1
    apply wp_region_lit
    obtain ⟨CC, hCC⟩ : ∃ C, C = (clipC ⟨LL, 1, sa, Trk.black, 0, 0, 0, ByteArray.empty, 0, []⟩).toArray := ⟨_, rfl⟩
    have HCC := Lib.hid hCC
    clear hCC
    refine wpl_load HX.out.c rfl rfl rfl ?_
    rw [← HCC.out]
    simp only [Act.put, List.setIfInBounds_toArray, List.set_cons_succ, List.set_cons_zero]
    refine wpl_storeC ⟨LL, 1, sa, Trk.black, 0, 0, 0, ByteArray.empty, 0, []⟩ HV.out rfl rfl rfl (by rw [← HCC.out]; rfl) ?_
    have hv := HV.out.put ⟨LL, 1, sa, Trk.black, 0, 0, 0, ByteArray.empty, 0, []⟩
    have ht := Turn.cells g6 0 (clipC ⟨LL, 1, sa, Trk.black, 0, 0, 0, ByteArray.empty, 0, []⟩) w7s
    obtain ⟨wz, hwz⟩ : ∃ y, y = World.setCells w7s g6 0 (clipC ⟨LL, 1, sa, Trk.black, 0, 0, 0, ByteArray.empty, 0, []⟩) := ⟨_, rfl⟩
    rw [← hwz] at hv ht ⊢
    replace HU := Lib.hid (HU.out.into HG.out.1 HG.out.2.2.2 ht)
    replace HT := Lib.hid (HT.out.turn ht HG.out.2.1.symm HG.out.2.2.1)
    have HV9 := Lib.hid hv
    clear hv ht hwz HX HV
    simp only [Act.put, List.setIfInBounds_toArray, List.set_cons_succ, List.set_cons_zero]
    iterate 4 go_step
    refine bodyPost_ret (v := .agg CC) (by rw [HCC.out]; exact results_clip Try.results27 rfl HV9.out.c) rfl ⟨⟨_, by rw [HCC.out]; rfl, ?_⟩, TQ.of (by omega) HT.out HU.out⟩
    exact ⟨hL0, hL1, Hsa.out, .inl rfl, rfl, rfl, .inr (.inl ⟨rfl, rfl, rfl, rfl, rfl, rfl⟩), fun h => by simp [Trk.shares] at h⟩
  · have x1 := HX.out.c.k1
    simp only [Nat.zero_add] at x1
    go_wp2_with fail
    refine (source_any B p (k + 1 + 1) _ HT.out (by omega)).mono ?_
    clear x1
    rintro e w7 ⟨⟨sa, rfl, hsa⟩, ⟨ksa, hksa, hT_⟩, ht⟩
    replace HU := Lib.hid (HU.out.trans ht)
    replace HV := Lib.hid (HV.out.turn ht HG.out.2.1)
    replace HX := Lib.hid (HX.out.turn ht HG7.out.2.1)
    replace HT := Lib.hid hT_
    clear hT_ ht
    have Hsa := Lib.hid hsa
    clear hsa
    dsimp only
    iterate 4 go_step
    refine wpl_storeS sa none rfl (HX.out.thereS 2 (by decide)) rfl rfl rfl rfl ?_
    have hx := HX.out.seta sa
    have ht := Turn.cells g7 2 (srcC sa) w7
    obtain ⟨w7s, hwn⟩ : ∃ y, y = World.setCells w7 g7 2 (srcC sa) := ⟨_, rfl⟩
    rw [← hwn] at hx ht ⊢
    replace HX := Lib.hid hx
    replace HU := Lib.hid (HU.out.into HG7.out.1 HG7.out.2.2.2.1 ht)
    replace HT := Lib.hid (HT.out.turn ht HG7.out.2.1.symm HG7.out.2.2.1)
    replace HV := Lib.hid (HV.out.turn ht HG7.out.2.2.2.2)
    clear hx ht hwn
    simp only [Act.put, List.setIfInBounds_toArray, List.set_cons_succ, List.set_cons_zero]
    have x1 := HX.out.c.k1
    simp only [Nat.zero_add] at x1
    go_wp2_with fail
    refine (source_any B p ksa _ HT.out (by omega)).mono ?_
    clear x1
    rintro e w8 ⟨⟨sb, rfl, hsb⟩, ⟨ksb, hksb, hT_⟩, ht⟩
    replace HU := Lib.hid (HU.out.trans ht)
    replace HV := Lib.hid (HV.out.turn ht HG.out.2.1)
    replace HX := Lib.hid (HX.out.turn ht HG7.out.2.1)
    replace HT := Lib.hid hT_
    clear hT_ ht
    have Hsb := Lib.hid hsb
    clear hsb
    dsimp only
    iterate 4 go_step
    refine wpl_storeS sb none rfl (HX.out.thereS 9 (by decide)) rfl rfl rfl rfl ?_
    have hx := HX.out.setb sb
    have ht := Turn.cells g7 9 (srcC sb) w8
    obtain ⟨w8s, hwn⟩ : ∃ y, y = World.setCells w8 g7 9 (srcC sb) := ⟨_, rfl⟩
    rw [← hwn] at hx ht ⊢
    replace HX := Lib.hid hx
    replace HU := Lib.hid (HU.out.into HG7.out.1 HG7.out.2.2.2.1 ht)
    replace HT := Lib.hid (HT.out.turn ht HG7.out.2.1.symm HG7.out.2.2.1)
    replace HV := Lib.hid (HV.out.turn ht HG7.out.2.2.2.2)
    clear hx ht hwn
    simp only [Act.put, List.setIfInBounds_toArray, List.set_cons_succ, List.set_cons_zero]
    go_wp2_with fail
    refine (next_any B p ksb 3 _ HT.out (by omega) (by omega) (by omega)).mono ?_
    rintro e w9 ⟨of, rfl, of0, of1, hT_, hg_⟩
    have ht := Turn.grown hg_ HT.out.2.1
    clear hg_
    replace HU := Lib.hid (HU.out.trans ht)
    replace HV := Lib.hid (HV.out.turn ht HG.out.2.1)
    replace HX := Lib.hid (HX.out.turn ht HG7.out.2.1)
    replace HT := Lib.hid hT_
    clear hT_ ht
    have y1 := HX.out.c.k16
    simp only [Nat.zero_add] at y1
    have yf := HX.out.f
    go_upto_region 10 with fail
    clear y1 yf
    have hx := HX.out.set_off of
    have ht := Turn.cell g7 16 (.int .i64 of) w9
    obtain ⟨w9s, hwn⟩ : ∃ y, y = World.setCell w9 ⟨g7, 16, none⟩ (.int .i64 of) := ⟨_, rfl⟩
    rw [← hwn] at hx ht ⊢
    replace HX := Lib.hid hx
    replace HU := Lib.hid (HU.out.into HG7.out.1 HG7.out.2.2.2.1 ht)
    replace HT := Lib.hid (HT.out.turn ht HG7.out.2.1.symm HG7.out.2.2.1)
    replace HV := Lib.hid (HV.out.turn ht HG7.out.2.2.2.2)
    clear hx ht hwn
    refine Plan.wp_region_plan (fun w' => w'.cell? ⟨g7, 16, none⟩ = some (.int .i64 of) ∧ w'.cell? ⟨g7, 0, none⟩ = some (.int .i64 LL)) (([0, 1, 2, 3, 4, 5].map (·, true)) ++ (([6].map (·, false)) ++ (([7, 8].map (·, true)) ++ ([9].map (·, false))))) (by kernel_rfl) (by kernel_rfl) (by kernel_rfl) ⟨(HX.out.below (Below.refl _ _).drew).c.at0.2.2.2.2.2.2.2.2.2.2.2.2.2.2.2.2.1, (HX.out.below (Below.refl _ _).drew).c.at0.1⟩ ?_
    refine' Plan.plan_seg _ [0, 1, 2, 3, 4, 5] (([6].map (·, false)) ++ (([7, 8].map (·, true)) ++ ([9].map (·, false)))) (by kernel_rfl) (by kernel_rfl) rfl (by exact ⟨(HX.out.below (Below.refl _ _).drew).c.at0.2.2.2.2.2.2.2.2.2.2.2.2.2.2.2.2.1, (HX.out.below (Below.refl _ _).drew).c.at0.1⟩) (fun wx hS => ?_) ?_
    rotate_left
    · obtain ⟨S1, S2⟩ := hS
      go_light
      iterate 6 (apply Plan.seg_pick; rfl; intro K hK; go_wp)
      exact Plan.seg_nil
    obtain ⟨wd, hwd⟩ : ∃ y, y = World.drew w9s := ⟨_, rfl⟩
    rw [← hwd]
    have hb : Below w9s.heap.size w9s wd := by rw [hwd]; exact (Below.refl _ _).drew
    replace HU := Lib.hid (HU.out.trans (Turn.of (g := p) (Nat.le_of_lt HT.out.2.1) hb))
    replace HV := Lib.hid (HV.out.below hb)
    replace HX := Lib.hid (HX.out.below hb)
    replace HT := Lib.hid (HT.out.below (Nat.le_trans HT.out.1 (Nat.le_of_lt HT.out.2.1)) hb)
    clear hb hwd
    refine Plan.plan_of_effect rfl (fun K hK => ?_)
    go_wp2_with fail
    refine (next_any B p (ksb + 1) 3 _ HT.out (by omega) (by omega) (by omega)).mono ?_
    rintro e w10 ⟨tt, rfl, tt0, tt1, hT_, hg_⟩
    have ht := Turn.grown hg_ HT.out.2.1
    clear hg_
    replace HU := Lib.hid (HU.out.trans ht)
    replace HV := Lib.hid (HV.out.turn ht HG.out.2.1)
    replace HX := Lib.hid (HX.out.turn ht HG7.out.2.1)
    replace HT := Lib.hid hT_
    clear hT_ ht
    go_wp2_with fail
    refine ⟨⟨HX.out.c.at0.2.2.2.2.2.2.2.2.2.2.2.2.2.2.2.2.1, HX.out.c.at0.1⟩, ?_⟩
    refine' Plan.plan_seg (S := (fun w' => w'.cell? ⟨g7, 16, none⟩ = some (.int .i64 of) ∧ w'.cell? ⟨g7, 0, none⟩ = some (.int .i64 LL))) _ [7, 8] ([9].map (·, false)) (by kernel_rfl) (by kernel_rfl) rfl (by exact ⟨HX.out.c.at0.2.2.2.2.2.2.2.2.2.2.2.2.2.2.2.2.1, HX.out.c.at0.1⟩) (fun wx hS => ?_) ?_
    rotate_left
    · clear hS
      go_light
      iterate 2 (apply Plan.seg_pick; rfl; intro K hK; go_wp)
      exact Plan.seg_nil
    refine Plan.plan_of_effect rfl (fun K hK => ?_)
    have y1 := HX.out.c.k17
    simp only [Nat.zero_add] at y1
    have yf := HX.out.f
    go_wp2_with fail
    clear y1 yf
    have hx := HX.out.set_total (of + LL + tt)
    have ht := Turn.cell g7 17 (.int .i64 (of + LL + tt)) w10
    obtain ⟨w10s, hwn⟩ : ∃ y, y = World.setCell w10 ⟨g7, 17, none⟩ (.int .i64 (of + LL + tt)) := ⟨_, rfl⟩
    rw [← hwn] at hx ht ⊢
    replace HX := Lib.hid hx
    replace HU := Lib.hid (HU.out.into HG7.out.1 HG7.out.2.2.2.1 ht)
    replace HT := Lib.hid (HT.out.turn ht HG7.out.2.1.symm HG7.out.2.2.1)
    replace HV := Lib.hid (HV.out.turn ht HG7.out.2.2.2.2)
    clear hx ht hwn
    first | refine ⟨⟨HX.out.c.at0.2.2.2.2.2.2.2.2.2.2.2.2.2.2.2.2.1, HX.out.c.at0.1⟩, ?_⟩ | refine ⟨HX.out.c.at0.2.2.2.2.2.2.2.2.2.2.2.2.2.2.2.2.1, HX.out.c.at0.1, ?_⟩
    refine Plan.plan_done ?_
    have x1 := HX.out.c.k1
    simp only [Nat.zero_add] at x1
    go_upto_region 18 with fail
    clear x1
    apply wp_region_lit
    obtain ⟨CC, hCC⟩ : ∃ C, C = (clipC ⟨LL, 2, sa, sb, of, (of + LL + tt), 0, ByteArray.empty, 0, []⟩).toArray := ⟨_, rfl⟩
    have HCC := Lib.hid hCC
    clear hCC
    refine wpl_load HX.out.c rfl rfl rfl ?_
    rw [← HCC.out]
    simp only [Act.put, List.setIfInBounds_toArray, List.set_cons_succ, List.set_cons_zero]
    refine wpl_storeC ⟨LL, 2, sa, sb, of, (of + LL + tt), 0, ByteArray.empty, 0, []⟩ HV.out rfl rfl rfl (by rw [← HCC.out]; rfl) ?_
    have hv := HV.out.put ⟨LL, 2, sa, sb, of, (of + LL + tt), 0, ByteArray.empty, 0, []⟩
    have ht := Turn.cells g6 0 (clipC ⟨LL, 2, sa, sb, of, (of + LL + tt), 0, ByteArray.empty, 0, []⟩) w10s
    obtain ⟨wz, hwz⟩ : ∃ y, y = World.setCells w10s g6 0 (clipC ⟨LL, 2, sa, sb, of, (of + LL + tt), 0, ByteArray.empty, 0, []⟩) := ⟨_, rfl⟩
    rw [← hwz] at hv ht ⊢
    replace HU := Lib.hid (HU.out.into HG.out.1 HG.out.2.2.2 ht)
    replace HT := Lib.hid (HT.out.turn ht HG.out.2.1.symm HG.out.2.2.1)
    have HV9 := Lib.hid hv
    clear hv ht hwz HX HV
    simp only [Act.put, List.setIfInBounds_toArray, List.set_cons_succ, List.set_cons_zero]
    iterate 4 go_step
    refine bodyPost_ret (v := .agg CC) (by rw [HCC.out]; exact results_clip Try.results27 rfl HV9.out.c) rfl ⟨⟨_, by rw [HCC.out]; rfl, ?_⟩, TQ.of (by omega) HT.out HU.out⟩
    exact ⟨hL0, hL1, Hsa.out, Hsb.out, rfl, rfl, .inr (.inr (.inl ⟨rfl, rfl, rfl⟩)), fun _ => ⟨of0, by show of ≤ 2; omega, by show of + LL ≤ of + LL + tt; omega, by show of + LL + tt ≤ 20; omega⟩⟩
  · have x1 := HX.out.c.k1
    simp only [Nat.zero_add] at x1
    go_wp2_with fail
    refine (source_any B p (k + 1 + 1) _ HT.out (by omega)).mono ?_
    clear x1
    rintro e w7 ⟨⟨sa, rfl, hsa⟩, ⟨ksa, hksa, hT_⟩, ht⟩
    replace HU := Lib.hid (HU.out.trans ht)
    replace HV := Lib.hid (HV.out.turn ht HG.out.2.1)
    replace HX := Lib.hid (HX.out.turn ht HG7.out.2.1)
    replace HT := Lib.hid hT_
    clear hT_ ht
    have Hsa := Lib.hid hsa
    clear hsa
    dsimp only
    iterate 4 go_step
    refine wpl_storeS sa none rfl (HX.out.thereS 2 (by decide)) rfl rfl rfl rfl ?_
    have hx := HX.out.seta sa
    have ht := Turn.cells g7 2 (srcC sa) w7
    obtain ⟨w7s, hwn⟩ : ∃ y, y = World.setCells w7 g7 2 (srcC sa) := ⟨_, rfl⟩
    rw [← hwn] at hx ht ⊢
    replace HX := Lib.hid hx
    replace HU := Lib.hid (HU.out.into HG7.out.1 HG7.out.2.2.2.1 ht)
    replace HT := Lib.hid (HT.out.turn ht HG7.out.2.1.symm HG7.out.2.2.1)
    replace HV := Lib.hid (HV.out.turn ht HG7.out.2.2.2.2)
    clear hx ht hwn
    simp only [Act.put, List.setIfInBounds_toArray, List.set_cons_succ, List.set_cons_zero]
    have x1 := HX.out.c.k1
    simp only [Nat.zero_add] at x1
    go_wp2_with fail
    refine (source_any B p ksa _ HT.out (by omega)).mono ?_
    clear x1
    rintro e w8 ⟨⟨sb, rfl, hsb⟩, ⟨ksb, hksb, hT_⟩, ht⟩
    replace HU := Lib.hid (HU.out.trans ht)
    replace HV := Lib.hid (HV.out.turn ht HG.out.2.1)
    replace HX := Lib.hid (HX.out.turn ht HG7.out.2.1)
    replace HT := Lib.hid hT_
    clear hT_ ht
    have Hsb := Lib.hid hsb
    clear hsb
    dsimp only
    iterate 4 go_step
    refine wpl_storeS sb none rfl (HX.out.thereS 9 (by decide)) rfl rfl rfl rfl ?_
    have hx := HX.out.setb sb
    have ht := Turn.cells g7 9 (srcC sb) w8
    obtain ⟨w8s, hwn⟩ : ∃ y, y = World.setCells w8 g7 9 (srcC sb) := ⟨_, rfl⟩
    rw [← hwn] at hx ht ⊢
    replace HX := Lib.hid hx
    replace HU := Lib.hid (HU.out.into HG7.out.1 HG7.out.2.2.2.1 ht)
    replace HT := Lib.hid (HT.out.turn ht HG7.out.2.1.symm HG7.out.2.2.1)
    replace HV := Lib.hid (HV.out.turn ht HG7.out.2.2.2.2)
    clear hx ht hwn
    simp only [Act.put, List.setIfInBounds_toArray, List.set_cons_succ, List.set_cons_zero]
    go_wp2_with fail
    refine (next_any B p ksb 3 _ HT.out (by omega) (by omega) (by omega)).mono ?_
    rintro e w9 ⟨of, rfl, of0, of1, hT_, hg_⟩
    have ht := Turn.grown hg_ HT.out.2.1
    clear hg_
    replace HU := Lib.hid (HU.out.trans ht)
    replace HV := Lib.hid (HV.out.turn ht HG.out.2.1)
    replace HX := Lib.hid (HX.out.turn ht HG7.out.2.1)
    replace HT := Lib.hid hT_
    clear hT_ ht
    have y1 := HX.out.c.k16
    simp only [Nat.zero_add] at y1
    have yf := HX.out.f
    go_upto_region 10 with fail
    clear y1 yf
    have hx := HX.out.set_off of
    have ht := Turn.cell g7 16 (.int .i64 of) w9
    obtain ⟨w9s, hwn⟩ : ∃ y, y = World.setCell w9 ⟨g7, 16, none⟩ (.int .i64 of) := ⟨_, rfl⟩
    rw [← hwn] at hx ht ⊢
    replace HX := Lib.hid hx
    replace HU := Lib.hid (HU.out.into HG7.out.1 HG7.out.2.2.2.1 ht)
    replace HT := Lib.hid (HT.out.turn ht HG7.out.2.1.symm HG7.out.2.2.1)
    replace HV := Lib.hid (HV.out.turn ht HG7.out.2.2.2.2)
    clear hx ht hwn
    refine Plan.wp_region_plan (fun w' => w'.cell? ⟨g7, 16, none⟩ = some (.int .i64 of) ∧ w'.cell? ⟨g7, 0, none⟩ = some (.int .i64 LL)) (([0, 1, 2, 3, 4, 5].map (·, true)) ++ (([6].map (·, false)) ++ (([7, 8].map (·, true)) ++ ([9].map (·, false))))) (by kernel_rfl) (by kernel_rfl) (by kernel_rfl) ⟨(HX.out.below (Below.refl _ _).drew).c.at0.2.2.2.2.2.2.2.2.2.2.2.2.2.2.2.2.1, (HX.out.below (Below.refl _ _).drew).c.at0.1⟩ ?_
    refine' Plan.plan_seg _ [0, 1, 2, 3, 4, 5] (([6].map (·, false)) ++ (([7, 8].map (·, true)) ++ ([9].map (·, false)))) (by kernel_rfl) (by kernel_rfl) rfl (by exact ⟨(HX.out.below (Below.refl _ _).drew).c.at0.2.2.2.2.2.2.2.2.2.2.2.2.2.2.2.2.1, (HX.out.below (Below.refl _ _).drew).c.at0.1⟩) (fun wx hS => ?_) ?_
    rotate_left
    · obtain ⟨S1, S2⟩ := hS
      go_light
      iterate 6 (apply Plan.seg_pick; rfl; intro K hK; go_wp)
      exact Plan.seg_nil
    obtain ⟨wd, hwd⟩ : ∃ y, y = World.drew w9s := ⟨_, rfl⟩
    rw [← hwd]
    have hb : Below w9s.heap.size w9s wd := by rw [hwd]; exact (Below.refl _ _).drew
    replace HU := Lib.hid (HU.out.trans (Turn.of (g := p) (Nat.le_of_lt HT.out.2.1) hb))
    replace HV := Lib.hid (HV.out.below hb)
    replace HX := Lib.hid (HX.out.below hb)
    replace HT := Lib.hid (HT.out.below (Nat.le_trans HT.out.1 (Nat.le_of_lt HT.out.2.1)) hb)
    clear hb hwd
    refine Plan.plan_of_effect rfl (fun K hK => ?_)
    go_wp2_with fail
    refine (next_any B p (ksb + 1) 3 _ HT.out (by omega) (by omega) (by omega)).mono ?_
    rintro e w10 ⟨tt, rfl, tt0, tt1, hT_, hg_⟩
    have ht := Turn.grown hg_ HT.out.2.1
    clear hg_
    replace HU := Lib.hid (HU.out.trans ht)
    replace HV := Lib.hid (HV.out.turn ht HG.out.2.1)
    replace HX := Lib.hid (HX.out.turn ht HG7.out.2.1)
    replace HT := Lib.hid hT_
    clear hT_ ht
    go_wp2_with fail
    refine ⟨⟨HX.out.c.at0.2.2.2.2.2.2.2.2.2.2.2.2.2.2.2.2.1, HX.out.c.at0.1⟩, ?_⟩
    refine' Plan.plan_seg (S := (fun w' => w'.cell? ⟨g7, 16, none⟩ = some (.int .i64 of) ∧ w'.cell? ⟨g7, 0, none⟩ = some (.int .i64 LL))) _ [7, 8] ([9].map (·, false)) (by kernel_rfl) (by kernel_rfl) rfl (by exact ⟨HX.out.c.at0.2.2.2.2.2.2.2.2.2.2.2.2.2.2.2.2.1, HX.out.c.at0.1⟩) (fun wx hS => ?_) ?_
    rotate_left
    · clear hS
      go_light
      iterate 2 (apply Plan.seg_pick; rfl; intro K hK; go_wp)
      exact Plan.seg_nil
    refine Plan.plan_of_effect rfl (fun K hK => ?_)
    have y1 := HX.out.c.k17
    simp only [Nat.zero_add] at y1
    have yf := HX.out.f
    go_wp2_with fail
    clear y1 yf
    have hx := HX.out.set_total (of + LL + tt)
    have ht := Turn.cell g7 17 (.int .i64 (of + LL + tt)) w10
    obtain ⟨w10s, hwn⟩ : ∃ y, y = World.setCell w10 ⟨g7, 17, none⟩ (.int .i64 (of + LL + tt)) := ⟨_, rfl⟩
    rw [← hwn] at hx ht ⊢
    replace HX := Lib.hid hx
    replace HU := Lib.hid (HU.out.into HG7.out.1 HG7.out.2.2.2.1 ht)
    replace HT := Lib.hid (HT.out.turn ht HG7.out.2.1.symm HG7.out.2.2.1)
    replace HV := Lib.hid (HV.out.turn ht HG7.out.2.2.2.2)
    clear hx ht hwn
    first | refine ⟨⟨HX.out.c.at0.2.2.2.2.2.2.2.2.2.2.2.2.2.2.2.2.1, HX.out.c.at0.1⟩, ?_⟩ | refine ⟨HX.out.c.at0.2.2.2.2.2.2.2.2.2.2.2.2.2.2.2.2.1, HX.out.c.at0.1, ?_⟩
    refine Plan.plan_done ?_
    have x1 := HX.out.c.k1
    simp only [Nat.zero_add] at x1
    go_wp2_with fail
    refine (next_any B p (ksb + 1 + 1) 4 _ HT.out (by omega) (by omega) (by omega)).mono ?_
    clear x1
    rintro e w11 ⟨pa, rfl, pa0, pa1, hT_, hg_⟩
    have ht := Turn.grown hg_ HT.out.2.1
    clear hg_
    replace HU := Lib.hid (HU.out.trans ht)
    replace HV := Lib.hid (HV.out.turn ht HG.out.2.1)
    replace HX := Lib.hid (HX.out.turn ht HG7.out.2.1)
    replace HT := Lib.hid hT_
    clear hT_ ht
    have y1 := HX.out.c.k18
    simp only [Nat.zero_add] at y1
    have yf := HX.out.f
    go_upto_region 18 with fail
    clear y1 yf
    have hx := HX.out.set_param pa
    have ht := Turn.cell g7 18 (.int .i64 pa) w11
    obtain ⟨w11s, hwn⟩ : ∃ y, y = World.setCell w11 ⟨g7, 18, none⟩ (.int .i64 pa) := ⟨_, rfl⟩
    rw [← hwn] at hx ht ⊢
    replace HX := Lib.hid hx
    replace HU := Lib.hid (HU.out.into HG7.out.1 HG7.out.2.2.2.1 ht)
    replace HT := Lib.hid (HT.out.turn ht HG7.out.2.1.symm HG7.out.2.2.1)
    replace HV := Lib.hid (HV.out.turn ht HG7.out.2.2.2.2)
    clear hx ht hwn
    apply wp_region_lit
    obtain ⟨CC, hCC⟩ : ∃ C, C = (clipC ⟨LL, 3, sa, sb, of, (of + LL + tt), pa, ByteArray.empty, 0, []⟩).toArray := ⟨_, rfl⟩
    have HCC := Lib.hid hCC
    clear hCC
    refine wpl_load HX.out.c rfl rfl rfl ?_
    rw [← HCC.out]
    simp only [Act.put, List.setIfInBounds_toArray, List.set_cons_succ, List.set_cons_zero]
    refine wpl_storeC ⟨LL, 3, sa, sb, of, (of + LL + tt), pa, ByteArray.empty, 0, []⟩ HV.out rfl rfl rfl (by rw [← HCC.out]; rfl) ?_
    have hv := HV.out.put ⟨LL, 3, sa, sb, of, (of + LL + tt), pa, ByteArray.empty, 0, []⟩
    have ht := Turn.cells g6 0 (clipC ⟨LL, 3, sa, sb, of, (of + LL + tt), pa, ByteArray.empty, 0, []⟩) w11s
    obtain ⟨wz, hwz⟩ : ∃ y, y = World.setCells w11s g6 0 (clipC ⟨LL, 3, sa, sb, of, (of + LL + tt), pa, ByteArray.empty, 0, []⟩) := ⟨_, rfl⟩
    rw [← hwz] at hv ht ⊢
    replace HU := Lib.hid (HU.out.into HG.out.1 HG.out.2.2.2 ht)
    replace HT := Lib.hid (HT.out.turn ht HG.out.2.1.symm HG.out.2.2.1)
    have HV9 := Lib.hid hv
    clear hv ht hwz HX HV
    simp only [Act.put, List.setIfInBounds_toArray, List.set_cons_succ, List.set_cons_zero]
    iterate 4 go_step
    refine bodyPost_ret (v := .agg CC) (by rw [HCC.out]; exact results_clip Try.results27 rfl HV9.out.c) rfl ⟨⟨_, by rw [HCC.out]; rfl, ?_⟩, TQ.of (by omega) HT.out HU.out⟩
    exact ⟨hL0, hL1, Hsa.out, Hsb.out, rfl, rfl, .inr (.inr (.inr (.inl ⟨rfl, pa0, by show pa ≤ 3; omega, rfl⟩))), fun _ => ⟨of0, by show of ≤ 2; omega, by show of + LL ≤ of + LL + tt; omega, by show of + LL + tt ≤ 20; omega⟩⟩
  · have x1 := HX.out.c.k1
    simp only [Nat.zero_add] at x1
    go_wp2_with fail
    refine (source_any B p (k + 1 + 1) _ HT.out (by omega)).mono ?_
    clear x1
    rintro e w7 ⟨⟨sa, rfl, hsa⟩, ⟨ksa, hksa, hT_⟩, ht⟩
    replace HU := Lib.hid (HU.out.trans ht)
    replace HV := Lib.hid (HV.out.turn ht HG.out.2.1)
    replace HX := Lib.hid (HX.out.turn ht HG7.out.2.1)
    replace HT := Lib.hid hT_
    clear hT_ ht
    have Hsa := Lib.hid hsa
    clear hsa
    dsimp only
    iterate 4 go_step
    refine wpl_storeS sa none rfl (HX.out.thereS 2 (by decide)) rfl rfl rfl rfl ?_
    have hx := HX.out.seta sa
    have ht := Turn.cells g7 2 (srcC sa) w7
    obtain ⟨w7s, hwn⟩ : ∃ y, y = World.setCells w7 g7 2 (srcC sa) := ⟨_, rfl⟩
    rw [← hwn] at hx ht ⊢
    replace HX := Lib.hid hx
    replace HU := Lib.hid (HU.out.into HG7.out.1 HG7.out.2.2.2.1 ht)
    replace HT := Lib.hid (HT.out.turn ht HG7.out.2.1.symm HG7.out.2.2.1)
    replace HV := Lib.hid (HV.out.turn ht HG7.out.2.2.2.2)
    clear hx ht hwn
    simp only [Act.put, List.setIfInBounds_toArray, List.set_cons_succ, List.set_cons_zero]
    have x1 := HX.out.c.k1
    simp only [Nat.zero_add] at x1
    go_wp2_with fail
    refine (source_any B p ksa _ HT.out (by omega)).mono ?_
    clear x1
    rintro e w8 ⟨⟨sb, rfl, hsb⟩, ⟨ksb, hksb, hT_⟩, ht⟩
    replace HU := Lib.hid (HU.out.trans ht)
    replace HV := Lib.hid (HV.out.turn ht HG.out.2.1)
    replace HX := Lib.hid (HX.out.turn ht HG7.out.2.1)
    replace HT := Lib.hid hT_
    clear hT_ ht
    have Hsb := Lib.hid hsb
    clear hsb
    dsimp only
    iterate 4 go_step
    refine wpl_storeS sb none rfl (HX.out.thereS 9 (by decide)) rfl rfl rfl rfl ?_
    have hx := HX.out.setb sb
    have ht := Turn.cells g7 9 (srcC sb) w8
    obtain ⟨w8s, hwn⟩ : ∃ y, y = World.setCells w8 g7 9 (srcC sb) := ⟨_, rfl⟩
    rw [← hwn] at hx ht ⊢
    replace HX := Lib.hid hx
    replace HU := Lib.hid (HU.out.into HG7.out.1 HG7.out.2.2.2.1 ht)
    replace HT := Lib.hid (HT.out.turn ht HG7.out.2.1.symm HG7.out.2.2.1)
    replace HV := Lib.hid (HV.out.turn ht HG7.out.2.2.2.2)
    clear hx ht hwn
    simp only [Act.put, List.setIfInBounds_toArray, List.set_cons_succ, List.set_cons_zero]
    go_wp2_with fail
    refine (next_any B p ksb 256 _ HT.out (by omega) (by omega) (by omega)).mono ?_
    rintro e w9 ⟨pa, rfl, pa0, pa1, hT_, hg_⟩
    have ht := Turn.grown hg_ HT.out.2.1
    clear hg_
    replace HU := Lib.hid (HU.out.trans ht)
    replace HV := Lib.hid (HV.out.turn ht HG.out.2.1)
    replace HX := Lib.hid (HX.out.turn ht HG7.out.2.1)
    replace HT := Lib.hid hT_
    clear hT_ ht
    have y1 := HX.out.c.k18
    simp only [Nat.zero_add] at y1
    have yf := HX.out.f
    go_upto_region 18 with fail
    clear y1 yf
    have hx := HX.out.set_param pa
    have ht := Turn.cell g7 18 (.int .i64 pa) w9
    obtain ⟨w9s, hwn⟩ : ∃ y, y = World.setCell w9 ⟨g7, 18, none⟩ (.int .i64 pa) := ⟨_, rfl⟩
    rw [← hwn] at hx ht ⊢
    replace HX := Lib.hid hx
    replace HU := Lib.hid (HU.out.into HG7.out.1 HG7.out.2.2.2.1 ht)
    replace HT := Lib.hid (HT.out.turn ht HG7.out.2.1.symm HG7.out.2.2.1)
    replace HV := Lib.hid (HV.out.turn ht HG7.out.2.2.2.2)
    clear hx ht hwn
    apply wp_region_lit
    obtain ⟨CC, hCC⟩ : ∃ C, C = (clipC ⟨LL, 4, sa, sb, 0, 0, pa, ByteArray.empty, 0, []⟩).toArray := ⟨_, rfl⟩
    have HCC := Lib.hid hCC
    clear hCC
    refine wpl_load HX.out.c rfl rfl rfl ?_
    rw [← HCC.out]
    simp only [Act.put, List.setIfInBounds_toArray, List.set_cons_succ, List.set_cons_zero]
    refine wpl_storeC ⟨LL, 4, sa, sb, 0, 0, pa, ByteArray.empty, 0, []⟩ HV.out rfl rfl rfl (by rw [← HCC.out]; rfl) ?_
    have hv := HV.out.put ⟨LL, 4, sa, sb, 0, 0, pa, ByteArray.empty, 0, []⟩
    have ht := Turn.cells g6 0 (clipC ⟨LL, 4, sa, sb, 0, 0, pa, ByteArray.empty, 0, []⟩) w9s
    obtain ⟨wz, hwz⟩ : ∃ y, y = World.setCells w9s g6 0 (clipC ⟨LL, 4, sa, sb, 0, 0, pa, ByteArray.empty, 0, []⟩) := ⟨_, rfl⟩
    rw [← hwz] at hv ht ⊢
    replace HU := Lib.hid (HU.out.into HG.out.1 HG.out.2.2.2 ht)
    replace HT := Lib.hid (HT.out.turn ht HG.out.2.1.symm HG.out.2.2.1)
    have HV9 := Lib.hid hv
    clear hv ht hwz HX HV
    simp only [Act.put, List.setIfInBounds_toArray, List.set_cons_succ, List.set_cons_zero]
    iterate 4 go_step
    refine bodyPost_ret (v := .agg CC) (by rw [HCC.out]; exact results_clip Try.results27 rfl HV9.out.c) rfl ⟨⟨_, by rw [HCC.out]; rfl, ?_⟩, TQ.of (by omega) HT.out HU.out⟩
    exact ⟨hL0, hL1, Hsa.out, Hsb.out, rfl, rfl, .inr (.inr (.inr (.inr (.inl ⟨rfl, rfl, rfl, pa0, by show pa ≤ 255; omega, rfl⟩)))), fun h => by simp [Trk.shares] at h⟩
  · have x1 := HX.out.c.k1
    simp only [Nat.zero_add] at x1
    go_wp2_with fail
    refine (source_any B p (k + 1 + 1) _ HT.out (by omega)).mono ?_
    clear x1
    rintro e w7 ⟨⟨sa, rfl, hsa⟩, ⟨ksa, hksa, hT_⟩, ht⟩
    replace HU := Lib.hid (HU.out.trans ht)
    replace HV := Lib.hid (HV.out.turn ht HG.out.2.1)
    replace HX := Lib.hid (HX.out.turn ht HG7.out.2.1)
    replace HT := Lib.hid hT_
    clear hT_ ht
    have Hsa := Lib.hid hsa
    clear hsa
    dsimp only
    iterate 4 go_step
    refine wpl_storeS sa none rfl (HX.out.thereS 2 (by decide)) rfl rfl rfl rfl ?_
    have hx := HX.out.seta sa
    have ht := Turn.cells g7 2 (srcC sa) w7
    obtain ⟨w7s, hwn⟩ : ∃ y, y = World.setCells w7 g7 2 (srcC sa) := ⟨_, rfl⟩
    rw [← hwn] at hx ht ⊢
    replace HX := Lib.hid hx
    replace HU := Lib.hid (HU.out.into HG7.out.1 HG7.out.2.2.2.1 ht)
    replace HT := Lib.hid (HT.out.turn ht HG7.out.2.1.symm HG7.out.2.2.1)
    replace HV := Lib.hid (HV.out.turn ht HG7.out.2.2.2.2)
    clear hx ht hwn
    simp only [Act.put, List.setIfInBounds_toArray, List.set_cons_succ, List.set_cons_zero]
    have x1 := HX.out.c.k1
    simp only [Nat.zero_add] at x1
    go_upto_region 17 with fail
    clear x1
    apply wp_region_lit
    refine Great.wpList_buildSliceTo rfl 87 9 4 #[(0, .const (.string ⟨#[65]⟩)), (1, .const (.string ⟨#[82, 69, 69, 76, 32, 55]⟩)), (2, .const (.string ⟨#[116, 104, 101, 32, 101, 110, 100, 46]⟩)), (3, .const (.string ⟨#[49, 50, 58, 51, 48]⟩))] rfl _ rfl (some 66) rfl Try.underlying87 textTab ?_ ?_
    · kernel_rfl
    obtain ⟨w8, hw8⟩ : ∃ y, y = w7s.alloc (.cells textTab 9) := ⟨_, rfl⟩
    obtain ⟨gt, hgt⟩ : ∃ y, y = w7s.heap.size := ⟨_, rfl⟩
    have hb : Below w7s.heap.size w7s w8 := by rw [hw8]; exact below_box _ _
    have HTX := Lib.hid (show w8.heap[gt]? = some (.cells textTab 9 (0, 0)) by rw [hw8, hgt]; exact (MapKept.heap_alloc w7s _).1)
    have HGT := Lib.hid (show gt ≠ p by have := HT.out.2.1; omega)
    rw [← hw8, ← hgt]
    replace HU := Lib.hid (HU.out.trans (Turn.of (g := p) (Nat.le_of_lt HT.out.2.1) hb))
    replace HV := Lib.hid (HV.out.below hb)
    replace HX := Lib.hid (HX.out.below hb)
    replace HT := Lib.hid (HT.out.below (Nat.le_trans HT.out.1 (Nat.le_of_lt HT.out.2.1)) hb)
    clear hw8 hgt hb
    simp only [Act.put, List.setIfInBounds_toArray, List.set_cons_succ, List.set_cons_zero]
    go_wp2_with fail
    refine (next_any B p ksa 4 _ HT.out (by omega) (by omega) (by omega)).mono ?_
    rintro e w9 ⟨ti, rfl, ti0, ti1, hT_, hg_⟩
    have ht := Turn.grown hg_ HT.out.2.1
    replace HTX := Lib.hid ((ht.o gt (Array.getElem?_eq_some_iff.1 HTX.out).1 HGT.out).trans HTX.out)
    obtain ⟨ti, rfl⟩ : ∃ n : Nat, ti = n := ⟨ti.toNat, by omega⟩
    clear hg_
    replace HU := Lib.hid (HU.out.trans ht)
    replace HV := Lib.hid (HV.out.turn ht HG.out.2.1)
    replace HX := Lib.hid (HX.out.turn ht HG7.out.2.1)
    replace HT := Lib.hid hT_
    clear hT_ ht
    obtain ⟨tx, y2, htx⟩ := text_get HTX.out (show ti < 4 by omega)
    have HLN := Lib.hid htx
    clear htx
    have y1 := HX.out.c.k19
    simp only [Nat.zero_add] at y1
    have yf := HX.out.f
    go_upto_region 18 with fail
    clear y1 yf y2
    have hx := HX.out.set_text tx
    have ht := Turn.cell g7 19 (.string tx) w9
    obtain ⟨w9s, hwn⟩ : ∃ y, y = World.setCell w9 ⟨g7, 19, none⟩ (.string tx) := ⟨_, rfl⟩
    rw [← hwn] at hx ht ⊢
    replace HX := Lib.hid hx
    replace HU := Lib.hid (HU.out.into HG7.out.1 HG7.out.2.2.2.1 ht)
    replace HT := Lib.hid (HT.out.turn ht HG7.out.2.1.symm HG7.out.2.2.1)
    replace HV := Lib.hid (HV.out.turn ht HG7.out.2.2.2.2)
    clear hx ht hwn
    apply wp_region_lit
    obtain ⟨CC, hCC⟩ : ∃ C, C = (clipC ⟨LL, 5, sa, Trk.black, 0, 0, 0, tx, 0, []⟩).toArray := ⟨_, rfl⟩
    have HCC := Lib.hid hCC
    clear hCC
    refine wpl_load HX.out.c rfl rfl rfl ?_
    rw [← HCC.out]
    simp only [Act.put, List.setIfInBounds_toArray, List.set_cons_succ, List.set_cons_zero]
    refine wpl_storeC ⟨LL, 5, sa, Trk.black, 0, 0, 0, tx, 0, []⟩ HV.out rfl rfl rfl (by rw [← HCC.out]; rfl) ?_
    have hv := HV.out.put ⟨LL, 5, sa, Trk.black, 0, 0, 0, tx, 0, []⟩
    have ht := Turn.cells g6 0 (clipC ⟨LL, 5, sa, Trk.black, 0, 0, 0, tx, 0, []⟩) w9s
    obtain ⟨wz, hwz⟩ : ∃ y, y = World.setCells w9s g6 0 (clipC ⟨LL, 5, sa, Trk.black, 0, 0, 0, tx, 0, []⟩) := ⟨_, rfl⟩
    rw [← hwz] at hv ht ⊢
    replace HU := Lib.hid (HU.out.into HG.out.1 HG.out.2.2.2 ht)
    replace HT := Lib.hid (HT.out.turn ht HG.out.2.1.symm HG.out.2.2.1)
    have HV9 := Lib.hid hv
    clear hv ht hwz HX HV
    simp only [Act.put, List.setIfInBounds_toArray, List.set_cons_succ, List.set_cons_zero]
    iterate 4 go_step
    refine bodyPost_ret (v := .agg CC) (by rw [HCC.out]; exact results_clip Try.results27 rfl HV9.out.c) rfl ⟨⟨_, by rw [HCC.out]; rfl, ?_⟩, TQ.of (by omega) HT.out HU.out⟩
    exact ⟨hL0, hL1, Hsa.out, .inl rfl, rfl, rfl, .inr (.inr (.inr (.inr (.inr ⟨rfl, rfl, rfl, rfl, rfl, HLN.out⟩)))), fun h => by simp [Trk.shares] at h⟩
end Go.Proofs.Ytnmkcpgcdjhdjaa

/- The contract of the tape's Track with three media and two sequences. -/
namespace Go.Proofs.Ytnmkcpgcdjhdjaa
open Go.RowKit
set_option linter.unusedVariables false
set_option linter.unusedSimpArgs false
/-- A clip that is at most nine frames long. -/
def Short (c : Trk.Clip) : Prop := Trk.VC 1000000 c ∧ c.len ≤ 9
theorem TapeC.short {c : Trk.Clip} (h : TapeC c) : Short c := ⟨h.vc, h.l1⟩
/-- The second half of a clip that is split in two. -/
theorem half_short {c : Trk.Clip} {m : Int} (h : TapeC c) (m0 : 1 ≤ m) (m1 : m ≤ 4) (k2 : c.kind ≠ 2) (k3 : c.kind ≠ 3) (s0 : c.a.sn = 1) (s1 : c.a.sd = 1) (hb : c.b = Trk.black) :
    Short { c with len := m, a := { c.a with an := c.a.an + c.len * c.a.ad } } := by
  have l0 := h.l0
  have l1 := h.l1
  have hsh : Trk.shares c.kind = false := by unfold Trk.shares; simp [k2, k3]
  rcases h.a with e | ⟨h1, h2, h3, h4, h5, h6, h7⟩
  · rw [e] at s0
    exact absurd s0 (by decide)
  · have g := h1.g
    have hv : Trk.svel c.a = 6006 := by unfold Trk.svel; rw [s0, s1]; rfl
    have hp : Trk.spos { c.a with an := c.a.an + c.len * c.a.ad } = Trk.spos c.a + c.len * 6006 := by
      show (c.a.an + c.len * c.a.ad) * (6006 / c.a.ad) = c.a.an * (6006 / c.a.ad) + c.len * 6006
      have e := Int.mul_ediv_cancel' h1.a
      rw [Int.add_mul, Int.mul_assoc, e]
    have hv2 : Trk.svel { c.a with an := c.a.an + c.len * c.a.ad } = 6006 := hv
    have hg : Trk.Good { c.a with an := c.a.an + c.len * c.a.ad } := by
      refine ⟨g.k, g.a0, ?_, g.s0, g.s1⟩
      have e1 : Int.gcd (c.a.an + c.len * c.a.ad) c.a.ad = Int.gcd c.a.an c.a.ad := by rw [Int.gcd_add_mul_right_left]
      have e2 : ∀ n d : Int, 1 ≤ d → n.natAbs.gcd d.toNat = Int.gcd n d := fun n d hd => by
        show n.natAbs.gcd d.toNat = n.natAbs.gcd d.natAbs
        congr 1
        omega
      show (c.a.an + c.len * c.a.ad).natAbs.gcd c.a.ad.toNat = 1
      rw [e2 _ _ g.a0, e1, ← e2 _ _ g.a0]
      exact g.a1
    refine ⟨⟨⟨.inr ⟨⟨hg, h1.a, h1.s⟩, h2, h3, by rw [hv2]; decide, by rw [hv2]; decide, by rw [hp]; omega, by rw [hp]; omega, ?_, ?_⟩, tape_in h.b (show 0 ≤ m by omega) (show m ≤ 32 by omega), h.ch, h.gn, ?_⟩, m0, show m ≤ 2147483647 by omega, fun hs => ?_⟩, show m ≤ 9 by omega⟩
    · rw [hp, hv2]; show _ ≤ _ + m * 6006; omega
    · rw [hp, hv2]; show _ + m * 6006 ≤ _; omega
    · have k := h.kd
      unfold Trk.KindOK at k ⊢
      rcases k with ⟨k0, ka, _⟩ | k | k | k | k | k
      · exact absurd (h2) (by rw [ka]; decide)
      · exact .inr (.inl k)
      · exact .inr (.inr (.inl k))
      · exact .inr (.inr (.inr (.inl k)))
      · exact .inr (.inr (.inr (.inr (.inl k))))
      · exact .inr (.inr (.inr (.inr (.inr k))))
    · have hs' : Trk.shares c.kind = true := hs
      rw [hsh] at hs'
      cases hs'
theorem CV.set_an {w : World} {b : Nat} {c : Trk.Clip} (h : CV w b c) (v : Int) : CV (w.setCell ⟨b, 4, none⟩ (.int .i64 v)) b { c with a := { c.a with an := v } } := by
  obtain ⟨h0, f⟩ := h
  obtain ⟨x0, x1, x2, x3, x4, x5, x6, x7, x8, x9, x10, x11, x12, x13, x14, x15, x16, x17, x18, x19, x20, x21⟩ := h0.at0
  exact ⟨by constructor <;> simp [go_sem, x0, x1, x2, x3, x4, x5, x6, x7, x8, x9, x10, x11, x12, x13, x14, x15, x16, x17, x18, x19, x20, x21], fun o => (World.frozen?_setCell _ _ _ _).trans (f o)⟩
theorem Turn.low {w w1 w2 : World} {p : Nat} (h : Turn p w w1) (hp : p < w.heap.size) (hb : Below w.heap.size w1 w2) : Turn p w w2 :=
  ⟨Nat.le_trans h.s hb.size, fun b hbw hn => (hb.block b hbw).trans (h.o b hbw hn), fun n w0 hn hbb => (h.b n w0 hn hbb).trans (hb.mono (by omega))⟩
theorem TP.low {w w' : World} {B p k n : Nat} (h : TP w B p k) (hB : B ≤ n) (hp : p < n) (hb : Below n w w') : TP w' B p k := by
  obtain ⟨h1, h2, ao, m, c, c0, c1, hf, h3, h4, h5⟩ := h
  refine ⟨h1, Nat.lt_of_lt_of_le h2 hb.size, ao, m, c, (hb.cell hp).trans c0, (hb.cell hp).trans c1, (hb.frozen (p := ⟨p, 1, none⟩) hp).trans hf, h3, h4, fun i hi => ?_⟩
  obtain ⟨b, o, x, e, hbB, hc⟩ := h5 i hi
  exact ⟨b, o, x, e, hbB, (hb.cell (Nat.lt_of_lt_of_le hbB hB)).trans hc⟩
theorem OT.turn {w w' : World} {B p : Nat} {v : Value} {l : List Trk.Clip} (h : OT w B v l) (ht : Turn p w w') (hp : p < B) : OT w' B v l :=
  h.blocks fun g kk cp e => ht.o g (h.blk e).2 (by have := (h.blk e).1; omega)
def ShortL (l : List Trk.Clip) : Prop := ∀ c ∈ l, Short c
theorem ShortL.snoc {l : List Trk.Clip} {c : Trk.Clip} (h : ShortL l) (hc : Short c) : ShortL (l ++ [c]) := fun x hx => by
  rcases List.mem_append.1 hx with hx | hx
  · exact h x hx
  · simp at hx; subst hx; exact hc
def TrackPost (w : World) (B p k j n : Nat) (e : Ending) (w' : World) : Prop := (∃ v l, e = .returned v ∧ OT w' w.heap.size v l ∧ ShortL l ∧ l.length ≤ n) ∧ TQ w B p k j w'
set_option maxRecDepth 100000 in
set_option maxHeartbeats 16000000 in
theorem track_any (B p k m : Nat) (w : World) (ht : TP w B p k) (hk : k < 500000) (hm : m ≤ 20) :
    Calls Try.prog 26 #[.pointer (some ⟨p, 0, none⟩), .int .i64 3, .int .i64 2, .int .i64 (m : Int)] w (TrackPost w B p k (1 + m * 30) (2 * m)) := by
  have HT := Lib.hid ht
  have hB := ht.1
  have hp := ht.2.1
  clear ht
  go_enter Try.func26, Try.ntmps26
  go_wp2_with fail
  refine (next_any B p k ((m : Int) + 1) _ HT.out (by omega) (by omega) (by omega)).mono ?_
  rintro e w1 ⟨r, rfl, r0, r1, hT_, hg_⟩
  obtain ⟨r, rfl⟩ : ∃ n : Nat, r = n := ⟨r.toNat, by omega⟩
  have HU := Lib.hid (Turn.grown hg_ HT.out.2.1)
  replace HT := Lib.hid hT_
  have hrm : r ≤ m := by omega
  clear hT_ hg_ r0 r1
  go_wp2_with fail
  go_loopw [9, 10] (fun v9 v10 wr => ∃ (j k' : Nat) (l : List Trk.Clip), j ≤ r ∧ v10 = .int .i64 (j : Int) ∧ OT wr w.heap.size v9 l ∧ Hid (ShortL l) ∧ l.length + 2 * j ≤ 2 * r ∧ k' + j * 30 ≤ k + 1 + r * 30 ∧ TP wr B p k' ∧ Turn p w wr) (fun _ i _ => (intOf i).toNat)
  case atStart => exact ⟨r, k + 1, [], Nat.le_refl _, rfl, OT.nil _ _, Lib.hid (fun c hc => by cases hc), by simp, by omega, HT.out, HU.out⟩
  case round =>
    clear HT HU
    obtain ⟨j, k', l, hj, rfl, ho, HSL, hlen, hk', ht, hu⟩ := hrel
    have HO := Lib.hid ho
    have HT := Lib.hid ht
    have HU := Lib.hid hu
    clear ho ht hu
    by_cases hj0 : 0 < j
    · have hj0' : (0 : Int) < (j : Int) := by omega
      go_wp2_with fail
      refine (clip_any B p k' _ HT.out (by omega)).mono ?_
      rintro e w2 ⟨⟨c, rfl, hc⟩, ⟨k2, hk2, hT_⟩, ht⟩
      replace HU := Lib.hid (HU.out.trans ht)
      replace HO := Lib.hid (HO.out.turn ht hp)
      replace HT := Lib.hid hT_
      have HC := Lib.hid hc
      clear hT_ ht hc
      unfold clipV
      obtain ⟨C, hC⟩ : ∃ C, C = (clipC c).toArray := ⟨_, rfl⟩
      rw [← hC]
      have HCC := Lib.hid hC
      clear hC
      dsimp only
      iterate 1 go_step
      refine wpl_alloc rfl rfl (fun w3 hg hb2 hs2 => ?_)
      obtain ⟨g11, hg11⟩ : ∃ y, y = w2.heap.size := ⟨_, rfl⟩
      rw [← hg11] at hg ⊢
      have HNO := Lib.hid (show ∀ g kk cp, u9 = .slice (some ⟨g, 0, none⟩) kk cp → g < g11 from fun g kk cp e => by rw [hg11]; exact (HO.out.blk e).2)
      have HG := Lib.hid (show w.heap.size ≤ g11 ∧ g11 ≠ p by have h1 := HT.out.2.1; have h2 := HU.out.s; omega)
      replace HO := Lib.hid (HO.out.below hb2)
      replace HU := Lib.hid (HU.out.low hp (hb2.mono HU.out.s))
      replace HT := Lib.hid (HT.out.below (Nat.le_trans HT.out.1 (Nat.le_of_lt HT.out.2.1)) hb2)
      clear hb2 hs2
      simp only [Act.put, List.setIfInBounds_toArray, List.set_cons_succ, List.set_cons_zero]
      refine wpl_storeC c hg rfl rfl rfl (by rw [← HCC.out]; rfl) ?_
      have hv := hg.put c
      have ht := Turn.cells g11 0 (clipC c) w3
      have hb3 : Below w.heap.size w3 (w3.setCells g11 0 (clipC c)) := ht.b _ _ HG.out.1 (Below.refl _ _)
      obtain ⟨w4, hw4⟩ : ∃ y, y = w3.setCells g11 0 (clipC c) := ⟨_, rfl⟩
      rw [← hw4] at hv ht hb3 ⊢
      have HX := Lib.hid hv
      replace HO := Lib.hid (HO.out.blocks (fun g kk cp e => ht.o g (by have := HNO.out g kk cp e; have := hg.lt; omega) (by have := HNO.out g kk cp e; omega)))
      replace HU := Lib.hid (HU.out.low hp hb3)
      replace HT := Lib.hid (HT.out.low (show B ≤ w.heap.size by omega) hp hb3)
      clear hv ht hw4 hg hg11 hb3
      simp only [Act.put, List.setIfInBounds_toArray, List.set_cons_succ, List.set_cons_zero]
      go_upto_region 6 with fail
      apply wp_region_lit
      iterate 3 go_step
      refine wpl_load HX.out.c rfl rfl rfl ?_
      rw [← HCC.out]
      simp only [Act.put, List.setIfInBounds_toArray, List.set_cons_succ, List.set_cons_zero]
      refine Great.wpList_buildSliceTo rfl 35 53 1 #[(0, .tmp 27)] rfl w4.heap.size rfl _ rfl Try.underlying35 C ?_ ?_
      · simp only [List.map_toArray, List.map_cons, List.map_nil, List.toList_toArray]
        rw [HCC.out]
        exact built_clip c
      have hbx : CA (w4.alloc (.cells C 53)) w4.heap.size 0 c := by rw [HCC.out]; exact CA.box w4 c 53
      have hb : Below w4.heap.size w4 (w4.alloc (.cells C 53)) := below_box _ _
      have hsz : w.heap.size ≤ (w4.alloc (.cells C 53)).heap.size := Nat.le_trans HU.out.s hb.size
      replace HO := Lib.hid (HO.out.below hb)
      have HBX := Lib.hid hb
      clear hb
      simp only [Act.put, List.setIfInBounds_toArray, List.set_cons_succ, List.set_cons_zero]
      refine wpList_appT 35 Try.underlying35 _ rfl (.tmp 26) (.tmp 28) rfl rfl w.heap.size u9 l rfl HO.out hsz w4.heap.size 1 c rfl hbx (by have := hlen; simp; omega) ?_
      intro vn w5 r1 r2 r3 r4
      simp only [Act.put, List.setIfInBounds_toArray, List.set_cons_succ, List.set_cons_zero]
      have hbl : Below w.heap.size w4 w5 := (HBX.out.mono HU.out.s).trans r2
      replace HX := Lib.hid (HX.out.same ((r3 g11 (Nat.lt_of_lt_of_le HX.out.lt HBX.out.size) (fun g cp e => by have := HNO.out g _ cp e; omega)).trans (HBX.out.block g11 HX.out.lt)))
      replace HO := Lib.hid r1
      replace HU := Lib.hid (HU.out.low hp hbl)
      replace HT := Lib.hid (HT.out.low (show B ≤ w.heap.size by omega) hp hbl)
      clear r1 r2 r3 r4 hbl hbx hsz HBX HNO
      go_wp2_with fail
      refine (next_any B p k2 4 _ HT.out (by omega) (by omega) (by omega)).mono ?_
      rintro e w6 ⟨q, rfl, q0, q1, hT_, hg_⟩
      have ht := Turn.grown hg_ HT.out.2.1
      replace HU := Lib.hid (HU.out.trans ht)
      replace HO := Lib.hid (HO.out.turn ht hp)
      replace HX := Lib.hid (HX.out.turn ht HG.out.2)
      replace HT := Lib.hid hT_
      clear hT_ hg_ ht
      obtain ⟨va, vc, rfl⟩ : ∃ va vc, vn = .slice va (l.length + 1) vc := by
        obtain ⟨ao, cp, e, _⟩ := HO.out.tk
        rw [List.length_append] at e
        exact ⟨ao, cp, e⟩
      obtain ⟨N, hN⟩ : ∃ N, N = l.length := ⟨_, rfl⟩
      rw [← hN] at HO hlen ⊢
      have HNL := Lib.hid hN
      clear hN
      have hN64 : ((N : Int) + 1) < 64 := by omega
      by_cases hq0 : q = 0
      · subst hq0
        go_upto_region 9 with fail
        apply wp_region_lit
        refine wpl_load HX.out.c rfl rfl rfl ?_
        rw [← HCC.out]
        refine wpl_alloc rfl rfl (fun w7 hg hb2 hs2 => ?_)
        obtain ⟨g13, hg13⟩ : ∃ y, y = w6.heap.size := ⟨_, rfl⟩
        rw [← hg13] at hg ⊢
        have HNO := Lib.hid (show ∀ g kk cp, Value.slice va (N + 1) vc = .slice (some ⟨g, 0, none⟩) kk cp → g < g13 from fun g kk cp e => by rw [hg13]; exact (HO.out.blk e).2)
        have HG3 := Lib.hid (show w.heap.size ≤ g13 ∧ g13 ≠ p ∧ g11 ≠ g13 by have h1 := HT.out.2.1; have h2 := HU.out.s; have h3 := HX.out.lt; omega)
        replace HO := Lib.hid (HO.out.below hb2)
        replace HX := Lib.hid (HX.out.below hb2)
        replace HU := Lib.hid (HU.out.low hp (hb2.mono HU.out.s))
        replace HT := Lib.hid (HT.out.below (Nat.le_trans HT.out.1 (Nat.le_of_lt HT.out.2.1)) hb2)
        clear hb2 hs2
        simp only [Act.put, List.setIfInBounds_toArray, List.set_cons_succ, List.set_cons_zero]
        refine wpl_storeC c hg rfl rfl rfl (by rw [← HCC.out]; rfl) ?_
        have hv := hg.put c
        have ht := Turn.cells g13 0 (clipC c) w7
        have hb3 : Below w.heap.size w7 (w7.setCells g13 0 (clipC c)) := ht.b _ _ HG3.out.1 (Below.refl _ _)
        obtain ⟨w8, hw8⟩ : ∃ y, y = w7.setCells g13 0 (clipC c) := ⟨_, rfl⟩
        rw [← hw8] at hv ht hb3 ⊢
        have HY := Lib.hid hv
        replace HO := Lib.hid (HO.out.blocks (fun g kk cp e => ht.o g (by have := HNO.out g kk cp e; have := hg.lt; omega) (by have := HNO.out g kk cp e; omega)))
        replace HX := Lib.hid (HX.out.turn ht HG3.out.2.2)
        replace HU := Lib.hid (HU.out.low hp hb3)
        replace HT := Lib.hid (HT.out.low (show B ≤ w.heap.size by omega) hp hb3)
        clear hv ht hw8 hg hg13 hb3
        simp only [Act.put, List.setIfInBounds_toArray, List.set_cons_succ, List.set_cons_zero]
        go_wp2_with fail
        refine (next_any B p (k2 + 1) 4 _ HT.out (by omega) (by omega) (by omega)).mono ?_
        rintro e w9 ⟨i, rfl, i0, i1, hT_, hg_⟩
        have ht := Turn.grown hg_ HT.out.2.1
        replace HU := Lib.hid (HU.out.trans ht)
        replace HO := Lib.hid (HO.out.turn ht hp)
        replace HX := Lib.hid (HX.out.turn ht HG.out.2)
        replace HY := Lib.hid (HY.out.turn ht HG3.out.2.1)
        replace HT := Lib.hid hT_
        clear hT_ hg_ ht
        have y1 := HY.out.c.k0
        have yf := HY.out.f
        go_upto_region 11 with fail
        clear y1 yf
        obtain ⟨ml, hml⟩ : ∃ y, y = 1 + i := ⟨_, rfl⟩
        rw [← hml]
        have hml0 : 1 ≤ ml := by omega
        have hml1 : ml ≤ 4 := by omega
        clear hml i0 i1
        have hv := HY.out.set_len ml
        have ht := Turn.cell g13 0 (.int .i64 ml) w9
        have hb3 : Below w.heap.size w9 (w9.setCell ⟨g13, 0, none⟩ (.int .i64 ml)) := ht.b _ _ HG3.out.1 (Below.refl _ _)
        obtain ⟨w10, hw10⟩ : ∃ y, y = w9.setCell ⟨g13, 0, none⟩ (.int .i64 ml) := ⟨_, rfl⟩
        rw [← hw10] at hv ht hb3 ⊢
        replace HO := Lib.hid (HO.out.blocks (fun g kk cp e => ht.o g (HO.out.blk e).2 (by have := HNO.out g kk cp e; omega)))
        replace HX := Lib.hid (HX.out.turn ht HG3.out.2.2)
        replace HY := Lib.hid hv
        replace HU := Lib.hid (HU.out.low hp hb3)
        replace HT := Lib.hid (HT.out.low (show B ≤ w.heap.size by omega) hp hb3)
        clear hv ht hw10 hb3
        go_cut [64] from 44 to 83 (fun v64 wx => ∃ tb : Bool, v64 = .bool tb ∧ Hid (tb = true → c.kind ≠ 2 ∧ c.kind ≠ 3 ∧ c.a.sn = 1 ∧ c.a.sd = 1 ∧ c.b = Trk.black) ∧ wx = w10)
        case first =>
          obtain ⟨_, x1, _, _, _, _, x6, x7, _, x9, x10, x11, x12, x13, x14, x15, _⟩ := HX.out.c.at0
          have hbk : c.b = Trk.black ∨ c.b.kind = 1 ∨ c.b.kind = 2 := by rcases HC.out.b with h | h; exact .inl h; exact .inr h.2.1
          have HBK := Lib.hid hbk
          clear hbk
          obtain ⟨kd, hkd⟩ : ∃ y, y = c.kind := ⟨_, rfl⟩
          obtain ⟨sn, hsn⟩ : ∃ y, y = c.a.sn := ⟨_, rfl⟩
          obtain ⟨sd, hsd⟩ : ∃ y, y = c.a.sd := ⟨_, rfl⟩
          rw [← hkd] at x1
          rw [← hsn] at x6
          rw [← hsd] at x7
          have HEQ := Lib.hid (And.intro hkd (And.intro hsn hsd))
          clear hkd hsn hsd
          by_cases k2' : kd = 2
          · have f2 : (kd != 2) = false := by simp [k2']
            clear k2'
            go_wp2_with fail
            all_goals go_meet
            all_goals exact ⟨_, rfl, Lib.hid (fun h => by cases h), rfl⟩
          have f2 : (kd != 2) = true := by simp [k2']
          by_cases k3' : kd = 3
          · have f3 : (kd != 3) = false := by simp [k3']
            clear k2' k3'
            go_wp2_with fail
            all_goals go_meet
            all_goals exact ⟨_, rfl, Lib.hid (fun h => by cases h), rfl⟩
          have f3 : (kd != 3) = true := by simp [k3']
          have HKK := Lib.hid (And.intro k2' k3')
          clear k2' k3'
          by_cases s1 : sn = 1
          · by_cases s2 : sd = 1
            · have HSS := Lib.hid (And.intro s1 s2)
              subst s1
              subst s2
              rcases HBK.out with hb | hb
              · rw [hb] at x9 x10 x11 x12 x13 x14 x15
                simp only [Trk.black, show (ByteArray.empty : ByteArray) = ⟨#[]⟩ from rfl] at x9 x10 x11 x12 x13 x14 x15
                have HBB := Lib.hid hb
                clear hb
                go_wp2_with fail
                all_goals go_meet
                all_goals exact ⟨_, rfl, Lib.hid (fun h => ⟨by rw [← HEQ.out.1]; exact HKK.out.1, by rw [← HEQ.out.1]; exact HKK.out.2, HEQ.out.2.1.symm, HEQ.out.2.2.symm, HBB.out⟩), rfl⟩
              · obtain ⟨bk, hbk⟩ : ∃ y, y = c.b.kind := ⟨_, rfl⟩
                rw [← hbk] at x9 hb
                have hb0 : (bk == 0) = false := by rcases hb with h | h <;> simp [h]
                have hb1 : ¬ bk = 0 := by simpa using hb0
                clear hb hbk
                go_wp2_with fail
                all_goals go_meet
                all_goals exact ⟨_, rfl, Lib.hid (fun h => by first | cases h | (simp at h)), rfl⟩
            · have g2 : (sd == 1) = false := by simpa using s2
              go_wp2_with fail
              all_goals go_meet
              all_goals exact ⟨_, rfl, Lib.hid (fun h => by first | cases h | (simp at h)), rfl⟩
          · have g1 : (sn == 1) = false := by simpa using s1
            go_wp2_with fail
            all_goals go_meet
            all_goals exact ⟨_, rfl, Lib.hid (fun h => by first | cases h | (simp at h)), rfl⟩
        obtain ⟨tb, rfl, HTB, rfl⟩ := hcut
        cases tb
        · go_wp2_with fail
          go_roundw
          case rel => exact ⟨j - 1, k2 + 1 + 1, l ++ [c], by omega, by congr 1; omega, HO.out, Lib.hid (HSL.out.snoc HC.out.short), by rw [List.length_append, ← HNL.out]; show N + 1 + 2 * (j - 1) ≤ _; omega, by omega, HT.out, HU.out⟩
          case measure =>
            show ((j : Int) - 1).toNat < ((j : Int)).toNat
            omega
        · obtain ⟨c2, c3, cs, cd, cb⟩ := HTB.out rfl
          have HHS := Lib.hid (half_short HC.out hml0 hml1 c2 c3 cs cd cb)
          have hml9 := HC.out.l1
          have hml8 := HC.out.l0
          have han : 0 ≤ c.a.an ∧ c.a.an ≤ 1000000 ∧ 0 ≤ c.a.ad ∧ c.a.ad ≤ 6006 := by
            rcases tape_in HC.out.a (show (0 : Int) ≤ 1 by decide) (by decide) with e | h
            · rw [e] at cs; exact absurd cs (by decide)
            · have h1 := h.nums
              have h2 : 0 ≤ c.a.an := by
                rcases HC.out.a with e | ⟨g1, _, _, _, _, g6, _⟩
                · rw [e] at cs; exact absurd cs (by decide)
                · unfold Trk.spos at g6
                  have hq : 0 < 6006 / c.a.ad := Int.ediv_pos_of_pos_of_dvd (by decide) (by omega) g1.a
                  rcases Int.lt_or_le c.a.an 0 with hn | hn
                  · have := Int.mul_neg_of_neg_of_pos hn hq
                    omega
                  · exact hn
              omega
          obtain ⟨ha0, ha1, ha2, ha3⟩ := han
          have hmu := Trk.mul_bound0 (d := c.len) (D := 9) (v := c.a.ad) (V := 6006) (by omega) (by omega) (by omega) ha3
          obtain ⟨hmu0, hmu1⟩ := hmu
          have y0 := HX.out.c.k0
          have z4 := HY.out.c.k4
          have z5 := HY.out.c.k5
          simp only [Nat.zero_add] at z4 z5
          have yf := HY.out.f
          have c4 : ({ c with len := ml } : Trk.Clip).a.an = c.a.an := rfl
          have c5 : ({ c with len := ml } : Trk.Clip).a.ad = c.a.ad := rfl
          rw [c4] at z4
          rw [c5] at z5
          clear c2 c3 cs cd cb c4 c5
          go_upto_region 13 with fail
          clear y0 z4 z5 yf
          have hv := HY.out.set_an (c.a.an + c.len * c.a.ad)
          have ht := Turn.cell g13 4 (.int .i64 (c.a.an + c.len * c.a.ad)) wc
          have hb3 : Below w.heap.size wc (wc.setCell ⟨g13, 4, none⟩ (.int .i64 (c.a.an + c.len * c.a.ad))) := ht.b _ _ HG3.out.1 (Below.refl _ _)
          obtain ⟨w11, hw11⟩ : ∃ y, y = wc.setCell ⟨g13, 4, none⟩ (.int .i64 (c.a.an + c.len * c.a.ad)) := ⟨_, rfl⟩
          rw [← hw11] at hv ht hb3 ⊢
          replace HO := Lib.hid (HO.out.blocks (fun g kk cp e => ht.o g (HO.out.blk e).2 (by have := HNO.out g kk cp e; omega)))
          replace HY := Lib.hid hv
          replace HU := Lib.hid (HU.out.low hp hb3)
          replace HT := Lib.hid (HT.out.low (show B ≤ w.heap.size by omega) hp hb3)
          clear hv ht hw11 hb3 hmu0 hmu1 ha0 ha1 ha2 ha3 HX HCC
          obtain ⟨dd, hdd⟩ : ∃ dd : Trk.Clip, dd = { c with len := ml, a := { c.a with an := c.a.an + c.len * c.a.ad } } := ⟨_, rfl⟩
          replace HY := Lib.hid (show CV w11 g13 dd by rw [hdd]; exact HY.out)
          rw [← hdd] at HHS
          clear hdd
          obtain ⟨E, hE⟩ : ∃ C, C = (clipC dd).toArray := ⟨_, rfl⟩
          have HEE := Lib.hid hE
          clear hE
          apply wp_region_lit
          iterate 3 go_step
          refine wpl_load HY.out.c rfl rfl rfl ?_
          rw [← HEE.out]
          simp only [Act.put, List.setIfInBounds_toArray, List.set_cons_succ, List.set_cons_zero]
          refine Great.wpList_buildSliceTo rfl 35 53 1 #[(0, .tmp 81)] rfl w11.heap.size rfl _ rfl Try.underlying35 E ?_ ?_
          · simp only [List.map_toArray, List.map_cons, List.map_nil, List.toList_toArray]
            rw [HEE.out]
            exact built_clip dd
          have hbx : CA (w11.alloc (.cells E 53)) w11.heap.size 0 dd := by rw [HEE.out]; exact CA.box w11 dd 53
          have hb : Below w11.heap.size w11 (w11.alloc (.cells E 53)) := below_box _ _
          have hsz : w.heap.size ≤ (w11.alloc (.cells E 53)).heap.size := Nat.le_trans HU.out.s hb.size
          replace HO := Lib.hid (HO.out.below hb)
          have HBX := Lib.hid hb
          clear hb
          simp only [Act.put, List.setIfInBounds_toArray, List.set_cons_succ, List.set_cons_zero]
          refine wpList_appT 35 Try.underlying35 _ rfl (.tmp 80) (.tmp 82) rfl rfl w.heap.size (.slice va (N + 1) vc) (l ++ [c]) rfl HO.out hsz w11.heap.size 1 dd rfl hbx (by have := hlen; have := HNL.out; simp; omega) ?_
          intro vm w12 r1 r2 r3 r4
          simp only [Act.put, List.setIfInBounds_toArray, List.set_cons_succ, List.set_cons_zero]
          have hbl : Below w.heap.size w11 w12 := (HBX.out.mono HU.out.s).trans r2
          replace HO := Lib.hid r1
          replace HU := Lib.hid (HU.out.low hp hbl)
          replace HT := Lib.hid (HT.out.low (show B ≤ w.heap.size by omega) hp hbl)
          clear r1 r2 r3 r4 hbl hbx hsz HBX HNO
          go_wp2_with fail
          go_roundw
          case rel => exact ⟨j - 1, k2 + 1 + 1, l ++ [c] ++ [dd], by omega, by congr 1; omega, HO.out, Lib.hid ((HSL.out.snoc HC.out.short).snoc HHS.out), by rw [List.length_append, List.length_append, ← HNL.out]; show N + 1 + 1 + 2 * (j - 1) ≤ _; omega, by omega, HT.out, HU.out⟩
          case measure =>
            show ((j : Int) - 1).toNat < ((j : Int)).toNat
            omega
      · have hqb : (q == 0) = false := by simpa using hq0
        go_wp2_with fail
        go_roundw
        case rel => exact ⟨j - 1, k2 + 1, l ++ [c], by omega, by congr 1; omega, HO.out, Lib.hid (HSL.out.snoc HC.out.short), by rw [List.length_append, ← HNL.out]; show N + 1 + 2 * (j - 1) ≤ _; omega, by omega, HT.out, HU.out⟩
        case measure =>
          show ((j : Int) - 1).toNat < ((j : Int)).toNat
          omega
    · have hj1 : j = 0 := by omega
      subst hj1
      go_wp2_with fail
      go_ret
      exact ⟨⟨_, l, rfl, HO.out, HSL.out, by omega⟩, ⟨k', by omega, HT.out⟩, HU.out⟩
end Go.Proofs.Ytnmkcpgcdjhdjaa

/- The contracts of one and made. -/
namespace Go.Proofs.Ytnmkcpgcdjhdjaa
open Go.RowKit
set_option linter.unusedVariables false
set_option linter.unusedSimpArgs false
def oneC (n : Int) (nm : ByteArray) : Trk.Clip := ⟨n, 1, ⟨1, nm, 0, 1, 1, 1, false⟩, Trk.black, 0, 0, 0, ByteArray.empty, 0, []⟩
theorem oneC_tape {n : Int} {nm : ByteArray} (h0 : 1 ≤ n) (h1 : n ≤ 9) (hn : Trk.okName nm) : TapeC (oneC n nm) :=
  ⟨h0, h1, tape_src (.inl rfl) hn ⟨by decide, by decide, by decide, by decide, by decide⟩ ⟨by decide, by decide, by decide, by decide, by decide⟩, .inl rfl, rfl, rfl, .inr (.inl ⟨rfl, rfl, rfl, rfl, rfl, rfl⟩), fun h => by simp [oneC, Trk.shares] at h⟩
theorem okName_one (c : UInt8) (h : 97 ≤ c.toNat ∧ c.toNat ≤ 122) : Trk.okName ⟨#[c]⟩ := .inr ⟨c, rfl, by omega, by omega⟩
set_option maxRecDepth 100000 in
set_option maxHeartbeats 8000000 in
theorem one_any (n : Int) (nm : ByteArray) (w : World) : Calls Try.prog 42 #[.int .i64 n, .string nm] w fun e w' => e = .returned (clipV (oneC n nm)) ∧ Below w.heap.size w w' := by
  go_enter Try.func42, Try.ntmps42
  go_upto_region 1 with fail
  obtain ⟨w1, hw1⟩ : ∃ y, y = w.alloc (.cells (clipC (Trk.gap 0)).toArray 53) := ⟨_, rfl⟩
  have hw1' := hw1
  simp only [clipC, Trk.gap, Trk.black, show (ByteArray.empty : ByteArray) = ⟨#[]⟩ from rfl] at hw1'
  rw [← hw1']
  clear hw1'
  obtain ⟨g, hg⟩ : ∃ y, y = w.heap.size := ⟨_, rfl⟩
  have HV := Lib.hid (show CV w1 g (Trk.gap 0) by rw [hw1, hg]; exact CV.box w (Trk.gap 0) 53)
  have HB := Lib.hid (show Below w.heap.size w w1 by rw [hw1]; exact below_box _ _)
  have hgs : w.heap.size ≤ g := by omega
  rw [← hg]
  clear hw1 hg
  apply wp_region_lit
  iterate 18 go_step
  refine wpl_storeC (oneC n nm) HV.out rfl rfl rfl rfl ?_
  have hv := HV.out.put (oneC n nm)
  have hb := (Turn.cells g 0 (clipC (oneC n nm)) w1).b _ _ hgs HB.out
  iterate 4 go_step
  refine bodyPost_ret (results_clip Try.results42 rfl hv.c) rfl ⟨rfl, hb⟩
/-- A list of numbers that reads below the world's size. -/
def Ints (w : World) (v : Value) : Prop := ∃ ao n c, v = .slice ao n c ∧ n ≤ c ∧ n ≤ 9223372036854775807 ∧ ∀ i, i < n → ∃ b o x, ao = some ⟨b, o, none⟩ ∧ w.cell? ⟨b, o + i, none⟩ = some (.int .i64 x)
/-- A track that the laws make. -/
structure Made (t : List Trk.Clip) : Prop where
  v : Trk.VL 1000000 t
  n : Trk.Norm t
  l : t.length ≤ 13
  tt : Trk.total t ≤ 117
  ne : t ≠ []
theorem Made.vt {t : List Trk.Clip} (h : Made t) : VT 1000000 t := ⟨h.v, by have := h.l; omega, by have := h.tt; omega⟩
theorem short_total : ∀ {l : List Trk.Clip}, ShortL l → Trk.total l ≤ 9 * l.length
  | [], _ => by show (0 : Int) ≤ _; simp
  | c :: l, h => by
    have ih := short_total (l := l) fun x hx => h x (List.mem_cons_of_mem _ hx)
    have hc := (h c List.mem_cons_self).2
    rw [Trk.total_cons, List.length_cons]
    omega
theorem made_of {l : List Trk.Clip} {c : Trk.Clip} (h : ShortL l) (hl : l.length ≤ 12) (hc : Short c) (hk : c.kind ≠ 0) : Made (Trk.nf (l ++ [c])) := by
  have hs := h.snoc hc
  have hv : Trk.VL 1000000 (l ++ [c]) := fun x hx => (hs x hx).1
  have ht := short_total hs
  have hlen : (l ++ [c]).length ≤ 13 := by simp; omega
  have htt : Trk.total (l ++ [c]) ≤ 117 := by omega
  refine ⟨Trk.nf_vl hv (by omega), Trk.nf_norm hv.good, Nat.le_trans (Trk.nf_length hv.good) hlen, Int.le_trans (Trk.nf_total hv.good) htt, fun e => ?_⟩
  have gl : Trk.GoodL l := fun x hx => (h x hx).1.good
  have gc := hc.1.good
  have t0 := Trk.total_nonneg gl
  have h1 := Trk.nf_fr hv.good (i := Trk.total l) t0
  rw [e, Trk.fr_append_ge [c] gl (Int.le_refl _), Int.sub_self, Trk.fr_lt (by have := gc.l; omega)] at h1
  have h2 := congrArg Trk.Clip.kind h1
  exact hk (by have h3 : (0 : Int) = c.kind := h2; omega)
def MadePost (w : World) (e : Ending) (w' : World) : Prop := ∃ v t p k', e = .returned (.tuple #[v, .pointer (some ⟨p, 0, none⟩)]) ∧ OT w' w.heap.size v t ∧ Made t ∧ TP w' w.heap.size p k' ∧ k' ≤ 300 ∧ Below w.heap.size w w'
set_option maxRecDepth 100000 in
set_option maxHeartbeats 8000000 in
theorem made_any (v : Value) (w : World) (h : Ints w v) : Calls Try.prog 19 #[v] w (MadePost w) := by
  obtain ⟨ao, n, cp, rfl, hnc, hn, hI⟩ := h
  have HI := Lib.hid hI
  clear hI
  go_enter Try.func19, Try.ntmps19
  go_upto_region 2 with fail
  obtain ⟨w1, hw1⟩ : ∃ y, y = w.alloc (.cells #[.slice ao n cp, .int .i64 0] 30) := ⟨_, rfl⟩
  rw [← hw1]
  obtain ⟨p, hp⟩ : ∃ y, y = w.heap.size := ⟨_, rfl⟩
  have HB := Lib.hid (show Below w.heap.size w w1 by rw [hw1]; exact below_box _ _)
  have HT := Lib.hid (show TP w1 w.heap.size p 0 by
    refine ⟨by omega, by rw [hw1, hp]; simp [go_sem], ao, n, cp, by rw [hw1, hp]; simp [go_sem], by rw [hw1, hp]; simp [go_sem], by rw [hw1, hp]; simp [go_sem], hnc, hn, fun i hi => ?_⟩
    obtain ⟨b, o, x, e, hc⟩ := HI.out i hi
    exact ⟨b, o, x, e, block_lt_of_cell hc, (HB.out.cell (block_lt_of_cell hc)).trans hc⟩)
  have HP := Lib.hid hp
  have HP1 := Lib.hid HT.out.2.1
  rw [← hp]
  clear hw1 hp
  go_wp2_with fail
  refine (track_any w.heap.size p 0 6 w1 HT.out (by omega) (by omega)).mono ?_
  rintro e w2 ⟨⟨vt, l, rfl, ho, hs, hl⟩, ⟨k2, hk2, hT_⟩, ht⟩
  have HO := Lib.hid ho
  have HS := Lib.hid hs
  replace HB := Lib.hid (ht.b _ _ (by have := HP.out; omega) HB.out)
  have HS1 := Lib.hid (show w1.heap.size ≤ w2.heap.size from ht.s)
  replace HT := Lib.hid hT_
  clear ho hs hT_ ht
  go_wp2_with fail
  refine (next_any w.heap.size p k2 6 _ HT.out (by omega) (by omega) (by omega)).mono ?_
  rintro e w3 ⟨r, rfl, r0, r1, hT_, hg_⟩
  have ht := Turn.grown hg_ HT.out.2.1
  replace HO := Lib.hid (HO.out.turn ht HP1.out)
  replace HS1 := Lib.hid (Nat.le_trans HS1.out ht.s)
  replace HB := Lib.hid (ht.b _ _ (by have := HP.out; omega) HB.out)
  replace HT := Lib.hid hT_
  clear hT_ hg_ ht
  go_wp2_with fail
  refine (one_any (1 + r) ⟨#[122]⟩ _).mono ?_
  rintro e w4 ⟨rfl, hb⟩
  replace HO := Lib.hid (HO.out.below hb)
  replace HT := Lib.hid (HT.out.low (n := w3.heap.size) (Nat.le_of_lt (Nat.lt_of_le_of_lt HT.out.1 HT.out.2.1)) HT.out.2.1 hb)
  replace HB := Lib.hid (HB.out.trans (hb.mono HB.out.size))
  have HSZ := Lib.hid (show w1.heap.size ≤ w4.heap.size by have := hb.size; have := HS1.out; omega)
  clear hb
  have HZ := Lib.hid (oneC_tape (n := 1 + r) (nm := ⟨#[122]⟩) (by omega) (by omega) (okName_one 122 (by decide)))
  have hzk : (oneC (1 + r) ⟨#[122]⟩).kind = 1 := rfl
  have HZK := Lib.hid hzk
  clear hzk
  unfold clipV
  obtain ⟨z, hz⟩ : ∃ z, z = oneC (1 + r) ⟨#[122]⟩ := ⟨_, rfl⟩
  rw [← hz] at HZ HZK ⊢
  clear hz
  obtain ⟨C, hC⟩ : ∃ C, C = (clipC z).toArray := ⟨_, rfl⟩
  rw [← hC]
  have HCC := Lib.hid hC
  clear hC
  dsimp only
  iterate 1 go_step
  refine Great.wpList_buildSliceTo rfl 35 53 1 #[(0, .tmp 14)] rfl w4.heap.size rfl _ rfl Try.underlying35 C ?_ ?_
  · simp only [List.map_toArray, List.map_cons, List.map_nil, List.toList_toArray]
    rw [HCC.out]
    exact built_clip z
  have hbx : CA (w4.alloc (.cells C 53)) w4.heap.size 0 z := by rw [HCC.out]; exact CA.box w4 z 53
  have hb : Below w4.heap.size w4 (w4.alloc (.cells C 53)) := below_box _ _
  have hsz : w1.heap.size ≤ (w4.alloc (.cells C 53)).heap.size := Nat.le_trans HSZ.out hb.size
  replace HO := Lib.hid (HO.out.below hb)
  have HBX := Lib.hid hb
  clear hb
  simp only [Act.put, List.setIfInBounds_toArray, List.set_cons_succ, List.set_cons_zero]
  refine wpList_appT 35 Try.underlying35 _ rfl (.tmp 10) (.tmp 15) rfl rfl w1.heap.size vt l rfl HO.out hsz w4.heap.size 1 z rfl hbx (by omega) ?_
  intro vn w5 q1 q2 q3 q4
  simp only [Act.put, List.setIfInBounds_toArray, List.set_cons_succ, List.set_cons_zero]
  have hbl : Below w1.heap.size w4 w5 := (HBX.out.mono HSZ.out).trans q2
  have HTK := Lib.hid q1.tk
  replace HT := Lib.hid (HT.out.low (n := w1.heap.size) (by have := HP1.out; have := HP.out; omega) HP1.out hbl)
  replace HB := Lib.hid (HB.out.trans (hbl.mono (by have := HP1.out; have := HP.out; omega)))
  have hsl := HS.out.snoc HZ.out.short
  have hv : Trk.VL 1000000 (l ++ [z]) := fun x hx => (hsl x hx).1
  have htl := short_total hsl
  have hll : (l ++ [z]).length ≤ 13 := by simp; omega
  have HNO := Lib.hid (fun w (h : Tk w vn (l ++ [z])) => normal_any (L := 1000000) vn (l ++ [z]) w h ⟨hv, by omega, by omega⟩ (by decide))
  have HMA := Lib.hid (made_of HS.out (by omega) HZ.out.short (by rw [HZK.out]; decide))
  clear q1 q2 q3 q4 hbl hbx hsz hsl hv htl hll
  go_wp2_with fail
  refine (HNO.out _ HTK.out).mono ?_
  rintro e w6 ⟨vm, rfl, ho, hb⟩
  have HO2 := Lib.hid (ho.lower HB.out.size)
  replace HT := Lib.hid (HT.out.low (n := w5.heap.size) (Nat.le_of_lt (Nat.lt_of_le_of_lt HT.out.1 HT.out.2.1)) HT.out.2.1 hb)
  replace HB := Lib.hid (HB.out.trans (hb.mono HB.out.size))
  clear ho hb
  go_wp2_with fail
  go_ret2
  exact ⟨_, _, p, _, rfl, HO2.out, HMA.out, HT.out, by omega, HB.out⟩
end Go.Proofs.Ytnmkcpgcdjhdjaa

/- Apply at edits of the tape's kind: the contracts that the laws use. -/
namespace Go.Proofs.Ytnmkcpgcdjhdjaa
open Go.RowKit
set_option linter.unusedVariables false
set_option linter.unusedSimpArgs false
theorem nf_vt {L : Int} {t : List Trk.Clip} (h : VT L t) : VT L (Trk.nf t) :=
  ⟨Trk.nf_vl h.v (by have := h.t; omega), Nat.le_trans (Trk.nf_length h.v.good) h.n, Int.le_trans (Trk.nf_total h.v.good) h.t⟩
theorem exl_vl {L : Int} {n : List Trk.Clip} {e : Trk.Ed} (hV : VT L n) (hE : ExV L e) (hee : (if e.k = 1 then max e.p (Trk.total n) else e.p) + e.T ≤ 2147483647) :
    Trk.VL L (e.exl n) ∧ Trk.total (e.exl n) ≤ 2147483647 ∧ (e.exl n).length ≤ n.length + 1 + 1 + 64 + (n.length + 1) := by
  have hx := hE.x
  have o := hx.of hV.v.good
  have pt := hx.put_total
  have tn := Trk.total_nonneg hV.v.good
  have hp := hx.p
  have hr := hx.rem_nonneg
  have h1 := hV.t
  have ht := hx.t
  have hrem : e.rem = if e.k = 1 then 0 else e.T := rfl
  refine ⟨?_, ?_, ?_⟩
  · show Trk.VL L (Trk.exL n e.p e.rem e.put)
    unfold Trk.exL
    refine ((((Trk.cut_vl hV.v (Int.le_refl 0) (by omega) (by omega)).append (Trk.gapL_vl (by have := hE.p; omega))).append ?_).append (Trk.aft_vl hV.v (by omega) h1))
    show Trk.VL L (if e.k = 4 then [Trk.gap e.m] else e.ins)
    split
    · rename_i h4
      have hT : e.T = e.m := by unfold Trk.Ed.T; rw [if_neg (by omega)]
      exact Trk.VL.cons (Trk.gap_vc (by omega) (by have := hE.t; omega)) Trk.VL.nil
    · exact hE.v.v
  · rw [o.t, pt, hrem]
    by_cases k1 : e.k = 1
    · rw [if_pos k1] at hee ⊢
      rw [if_neg (by omega)]
      omega
    · rw [if_neg k1] at hee ⊢
      have := hE.p
      split <;> omega
  · have h2 := o.n
    have h3 : e.put.length ≤ 64 := by
      show (if e.k = 4 then [Trk.gap e.m] else e.ins).length ≤ 64
      split
      · simp
      · exact hE.v.n
    omega
theorem apply_x {L : Int} (v u : Value) (t : List Trk.Clip) (e : Trk.Ed) (w : World) (h : Tk w v t) (hu : Tk w u e.ins) (hV : VT L t) (hE : ExV L e) (hL : L ≤ 140737488355328) (hn : (Trk.nf t).length ≤ 63)
    (hee : (if e.k = 1 then max e.p (Trk.total (Trk.nf t)) else e.p) + e.T ≤ 2147483647) (hl : (Trk.nf (e.exl (Trk.nf t))).length ≤ 64) :
    Calls Try.prog 20 #[v, EdV e u] w (EdPost w (Trk.nf t) (Trk.nf (e.exl (Trk.nf t))) e.p (e.p + e.T) (Trk.undoK e.k)) := by
  have hx := exl_vl (nf_vt hV) hE hee
  refine (apply_exch (M := L) v u t (e.exl (Trk.nf t)) e.k e.p e.m e.c e.d e.sn e.sd e.p (e.p + e.T) (Trk.undoK e.k) 0 true w h e.ins hu hV hL hE.x.k (fun w' hu' => valid_ex u e w' hu' hE hL)
    (fun _ w' vn hn' hu' => (ex_any vn u (Trk.nf t) e w' hn' hu' (nf_vt hV) hE.v hL hn hE.x hee).mono fun _ _ h => .inl ⟨rfl, h⟩) (fun _ => ⟨hx.1, hx.2.1, by omega, hl⟩) hL (by decide)).mono ?_
  rintro ev w' (⟨_, _, h⟩ | ⟨h, _⟩)
  · exact h
  · rcases h with h | h
    · cases h
    · exact absurd rfl h
theorem adj_ok {L : Int} {n : List Trk.Clip} {k : Int} {c : Nat} {d sn sd : Int} (hV : VT L n) (hd : d.natAbs ≤ 2147483648) (hk : k = 10 → Trk.SpeedOK sn sd) (hk2 : 5 ≤ k ∧ k ≤ 10) (h0 : Trk.adjCode n k c d sn sd = 0) :
    Trk.VL (L + 2147483648 * 18018 + 2147483648 * 18018 + 2147483647 * 18018) (Trk.adjL n k c d sn sd) ∧ Trk.total (Trk.adjL n k c d sn sd) ≤ 2147483647 ∧ Trk.missingL n k c = false := by
  unfold Trk.adjCode at h0
  split at h0
  · cases h0
  rename_i hm
  split at h0
  · cases h0
  rename_i hb
  split at h0
  · cases h0
  rename_i hx
  have hm' : Trk.missingL n k c = false := by simpa using hm
  have hx1 : Trk.total (Trk.adjL n k c d sn sd) ≤ 2147483647 := by
    rcases Int.lt_or_le 2147483647 (Trk.total (Trk.adjL n k c d sn sd)) with h | h
    · exact absurd (.inl h) hx
    · exact h
  have hx2 : ∀ x ∈ Trk.adjL n k c d sn sd, Trk.okLen x := Classical.not_not.1 fun h => hx (.inr h)
  have hcl := Trk.adj_cls (L := L) (D := 2147483648) (M := 2147483647) (n := n) (k := k) (d := d) (sn := sn) (sd := sd) (c := c) (fun y hy => (hV.v y hy).c) (by omega) (by omega)
    (fun y hy => ⟨by have := (hV.v y hy).l.1; omega, (hV.v y hy).l.2.1⟩) (by decide) (by
      by_cases h10 : k = 10
      · exact .inr (.inr (.inr (.inr (.inr ⟨hk h10, fun h => hb ⟨h10, h⟩⟩))))
      · omega)
  exact ⟨fun x hx => ⟨hcl x hx, hx2 x hx⟩, hx1, hm'⟩
/-- What Apply answers at an edit that names a clip. -/
def ClipsPost (w : World) (n : List Trk.Clip) (k : Int) (c : Nat) (d sn sd : Int) (ok : Bool) (e : Ending) (w' : World) : Prop :=
  (ok = true ∧ Trk.adjCode n k c d sn sd = 0 ∧ EdPost w n (Trk.nf (Trk.adjL n k c d sn sd)) (Trk.fromL n k c d) (Trk.toL n k c d) (Trk.undK k d) e w') ∨
  ((ok = false ∨ Trk.adjCode n k c d sn sd ≠ 0) ∧ e = .returned (.tuple #[.slice none 0 0, edV 0 0 0 0 0 0 0 (.slice none 0 0), .int .i64 (if ok = true then Trk.adjCode n k c d sn sd else 1)]) ∧ Below w.heap.size w w')
theorem code_bd (n : List Trk.Clip) (k : Int) (c : Nat) (d sn sd : Int) : -1000 ≤ Trk.adjCode n k c d sn sd ∧ Trk.adjCode n k c d sn sd ≤ 1000 := by
  unfold Trk.adjCode
  split
  · decide
  split
  · decide
  split <;> decide
theorem apply_c {L : Int} (v : Value) (t : List Trk.Clip) (k : Int) (c : Nat) (d : Int) (cap : Nat) (ao : Option Addr) (w : World) (h : Tk w v t) (hV : VT L t) (hL : L ≤ 1000000000) (hn : (Trk.nf t).length ≤ 63) (hk : 5 ≤ k ∧ k ≤ 9) (hc : c ≤ 1048576) (hcap : cap ≤ maxLen)
    (hd : -2147483648 ≤ d ∧ d ≤ 2147483648) :
    Calls Try.prog 20 #[v, edV k 0 0 (c : Int) d 0 0 (.slice ao 0 cap)] w (ClipsPost w (Trk.nf t) k c d 0 0 (decide (d ≠ 0 ∧ -2147483647 ≤ d ∧ d ≤ 2147483647))) := by
  obtain ⟨ok, hok⟩ : ∃ b, b = decide (d ≠ 0 ∧ -2147483647 ≤ d ∧ d ≤ 2147483647) := ⟨_, rfl⟩
  rw [← hok]
  have hu : Tk w (.slice ao 0 cap) [] := ⟨ao, cap, rfl, Nat.zero_le _, hcap, fun i x hi => by simp at hi⟩
  refine apply_clip (M := L + 2147483648 * 18018 + 2147483648 * 18018 + 2147483647 * 18018) v (.slice ao 0 cap) t (Trk.adjL (Trk.nf t) k c d 0 0) k 0 0 (c : Int) d 0 0 (Trk.fromL (Trk.nf t) k c d) (Trk.toL (Trk.nf t) k c d) (Trk.undK k d) (Trk.adjCode (Trk.nf t) k c d 0 0) ok w h [] hu hV (by omega) (by omega)
    (fun w' _ => by rw [hok]; exact valid_adj k c d ao cap w' hk hc)
    (fun ho w' vn hn' _ => ?_) (fun h0 => ?_) (by omega) (code_bd _ _ _ _ _ _)
  · have hd2 := of_decide_eq_true (hok ▸ ho : decide (d ≠ 0 ∧ -2147483647 ≤ d ∧ d ≤ 2147483647) = true)
    exact adjust_any (D := 0) vn (.slice ao 0 cap) (Trk.nf t) k 0 0 c d 0 0 w' hn' ⟨_, _, _, rfl⟩ (nf_vt hV) hn (by omega) (fun _ => ⟨by omega, hd2.1⟩) (fun h => by omega) (by omega) hc
  · have ha := adj_ok (nf_vt hV) (by omega) (fun h => by omega) (by omega) h0
    have hl : (Trk.adjL (Trk.nf t) k c d 0 0).length = (Trk.nf t).length := Trk.adjL_length _ _ _ _ _ _
    exact ⟨ha.1, ha.2.1, by omega, Nat.le_trans (Trk.nf_length ha.1.good) (by omega)⟩
theorem apply_r {L : Int} (v : Value) (t : List Trk.Clip) (c : Nat) (sn sd : Int) (cap : Nat) (ao : Option Addr) (w : World) (h : Tk w v t) (hV : VT L t) (hL : L ≤ 1000000000) (hn : (Trk.nf t).length ≤ 63) (hc : c ≤ 1048576) (hcap : cap ≤ maxLen) (hs : Trk.SpeedOK sn sd) :
    Calls Try.prog 20 #[v, edV 10 0 0 (c : Int) 0 sn sd (.slice ao 0 cap)] w (ClipsPost w (Trk.nf t) 10 c 0 sn sd true) := by
  have hu : Tk w (.slice ao 0 cap) [] := ⟨ao, cap, rfl, Nat.zero_le _, hcap, fun i x hi => by simp at hi⟩
  refine apply_clip (M := L + 2147483648 * 18018 + 2147483648 * 18018 + 2147483647 * 18018) v (.slice ao 0 cap) t (Trk.adjL (Trk.nf t) 10 c 0 sn sd) 10 0 0 (c : Int) 0 sn sd (Trk.fromL (Trk.nf t) 10 c 0) (Trk.toL (Trk.nf t) 10 c 0) (Trk.undK 10 0) (Trk.adjCode (Trk.nf t) 10 c 0 sn sd) true w h [] hu hV (by omega) (by omega)
    (fun w' _ => valid_ret c sn sd ao cap w' hc hs)
    (fun ho w' vn hn' _ => ?_) (fun h0 => ?_) (by omega) (code_bd _ _ _ _ _ _)
  · exact adjust_any (D := 0) vn (.slice ao 0 cap) (Trk.nf t) 10 0 0 c 0 sn sd w' hn' ⟨_, _, _, rfl⟩ (nf_vt hV) hn (by omega) (fun h => by omega) (fun _ => ⟨rfl, hs⟩) (by omega) hc
  · have ha := adj_ok (nf_vt hV) (by decide) (fun _ => hs) (by decide) h0
    have hl : (Trk.adjL (Trk.nf t) 10 c 0 sn sd).length = (Trk.nf t).length := Trk.adjL_length _ _ _ _ _ _
    exact ⟨ha.1, ha.2.1, by omega, Nat.le_trans (Trk.nf_length ha.1.good) (by omega)⟩
end Go.Proofs.Ytnmkcpgcdjhdjaa

/- The examples of awake in plain words. -/
namespace Go.Proofs.Ytnmkcpgcdjhdjaa
open Go.RowKit
set_option linter.unusedVariables false
set_option linter.unusedSimpArgs false
def nA : ByteArray := ⟨#[97]⟩
def nB : ByteArray := ⟨#[98]⟩
def b2 : Trk.Clip := ⟨2, 1, ⟨1, nB, 1, 1, 1, 1, false⟩, Trk.black, 0, 0, 0, ByteArray.empty, 0, []⟩
theorem nA_ok : Trk.okName nA := okName_one 97 (by decide)
theorem nB_ok : Trk.okName nB := okName_one 98 (by decide)
theorem nf_gap4 : Trk.nf [Trk.gap 4] = [] := by
  unfold Trk.nf Trk.pk Trk.dropGap
  simp [Trk.snoc, Trk.gap]
theorem one_vc {n : Int} {nm : ByteArray} (h0 : 1 ≤ n) (h1 : n ≤ 9) (hn : Trk.okName nm) : Trk.VC 1000000 (oneC n nm) := (oneC_tape h0 h1 hn).vc
theorem norm_two {c d : Trk.Clip} (hc : Trk.GoodC c) (hd : Trk.GoodC d) (hk : d.kind ≠ 0) (hn : c.kind ≠ d.kind ∨ (c.a.name ≠ d.a.name)) : Trk.nf [c, d] = [c, d] := by
  refine Trk.Norm.nf ⟨Trk.GoodL.cons hc (Trk.GoodL.cons hd Trk.GoodL.nil), ⟨fun h => ?_, trivial⟩, fun x hx => ?_⟩
  · unfold Trk.cont at h
    rcases hn with hn | hn
    · exact hn (congrArg Trk.Clip.kind h).symm
    · have h2 := congrArg (fun x => x.a.name) h
      have e : ∀ s n, (Trk.moved s n).name = s.name := fun s n => by unfold Trk.moved; split <;> rfl
      have h3 : (Trk.moved d.a 0).name = (Trk.moved c.a c.len).name := h2
      rw [e, e] at h3
      exact hn h3.symm
  · simp at hx
    subst hx
    exact hk
theorem norm_one {c : Trk.Clip} (hc : Trk.GoodC c) (hk : c.kind ≠ 0) : Trk.nf [c] = [c] := by
  refine Trk.Norm.nf ⟨Trk.GoodL.cons hc Trk.GoodL.nil, trivial, fun x hx => ?_⟩
  simp at hx
  subst hx
  exact hk
theorem roll_b : Trk.later 1 (oneC 3 nB) = b2 := by
  have hm : Trk.moved ⟨1, nB, 0, 1, 1, 1, false⟩ 1 = ⟨1, nB, 1, 1, 1, 1, false⟩ := by
    unfold Trk.moved
    rw [if_neg (fun h => by have := congrArg Trk.Src.kind h; exact absurd this (by decide))]
    have e1 : Trk.Src.at' ⟨1, nB, 0, 1, 1, 1, false⟩ = 0 := by unfold Trk.Src.at'; rfl
    have e2 : Trk.Src.sp ⟨1, nB, 0, 1, 1, 1, false⟩ = 1 := by unfold Trk.Src.sp; rfl
    have e3 : (0 : Rat) + ((1 : Int) : Rat) * 1 = 1 := by rw [Rat.zero_add, Rat.mul_one]; rfl
    rw [e1, e2, e3]
    rfl
  unfold Trk.later Trk.withLen Trk.shift oneC b2
  rw [hm, Trk.moved_black]
  rfl
def ed1 : Trk.Ed := ⟨1, 2, 0, 0, 0, 0, 0, [oneC 1 nA]⟩
theorem ed1_v : ExV 1000000 ed1 := by
  have hv : VT 1000000 [oneC 1 nA] := ⟨Trk.VL.cons (one_vc (by decide) (by decide) nA_ok) Trk.VL.nil, by decide, by decide⟩
  exact ⟨⟨.inl rfl, by decide, hv.v.good, fun h => by rcases h with h | h <;> exact absurd h (by decide), by decide⟩, hv, fun _ => rfl, by decide, by decide, rfl, rfl, rfl, rfl⟩
theorem ex1 : Trk.nf (ed1.exl []) = [Trk.gap 2, oneC 1 nA] := by
  have e : ed1.exl [] = [Trk.gap 2, oneC 1 nA] := rfl
  rw [e]
  exact norm_two (Trk.gap_good (by decide)) (one_vc (by decide) (by decide) nA_ok).good (by decide) (.inl (by decide))
theorem two_nf : Trk.nf [oneC 3 nA, oneC 3 nB] = [oneC 3 nA, oneC 3 nB] :=
  norm_two (one_vc (by decide) (by decide) nA_ok).good (one_vc (by decide) (by decide) nB_ok).good (by decide) (.inr (by decide))
theorem ex2 : Trk.adjL [oneC 3 nA, oneC 3 nB] 7 0 1 0 0 = [oneC 4 nA, b2] := by
  have e : Trk.adjL [oneC 3 nA, oneC 3 nB] 7 0 1 0 0 = [Trk.lenBy 1 (oneC 3 nA), Trk.later 1 (oneC 3 nB)] := rfl
  rw [e, roll_b]
  rfl
theorem b2_good : Trk.GoodC b2 := by
  have h := (one_vc (n := 3) (by decide) (by decide) nB_ok).good
  have h2 := (h.shift 1).withLen (n := 2) (by decide)
  rw [← roll_b]
  exact h2
theorem ex2_nf : Trk.nf [oneC 4 nA, b2] = [oneC 4 nA, b2] := norm_two (one_vc (by decide) (by decide) nA_ok).good b2_good (by decide) (.inr (by decide))
theorem ex2_code : Trk.adjCode [oneC 3 nA, oneC 3 nB] 7 0 1 0 0 = 0 := by
  unfold Trk.adjCode
  rw [ex2, if_neg (by decide), if_neg (by decide), if_neg (by decide)]
theorem one_nf : Trk.nf [oneC 3 nA] = [oneC 3 nA] := norm_one (one_vc (by decide) (by decide) nA_ok).good (by decide)
theorem ex3_code : Trk.adjCode [oneC 3 nA] 5 0 (-3) 0 0 = 2 := by
  have e : Trk.adjL [oneC 3 nA] 5 0 (-3) 0 0 = [oneC 0 nA] := rfl
  unfold Trk.adjCode
  rw [e, if_neg (by decide), if_neg (by decide), if_pos (.inr (by decide))]
end Go.Proofs.Ytnmkcpgcdjhdjaa

/- The contract of awake. -/
namespace Go.Proofs.Ytnmkcpgcdjhdjaa
open Go.RowKit
set_option linter.unusedVariables false
set_option linter.unusedSimpArgs false
theorem OT.first {w : World} {B : Nat} {v : Value} {l : List Trk.Clip} (h : OT w B v l) (hl : l ≠ []) : ∃ g cap, v = .slice (some ⟨g, 0, none⟩) l.length cap ∧ B ≤ g ∧ l.length ≤ cap ∧ ∀ i c, l[i]? = some c → CA w g (i * 22) c := by
  obtain ⟨_, e⟩ | ⟨g, cap, rfl⟩ := h.shape
  · exact absurd e hl
  · obtain ⟨ao, cp, e, h1, _⟩ := h.tk
    simp only [Value.slice.injEq] at e
    exact ⟨g, cap, rfl, h.own.1, by omega, h.own.2.2.2⟩
set_option maxRecDepth 100000 in
set_option maxHeartbeats 16000000 in
theorem awake_any (w : World) : Calls Try.prog 18 #[] w fun e w' => e = .returned (.bool true) ∧ Below w.heap.size w w' := by
  go_enter Try.func18, Try.ntmps18
  go_upto_region 1 with fail
  apply wp_region_lit
  iterate 3 go_step
  refine Great.wpList_buildSliceTo rfl 35 53 1 #[(0, .tmp 11)] rfl w.heap.size rfl (some 12) rfl Try.underlying35 (clipC (Trk.gap 4)).toArray ?_ ?_
  · simp only [List.map_toArray, List.map_cons, List.map_nil, List.toList_toArray]
    exact built_clip (Trk.gap 4)
  have HT1 := Lib.hid (OT.box w (Trk.gap 4)).tk
  have HB := Lib.hid (below_box w (.cells (clipC (Trk.gap 4)).toArray 53))
  obtain ⟨w1, hw1⟩ : ∃ y, y = w.alloc (.cells (clipC (Trk.gap 4)).toArray 53) := ⟨_, rfl⟩
  rw [← hw1] at HT1 HB ⊢
  obtain ⟨g1, hg1⟩ : ∃ y, y = w.heap.size := ⟨_, rfl⟩
  rw [← hg1] at HT1 ⊢
  clear hw1 hg1
  simp only [Act.put, List.setIfInBounds_toArray, List.set_cons_succ, List.set_cons_zero]
  go_wp2_with fail
  refine (one_any 1 ⟨#[97]⟩ _).mono ?_
  rintro e w2 ⟨rfl, hb⟩
  replace HT1 := Lib.hid (HT1.out.below hb)
  replace HB := Lib.hid (HB.out.trans (hb.mono HB.out.size))
  clear hb
  rw [show clipV (oneC 1 ⟨#[97]⟩) = .agg (clipC (oneC 1 nA)).toArray from rfl]
  dsimp only
  iterate 1 go_step
  refine Great.wpList_buildSliceTo rfl 35 53 1 #[(0, .tmp 13)] rfl w2.heap.size rfl (some 14) rfl Try.underlying35 (clipC (oneC 1 nA)).toArray ?_ ?_
  · simp only [List.map_toArray, List.map_cons, List.map_nil, List.toList_toArray]
    exact built_clip (oneC 1 nA)
  have hb := below_box w2 (.cells (clipC (oneC 1 nA)).toArray 53)
  replace HT1 := Lib.hid (HT1.out.below hb)
  replace HB := Lib.hid (HB.out.trans (hb.mono HB.out.size))
  have HU1 := Lib.hid (OT.box w2 (oneC 1 nA)).tk
  obtain ⟨w3, hw3⟩ : ∃ y, y = w2.alloc (.cells (clipC (oneC 1 nA)).toArray 53) := ⟨_, rfl⟩
  rw [← hw3] at HT1 HB HU1 ⊢
  obtain ⟨g2, hg2⟩ : ∃ y, y = w2.heap.size := ⟨_, rfl⟩
  rw [← hg2] at HU1 ⊢
  clear hw3 hg2 hb
  simp only [Act.put, List.setIfInBounds_toArray, List.set_cons_succ, List.set_cons_zero]
  iterate 3 go_step
  have HA1 := Lib.hid (apply_x (L := 1000000) (.slice (some ⟨g1, 0, none⟩) 1 1) (.slice (some ⟨g2, 0, none⟩) 1 1) [Trk.gap 4] ed1 w3 HT1.out HU1.out ⟨Trk.VL.cons (Trk.gap_vc (by decide) (by decide)) Trk.VL.nil, by decide, by decide⟩ ed1_v (by decide) (by rw [nf_gap4]; decide) (by rw [nf_gap4]; decide) (by rw [nf_gap4, ex1]; decide))
  rw [nf_gap4, ex1] at HA1
  iterate 2 go_step
  refine HA1.out.mono ?_
  rintro e w4 ⟨v1, r1, rfl, ho, hor, hb⟩
  have hE : EdV (Trk.backOf [] ed1.p (ed1.p + ed1.T) (Trk.undoK ed1.k)) r1 = .agg (edC 2 2 1 0 0 0 0 r1) := rfl
  rw [hE]
  obtain ⟨ra, rc, rfl, -⟩ := hor.tk
  obtain ⟨ga, ca, rfl, _, hca, hcs⟩ := ho.first (by simp)
  have HCA := Lib.hid (hcs 0 _ rfl)
  have HCB := Lib.hid (hcs 1 _ rfl)
  replace HB := Lib.hid (HB.out.trans (hb.mono HB.out.size))
  obtain ⟨rl, hrl⟩ : ∃ m, m = (Trk.backOf [] ed1.p (ed1.p + ed1.T) (Trk.undoK ed1.k)).ins.length := ⟨_, rfl⟩
  rw [← hrl]
  clear hE hor ho hb hcs hrl HA1 HT1 HU1
  simp only [List.length_cons, List.length_nil, Nat.zero_add, Nat.reduceAdd] at hca ⊢
  try dsimp only
  iterate 19 go_step
  have hv : ED (w4.alloc (.cells (edC 0 0 0 0 0 0 0 (.slice none 0 0)) 26)) w4.heap.size 0 0 0 0 0 0 0 (.slice none 0 0) := ED.box w4 0 0 0 0 0 0 0 (.slice none 0 0) rfl 26
  have hb : Below w4.heap.size w4 (w4.alloc (.cells (edC 0 0 0 0 0 0 0 (.slice none 0 0)) 26)) := below_box _ _
  refine wpl_storeE 2 2 1 0 0 0 0 ra rl rc hv rfl rfl rfl rfl ?_
  intro w5 q1 q2 q3 q4 q5
  have hb5 : Below w4.heap.size w4 w5 := q4 _ _ (Nat.le_refl _) hb
  have HE1 := Lib.hid q1
  replace HCA := Lib.hid (HCA.out.below hb5)
  replace HCB := Lib.hid (HCB.out.below hb5)
  replace HB := Lib.hid (HB.out.trans (hb5.mono HB.out.size))
  obtain ⟨gE, hgE⟩ : ∃ g, g = w4.heap.size := ⟨_, rfl⟩
  rw [← hgE] at HE1 ⊢
  clear q1 q2 q3 q4 q5 hb hb5 hv hgE
  simp only [Act.put, List.setIfInBounds_toArray, List.set_cons_succ, List.set_cons_zero]
  go_wp2_with fail
  refine (one_any 3 ⟨#[97]⟩ _).mono ?_
  rintro e w6 ⟨rfl, hb⟩
  replace HCA := Lib.hid (HCA.out.below hb)
  replace HCB := Lib.hid (HCB.out.below hb)
  replace HE1 := Lib.hid (HE1.out.below hb)
  replace HB := Lib.hid (HB.out.trans (hb.mono HB.out.size))
  clear hb
  rw [show clipV (oneC 3 ⟨#[97]⟩) = .agg (clipC (oneC 3 nA)).toArray from rfl]
  go_wp2_with fail
  refine (one_any 3 ⟨#[98]⟩ _).mono ?_
  rintro e w7 ⟨rfl, hb⟩
  replace HCA := Lib.hid (HCA.out.below hb)
  replace HCB := Lib.hid (HCB.out.below hb)
  replace HE1 := Lib.hid (HE1.out.below hb)
  replace HB := Lib.hid (HB.out.trans (hb.mono HB.out.size))
  clear hb
  rw [show clipV (oneC 3 ⟨#[98]⟩) = .agg (clipC (oneC 3 nB)).toArray from rfl]
  try dsimp only
  iterate 1 go_step
  refine Great.wpList_buildSliceTo rfl 35 53 2 #[(0, .tmp 21), (1, .tmp 22)] rfl w7.heap.size rfl (some 23) rfl Try.underlying35 (cells [oneC 3 nA, oneC 3 nB]).toArray ?_ ?_
  · simp only [List.map_toArray, List.map_cons, List.map_nil, List.toList_toArray]
    exact built_two (oneC 3 nA) (oneC 3 nB)
  have hb := below_box w7 (.cells (cells [oneC 3 nA, oneC 3 nB]).toArray 53)
  have HT2 := Lib.hid (OT.of w7 [oneC 3 nA, oneC 3 nB] (by simp)).tk
  replace HCA := Lib.hid (HCA.out.below hb)
  replace HCB := Lib.hid (HCB.out.below hb)
  replace HE1 := Lib.hid (HE1.out.below hb)
  replace HB := Lib.hid (HB.out.trans (hb.mono HB.out.size))
  obtain ⟨w8, hw8⟩ : ∃ y, y = w7.alloc (.cells (cells [oneC 3 nA, oneC 3 nB]).toArray 53) := ⟨_, rfl⟩
  rw [← hw8] at HT2 HB HCA HCB HE1 ⊢
  obtain ⟨g3, hg3⟩ : ∃ y, y = w7.heap.size := ⟨_, rfl⟩
  rw [← hg3] at HT2 ⊢
  clear hw8 hg3 hb
  simp only [Act.put, List.setIfInBounds_toArray, List.set_cons_succ, List.set_cons_zero]
  iterate 3 go_step
  have HA2 := Lib.hid (apply_c (L := 1000000) (.slice (some ⟨g3, 0, none⟩) 2 2) [oneC 3 nA, oneC 3 nB] 7 0 1 0 none w8 HT2.out ⟨Trk.VL.cons (one_vc (by decide) (by decide) nA_ok) (Trk.VL.cons (one_vc (by decide) (by decide) nB_ok) Trk.VL.nil), by decide, by decide⟩ (by decide) (by rw [two_nf]; decide) (by decide) (by decide) (by decide) (by decide))
  rw [two_nf] at HA2
  unfold ClipsPost at HA2
  rw [ex2, ex2_nf, ex2_code] at HA2
  iterate 2 go_step
  refine HA2.out.mono ?_
  rintro e w9 (⟨_, _, v2, r2, rfl, ho, hor, hb⟩ | ⟨h, _⟩)
  rotate_left
  · exact absurd h (by decide)
  have hE : EdV (Trk.backOf [oneC 3 nA, oneC 3 nB] (Trk.fromL [oneC 3 nA, oneC 3 nB] 7 0 1) (Trk.toL [oneC 3 nA, oneC 3 nB] 7 0 1) (Trk.undK 7 1)) r2 = .agg (edC 3 3 0 0 0 0 0 r2) := rfl
  rw [hE]
  obtain ⟨rb, rd, rfl, -⟩ := hor.tk
  obtain ⟨gb, cb, rfl, _, hcb, hcs⟩ := ho.first (by simp)
  have HDA := Lib.hid (hcs 0 _ rfl)
  have HDB := Lib.hid (hcs 1 _ rfl)
  replace HCA := Lib.hid (HCA.out.below hb)
  replace HCB := Lib.hid (HCB.out.below hb)
  replace HE1 := Lib.hid (HE1.out.below hb)
  replace HB := Lib.hid (HB.out.trans (hb.mono HB.out.size))
  obtain ⟨rm, hrm⟩ : ∃ m, m = (Trk.backOf [oneC 3 nA, oneC 3 nB] (Trk.fromL [oneC 3 nA, oneC 3 nB] 7 0 1) (Trk.toL [oneC 3 nA, oneC 3 nB] 7 0 1) (Trk.undK 7 1)).ins.length := ⟨_, rfl⟩
  rw [← hrm]
  clear hE hor ho hb hcs hrm HA2 HT2
  simp only [List.length_cons, List.length_nil, Nat.zero_add, Nat.reduceAdd] at hcb ⊢
  try dsimp only
  iterate 19 go_step
  have hv : ED (w9.alloc (.cells (edC 0 0 0 0 0 0 0 (.slice none 0 0)) 26)) w9.heap.size 0 0 0 0 0 0 0 (.slice none 0 0) := ED.box w9 0 0 0 0 0 0 0 (.slice none 0 0) rfl 26
  have hb0 : Below w9.heap.size w9 (w9.alloc (.cells (edC 0 0 0 0 0 0 0 (.slice none 0 0)) 26)) := below_box _ _
  refine wpl_storeE 3 3 0 0 0 0 0 rb rm rd hv rfl rfl rfl rfl ?_
  intro w10 q1 q2 q3 q4 q5
  have hb : Below w9.heap.size w9 w10 := q4 _ _ (Nat.le_refl _) hb0
  replace HCA := Lib.hid (HCA.out.below hb)
  replace HCB := Lib.hid (HCB.out.below hb)
  replace HE1 := Lib.hid (HE1.out.below hb)
  replace HB := Lib.hid (HB.out.trans (hb.mono HB.out.size))
  replace HDA := Lib.hid (HDA.out.below hb)
  replace HDB := Lib.hid (HDB.out.below hb)
  obtain ⟨gF, hgF⟩ : ∃ g, g = w9.heap.size := ⟨_, rfl⟩
  rw [← hgF]
  clear q1 q2 q3 q4 q5 hb hb0 hv hgF
  simp only [Act.put, List.setIfInBounds_toArray, List.set_cons_succ, List.set_cons_zero]
  go_wp2_with fail
  refine (one_any 3 ⟨#[97]⟩ _).mono ?_
  rintro e w11 ⟨rfl, hb⟩
  replace HCA := Lib.hid (HCA.out.below hb)
  replace HCB := Lib.hid (HCB.out.below hb)
  replace HE1 := Lib.hid (HE1.out.below hb)
  replace HB := Lib.hid (HB.out.trans (hb.mono HB.out.size))
  replace HDA := Lib.hid (HDA.out.below hb)
  replace HDB := Lib.hid (HDB.out.below hb)
  clear hb
  rw [show clipV (oneC 3 ⟨#[97]⟩) = .agg (clipC (oneC 3 nA)).toArray from rfl]
  try dsimp only
  iterate 1 go_step
  refine Great.wpList_buildSliceTo rfl 35 53 1 #[(0, .tmp 30)] rfl w11.heap.size rfl (some 31) rfl Try.underlying35 (clipC (oneC 3 nA)).toArray ?_ ?_
  · simp only [List.map_toArray, List.map_cons, List.map_nil, List.toList_toArray]
    exact built_clip (oneC 3 nA)
  have hb := below_box w11 (.cells (clipC (oneC 3 nA)).toArray 53)
  have HT3 := Lib.hid (OT.box w11 (oneC 3 nA)).tk
  replace HCA := Lib.hid (HCA.out.below hb)
  replace HCB := Lib.hid (HCB.out.below hb)
  replace HE1 := Lib.hid (HE1.out.below hb)
  replace HB := Lib.hid (HB.out.trans (hb.mono HB.out.size))
  replace HDA := Lib.hid (HDA.out.below hb)
  replace HDB := Lib.hid (HDB.out.below hb)
  obtain ⟨w12, hw12⟩ : ∃ y, y = w11.alloc (.cells (clipC (oneC 3 nA)).toArray 53) := ⟨_, rfl⟩
  rw [← hw12] at HT3 HB HCA HCB HE1 HDA HDB ⊢
  obtain ⟨g4, hg4⟩ : ∃ y, y = w11.heap.size := ⟨_, rfl⟩
  rw [← hg4] at HT3 ⊢
  clear hw12 hg4 hb
  simp only [Act.put, List.setIfInBounds_toArray, List.set_cons_succ, List.set_cons_zero]
  iterate 3 go_step
  have HA3 := Lib.hid (apply_c (L := 1000000) (.slice (some ⟨g4, 0, none⟩) 1 1) [oneC 3 nA] 5 0 (-3) 0 none w12 HT3.out ⟨Trk.VL.cons (one_vc (by decide) (by decide) nA_ok) Trk.VL.nil, by decide, by decide⟩ (by decide) (by rw [one_nf]; decide) (by decide) (by decide) (by decide) (by decide))
  rw [one_nf] at HA3
  unfold ClipsPost at HA3
  rw [ex3_code] at HA3
  iterate 2 go_step
  refine HA3.out.mono ?_
  rintro e w13 (⟨_, h, _⟩ | ⟨_, rfl, hb⟩)
  · exact absurd h (by decide)
  replace HCA := Lib.hid (HCA.out.below hb)
  replace HCB := Lib.hid (HCB.out.below hb)
  replace HE1 := Lib.hid (HE1.out.below hb)
  replace HB := Lib.hid (HB.out.trans (hb.mono HB.out.size))
  replace HDA := Lib.hid (HDA.out.below hb)
  replace HDB := Lib.hid (HDB.out.below hb)
  clear hb HA3 HT3
  have hE : edV 0 0 0 0 0 0 0 (.slice none 0 0) = .agg (edC 0 0 0 0 0 0 0 (.slice none 0 0)) := rfl
  rw [hE]
  have hc2 : (if decide ((-3 : Int) ≠ 0 ∧ -2147483647 ≤ (-3 : Int) ∧ (-3 : Int) ≤ 2147483647) = true then (2 : Int) else 1) = 2 := by decide
  rw [hc2]
  clear hE hc2
  try dsimp only
  iterate 19 go_step
  have hv : ED (w13.alloc (.cells (edC 0 0 0 0 0 0 0 (.slice none 0 0)) 26)) w13.heap.size 0 0 0 0 0 0 0 (.slice none 0 0) := ED.box w13 0 0 0 0 0 0 0 (.slice none 0 0) rfl 26
  have hb0 : Below w13.heap.size w13 (w13.alloc (.cells (edC 0 0 0 0 0 0 0 (.slice none 0 0)) 26)) := below_box _ _
  refine wpl_storeE 0 0 0 0 0 0 0 none 0 0 hv rfl rfl rfl rfl ?_
  intro w14 q1 q2 q3 q4 q5
  have hb : Below w13.heap.size w13 w14 := q4 _ _ (Nat.le_refl _) hb0
  replace HCA := Lib.hid (HCA.out.below hb)
  replace HCB := Lib.hid (HCB.out.below hb)
  replace HE1 := Lib.hid (HE1.out.below hb)
  replace HB := Lib.hid (HB.out.trans (hb.mono HB.out.size))
  replace HDA := Lib.hid (HDA.out.below hb)
  replace HDB := Lib.hid (HDB.out.below hb)
  clear q1 q2 q3 q4 q5 hb hb0 hv
  simp only [Act.put, List.setIfInBounds_toArray, List.set_cons_succ, List.set_cons_zero]
  have x0 : w14.cell? ⟨ga, 0, none⟩ = some (.int .i64 2) := HCA.out.k0
  obtain ⟨e0, e1, e2, _⟩ := HE1.out
  have y0 : w14.cell? ⟨gb, 0, none⟩ = some (.int .i64 4) := HDA.out.k0
  have y1 : w14.cell? ⟨gb, 26, none⟩ = some (.int .i64 1) := HDB.out.k4
  have y2 : w14.cell? ⟨gb, 27, none⟩ = some (.int .i64 1) := HDB.out.k5
  go_wp2_with fail
  go_ret
  exact ⟨rfl, HB.out⟩
end Go.Proofs.Ytnmkcpgcdjhdjaa

/- The law of the extractions. -/
namespace Go.Proofs.Ytnmkcpgcdjhdjaa
open Go.RowKit
set_option linter.unusedVariables false
set_option linter.unusedSimpArgs false
theorem Made.nf {t : List Trk.Clip} (h : Made t) : Trk.nf t = t := h.n.nf
theorem extract_v (n k : Int) (n0 : 0 ≤ n) (n1 : n ≤ 1000) (k0 : 1 ≤ k) (k1 : k ≤ 1000) : ExV 1000000 ⟨2, n, k, 0, 0, 0, 0, []⟩ :=
  ⟨⟨.inr (.inl rfl), n0, Trk.GoodL.nil, fun _ => rfl, k0⟩, ⟨Trk.VL.nil, by simp, by show (0 : Int) ≤ _; decide⟩, fun h => by rcases h with h | h <;> (have h2 : (2 : Int) = _ := h; omega), by show n ≤ _; omega, by show k ≤ _; omega, rfl, rfl, rfl, rfl⟩
/-- What an extraction makes of a made track. -/
structure ExtOf (t u : List Trk.Clip) (n k : Int) : Prop where
  v : VT 1000000 u
  lo : ∀ i, 0 ≤ i → i < n → Trk.fr u (0 + i) = Trk.fr t (0 + i)
  hi : ∀ i, 0 ≤ i → Trk.fr u (n + i) = Trk.fr t (n + k + i)
theorem ext_of {t : List Trk.Clip} (h : Made t) {n k : Int} (n0 : 0 ≤ n) (n1 : n ≤ 1000) (k0 : 1 ≤ k) (k1 : k ≤ 1000) :
    (Trk.nf ((⟨2, n, k, 0, 0, 0, 0, []⟩ : Trk.Ed).exl t)).length ≤ 64 ∧ ExtOf t (Trk.nf ((⟨2, n, k, 0, 0, 0, 0, []⟩ : Trk.Ed).exl t)) n k := by
  have hE := extract_v n k n0 n1 k0 k1
  have o := hE.x.of h.v.good
  have hu := hE.x.undo h.v.good
  have hx := exl_vl h.vt hE (by rw [if_neg (by show ¬ (2 : Int) = 1; decide)]; show n + k ≤ _; omega)
  have hl : ((⟨2, n, k, 0, 0, 0, 0, []⟩ : Trk.Ed).exl t).length ≤ 64 := by
    have h1 := o.n
    have h2 : ((⟨2, n, k, 0, 0, 0, 0, []⟩ : Trk.Ed).put).length = 0 := rfl
    have := h.l
    omega
  have hln := Nat.le_trans (Trk.nf_length hx.1.good) hl
  refine ⟨hln, ⟨⟨Trk.nf_vl hx.1 hx.2.1, hln, Int.le_trans (Trk.nf_total hx.1.good) hx.2.1⟩, fun i i0 i1 => ?_, fun i i0 => ?_⟩⟩
  · rw [Trk.nf_fr hx.1.good (by omega)]
    exact hu.lo (0 + i) (by omega) (by show 0 + i < n; omega)
  · rw [Trk.nf_fr hx.1.good (by omega)]
    have h1 := hu.one rfl (n + i) (by show n ≤ n + i; omega)
    rw [h1]
    have hT : (⟨2, n, k, 0, 0, 0, 0, []⟩ : Trk.Ed).T = k := rfl
    rw [hT]
    congr 1
    show n + i + (n + k - n) = _
    omega
set_option maxRecDepth 100000 in
set_option maxHeartbeats 16000000 in
theorem law_extracts (v : Value) (a m : Int) (w : World) (h : Ints w v) (ha : 0 ≤ a ∧ a ≤ 255) (hm : 0 ≤ m ∧ m ≤ 255) :
    Calls Try.prog 7 #[v, .int .u8 a, .int .u8 m] w fun e w' => e = .returned (.bool true) ∧ Below w.heap.size w w' := by
  obtain ⟨ha0, ha1⟩ := ha
  obtain ⟨hm0, hm1⟩ := hm
  have HMA := Lib.hid (made_any v w h)
  clear h
  go_enter Try.func7, Try.ntmps7
  go_wp2_with fail
  refine HMA.out.mono ?_
  rintro e w1 ⟨vt, t, p, k', rfl, ho, hmd, htp, hk', hb⟩
  have HO := Lib.hid ho
  have HM := Lib.hid hmd
  have HB := Lib.hid hb
  clear ho hmd htp hk' hb HMA
  go_upto_region 3 with fail
  obtain ⟨n, hn⟩ : ∃ n, n = a % 50 := ⟨_, rfl⟩
  obtain ⟨k, hk⟩ : ∃ k, k = m % 30 + 1 := ⟨_, rfl⟩
  rw [← hn, ← hk]
  have n0 : 0 ≤ n := by omega
  have n1 : n ≤ 49 := by omega
  have k0 : 1 ≤ k := by omega
  have k1 : k ≤ 30 := by omega
  clear hn hk ha0 ha1 hm0 hm1
  obtain ⟨hlen, hext⟩ := ext_of HM.out n0 (by omega) k0 (show k ≤ 1000 by omega)
  have hT0 := Trk.total_nonneg HM.out.v.good
  have hT1 := HM.out.tt
  have HAP := Lib.hid (fun w (h : Tk w vt t) => apply_x (L := 1000000) vt (.slice none 0 0) t ⟨2, n, k, 0, 0, 0, 0, []⟩ w h (Tk.nil w) HM.out.vt (extract_v n k n0 (by omega) k0 (by omega)) (by decide) (by rw [HM.out.nf]; have := HM.out.l; omega) (by rw [if_neg (by show ¬ (2 : Int) = 1; decide)]; show n + k ≤ _; omega) (by rw [HM.out.nf]; exact hlen))
  rw [HM.out.nf] at HAP
  obtain ⟨U, hU⟩ : ∃ U, U = Trk.nf ((⟨2, n, k, 0, 0, 0, 0, []⟩ : Trk.Ed).exl t) := ⟨_, rfl⟩
  rw [← hU] at HAP hext
  have HX := Lib.hid hext
  clear hU hlen hext
  have HLN := Lib.hid (fun w (h : Tk w vt t) => length_any vt t w h HM.out.vt (by decide))
  obtain ⟨T, hT⟩ : ∃ T, T = Trk.total t := ⟨_, rfl⟩
  rw [← hT] at HLN hT0 hT1
  clear hT
  go_wp2_with fail
  refine (HAP.out _ HO.out.tk).mono ?_
  rintro e w2 ⟨vu, vr, rfl, hou, hor, hb⟩
  obtain ⟨ra, rc, rfl, -⟩ := hor.tk
  have hE : ∃ x1 x2 x3 rl, EdV (Trk.backOf t n (n + (⟨2, n, k, 0, 0, 0, 0, []⟩ : Trk.Ed).T) (Trk.undoK 2)) (.slice ra (Trk.backOf t n (n + (⟨2, n, k, 0, 0, 0, 0, []⟩ : Trk.Ed).T) (Trk.undoK 2)).ins.length rc) = .agg (edC x1 x2 x3 0 0 0 0 (.slice ra rl rc)) := ⟨_, _, _, _, rfl⟩
  obtain ⟨x1, x2, x3, rl, hE⟩ := hE
  simp only [hE]
  have HU := Lib.hid hou
  replace HO := Lib.hid (HO.out.below hb)
  replace HB := Lib.hid (HB.out.trans (hb.mono HB.out.size))
  clear hE hou hor hb HAP
  try dsimp only
  iterate 19 go_step
  have hv : ED (w2.alloc (.cells (edC 0 0 0 0 0 0 0 (.slice none 0 0)) 26)) w2.heap.size 0 0 0 0 0 0 0 (.slice none 0 0) := ED.box w2 0 0 0 0 0 0 0 (.slice none 0 0) rfl 26
  have hb0 : Below w2.heap.size w2 (w2.alloc (.cells (edC 0 0 0 0 0 0 0 (.slice none 0 0)) 26)) := below_box _ _
  refine wpl_storeE x1 x2 x3 0 0 0 0 ra rl rc hv rfl rfl rfl rfl ?_
  intro w3 q1 q2 q3 q4 q5
  have hb : Below w2.heap.size w2 w3 := q4 _ _ (Nat.le_refl _) hb0
  replace HU := Lib.hid (HU.out.below hb)
  replace HO := Lib.hid (HO.out.below hb)
  replace HB := Lib.hid (HB.out.trans (hb.mono HB.out.size))
  obtain ⟨gE, hgE⟩ : ∃ g, g = w2.heap.size := ⟨_, rfl⟩
  rw [← hgE]
  clear q1 q2 q3 q4 q5 hb hb0 hv hgE
  simp only [Act.put, List.setIfInBounds_toArray, List.set_cons_succ, List.set_cons_zero]
  go_wp2_with fail
  refine (lequal_any (L := 1000000) vu vt U t 0 0 n _ HU.out.tk HO.out.tk HX.out.v HM.out.vt (by decide) (by omega) (by omega) (by omega) (by omega) (by omega) (by omega) HX.out.lo).mono ?_
  rintro e w4 ⟨rfl, hb⟩
  replace HU := Lib.hid (HU.out.below hb)
  replace HO := Lib.hid (HO.out.below hb)
  replace HB := Lib.hid (HB.out.trans (hb.mono HB.out.size))
  clear hb
  go_wp2_with fail
  refine (HLN.out _ HO.out.tk).mono ?_
  rintro e w5 ⟨rfl, hb⟩
  replace HU := Lib.hid (HU.out.below hb)
  replace HO := Lib.hid (HO.out.below hb)
  replace HB := Lib.hid (HB.out.trans (hb.mono HB.out.size))
  clear hb
  go_wp2_with fail
  refine (lequal_any (L := 1000000) vu vt U t n (n + k) (max 0 (T - n - k) + 2) _ HU.out.tk HO.out.tk HX.out.v HM.out.vt (by decide) (by omega) (by omega) (by omega) (by omega) (by omega) (by omega) (fun i i0 _ => HX.out.hi i i0)).mono ?_
  rintro e w6 ⟨rfl, hb⟩
  replace HB := Lib.hid (HB.out.trans (hb.mono HB.out.size))
  clear hb
  go_wp2_with fail
  refine (awake_any _).mono ?_
  rintro e w7 ⟨rfl, hb⟩
  replace HB := Lib.hid (HB.out.trans (hb.mono HB.out.size))
  clear hb
  go_wp2_with fail
  go_ret
  exact ⟨rfl, HB.out⟩
end Go.Proofs.Ytnmkcpgcdjhdjaa

/- The first frame of a clip (starts). -/
namespace Go.Proofs.Ytnmkcpgcdjhdjaa
open Go.RowKit
set_option linter.unusedVariables false
set_option linter.unusedSimpArgs false
set_option maxRecDepth 100000 in
set_option maxHeartbeats 8000000 in
theorem starts_any (v : Value) (l : List Trk.Clip) (K : Nat) (w : World) (h : Tk w v l) (hG : Trk.GoodL l) (ht : Trk.total l ≤ 4611686018427387904) (hl : l.length ≤ 1048576) (hK : K ≤ l.length) :
    Calls Try.prog 29 #[v, .int .i64 (K : Int)] w fun e w' => e = .returned (.int .i64 (Trk.total (l.take K))) ∧ Below w.heap.size w w' := by
  obtain ⟨ao, cap, rfl, hc1, hc2, hT⟩ := h
  have HT := Lib.hid (show Tk w (.slice ao l.length cap) l from ⟨ao, cap, rfl, hc1, hc2, hT⟩)
  clear hT
  have HG := Lib.hid hG
  have HTT := Lib.hid ht
  obtain ⟨L, hL⟩ : ∃ L, L = l.length := ⟨_, rfl⟩
  rw [← hL] at hl hc1 hK
  have HLe := Lib.hid hL
  rw [← hL]
  clear hG ht hL hc2
  go_enter Try.func29, Try.ntmps29
  go_wp2_with fail
  go_loopw [5, 6] (fun v5 v6 wr => ∃ k : Nat, k ≤ K ∧ v6 = .int .i64 (k : Int) ∧ v5 = .int .i64 (Trk.total (l.take k)) ∧ Below w.heap.size w wr) (fun _ i _ => K - (intOf i).toNat)
  case atStart => exact ⟨0, Nat.zero_le _, rfl, rfl, Below.refl _ _⟩
  case round =>
    obtain ⟨k, hk, rfl, rfl, hb⟩ := hrel
    by_cases hlt : k < K
    · have hlt' : (k : Int) < (K : Int) := by omega
      have hltL : (k : Int) < (L : Int) := by omega
      have hkl : k < l.length := by rw [← HLe.out]; omega
      obtain ⟨c, hc⟩ : ∃ c, l[k]? = some c := ⟨_, List.getElem?_eq_getElem hkl⟩
      obtain ⟨ao', cap', e, _, _, hT⟩ := HT.out.below hb
      simp only [Value.slice.injEq, true_and] at e
      obtain ⟨rfl, rfl⟩ := e
      obtain ⟨b, o, rfl, hA⟩ := hT k c hc
      clear hT
      have x0 := hA.k0
      have hn : Trk.total (l.take (k + 1)) = Trk.total (l.take k) + c.len := by
        rw [List.take_add_one, hc]
        show Trk.total (l.take k ++ [c]) = _
        rw [Trk.total_append]
        show _ + (c.len + 0) = _
        omega
      have h1 := total_take l HG.out (k + 1)
      have h2 := Trk.total_nonneg (l := l.take k) (fun x hx => HG.out x (List.mem_of_mem_take hx))
      have h3 := (HG.out c (List.mem_of_getElem? hc)).l
      have h4 := HTT.out
      obtain ⟨s, hs⟩ : ∃ s, s = Trk.total (l.take k) := ⟨_, rfl⟩
      rw [← hs] at hn h2 ⊢
      have h5 : s + c.len ≤ 4611686018427387904 := by omega
      have HN := Lib.hid hn
      have HB := Lib.hid hb
      have HC := Lib.hid hc
      clear hA hb hc hkl hn h1 h4 hs
      go_wp2_with fail
      go_roundw
      case rel => exact ⟨k + 1, by omega, by simp, by rw [HN.out], HB.out⟩
      case measure =>
        show K - (intOf (.int .i64 ((k : Int) + 1))).toNat < K - (intOf (.int .i64 (k : Int))).toNat
        simp [intOf]
        omega
    · have hkl : k = K := by omega
      subst hkl
      have HB := Lib.hid hb
      clear hb
      go_wp2_with fail
      go_ret
      exact ⟨rfl, HB.out⟩
end Go.Proofs.Ytnmkcpgcdjhdjaa

/- What an edit that names a clip makes of a made track. -/
namespace Go.Proofs.Ytnmkcpgcdjhdjaa
open Go.RowKit
set_option linter.unusedVariables false
set_option linter.unusedSimpArgs false
/-- The bound of the positions after such an edit. -/
def bigM : Int := 1000000 + 2147483648 * 18018 + 2147483648 * 18018 + 2147483647 * 18018
theorem bigM_le : bigM ≤ 140737488355328 := by unfold bigM; decide
structure AdjOf (t u : List Trk.Clip) (a b uk : Int) : Prop where
  v : VT bigM u
  u : Trk.UndoOf t u a b uk
  b : uk ≠ 2 → b ≤ Trk.total t
theorem nf_undo {n l : List Trk.Clip} {a b uk : Int} (gl : Trk.GoodL l) (h : Trk.UndoOf n l a b uk) : Trk.UndoOf n (Trk.nf l) a b uk :=
  ⟨fun i i0 ia => by rw [Trk.nf_fr gl i0]; exact h.lo i i0 ia, fun e i ib => by rw [Trk.nf_fr gl (by have := h.a0; have := h.ab; omega)]; exact h.two e i ib,
    fun e i ib => by rw [Trk.nf_fr gl (by have := h.a0; omega)]; exact h.one e i ib, fun e i ib => by rw [Trk.nf_fr gl (by have := h.a0; have := h.ab; omega)]; exact h.three e i ib, h.k, h.a0, h.ab⟩
theorem adj_of {t : List Trk.Clip} (h : Made t) {k : Int} {c : Nat} {d sn sd : Int} (hk : 5 ≤ k ∧ k ≤ 10) (hd : k ≤ 9 → d ≠ 0) (hd2 : d.natAbs ≤ 2147483647) (hs : k = 10 → Trk.SpeedOK sn sd) (h0 : Trk.adjCode t k c d sn sd = 0) :
    AdjOf t (Trk.nf (Trk.adjL t k c d sn sd)) (Trk.fromL t k c d) (Trk.toL t k c d) (Trk.undK k d) ∧ c < t.length ∧ (k = 9 → 0 < c) ∧ (k = 7 ∨ k = 9 → c + 1 < t.length) ∧ Trk.VL bigM (Trk.adjL t k c d sn sd) ∧ Trk.total (Trk.adjL t k c d sn sd) ≤ 2147483647 := by
  have ha := adj_ok h.vt (by omega) hs hk h0
  obtain ⟨a1, a2, a3⟩ := ha
  have a1' : Trk.VL bigM (Trk.adjL t k c d sn sd) := a1
  clear a1
  simp only [Trk.missingL, Bool.or_eq_false_iff, Bool.and_eq_false_iff, decide_eq_false_iff_not, Bool.or_eq_true, decide_eq_true_eq] at a3
  have hc : c < t.length := by omega
  have h9 : k = 9 → 0 < c := by omega
  have h7 : k = 7 ∨ k = 9 → c + 1 < t.length := by omega
  have hu := Trk.adj_undo h.v.good hk hc h9 h7 hd a1'.good
  have hl : (Trk.adjL t k c d sn sd).length = t.length := Trk.adjL_length _ _ _ _ _ _
  have hln := Nat.le_trans (Trk.nf_length a1'.good) (Nat.le_of_eq hl)
  have := h.l
  exact ⟨⟨⟨Trk.nf_vl a1' (by omega), by omega, Int.le_trans (Trk.nf_total a1'.good) a2⟩, nf_undo a1'.good hu.1, hu.2⟩, hc, h9, h7, a1', a2⟩
end Go.Proofs.Ytnmkcpgcdjhdjaa

/- When an edit that names one clip of a made track is refused. -/
namespace Go.Proofs.Ytnmkcpgcdjhdjaa
open Go.RowKit
set_option linter.unusedVariables false
set_option linter.unusedSimpArgs false
theorem code_one {P Q : List Trk.Clip} {x : Trk.Clip} (h : Made (P ++ x :: Q)) {k d : Int} {f : Trk.Clip → Trk.Clip} (hk : k = 5 ∨ k = 6) (he : Trk.adjL (P ++ x :: Q) k P.length d 0 0 = P ++ f x :: Q) (hf : (f x).len ≤ x.len + 100) :
    Trk.adjCode (P ++ x :: Q) k P.length d 0 0 = if Trk.okLen (f x) then 0 else 2 := by
  have hT := h.tt
  have hV := h.v
  have hm : Trk.missingL (P ++ x :: Q) k P.length = false := by
    have e1 : decide ((P ++ x :: Q).length ≤ P.length) = false := by simp
    have e2 : decide (k = 9) = false := by simp; omega
    have e3 : decide (k = 7) = false := by simp; omega
    unfold Trk.missingL
    rw [e1, e2, e3]
    rfl
  unfold Trk.adjCode
  rw [hm, he, if_neg (by decide), if_neg (by omega), Trk.total_split]
  rw [Trk.total_split] at hT
  by_cases ho : Trk.okLen (f x)
  · rw [if_neg, if_pos ho]
    intro hc
    rcases hc with hc | hc
    · omega
    · refine hc fun y hy => ?_
      rcases List.mem_append.1 hy with hy | hy
      · exact (hV y (List.mem_append_left _ hy)).l
      · rcases List.mem_cons.1 hy with rfl | hy
        · exact ho
        · exact (hV y (by simp [hy])).l
  · rw [if_pos, if_neg ho]
    exact .inr fun hc => ho (hc _ (by simp))
theorem code5 {t : List Trk.Clip} (h : Made t) {c : Nat} {x : Trk.Clip} (hx : t[c]? = some x) {d : Int} (hd : d ≤ 100) : Trk.adjCode t 5 c d 0 0 = if Trk.okLen (Trk.lenBy d x) then 0 else 2 := by
  obtain ⟨P, Q, rfl, rfl⟩ := Trk.split_at hx
  refine code_one h (.inl rfl) ?_ (by rw [Trk.lenBy_len]; omega)
  simp only [Trk.adjL]
  rw [if_pos trivial, Trk.upd_at]
theorem code6 {t : List Trk.Clip} (h : Made t) {c : Nat} {x : Trk.Clip} (hx : t[c]? = some x) {d : Int} (hd : -100 ≤ d) : Trk.adjCode t 6 c d 0 0 = if Trk.okLen (Trk.later d x) then 0 else 2 := by
  obtain ⟨P, Q, rfl, rfl⟩ := Trk.split_at hx
  refine code_one h (.inr rfl) ?_ (by rw [Trk.later_len]; omega)
  simp only [Trk.adjL]
  rw [if_neg (by decide), if_pos trivial, Trk.upd_at]
theorem len_of_made {t : List Trk.Clip} (h : Made t) {c : Nat} {x : Trk.Clip} (hx : t[c]? = some x) : 1 ≤ x.len ∧ x.len ≤ 117 ∧ 0 ≤ Trk.total (t.take c) ∧ Trk.total (t.take c) + x.len ≤ Trk.total t ∧ Trk.total (t.take (c + 1)) = Trk.total (t.take c) + x.len := by
  have hT := h.tt
  have hl := (h.v x (List.mem_of_getElem? hx)).l.1
  obtain ⟨P, Q, rfl, rfl⟩ := Trk.split_at hx
  obtain ⟨gP, gx, gQ⟩ := Trk.good_mid h.v.good
  have a := Trk.total_nonneg gP
  have b := Trk.total_nonneg gQ
  have e1 : Trk.total ((P ++ x :: Q).take P.length) = Trk.total P := Trk.take_total _ _
  have e2 : Trk.total ((P ++ x :: Q).take (P.length + 1)) = Trk.total P + x.len := Trk.end_of P Q x
  rw [Trk.total_split] at hT ⊢
  rw [e1, e2]
  omega
theorem ok5 {L : Int} {x : Trk.Clip} (h : Trk.VC L x) {d : Int} (hl : x.len + d ≤ 2147483647) : Trk.okLen (Trk.lenBy d x) ↔ ¬ (x.len + d < 1 ∨ ((x.kind = 2 ∨ x.kind = 3) ∧ x.total < x.off + x.len + d)) := by
  have hs : Trk.shares x.kind = true ↔ x.kind = 2 ∨ x.kind = 3 := by simp [Trk.shares]
  obtain ⟨h1, h2, h3⟩ := h.l
  show (1 ≤ x.len + d ∧ x.len + d ≤ _ ∧ (Trk.shares x.kind = true → 0 ≤ x.off ∧ x.len + d ≤ x.total ∧ x.total ≤ _ ∧ x.off ≤ x.total - (x.len + d))) ↔ _
  rw [hs] at h3 ⊢
  by_cases hk : x.kind = 2 ∨ x.kind = 3
  · have := h3 hk
    simp only [hk, true_and, true_imp_iff]
    omega
  · simp only [hk, false_and, or_false, false_imp_iff, and_true]
    omega
theorem ok6 {L : Int} {x : Trk.Clip} (h : Trk.VC L x) {d : Int} (hl : x.len - d ≤ 2147483647) : Trk.okLen (Trk.later d x) ↔ ¬ (x.len ≤ d ∨ ((x.kind = 2 ∨ x.kind = 3) ∧ x.off + d < 0)) := by
  have hs : Trk.shares x.kind = true ↔ x.kind = 2 ∨ x.kind = 3 := by simp [Trk.shares]
  obtain ⟨h1, h2, h3⟩ := h.l
  have e : (Trk.later d x).off = if Trk.shares x.kind = true then x.off + d else x.off := rfl
  have e2 : (Trk.later d x).total = x.total := rfl
  have e3 : (Trk.later d x).kind = x.kind := rfl
  unfold Trk.okLen
  rw [Trk.later_len, e, e2, e3]
  simp only [hs] at h3 ⊢
  by_cases hk : x.kind = 2 ∨ x.kind = 3
  · have := h3 hk
    simp only [hk, true_and, true_imp_iff, if_true]
    omega
  · simp only [hk, false_and, or_false, false_imp_iff, and_true]
    omega
end Go.Proofs.Ytnmkcpgcdjhdjaa
