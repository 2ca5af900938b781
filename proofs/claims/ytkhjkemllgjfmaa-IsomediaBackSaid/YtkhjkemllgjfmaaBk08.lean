/- Texts of this claim joined: BD BE BF BG BH BI BJ BK. -/
import Derived.Test.YtkhjkemllgjfmaaBk04
import Derived.Test.YtkhjkemllgjfmaaBk06
import Derived.Test.YtkhjkemllgjfmaaBk07
set_option linter.unusedVariables false
set_option linter.unusedSimpArgs false

/- The reader's open, only, data; number at a written number. -/
namespace Go.Proofs.Ytkhjkemllgjfmaa
open Go.RowKit
set_option linter.unusedVariables false
set_option linter.unusedSimpArgs false
theorem bits_nat2 (a b : Nat) (ha : a < 4294967296) (hb : b < 4294967296) : bits BinOp.or IntKind.i64 (a : Int) (b : Int) = ((a ||| b : Nat) : Int) := by
  unfold bits
  have h1 : (BitVec.ofInt IntKind.i64.bits (a : Int)).toNat = a := by
    rw [BitVec.toNat_ofInt]
    show ((a : Int) % ((2 ^ 64 : Nat) : Int)).toNat = a
    omega
  have h2 : (BitVec.ofInt IntKind.i64.bits (b : Int)).toNat = b := by
    rw [BitVec.toNat_ofInt]
    show ((b : Int) % ((2 ^ 64 : Nat) : Int)).toNat = b
    omega
  have h3 : a ||| b < 2 ^ 32 := Nat.or_lt_two_pow (by omega) (by omega)
  simp only [BitVec.toNat_or, h1, h2]
  unfold IntKind.wrap
  have h4 : ((a ||| b : Nat) : Int) % 2 ^ IntKind.i64.bits = ((a ||| b : Nat) : Int) := by
    show ((a ||| b : Nat) : Int) % 2 ^ 64 = _
    omega
  rw [h4]
  rw [if_neg]
  simp only [Bool.and_eq_true, decide_eq_true_eq, not_and]
  intro _
  show ¬ ((a ||| b : Nat) : Int) ≥ 2 ^ 63
  omega
theorem numI_nat2 (z : Nat) (hz : z < 4294967296) (f : Nat → Int) (p : Nat) (h0 : f p = (z : Int) / 16777216 % 256) (h1 : f (p + 1) = (z : Int) / 65536 % 256) (h2 : f (p + 2) = (z : Int) / 256 % 256) (h3 : f (p + 3) = (z : Int) % 256) : numI f p = (z : Int) := by
  unfold numI
  rw [h0, h1, h2, h3]
  rw [show (z : Int) / 16777216 % 256 * 16777216 = (((z / 16777216) * 2 ^ 24 : Nat) : Int) by omega]
  rw [show (z : Int) / 65536 % 256 * 65536 = (((z / 65536 % 256) * 2 ^ 16 : Nat) : Int) by omega]
  rw [show (z : Int) / 256 % 256 * 256 = (((z / 256 % 256) * 2 ^ 8 : Nat) : Int) by omega]
  rw [show (z : Int) % 256 = ((z % 256 : Nat) : Int) by omega]
  rw [bits_nat2 _ _ (by omega) (by omega), or_add _ _ 24 (by omega)]
  rw [show z / 16777216 * 2 ^ 24 + z / 65536 % 256 * 2 ^ 16 = (z / 65536) * 2 ^ 16 by omega]
  rw [bits_nat2 _ _ (by omega) (by omega), or_add _ _ 16 (by omega)]
  rw [show z / 65536 * 2 ^ 16 + z / 256 % 256 * 2 ^ 8 = (z / 256) * 2 ^ 8 by omega]
  rw [bits_nat2 _ _ (by omega) (by omega), or_add _ _ 8 (by omega)]
  omega
/-- A number of four bytes, read. -/
def u32 (n : Int) : Int := n % 4294967296
theorem num_read {D : List Int} {p : Nat} {n : Int} (h : Seg D p (num4 n)) : numI (fun i => D.getD i 0) p = u32 n := by
  have hz : ((u32 n).toNat : Int) = u32 n := by unfold u32; omega
  have hlt : (u32 n).toNat < 4294967296 := by unfold u32; omega
  have k0 := h.at (i := 0) (by simp [num4])
  have k1 := h.at (i := 1) (by simp [num4])
  have k2 := h.at (i := 2) (by simp [num4])
  have k3 := h.at (i := 3) (by simp [num4])
  simp only [num4, List.getD_eq_getElem?_getD, List.getElem?_cons_zero, List.getElem?_cons_succ, Option.getD_some, Nat.add_zero] at k0 k1 k2 k3
  rw [← hz]
  refine numI_nat2 _ hlt _ p ?_ ?_ ?_ ?_
  · simp only [List.getD_eq_getElem?_getD]; rw [k0, hz]; unfold u32; omega
  · simp only [List.getD_eq_getElem?_getD]; rw [k1, hz]; unfold u32; omega
  · simp only [List.getD_eq_getElem?_getD]; rw [k2, hz]; unfold u32; omega
  · simp only [List.getD_eq_getElem?_getD]; rw [k3, hz]; unfold u32; omega
/-- v reads as the bytes D. -/
def BY (w : World) (v : Value) (D : List Int) : Prop := BA w v D.length fun i => D.getD i 0
theorem BY.below {w w' : World} {v : Value} {D : List Int} (h : BY w v D) (hb : Below w.heap.size w w') : BY w' v D := BA.below h hb
theorem number_at (v : Value) (D : List Int) (p : Nat) (n : Int) (w : World) (h : BY w v D) (hn : D.length ≤ 100000000) (hs : Seg D p (num4 n)) :
    Calls Try.prog 29 #[v, .int .i64 (p : Int)] w fun e w' => e = .returned (.int .i64 (u32 n)) ∧ w' = w.drew := by
  have hle := hs.le
  have h4 : (num4 n).length = 4 := rfl
  obtain ⟨b, o, c, rfl, hc, h1, h2⟩ := BA.open h (by omega)
  rw [← num_read hs]
  exact number_any b o D.length c p _ w hn h1 h2 (by omega)
/-- A part of a slice of bytes. -/
theorem BY.part {w : World} {b o c : Nat} {L D : List Int} {p m : Nat} (h : BY w (.slice (some ⟨b, o, none⟩) L.length c) L) (hs : Seg L p D) (hm : D.length ≤ m) : BY w (.slice (some ⟨b, o + p, none⟩) D.length m) D := by
  obtain ⟨ao, c', e, hc, H⟩ := h
  refine ⟨_, m, rfl, hm, fun i hi => ?_⟩
  have hle := hs.le
  obtain ⟨⟨b', o', he, hcell⟩, h2⟩ := H (p + i) (by omega)
  simp only [Value.slice.injEq, true_and] at e
  rw [← e.1] at he
  simp only [Option.some.injEq, Addr.mk.injEq, and_true] at he
  obtain ⟨rfl, rfl⟩ := he
  have hg := hs.at hi
  simp only at hcell h2
  rw [hg] at hcell h2
  exact ⟨⟨b, o + p, rfl, by rw [Nat.add_assoc]; exact hcell⟩, h2⟩
theorem RowB.mono {w : World} {B B' : Nat} {v : Value} {l : List Bx} (h : RowB w B v l) (hB : B' ≤ B) : RowB w B' v l := owns_mono h hB
theorem DirA.mono {w : World} {B B' mb : Nat} {l : List Bx} (h : DirA w B mb l) (hB : B' ≤ B) : DirA w B' mb l := by
  obtain ⟨es, clock, hm, H1, H⟩ := h
  refine ⟨es, clock, hm, fun e he => ?_, H⟩
  obtain ⟨nm, h1, h2, h3, h4, h5⟩ := H1 e he
  exact ⟨nm, h1, h2, h3, h4.mono hB, h5⟩
set_option maxRecDepth 100000 in
set_option maxHeartbeats 4000000 in
theorem open_any (v : Value) (L : List Int) (x : Bx) (bs : List (ByteArray × List Int)) (w : World) (hv : BY w v L) (hl : L.length < 100000000) (hs : Seg L (x.p + 8) (catB bs)) (hz : x.sz = 8 + (catB bs).length) (h4 : ∀ y ∈ bs, y.1.size = 4) (hn : bs.length ≤ 100000) :
    Calls Try.prog 61 #[.agg #[v], .agg (bxC x).toArray] w fun e w' => ∃ mb, e = .returned (.tuple #[.map (some mb), .bool true]) ∧ DirA w' w.heap.size mb (lay (x.p + 8) bs) ∧ Below w.heap.size w w' := by
  have HV := Lib.hid hv
  obtain ⟨va, vc, rfl⟩ := BA.shape hv
  have HBX := Lib.hid (fun w (h : BY w (.slice va L.length vc) L) => boxes_lay (v := .slice va L.length vc) (w := w) h rfl hl hs h4)
  have e1 : (((x.p + 8 + (catB bs).length : Nat) : Nat) : Int) = (x.p : Int) + (x.sz : Int) := by rw [hz]; omega
  have e2 : ((x.p + 8 : Nat) : Int) = (x.p : Int) + 8 := by omega
  rw [e1, e2] at HBX
  have HBT := Lib.hid (fun (r : Value) (B0 : Nat) (w : World) (h : RowB w B0 r (lay (x.p + 8) bs)) => bytype_any r (lay (x.p + 8) bs) B0 w h (by rw [lay_length]; omega) (by
    have : ∀ (bs : List (ByteArray × List Int)) (p : Nat), (∀ y ∈ bs, y.1.size = 4) → ∀ b ∈ lay p bs, b.nm.size ≤ 4 := by
      intro bs
      induction bs with
      | nil => intro p _ b hb; cases hb
      | cons y r ih =>
        intro p h b hb
        rcases List.mem_cons.1 hb with rfl | hb
        · exact Nat.le_of_eq (h y (by simp))
        · exact ih _ (fun z hz => h z (by simp [hz])) b hb
    exact this bs (x.p + 8) h4))
  obtain ⟨l, hl2⟩ : ∃ l, l = lay (x.p + 8) bs := ⟨_, rfl⟩
  rw [← hl2] at HBX HBT ⊢
  obtain ⟨N, hN⟩ : ∃ N, N = L.length := ⟨_, rfl⟩
  rw [← hN] at HBX HV ⊢
  clear hl2 hN hl hs hz h4 hn e1 e2 hv
  obtain ⟨C, hC⟩ : ∃ C, C = (bxC x).toArray := ⟨_, rfl⟩
  rw [← hC]
  have HC := Lib.hid hC
  clear hC
  go_enter Try.func61, Try.ntmps61
  go_upto_region 1 with fail
  obtain ⟨w1, hw1⟩ : ∃ y, y = w.alloc (.cells #[.slice va N vc] 98) := ⟨_, rfl⟩
  rw [← hw1]
  obtain ⟨w2, hw2⟩ : ∃ y, y = w1.alloc (.cells C 31) := ⟨_, rfl⟩
  obtain ⟨g, hg⟩ : ∃ y, y = w.heap.size := ⟨_, rfl⟩
  have hs1 : w1.heap.size = g + 1 := by rw [hw1, hg]; simp
  have hb1 : Below w.heap.size w w1 := by rw [hw1]; exact below_box _ _
  have hb2 : Below w1.heap.size w1 w2 := by rw [hw2]; exact below_box _ _
  have y0 : w2.cell? ⟨g, 0, none⟩ = some (.slice va N vc) := by rw [hw2, hw1, hg]; simp [go_sem]
  have HX := Lib.hid (show VB w2 (g + 1) x by rw [hw2, HC.out, ← hs1]; exact VB.box w1 x 31)
  have HB := Lib.hid (hb1.trans (hb2.mono hb1.size))
  rw [← hw2, ← hg]
  clear hw1 hw2 hg hs1 hb1 hb2
  have y2 := HX.out.k2
  have y3 := HX.out.k3
  go_wp2_with fail
  refine (HBX.out _ (HV.out.below HB.out)).mono ?_
  rintro e w3 ⟨r, rfl, hr, hb⟩
  have HR := Lib.hid hr
  replace HB := Lib.hid (HB.out.trans (hb.mono HB.out.size))
  clear hb hr y0 y2 y3 HX
  go_wp2_with fail
  refine (HBT.out r _ _ HR.out).mono ?_
  rintro e w4 ⟨mb, rfl, hd, hb⟩
  have HD := Lib.hid hd
  have HB4 := Lib.hid (HB.out.trans (hb.mono HB.out.size))
  have HS := Lib.hid HB.out.size
  clear hb hd
  go_wp2_with fail
  go_ret2
  exact ⟨mb, rfl, HD.out.mono HS.out, HB4.out⟩
theorem results_box2 {fn : Func} {tmps : Array Value} {w : World} {s t : Tmp} {b : Nat} {x : Bx} {v : Value} (hr : fn.results = #[.cell s 31, .tmp t]) (ht : tmps.getD s undef = .pointer (some ⟨b, 0, none⟩)) (hv : tmps.getD t undef = v) (hc : VB w b x) : (results fn tmps).run Try.prog w = .ok (.tuple #[.agg (bxC x).toArray, v]) w := by
  have h := run_loadVar_mid (P := Try.prog) w b 0 31 (bxC x) _ hc.r Try.underlying31 rfl (by kernel_rfl)
  obtain ⟨C, hC⟩ : ∃ C, C = (bxC x).toArray := ⟨_, rfl⟩
  rw [← hC] at h ⊢
  unfold results
  rw [hr]
  have ht2 : tmps[s]?.getD undef = .pointer (some ⟨b, 0, none⟩) := by rw [← Array.getD_eq_getD_getElem?]; exact ht
  have hv2 : tmps[t]?.getD undef = v := by rw [← Array.getD_eq_getD_getElem?]; exact hv
  simp [ht2, hv2, asAddr, h]
set_option maxRecDepth 100000 in
set_option maxHeartbeats 4000000 in
theorem only_any (mb : Nat) (l : List Bx) (nm : ByteArray) (x : Bx) (B : Nat) (w : World) (h : DirA w B mb l) (hn : nm.size ≤ 4) (hp : pick nm l = [x]) :
    Calls Try.prog 69 #[.map (some mb), .string nm] w fun e w' => e = .returned (.tuple #[.agg (bxC x).toArray, .bool true]) ∧ Below w.heap.size w w' := by
  obtain ⟨r, hrun, hrow, _, _⟩ := h.look nm (by unfold maxLen; omega)
  have hlt := h.lt
  rw [hp] at hrow
  have HROW := Lib.hid hrow
  obtain ⟨ra, rc, rfl⟩ := hrow.shape
  simp only [List.length_cons, List.length_nil, Nat.zero_add] at HROW hrun
  have HRUN := Lib.hid hrun
  obtain ⟨C, hC⟩ : ∃ C, C = (bxC x).toArray := ⟨_, rfl⟩
  rw [← hC]
  have HC := Lib.hid hC
  clear hC h hp hrun hrow
  go_enter Try.func69, Try.ntmps69
  go_upto_region 1 with fail
  obtain ⟨w1, hw1⟩ : ∃ y, y = w.alloc (.cells #[.string { data := #[] }, .int .i64 0, .int .i64 0, .int .i64 0] 31) := ⟨_, rfl⟩
  rw [← hw1]
  obtain ⟨g, hg⟩ : ∃ y, y = w.heap.size := ⟨_, rfl⟩
  have hb1 : Below w.heap.size w w1 := by rw [hw1]; exact below_box _ _
  have hr1 := HRUN.out w1 (hb1.block mb hlt)
  have HT := Lib.hid (show w1.there g 0 4 by
    intro j hj
    rw [hw1, hg]
    rcases (show j = 0 ∨ j = 1 ∨ j = 2 ∨ j = 3 by omega) with rfl | rfl | rfl | rfl <;> exact ⟨by simp [go_sem], by simp [go_sem]⟩)
  have HF := Lib.hid (show ∀ o, w1.frozen? ⟨g, o, none⟩ = false by intro o; rw [hw1, hg]; simp [go_sem])
  have HG := Lib.hid (show w.heap.size ≤ g from Nat.le_of_eq hg.symm)
  replace HROW := Lib.hid (HROW.out.below hb1)
  have HB := Lib.hid hb1
  rw [← hg]
  clear hw1 hg hb1
  go_upto_region 3 with fail
  obtain ⟨q, qc, e, hqc, hx⟩ := HROW.out.range (i := 0) (b := x) rfl
  simp only [List.length_cons, List.length_nil, Nat.zero_add, Value.slice.injEq, true_and] at e hqc
  obtain ⟨rfl, rfl⟩ := e
  have HX := Lib.hid hx
  clear hx hr1
  apply wp_region_lit
  iterate 6 go_step
  refine wpl_loadB HX.out rfl rfl rfl ?_
  refine wpl_storeB x HT.out HF.out rfl rfl rfl (by rw [← HC.out]; rfl) ?_
  intro w2 hv ho3 hs3 hb3
  have HV := Lib.hid hv
  have HB2 := Lib.hid (hb3 _ _ HG.out HB.out)
  clear hv ho3 hs3 hb3
  rw [← HC.out]
  simp only [Act.put, List.setIfInBounds_toArray, List.set_cons_succ, List.set_cons_zero]
  go_wp2_with fail
  refine bodyPost_ret (v := .tuple #[.agg C, .bool true]) (by rw [HC.out]; exact results_box2 Try.results69 rfl rfl HV.out) rfl ⟨rfl, HB2.out⟩
set_option maxRecDepth 100000 in
set_option maxHeartbeats 4000000 in
theorem data_any2 (v : Value) (L D : List Int) (mb least : Nat) (l : List Bx) (nm : ByteArray) (x : Bx) (B : Nat) (w : World) (hv : BY w v L) (hs : Seg L (x.p + 8) D) (hz : x.sz = 8 + D.length) (h : DirA w B mb l) (hn : nm.size ≤ 4) (hp : pick nm l = [x]) (h8 : least ≤ D.length) (hl : L.length ≤ 100000000) :
    Calls Try.prog 62 #[.agg #[v], .map (some mb), .string nm, .int .i64 (least : Int)] w fun e w' => ∃ v', e = .returned (.tuple #[v', .bool true]) ∧ BY w' v' D ∧ (∀ vb vo n c, v = .slice (some ⟨vb, vo, none⟩) n c → ∃ o' c', v' = .slice (some ⟨vb, o', none⟩) D.length c') ∧ Below w.heap.size w w' := by
  have hle := hs.le
  obtain ⟨vb, vo, vc, rfl, hc, _, _⟩ := BA.open hv (by omega)
  have HBY := Lib.hid hv
  have HSG := Lib.hid hs
  obtain ⟨n, hnL⟩ : ∃ n, n = L.length := ⟨_, rfl⟩
  rw [← hnL] at hle hc hl ⊢
  have HNL := Lib.hid hnL
  obtain ⟨m, hm⟩ : ∃ m, m = D.length := ⟨_, rfl⟩
  rw [← hm] at hz h8 hle
  have HM := Lib.hid hm
  clear hm hnL hs hv
  obtain ⟨xn, xp, xs⟩ := x
  dsimp only at hz hle
  subst hz
  dsimp only at HSG
  have HO := Lib.hid (fun w (h : DirA w B mb l) => only_any mb l nm ⟨xn, xp, 8 + m⟩ B w h hn hp)
  have HD := Lib.hid h
  clear h hp
  obtain ⟨C, hC⟩ : ∃ C, C = (bxC ⟨xn, xp, 8 + m⟩).toArray := ⟨_, rfl⟩
  rw [← hC] at HO
  have HC := Lib.hid hC
  clear hC
  go_enter Try.func62, Try.ntmps62
  go_upto_region 1 with fail
  obtain ⟨w1, hw1⟩ : ∃ y, y = w.alloc (.cells #[.slice (some ⟨vb, vo, none⟩) n vc] 98) := ⟨_, rfl⟩
  rw [← hw1]
  obtain ⟨g, hg⟩ : ∃ y, y = w.heap.size := ⟨_, rfl⟩
  have hb1 : Below w.heap.size w w1 := by rw [hw1]; exact below_box _ _
  have HY := Lib.hid (show C1 w1 g (.slice (some ⟨vb, vo, none⟩) n vc) by rw [hw1, hg]; constructor <;> simp [go_sem])
  have HB := Lib.hid hb1
  replace HD := Lib.hid (HD.out.below hb1)
  rw [← hg]
  clear hw1 hg hb1
  go_wp2_with fail
  refine (HO.out _ HD.out).mono ?_
  rintro e w2 ⟨rfl, hb⟩
  replace HB := Lib.hid (HB.out.trans (hb.mono HB.out.size))
  replace HY := Lib.hid (HY.out.below hb)
  clear hb
  try dsimp only
  iterate 10 go_step
  refine wpl_allocB rfl rfl (fun w3 ht hf hb3 hs3 => ?_)
  refine wpl_storeB ⟨xn, xp, 8 + m⟩ ht hf rfl rfl rfl (by rw [← HC.out]; rfl) ?_
  intro w4 hv ho3 hs4 hb4
  have HV := Lib.hid hv
  have hb : Below w2.heap.size w2 w4 := hb4 _ _ (Nat.le_refl _) hb3
  replace HB := Lib.hid (HB.out.trans (hb.mono HB.out.size))
  replace HY := Lib.hid (HY.out.below hb)
  obtain ⟨q, hq⟩ : ∃ y, y = w2.heap.size := ⟨_, rfl⟩
  rw [← hq] at HV ⊢
  clear ht hf hb3 hs3 hv ho3 hs4 hb4 hb hq
  simp only [Act.put, List.setIfInBounds_toArray, List.set_cons_succ, List.set_cons_zero]
  have y0 := HY.out.k0
  have y2 := HV.out.k2
  have y3 := HV.out.k3
  dsimp only at y2 y3
  rw [show (xp : Int) + ((8 + m : Nat) : Int) = (xp : Int) + 8 + (m : Int) by omega] at y3
  have z1 : ¬ ((xp : Int) + 8 + (m : Int) - ((xp : Int) + 8) < (least : Int)) := by omega
  have z2 : (xp : Int) + 8 ≤ (xp : Int) + 8 + (m : Int) := by omega
  have z3 : (xp : Int) + 8 + (m : Int) ≤ (vc : Int) := by omega
  have z4 : (0 : Int) ≤ (xp : Int) + 8 := by omega
  go_upto_region 4 with fail
  by_cases hm0 : m = 0
  · have HM0 := Lib.hid (HM.out.symm.trans hm0)
    subst hm0
    go_wp2_with fail
    go_ret2
    refine ⟨_, rfl, ?_, fun vb' vo' n' c' e => ?_, HB.out⟩
    rotate_left
    · intro _ _ _
      subst e
      exact ⟨vo, 0, by rw [HM0.out]; rfl⟩
    have e0 := HM0.out
    refine ⟨some ⟨vb, vo, none⟩, 0, ?_, by omega, fun i hi => absurd hi (by omega)⟩
    rw [e0]
    rfl
  · go_wp2_with fail
    go_ret2
    refine ⟨_, rfl, ?_, fun vb' vo' n' c' e => ?_, HB.out⟩
    rotate_left
    · intro _ _ _
      subst e
      exact ⟨vo + (xp + 8), m, by rw [← HM.out]; rfl⟩
    have h1 := HBY.out.part HSG.out (Nat.le_refl _)
    rw [← HM.out] at h1
    exact h1.below HB.out
theorem data_any (v : Value) (L D : List Int) (mb least : Nat) (l : List Bx) (nm : ByteArray) (x : Bx) (B : Nat) (w : World) (hv : BY w v L) (hs : Seg L (x.p + 8) D) (hz : x.sz = 8 + D.length) (h : DirA w B mb l) (hn : nm.size ≤ 4) (hp : pick nm l = [x]) (h8 : least ≤ D.length) (hl : L.length ≤ 100000000) :
    Calls Try.prog 62 #[.agg #[v], .map (some mb), .string nm, .int .i64 (least : Int)] w fun e w' => ∃ v', e = .returned (.tuple #[v', .bool true]) ∧ BY w' v' D ∧ Below w.heap.size w w' :=
  (data_any2 v L D mb least l nm x B w hv hs hz h hn hp h8 hl).mono fun e w' ⟨v', h1, h2, _, h3⟩ => ⟨v', h1, h2, h3⟩
end Go.Proofs.Ytkhjkemllgjfmaa

/- The reader's numbers and table. -/
namespace Go.Proofs.Ytkhjkemllgjfmaa
open Go.RowKit
set_option linter.unusedVariables false
set_option linter.unusedSimpArgs false
theorem info2z : ∃ i, Try.prog.info? 2 = some i ∧ i.zero = some (.int .i64 0) ∧ i.size = 1 ∧ i.bytes = 8 := by
  have h : (Try.prog.info? 2).map (fun i => (i.zero, i.size, i.bytes)) = some (some (.int .i64 0), 1, 8) := by kernel_rfl
  cases hi : Try.prog.info? 2 with
  | none => rw [hi] at h; cases h
  | some i =>
    rw [hi] at h
    simp only [Option.map_some, Option.some.injEq, Prod.mk.injEq] at h
    exact ⟨i, rfl, h.1, h.2.1, h.2.2⟩
theorem nums_seg {vs : List Int} {k : Nat} {n : Int} (h : vs[k]? = some n) : Seg (numsL vs) (4 * k) (num4 n) := by
  have hk := (List.getElem?_eq_some_iff.1 h).1
  refine ⟨numsL (vs.take k), numsL (vs.drop (k + 1)), ?_, by rw [numsL_length, List.length_take]; omega⟩
  conv => lhs; rw [← List.take_append_drop k vs, List.drop_eq_getElem_cons hk]
  unfold numsL
  rw [List.flatMap_append, List.flatMap_cons, show vs[k] = n from Option.some.inj ((List.getElem?_eq_getElem hk).symm.trans h)]
set_option maxRecDepth 100000 in
set_option maxHeartbeats 4000000 in
theorem numbers_any2 (v : Value) (vs : List Int) (w : World) (hv : BY w v (numsL vs)) (hn : vs.length ≤ 10000000) :
    Calls Try.prog 79 #[v] w fun e w' => ∃ v', e = .returned v' ∧ IL w' v' (vs.map u32) ∧ (∀ a n c, v' = .slice (some a) n c → w.heap.size ≤ a.block) ∧ Below w.heap.size w w' := by
  have HV := Lib.hid hv
  obtain ⟨va, vc, rfl⟩ := BA.shape hv
  have hlen : (numsL vs).length = 4 * vs.length := numsL_length vs
  have HNU := Lib.hid (fun (k : Nat) (n : Int) (w : World) (h : BY w (.slice va (numsL vs).length vc) (numsL vs)) (hk : vs[k]? = some n) => number_at _ (numsL vs) (4 * k) n w h (by omega) (nums_seg hk))
  rw [hlen] at HNU HV ⊢
  obtain ⟨N, hN⟩ : ∃ N, N = vs.length := ⟨_, rfl⟩
  rw [← hN] at HNU HV hn ⊢
  simp only [Int.natCast_mul, Int.cast_ofNat_Int] at HNU
  have HN := Lib.hid hN
  clear hN hlen hv
  have e4 : (((4 * N : Nat) : Int)).tdiv 4 = (N : Int) := by rw [Int.tdiv_eq_ediv_of_nonneg (by omega)]; omega
  go_enter Try.func79, Try.ntmps79
  go_upto_region 1 with fail
  apply wp_region_lit
  iterate 9 go_step
  obtain ⟨i2, hi2, hz2, hs2, hb2⟩ := info2z
  refine wpList_make_full w rfl (.tmp 7) (.tmp 7) 51 rfl w.heap.size 2 i2 _ 1 Try.underlying51 hi2 hz2 hs2 .i64 .i64 (N : Int) (N : Int) N (by first | rfl | (simp; done) | (show Value.int .i64 _ = _; rw [e4])) (by first | rfl | (show Value.int .i64 _ = _; rw [e4])) rfl rfl (by rw [hb2]; omega) (by unfold maxLen; omega) (Nat.le_refl _) ?_
  intro w1 ho hg
  obtain ⟨g, hgg⟩ : ∃ g, g = w.heap.size := ⟨_, rfl⟩
  have HO := Lib.hid (show ∃ xs, w1.ownsRow w.heap.size 2 1 (.slice (some ⟨g, 0, none⟩) N N) N xs ∧ ∀ i (n : Int), i < 0 → vs[i]? = some n → xs[i]? = some (.int .i64 (u32 n)) from ⟨_, by rw [hgg]; exact ho, fun i n h => absurd h (Nat.not_lt_zero i)⟩)
  have HB := Lib.hid (show Below w.heap.size w w1 from growB (Below.refl _ _) (Nat.le_refl _) hg (fun k hk => by cases hk))
  have HG := Lib.hid (show w.heap.size ≤ g from Nat.le_of_eq hgg.symm)
  rw [← hgg]
  clear ho hg hgg hi2 hz2 hs2 hb2
  simp only [Act.put, List.setIfInBounds_toArray, List.set_cons_succ, List.set_cons_zero]
  go_wp2_with fail
  go_loopw [11] (fun i wr => ∃ k : Nat, k ≤ N ∧ i = .int .i64 (k : Int) ∧ (∃ xs, wr.ownsRow w.heap.size 2 1 (.slice (some ⟨g, 0, none⟩) N N) N xs ∧ ∀ i (n : Int), i < k → vs[i]? = some n → xs[i]? = some (.int .i64 (u32 n))) ∧ Below w.heap.size w wr) (fun i _ => N - (intOf i).toNat)
  case atStart => exact ⟨0, Nat.zero_le _, rfl, HO.out, HB.out⟩
  case round =>
    obtain ⟨k, hk, rfl, ⟨xs, hx, hxs⟩, hb⟩ := hrel
    have HX := Lib.hid hx
    have HXS := Lib.hid hxs
    have HBk := Lib.hid hb
    clear hx hxs hb
    by_cases hlt : k < N
    · have hlt' : (k : Int) < (N : Int) := by omega
      obtain ⟨n, hn'⟩ : ∃ n, vs[k]? = some n := ⟨_, List.getElem?_eq_getElem (by rw [← HN.out]; exact hlt)⟩
      have HC := Lib.hid hn'
      clear hn'
      go_wp2_with fail
      refine (HNU.out k n _ (HV.out.below HBk.out) HC.out).mono ?_
      rintro e w2 ⟨rfl, hw2⟩
      have hx2 : w2.ownsRow w.heap.size 2 1 (.slice (some ⟨g, 0, none⟩) N N) N xs := by rw [hw2]; exact HX.out.drew
      have HB2 := Lib.hid (show Below w.heap.size w w2 by rw [hw2]; exact HBk.out.drew)
      have hxl : xs.length = N := by rw [hx2.1]; omega
      obtain ⟨u, hu⟩ : ∃ u, xs[k]? = some u := ⟨_, List.getElem?_eq_getElem (by omega)⟩
      have c0 := (hx2.cellAt k (by omega)).trans hu
      have f0 := hx2.frozenAt k
      have HX2 := Lib.hid (hx2.stored k (.int .i64 (u32 n)))
      have HXL := Lib.hid hxl
      clear hw2 hx2 hu hxl
      go_wp2_with fail
      go_roundw
      case rel =>
        refine ⟨k + 1, by omega, by simp, ⟨xs.set k (.int .i64 (u32 n)), HX2.out.1, fun i m hi hm => ?_⟩, growB HB2.out (Nat.le_refl _) HX2.out.2 (fun q hq => by cases hq; exact HG.out)⟩
        by_cases hik : i = k
        · subst hik
          rw [List.getElem?_set_self (by rw [HXL.out]; exact hlt)]
          rw [Option.some.inj (hm.symm.trans HC.out)]
        · rw [List.getElem?_set_ne (Ne.symm hik)]
          exact HXS.out i m (by omega) hm
      case measure =>
        show N - (intOf (.int .i64 ((k : Int) + 1))).toNat < N - (intOf (.int .i64 (k : Int))).toNat
        simp [intOf]
        omega
    · have hkN : k = N := by omega
      subst hkN
      go_wp2_with fail
      go_ret
      refine ⟨_, rfl, ⟨some ⟨g, 0, none⟩, k, by rw [List.length_map, ← HN.out]; rfl, by rw [List.length_map, ← HN.out]; exact Nat.le_refl _, fun i u hu => ?_⟩, fun a n c e => ?_, HBk.out⟩
      rw [List.getElem?_map] at hu
      cases hvi : vs[i]? with
      | none => rw [hvi] at hu; cases hu
      | some n =>
        rw [hvi] at hu
        simp only [Option.map_some, Option.some.injEq] at hu
        subst hu
        have hik : i < k := by rw [HN.out]; exact (List.getElem?_eq_some_iff.1 hvi).1
        have hc := HX.out.cellAt i (by omega)
        rw [HXS.out i n hik hvi] at hc
        exact ⟨g, 0, rfl, by rw [Nat.zero_add]; exact hc⟩
      first
        | (cases e; exact HG.out)
        | (cases e; intros; exact HG.out)
theorem numbers_any (v : Value) (vs : List Int) (w : World) (hv : BY w v (numsL vs)) (hn : vs.length ≤ 10000000) :
    Calls Try.prog 79 #[v] w fun e w' => ∃ v', e = .returned v' ∧ IL w' v' (vs.map u32) ∧ Below w.heap.size w w' :=
  (numbers_any2 v vs w hv hn).mono fun e w' ⟨v', h1, h2, _, h3⟩ => ⟨v', h1, h2, h3⟩
/-- The contents of a table: 0, how many, the numbers. -/
def tabL (count : Int) (vs : List Int) : List Int := numsL [0, count] ++ numsL vs
theorem tabL_length (count : Int) (vs : List Int) : (tabL count vs).length = 8 + 4 * vs.length := by unfold tabL; rw [List.length_append, numsL_length, numsL_length]; rfl
set_option maxRecDepth 100000 in
set_option maxHeartbeats 4000000 in
theorem table_any2 (v : Value) (L vs : List Int) (count width mb : Nat) (l : List Bx) (nm : ByteArray) (x : Bx) (B : Nat) (w : World) (hv : BY w v L) (hs : Seg L (x.p + 8) (tabL (count : Int) vs)) (hz : x.sz = 8 + (tabL (count : Int) vs).length) (h : DirA w B mb l) (hn : nm.size ≤ 4) (hp : pick nm l = [x])
    (hc : count * width = vs.length) (hw : width ≤ 3) (hl : L.length ≤ 100000000) (hvs : vs.length ≤ 10000000) (hcn : count < 100000000) :
    Calls Try.prog 76 #[.agg #[v], .map (some mb), .string nm, .int .i64 (width : Int)] w fun e w' => ∃ v', e = .returned (.tuple #[v', .bool true]) ∧ IL w' v' (vs.map u32) ∧ (∀ a n c, v' = .slice (some a) n c → w.heap.size ≤ a.block) ∧ Below w.heap.size w w' := by
  have htl := tabL_length (count : Int) vs
  have HDT := Lib.hid (fun (w : World) (hv : BY w v L) (h : DirA w B mb l) => data_any v L (tabL (count : Int) vs) mb 8 l nm x B w hv hs hz h hn hp (by omega) hl)
  have s0 : Seg (tabL (count : Int) vs) 0 (num4 0) := ⟨[], num4 (count : Int) ++ numsL vs, rfl, rfl⟩
  have s4 : Seg (tabL (count : Int) vs) 4 (num4 (count : Int)) := ⟨num4 0, numsL vs, rfl, rfl⟩
  have s8 : Seg (tabL (count : Int) vs) 8 (numsL vs) := ⟨numsL [0, (count : Int)], [], by rw [List.append_nil]; rfl, rfl⟩
  have HN0 := Lib.hid (fun (v : Value) (w : World) (h : BY w v (tabL (count : Int) vs)) => number_at v _ 0 0 w h (by omega) s0)
  have HN4 := Lib.hid (fun (v : Value) (w : World) (h : BY w v (tabL (count : Int) vs)) => number_at v _ 4 (count : Int) w h (by omega) s4)
  have HNS := Lib.hid (fun (v : Value) (w : World) (h : BY w v (numsL vs)) => numbers_any2 v vs w h hvs)
  have HS8 := Lib.hid s8
  have u0 : u32 0 = 0 := rfl
  have uc : u32 (count : Int) = (count : Int) := by unfold u32; omega
  rw [u0] at HN0
  rw [uc] at HN4
  simp only [Int.cast_ofNat_Int, Int.natCast_zero] at HN0 HN4
  obtain ⟨va, vc, rfl⟩ := BA.shape hv
  have HV := Lib.hid hv
  have HD := Lib.hid h
  obtain ⟨T, hT⟩ : ∃ T, T = tabL (count : Int) vs := ⟨_, rfl⟩
  rw [← hT] at HDT HN0 HN4 HS8 htl
  have hm : (count : Int) * (width : Int) * 4 = (T.length : Int) - 8 := by
    have : ((count * width : Nat) : Int) = (count : Int) * (width : Int) := Int.natCast_mul _ _
    rw [← this, hc, htl]; omega
  have hb1 : (count : Int) * (width : Int) ≤ 10000000 := by
    have : ((count * width : Nat) : Int) = (count : Int) * (width : Int) := Int.natCast_mul _ _
    rw [← this, hc]; omega
  have hb0 : 0 ≤ (count : Int) * (width : Int) := Int.mul_nonneg (by omega) (by omega)
  have ht8 : 8 ≤ T.length := by omega
  obtain ⟨P, hP⟩ : ∃ P, P = (count : Int) * (width : Int) := ⟨_, rfl⟩
  rw [← hP] at hm hb1 hb0
  have hP' : (count : Int) * (width : Int) = P := hP.symm
  obtain ⟨M, hM⟩ : ∃ M, M = T.length := ⟨_, rfl⟩
  rw [← hM] at hm ht8
  have HM := Lib.hid hM
  have HTL := Lib.hid htl
  clear hs hz h hn hp hc hT htl s0 s4 s8 u0 uc hv hP hM hw
  go_enter Try.func76, Try.ntmps76
  go_upto_region 1 with fail
  obtain ⟨w1, hw1⟩ : ∃ y, y = w.alloc (.cells #[.slice va L.length vc] 98) := ⟨_, rfl⟩
  rw [← hw1]
  obtain ⟨g, hg⟩ : ∃ y, y = w.heap.size := ⟨_, rfl⟩
  have hb : Below w.heap.size w w1 := by rw [hw1]; exact below_box _ _
  have y0 : w1.cell? ⟨g, 0, none⟩ = some (.slice va L.length vc) := by rw [hw1, hg]; simp [go_sem]
  have HB := Lib.hid hb
  rw [← hg]
  clear hw1 hg hb
  go_wp2_with fail
  refine (HDT.out _ (HV.out.below HB.out) (HD.out.below HB.out)).mono ?_
  rintro e w2 ⟨v', rfl, hby, hb⟩
  obtain ⟨a2, c2, rfl⟩ := BA.shape hby
  have HY := Lib.hid hby
  replace HB := Lib.hid (HB.out.trans (hb.mono HB.out.size))
  rw [← HM.out] at HY ⊢
  clear hby hb y0
  go_wp2_with fail
  refine (HN0.out _ _ HY.out).mono ?_
  rintro e w3 ⟨rfl, hw3⟩
  have hb : Below w2.heap.size w2 w3 := by rw [hw3]; exact (Below.refl _ _).drew
  replace HY := Lib.hid (HY.out.below hb)
  replace HB := Lib.hid (HB.out.trans (hb.mono HB.out.size))
  clear hw3 hb
  go_wp2_with fail
  refine (HN4.out _ _ HY.out).mono ?_
  rintro e w4 ⟨rfl, hw4⟩
  have hb : Below w3.heap.size w3 w4 := by rw [hw4]; exact (Below.refl _ _).drew
  replace HY := Lib.hid (HY.out.below hb)
  replace HB := Lib.hid (HB.out.trans (hb.mono HB.out.size))
  clear hw4 hb
  obtain ⟨b2, o2, c2', e2, hc2, -, -⟩ := BA.open HY.out (by have := HM.out; omega)
  simp only [Value.slice.injEq] at e2
  obtain ⟨rfl, -, rfl⟩ := e2
  rw [← HM.out] at hc2
  go_upto_region 4 with fail
  have hdl : (numsL vs).length = M - 8 := by
    have := HS8.out.le
    have h1 := numsL_length vs
    have h2 := HTL.out
    have := HM.out
    omega
  have HDL := Lib.hid hdl
  clear hdl
  have z8 : (8 : Int) ≤ (M : Int) := by omega
  by_cases hc8 : c2 = 8
  · have hM8 : M = 8 := by omega
    have HBY := Lib.hid (show ∀ c, BY w4 (.slice (some ⟨b2, o2, none⟩) 0 c) (numsL vs) from fun c => by
      have e := HDL.out
      refine ⟨some ⟨b2, o2, none⟩, c, ?_, by omega, fun i hi => absurd hi (by omega)⟩
      rw [e, hM8])
    subst hM8 hc8
    go_wp2_with fail
    refine (HNS.out _ _ (HBY.out _)).mono ?_
    rintro e w5 ⟨r, rfl, hi, hnew, hb⟩
    have HIL := Lib.hid hi
    have HNEW := Lib.hid (fun a n c e => Nat.le_trans HB.out.size (hnew a n c e))
    replace HB := Lib.hid (HB.out.trans (hb.mono HB.out.size))
    clear hi hb hnew
    go_wp2_with fail
    go_ret2
    exact ⟨r, rfl, HIL.out, HNEW.out, HB.out⟩
  · have hc9 : 8 < c2 := by omega
    have hc9' : (8 : Int) < (c2 : Int) := by omega
    have HBY := Lib.hid (show BY w4 (.slice (some ⟨b2, o2 + 8, none⟩) (M - 8) (c2 - 8)) (numsL vs) by
      have h1 := BY.part (show BY w4 (.slice (some ⟨b2, o2, none⟩) T.length c2) T by rw [← HM.out]; exact HY.out) HS8.out (show (numsL vs).length ≤ c2 - 8 by have := HDL.out; omega)
      rw [HDL.out] at h1
      exact h1)
    clear hc8
    go_wp2_with fail
    refine (HNS.out _ _ HBY.out).mono ?_
    rintro e w5 ⟨r, rfl, hi, hnew, hb⟩
    have HIL := Lib.hid hi
    have HNEW := Lib.hid (fun a n c e => Nat.le_trans HB.out.size (hnew a n c e))
    replace HB := Lib.hid (HB.out.trans (hb.mono HB.out.size))
    clear hi hb hnew
    go_wp2_with fail
    go_ret2
    exact ⟨r, rfl, HIL.out, HNEW.out, HB.out⟩
theorem table_any (v : Value) (L vs : List Int) (count width mb : Nat) (l : List Bx) (nm : ByteArray) (x : Bx) (B : Nat) (w : World) (hv : BY w v L) (hs : Seg L (x.p + 8) (tabL (count : Int) vs)) (hz : x.sz = 8 + (tabL (count : Int) vs).length) (h : DirA w B mb l) (hn : nm.size ≤ 4) (hp : pick nm l = [x])
    (hc : count * width = vs.length) (hw : width ≤ 3) (hl : L.length ≤ 100000000) (hvs : vs.length ≤ 10000000) (hcn : count < 100000000) :
    Calls Try.prog 76 #[.agg #[v], .map (some mb), .string nm, .int .i64 (width : Int)] w fun e w' => ∃ v', e = .returned (.tuple #[v', .bool true]) ∧ IL w' v' (vs.map u32) ∧ Below w.heap.size w w' :=
  (table_any2 v L vs count width mb l nm x B w hv hs hz h hn hp hc hw hl hvs hcn).mono fun e w' ⟨v', h1, h2, _, h3⟩ => ⟨v', h1, h2, h3⟩
end Go.Proofs.Ytkhjkemllgjfmaa

/- The reader's edits. -/
namespace Go.Proofs.Ytkhjkemllgjfmaa
open Go.RowKit
set_option linter.unusedVariables false
set_option linter.unusedSimpArgs false
def tripL (E : Nat → Ed) : Nat → List Int
  | 0 => []
  | k + 1 => tripL E k ++ [(E k).dur, (E k).time, 65536]
theorem tripL_length (E : Nat → Ed) (n : Nat) : (tripL E n).length = 3 * n := by
  induction n with
  | zero => rfl
  | succ n ih => rw [tripL, List.length_append, ih]; simp; omega
theorem edL_trip (E : Nat → Ed) (n : Nat) : edL E n = numsL (tripL E n) := by
  unfold edL
  induction n with
  | zero => rfl
  | succ n ih => rw [catN, tripL, numsL_append, ih]
theorem trip_at (E : Nat → Ed) {n k : Nat} (hk : k < n) : (tripL E n)[3 * k]? = some (E k).dur ∧ (tripL E n)[3 * k + 1]? = some (E k).time := by
  induction n with
  | zero => omega
  | succ n ih =>
    have hl := tripL_length E n
    by_cases h : k = n
    · subst h
      rw [tripL, List.getElem?_append_right (by omega), List.getElem?_append_right (by omega), hl]
      simp
    · have := ih (by omega)
      rw [tripL, List.getElem?_append_left (by omega), List.getElem?_append_left (by omega)]
      exact this
/-- An edit as it is read. -/
def edR (e : Ed) : Ed := ⟨u32 e.dur, if u32 e.time = 4294967295 then -1 else u32 e.time⟩
def edC (e : Ed) : List Value := [.int .i64 e.dur, .int .i64 e.time]
def edX (E : Nat → Ed) : Nat → List Value
  | 0 => []
  | k + 1 => edX E k ++ edC (E k)
theorem edX_length (E : Nat → Ed) (n : Nat) : (edX E n).length = n * 2 := by
  induction n with
  | zero => rfl
  | succ n ih => rw [edX, List.length_append, ih]; simp [edC]; omega
theorem edX_at (E : Nat → Ed) {n k j : Nat} (hk : k < n) (hj : j < 2) : (edX E n)[k * 2 + j]? = (edC (E k))[j]? := by
  induction n with
  | zero => omega
  | succ n ih =>
    have hl := edX_length E n
    by_cases h : k = n
    · subst h
      rw [edX, List.getElem?_append_right (by omega), hl]
      congr 1; omega
    · rw [edX, List.getElem?_append_left (by omega)]
      exact ih (by omega)
theorem ea_of {w : World} {B n : Nat} {v : Value} {E : Nat → Ed} (h : w.ownsRow B 76 2 v n (edX E n)) : EA w v n E := by
  rcases Nat.eq_zero_or_pos n with h0 | h0
  · subst h0
    rcases h.2 with ⟨rfl, _⟩ | ⟨g, cap, cur, rfl, _⟩
    · exact ⟨none, 0, rfl, Nat.le_refl _, fun i hi => absurd hi (Nat.not_lt_zero i)⟩
    · exact ⟨_, cap, rfl, Nat.zero_le _, fun i hi => absurd hi (Nat.not_lt_zero i)⟩
  · obtain ⟨g, c, rfl, hc, hx⟩ := owns_open h h0
    refine ⟨_, c, rfl, hc, fun i hi => ⟨g, 0, rfl, ?_, ?_⟩⟩
    · have := hx (i * 2 + 0) _ ((edX_at E hi (by decide)).trans rfl)
      rw [Nat.zero_add]; exact this
    · have := hx (i * 2 + 1) _ ((edX_at E hi (by decide)).trans rfl)
      rw [Nat.zero_add]; exact this
theorem info76z : ∃ i, Try.prog.info? 76 = some i ∧ i.zero = some (.agg #[.int .i64 0, .int .i64 0]) ∧ i.size = 2 ∧ i.bytes = 16 := by
  have h : (Try.prog.info? 76).map (fun i => (i.zero, i.size, i.bytes)) = some (some (.agg #[.int .i64 0, .int .i64 0]), 2, 16) := by kernel_rfl
  cases hi : Try.prog.info? 76 with
  | none => rw [hi] at h; cases h
  | some i =>
    rw [hi] at h
    simp only [Option.map_some, Option.some.injEq, Prod.mk.injEq] at h
    exact ⟨i, rfl, h.1, h.2.1, h.2.2⟩
/-- The box of edits: its one table. -/
def edB (E : Nat → Ed) (n : Nat) : List (ByteArray × List Int) := [(nElst, tabL (n : Int) (tripL E n))]
theorem box_inner {L : List Int} {p : Nat} {nm : ByteArray} {D : List Int} (h : Seg L p (boxP nm D)) (h4 : nm.size = 4) : Seg L (p + 8) D := by
  unfold boxP at h
  rw [← List.append_assoc] at h
  have := h.right
  have e : (num4 ((D.length : Int) + 4 + nm.size) ++ strB nm).length = 8 := by rw [List.length_append, strB_len, h4]; rfl
  rw [e] at this
  exact this
theorem boxP_len {nm : ByteArray} {D : List Int} (h4 : nm.size = 4) : (boxP nm D).length = 8 + D.length := by rw [boxP_length, h4]
theorem lay_get (bs : List (ByteArray × List Int)) : ∀ (p k : Nat) (x : ByteArray × List Int), bs[k]? = some x → (lay p bs)[k]? = some ⟨x.1, p + (catB (bs.take k)).length, (boxP x.1 x.2).length⟩ := by
  induction bs with
  | nil => intro p k x h; simp at h
  | cons y r ih =>
    intro p k x h
    cases k with
    | zero =>
      simp only [List.getElem?_cons_zero, Option.some.injEq] at h
      subst h
      simp [lay, catB]
    | succ k =>
      simp only [List.getElem?_cons_succ] at h
      simp only [lay, List.getElem?_cons_succ, ih _ _ _ h, List.take_succ_cons, catB_cons, List.length_append]
      congr 2; omega
theorem cat_seg {L : List Int} {bs : List (ByteArray × List Int)} {p k : Nat} {x : ByteArray × List Int} (h : Seg L p (catB bs)) (hx : bs[k]? = some x) : Seg L (p + (catB (bs.take k)).length) (boxP x.1 x.2) := by
  have hk := (List.getElem?_eq_some_iff.1 hx).1
  have hsplit : bs = bs.take k ++ x :: bs.drop (k + 1) := by
    conv => lhs; rw [← List.take_append_drop k bs]
    congr 1
    rw [List.drop_eq_getElem_cons hk]
    congr 1
    exact Option.some.inj ((List.getElem?_eq_getElem hk).symm.trans hx)
  have h' := h
  rw [hsplit] at h'
  unfold catB at h'
  rw [List.flatMap_append] at h'
  exact h'.right.left
theorem pick_of {l : List Bx} {nm : ByteArray} {i : Nat} {b : Bx} (hi : l[i]? = some b) (hb : b.nm = nm) (hu : ∀ (j : Nat) (y : Bx), l[j]? = some y → y.nm = nm → j = i) : pick nm l = [b] := by
  induction l generalizing i with
  | nil => simp at hi
  | cons d l ih =>
    unfold pick
    cases i with
    | zero =>
      simp only [List.getElem?_cons_zero, Option.some.injEq] at hi
      subst hi
      rw [List.filter_cons, if_pos (by simpa using hb)]
      congr 1
      rw [List.filter_eq_nil_iff]
      intro y hy he
      obtain ⟨j, hj⟩ := List.mem_iff_getElem?.1 hy
      have := hu (j + 1) y (by simpa using hj) (by simpa using he)
      omega
    | succ i =>
      simp only [List.getElem?_cons_succ] at hi
      have hd : ¬ d.nm = nm := fun e => by have := hu 0 d rfl e; omega
      rw [List.filter_cons, if_neg (by simpa using hd)]
      exact ih hi (fun j y hj he => by have := hu (j + 1) y (by simpa using hj) he; omega)
/-- The one box of a name. -/
theorem lay_pick {L : List Int} {bs : List (ByteArray × List Int)} {p i : Nat} {nm : ByteArray} {D : List Int} (h : Seg L p (catB bs)) (hi : bs[i]? = some (nm, D)) (h4 : nm.size = 4) (hu : ∀ (j : Nat) (y : ByteArray × List Int), bs[j]? = some y → y.1 = nm → j = i) :
    ∃ b : Bx, pick nm (lay p bs) = [b] ∧ Seg L (b.p + 8) D ∧ b.sz = 8 + D.length := by
  refine ⟨_, pick_of (lay_get bs p i _ hi) rfl (fun j y hj he => ?_), box_inner (cat_seg h hi) h4, boxP_len h4⟩
  obtain ⟨x, hx⟩ : ∃ x, bs[j]? = some x := ⟨_, List.getElem?_eq_getElem (by have := (List.getElem?_eq_some_iff.1 hj).1; rw [lay_length] at this; exact this)⟩
  have := (lay_get bs p j x hx).symm.trans hj
  simp only [Option.some.injEq] at this
  subst this
  exact hu j x hx he
theorem built_ed (a t : Int) : Try.prog.builtSlice 76 1 [(0, .agg #[.int .i64 a, .int .i64 t])] = some #[.int .i64 a, .int .i64 t] := by kernel_rfl
theorem wpList_appE (w : World) {ops : Array Oper} {rest : List Oper} {op : Oper} {a : Act} {Q : Exit → Act → World → Prop} (hg : op.guard = none) (s x : Operand) (dst : Option Tmp) (hdst : op.dst = dst)
    (hop : op.op = .call { callee := .builtin .append, args := #[s, x], argTypes := #[41, 41] }) (B : Nat) (v : Value) (k : Nat) (E : Nat → Ed) (hs : a.eval s = v) (h : w.ownsRow B 76 2 v k (edX E k)) (hB : B ≤ w.heap.size)
    (b m : Nat) (hx : a.eval x = .slice (some ⟨b, 0, none⟩) 1 m) (h0 : w.cell? ⟨b, 0, none⟩ = some (.int .i64 (E k).dur)) (h1 : w.cell? ⟨b, 1, none⟩ = some (.int .i64 (E k).time)) (hl : k ≤ 1048576)
    (hK : ∀ v' w', w'.ownsRow B 76 2 v' (k + 1) (edX E (k + 1)) → w.grownBy w' v.ownBlock → (∃ ga m c, v' = .slice ga m c) → wpList Try.prog ops Q rest (a.put dst v') w') : wpList Try.prog ops Q (op :: rest) a w := by
  subst hdst
  obtain ⟨i, hi, hz, hs2, hb16⟩ := info76z
  refine wpList_append_own_at w hg s x 41 hop B 76 i _ 2 16 Try.underlying41 hi hz hs2 hb16 rfl (by decide) v k (edX E k) hs h ⟨b, 0, none⟩ 1 m (edC (E k)) hx rfl (fun j u hu => ?_) (fun u hu => ?_) (by unfold maxLen; omega) (by omega) hB ?_
  · rw [show (⟨b, 0, none⟩ : Addr).add j = ⟨b, 0 + j, none⟩ from Addr.add_mid b 0 j]
    have hj : j < 2 := (List.getElem?_eq_some_iff.1 hu).1
    rcases (show j = 0 ∨ j = 1 by omega) with rfl | rfl
    · simp only [edC, List.getElem?_cons_zero, Option.some.injEq] at hu; subst hu; exact h0
    · simp only [edC, List.getElem?_cons_zero, List.getElem?_cons_succ, Option.some.injEq] at hu; subst hu; exact h1
  · simp only [edC, List.mem_cons, List.not_mem_nil, or_false] at hu
    rcases hu with rfl | rfl <;> rfl
  · intro v' w' q1 q2 _ _
    refine hK v' w' q1 q2 ?_
    rcases q1.2 with ⟨rfl, _⟩ | ⟨g, cap, cur, rfl, _⟩
    · exact ⟨_, _, _, rfl⟩
    · exact ⟨_, _, _, rfl⟩
set_option maxRecDepth 100000 in
set_option maxHeartbeats 8000000 in
theorem redits_own (v : Value) (L : List Int) (E : Nat → Ed) (n : Nat) (x : Bx) (w : World) (hv : BY w v L) (hl : L.length < 100000000) (hs : Seg L (x.p + 8) (catB (edB E n))) (hz : x.sz = 8 + (catB (edB E n)).length) (hn : n ≤ 64) :
    Calls Try.prog 70 #[.agg #[v], .agg (bxC x).toArray] w fun e w' => ∃ v', e = .returned (.tuple #[v', .bool true]) ∧ w'.ownsRow w.heap.size 76 2 v' n (edX (fun i => edR (E i)) n) ∧ Below w.heap.size w w' := by
  have htl := tripL_length E n
  obtain ⟨b, hp, hsb, hzb⟩ := lay_pick (i := 0) (nm := nElst) (D := tabL (n : Int) (tripL E n)) hs rfl rfl (fun j y hj _ => by
    have := (List.getElem?_eq_some_iff.1 hj).1
    simp only [edB, List.length_singleton] at this
    omega)
  have HOP := Lib.hid (fun (w : World) (hv : BY w v L) => open_any v L x (edB E n) w hv hl hs hz (by intro y hy; simp only [edB, List.mem_singleton] at hy; subst hy; rfl) (by simp [edB]))
  have HTB := Lib.hid (fun (mb B : Nat) (w : World) (hv : BY w v L) (h : DirA w B mb (lay (x.p + 8) (edB E n))) => table_any v L (tripL E n) n 3 mb _ nElst b B w hv hsb hzb h (by decide) hp (by omega) (by omega) (by omega) (by omega) (by omega))
  obtain ⟨l, hl2⟩ : ∃ l, l = lay (x.p + 8) (edB E n) := ⟨_, rfl⟩
  rw [← hl2] at HOP HTB
  obtain ⟨va, vc, rfl⟩ := BA.shape hv
  have HV := Lib.hid hv
  obtain ⟨C, hC⟩ : ∃ C, C = (bxC x).toArray := ⟨_, rfl⟩
  rw [← hC] at HOP ⊢
  have HC := Lib.hid hC
  have HTL := Lib.hid htl
  obtain ⟨N, hN⟩ : ∃ N, N = L.length := ⟨_, rfl⟩
  rw [← hN] at HOP HTB HV ⊢
  clear hl2 hv hC htl hN hp hsb hzb hs hz hl
  obtain ⟨R, hR⟩ : ∃ R : Nat → Ed, R = fun i => edR (E i) := ⟨_, rfl⟩
  rw [← hR]
  have HR := Lib.hid hR
  clear hR
  go_enter Try.func70, Try.ntmps70
  go_upto_region 1 with fail
  obtain ⟨w1, hw1⟩ : ∃ y, y = w.alloc (.cells #[.slice va N vc] 98) := ⟨_, rfl⟩
  rw [← hw1]
  obtain ⟨w2, hw2⟩ : ∃ y, y = w1.alloc (.cells C 31) := ⟨_, rfl⟩
  obtain ⟨g, hg⟩ : ∃ y, y = w.heap.size := ⟨_, rfl⟩
  have hs1 : w1.heap.size = g + 1 := by rw [hw1, hg]; simp
  have hb1 : Below w.heap.size w w1 := by rw [hw1]; exact below_box _ _
  have hb2 : Below w1.heap.size w1 w2 := by rw [hw2]; exact below_box _ _
  have HY := Lib.hid (show C1 w2 g (.slice va N vc) by rw [hw2, hw1, hg]; constructor <;> simp [go_sem])
  have HX := Lib.hid (show VB w2 (g + 1) x by rw [hw2, HC.out, ← hs1]; exact VB.box w1 x 31)
  have HB := Lib.hid (hb1.trans (hb2.mono hb1.size))
  rw [← hw2, ← hg]
  clear hw1 hw2 hg hs1 hb1 hb2
  apply wp_region_lit
  have y0 := HY.out.k0
  iterate 3 go_step
  refine wpl_loadB HX.out.r rfl rfl rfl ?_
  rw [← HC.out]
  simp only [Act.put, List.setIfInBounds_toArray, List.set_cons_succ, List.set_cons_zero]
  clear y0
  go_wp2_with fail
  refine (HOP.out _ (HV.out.below HB.out)).mono ?_
  rintro e w3 ⟨mb, rfl, hd, hb⟩
  have HD := Lib.hid hd
  replace HY := Lib.hid (HY.out.below hb)
  replace HB := Lib.hid (HB.out.trans (hb.mono HB.out.size))
  clear hd hb HX
  have y0 := HY.out.k0
  go_wp2_with fail
  refine (HTB.out mb _ _ (HV.out.below HB.out) HD.out).mono ?_
  rintro e w4 ⟨r, rfl, hi, hb⟩
  obtain ⟨ra, rc, rfl, hrc, -⟩ : ∃ ra rc, r = .slice ra ((tripL E n).map u32).length rc ∧ ((tripL E n).map u32).length ≤ rc ∧ True := by
    obtain ⟨ra, rc, e, h1, -⟩ := hi
    exact ⟨ra, rc, e, h1, trivial⟩
  have e3 : ((tripL E n).map u32).length = 3 * n := by rw [List.length_map]; exact HTL.out
  have HI := Lib.hid hi
  rw [e3] at HI hrc ⊢
  have HE3 := Lib.hid e3
  have HB4 := Lib.hid (HB.out.trans (hb.mono HB.out.size))
  clear hi hb y0 e3
  have z1 : ¬ ((192 : Int) < 3 * (n : Int)) := by omega
  go_upto_region 9 with fail
  go_loopw [9, 10] (fun v9 v10 wr => ∃ k : Nat, k ≤ n ∧ v10 = .int .i64 (3 * (k : Int)) ∧ (∃ ga m c, v9 = .slice ga m c) ∧ wr.ownsRow w4.heap.size 76 2 v9 k (edX R k) ∧ Below w4.heap.size w4 wr) (fun _ i _ => 3 * n - (intOf i).toNat)
  case atStart => exact ⟨0, Nat.zero_le _, rfl, ⟨_, _, _, rfl⟩, owns_nil _ _ _ _, Below.refl _ _⟩
  case round =>
    obtain ⟨k, hk, rfl, ⟨ga, gm, gc, rfl⟩, ho, hb⟩ := hrel
    have HO := Lib.hid ho
    have HIk := Lib.hid (HI.out.below hb)
    have HBk := Lib.hid hb
    clear ho hb
    by_cases hlt : k < n
    · have hlt' : 3 * (k : Int) < 3 * (n : Int) := by omega
      have hlt1 : 3 * (k : Int) + 1 < 3 * (n : Int) := by omega
      obtain ⟨t0, t1⟩ := trip_at E hlt
      obtain ⟨ra', rc', e, _, hcell⟩ := HIk.out
      rw [HE3.out] at e
      simp only [Value.slice.injEq, true_and] at e
      obtain ⟨rfl, rfl⟩ := e
      obtain ⟨bb, oo, rfl, c0⟩ := hcell (3 * k) (u32 (E k).dur) (by rw [List.getElem?_map, t0]; rfl)
      obtain ⟨b2, o2, e2, c1⟩ := hcell (3 * k + 1) (u32 (E k).time) (by rw [List.getElem?_map, t1]; rfl)
      simp only [Option.some.injEq, Addr.mk.injEq, and_true] at e2
      obtain ⟨rfl, rfl⟩ := e2
      have hRk : R k = ⟨u32 (E k).dur, if u32 (E k).time = 4294967295 then -1 else u32 (E k).time⟩ := by rw [HR.out]; rfl
      obtain ⟨d, hd⟩ : ∃ d, d = u32 (E k).dur := ⟨_, rfl⟩
      obtain ⟨t, ht⟩ : ∃ t, t = u32 (E k).time := ⟨_, rfl⟩
      rw [← hd] at c0 hRk
      rw [← ht] at c1 hRk
      have HRK := Lib.hid hRk
      clear hd ht t0 t1 hcell hRk
      go_upto_if 45 with fail
      go_cut [11] from 44 to 45 (fun v wx => v = .int .i64 (R k).time ∧ wx = wr)
      case first J K' h1' h2' =>
        by_cases ht : t = 4294967295
        · have hrt : (R k).time = -1 := by rw [HRK.out]; exact if_pos ht
          have g1 : (t == 4294967295) = true := by simp [ht]
          clear ht
          go_wp2_with fail
          all_goals (refine Met.intro (h1' _ _ ?_); (repeat apply Exists.intro); exact ⟨⟨by rw [hrt], rfl⟩, rfl⟩)
        · have hrt : (R k).time = t := by rw [HRK.out]; exact if_neg ht
          have g1 : (t == 4294967295) = false := by simp [ht]
          clear ht
          go_wp2_with fail
          all_goals (refine Met.intro (h1' _ _ ?_); (repeat apply Exists.intro); exact ⟨⟨by rw [hrt], rfl⟩, rfl⟩)
      obtain ⟨rfl, hw⟩ := hcut
      have hw2 := hw.symm
      subst hw2
      go_upto_region 14 with fail
      apply wp_region_lit
      iterate 21 go_step
      refine Great.wpList_buildSliceTo rfl 41 76 1 #[(0, .tmp 52)] rfl wr.heap.size rfl (some 53) rfl Try.underlying41 #[.int .i64 d, .int .i64 (R k).time] ?_ ?_
      · simp only [List.map_toArray, List.map_cons, List.map_nil, List.toList_toArray]
        exact built_ed d (R k).time
      have hb := below_box wr (.cells #[.int .i64 d, .int .i64 (R k).time] 76)
      have hdR : (R k).dur = d := by rw [HRK.out]
      have HJ := Lib.hid (show (wr.alloc (.cells #[.int .i64 d, .int .i64 (R k).time] 76)).cell? ⟨wr.heap.size, 0, none⟩ = some (.int .i64 (R k).dur) ∧ (wr.alloc (.cells #[.int .i64 d, .int .i64 (R k).time] 76)).cell? ⟨wr.heap.size, 1, none⟩ = some (.int .i64 (R k).time) by rw [hdR]; exact ⟨by simp [go_sem], by simp [go_sem]⟩)
      obtain ⟨w5, hw5⟩ : ∃ y, y = wr.alloc (.cells #[.int .i64 d, .int .i64 (R k).time] 76) := ⟨_, rfl⟩
      rw [← hw5] at hb HJ ⊢
      obtain ⟨h4, hh4⟩ : ∃ y, y = wr.heap.size := ⟨_, rfl⟩
      rw [← hh4] at HJ ⊢
      have HO5 := Lib.hid (owns_below HO.out hb)
      have HB5 := Lib.hid (HBk.out.trans (hb.mono HBk.out.size))
      clear hb hdR hw5 hh4 c0 c1 hw
      simp only [Act.put, List.setIfInBounds_toArray, List.set_cons_succ, List.set_cons_zero]
      refine wpList_appE w5 rfl (.tmp 46) (.tmp 53) (some 54) rfl rfl w4.heap.size _ k R rfl HO5.out HB5.out.size h4 1 rfl HJ.out.1 HJ.out.2 (by omega) ?_
      intro v' w6 q1 q2 ⟨ga', gm', gc', hv'⟩
      subst hv'
      have HO6 := Lib.hid q1
      have HB6 := Lib.hid (growB HB5.out (Nat.le_refl _) q2 (fun q hq => (World.ownsRow.lt HO5.out q hq).1))
      clear q1 q2
      simp only [Act.put, List.setIfInBounds_toArray, List.set_cons_succ, List.set_cons_zero]
      go_wp2_with fail
      go_roundw
      case rel => exact ⟨k + 1, by omega, by first | rfl | (simp; omega), ⟨_, _, _, rfl⟩, HO6.out, HB6.out⟩
      case measure =>
        show 3 * n - (intOf (.int .i64 (3 * (k : Int) + 3))).toNat < 3 * n - (intOf (.int .i64 (3 * (k : Int)))).toNat
        simp [intOf]
        omega
    · have hkn : k = n := by omega
      subst hkn
      have z2 : ¬ (3 * (k : Int) < 3 * (k : Int)) := by omega
      go_wp2_with fail
      go_ret2
      refine ⟨_, rfl, owns_mono HO.out HB4.out.size, HB4.out.trans (HBk.out.mono HB4.out.size)⟩
theorem redits_any (v : Value) (L : List Int) (E : Nat → Ed) (n : Nat) (x : Bx) (w : World) (hv : BY w v L) (hl : L.length < 100000000) (hs : Seg L (x.p + 8) (catB (edB E n))) (hz : x.sz = 8 + (catB (edB E n)).length) (hn : n ≤ 64) :
    Calls Try.prog 70 #[.agg #[v], .agg (bxC x).toArray] w fun e w' => ∃ v', e = .returned (.tuple #[v', .bool true]) ∧ EA w' v' n (fun i => edR (E i)) ∧ Below w.heap.size w w' :=
  (redits_own v L E n x w hv hl hs hz hn).mono fun e w' ⟨v', h1, h2, h3⟩ => ⟨v', h1, ea_of h2, h3⟩
end Go.Proofs.Ytkhjkemllgjfmaa

/- bytes.Equal at equal bytes; bytes.Clone; the reader's config. -/
namespace Go.Proofs.Ytkhjkemllgjfmaa
open Go.RowKit
set_option linter.unusedVariables false
set_option linter.unusedSimpArgs false
theorem BY.bl {w : World} {v : Value} {D : List Int} (h : BY w v D) : BL w v D := by
  obtain ⟨ao, c, rfl, hc, H⟩ := h
  refine ⟨ao, c, rfl, hc, fun i u hu => ?_⟩
  have hi := (List.getElem?_eq_some_iff.1 hu).1
  obtain ⟨⟨b, o, e, hcell⟩, _⟩ := H i hi
  refine ⟨b, o, e, ?_⟩
  have e : D.getD i 0 = u := by simp [List.getD, hu]
  simp only [e] at hcell
  exact hcell
set_option maxRecDepth 100000 in
set_option maxHeartbeats 2000000 in
theorem equal_any (u v : Value) (L : List Int) (w : World) (hu : BL w u L) (hv : BL w v L) : Calls Try.prog 80 #[u, v] w fun e w' => e = .returned (.bool true) ∧ w' = w := by
  have h1 := conv_bytes hu
  have h2 := conv_bytes hv
  obtain ⟨ua, uc, rfl⟩ := hu.shape
  obtain ⟨va, vc, rfl⟩ := hv.shape
  obtain ⟨s, hs⟩ : ∃ s, s = strOfNums L := ⟨_, rfl⟩
  rw [← hs] at h1 h2
  clear hu hv hs
  go_enter Try.func80, Try.ntmps80
  go_wp2_with fail
  go_ret
  exact ⟨rfl, rfl⟩
theorem eq_nil_no (va : Addr) (n c : Nat) (w : World) : (binOp BinOp.eql 22 (.slice (some va) n c) (.slice none 0 0)).run Try.prog w = .ok (.bool false) w := by kernel_rfl
theorem eq_nil_yes (n c : Nat) (w : World) : (binOp BinOp.eql 22 (.slice none n c) (.slice none 0 0)).run Try.prog w = .ok (.bool true) w := by kernel_rfl
set_option maxRecDepth 100000 in
set_option maxHeartbeats 4000000 in
theorem clone_any (v : Value) (L : List Int) (w : World) (hv : BL w v L) (hl : L.length ≤ 90000000) : Calls Try.prog 50 #[v] w fun e w' => ∃ r, e = .returned r ∧ BL w' r L ∧ (∀ a n c, r = .slice (some a) n c → w.heap.size ≤ a.block ∧ a.block < w'.heap.size) ∧ Below w.heap.size w w' := by
  have HV := Lib.hid hv
  obtain ⟨va, vc, rfl⟩ := hv.shape
  cases va with
  | none =>
    have h0 : L = [] := by
      obtain ⟨ao, c, e, _, H⟩ := hv
      simp only [Value.slice.injEq] at e
      cases L with
      | nil => rfl
      | cons m L => obtain ⟨b, off, e2, _⟩ := H 0 m rfl; rw [← e.1] at e2; cases e2
    subst h0
    clear hv
    have hq := eq_nil_yes 0 vc w
    go_enter Try.func50, Try.ntmps50
    go_wp2_with fail
    go_ret
    exact ⟨_, rfl, ⟨none, 0, rfl, Nat.le_refl _, fun i u h => by simp at h⟩, fun a n c e => (by simp at e), Below.refl _ _⟩
  | some va =>
    clear hv
    obtain ⟨N, hN⟩ : ∃ N, N = L.length := ⟨_, rfl⟩
    rw [← hN] at HV ⊢
    have HN := Lib.hid hN
    clear hN
    have hq := eq_nil_no va N vc w
    go_enter Try.func50, Try.ntmps50
    go_upto_region 3 with fail
    clear hq
    apply wp_region_lit
    iterate 6 go_step
    have hO := owns_many w 5 1 0 #[] rfl (by decide)
    obtain ⟨w1, hw1⟩ : ∃ y, y = w.alloc (.cells #[] 5) := ⟨_, rfl⟩
    have hb : Below w.heap.size w w1 := by rw [hw1]; exact below_box _ _
    have HO := Lib.hid (show Own w1 w.heap.size (.slice (some ⟨w.heap.size, 0, none⟩) 0 0) [] by rw [hw1]; exact hO)
    have HB := Lib.hid hb
    replace HV := Lib.hid (HV.out.below hb)
    rw [← hw1]
    clear hO hw1 hb
    refine wpList_bytes w1 rfl (.tmp 5) (.tmp 6) rfl w.heap.size _ _ [] L rfl HO.out rfl HV.out (by simp only [List.length_nil]; omega) HB.out.size ?_
    intro v' w2 h1 h2
    have HO2 := Lib.hid h1
    have HB2 := Lib.hid (HB.out.trans (h2.mono (Nat.le_refl _)))
    clear h1 h2
    obtain ⟨a2, c2, e2⟩ := HO2.out.shape
    subst e2
    simp only [Act.put, List.setIfInBounds_toArray, List.set_cons_succ, List.set_cons_zero]
    go_wp2_with fail
    go_ret
    exact ⟨_, rfl, by simpa using HO2.out.bl, fun a n c e => World.ownsRow.lt HO2.out a.block (by simp only [Value.slice.injEq] at e; obtain ⟨rfl, -⟩ := e; rfl), HB2.out⟩
end Go.Proofs.Ytkhjkemllgjfmaa

/- The reader's config. -/
namespace Go.Proofs.Ytkhjkemllgjfmaa
open Go.RowKit
set_option linter.unusedVariables false
set_option linter.unusedSimpArgs false
/-- A variable that holds a track. -/
structure TV (w : World) (b : Nat) (h : ByteArray) (sc : Int) (cv sv ev : Value) : Prop where
  k0 : w.cell? ⟨b, 0, none⟩ = some (.string h)
  k1 : w.cell? ⟨b, 1, none⟩ = some (.int .i64 sc)
  k2 : w.cell? ⟨b, 2, none⟩ = some cv
  k3 : w.cell? ⟨b, 3, none⟩ = some sv
  k4 : w.cell? ⟨b, 4, none⟩ = some ev
  f : ∀ o, w.frozen? ⟨b, o, none⟩ = false
theorem TV.lt {w : World} {b : Nat} {h : ByteArray} {sc : Int} {cv sv ev : Value} (k : TV w b h sc cv sv ev) : b < w.heap.size := block_lt_of_cell k.k0
theorem TV.block {w w' : World} {b : Nat} {h : ByteArray} {sc : Int} {cv sv ev : Value} (k : TV w b h sc cv sv ev) (e : w'.heap[b]? = w.heap[b]?) : TV w' b h sc cv sv ev :=
  ⟨(World.cell?_of_block (a := ⟨b, 0, none⟩) e).trans k.k0, (World.cell?_of_block (a := ⟨b, 1, none⟩) e).trans k.k1, (World.cell?_of_block (a := ⟨b, 2, none⟩) e).trans k.k2, (World.cell?_of_block (a := ⟨b, 3, none⟩) e).trans k.k3,
    (World.cell?_of_block (a := ⟨b, 4, none⟩) e).trans k.k4, fun o => (World.frozen?_of_block (a := ⟨b, o, none⟩) e).trans (k.f o)⟩
theorem TV.below {w w' : World} {b : Nat} {h : ByteArray} {sc : Int} {cv sv ev : Value} (k : TV w b h sc cv sv ev) (hb : Below w.heap.size w w') : TV w' b h sc cv sv ev := k.block (hb.block b k.lt)
theorem TV.set0 {w : World} {b : Nat} {h : ByteArray} {sc : Int} {cv sv ev : Value} (k : TV w b h sc cv sv ev) (x : ByteArray) : TV (w.setCell ⟨b, 0, none⟩ (.string x)) b x sc cv sv ev := by
  obtain ⟨x0, x1, x2, x3, x4, f⟩ := k
  exact ⟨by simp [go_sem, x0, x1, x2, x3, x4], by simp [go_sem, x0, x1, x2, x3, x4], by simp [go_sem, x0, x1, x2, x3, x4], by simp [go_sem, x0, x1, x2, x3, x4], by simp [go_sem, x0, x1, x2, x3, x4], fun o => (World.frozen?_setCell _ _ _ _).trans (f o)⟩
theorem TV.set1 {w : World} {b : Nat} {h : ByteArray} {sc : Int} {cv sv ev : Value} (k : TV w b h sc cv sv ev) (x : Int) : TV (w.setCell ⟨b, 1, none⟩ (.int .i64 x)) b h x cv sv ev := by
  obtain ⟨x0, x1, x2, x3, x4, f⟩ := k
  exact ⟨by simp [go_sem, x0, x1, x2, x3, x4], by simp [go_sem, x0, x1, x2, x3, x4], by simp [go_sem, x0, x1, x2, x3, x4], by simp [go_sem, x0, x1, x2, x3, x4], by simp [go_sem, x0, x1, x2, x3, x4], fun o => (World.frozen?_setCell _ _ _ _).trans (f o)⟩
theorem TV.set2 {w : World} {b : Nat} {h : ByteArray} {sc : Int} {cv sv ev : Value} (k : TV w b h sc cv sv ev) (x : Value) : TV (w.setCell ⟨b, 2, none⟩ x) b h sc x sv ev := by
  obtain ⟨x0, x1, x2, x3, x4, f⟩ := k
  exact ⟨by simp [go_sem, x0, x1, x2, x3, x4], by simp [go_sem, x0, x1, x2, x3, x4], by simp [go_sem, x0, x1, x2, x3, x4], by simp [go_sem, x0, x1, x2, x3, x4], by simp [go_sem, x0, x1, x2, x3, x4], fun o => (World.frozen?_setCell _ _ _ _).trans (f o)⟩
theorem TV.set3 {w : World} {b : Nat} {h : ByteArray} {sc : Int} {cv sv ev : Value} (k : TV w b h sc cv sv ev) (x : Value) : TV (w.setCell ⟨b, 3, none⟩ x) b h sc cv x ev := by
  obtain ⟨x0, x1, x2, x3, x4, f⟩ := k
  exact ⟨by simp [go_sem, x0, x1, x2, x3, x4], by simp [go_sem, x0, x1, x2, x3, x4], by simp [go_sem, x0, x1, x2, x3, x4], by simp [go_sem, x0, x1, x2, x3, x4], by simp [go_sem, x0, x1, x2, x3, x4], fun o => (World.frozen?_setCell _ _ _ _).trans (f o)⟩
theorem TV.set4 {w : World} {b : Nat} {h : ByteArray} {sc : Int} {cv sv ev : Value} (k : TV w b h sc cv sv ev) (x : Value) : TV (w.setCell ⟨b, 4, none⟩ x) b h sc cv sv x := by
  obtain ⟨x0, x1, x2, x3, x4, f⟩ := k
  exact ⟨by simp [go_sem, x0, x1, x2, x3, x4], by simp [go_sem, x0, x1, x2, x3, x4], by simp [go_sem, x0, x1, x2, x3, x4], by simp [go_sem, x0, x1, x2, x3, x4], by simp [go_sem, x0, x1, x2, x3, x4], fun o => (World.frozen?_setCell _ _ _ _).trans (f o)⟩
/-- What may have changed: block g, and what lies above n. -/
structure But (n g : Nat) (w w' : World) : Prop where
  os : w'.os = w.os
  tape : w'.tape = w.tape
  output : w'.output = w.output
  size : w.heap.size ≤ w'.heap.size
  block : ∀ k, k < n → k ≠ g → w'.heap[k]? = w.heap[k]?
theorem But.refl (n g : Nat) (w : World) : But n g w w := ⟨rfl, rfl, rfl, Nat.le_refl _, fun _ _ _ => rfl⟩
theorem But.trans {n g : Nat} {a b c : World} (h : But n g a b) (k : But n g b c) : But n g a c :=
  ⟨k.os.trans h.os, k.tape.trans h.tape, k.output.trans h.output, Nat.le_trans h.size k.size, fun i hi hn => (k.block i hi hn).trans (h.block i hi hn)⟩
theorem But.of {n m g : Nat} {w w' : World} (h : Below m w w') (hm : n ≤ m) : But n g w w' := ⟨h.os, h.tape, h.output, h.size, fun k hk _ => h.block k (Nat.lt_of_lt_of_le hk hm)⟩
theorem But.cell (n g o : Nat) (u : Value) (w : World) : But n g w (w.setCell ⟨g, o, none⟩ u) := ⟨rfl, rfl, rfl, by simp, fun k _ hn => by simp [World.setCell, Array.getElem?_modify, hn.symm]⟩
theorem But.mono {n m g : Nat} {w w' : World} (h : But n g w w') (hm : m ≤ n) : But m g w w' := ⟨h.os, h.tape, h.output, h.size, fun k hk hn => h.block k (Nat.lt_of_lt_of_le hk hm) hn⟩
theorem But.below {n g : Nat} {w w' : World} (h : But n g w w') {m : Nat} (hm : m ≤ n) (hg : m ≤ g) : Below m w w' := ⟨h.os, h.tape, h.output, h.size, fun k hk => h.block k (Nat.lt_of_lt_of_le hk hm) (by omega)⟩
/-- Bytes that do not lie in block g. -/
theorem BY.but {w w' : World} {v : Value} {D : List Int} {n g : Nat} (h : BY w v D) (hb : But n g w w') (hn : ∀ a m c, v = .slice (some a) m c → a.block < n ∧ a.block ≠ g) : BY w' v D := by
  obtain ⟨ao, c, rfl, hc, H⟩ := h
  refine ⟨ao, c, rfl, hc, fun i hi => ?_⟩
  obtain ⟨⟨b, o, rfl, hcell⟩, h2⟩ := H i hi
  have hx := hn _ _ _ rfl
  exact ⟨⟨b, o, rfl, (World.cell?_of_block (a := ⟨b, o + i, none⟩) (hb.block b hx.1 hx.2)).trans hcell⟩, h2⟩
theorem BL.but {w w' : World} {v : Value} {D : List Int} {n g : Nat} (h : BL w v D) (hb : But n g w w') (hn : ∀ a m c, v = .slice (some a) m c → a.block < n ∧ a.block ≠ g) : BL w' v D := by
  obtain ⟨ao, c, rfl, hc, H⟩ := h
  refine ⟨ao, c, rfl, hc, fun i u hu => ?_⟩
  obtain ⟨b, o, rfl, hcell⟩ := H i u hu
  have hx := hn _ _ _ rfl
  exact ⟨b, o, rfl, (World.cell?_of_block (a := ⟨b, o + i, none⟩) (hb.block b hx.1 hx.2)).trans hcell⟩
theorem DirA.grown {w w' : World} {B mb g : Nat} {l : List Bx} (h : DirA w B mb l) (hg : w.grownBy w' (some g)) (h1 : g < B) (h2 : g ≠ mb) : DirA w' B mb l := by
  have hl := h.lt
  obtain ⟨es, clock, hm, H1, H⟩ := h
  refine ⟨es, clock, (hg.block mb hl (fun e => by cases e; exact h2 rfl)).trans hm, fun e he => ?_, H⟩
  obtain ⟨nm, q1, q2, q3, q4, q5⟩ := H1 e he
  obtain ⟨k, hk, hB, _⟩ := q4.own q3
  exact ⟨nm, q1, q2, q3, q4.kept hg (by rw [hk]; intro e; cases e; omega), q5⟩
theorem grown_set (w : World) (g o : Nat) (u : Value) : w.grownBy (w.setCell ⟨g, o, none⟩ u) (some g) :=
  ⟨rfl, rfl, rfl, by simp, fun k _ hn => by simp only [ne_eq, Option.some.injEq] at hn; simp [World.setCell, Array.getElem?_modify, Ne.symm hn]⟩
/-- The contents of the box stsd. -/
theorem stsd_segs (T : Tr) : Seg (stsdL T) 24 (cfL T) ∧ (stsdL T).length = 24 + T.nC ∧ stsdL T = numsL [0, 1] ++ boxP nCrsd (List.replicate 6 0 ++ [0, 1] ++ cfL T) := by
  have hc : (cfL T).length = T.nC := by simp [cfL]
  have e : stsdL T = numsL [0, 1] ++ boxP nCrsd (List.replicate 6 0 ++ [0, 1] ++ cfL T) := by unfold stsdL; simp only [bytesT]; rfl
  refine ⟨?_, ?_, e⟩
  · rw [e]
    refine ⟨numsL [0, 1] ++ (num4 (((List.replicate 6 0 ++ [0, 1] ++ cfL T).length : Int) + 4 + nCrsd.size) ++ strB nCrsd ++ (List.replicate 6 0 ++ [0, 1])), [], ?_, ?_⟩
    · unfold boxP; simp [List.append_assoc]
    · simp only [List.length_append, strB_len]; rfl
  · rw [e, List.length_append, boxP_length]
    simp only [List.length_append, hc, List.length_replicate]
    show 8 + (4 + 4 + (6 + 2 + T.nC)) = _
    omega
theorem adv_nil {w w' : World} {r : Value} (h : Adv w w' (.slice none 0 0) r) : Below w.heap.size w w' := h.below (by simp [Value.ownBlock])
set_option maxRecDepth 100000 in
theorem run_from0 (b of n c m : Nat) (w : World) (hm : m ≤ n) (hc : n ≤ c) :
    (Instr.sliceAt 22 (.slice (some ⟨b, of, none⟩) n c) (some (.int .i64 (m : Int))) none none).run Try.prog w = .ok (.slice (some (if m = c then ⟨b, of, none⟩ else ⟨b, of + m, none⟩)) (n - m) (c - m)) w := by
  have h1 : (m : Int) ≤ (n : Int) := by omega
  have h2 : (n : Int) ≤ (c : Int) := by omega
  have h3 : (0 : Int) ≤ (m : Int) := by omega
  by_cases hmc : m = c
  · subst hmc
    have e : n = m := by omega
    subst e
    simp [go_sem, Instr.sliceAt, Instr.slice, h3]
  · simp [go_sem, Instr.sliceAt, Instr.slice, h1, h3, hmc]
    try omega
theorem run_from (o : Oper) (a : Act) (x y : Operand) (b of n c m : Nat) (w : World) (hop : o.op = .slice 22 x (some y) none none) (hx : a.eval x = .slice (some ⟨b, of, none⟩) n c) (hy : a.eval y = .int .i64 (m : Int)) (hm : m ≤ n) (hc : n ≤ c) :
    (execOp a.eval o).run Try.prog w = .ok (.value (.slice (some (if m = c then ⟨b, of, none⟩ else ⟨b, of + m, none⟩)) (n - m) (c - m))) w := by
  have h := run_from0 b of n c m w hm hc
  unfold execOp
  rw [hop]
  simp only [Option.map_some, Option.map_none, hx, hy]
  rw [Sem.run_bind, h]
  rfl
theorem own_lim {w w' : World} {n B : Nat} {v : Value} {L : List Int} (h : Own w B v L) (hb : Below n w w') (hn : ∀ k, v.ownBlock = some k → k < n) : Own w' B v L := by
  refine ⟨h.1, ?_⟩
  rcases h.2 with h1 | ⟨g, cap, cur, rfl, h1, h2, h3⟩
  · exact .inl h1
  · exact .inr ⟨g, cap, cur, rfl, h1, (hb.block g (hn g rfl)).trans h2, h3⟩
theorem bl_two (w : World) (a b : Int) : BL (w.alloc (.cells #[.int .u8 a, .int .u8 b] 5)) (.slice (some ⟨w.heap.size, 0, none⟩) 2 2) [a, b] :=
  ⟨_, 2, rfl, Nat.le_refl _, fun i u hu => by
    refine ⟨w.heap.size, 0, rfl, ?_⟩
    have hi : i < 2 := (List.getElem?_eq_some_iff.1 hu).1
    rcases (show i = 0 ∨ i = 1 by omega) with rfl | rfl
    · simp only [List.getElem?_cons_zero, Option.some.injEq] at hu; subst hu; simp [go_sem]
    · simp only [List.getElem?_cons_zero, List.getElem?_cons_succ, Option.some.injEq] at hu; subst hu; simp [go_sem]⟩
set_option maxRecDepth 100000 in
set_option maxHeartbeats 8000000 in
theorem config_any (v : Value) (L : List Int) (T : Tr) (mb : Nat) (l : List Bx) (B tb : Nat) (h : ByteArray) (sc : Int) (cv sv ev : Value) (x1 x2 : Bx) (w : World) (hv : BY w v L) (hvt : ∀ a m c, v = .slice (some a) m c → a.block ≠ tb) (ht : TV w tb h sc cv sv ev) (hd : DirA w B mb l) (htB : tb < B) (hmb : tb ≠ mb)
    (hp1 : pick nStsd l = [x1]) (hs1 : Seg L (x1.p + 8) (stsdL T)) (hz1 : x1.sz = 8 + (stsdL T).length) (hp2 : pick nStsc l = [x2]) (hs2 : Seg L (x2.p + 8) chunkL) (hz2 : x2.sz = 8 + chunkL.length) (hc : T.nC ≤ 4096) (hl : L.length ≤ 100000000) :
    Calls Try.prog 77 #[.agg #[v], .map (some mb), .pointer (some ⟨tb, 0, none⟩)] w fun e w' => ∃ cv', e = .returned (.bool true) ∧ TV w' tb h sc cv' sv ev ∧ BL w' cv' (cfL T) ∧ (∀ a n c, cv' = .slice (some a) n c → w.heap.size ≤ a.block) ∧ But w.heap.size tb w w' := by
  obtain ⟨q1, q2, q3⟩ := stsd_segs T
  have HDT := Lib.hid (fun (w : World) (hv : BY w v L) (h : DirA w B mb l) => data_any2 v L (stsdL T) mb 0 l nStsd x1 B w hv hs1 hz1 h (by decide) hp1 (Nat.zero_le _) hl)
  have HDC := Lib.hid (fun (w : World) (hv : BY w v L) (h : DirA w B mb l) => data_any v L chunkL mb 0 l nStsc x2 B w hv hs2 hz2 h (by decide) hp2 (Nat.zero_le _) hl)
  have HV := Lib.hid hv
  have HT := Lib.hid ht
  have HD := Lib.hid hd
  have HQ1 := Lib.hid q1
  have HQ2 := Lib.hid q2
  have HQ3 := Lib.hid q3
  have htw := ht.lt
  obtain ⟨vb, vo, vc, rfl, hvb⟩ : ∃ vb vo vc, v = .slice (some ⟨vb, vo, none⟩) L.length vc ∧ vb < w.heap.size := by
    obtain ⟨vb, vo, vc, e, h1, h2, h3⟩ := BA.open hv (by have := hs1.le; rw [q2] at this; omega)
    exact ⟨vb, vo, vc, e, block_lt_of_cell (h2 0 (by have := hs1.le; rw [q2] at this; omega))⟩
  have hvt2 : vb ≠ tb := hvt _ _ _ rfl
  obtain ⟨N, hN⟩ : ∃ N, N = L.length := ⟨_, rfl⟩
  rw [← hN] at HDT HDC HV ⊢
  clear q1 q2 q3 hv hvt ht hd hs1 hz1 hp1 hs2 hz2 hp2 hN
  go_enter Try.func77, Try.ntmps77
  go_upto_region 1 with fail
  obtain ⟨w1, hw1⟩ : ∃ y, y = w.alloc (.cells #[.slice (some ⟨vb, vo, none⟩) N vc] 98) := ⟨_, rfl⟩
  rw [← hw1]
  obtain ⟨g, hg⟩ : ∃ y, y = w.heap.size := ⟨_, rfl⟩
  have hb1 : Below w.heap.size w w1 := by rw [hw1]; exact below_box _ _
  have HY := Lib.hid (show C1 w1 g (.slice (some ⟨vb, vo, none⟩) N vc) by rw [hw1, hg]; constructor <;> simp [go_sem])
  have HG := Lib.hid (show w.heap.size ≤ g ∧ g < w1.heap.size ∧ tb ≠ g from ⟨Nat.le_of_eq hg.symm, HY.out.lt, by omega⟩)
  rw [← hg]
  have HB := Lib.hid hb1
  replace HD := Lib.hid (HD.out.below hb1)
  replace HT := Lib.hid (HT.out.below hb1)
  clear hw1 hg hb1
  have y0 := HY.out.k0
  simp only [nStsd, nStsc, Int.natCast_zero] at HDT HDC
  go_wp2_with fail
  refine (HDT.out _ (HV.out.below HB.out) HD.out).mono ?_
  rintro e w2 ⟨v', rfl, hby, hsb, hb⟩
  obtain ⟨b2, c2, rfl⟩ := hsb _ _ _ _ rfl
  clear hsb
  have HS := Lib.hid hby
  replace HB := Lib.hid (HB.out.trans (hb.mono HB.out.size))
  replace HD := Lib.hid (HD.out.below hb)
  replace HT := Lib.hid (HT.out.below hb)
  replace HY := Lib.hid (HY.out.below hb)
  rw [HQ2.out] at HS ⊢
  clear hby hb y0
  go_upto_region 4 with fail
  have HW := Lib.hid (Below.refl w2.heap.size w2)
  have HI := Lib.hid (IL.build w2 [0, 1] 2)
  have hb := below_box w2 (.cells #[.int .i64 0, .int .i64 1] 2)
  go_wp2_with fail
  refine (appn_any (.slice none 0 0) _ [] [0, 1] w2.heap.size _ (own_nil _ _) HI.out (fun a n c e h => by cases h) (by simp) (by simp) (by simp)).mono ?_
  rintro e w3 ⟨r3, rfl, hr, ha⟩
  replace hb : Below w2.heap.size w2 w3 := hb.trans ((adv_nil ha).mono (by simp))
  obtain ⟨a3, c3, rfl⟩ := hr.shape
  have HR3 := Lib.hid hr
  have HL3 := Lib.hid (World.ownsRow.lt hr)
  replace HW := Lib.hid hb
  clear hb hr ha HI
  go_wp2_with fail
  refine (appz_any (.slice none 0 0) [] 6 w3.heap.size w3 (own_nil _ _) (by decide) (by decide) (by simp) (Nat.le_refl _)).mono ?_
  rintro e w4 ⟨r4, rfl, hr, ha⟩
  have hb : Below w3.heap.size w3 w4 := adv_nil ha
  obtain ⟨a4, c4, rfl⟩ := hr.shape
  have HR4 := Lib.hid hr
  have HB3 := Lib.hid (show w2.heap.size ≤ w3.heap.size ∧ w3.heap.size ≤ w4.heap.size from ⟨HW.out.size, hb.size⟩)
  replace HR3 := Lib.hid (HR3.out.below hb)
  replace HW := Lib.hid (HW.out.trans (hb.mono HW.out.size))
  clear hb hr ha
  try dsimp only
  iterate 4 go_step
  have hb := below_box w4 (.cells #[.int .u8 0, .int .u8 1] 5)
  have hJ : BL (w4.alloc (.cells #[.int .u8 0, .int .u8 1] 5)) (.slice (some ⟨w4.heap.size, 0, none⟩) 2 2) [0, 1] := bl_two w4 0 1
  have hR := HR4.out.below hb
  refine wpList_bytes _ rfl (.tmp 21) (.tmp 22) rfl w3.heap.size _ _ _ [0, 1] rfl hR rfl hJ (by simp) (by have := HB3.out; simp; omega) ?_
  intro v5 w5 hr hb5
  replace hb5 : Below w3.heap.size w4 w5 := (hb.mono HB3.out.2).trans hb5
  obtain ⟨a5, c5, rfl⟩ := hr.shape
  have HR5 := Lib.hid hr
  replace HR3 := Lib.hid (own_lim HR3.out hb5 (fun k hk => (HL3.out k hk).2))
  have HB5 := Lib.hid (show w3.heap.size ≤ w5.heap.size from Nat.le_trans HB3.out.2 hb5.size)
  replace HW := Lib.hid (HW.out.trans (hb5.mono HB3.out.1))
  clear hb hJ hR hr hb5 HR4
  simp only [Act.put, List.setIfInBounds_toArray, List.set_cons_succ, List.set_cons_zero]
  go_wp2_with fail
  refine (appb_leaf _ _ nCrsd _ _ w2.heap.size w5 HR3.out (Own.ca nCrsd HR5.out (fun q hq => (HL3.out q hq).2)) (by decide) (Nat.le_trans HB3.out.1 HB5.out)).mono ?_
  rintro e w6 ⟨r6, rfl, hr, ha⟩
  obtain ⟨a6, c6, rfl⟩ := hr.shape
  have e24 : ([] ++ numsL [0, 1] ++ boxP nCrsd ([] ++ List.replicate 6 0 ++ [0, 1])).length = 24 := by decide
  rw [e24]
  replace HW := Lib.hid (growB HW.out (Nat.le_refl _) ha.g (fun k hk => (HL3.out k hk).1))
  clear hr ha e24 HR3 HR5 HL3 HB3 HB5
  have z1 : ¬ ((24 : Int) + (T.nC : Int) < 24) := by omega
  have z2 : ¬ ((4120 : Int) < 24 + (T.nC : Int)) := by omega
  go_upto_region 7 with fail
  apply wp_region_lit
  iterate 12 go_step
  have hc2 : 24 + T.nC ≤ c2 := by
    obtain ⟨_, _, c2', e2, hc2, -, -⟩ := BA.open HS.out (by rw [HQ2.out]; omega)
    rw [HQ2.out] at e2 hc2
    simp only [Value.slice.injEq, true_and] at e2
    obtain ⟨_, rfl⟩ := e2
    exact hc2
  refine Great.wpList_runTo rfl (some 44) rfl _ w6 (run_from _ _ (.tmp 41) (.tmp 43) vb b2 (24 + T.nC) c2 24 w6 rfl rfl rfl (by omega) hc2) ?_
  have hbl : ∃ a7 c7, (Value.slice (some (if 24 = c2 then ⟨vb, b2, none⟩ else ⟨vb, b2 + 24, none⟩)) (24 + T.nC - 24) (c2 - 24)) = .slice (some a7) T.nC c7 ∧ BL w6 (.slice (some a7) T.nC c7) (cfL T) := by
    have hcf : (cfL T).length = T.nC := by simp [cfL]
    have h6 := HS.out.below HW.out
    by_cases h24 : 24 = c2
    · refine ⟨⟨vb, b2, none⟩, c2 - 24, by rw [if_pos h24]; congr 1; omega, ⟨_, c2 - 24, by rw [hcf], by omega, fun i u hu => ?_⟩⟩
      have := (List.getElem?_eq_some_iff.1 hu).1
      omega
    · refine ⟨⟨vb, b2 + 24, none⟩, c2 - 24, by rw [if_neg h24]; congr 1; omega, ?_⟩
      have h1 := BY.part (show BY w6 (.slice (some ⟨vb, b2, none⟩) (stsdL T).length c2) (stsdL T) by rw [HQ2.out]; exact h6) HQ1.out (show (cfL T).length ≤ c2 - 24 by omega)
      rw [hcf] at h1
      exact h1.bl
  obtain ⟨a7, c7, e7, hbl⟩ := hbl
  rw [e7]
  have HBL := Lib.hid hbl
  clear e7 hbl
  simp only [Act.put, List.setIfInBounds_toArray, List.set_cons_succ, List.set_cons_zero]
  go_wp2_with fail
  refine (clone_any _ (cfL T) w6 HBL.out (by simp [cfL]; omega)).mono ?_
  rintro e w7 ⟨cv', rfl, hbl, hfr, hb⟩
  obtain ⟨ca, cm, cc, rfl⟩ : ∃ ca cm cc, cv' = .slice ca cm cc := by obtain ⟨a, c, e, _⟩ := hbl; exact ⟨_, _, _, e⟩
  have HCV := Lib.hid hbl
  have hw26 := HW.out.size
  have HFR := Lib.hid (show ∀ a n c, Value.slice ca cm cc = .slice (some a) n c → w6.heap.size ≤ a.block ∧ a.block < w7.heap.size from hfr)
  replace HW := Lib.hid (HW.out.trans (hb.mono HW.out.size))
  have HT7 := Lib.hid (HT.out.below HW.out)
  have HM := Lib.hid (show w.heap.size ≤ w2.heap.size ∧ w2.heap.size ≤ w6.heap.size ∧ w6.heap.size ≤ w7.heap.size from ⟨HB.out.size, hw26, hb.size⟩)
  clear hbl hfr hb hw26
  have y2 := HT7.out.k2
  have yf := HT7.out.f
  go_upto_region 8 with fail
  obtain ⟨w8, hw8⟩ : ∃ y, y = w7.setCell ⟨tb, 2, none⟩ (.slice ca cm cc) := ⟨_, rfl⟩
  rw [← hw8]
  have HT8 := Lib.hid (show TV w8 tb h sc (.slice ca cm cc) sv ev by rw [hw8]; exact HT7.out.set2 _)
  have hg8 : w7.grownBy w8 (some tb) := by rw [hw8]; exact grown_set _ _ _ _
  have hsz : w8.heap.size = w7.heap.size := by rw [hw8]; simp
  have hB78 : But w7.heap.size tb w7 w8 := by rw [hw8]; exact But.cell _ _ _ _ _
  have HC8 := Lib.hid (HCV.out.but hB78 (fun a m c e => ⟨(HFR.out a m c e).2, by have := (HFR.out a m c e).1; have := HM.out; omega⟩))
  have HS8 := Lib.hid ((HS.out.below HW.out).but hB78 (fun a m c e => by
    simp only [Value.slice.injEq, Option.some.injEq] at e
    have e1 := e.1
    subst e1
    exact ⟨show vb < w7.heap.size by have := HM.out; omega, hvt2⟩))
  have HV8 := Lib.hid (((HV.out.below HB.out).below HW.out).but hB78 (fun a m c e => by
    simp only [Value.slice.injEq, Option.some.injEq] at e
    have e1 := e.1
    subst e1
    exact ⟨show vb < w7.heap.size by have := HM.out; omega, hvt2⟩))
  have HD8 := Lib.hid ((HD.out.below HW.out).grown hg8 htB hmb)
  have HY8 := Lib.hid (show C1 w8 g (.slice (some ⟨vb, vo, none⟩) N vc) by
    have k := HY.out.below HW.out
    have e := hg8.block g k.lt (by intro e; cases e; exact HG.out.2.2 rfl)
    exact ⟨(World.cell?_of_block (a := ⟨g, 0, none⟩) e).trans k.k0, (World.frozen?_of_block (a := ⟨g, 0, none⟩) e).trans k.fz⟩)
  have HBUT := Lib.hid (show But w.heap.size tb w w8 from ((But.of HB.out (Nat.le_refl _)).trans (But.of HW.out HB.out.size)).trans (hB78.mono (by have := HM.out; omega)))
  have HCF := Lib.hid (show ∀ a n c, Value.slice ca cm cc = .slice (some a) n c → w.heap.size ≤ a.block from fun a n c e => by have := (HFR.out a n c e).1; have := HM.out; omega)
  clear hw8 hg8 hsz hB78 y2 yf
  replace HFR := trivial
  replace HCV := trivial
  replace HBL := trivial
  replace HM := trivial
  replace HT := trivial
  replace HT7 := trivial
  replace HS := trivial
  replace HV := trivial
  replace HD := trivial
  replace HY := trivial
  replace HW := trivial
  replace HB := trivial
  clear HFR HCV HBL HM HT HT7 HS HV HD HY HW HB HDT
  have hncf := Lib.hid (show (cfL T).length = T.nC by simp [cfL])
  -- region 8
  go_wp2_with fail
  refine (appz_any (.slice none 0 0) [] 6 w8.heap.size w8 (own_nil _ _) (by decide) (by decide) (by simp) (Nat.le_refl _)).mono ?_
  rintro e w9 ⟨r9, rfl, hr, ha⟩
  have hb : Below w8.heap.size w8 w9 := adv_nil ha
  obtain ⟨a9, c9, rfl⟩ := hr.shape
  have HR9 := Lib.hid hr
  have HW := Lib.hid hb
  clear hb hr ha
  try dsimp only
  iterate 4 go_step
  have hb := below_box w9 (.cells #[.int .u8 0, .int .u8 1] 5)
  have hJ : BL (w9.alloc (.cells #[.int .u8 0, .int .u8 1] 5)) (.slice (some ⟨w9.heap.size, 0, none⟩) 2 2) [0, 1] := bl_two w9 0 1
  have hR := HR9.out.below hb
  refine wpList_bytes _ rfl (.tmp 48) (.tmp 49) rfl w8.heap.size _ _ _ [0, 1] rfl hR rfl hJ (by simp) (by have := HW.out.size; simp; omega) ?_
  intro v10 w10 hr hb10
  replace hb10 : Below w8.heap.size w8 w10 := HW.out.trans ((hb.mono HW.out.size).trans hb10)
  obtain ⟨a10, c10, rfl⟩ := hr.shape
  have HR10 := Lib.hid hr
  replace HW := Lib.hid hb10
  clear hb hJ hR hr hb10 HR9
  simp only [Act.put, List.setIfInBounds_toArray, List.set_cons_succ, List.set_cons_zero]
  -- region 9
  have HT10 := Lib.hid (HT8.out.below HW.out)
  have y2 := HT10.out.k2
  go_upto_region 9 with fail
  apply wp_region_lit
  iterate 15 go_step
  have hcl : BL w10 (.slice ca cm cc) (cfL T) := HC8.out.below HW.out
  refine wpList_bytes _ rfl (.tmp 51) (.tmp 55) rfl w8.heap.size _ _ _ (cfL T) rfl HR10.out rfl hcl (by have := hncf.out; simp; omega) HW.out.size ?_
  intro v11 w11 hr hb11
  obtain ⟨a11, c11, hv11⟩ := hr.shape
  obtain ⟨n11, hn11⟩ : ∃ n, n = ([] ++ List.replicate 6 0 ++ [0, 1] ++ cfL T).length := ⟨_, rfl⟩
  rw [← hn11] at hv11
  subst hv11
  have HN11 := Lib.hid hn11
  clear hn11
  have HR11 := Lib.hid hr
  replace HW := Lib.hid (HW.out.trans hb11)
  clear hcl hr hb11 HR10 y2 HT10
  simp only [Act.put, List.setIfInBounds_toArray, List.set_cons_succ, List.set_cons_zero]
  go_upto_region 10 with fail
  -- region 10
  have HI := Lib.hid (IL.build w11 [0, 1] 2)
  have hb := below_box w11 (.cells #[.int .i64 0, .int .i64 1] 2)
  go_wp2_with fail
  refine (appn_any (.slice none 0 0) _ [] [0, 1] w11.heap.size _ (own_nil _ _) HI.out (fun a n c e h => by cases h) (by simp) (by simp) (by simp)).mono ?_
  rintro e w12 ⟨r12, rfl, hr, ha⟩
  replace hb : Below w11.heap.size w11 w12 := hb.trans ((adv_nil ha).mono (by simp))
  obtain ⟨a12, c12, rfl⟩ := hr.shape
  have HR12 := Lib.hid hr
  have HL12 := Lib.hid (World.ownsRow.lt hr)
  have HL11 := Lib.hid (World.ownsRow.lt HR11.out)
  replace HR11 := Lib.hid (HR11.out.below hb)
  have HS12 := Lib.hid (show w8.heap.size ≤ w11.heap.size ∧ w11.heap.size ≤ w12.heap.size from ⟨HW.out.size, hb.size⟩)
  replace HW := Lib.hid (HW.out.trans (hb.mono HW.out.size))
  clear hb hr ha HI
  go_wp2_with fail
  refine (appb_leaf _ _ nCrsd _ _ w11.heap.size w12 HR12.out (.leaf nCrsd _ _ HR11.out.bl (fun a n c e => ⟨fun h' => by have h1 := (HL12.out _ h').1; have h2 := (HL11.out _ (HR11.out.at a n c e).1).2; omega, (HR11.out.at a n c e).2.2⟩)) (by simp only [List.length_append, hncf.out, List.length_replicate, List.length_nil]; have : (numsL [0, 1]).length = 8 := rfl; have : nCrsd.size = 4 := rfl; simp only [List.length_cons, List.length_nil]; omega) HS12.out.2).mono ?_
  rintro e w13 ⟨r13, rfl, hr, ha⟩
  have hq : [] ++ numsL [0, 1] ++ boxP nCrsd ([] ++ List.replicate 6 0 ++ [0, 1] ++ cfL T) = stsdL T := by rw [HQ3.out]; rfl
  rw [hq] at hr
  obtain ⟨a13, c13, rfl⟩ := hr.shape
  have HB13 := Lib.hid hr.bl
  replace HW := Lib.hid (growB HW.out (Nat.le_refl _) ha.g (fun k hk => by have := (HL12.out k hk).1; have := HS12.out; omega))
  clear hq hr ha HR11 HR12 HL11 HL12 HS12
  have HSb := Lib.hid (HS8.out.below HW.out)
  go_wp2_with fail
  refine (equal_any _ _ (stsdL T) w13 (by have := BY.bl HSb.out; exact this) HB13.out).mono ?_
  rintro e w14 ⟨rfl, rfl⟩
  have HY13 := Lib.hid (HY8.out.below HW.out)
  have y0 := HY13.out.k0
  clear HSb HB13
  go_upto_region 12 with fail
  go_wp2_with fail
  refine (HDC.out _ (HV8.out.below HW.out) (HD8.out.below HW.out)).mono ?_
  rintro e w15 ⟨v15, rfl, hby, hb⟩
  obtain ⟨a15, c15, rfl⟩ := BA.shape hby
  have HC15 := Lib.hid hby
  replace HW := Lib.hid (HW.out.trans (hb.mono HW.out.size))
  clear hby hb y0
  go_upto_region 13 with fail
  go_wp2_with fail
  refine (chunks_any _).mono ?_
  rintro e w16 ⟨r16, rfl, hr, hb⟩
  obtain ⟨a16, c16, rfl⟩ := hr.shape
  have HR16 := Lib.hid hr
  replace HC15 := Lib.hid (HC15.out.below hb)
  replace HW := Lib.hid (HW.out.trans (hb.mono HW.out.size))
  clear hr hb
  go_wp2_with fail
  refine (equal_any _ _ chunkL w16 (BY.bl HC15.out) HR16.out.bl).mono ?_
  rintro e w17 ⟨rfl, rfl⟩
  go_wp2_with fail
  go_ret
  exact ⟨_, rfl, HT8.out.below HW.out, HC8.out.below HW.out, HCF.out, HBUT.out.trans (But.of HW.out HBUT.out.size)⟩
end Go.Proofs.Ytkhjkemllgjfmaa

/- Samples that the reader makes: their block, and the two closures that set a field. -/
namespace Go.Proofs.Ytkhjkemllgjfmaa
open Go.RowKit
set_option linter.unusedVariables false
set_option linter.unusedSimpArgs false
set_option maxRecDepth 100000 in
theorem setd_any (q o : Nat) (v : Int) (u : Value) (w : World) (hc : w.cell? ⟨q, o + 1, none⟩ = some u) (hf : w.frozen? ⟨q, o + 1, none⟩ = false) :
    Calls Try.prog 82 #[.pointer (some ⟨q, o, none⟩), .int .i64 v] w fun e w' => e = .returned (.tuple #[]) ∧ w' = w.setCell ⟨q, o + 1, none⟩ (.int .i64 v) := by
  go_enter Try.func82, Try.ntmps82
  go_wp2_with fail
  go_end0
  exact ⟨rfl, rfl⟩
set_option maxRecDepth 100000 in
theorem sets_any (q o : Nat) (v : Int) (u : Value) (w : World) (hc : w.cell? ⟨q, o + 2, none⟩ = some u) (hf : w.frozen? ⟨q, o + 2, none⟩ = false) :
    Calls Try.prog 83 #[.pointer (some ⟨q, o, none⟩), .int .i64 v] w fun e w' => e = .returned (.tuple #[]) ∧ w' = w.setCell ⟨q, o + 2, none⟩ (.int .i64 v) := by
  go_enter Try.func83, Try.ntmps83
  go_wp2_with fail
  go_end0
  exact ⟨rfl, rfl⟩
/-- A block of samples: X their data, S the rest. -/
structure SB (w : World) (q n : Nat) (X : Nat → Value) (S : Nat → Sm) : Prop where
  k0 : ∀ i, i < n → w.cell? ⟨q, i * 4, none⟩ = some (X i)
  k1 : ∀ i, i < n → w.cell? ⟨q, i * 4 + 1, none⟩ = some (.int .i64 (S i).dur)
  k2 : ∀ i, i < n → w.cell? ⟨q, i * 4 + 2, none⟩ = some (.int .i64 (S i).shift)
  k3 : ∀ i, i < n → w.cell? ⟨q, i * 4 + 3, none⟩ = some (.bool (S i).sync)
  f : ∀ o, w.frozen? ⟨q, o, none⟩ = false
theorem SB.block {w w' : World} {q n : Nat} {X : Nat → Value} {S : Nat → Sm} (k : SB w q n X S) (e : w'.heap[q]? = w.heap[q]?) : SB w' q n X S :=
  ⟨fun i hi => (World.cell?_of_block (a := ⟨q, i * 4, none⟩) e).trans (k.k0 i hi), fun i hi => (World.cell?_of_block (a := ⟨q, i * 4 + 1, none⟩) e).trans (k.k1 i hi),
    fun i hi => (World.cell?_of_block (a := ⟨q, i * 4 + 2, none⟩) e).trans (k.k2 i hi), fun i hi => (World.cell?_of_block (a := ⟨q, i * 4 + 3, none⟩) e).trans (k.k3 i hi),
    fun o => (World.frozen?_of_block (a := ⟨q, o, none⟩) e).trans (k.f o)⟩
theorem SB.congr {w : World} {q n : Nat} {X : Nat → Value} {S S' : Nat → Sm} (k : SB w q n X S) (h : ∀ i, i < n → S' i = S i) : SB w q n X S' :=
  ⟨k.k0, fun i hi => by rw [h i hi]; exact k.k1 i hi, fun i hi => by rw [h i hi]; exact k.k2 i hi, fun i hi => by rw [h i hi]; exact k.k3 i hi, k.f⟩
theorem cell_far {w : World} {q a b : Nat} {u : Value} (h : a ≠ b) : (w.setCell ⟨q, a, none⟩ u).cell? ⟨q, b, none⟩ = w.cell? ⟨q, b, none⟩ := by
  simp [go_sem, h, h.symm]
theorem cell_here {w : World} {q a : Nat} {u x : Value} (h : w.cell? ⟨q, a, none⟩ = some x) : (w.setCell ⟨q, a, none⟩ u).cell? ⟨q, a, none⟩ = some u := by
  simp [go_sem, h]
theorem SB.dur {w : World} {q n : Nat} {X : Nat → Value} {S : Nat → Sm} (k : SB w q n X S) (i : Nat) (hi : i < n) (v : Int) : SB (w.setCell ⟨q, i * 4 + 1, none⟩ (.int .i64 v)) q n X (fun j => if j = i then { S j with dur := v } else S j) := by
  refine ⟨fun j hj => (cell_far (by omega)).trans (k.k0 j hj), fun j hj => ?_, fun j hj => (cell_far (by omega)).trans ?_, fun j hj => (cell_far (by omega)).trans ?_, fun o => (World.frozen?_setCell _ _ _ _).trans (k.f o)⟩
  · by_cases e : j = i
    · subst e; simp only [if_true]; exact cell_here (k.k1 j hj)
    · simp only [if_neg e]; exact (cell_far (by omega)).trans (k.k1 j hj)
  · rw [k.k2 j hj]; split <;> rfl
  · rw [k.k3 j hj]; split <;> rfl
theorem SB.shift {w : World} {q n : Nat} {X : Nat → Value} {S : Nat → Sm} (k : SB w q n X S) (i : Nat) (hi : i < n) (v : Int) : SB (w.setCell ⟨q, i * 4 + 2, none⟩ (.int .i64 v)) q n X (fun j => if j = i then { S j with shift := v } else S j) := by
  refine ⟨fun j hj => (cell_far (by omega)).trans (k.k0 j hj), fun j hj => (cell_far (by omega)).trans ?_, fun j hj => ?_, fun j hj => (cell_far (by omega)).trans ?_, fun o => (World.frozen?_setCell _ _ _ _).trans (k.f o)⟩
  · rw [k.k1 j hj]; split <;> rfl
  · by_cases e : j = i
    · subst e; simp only [if_true]; exact cell_here (k.k2 j hj)
    · simp only [if_neg e]; exact (cell_far (by omega)).trans (k.k2 j hj)
  · rw [k.k3 j hj]; split <;> rfl
theorem SB.sync {w : World} {q n : Nat} {X : Nat → Value} {S : Nat → Sm} (k : SB w q n X S) (i : Nat) (hi : i < n) (v : Bool) : SB (w.setCell ⟨q, i * 4 + 3, none⟩ (.bool v)) q n X (fun j => if j = i then { S j with sync := v } else S j) := by
  refine ⟨fun j hj => (cell_far (by omega)).trans (k.k0 j hj), fun j hj => (cell_far (by omega)).trans ?_, fun j hj => (cell_far (by omega)).trans ?_, fun j hj => ?_, fun o => (World.frozen?_setCell _ _ _ _).trans (k.f o)⟩
  · rw [k.k1 j hj]; split <;> rfl
  · rw [k.k2 j hj]; split <;> rfl
  · by_cases e : j = i
    · subst e; simp only [if_true]; exact cell_here (k.k3 j hj)
    · simp only [if_neg e]; exact (cell_far (by omega)).trans (k.k3 j hj)
end Go.Proofs.Ytkhjkemllgjfmaa

/- The reader's runs: plain part, and numbers that lie in no changed block. -/
namespace Go.Proofs.Ytkhjkemllgjfmaa
open Go.RowKit
set_option linter.unusedVariables false
set_option linter.unusedSimpArgs false
/-- What runs say, one number for each sample. -/
def expd (P : List (Int × Int)) : List Int := P.flatMap fun p => List.replicate p.1.toNat p.2
theorem expd_cons (p : Int × Int) (P : List (Int × Int)) : expd (p :: P) = List.replicate p.1.toNat p.2 ++ expd P := rfl
theorem expd_take {P : List (Int × Int)} {k : Nat} {p : Int × Int} (h : P[k]? = some p) : expd (P.take (k + 1)) = expd (P.take k) ++ List.replicate p.1.toNat p.2 := by
  induction P generalizing k with
  | nil => cases h
  | cons x P ih =>
    cases k with
    | zero => simp only [List.getElem?_cons_zero, Option.some.injEq] at h; subst h; simp [expd]
    | succ k => rw [List.getElem?_cons_succ] at h; rw [List.take_succ_cons, List.take_succ_cons, expd_cons, expd_cons, ih h, List.append_assoc]
theorem expd_split (P : List (Int × Int)) (k : Nat) : expd P = expd (P.take k) ++ expd (P.drop k) := by
  induction P generalizing k with
  | nil => simp [expd]
  | cons x P ih =>
    cases k with
    | zero => simp [expd]
    | succ k => rw [List.take_succ_cons, List.drop_succ_cons, expd_cons, expd_cons, ih k, List.append_assoc]
theorem expd_at {P : List (Int × Int)} {k : Nat} {p : Int × Int} (h : P[k]? = some p) {t : Nat} (ht : t < p.1.toNat) : (expd P).getD ((expd (P.take k)).length + t) 0 = p.2 := by
  rw [expd_split P (k + 1), expd_take h, List.append_assoc]
  rw [List.getD_eq_getElem?_getD, List.getElem?_append_right (by omega), Nat.add_sub_cancel_left, List.getElem?_append_left (by simpa using ht), List.getElem?_replicate, if_pos ht]
  rfl
theorem expd_le {P : List (Int × Int)} {k : Nat} {p : Int × Int} (h : P[k]? = some p) : (expd (P.take k)).length + p.1.toNat ≤ (expd P).length := by
  rw [expd_split P (k + 1), expd_take h]
  simp only [List.length_append, List.length_replicate]
  omega
theorem pairs2_at {P : List (Int × Int)} {k : Nat} {p : Int × Int} (h : P[k]? = some p) : (pairs2 P)[2 * k]? = some p.1 ∧ (pairs2 P)[2 * k + 1]? = some p.2 := by
  induction P generalizing k with
  | nil => cases h
  | cons x P ih =>
    have e : pairs2 (x :: P) = x.1 :: x.2 :: pairs2 P := rfl
    cases k with
    | zero => simp only [List.getElem?_cons_zero, Option.some.injEq] at h; subst h; rw [e]; exact ⟨rfl, rfl⟩
    | succ k =>
      rw [List.getElem?_cons_succ] at h
      have := ih h
      rw [e, show 2 * (k + 1) = 2 * k + 1 + 1 by omega, show 2 * k + 1 + 1 + 1 = (2 * k + 1) + 1 + 1 by omega]
      simpa using this
theorem map_u32 {L : List Int} (h : ∀ n ∈ L, 0 ≤ n ∧ n < 4294967296) : L.map u32 = L := by
  induction L with
  | nil => rfl
  | cons x L ih =>
    have hx := h x (List.mem_cons_self ..)
    rw [List.map_cons, ih (fun n hn => h n (List.mem_cons_of_mem _ hn)), show u32 x = x by unfold u32; omega]
theorem pairs2_u32 {P : List (Int × Int)} (h : ∀ p ∈ P, 0 ≤ p.1 ∧ p.1 < 4294967296 ∧ 0 ≤ p.2 ∧ p.2 < 4294967296) : (pairs2 P).map u32 = pairs2 P :=
  map_u32 fun n hn => by
    obtain ⟨p, hp, hq⟩ := List.mem_flatMap.1 hn
    have := h p hp
    simp only [List.mem_cons, List.not_mem_nil, or_false] at hq
    rcases hq with rfl | rfl
    · exact ⟨this.1, this.2.1⟩
    · exact this.2.2
theorem IL.but {w w' : World} {v : Value} {D : List Int} {n g : Nat} (h : IL w v D) (hb : But n g w w') (hw : w.heap.size ≤ n) (hn : ∀ a m c, v = .slice (some a) m c → a.block ≠ g) : IL w' v D := by
  obtain ⟨ao, c, rfl, hc, H⟩ := h
  refine ⟨ao, c, rfl, hc, fun i u hu => ?_⟩
  obtain ⟨b, o, rfl, hcell⟩ := H i u hu
  exact ⟨b, o, rfl, (World.cell?_of_block (a := ⟨b, o + i, none⟩) (hb.block b (Nat.lt_of_lt_of_le (block_lt_of_cell hcell) hw) (hn _ _ _ rfl))).trans hcell⟩
/-- The samples of which the first m have their durations. -/
def durTo (S : Nat → Sm) (E : List Int) (m : Nat) : Nat → Sm := fun j => if j < m then { S j with dur := E.getD j 0 } else S j
def shiftTo (S : Nat → Sm) (E : List Int) (m : Nat) : Nat → Sm := fun j => if j < m then { S j with shift := E.getD j 0 } else S j
theorem durTo_step (S : Nat → Sm) (E : List Int) (m : Nat) : (fun j => if j = m then { durTo S E m j with dur := E.getD m 0 } else durTo S E m j) = durTo S E (m + 1) := by
  funext j
  unfold durTo
  by_cases h : j = m
  · subst h; simp
  · rw [if_neg h]
    by_cases h2 : j < m
    · rw [if_pos h2, if_pos (by omega)]
    · rw [if_neg h2, if_neg (by omega)]
theorem shiftTo_step (S : Nat → Sm) (E : List Int) (m : Nat) : (fun j => if j = m then { shiftTo S E m j with shift := E.getD m 0 } else shiftTo S E m j) = shiftTo S E (m + 1) := by
  funext j
  unfold shiftTo
  by_cases h : j = m
  · subst h; simp
  · rw [if_neg h]
    by_cases h2 : j < m
    · rw [if_pos h2, if_pos (by omega)]
    · rw [if_neg h2, if_neg (by omega)]
end Go.Proofs.Ytkhjkemllgjfmaa

/- The reader's runs. -/
namespace Go.Proofs.Ytkhjkemllgjfmaa
open Go.RowKit
set_option linter.unusedVariables false
set_option linter.unusedSimpArgs false
set_option maxRecDepth 100000 in
set_option maxHeartbeats 8000000 in
theorem rruns_dur (v : Value) (L : List Int) (P : List (Int × Int)) (mb : Nat) (l : List Bx) (nm : ByteArray) (x : Bx) (B q n c : Nat) (X : Nat → Value) (S : Nat → Sm) (w : World) (hv : BY w v L) (hs : Seg L (x.p + 8) (tabL (P.length : Int) (pairs2 P))) (hz : x.sz = 8 + (tabL (P.length : Int) (pairs2 P)).length)
    (h : DirA w B mb l) (hn : nm.size ≤ 4) (hp : pick nm l = [x]) (hP : ∀ p ∈ P, 0 ≤ p.1 ∧ p.1 < 4294967296 ∧ 0 ≤ p.2 ∧ p.2 < 4294967296) (hsum : (expd P).length = n) (hb : SB w q n X S) (hnc : n ≤ c) (hq : q < w.heap.size) (hl : L.length ≤ 100000000) (hPl : P.length ≤ 100000) (hnn : n ≤ 100000) :
    Calls Try.prog 81 #[.agg #[v], .map (some mb), .string nm, .slice (some ⟨q, 0, none⟩) n c, .func (.func 82) #[] #[]] w fun e w' => e = .returned (.bool true) ∧ SB w' q n X (durTo S (expd P) n) ∧ But w.heap.size q w w' := by
  have hlen := pairs2_length P
  have HTB := Lib.hid (fun (w : World) (hv : BY w v L) (h : DirA w B mb l) => table_any2 v L (pairs2 P) P.length 2 mb l nm x B w hv hs hz h hn hp (by omega) (by omega) hl (by omega) (by omega))
  rw [pairs2_u32 hP] at HTB
  simp only [Int.cast_ofNat_Int] at HTB
  have HSET := Lib.hid setd_any
  have HV := Lib.hid hv
  have HD := Lib.hid h
  have HS := Lib.hid hb
  have HPP := Lib.hid hP
  have HSUM := Lib.hid hsum
  obtain ⟨va, vc, rfl⟩ := BA.shape hv
  obtain ⟨N, hN⟩ : ∃ N, N = L.length := ⟨_, rfl⟩
  rw [← hN] at HTB HV ⊢
  obtain ⟨K, hK⟩ : ∃ K, K = P.length := ⟨_, rfl⟩
  rw [← hK] at hPl hlen
  have HK := Lib.hid hK
  have HLEN := Lib.hid hlen
  clear hv h hb hP hsum hs hz hp hn hN hK hlen
  go_enter Try.func81, Try.ntmps81
  go_upto_region 1 with fail
  obtain ⟨w1, hw1⟩ : ∃ y, y = w.alloc (.cells #[.slice va N vc] 98) := ⟨_, rfl⟩
  rw [← hw1]
  obtain ⟨g, hg⟩ : ∃ y, y = w.heap.size := ⟨_, rfl⟩
  have hb1 : Below w.heap.size w w1 := by rw [hw1]; exact below_box _ _
  have y0 : w1.cell? ⟨g, 0, none⟩ = some (.slice va N vc) := by rw [hw1, hg]; simp [go_sem]
  have HB := Lib.hid hb1
  rw [← hg]
  clear hw1 hg hb1
  go_wp2_with fail
  refine (HTB.out _ (HV.out.below HB.out) (HD.out.below HB.out)).mono ?_
  rintro e w2 ⟨v', rfl, hil, hnew, hb⟩
  obtain ⟨ao, vc', rfl⟩ : ∃ a c, v' = .slice a (2 * K) c := by obtain ⟨a, c, e, _⟩ := hil; exact ⟨a, c, by rw [e, HLEN.out]⟩
  have HIL := Lib.hid hil
  have HNEW := Lib.hid (show ∀ a m c, Value.slice ao (2 * K) vc' = .slice (some a) m c → a.block ≠ q from fun a m c e => by have := hnew a m c e; have := HB.out.size; omega)
  replace HB := Lib.hid (HB.out.trans (hb.mono HB.out.size))
  replace HS := Lib.hid (HS.out.block (HB.out.block q hq))
  clear hil hnew hb y0
  go_wp2_with fail
  go_loopw [13, 14] (fun at' i wr => ∃ k : Nat, k ≤ K ∧ at' = .int .i64 ((expd (P.take k)).length : Nat) ∧ i = .int .i64 ((2 * k : Nat) : Int) ∧ SB wr q n X (durTo S (expd P) (expd (P.take k)).length) ∧ But w2.heap.size q w2 wr) (fun _ i _ => 2 * K - (intOf i).toNat)
  case atStart => exact ⟨0, Nat.zero_le _, rfl, rfl, HS.out.congr (fun i _ => by simp [durTo, expd]), But.refl _ _ _⟩
  case round =>
    obtain ⟨k, hk, rfl, rfl, hsb, hbt⟩ := hrel
    obtain ⟨m, hm⟩ : ∃ m, m = (expd (P.take k)).length := ⟨_, rfl⟩
    rw [← hm] at hsb ⊢
    have HMM := Lib.hid hm
    have HSB := Lib.hid hsb
    have HBT := Lib.hid hbt
    clear hsb hbt hm
    by_cases hlt : k < K
    · have hlt' : ((2 * k : Nat) : Int) < ((2 * K : Nat) : Int) := by omega
      obtain ⟨p, hpk⟩ : ∃ p, P[k]? = some p := ⟨_, List.getElem?_eq_getElem (by have := HK.out; omega)⟩
      have hpp := HPP.out p (List.mem_of_getElem? hpk)
      have hle := expd_le hpk
      rw [HSUM.out, ← HMM.out] at hle
      obtain ⟨hx1, hx2⟩ := pairs2_at hpk
      obtain ⟨p1, p2⟩ := p
      dsimp only at hpp hle hx1 hx2
      obtain ⟨c1, hc1⟩ : ∃ c1 : Nat, p1 = (c1 : Int) := ⟨p1.toNat, by omega⟩
      subst hc1
      rw [Int.toNat_natCast] at hle
      obtain ⟨ao', c', e, hc', H⟩ := HIL.out
      simp only [Value.slice.injEq] at e
      obtain ⟨rfl, -, rfl⟩ := e
      obtain ⟨b, o, rfl, k0⟩ := H _ _ hx1
      obtain ⟨b', o', e2, k1⟩ := H _ _ hx2
      simp only [Option.some.injEq, Addr.mk.injEq, and_true] at e2
      obtain ⟨rfl, rfl⟩ := e2
      have hbq : b ≠ q := HNEW.out _ _ _ rfl
      have hbl : b < w2.heap.size := block_lt_of_cell k0
      have k0' := (World.cell?_of_block (a := ⟨b, o + 2 * k, none⟩) (HBT.out.block b hbl hbq)).trans k0
      have HK1 := Lib.hid k1
      have HPK := Lib.hid hpk
      have hk2 : ((2 * k : Nat) : Int) + 1 < ((2 * K : Nat) : Int) := by omega
      have hmn0 : m ≤ n := by omega
      have z1 : ¬ ((n : Int) - (m : Int) < (c1 : Int)) := by omega
      clear H hc' hx1 hx2 k0 k1 hpp hpk
      go_wp2_with fail
      go_loopw [13, 43] (fun at' t wr => ∃ j : Nat, j ≤ c1 ∧ at' = .int .i64 ((m + j : Nat) : Int) ∧ t = .int .i64 (j : Int) ∧ SB wr q n X (durTo S (expd P) (m + j)) ∧ But w2.heap.size q w2 wr) (fun _ t _ => c1 - (intOf t).toNat)
      case atStart => exact ⟨0, Nat.zero_le _, rfl, rfl, HSB.out, HBT.out⟩
      case round =>
        obtain ⟨j, hj, rfl, rfl, hsb, hbt⟩ := hrel
        have HSJ := Lib.hid hsb
        have HBJ := Lib.hid hbt
        clear hsb hbt
        by_cases hltj : j < c1
        · have hltj' : (j : Int) < (c1 : Int) := by omega
          have hmn : m + j < n := by omega
          have hmn' : ((m + j : Nat) : Int) < (n : Int) := by omega
          go_upto_region 12 with fail
          have k1w : wr.cell? ⟨b, o + (2 * k + 1), none⟩ = some (.int .i64 p2) := (World.cell?_of_block (a := ⟨b, o + (2 * k + 1), none⟩) (HBJ.out.block b hbl hbq)).trans HK1.out
          have hmn2 : (m : Int) + (j : Int) < (n : Int) := by omega
          refine Plan.wp_region_plan (fun w' => w'.cell? ⟨b, o + (2 * k + 1), none⟩ = some (.int .i64 p2)) (([0, 1, 2, 3, 4, 5, 6, 7, 8].map (·, true)) ++ (([9].map (·, false)))) (by kernel_rfl) (by kernel_rfl) (by kernel_rfl) (by exact k1w) ?_
          refine' Plan.plan_seg _ [0, 1, 2, 3, 4, 5, 6, 7, 8] (([9].map (·, false))) (by kernel_rfl) (by kernel_rfl) rfl (by exact k1w) (fun wx hS => ?_) ?_
          rotate_left
          · go_light
            iterate 9 (apply Plan.seg_pick; rfl; intro K hK; go_wp)
            exact Plan.seg_nil
          obtain ⟨wd, hwd⟩ : ∃ y, y = wr.drew := ⟨_, rfl⟩
          rw [← hwd]
          have hbd : Below wr.heap.size wr wd := by rw [hwd]; exact (Below.refl _ _).drew
          have hqi : q < wr.heap.size := Nat.lt_of_lt_of_le (by have := HB.out.size; omega) HBJ.out.size
          have HSD := Lib.hid (HSJ.out.block (hbd.block q hqi))
          have HBD := Lib.hid (HBJ.out.trans (But.of (g := q) hbd HBJ.out.size))
          clear hwd hbd
          refine Plan.plan_of_effect rfl (fun K hK => ?_)
          go_wp2_with fail
          refine (HSET.out q ((m + j) * 4) p2 _ wd (HSD.out.k1 (m + j) hmn) (HSD.out.f _)).mono ?_
          rintro e w3 ⟨rfl, hw3⟩
          have HS3 := Lib.hid (show SB w3 q n X (durTo S (expd P) (m + (j + 1))) by
            rw [hw3]
            have h1 := HSD.out.dur (m + j) hmn p2
            have h2 := expd_at HPK.out (t := j) (by simpa using hltj)
            dsimp only at h2
            rw [← HMM.out] at h2
            rw [← h2, durTo_step] at h1
            rw [← h2]
            exact h1)
          have HB3 := Lib.hid (show But w2.heap.size q w2 w3 by rw [hw3]; exact HBD.out.trans (But.cell _ _ _ _ _))
          clear hw3
          have k3w : w3.cell? ⟨b, o + (2 * k + 1), none⟩ = some (.int .i64 p2) := (World.cell?_of_block (a := ⟨b, o + (2 * k + 1), none⟩) (HB3.out.block b hbl hbq)).trans HK1.out
          go_wp2_with fail
          refine ⟨k3w, ?_⟩
          refine Plan.plan_done ?_
          go_wp2_with fail
          go_roundw
          case rel => exact ⟨j + 1, by omega, by simp; omega, by simp, HS3.out, HB3.out⟩
          case measure =>
            simp [intOf]
            omega
        · have hjc : j = c1 := by omega
          subst hjc
          go_wp2_with fail
          go_roundw
          case rel =>
            refine ⟨k + 1, by omega, ?_, by simp; omega, ?_, HBJ.out⟩
            · rw [expd_take HPK.out, List.length_append, List.length_replicate, ← HMM.out]; rfl
            · rw [expd_take HPK.out, List.length_append, List.length_replicate, ← HMM.out]; exact HSJ.out
          case measure =>
            simp [intOf]
            omega
    · have hkK : k = K := by omega
      subst hkK
      have hmn : m = n := by rw [HMM.out, HK.out, List.take_length, HSUM.out]
      subst hmn
      go_wp2_with fail
      go_ret
      exact ⟨rfl, HSB.out, (But.of HB.out (Nat.le_refl _)).trans (HBT.out.mono HB.out.size)⟩
set_option maxRecDepth 100000 in
set_option maxHeartbeats 8000000 in
theorem rruns_shift (v : Value) (L : List Int) (P : List (Int × Int)) (mb : Nat) (l : List Bx) (nm : ByteArray) (x : Bx) (B q n c : Nat) (X : Nat → Value) (S : Nat → Sm) (w : World) (hv : BY w v L) (hs : Seg L (x.p + 8) (tabL (P.length : Int) (pairs2 P))) (hz : x.sz = 8 + (tabL (P.length : Int) (pairs2 P)).length)
    (h : DirA w B mb l) (hn : nm.size ≤ 4) (hp : pick nm l = [x]) (hP : ∀ p ∈ P, 0 ≤ p.1 ∧ p.1 < 4294967296 ∧ 0 ≤ p.2 ∧ p.2 < 4294967296) (hsum : (expd P).length = n) (hb : SB w q n X S) (hnc : n ≤ c) (hq : q < w.heap.size) (hl : L.length ≤ 100000000) (hPl : P.length ≤ 100000) (hnn : n ≤ 100000) :
    Calls Try.prog 81 #[.agg #[v], .map (some mb), .string nm, .slice (some ⟨q, 0, none⟩) n c, .func (.func 83) #[] #[]] w fun e w' => e = .returned (.bool true) ∧ SB w' q n X (shiftTo S (expd P) n) ∧ But w.heap.size q w w' := by
  have hlen := pairs2_length P
  have HTB := Lib.hid (fun (w : World) (hv : BY w v L) (h : DirA w B mb l) => table_any2 v L (pairs2 P) P.length 2 mb l nm x B w hv hs hz h hn hp (by omega) (by omega) hl (by omega) (by omega))
  rw [pairs2_u32 hP] at HTB
  simp only [Int.cast_ofNat_Int] at HTB
  have HSET := Lib.hid sets_any
  have HV := Lib.hid hv
  have HD := Lib.hid h
  have HS := Lib.hid hb
  have HPP := Lib.hid hP
  have HSUM := Lib.hid hsum
  obtain ⟨va, vc, rfl⟩ := BA.shape hv
  obtain ⟨N, hN⟩ : ∃ N, N = L.length := ⟨_, rfl⟩
  rw [← hN] at HTB HV ⊢
  obtain ⟨K, hK⟩ : ∃ K, K = P.length := ⟨_, rfl⟩
  rw [← hK] at hPl hlen
  have HK := Lib.hid hK
  have HLEN := Lib.hid hlen
  clear hv h hb hP hsum hs hz hp hn hN hK hlen
  go_enter Try.func81, Try.ntmps81
  go_upto_region 1 with fail
  obtain ⟨w1, hw1⟩ : ∃ y, y = w.alloc (.cells #[.slice va N vc] 98) := ⟨_, rfl⟩
  rw [← hw1]
  obtain ⟨g, hg⟩ : ∃ y, y = w.heap.size := ⟨_, rfl⟩
  have hb1 : Below w.heap.size w w1 := by rw [hw1]; exact below_box _ _
  have y0 : w1.cell? ⟨g, 0, none⟩ = some (.slice va N vc) := by rw [hw1, hg]; simp [go_sem]
  have HB := Lib.hid hb1
  rw [← hg]
  clear hw1 hg hb1
  go_wp2_with fail
  refine (HTB.out _ (HV.out.below HB.out) (HD.out.below HB.out)).mono ?_
  rintro e w2 ⟨v', rfl, hil, hnew, hb⟩
  obtain ⟨ao, vc', rfl⟩ : ∃ a c, v' = .slice a (2 * K) c := by obtain ⟨a, c, e, _⟩ := hil; exact ⟨a, c, by rw [e, HLEN.out]⟩
  have HIL := Lib.hid hil
  have HNEW := Lib.hid (show ∀ a m c, Value.slice ao (2 * K) vc' = .slice (some a) m c → a.block ≠ q from fun a m c e => by have := hnew a m c e; have := HB.out.size; omega)
  replace HB := Lib.hid (HB.out.trans (hb.mono HB.out.size))
  replace HS := Lib.hid (HS.out.block (HB.out.block q hq))
  clear hil hnew hb y0
  go_wp2_with fail
  go_loopw [13, 14] (fun at' i wr => ∃ k : Nat, k ≤ K ∧ at' = .int .i64 ((expd (P.take k)).length : Nat) ∧ i = .int .i64 ((2 * k : Nat) : Int) ∧ SB wr q n X (shiftTo S (expd P) (expd (P.take k)).length) ∧ But w2.heap.size q w2 wr) (fun _ i _ => 2 * K - (intOf i).toNat)
  case atStart => exact ⟨0, Nat.zero_le _, rfl, rfl, HS.out.congr (fun i _ => by simp [shiftTo, expd]), But.refl _ _ _⟩
  case round =>
    obtain ⟨k, hk, rfl, rfl, hsb, hbt⟩ := hrel
    obtain ⟨m, hm⟩ : ∃ m, m = (expd (P.take k)).length := ⟨_, rfl⟩
    rw [← hm] at hsb ⊢
    have HMM := Lib.hid hm
    have HSB := Lib.hid hsb
    have HBT := Lib.hid hbt
    clear hsb hbt hm
    by_cases hlt : k < K
    · have hlt' : ((2 * k : Nat) : Int) < ((2 * K : Nat) : Int) := by omega
      obtain ⟨p, hpk⟩ : ∃ p, P[k]? = some p := ⟨_, List.getElem?_eq_getElem (by have := HK.out; omega)⟩
      have hpp := HPP.out p (List.mem_of_getElem? hpk)
      have hle := expd_le hpk
      rw [HSUM.out, ← HMM.out] at hle
      obtain ⟨hx1, hx2⟩ := pairs2_at hpk
      obtain ⟨p1, p2⟩ := p
      dsimp only at hpp hle hx1 hx2
      obtain ⟨c1, hc1⟩ : ∃ c1 : Nat, p1 = (c1 : Int) := ⟨p1.toNat, by omega⟩
      subst hc1
      rw [Int.toNat_natCast] at hle
      obtain ⟨ao', c', e, hc', H⟩ := HIL.out
      simp only [Value.slice.injEq] at e
      obtain ⟨rfl, -, rfl⟩ := e
      obtain ⟨b, o, rfl, k0⟩ := H _ _ hx1
      obtain ⟨b', o', e2, k1⟩ := H _ _ hx2
      simp only [Option.some.injEq, Addr.mk.injEq, and_true] at e2
      obtain ⟨rfl, rfl⟩ := e2
      have hbq : b ≠ q := HNEW.out _ _ _ rfl
      have hbl : b < w2.heap.size := block_lt_of_cell k0
      have k0' := (World.cell?_of_block (a := ⟨b, o + 2 * k, none⟩) (HBT.out.block b hbl hbq)).trans k0
      have HK1 := Lib.hid k1
      have HPK := Lib.hid hpk
      have hk2 : ((2 * k : Nat) : Int) + 1 < ((2 * K : Nat) : Int) := by omega
      have hmn0 : m ≤ n := by omega
      have z1 : ¬ ((n : Int) - (m : Int) < (c1 : Int)) := by omega
      clear H hc' hx1 hx2 k0 k1 hpp hpk
      go_wp2_with fail
      go_loopw [13, 43] (fun at' t wr => ∃ j : Nat, j ≤ c1 ∧ at' = .int .i64 ((m + j : Nat) : Int) ∧ t = .int .i64 (j : Int) ∧ SB wr q n X (shiftTo S (expd P) (m + j)) ∧ But w2.heap.size q w2 wr) (fun _ t _ => c1 - (intOf t).toNat)
      case atStart => exact ⟨0, Nat.zero_le _, rfl, rfl, HSB.out, HBT.out⟩
      case round =>
        obtain ⟨j, hj, rfl, rfl, hsb, hbt⟩ := hrel
        have HSJ := Lib.hid hsb
        have HBJ := Lib.hid hbt
        clear hsb hbt
        by_cases hltj : j < c1
        · have hltj' : (j : Int) < (c1 : Int) := by omega
          have hmn : m + j < n := by omega
          have hmn' : ((m + j : Nat) : Int) < (n : Int) := by omega
          go_upto_region 12 with fail
          have k1w : wr.cell? ⟨b, o + (2 * k + 1), none⟩ = some (.int .i64 p2) := (World.cell?_of_block (a := ⟨b, o + (2 * k + 1), none⟩) (HBJ.out.block b hbl hbq)).trans HK1.out
          have hmn2 : (m : Int) + (j : Int) < (n : Int) := by omega
          refine Plan.wp_region_plan (fun w' => w'.cell? ⟨b, o + (2 * k + 1), none⟩ = some (.int .i64 p2)) (([0, 1, 2, 3, 4, 5, 6, 7, 8].map (·, true)) ++ (([9].map (·, false)))) (by kernel_rfl) (by kernel_rfl) (by kernel_rfl) (by exact k1w) ?_
          refine' Plan.plan_seg _ [0, 1, 2, 3, 4, 5, 6, 7, 8] (([9].map (·, false))) (by kernel_rfl) (by kernel_rfl) rfl (by exact k1w) (fun wx hS => ?_) ?_
          rotate_left
          · go_light
            iterate 9 (apply Plan.seg_pick; rfl; intro K hK; go_wp)
            exact Plan.seg_nil
          obtain ⟨wd, hwd⟩ : ∃ y, y = wr.drew := ⟨_, rfl⟩
          rw [← hwd]
          have hbd : Below wr.heap.size wr wd := by rw [hwd]; exact (Below.refl _ _).drew
          have hqi : q < wr.heap.size := Nat.lt_of_lt_of_le (by have := HB.out.size; omega) HBJ.out.size
          have HSD := Lib.hid (HSJ.out.block (hbd.block q hqi))
          have HBD := Lib.hid (HBJ.out.trans (But.of (g := q) hbd HBJ.out.size))
          clear hwd hbd
          refine Plan.plan_of_effect rfl (fun K hK => ?_)
          go_wp2_with fail
          refine (HSET.out q ((m + j) * 4) p2 _ wd (HSD.out.k2 (m + j) hmn) (HSD.out.f _)).mono ?_
          rintro e w3 ⟨rfl, hw3⟩
          have HS3 := Lib.hid (show SB w3 q n X (shiftTo S (expd P) (m + (j + 1))) by
            rw [hw3]
            have h1 := HSD.out.shift (m + j) hmn p2
            have h2 := expd_at HPK.out (t := j) (by simpa using hltj)
            dsimp only at h2
            rw [← HMM.out] at h2
            rw [← h2, shiftTo_step] at h1
            rw [← h2]
            exact h1)
          have HB3 := Lib.hid (show But w2.heap.size q w2 w3 by rw [hw3]; exact HBD.out.trans (But.cell _ _ _ _ _))
          clear hw3
          have k3w : w3.cell? ⟨b, o + (2 * k + 1), none⟩ = some (.int .i64 p2) := (World.cell?_of_block (a := ⟨b, o + (2 * k + 1), none⟩) (HB3.out.block b hbl hbq)).trans HK1.out
          go_wp2_with fail
          refine ⟨k3w, ?_⟩
          refine Plan.plan_done ?_
          go_wp2_with fail
          go_roundw
          case rel => exact ⟨j + 1, by omega, by simp; omega, by simp, HS3.out, HB3.out⟩
          case measure =>
            simp [intOf]
            omega
        · have hjc : j = c1 := by omega
          subst hjc
          go_wp2_with fail
          go_roundw
          case rel =>
            refine ⟨k + 1, by omega, ?_, by simp; omega, ?_, HBJ.out⟩
            · rw [expd_take HPK.out, List.length_append, List.length_replicate, ← HMM.out]; rfl
            · rw [expd_take HPK.out, List.length_append, List.length_replicate, ← HMM.out]; exact HSJ.out
          case measure =>
            simp [intOf]
            omega
    · have hkK : k = K := by omega
      subst hkK
      have hmn : m = n := by rw [HMM.out, HK.out, List.take_length, HSUM.out]
      subst hmn
      go_wp2_with fail
      go_ret
      exact ⟨rfl, HSB.out, (But.of HB.out (Nat.le_refl _)).trans (HBT.out.mono HB.out.size)⟩
end Go.Proofs.Ytkhjkemllgjfmaa
