/- The contract of the program's track. -/
import Derived.Test.YtkhjkemllgjfmaaYR
namespace Go.Proofs.Ytkhjkemllgjfmaa
open Go.RowKit
set_option linter.unusedVariables false
set_option linter.unusedSimpArgs false

/-- The five cells of a track. -/
structure C5 (w : World) (b : Nat) (c0 c1 c2 c3 c4 : Value) : Prop where
  k0 : w.cell? ⟨b, 0, none⟩ = some c0
  k1 : w.cell? ⟨b, 1, none⟩ = some c1
  k2 : w.cell? ⟨b, 2, none⟩ = some c2
  k3 : w.cell? ⟨b, 3, none⟩ = some c3
  k4 : w.cell? ⟨b, 4, none⟩ = some c4
theorem C5.lt {w : World} {b : Nat} {c0 c1 c2 c3 c4 : Value} (h : C5 w b c0 c1 c2 c3 c4) : b < w.heap.size := block_lt_of_cell h.k0
theorem C5.below {w w' : World} {b : Nat} {c0 c1 c2 c3 c4 : Value} (h : C5 w b c0 c1 c2 c3 c4) (hb : Below w.heap.size w w') : C5 w' b c0 c1 c2 c3 c4 :=
  ⟨(hb.cell h.lt).trans h.k0, (hb.cell h.lt).trans h.k1, (hb.cell h.lt).trans h.k2, (hb.cell h.lt).trans h.k3, (hb.cell h.lt).trans h.k4⟩
def TrakPost (w : World) (T : Tr) (k first : Int) (e : Ending) (w' : World) : Prop := ∃ r, e = .returned r ∧ (∀ no : Option Nat, (∀ q, no = some q → q < w.heap.size) → CA w' no r (trakT T k first)) ∧ Below w.heap.size w w'
def trG (B : Nat) (T : Tr) (i : Nat) (R : Nat → Prop) (v : Value) (w : World) : Prop :=
  match i with
  | 0 => GO B ([] ++ zs 12) R v w | 3 => GI [T.sc, 0] R v w | _ => True
theorem trG_touch {B : Nat} {T : Tr} {i : Nat} {R X : Nat → Prop} {v : Value} {w w' : World} (h : trG B T i R v w) (ht : Plan.Touch X w w') (hd : ∀ b, R b → ¬ X b ∧ b < w.heap.size) : trG B T i R v w' := by
  unfold trG at h ⊢
  split <;> first | exact GI.touch h ht hd | exact GO.touch h ht hd | trivial

set_option maxRecDepth 100000 in
set_option maxHeartbeats 4000000 in
theorem wtrack_any (v : Value) (T : Tr) (k first : Int) (w : World) (hv : TA w v T) (hn : T.nS ≤ 10000) (hC : T.nC ≤ 10000) (hE : T.nE ≤ 10000) (hh : T.h.size ≤ 1000) (hf0 : 0 ≤ first) (hf1 : first ≤ 4000000000) (hs : sizeN T.S T.nS ≤ 5000000000) :
    Calls Try.prog 55 #[v, .int .i64 k, .int .i64 first] w (TrakPost w T k first) := by
  have HV0 := Lib.hid hv
  obtain ⟨c0, c1, c2, c3, c4, rfl, rfl, rfl, b2, b3, b4⟩ := hv
  obtain ⟨a2, d2, rfl⟩ := b2.shape
  obtain ⟨a3, d3, rfl⟩ := b3.shape
  obtain ⟨a4, d4, rfl⟩ := b4.shape
  have HE4 := Lib.hid b4
  clear b2 b3 b4
  go_enter Try.func55, Try.ntmps55
  go_upto_region 1 with fail
  obtain ⟨w1, hw1⟩ : ∃ x, x = w.alloc (.cells #[.string T.h, .int .i64 T.sc, .slice a2 T.nC d2, .slice a3 T.nS d3, .slice a4 T.nE d4] 43) := ⟨_, rfl⟩
  rw [← hw1]
  obtain ⟨gt, hgt⟩ : ∃ g, g = w.heap.size := ⟨_, rfl⟩
  have hE1 : Below w.heap.size w w1 := by rw [hw1]; exact below_box _ _
  have hx : C5 w1 gt (.string T.h) (.int .i64 T.sc) (.slice a2 T.nC d2) (.slice a3 T.nS d3) (.slice a4 T.nE d4) := by rw [hw1, hgt]; constructor <;> simp [go_sem]
  rw [← hgt]
  have hz1 : w.heap.size < w1.heap.size := by have := hx.lt; omega
  have hgtl : gt < w1.heap.size := hx.lt
  have HB1 := Lib.hid hE1
  have HV00 := HV0
  have HX := Lib.hid hx
  have HX1 := HX
  clear hw1 hE1 hgt hx
  go_wp2_with fail
  refine (appz_any _ [0, 0, 0, 3] 8 w1.heap.size _ (own_lit w1 [0, 0, 0, 3] (by decide)) (by decide) (by decide) (by decide) (by simp)).mono ?_
  rintro e w2 ⟨r, rfl, hO, hA⟩
  have hup : Below w1.heap.size w1 w2 := (below_box w1 _).trans (hA.up (own_lit w1 [0, 0, 0, 3] (by decide)) (by first | exact hsw | (simp; done) | (simp; omega)))
  obtain ⟨L2, hL2⟩ : ∃ Lq, Lq = [0, 0, 0, 3] ++ zs 8 := ⟨_, rfl⟩
  replace hO : Own w2 w1.heap.size r L2 := by rw [hL2]; exact hO
  have hn2 : L2.length = 12 := by rw [hL2, List.length_append, show (zs 8 : List Int).length = 8 from by simp [zs]]; rfl
  have he2 : L2 = [0, 0, 0, 3] ++ zs 8 := hL2
  obtain ⟨ra, rc, rfl⟩ := hO.shape
  have HO := Lib.hid hO
  replace HBW := Lib.hid hup
  have HLn := Lib.hid hn2
  have HLe := Lib.hid he2
  replace hsw := hup.size
  clear hO hA hup hL2 hn2 he2
  go_wp2_with fail
  refine (appn_any _ _ L2 [k] w1.heap.size _ (HO.out.below (below_box w2 _)) (IL.build w2 [k] 2) (HO.out.apart_new (Nat.le_refl _)) (by simp) (by rw [HLn.out]; decide) (by simp; omega)).mono ?_
  rintro e w3 ⟨r, rfl, hO, hA⟩
  have hup : Below w1.heap.size w1 w3 := (HBW.out.trans ((below_box w2 _).mono hsw)).trans (hA.up (HO.out.below (below_box w2 _)) (by first | exact hsw | (simp; done) | (simp; omega)))
  obtain ⟨L3, hL3⟩ : ∃ Lq, Lq = L2 ++ numsL [k] := ⟨_, rfl⟩
  replace hO : Own w3 w1.heap.size r L3 := by rw [hL3]; exact hO
  have hn2 : L3.length = 16 := by rw [hL3, List.length_append, HLn.out, show (numsL [k] : List Int).length = 4 from by rw [numsL_length]; rfl]
  have he2 : L3 = [0, 0, 0, 3] ++ zs 8 ++ numsL [k] := hL3.trans (by rw [HLe.out])
  obtain ⟨ra, rc, rfl⟩ := hO.shape
  replace HO := Lib.hid hO
  replace HBW := Lib.hid hup
  replace HLn := Lib.hid hn2
  replace HLe := Lib.hid he2
  replace hsw := hup.size
  clear hO hA hup hL3 hn2 he2
  go_wp2_with fail
  refine (appz_any _ L3 4 w1.heap.size _ HO.out (by decide) (by decide) (by rw [HLn.out]; decide) hsw).mono ?_
  rintro e w4 ⟨r, rfl, hO, hA⟩
  have hup : Below w1.heap.size w1 w4 := HBW.out.trans (hA.up HO.out (by first | exact hsw | (simp; done) | (simp; omega)))
  obtain ⟨L4, hL4⟩ : ∃ Lq, Lq = L3 ++ zs 4 := ⟨_, rfl⟩
  replace hO : Own w4 w1.heap.size r L4 := by rw [hL4]; exact hO
  have hn2 : L4.length = 20 := by rw [hL4, List.length_append, HLn.out, show (zs 4 : List Int).length = 4 from by simp [zs]]
  have he2 : L4 = [0, 0, 0, 3] ++ zs 8 ++ numsL [k] ++ zs 4 := hL4.trans (by rw [HLe.out])
  obtain ⟨ra, rc, rfl⟩ := hO.shape
  replace HO := Lib.hid hO
  replace HBW := Lib.hid hup
  replace HLn := Lib.hid hn2
  replace HLe := Lib.hid he2
  replace hsw := hup.size
  clear hO hA hup hL4 hn2 he2
  go_wp2_with fail
  refine (appn_any _ _ L4 [0] w1.heap.size _ (HO.out.below (below_box w4 _)) (IL.build w4 [0] 2) (HO.out.apart_new (Nat.le_refl _)) (by simp) (by rw [HLn.out]; decide) (by simp; omega)).mono ?_
  rintro e w5 ⟨r, rfl, hO, hA⟩
  have hup : Below w1.heap.size w1 w5 := (HBW.out.trans ((below_box w4 _).mono hsw)).trans (hA.up (HO.out.below (below_box w4 _)) (by first | exact hsw | (simp; done) | (simp; omega)))
  obtain ⟨L5, hL5⟩ : ∃ Lq, Lq = L4 ++ numsL [0] := ⟨_, rfl⟩
  replace hO : Own w5 w1.heap.size r L5 := by rw [hL5]; exact hO
  have hn2 : L5.length = 24 := by rw [hL5, List.length_append, HLn.out, show (numsL [0] : List Int).length = 4 from by rw [numsL_length]; rfl]
  have he2 : L5 = [0, 0, 0, 3] ++ zs 8 ++ numsL [k] ++ zs 4 ++ numsL [0] := hL5.trans (by rw [HLe.out])
  obtain ⟨ra, rc, rfl⟩ := hO.shape
  replace HO := Lib.hid hO
  replace HBW := Lib.hid hup
  replace HLn := Lib.hid hn2
  replace HLe := Lib.hid he2
  replace hsw := hup.size
  clear hO hA hup hL5 hn2 he2
  go_wp2_with fail
  refine (appz_any _ L5 16 w1.heap.size _ HO.out (by decide) (by decide) (by rw [HLn.out]; decide) hsw).mono ?_
  rintro e w6 ⟨r, rfl, hO, hA⟩
  have hup : Below w1.heap.size w1 w6 := HBW.out.trans (hA.up HO.out (by first | exact hsw | (simp; done) | (simp; omega)))
  obtain ⟨L6, hL6⟩ : ∃ Lq, Lq = L5 ++ zs 16 := ⟨_, rfl⟩
  replace hO : Own w6 w1.heap.size r L6 := by rw [hL6]; exact hO
  have hn2 : L6.length = 40 := by rw [hL6, List.length_append, HLn.out, show (zs 16 : List Int).length = 16 from by simp [zs]]
  have he2 : L6 = [0, 0, 0, 3] ++ zs 8 ++ numsL [k] ++ zs 4 ++ numsL [0] ++ zs 16 := hL6.trans (by rw [HLe.out])
  obtain ⟨ra, rc, rfl⟩ := hO.shape
  replace HO := Lib.hid hO
  replace HBW := Lib.hid hup
  replace HLn := Lib.hid hn2
  replace HLe := Lib.hid he2
  replace hsw := hup.size
  clear hO hA hup hL6 hn2 he2
  go_wp2_with fail
  refine (appm_any _ L6 w1.heap.size _ HO.out (by rw [HLn.out]; decide) hsw).mono ?_
  rintro e w7 ⟨r, rfl, hO, hA⟩
  have hup : Below w1.heap.size w1 w7 := HBW.out.trans (hA.up HO.out (by first | exact hsw | (simp; done) | (simp; omega)))
  obtain ⟨L7, hL7⟩ : ∃ Lq, Lq = L6 ++ matL := ⟨_, rfl⟩
  replace hO : Own w7 w1.heap.size r L7 := by rw [hL7]; exact hO
  have hn2 : L7.length = 76 := by rw [hL7, List.length_append, HLn.out, show (matL : List Int).length = 36 from by rfl]
  have he2 : L7 = [0, 0, 0, 3] ++ zs 8 ++ numsL [k] ++ zs 4 ++ numsL [0] ++ zs 16 ++ matL := hL7.trans (by rw [HLe.out])
  obtain ⟨ra, rc, rfl⟩ := hO.shape
  replace HO := Lib.hid hO
  replace HBW := Lib.hid hup
  replace HLn := Lib.hid hn2
  replace HLe := Lib.hid he2
  replace hsw := hup.size
  clear hO hA hup hL7 hn2 he2
  go_wp2_with fail
  refine (appz_any _ L7 8 w1.heap.size _ HO.out (by decide) (by decide) (by rw [HLn.out]; decide) hsw).mono ?_
  rintro e w8 ⟨r, rfl, hO, hA⟩
  have hup : Below w1.heap.size w1 w8 := HBW.out.trans (hA.up HO.out (by first | exact hsw | (simp; done) | (simp; omega)))
  obtain ⟨L8, hL8⟩ : ∃ Lq, Lq = L7 ++ zs 8 := ⟨_, rfl⟩
  replace hO : Own w8 w1.heap.size r L8 := by rw [hL8]; exact hO
  have hn2 : L8.length = 84 := by rw [hL8, List.length_append, HLn.out, show (zs 8 : List Int).length = 8 from by simp [zs]]
  have he2 : L8 = [0, 0, 0, 3] ++ zs 8 ++ numsL [k] ++ zs 4 ++ numsL [0] ++ zs 16 ++ matL ++ zs 8 := hL8.trans (by rw [HLe.out])
  obtain ⟨ra, rc, rfl⟩ := hO.shape
  replace HO := Lib.hid hO
  replace HBW := Lib.hid hup
  replace HLn := Lib.hid hn2
  replace HLe := Lib.hid he2
  replace hsw := hup.size
  clear hO hA hup hL8 hn2 he2
  have HOT := HO
  have HLT := Lib.hid (show L8 = tkhdL k from HLe.out)
  clear HO HLe HLn
  replace HX := Lib.hid (HX.out.below HBW.out)
  go_upto_region 6 with fail
  obtain ⟨wp, hwp⟩ : ∃ x, x = w8.alloc (.cells #[.iface 109 (.agg #[.string nTkhd, .slice ra L8.length rc])] 83) := ⟨_, rfl⟩
  have hbp : Below w8.heap.size w8 wp := by rw [hwp]; exact below_box _ _
  obtain ⟨gq, hgq⟩ : ∃ g, g = w8.heap.size := ⟨_, rfl⟩
  have hoc : RowC wp w1.heap.size (.slice (some ⟨gq, 0, none⟩) 1 1) [.iface 109 (.agg #[.string nTkhd, .slice ra L8.length rc])] (fun _ => .leaf nTkhd (tkhdL k)) := by
    rw [hwp, hgq]
    refine RowC.one hsw (fun no hno => ?_)
    have h := HOT.out.ca nTkhd hno
    rw [HLT.out] at h ⊢
    exact h
  have hwp' := hwp
  unfold nTkhd at hwp'
  rw [← hwp', ← hgq]
  replace hbp := HBW.out.trans (hbp.mono hsw)
  have HOC := Lib.hid hoc
  replace HBW := Lib.hid hbp
  replace hsw := hbp.size
  have HVp := Lib.hid ((HV0.out.below HB1.out).below hbp)
  have HEp := Lib.hid ((HE4.out.below HB1.out).below hbp)
  have HXp := Lib.hid (show C5 wp gt _ _ _ _ _ by rw [hwp]; exact HX.out.below (below_box _ _))
  have hgt0 := HXp.out.lt
  clear hwp hwp' hgq hbp hoc HOT HLT HV0 HE4 HX
  obtain ⟨x0, x1, x2, x3, x4⟩ := HXp.out
  by_cases hne : 0 < T.nE
  · skip
    have hdec : decide ((0 : Int) < T.nE) = true := by simp; omega
    go_wp2_with fail
    refine (elist_any _ T.nE T.E wp HEp.out (by omega)).mono ?_
    rintro e wq ⟨r, rfl, hO, hb⟩
    obtain ⟨Le, hLe⟩ : ∃ Lq, Lq = numsL [0, (T.nE : Int)] ++ edL T.E T.nE := ⟨_, rfl⟩
    rw [← hLe] at hO
    obtain ⟨re, ce, rfl⟩ := hO.shape
    have hsq := hb.size
    have cel : ∀ no : Option Nat, (∀ q, no = some q → q < wp.heap.size) → CA wq no (.iface 109 (.agg #[.string nElst, .slice re Le.length ce])) (.leaf nElst (numsL [0, (T.nE : Int)] ++ edL T.E T.nE)) := fun no hno => by
      have h := hO.ca nElst hno
      rw [hLe] at h ⊢
      exact h
    have hpe : Parts (wq.alloc (.cells #[.iface 109 (.agg #[.string (⟨#[101, 108, 115, 116]⟩ : ByteArray), .slice re Le.length ce])] 83)) wp.heap.size (.slice (some ⟨wq.heap.size, 0, none⟩) 1 1) 1 (fun _ => .leaf nElst (numsL [0, (T.nE : Int)] ++ edL T.E T.nE)) := by
      refine Parts.of_alloc [_] rfl hsq (fun i v hv => ?_)
      have hi : i < 1 := (List.getElem?_eq_some_iff.1 hv).1
      obtain rfl : i = 0 := by omega
      simp only [List.getElem?_cons_zero, Option.some.injEq] at hv
      subst hv
      exact cel
    have hcet : ∀ no : Option Nat, (∀ q, no = some q → q < wp.heap.size) → CA ((wq.alloc (.cells #[.iface 109 (.agg #[.string (⟨#[101, 108, 115, 116]⟩ : ByteArray), .slice re Le.length ce])] 83)).alloc (.cells #[(.iface 107 (.agg #[.string (⟨#[101, 100, 116, 115]⟩ : ByteArray), .slice (some ⟨wq.heap.size, 0, none⟩) 1 1]))] 83)) no (.iface 107 (.agg #[.string (⟨#[101, 100, 116, 115]⟩ : ByteArray), .slice (some ⟨wq.heap.size, 0, none⟩) 1 1])) (edtsT T) := fun no hno => (hpe.group nEdts hno).bel (below_box _ _)
    have hbq2 : Below wp.heap.size wp ((wq.alloc (.cells #[.iface 109 (.agg #[.string (⟨#[101, 108, 115, 116]⟩ : ByteArray), .slice re Le.length ce])] 83)).alloc (.cells #[(.iface 107 (.agg #[.string (⟨#[101, 100, 116, 115]⟩ : ByteArray), .slice (some ⟨wq.heap.size, 0, none⟩) 1 1]))] 83)) := (hb.trans ((below_box wq _).mono hsq)).trans ((below_box (wq.alloc (.cells #[.iface 109 (.agg #[.string (⟨#[101, 108, 115, 116]⟩ : ByteArray), .slice re Le.length ce])] 83)) _).mono (by simp; omega))
    have HCET := Lib.hid hcet
    have HQ2 := Lib.hid hbq2
    clear hO hb hLe cel hpe hcet hbq2
    go_wp2_with (at_builtin; refine wpList_addC _ rfl (.tmp 34) (.tmp 41) rfl w1.heap.size _ _ (.iface 107 (.agg #[.string (⟨#[101, 100, 116, 115]⟩ : ByteArray), .slice (some ⟨wq.heap.size, 0, none⟩) 1 1])) rfl (HOC.out.own.below HQ2.out) (wq.heap.size + 1) 1 rfl (by simp [go_sem]) rfl (by simp) (by simp; omega) ?_)
    intro v8 ws hO8 hA8
    have hup8 : Below w1.heap.size w1 ws := (HBW.out.trans (HQ2.out.mono hsw)).trans (hA8.up (HOC.out.own.below HQ2.out) (by have := HQ2.out.size; omega))
    have hrow8 := (HOC.out.below HQ2.out).add (W0 := wp.heap.size) (t := edtsT T) (fun g hg => HOC.out.own.lt hg) hsw (fun no hno => HCET.out no hno) hO8 hA8
    obtain ⟨a8, c8, rfl⟩ := hO8.shape
    have HOCx := Lib.hid hrow8
    have HXx := Lib.hid (show C5 ws gt _ _ _ _ _ from ⟨(hup8.cell (p := ⟨gt, 0, none⟩) hgtl).trans HX1.out.k0, (hup8.cell (p := ⟨gt, 1, none⟩) hgtl).trans HX1.out.k1, (hup8.cell (p := ⟨gt, 2, none⟩) hgtl).trans HX1.out.k2, (hup8.cell (p := ⟨gt, 3, none⟩) hgtl).trans HX1.out.k3, (hup8.cell (p := ⟨gt, 4, none⟩) hgtl).trans HX1.out.k4⟩)
    have HVx := Lib.hid (HV00.out.below (HB1.out.trans (hup8.mono (by omega))))
    replace HBW := Lib.hid hup8
    replace hsw := hup8.size
    clear hup8 hrow8 hO8 hA8 HCET HQ2 HOC HXp HVp HEp x0 x1 x2 x3 x4 hgt0
    obtain ⟨x0, x1, x2, x3, x4⟩ := HXx.out
    go_upto_region 8 with fail
    refine Plan.wp_region_own (fun w' => Below ws.heap.size ws w') 6 (trG ws.heap.size T) (fun _ => []) ([1, 2].map (·, true)) [(0, 43), (3, 46)] ([4, 5].map (·, false)) 79 (by kernel_rfl) (by kernel_rfl) (by kernel_rfl) (by kernel_rfl) (Below.refl _ _).drew ?_
    refine' Plan.plan_seg _ [1, 2] [] (by kernel_rfl) (by kernel_rfl) rfl (by exact (Below.refl _ _).drew) (fun wx hS => ?_) ?_
    rotate_left
    · have y1 := (HXx.out.below hS).k1
      clear hS
      go_light
      iterate 2 (apply Plan.seg_pick; rfl; intro K hK; go_wp)
      exact Plan.seg_nil
    refine Plan.plan_nil ?_
    obtain ⟨wd, hwd⟩ : ∃ x, x = ws.drew := ⟨_, rfl⟩
    rw [← hwd]
    have hzd : wd.heap.size = ws.heap.size := by rw [hwd]; rfl
    have hwrd : ws.heap.size ≤ wd.heap.size := by omega
    clear hwd
    refine ⟨rfl, fun wa wb ha hb => ha.trans (hb.mono (by omega)), fun i R X v wa wb h ht hd _ _ => trG_touch h ht hd, ?_, ?_⟩
    · intro p hp o ho vs wx R hS hE hG K hK
      have hSz := hS.size
      simp only [List.mem_cons, List.not_mem_nil, or_false] at hp
      rcases hp with rfl | rfl
      all_goals obtain rfl := Option.some.inj ho
      · clear hG
        refine Plan.one_call rfl 53 Try.func53 (by kernel_rfl) (by kernel_rfl) #[.const (.slice none 0 0), .const (.int .i64 12)] #[22, 3] rfl #[.slice none 0 0, .int .i64 12] (by simp [Act.eval]) (fun r w' => Own w' wx.heap.size r ([] ++ zs 12) ∧ Adv wx w' (.slice none 0 0) r) (appz_any (.slice none 0 0) [] 12 wx.heap.size wx (own_nil _ _) (by decide) (by decide) (by decide) (Nat.le_refl _)) (fun r w' hR => ?_)
        exact hK _ _ (GO.new hR.1 (by omega)) (touch_below (hR.2.below rfl))
      · clear hG
        simp only [Plan.puts] at hK ⊢
        go_wp2
        exact hK _ _ (GI.new (IL.build wx [T.sc, 0] 2) (fun a n c e => by cases e; exact ⟨Nat.le_refl _, by simp [go_sem]⟩)) (touch_below (below_box _ _))
    · intro vs R wx hS hE hall hap
      have h0 : GO ws.heap.size ([] ++ zs 12) (R 0) (vs 0) wx := (hall (0, 43) (by decide) (by decide)).1
      have h3 : GI [T.sc, 0] (R 3) (vs 3) wx := (hall (3, 46) (by decide) (by decide)).1
      have hdis := hap (0, 43) (by decide) (3, 46) (by decide) (by decide) (by decide) (by decide)
      obtain ⟨qa, qc, he0⟩ := h0.1.shape
      obtain ⟨pa, pc, he3⟩ := h3.1.shape
      have hapt : Apart (vs 0) (vs 3) := fun a n c e h => by
        obtain ⟨a', n', c', e1, e2⟩ := own_block h
        exact hdis _ (h0.2 a' n' c' e1) (by rw [e2]; exact h3.2 a n c e)
      have HS := Lib.hid hS
      have hSz := hS.size
      have ho0 := h0.1
      have hi3 := h3.1
      rw [he0] at ho0 hapt
      rw [he3] at hi3 hapt
      have HO := Lib.hid ho0
      have HI := Lib.hid hi3
      have HAP := Lib.hid hapt
      simp only [Plan.puts, he0, he3]
      clear hall hap hE h0 h3 hdis he0 he3 hapt ho0 hi3 hS hwrd hzd
      refine Plan.plan_of_effect rfl (fun K hK => ?_)
      go_wp2_with fail
      refine (appn_any _ _ ([] ++ zs 12) [T.sc, 0] ws.heap.size wx HO.out HI.out HAP.out (by simp) (by simp [zs]) (by omega)).mono ?_
      rintro e wy ⟨r, rfl, hO, hA⟩
      have hyw : Below ws.heap.size ws wy := HS.out.trans (hA.up HO.out hSz)
      obtain ⟨Lh, hLh⟩ : ∃ Lq, Lq = ([] ++ zs 12 ++ numsL [T.sc, 0] : List Int) := ⟨_, rfl⟩
      replace hO : Own wy ws.heap.size r Lh := by rw [hLh]; exact hO
      have hlh : Lh.length = 20 := by rw [hLh, List.length_append, numsL_length]; simp [zs]
      obtain ⟨ra0, rc0, rfl⟩ := hO.shape
      have HH := Lib.hid hO
      have HYW := Lib.hid hyw
      have HLh := Lib.hid hLh
      have HLhn := Lib.hid hlh
      have hsy := hyw.size
      clear hO hA hLh hlh HO HI HAP HS hyw
      go_wp2_with fail
      refine ⟨HYW.out, ?_⟩
      refine Plan.plan_of_effect rfl (fun K hK => ?_)
      go_wp2_with fail
      refine ⟨HYW.out, ?_⟩
      refine Plan.plan_done ?_
      go_wp2_with (at_builtin; refine wpList_adv _ rfl (.tmp 48) (.tmp 49) rfl ws.heap.size _ _ Lh [85, 196, 0, 0] rfl (HH.out.below (below_box wy _)) rfl (own_lit wy [85, 196, 0, 0] (by decide)).bl (by rw [HLhn.out]; decide) (by simp; omega) ?_)
      intro v9 w9 hO9 hA9
      have h9w : Below ws.heap.size ws w9 := (HYW.out.trans ((below_box wy _).mono hsy)).trans (hA9.up (HH.out.below (below_box wy _)) (by simp; omega))
      obtain ⟨L9, hL9⟩ : ∃ Lq, Lq = Lh ++ [85, 196, 0, 0] := ⟨_, rfl⟩
      rw [← hL9] at hO9
      have he9 : L9 = mdhdL T := by rw [hL9, HLh.out]; rfl
      obtain ⟨ra9, rc9, rfl⟩ := hO9.shape
      have HO9 := Lib.hid hO9
      have HL9 := Lib.hid he9
      have H9W := Lib.hid h9w
      have hs9 := h9w.size
      clear hO9 hA9 h9w hL9 he9 HH HYW HLh HLhn hsy hSz
      go_upto_region 10 with fail
      refine Plan.wp_region_plan (fun w' => Below w9.heap.size w9 w') (([1, 2].map (·, true)) ++ (([0, 3, 4].map (·, false)) ++ ([5].map (·, true)))) (by kernel_rfl) (by kernel_rfl) (by kernel_rfl) (Below.refl _ _).drew ?_
      refine' Plan.plan_seg _ [1, 2] (([0, 3, 4].map (·, false)) ++ ([5].map (·, true))) (by kernel_rfl) (by kernel_rfl) rfl (by exact (Below.refl _ _).drew) (fun wx hS => ?_) ?_
      rotate_left
      · have y0 := (((HXx.out.below H9W.out)).below hS).k0
        clear hS
        go_light
        iterate 2 (apply Plan.seg_pick; rfl; intro K hK; go_wp)
        exact Plan.seg_nil
      obtain ⟨we, hwe⟩ : ∃ x, x = w9.drew := ⟨_, rfl⟩
      rw [← hwe]
      have HD := Lib.hid (show Below w9.heap.size w9 we by rw [hwe]; exact (Below.refl _ _).drew)
      have hsd := HD.out.size
      clear hwe
      refine Plan.plan_of_effect rfl (fun K hK => ?_)
      go_wp2_with fail
      refine (appz_any (.slice none 0 0) [] 8 w9.heap.size we (own_nil _ _) (by decide) (by decide) (by decide) hsd).mono ?_
      rintro e wf ⟨r, rfl, hO, hA⟩
      have hfw : Below w9.heap.size w9 wf := HD.out.trans ((hA.below rfl).mono hsd)
      obtain ⟨La, hLa⟩ : ∃ Lq, Lq = ([] ++ zs 8 : List Int) := ⟨_, rfl⟩
      replace hO : Own wf w9.heap.size r La := by rw [hLa]; exact hO
      have hla : La.length = 8 := by rw [hLa]; simp [zs]
      obtain ⟨raa, rca, rfl⟩ := hO.shape
      have HA := Lib.hid hO
      have HFW := Lib.hid hfw
      have HLa := Lib.hid hLa
      have HLan := Lib.hid hla
      have hsf := hfw.size
      clear hO hA hLa hla hfw HD hsd
      go_wp2_with fail
      refine ⟨HFW.out, ?_⟩
      refine Plan.plan_of_effect rfl (fun K hK => ?_)
      refine wpList_advS _ rfl (.tmp 51) (.tmp 53) rfl w9.heap.size _ La T.h rfl HA.out rfl (by rw [HLan.out]; omega) hsf ?_
      intro v10 w10 hO10 hA10
      have h10 : Below w9.heap.size w9 w10 := HFW.out.trans (hA10.up HA.out hsf)
      obtain ⟨Lb, hLb⟩ : ∃ Lq, Lq = La ++ strB T.h := ⟨_, rfl⟩
      rw [← hLb] at hO10
      have hlb : Lb.length = 8 + T.h.size := by rw [hLb, List.length_append, HLan.out, strB_length]
      obtain ⟨rab, rcb, rfl⟩ := hO10.shape
      have HBq := Lib.hid hO10
      have H10 := Lib.hid h10
      have HLb := Lib.hid hLb
      have HLbn := Lib.hid hlb
      have hs10 := h10.size
      clear hO10 hA10 hLb hlb h10 HA HFW hsf
      go_wp2_with fail
      refine ⟨H10.out, ?_⟩
      refine Plan.plan_of_effect rfl (fun K hK => ?_)
      go_wp2_with fail
      refine (appz_any _ Lb 13 w9.heap.size w10 HBq.out (by decide) (by decide) (by rw [HLbn.out]; omega) hs10).mono ?_
      rintro e w11 ⟨r, rfl, hO, hA⟩
      have h11 : Below w9.heap.size w9 w11 := H10.out.trans (hA.up HBq.out hs10)
      obtain ⟨Lc, hLc⟩ : ∃ Lq, Lq = Lb ++ zs 13 := ⟨_, rfl⟩
      replace hO : Own w11 w9.heap.size r Lc := by rw [hLc]; exact hO
      have hec : Lc = hdlrL T := by rw [hLc, HLb.out, HLa.out]; rfl
      obtain ⟨rac, rcc, rfl⟩ := hO.shape
      have HC := Lib.hid hO
      have H11 := Lib.hid h11
      have HLc := Lib.hid hec
      have hs11 := h11.size
      clear hO hA hLc hec h11 HBq H10 HLa HLan HLb HLbn hs10
      go_wp2_with fail
      refine ⟨H11.out, ?_⟩
      refine' Plan.plan_seg _ [5] [] (by kernel_rfl) (by kernel_rfl) rfl (by exact H11.out) (fun wx hS => ?_) ?_
      rotate_left
      · clear hS
        go_light
        iterate 1 (apply Plan.seg_pick; rfl; intro K hK; go_wp)
        exact Plan.seg_nil
      refine Plan.plan_done ?_
      have h11w := H9W.out.trans (H11.out.mono hs9)
      have CA9 : ∀ no : Option Nat, (∀ q, no = some q → q < ws.heap.size) → CA w11 no (.iface 109 (.agg #[.string nMdhd, .slice ra9 L9.length rc9])) (.leaf nMdhd (mdhdL T)) := by
        intro no hno
        have h := (HO9.out.below H11.out).ca nMdhd hno
        rw [HL9.out] at h ⊢
        exact h
      have CAc : ∀ no : Option Nat, (∀ q, no = some q → q < ws.heap.size) → CA w11 no (.iface 109 (.agg #[.string nHdlr, .slice rac Lc.length rcc])) (.leaf nHdlr (hdlrL T)) := by
        intro no hno
        have h := HC.out.ca nHdlr (no := no) (fun q hq => by have := hno q hq; omega)
        rw [HLc.out] at h ⊢
        exact h
      have HC9 := Lib.hid CA9
      have HCc := Lib.hid CAc
      have HXy := Lib.hid (HXx.out.below h11w)
      have HVy := Lib.hid (HVx.out.below h11w)
      have H11W := Lib.hid h11w
      have hs11w := h11w.size
      clear CA9 CAc h11w HO9 HL9 HC HLc H9W H11
      obtain ⟨z0, z1, z2, z3, z4⟩ := HXy.out
      go_wp2_with fail
      refine (tables_any _ T first w11 HVy.out hn hC hf0 hf1 hs).mono ?_
      rintro e w12 ⟨r, rfl, hP, hb12⟩
      have hP' := hP
      obtain ⟨g7, f7, rfl, _⟩ := hP'
      have CS : ∀ no : Option Nat, (∀ q, no = some q → q < ws.heap.size) → CA w12 no (.iface 107 (.agg #[.string nStbl, .slice (some ⟨g7, 0, none⟩) 7 7])) (.group nStbl 7 (stbl T first)) := fun no hno => hP.group nStbl (fun q hq => by have := hno q hq; omega)
      have HCS := Lib.hid CS
      have HB12 := Lib.hid hb12
      replace HC9 := Lib.hid (show ∀ no : Option Nat, (∀ q, no = some q → q < ws.heap.size) → CA w12 no _ _ from fun no hno => (HC9.out no hno).bel hb12)
      replace HCc := Lib.hid (show ∀ no : Option Nat, (∀ q, no = some q → q < ws.heap.size) → CA w12 no _ _ from fun no hno => (HCc.out no hno).bel hb12)
      replace H11W := Lib.hid (H11W.out.trans (hb12.mono hs11w))
      have hs12 := hb12.size
      clear CS hP hb12 z0 z1 z2 z3 z4 HVy HXy
      go_upto_region 12 with fail
      obtain ⟨wm, hwm⟩ : ∃ x, x = w12.alloc (.cells #[.iface 107 (.agg #[.string (⟨#[115, 116, 98, 108]⟩ : ByteArray), .slice (some ⟨g7, 0, none⟩) 7 7])] 83) := ⟨_, rfl⟩
      have hbm : Below w12.heap.size w12 wm := by rw [hwm]; exact below_box _ _
      have hzm : wm.heap.size = w12.heap.size + 1 := by rw [hwm]; simp [go_sem]
      have hpm : Parts wm ws.heap.size (.slice (some ⟨w12.heap.size, 0, none⟩) 1 1) 1 (fun _ => .group nStbl 7 (stbl T first)) := by
        rw [hwm]
        refine Parts.of_alloc [_] rfl (by omega) (fun i v hv => ?_)
        have hi : i < 1 := (List.getElem?_eq_some_iff.1 hv).1
        obtain rfl : i = 0 := by omega
        simp only [List.getElem?_cons_zero, Option.some.injEq] at hv
        subst hv
        exact HCS.out
      have cmf : ∀ no : Option Nat, (∀ q, no = some q → q < ws.heap.size) → CA wm no (.iface 107 (.agg #[.string nMinf, .slice (some ⟨w12.heap.size, 0, none⟩) 1 1])) (minfT T first) := fun no hno => hpm.group nMinf hno
      rw [← hwm]
      obtain ⟨gm, hgm⟩ : ∃ g, g = w12.heap.size := ⟨_, rfl⟩
      rw [← hgm] at cmf hzm ⊢
      clear hwm hpm
      obtain ⟨wn, hwn⟩ : ∃ x, x = wm.alloc (.cells #[.iface 109 (.agg #[.string (⟨#[109, 100, 104, 100]⟩ : ByteArray), .slice ra9 L9.length rc9]), .iface 109 (.agg #[.string (⟨#[104, 100, 108, 114]⟩ : ByteArray), .slice rac Lc.length rcc]), .iface 107 (.agg #[.string (⟨#[109, 105, 110, 102]⟩ : ByteArray), .slice (some ⟨gm, 0, none⟩) 1 1])] 83) := ⟨_, rfl⟩
      have hbn : Below wm.heap.size wm wn := by rw [hwn]; exact below_box _ _
      have hzn : wn.heap.size = wm.heap.size + 1 := by rw [hwn]; simp [go_sem]
      have hpn : Parts wn ws.heap.size (.slice (some ⟨wm.heap.size, 0, none⟩) 3 3) 3 (fun i => if i = 0 then .leaf nMdhd (mdhdL T) else if i = 1 then .leaf nHdlr (hdlrL T) else minfT T first) := by
        rw [hwn]
        refine Parts.of_alloc [_, _, _] rfl (by omega) (fun i v hv => ?_)
        have hi : i < 3 := (List.getElem?_eq_some_iff.1 hv).1
        rcases (show i = 0 ∨ i = 1 ∨ i = 2 by omega) with rfl | rfl | rfl <;> (simp only [List.getElem?_cons_zero, List.getElem?_cons_succ, Option.some.injEq] at hv; subst hv)
        · exact fun no hno => (HC9.out no hno).bel hbm
        · exact fun no hno => (HCc.out no hno).bel hbm
        · exact cmf
      have cmd : ∀ no : Option Nat, (∀ q, no = some q → q < ws.heap.size) → CA wn no (.iface 107 (.agg #[.string nMdia, .slice (some ⟨wm.heap.size, 0, none⟩) 3 3])) (mdiaT T first) := fun no hno => hpn.group nMdia hno
      rw [← hwn]
      rw [← hzm]
      obtain ⟨gn, hgn⟩ : ∃ g, g = wm.heap.size := ⟨_, rfl⟩
      rw [← hgn] at cmd hzn ⊢
      clear hwn hpn
      obtain ⟨wo, hwo⟩ : ∃ x, x = wn.alloc (.cells #[.string (⟨#[109, 100, 105, 97]⟩ : ByteArray), .slice (some ⟨gn, 0, none⟩) 3 3] 107) := ⟨_, rfl⟩
      have hbo : Below wn.heap.size wn wo := by rw [hwo]; exact below_box _ _
      obtain ⟨go, hgo⟩ : ∃ g, g = wn.heap.size := ⟨_, rfl⟩
      have k0 : wo.cell? ⟨go, 0, none⟩ = some (.string (⟨#[109, 100, 105, 97]⟩ : ByteArray)) := by rw [hwo, hgo]; simp [go_sem]
      have k1 : wo.cell? ⟨go, 1, none⟩ = some (.slice (some ⟨gn, 0, none⟩) 3 3) := by rw [hwo, hgo]; simp [go_sem]
      rw [← hwo]
      rw [← hzn, ← hgo]
      have hb12o := (hbm.trans (hbn.mono hbm.size)).trans (hbo.mono (Nat.le_trans hbm.size hbn.size))
      have HCM := Lib.hid (show ∀ no : Option Nat, (∀ q, no = some q → q < ws.heap.size) → CA wo no _ _ from fun no hno => (cmd no hno).bel hbo)
      have HWo := Lib.hid (H11W.out.trans (hb12o.mono (by omega)))
      have HOCo := Lib.hid (HOCx.out.below HWo.out)
      have hso : ws.heap.size ≤ wo.heap.size := HWo.out.size
      clear hwo hgo hgn hgm hzm hzn hbm hbn hbo hb12o cmf cmd HC9 HCc HCS
      go_wp2_with (at_builtin; refine wpList_addC _ rfl (.tmp 72) (.tmp 75) rfl w1.heap.size _ _ (.iface 107 (.agg #[.string (⟨#[109, 100, 105, 97]⟩ : ByteArray), .slice (some ⟨gn, 0, none⟩) 3 3])) rfl (HOCo.out.own.below (below_box wo _)) wo.heap.size 1 rfl (by simp [go_sem]) rfl (by simp) (by simp; omega) ?_)
      intro v13 w13 hO13 hA13
      have hbx : Below wo.heap.size wo (wo.alloc (.cells #[.iface 107 (.agg #[.string (⟨#[109, 100, 105, 97]⟩ : ByteArray), .slice (some ⟨gn, 0, none⟩) 3 3])] 83)) := below_box _ _
      have h13 : Below w1.heap.size w1 w13 := ((HBW.out.trans (HWo.out.mono hsw)).trans (hbx.mono (by omega))).trans (hA13.up (HOCo.out.own.below hbx) (by simp; omega))
      have hrow := (HOCo.out.below hbx).add (W0 := ws.heap.size) (t := mdiaT T first) (fun g hg => HOCx.out.own.lt hg) hsw (fun no hno => (HCM.out no hno).bel hbx) hO13 hA13
      have hfin : ∀ no : Option Nat, (∀ q, no = some q → q < w.heap.size) → CA w13 no (.iface 107 (.agg #[.string nTrak, v13])) (trakT T k first) := fun no hno => by
        unfold trakT
        rw [if_pos hne]
        refine hrow.group nTrak rfl (by simp) (fun i hi => ?_) (fun q hq => by have := hno q hq; omega)
        have : i = 0 ∨ i = 1 ∨ i = 2 := by simp at hi; omega
        rcases this with rfl | rfl | rfl <;> rfl
      obtain ⟨aq, cq, rfl⟩ := hO13.shape
      have HF := Lib.hid hfin
      have HB13 := Lib.hid (HB1.out.trans (h13.mono (by omega)))
      clear hrow hfin hO13 hA13 h13 hbx
      go_wp2_with fail
      go_ret
      exact ⟨_, rfl, HF.out, HB13.out⟩
  · have hdec : decide ((0 : Int) < T.nE) = false := by simp; omega
    go_upto_region 8 with fail
    have HXx := HXp
    have HVx := HVp
    have HOCx := HOC
    refine Plan.wp_region_own (fun w' => Below wp.heap.size wp w') 6 (trG wp.heap.size T) (fun _ => []) ([1, 2].map (·, true)) [(0, 43), (3, 46)] ([4, 5].map (·, false)) 79 (by kernel_rfl) (by kernel_rfl) (by kernel_rfl) (by kernel_rfl) (Below.refl _ _).drew ?_
    refine' Plan.plan_seg _ [1, 2] [] (by kernel_rfl) (by kernel_rfl) rfl (by exact (Below.refl _ _).drew) (fun wx hS => ?_) ?_
    rotate_left
    · have y1 := (HXx.out.below hS).k1
      clear hS
      go_light
      iterate 2 (apply Plan.seg_pick; rfl; intro K hK; go_wp)
      exact Plan.seg_nil
    refine Plan.plan_nil ?_
    obtain ⟨wd, hwd⟩ : ∃ x, x = wp.drew := ⟨_, rfl⟩
    rw [← hwd]
    have hzd : wd.heap.size = wp.heap.size := by rw [hwd]; rfl
    have hwrd : wp.heap.size ≤ wd.heap.size := by omega
    clear hwd
    refine ⟨rfl, fun wa wb ha hb => ha.trans (hb.mono (by omega)), fun i R X v wa wb h ht hd _ _ => trG_touch h ht hd, ?_, ?_⟩
    · intro p hp o ho vs wx R hS hE hG K hK
      have hSz := hS.size
      simp only [List.mem_cons, List.not_mem_nil, or_false] at hp
      rcases hp with rfl | rfl
      all_goals obtain rfl := Option.some.inj ho
      · clear hG
        refine Plan.one_call rfl 53 Try.func53 (by kernel_rfl) (by kernel_rfl) #[.const (.slice none 0 0), .const (.int .i64 12)] #[22, 3] rfl #[.slice none 0 0, .int .i64 12] (by simp [Act.eval]) (fun r w' => Own w' wx.heap.size r ([] ++ zs 12) ∧ Adv wx w' (.slice none 0 0) r) (appz_any (.slice none 0 0) [] 12 wx.heap.size wx (own_nil _ _) (by decide) (by decide) (by decide) (Nat.le_refl _)) (fun r w' hR => ?_)
        exact hK _ _ (GO.new hR.1 (by omega)) (touch_below (hR.2.below rfl))
      · clear hG
        simp only [Plan.puts] at hK ⊢
        go_wp2
        exact hK _ _ (GI.new (IL.build wx [T.sc, 0] 2) (fun a n c e => by cases e; exact ⟨Nat.le_refl _, by simp [go_sem]⟩)) (touch_below (below_box _ _))
    · intro vs R wx hS hE hall hap
      have h0 : GO wp.heap.size ([] ++ zs 12) (R 0) (vs 0) wx := (hall (0, 43) (by decide) (by decide)).1
      have h3 : GI [T.sc, 0] (R 3) (vs 3) wx := (hall (3, 46) (by decide) (by decide)).1
      have hdis := hap (0, 43) (by decide) (3, 46) (by decide) (by decide) (by decide) (by decide)
      obtain ⟨qa, qc, he0⟩ := h0.1.shape
      obtain ⟨pa, pc, he3⟩ := h3.1.shape
      have hapt : Apart (vs 0) (vs 3) := fun a n c e h => by
        obtain ⟨a', n', c', e1, e2⟩ := own_block h
        exact hdis _ (h0.2 a' n' c' e1) (by rw [e2]; exact h3.2 a n c e)
      have HS := Lib.hid hS
      have hSz := hS.size
      have ho0 := h0.1
      have hi3 := h3.1
      rw [he0] at ho0 hapt
      rw [he3] at hi3 hapt
      have HO := Lib.hid ho0
      have HI := Lib.hid hi3
      have HAP := Lib.hid hapt
      simp only [Plan.puts, he0, he3]
      clear hall hap hE h0 h3 hdis he0 he3 hapt ho0 hi3 hS hwrd hzd
      refine Plan.plan_of_effect rfl (fun K hK => ?_)
      go_wp2_with fail
      refine (appn_any _ _ ([] ++ zs 12) [T.sc, 0] wp.heap.size wx HO.out HI.out HAP.out (by simp) (by simp [zs]) (by omega)).mono ?_
      rintro e wy ⟨r, rfl, hO, hA⟩
      have hyw : Below wp.heap.size wp wy := HS.out.trans (hA.up HO.out hSz)
      obtain ⟨Lh, hLh⟩ : ∃ Lq, Lq = ([] ++ zs 12 ++ numsL [T.sc, 0] : List Int) := ⟨_, rfl⟩
      replace hO : Own wy wp.heap.size r Lh := by rw [hLh]; exact hO
      have hlh : Lh.length = 20 := by rw [hLh, List.length_append, numsL_length]; simp [zs]
      obtain ⟨ra0, rc0, rfl⟩ := hO.shape
      have HH := Lib.hid hO
      have HYW := Lib.hid hyw
      have HLh := Lib.hid hLh
      have HLhn := Lib.hid hlh
      have hsy := hyw.size
      clear hO hA hLh hlh HO HI HAP HS hyw
      go_wp2_with fail
      refine ⟨HYW.out, ?_⟩
      refine Plan.plan_of_effect rfl (fun K hK => ?_)
      go_wp2_with fail
      refine ⟨HYW.out, ?_⟩
      refine Plan.plan_done ?_
      go_wp2_with (at_builtin; refine wpList_adv _ rfl (.tmp 48) (.tmp 49) rfl wp.heap.size _ _ Lh [85, 196, 0, 0] rfl (HH.out.below (below_box wy _)) rfl (own_lit wy [85, 196, 0, 0] (by decide)).bl (by rw [HLhn.out]; decide) (by simp; omega) ?_)
      intro v9 w9 hO9 hA9
      have h9w : Below wp.heap.size wp w9 := (HYW.out.trans ((below_box wy _).mono hsy)).trans (hA9.up (HH.out.below (below_box wy _)) (by simp; omega))
      obtain ⟨L9, hL9⟩ : ∃ Lq, Lq = Lh ++ [85, 196, 0, 0] := ⟨_, rfl⟩
      rw [← hL9] at hO9
      have he9 : L9 = mdhdL T := by rw [hL9, HLh.out]; rfl
      obtain ⟨ra9, rc9, rfl⟩ := hO9.shape
      have HO9 := Lib.hid hO9
      have HL9 := Lib.hid he9
      have H9W := Lib.hid h9w
      have hs9 := h9w.size
      clear hO9 hA9 h9w hL9 he9 HH HYW HLh HLhn hsy hSz
      go_upto_region 10 with fail
      refine Plan.wp_region_plan (fun w' => Below w9.heap.size w9 w') (([1, 2].map (·, true)) ++ (([0, 3, 4].map (·, false)) ++ ([5].map (·, true)))) (by kernel_rfl) (by kernel_rfl) (by kernel_rfl) (Below.refl _ _).drew ?_
      refine' Plan.plan_seg _ [1, 2] (([0, 3, 4].map (·, false)) ++ ([5].map (·, true))) (by kernel_rfl) (by kernel_rfl) rfl (by exact (Below.refl _ _).drew) (fun wx hS => ?_) ?_
      rotate_left
      · have y0 := (((HXx.out.below H9W.out)).below hS).k0
        clear hS
        go_light
        iterate 2 (apply Plan.seg_pick; rfl; intro K hK; go_wp)
        exact Plan.seg_nil
      obtain ⟨we, hwe⟩ : ∃ x, x = w9.drew := ⟨_, rfl⟩
      rw [← hwe]
      have HD := Lib.hid (show Below w9.heap.size w9 we by rw [hwe]; exact (Below.refl _ _).drew)
      have hsd := HD.out.size
      clear hwe
      refine Plan.plan_of_effect rfl (fun K hK => ?_)
      go_wp2_with fail
      refine (appz_any (.slice none 0 0) [] 8 w9.heap.size we (own_nil _ _) (by decide) (by decide) (by decide) hsd).mono ?_
      rintro e wf ⟨r, rfl, hO, hA⟩
      have hfw : Below w9.heap.size w9 wf := HD.out.trans ((hA.below rfl).mono hsd)
      obtain ⟨La, hLa⟩ : ∃ Lq, Lq = ([] ++ zs 8 : List Int) := ⟨_, rfl⟩
      replace hO : Own wf w9.heap.size r La := by rw [hLa]; exact hO
      have hla : La.length = 8 := by rw [hLa]; simp [zs]
      obtain ⟨raa, rca, rfl⟩ := hO.shape
      have HA := Lib.hid hO
      have HFW := Lib.hid hfw
      have HLa := Lib.hid hLa
      have HLan := Lib.hid hla
      have hsf := hfw.size
      clear hO hA hLa hla hfw HD hsd
      go_wp2_with fail
      refine ⟨HFW.out, ?_⟩
      refine Plan.plan_of_effect rfl (fun K hK => ?_)
      refine wpList_advS _ rfl (.tmp 51) (.tmp 53) rfl w9.heap.size _ La T.h rfl HA.out rfl (by rw [HLan.out]; omega) hsf ?_
      intro v10 w10 hO10 hA10
      have h10 : Below w9.heap.size w9 w10 := HFW.out.trans (hA10.up HA.out hsf)
      obtain ⟨Lb, hLb⟩ : ∃ Lq, Lq = La ++ strB T.h := ⟨_, rfl⟩
      rw [← hLb] at hO10
      have hlb : Lb.length = 8 + T.h.size := by rw [hLb, List.length_append, HLan.out, strB_length]
      obtain ⟨rab, rcb, rfl⟩ := hO10.shape
      have HBq := Lib.hid hO10
      have H10 := Lib.hid h10
      have HLb := Lib.hid hLb
      have HLbn := Lib.hid hlb
      have hs10 := h10.size
      clear hO10 hA10 hLb hlb h10 HA HFW hsf
      go_wp2_with fail
      refine ⟨H10.out, ?_⟩
      refine Plan.plan_of_effect rfl (fun K hK => ?_)
      go_wp2_with fail
      refine (appz_any _ Lb 13 w9.heap.size w10 HBq.out (by decide) (by decide) (by rw [HLbn.out]; omega) hs10).mono ?_
      rintro e w11 ⟨r, rfl, hO, hA⟩
      have h11 : Below w9.heap.size w9 w11 := H10.out.trans (hA.up HBq.out hs10)
      obtain ⟨Lc, hLc⟩ : ∃ Lq, Lq = Lb ++ zs 13 := ⟨_, rfl⟩
      replace hO : Own w11 w9.heap.size r Lc := by rw [hLc]; exact hO
      have hec : Lc = hdlrL T := by rw [hLc, HLb.out, HLa.out]; rfl
      obtain ⟨rac, rcc, rfl⟩ := hO.shape
      have HC := Lib.hid hO
      have H11 := Lib.hid h11
      have HLc := Lib.hid hec
      have hs11 := h11.size
      clear hO hA hLc hec h11 HBq H10 HLa HLan HLb HLbn hs10
      go_wp2_with fail
      refine ⟨H11.out, ?_⟩
      refine' Plan.plan_seg _ [5] [] (by kernel_rfl) (by kernel_rfl) rfl (by exact H11.out) (fun wx hS => ?_) ?_
      rotate_left
      · clear hS
        go_light
        iterate 1 (apply Plan.seg_pick; rfl; intro K hK; go_wp)
        exact Plan.seg_nil
      refine Plan.plan_done ?_
      have h11w := H9W.out.trans (H11.out.mono hs9)
      have CA9 : ∀ no : Option Nat, (∀ q, no = some q → q < wp.heap.size) → CA w11 no (.iface 109 (.agg #[.string nMdhd, .slice ra9 L9.length rc9])) (.leaf nMdhd (mdhdL T)) := by
        intro no hno
        have h := (HO9.out.below H11.out).ca nMdhd hno
        rw [HL9.out] at h ⊢
        exact h
      have CAc : ∀ no : Option Nat, (∀ q, no = some q → q < wp.heap.size) → CA w11 no (.iface 109 (.agg #[.string nHdlr, .slice rac Lc.length rcc])) (.leaf nHdlr (hdlrL T)) := by
        intro no hno
        have h := HC.out.ca nHdlr (no := no) (fun q hq => by have := hno q hq; omega)
        rw [HLc.out] at h ⊢
        exact h
      have HC9 := Lib.hid CA9
      have HCc := Lib.hid CAc
      have HXy := Lib.hid (HXx.out.below h11w)
      have HVy := Lib.hid (HVx.out.below h11w)
      have H11W := Lib.hid h11w
      have hs11w := h11w.size
      clear CA9 CAc h11w HO9 HL9 HC HLc H9W H11
      obtain ⟨z0, z1, z2, z3, z4⟩ := HXy.out
      go_wp2_with fail
      refine (tables_any _ T first w11 HVy.out hn hC hf0 hf1 hs).mono ?_
      rintro e w12 ⟨r, rfl, hP, hb12⟩
      have hP' := hP
      obtain ⟨g7, f7, rfl, _⟩ := hP'
      have CS : ∀ no : Option Nat, (∀ q, no = some q → q < wp.heap.size) → CA w12 no (.iface 107 (.agg #[.string nStbl, .slice (some ⟨g7, 0, none⟩) 7 7])) (.group nStbl 7 (stbl T first)) := fun no hno => hP.group nStbl (fun q hq => by have := hno q hq; omega)
      have HCS := Lib.hid CS
      have HB12 := Lib.hid hb12
      replace HC9 := Lib.hid (show ∀ no : Option Nat, (∀ q, no = some q → q < wp.heap.size) → CA w12 no _ _ from fun no hno => (HC9.out no hno).bel hb12)
      replace HCc := Lib.hid (show ∀ no : Option Nat, (∀ q, no = some q → q < wp.heap.size) → CA w12 no _ _ from fun no hno => (HCc.out no hno).bel hb12)
      replace H11W := Lib.hid (H11W.out.trans (hb12.mono hs11w))
      have hs12 := hb12.size
      clear CS hP hb12 z0 z1 z2 z3 z4 HVy HXy
      go_upto_region 12 with fail
      obtain ⟨wm, hwm⟩ : ∃ x, x = w12.alloc (.cells #[.iface 107 (.agg #[.string (⟨#[115, 116, 98, 108]⟩ : ByteArray), .slice (some ⟨g7, 0, none⟩) 7 7])] 83) := ⟨_, rfl⟩
      have hbm : Below w12.heap.size w12 wm := by rw [hwm]; exact below_box _ _
      have hzm : wm.heap.size = w12.heap.size + 1 := by rw [hwm]; simp [go_sem]
      have hpm : Parts wm wp.heap.size (.slice (some ⟨w12.heap.size, 0, none⟩) 1 1) 1 (fun _ => .group nStbl 7 (stbl T first)) := by
        rw [hwm]
        refine Parts.of_alloc [_] rfl (by omega) (fun i v hv => ?_)
        have hi : i < 1 := (List.getElem?_eq_some_iff.1 hv).1
        obtain rfl : i = 0 := by omega
        simp only [List.getElem?_cons_zero, Option.some.injEq] at hv
        subst hv
        exact HCS.out
      have cmf : ∀ no : Option Nat, (∀ q, no = some q → q < wp.heap.size) → CA wm no (.iface 107 (.agg #[.string nMinf, .slice (some ⟨w12.heap.size, 0, none⟩) 1 1])) (minfT T first) := fun no hno => hpm.group nMinf hno
      rw [← hwm]
      obtain ⟨gm, hgm⟩ : ∃ g, g = w12.heap.size := ⟨_, rfl⟩
      rw [← hgm] at cmf hzm ⊢
      clear hwm hpm
      obtain ⟨wn, hwn⟩ : ∃ x, x = wm.alloc (.cells #[.iface 109 (.agg #[.string (⟨#[109, 100, 104, 100]⟩ : ByteArray), .slice ra9 L9.length rc9]), .iface 109 (.agg #[.string (⟨#[104, 100, 108, 114]⟩ : ByteArray), .slice rac Lc.length rcc]), .iface 107 (.agg #[.string (⟨#[109, 105, 110, 102]⟩ : ByteArray), .slice (some ⟨gm, 0, none⟩) 1 1])] 83) := ⟨_, rfl⟩
      have hbn : Below wm.heap.size wm wn := by rw [hwn]; exact below_box _ _
      have hzn : wn.heap.size = wm.heap.size + 1 := by rw [hwn]; simp [go_sem]
      have hpn : Parts wn wp.heap.size (.slice (some ⟨wm.heap.size, 0, none⟩) 3 3) 3 (fun i => if i = 0 then .leaf nMdhd (mdhdL T) else if i = 1 then .leaf nHdlr (hdlrL T) else minfT T first) := by
        rw [hwn]
        refine Parts.of_alloc [_, _, _] rfl (by omega) (fun i v hv => ?_)
        have hi : i < 3 := (List.getElem?_eq_some_iff.1 hv).1
        rcases (show i = 0 ∨ i = 1 ∨ i = 2 by omega) with rfl | rfl | rfl <;> (simp only [List.getElem?_cons_zero, List.getElem?_cons_succ, Option.some.injEq] at hv; subst hv)
        · exact fun no hno => (HC9.out no hno).bel hbm
        · exact fun no hno => (HCc.out no hno).bel hbm
        · exact cmf
      have cmd : ∀ no : Option Nat, (∀ q, no = some q → q < wp.heap.size) → CA wn no (.iface 107 (.agg #[.string nMdia, .slice (some ⟨wm.heap.size, 0, none⟩) 3 3])) (mdiaT T first) := fun no hno => hpn.group nMdia hno
      rw [← hwn]
      rw [← hzm]
      obtain ⟨gn, hgn⟩ : ∃ g, g = wm.heap.size := ⟨_, rfl⟩
      rw [← hgn] at cmd hzn ⊢
      clear hwn hpn
      obtain ⟨wo, hwo⟩ : ∃ x, x = wn.alloc (.cells #[.string (⟨#[109, 100, 105, 97]⟩ : ByteArray), .slice (some ⟨gn, 0, none⟩) 3 3] 107) := ⟨_, rfl⟩
      have hbo : Below wn.heap.size wn wo := by rw [hwo]; exact below_box _ _
      obtain ⟨go, hgo⟩ : ∃ g, g = wn.heap.size := ⟨_, rfl⟩
      have k0 : wo.cell? ⟨go, 0, none⟩ = some (.string (⟨#[109, 100, 105, 97]⟩ : ByteArray)) := by rw [hwo, hgo]; simp [go_sem]
      have k1 : wo.cell? ⟨go, 1, none⟩ = some (.slice (some ⟨gn, 0, none⟩) 3 3) := by rw [hwo, hgo]; simp [go_sem]
      rw [← hwo]
      rw [← hzn, ← hgo]
      have hb12o := (hbm.trans (hbn.mono hbm.size)).trans (hbo.mono (Nat.le_trans hbm.size hbn.size))
      have HCM := Lib.hid (show ∀ no : Option Nat, (∀ q, no = some q → q < wp.heap.size) → CA wo no _ _ from fun no hno => (cmd no hno).bel hbo)
      have HWo := Lib.hid (H11W.out.trans (hb12o.mono (by omega)))
      have HOCo := Lib.hid (HOCx.out.below HWo.out)
      have hso : wp.heap.size ≤ wo.heap.size := HWo.out.size
      clear hwo hgo hgn hgm hzm hzn hbm hbn hbo hb12o cmf cmd HC9 HCc HCS
      go_wp2_with (at_builtin; refine wpList_addC _ rfl (.tmp 72) (.tmp 75) rfl w1.heap.size _ _ (.iface 107 (.agg #[.string (⟨#[109, 100, 105, 97]⟩ : ByteArray), .slice (some ⟨gn, 0, none⟩) 3 3])) rfl (HOCo.out.own.below (below_box wo _)) wo.heap.size 1 rfl (by simp [go_sem]) rfl (by simp) (by simp; omega) ?_)
      intro v13 w13 hO13 hA13
      have hbx : Below wo.heap.size wo (wo.alloc (.cells #[.iface 107 (.agg #[.string (⟨#[109, 100, 105, 97]⟩ : ByteArray), .slice (some ⟨gn, 0, none⟩) 3 3])] 83)) := below_box _ _
      have h13 : Below w1.heap.size w1 w13 := ((HBW.out.trans (HWo.out.mono hsw)).trans (hbx.mono (by omega))).trans (hA13.up (HOCo.out.own.below hbx) (by simp; omega))
      have hrow := (HOCo.out.below hbx).add (W0 := wp.heap.size) (t := mdiaT T first) (fun g hg => HOCx.out.own.lt hg) hsw (fun no hno => (HCM.out no hno).bel hbx) hO13 hA13
      have hfin : ∀ no : Option Nat, (∀ q, no = some q → q < w.heap.size) → CA w13 no (.iface 107 (.agg #[.string nTrak, v13])) (trakT T k first) := fun no hno => by
        unfold trakT
        rw [if_neg hne]
        refine hrow.group nTrak rfl (by simp) (fun i hi => ?_) (fun q hq => by have := hno q hq; omega)
        have : i = 0 ∨ i = 1 := by simp at hi; omega
        rcases this with rfl | rfl <;> rfl
      obtain ⟨aq, cq, rfl⟩ := hO13.shape
      have HF := Lib.hid hfin
      have HB13 := Lib.hid (HB1.out.trans (h13.mono (by omega)))
      clear hrow hfin hO13 hA13 h13 hbx
      go_wp2_with fail
      go_ret
      exact ⟨_, rfl, HF.out, HB13.out⟩
end Go.Proofs.Ytkhjkemllgjfmaa
