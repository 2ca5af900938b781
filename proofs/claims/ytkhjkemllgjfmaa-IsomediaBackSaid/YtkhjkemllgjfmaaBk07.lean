/- Texts of this claim joined: YS YT YU YV YX YY BC. -/
import Derived.Test.YtkhjkemllgjfmaaBk00
import Derived.Test.YtkhjkemllgjfmaaBk01
import Derived.Test.YtkhjkemllgjfmaaBk04
import Derived.Test.YtkhjkemllgjfmaaBk06
set_option linter.unusedVariables false
set_option linter.unusedSimpArgs false

/- The contract of the program's track. -/
namespace Go.Proofs.Ytkhjkemllgjfmaa
open Go.RowKit
set_option linter.unusedVariables false
set_option linter.unusedSimpArgs false

/-- The five cells of a track. -/
structure C5 (w : World) (b : Nat) (c0 c1 c2 c3 c4 : Value) : Prop where
  k0 : w.cell? ⟨b, 0, none⟩ = some c0
  k1 : w.cell? ⟨b, 1, none⟩ = some c1
  k2 : w.cell? ⟨b, 2, none⟩ = some c2
  k3 : w.cell? ⟨b, 3, none⟩ = some c3
  k4 : w.cell? ⟨b, 4, none⟩ = some c4
theorem C5.lt {w : World} {b : Nat} {c0 c1 c2 c3 c4 : Value} (h : C5 w b c0 c1 c2 c3 c4) : b < w.heap.size := block_lt_of_cell h.k0
theorem C5.below {w w' : World} {b : Nat} {c0 c1 c2 c3 c4 : Value} (h : C5 w b c0 c1 c2 c3 c4) (hb : Below w.heap.size w w') : C5 w' b c0 c1 c2 c3 c4 :=
  ⟨(hb.cell h.lt).trans h.k0, (hb.cell h.lt).trans h.k1, (hb.cell h.lt).trans h.k2, (hb.cell h.lt).trans h.k3, (hb.cell h.lt).trans h.k4⟩
def TrakPost (w : World) (T : Tr) (k first : Int) (e : Ending) (w' : World) : Prop := ∃ r, e = .returned r ∧ (∀ no : Option Nat, (∀ q, no = some q → q < w.heap.size) → CA w' no r (trakT T k first)) ∧ Below w.heap.size w w'
def trG (B : Nat) (T : Tr) (i : Nat) (R : Nat → Prop) (v : Value) (w : World) : Prop :=
  match i with
  | 0 => GO B ([] ++ zs 12) R v w | 3 => GI [T.sc, 0] R v w | _ => True
theorem trG_touch {B : Nat} {T : Tr} {i : Nat} {R X : Nat → Prop} {v : Value} {w w' : World} (h : trG B T i R v w) (ht : Plan.Touch X w w') (hd : ∀ b, R b → ¬ X b ∧ b < w.heap.size) : trG B T i R v w' := by
  unfold trG at h ⊢
  split <;> first | exact GI.touch h ht hd | exact GO.touch h ht hd | trivial

set_option maxRecDepth 100000 in
set_option maxHeartbeats 4000000 in
theorem wtrack_any (v : Value) (T : Tr) (k first : Int) (w : World) (hv : TA w v T) (hn : T.nS ≤ 10000) (hC : T.nC ≤ 10000) (hE : T.nE ≤ 10000) (hh : T.h.size ≤ 1000) (hf0 : 0 ≤ first) (hf1 : first ≤ 4000000000) (hs : sizeN T.S T.nS ≤ 5000000000) :
    Calls Try.prog 55 #[v, .int .i64 k, .int .i64 first] w (TrakPost w T k first) := by
  have HV0 := Lib.hid hv
  obtain ⟨c0, c1, c2, c3, c4, rfl, rfl, rfl, b2, b3, b4⟩ := hv
  obtain ⟨a2, d2, rfl⟩ := b2.shape
  obtain ⟨a3, d3, rfl⟩ := b3.shape
  obtain ⟨a4, d4, rfl⟩ := b4.shape
  have HE4 := Lib.hid b4
  clear b2 b3 b4
  go_enter Try.func55, Try.ntmps55
  go_upto_region 1 with fail
  obtain ⟨w1, hw1⟩ : ∃ x, x = w.alloc (.cells #[.string T.h, .int .i64 T.sc, .slice a2 T.nC d2, .slice a3 T.nS d3, .slice a4 T.nE d4] 43) := ⟨_, rfl⟩
  rw [← hw1]
  obtain ⟨gt, hgt⟩ : ∃ g, g = w.heap.size := ⟨_, rfl⟩
  have hE1 : Below w.heap.size w w1 := by rw [hw1]; exact below_box _ _
  have hx : C5 w1 gt (.string T.h) (.int .i64 T.sc) (.slice a2 T.nC d2) (.slice a3 T.nS d3) (.slice a4 T.nE d4) := by rw [hw1, hgt]; constructor <;> simp [go_sem]
  rw [← hgt]
  have hz1 : w.heap.size < w1.heap.size := by have := hx.lt; omega
  have hgtl : gt < w1.heap.size := hx.lt
  have HB1 := Lib.hid hE1
  have HV00 := HV0
  have HX := Lib.hid hx
  have HX1 := HX
  clear hw1 hE1 hgt hx
  go_wp2_with fail
  refine (appz_any _ [0, 0, 0, 3] 8 w1.heap.size _ (own_lit w1 [0, 0, 0, 3] (by decide)) (by decide) (by decide) (by decide) (by simp)).mono ?_
  rintro e w2 ⟨r, rfl, hO, hA⟩
  have hup : Below w1.heap.size w1 w2 := (below_box w1 _).trans (hA.up (own_lit w1 [0, 0, 0, 3] (by decide)) (by first | exact hsw | (simp; done) | (simp; omega)))
  obtain ⟨L2, hL2⟩ : ∃ Lq, Lq = [0, 0, 0, 3] ++ zs 8 := ⟨_, rfl⟩
  replace hO : Own w2 w1.heap.size r L2 := by rw [hL2]; exact hO
  have hn2 : L2.length = 12 := by rw [hL2, List.length_append, show (zs 8 : List Int).length = 8 from by simp [zs]]; rfl
  have he2 : L2 = [0, 0, 0, 3] ++ zs 8 := hL2
  obtain ⟨ra, rc, rfl⟩ := hO.shape
  have HO := Lib.hid hO
  replace HBW := Lib.hid hup
  have HLn := Lib.hid hn2
  have HLe := Lib.hid he2
  replace hsw := hup.size
  clear hO hA hup hL2 hn2 he2
  go_wp2_with fail
  refine (appn_any _ _ L2 [k] w1.heap.size _ (HO.out.below (below_box w2 _)) (IL.build w2 [k] 2) (HO.out.apart_new (Nat.le_refl _)) (by simp) (by rw [HLn.out]; decide) (by simp; omega)).mono ?_
  rintro e w3 ⟨r, rfl, hO, hA⟩
  have hup : Below w1.heap.size w1 w3 := (HBW.out.trans ((below_box w2 _).mono hsw)).trans (hA.up (HO.out.below (below_box w2 _)) (by first | exact hsw | (simp; done) | (simp; omega)))
  obtain ⟨L3, hL3⟩ : ∃ Lq, Lq = L2 ++ numsL [k] := ⟨_, rfl⟩
  replace hO : Own w3 w1.heap.size r L3 := by rw [hL3]; exact hO
  have hn2 : L3.length = 16 := by rw [hL3, List.length_append, HLn.out, show (numsL [k] : List Int).length = 4 from by rw [numsL_length]; rfl]
  have he2 : L3 = [0, 0, 0, 3] ++ zs 8 ++ numsL [k] := hL3.trans (by rw [HLe.out])
  obtain ⟨ra, rc, rfl⟩ := hO.shape
  replace HO := Lib.hid hO
  replace HBW := Lib.hid hup
  replace HLn := Lib.hid hn2
  replace HLe := Lib.hid he2
  replace hsw := hup.size
  clear hO hA hup hL3 hn2 he2
  go_wp2_with fail
  refine (appz_any _ L3 4 w1.heap.size _ HO.out (by decide) (by decide) (by rw [HLn.out]; decide) hsw).mono ?_
  rintro e w4 ⟨r, rfl, hO, hA⟩
  have hup : Below w1.heap.size w1 w4 := HBW.out.trans (hA.up HO.out (by first | exact hsw | (simp; done) | (simp; omega)))
  obtain ⟨L4, hL4⟩ : ∃ Lq, Lq = L3 ++ zs 4 := ⟨_, rfl⟩
  replace hO : Own w4 w1.heap.size r L4 := by rw [hL4]; exact hO
  have hn2 : L4.length = 20 := by rw [hL4, List.length_append, HLn.out, show (zs 4 : List Int).length = 4 from by simp [zs]]
  have he2 : L4 = [0, 0, 0, 3] ++ zs 8 ++ numsL [k] ++ zs 4 := hL4.trans (by rw [HLe.out])
  obtain ⟨ra, rc, rfl⟩ := hO.shape
  replace HO := Lib.hid hO
  replace HBW := Lib.hid hup
  replace HLn := Lib.hid hn2
  replace HLe := Lib.hid he2
  replace hsw := hup.size
  clear hO hA hup hL4 hn2 he2
  go_wp2_with fail
  refine (appn_any _ _ L4 [0] w1.heap.size _ (HO.out.below (below_box w4 _)) (IL.build w4 [0] 2) (HO.out.apart_new (Nat.le_refl _)) (by simp) (by rw [HLn.out]; decide) (by simp; omega)).mono ?_
  rintro e w5 ⟨r, rfl, hO, hA⟩
  have hup : Below w1.heap.size w1 w5 := (HBW.out.trans ((below_box w4 _).mono hsw)).trans (hA.up (HO.out.below (below_box w4 _)) (by first | exact hsw | (simp; done) | (simp; omega)))
  obtain ⟨L5, hL5⟩ : ∃ Lq, Lq = L4 ++ numsL [0] := ⟨_, rfl⟩
  replace hO : Own w5 w1.heap.size r L5 := by rw [hL5]; exact hO
  have hn2 : L5.length = 24 := by rw [hL5, List.length_append, HLn.out, show (numsL [0] : List Int).length = 4 from by rw [numsL_length]; rfl]
  have he2 : L5 = [0, 0, 0, 3] ++ zs 8 ++ numsL [k] ++ zs 4 ++ numsL [0] := hL5.trans (by rw [HLe.out])
  obtain ⟨ra, rc, rfl⟩ := hO.shape
  replace HO := Lib.hid hO
  replace HBW := Lib.hid hup
  replace HLn := Lib.hid hn2
  replace HLe := Lib.hid he2
  replace hsw := hup.size
  clear hO hA hup hL5 hn2 he2
  go_wp2_with fail
  refine (appz_any _ L5 16 w1.heap.size _ HO.out (by decide) (by decide) (by rw [HLn.out]; decide) hsw).mono ?_
  rintro e w6 ⟨r, rfl, hO, hA⟩
  have hup : Below w1.heap.size w1 w6 := HBW.out.trans (hA.up HO.out (by first | exact hsw | (simp; done) | (simp; omega)))
  obtain ⟨L6, hL6⟩ : ∃ Lq, Lq = L5 ++ zs 16 := ⟨_, rfl⟩
  replace hO : Own w6 w1.heap.size r L6 := by rw [hL6]; exact hO
  have hn2 : L6.length = 40 := by rw [hL6, List.length_append, HLn.out, show (zs 16 : List Int).length = 16 from by simp [zs]]
  have he2 : L6 = [0, 0, 0, 3] ++ zs 8 ++ numsL [k] ++ zs 4 ++ numsL [0] ++ zs 16 := hL6.trans (by rw [HLe.out])
  obtain ⟨ra, rc, rfl⟩ := hO.shape
  replace HO := Lib.hid hO
  replace HBW := Lib.hid hup
  replace HLn := Lib.hid hn2
  replace HLe := Lib.hid he2
  replace hsw := hup.size
  clear hO hA hup hL6 hn2 he2
  go_wp2_with fail
  refine (appm_any _ L6 w1.heap.size _ HO.out (by rw [HLn.out]; decide) hsw).mono ?_
  rintro e w7 ⟨r, rfl, hO, hA⟩
  have hup : Below w1.heap.size w1 w7 := HBW.out.trans (hA.up HO.out (by first | exact hsw | (simp; done) | (simp; omega)))
  obtain ⟨L7, hL7⟩ : ∃ Lq, Lq = L6 ++ matL := ⟨_, rfl⟩
  replace hO : Own w7 w1.heap.size r L7 := by rw [hL7]; exact hO
  have hn2 : L7.length = 76 := by rw [hL7, List.length_append, HLn.out, show (matL : List Int).length = 36 from by rfl]
  have he2 : L7 = [0, 0, 0, 3] ++ zs 8 ++ numsL [k] ++ zs 4 ++ numsL [0] ++ zs 16 ++ matL := hL7.trans (by rw [HLe.out])
  obtain ⟨ra, rc, rfl⟩ := hO.shape
  replace HO := Lib.hid hO
  replace HBW := Lib.hid hup
  replace HLn := Lib.hid hn2
  replace HLe := Lib.hid he2
  replace hsw := hup.size
  clear hO hA hup hL7 hn2 he2
  go_wp2_with fail
  refine (appz_any _ L7 8 w1.heap.size _ HO.out (by decide) (by decide) (by rw [HLn.out]; decide) hsw).mono ?_
  rintro e w8 ⟨r, rfl, hO, hA⟩
  have hup : Below w1.heap.size w1 w8 := HBW.out.trans (hA.up HO.out (by first | exact hsw | (simp; done) | (simp; omega)))
  obtain ⟨L8, hL8⟩ : ∃ Lq, Lq = L7 ++ zs 8 := ⟨_, rfl⟩
  replace hO : Own w8 w1.heap.size r L8 := by rw [hL8]; exact hO
  have hn2 : L8.length = 84 := by rw [hL8, List.length_append, HLn.out, show (zs 8 : List Int).length = 8 from by simp [zs]]
  have he2 : L8 = [0, 0, 0, 3] ++ zs 8 ++ numsL [k] ++ zs 4 ++ numsL [0] ++ zs 16 ++ matL ++ zs 8 := hL8.trans (by rw [HLe.out])
  obtain ⟨ra, rc, rfl⟩ := hO.shape
  replace HO := Lib.hid hO
  replace HBW := Lib.hid hup
  replace HLn := Lib.hid hn2
  replace HLe := Lib.hid he2
  replace hsw := hup.size
  clear hO hA hup hL8 hn2 he2
  have HOT := HO
  have HLT := Lib.hid (show L8 = tkhdL k from HLe.out)
  clear HO HLe HLn
  replace HX := Lib.hid (HX.out.below HBW.out)
  go_upto_region 6 with fail
  obtain ⟨wp, hwp⟩ : ∃ x, x = w8.alloc (.cells #[.iface 109 (.agg #[.string nTkhd, .slice ra L8.length rc])] 83) := ⟨_, rfl⟩
  have hbp : Below w8.heap.size w8 wp := by rw [hwp]; exact below_box _ _
  obtain ⟨gq, hgq⟩ : ∃ g, g = w8.heap.size := ⟨_, rfl⟩
  have hoc : RowC wp w1.heap.size (.slice (some ⟨gq, 0, none⟩) 1 1) [.iface 109 (.agg #[.string nTkhd, .slice ra L8.length rc])] (fun _ => .leaf nTkhd (tkhdL k)) := by
    rw [hwp, hgq]
    refine RowC.one hsw (fun no hno => ?_)
    have h := HOT.out.ca nTkhd hno
    rw [HLT.out] at h ⊢
    exact h
  have hwp' := hwp
  unfold nTkhd at hwp'
  rw [← hwp', ← hgq]
  replace hbp := HBW.out.trans (hbp.mono hsw)
  have HOC := Lib.hid hoc
  replace HBW := Lib.hid hbp
  replace hsw := hbp.size
  have HVp := Lib.hid ((HV0.out.below HB1.out).below hbp)
  have HEp := Lib.hid ((HE4.out.below HB1.out).below hbp)
  have HXp := Lib.hid (show C5 wp gt _ _ _ _ _ by rw [hwp]; exact HX.out.below (below_box _ _))
  have hgt0 := HXp.out.lt
  clear hwp hwp' hgq hbp hoc HOT HLT HV0 HE4 HX
  obtain ⟨x0, x1, x2, x3, x4⟩ := HXp.out
  by_cases hne : 0 < T.nE
  · skip
    have hdec : decide ((0 : Int) < T.nE) = true := by simp; omega
    go_wp2_with fail
    refine (elist_any _ T.nE T.E wp HEp.out (by omega)).mono ?_
    rintro e wq ⟨r, rfl, hO, hb⟩
    obtain ⟨Le, hLe⟩ : ∃ Lq, Lq = numsL [0, (T.nE : Int)] ++ edL T.E T.nE := ⟨_, rfl⟩
    rw [← hLe] at hO
    obtain ⟨re, ce, rfl⟩ := hO.shape
    have hsq := hb.size
    have cel : ∀ no : Option Nat, (∀ q, no = some q → q < wp.heap.size) → CA wq no (.iface 109 (.agg #[.string nElst, .slice re Le.length ce])) (.leaf nElst (numsL [0, (T.nE : Int)] ++ edL T.E T.nE)) := fun no hno => by
      have h := hO.ca nElst hno
      rw [hLe] at h ⊢
      exact h
    have hpe : Parts (wq.alloc (.cells #[.iface 109 (.agg #[.string (⟨#[101, 108, 115, 116]⟩ : ByteArray), .slice re Le.length ce])] 83)) wp.heap.size (.slice (some ⟨wq.heap.size, 0, none⟩) 1 1) 1 (fun _ => .leaf nElst (numsL [0, (T.nE : Int)] ++ edL T.E T.nE)) := by
      refine Parts.of_alloc [_] rfl hsq (fun i v hv => ?_)
      have hi : i < 1 := (List.getElem?_eq_some_iff.1 hv).1
      obtain rfl : i = 0 := by omega
      simp only [List.getElem?_cons_zero, Option.some.injEq] at hv
      subst hv
      exact cel
    have hcet : ∀ no : Option Nat, (∀ q, no = some q → q < wp.heap.size) → CA ((wq.alloc (.cells #[.iface 109 (.agg #[.string (⟨#[101, 108, 115, 116]⟩ : ByteArray), .slice re Le.length ce])] 83)).alloc (.cells #[(.iface 107 (.agg #[.string (⟨#[101, 100, 116, 115]⟩ : ByteArray), .slice (some ⟨wq.heap.size, 0, none⟩) 1 1]))] 83)) no (.iface 107 (.agg #[.string (⟨#[101, 100, 116, 115]⟩ : ByteArray), .slice (some ⟨wq.heap.size, 0, none⟩) 1 1])) (edtsT T) := fun no hno => (hpe.group nEdts hno).bel (below_box _ _)
    have hbq2 : Below wp.heap.size wp ((wq.alloc (.cells #[.iface 109 (.agg #[.string (⟨#[101, 108, 115, 116]⟩ : ByteArray), .slice re Le.length ce])] 83)).alloc (.cells #[(.iface 107 (.agg #[.string (⟨#[101, 100, 116, 115]⟩ : ByteArray), .slice (some ⟨wq.heap.size, 0, none⟩) 1 1]))] 83)) := (hb.trans ((below_box wq _).mono hsq)).trans ((below_box (wq.alloc (.cells #[.iface 109 (.agg #[.string (⟨#[101, 108, 115, 116]⟩ : ByteArray), .slice re Le.length ce])] 83)) _).mono (by simp; omega))
    have HCET := Lib.hid hcet
    have HQ2 := Lib.hid hbq2
    clear hO hb hLe cel hpe hcet hbq2
    go_wp2_with (at_builtin; refine wpList_addC _ rfl (.tmp 34) (.tmp 41) rfl w1.heap.size _ _ (.iface 107 (.agg #[.string (⟨#[101, 100, 116, 115]⟩ : ByteArray), .slice (some ⟨wq.heap.size, 0, none⟩) 1 1])) rfl (HOC.out.own.below HQ2.out) (wq.heap.size + 1) 1 rfl (by simp [go_sem]) rfl (by simp) (by simp; omega) ?_)
    intro v8 ws hO8 hA8
    have hup8 : Below w1.heap.size w1 ws := (HBW.out.trans (HQ2.out.mono hsw)).trans (hA8.up (HOC.out.own.below HQ2.out) (by have := HQ2.out.size; omega))
    have hrow8 := (HOC.out.below HQ2.out).add (W0 := wp.heap.size) (t := edtsT T) (fun g hg => HOC.out.own.lt hg) hsw (fun no hno => HCET.out no hno) hO8 hA8
    obtain ⟨a8, c8, rfl⟩ := hO8.shape
    have HOCx := Lib.hid hrow8
    have HXx := Lib.hid (show C5 ws gt _ _ _ _ _ from ⟨(hup8.cell (p := ⟨gt, 0, none⟩) hgtl).trans HX1.out.k0, (hup8.cell (p := ⟨gt, 1, none⟩) hgtl).trans HX1.out.k1, (hup8.cell (p := ⟨gt, 2, none⟩) hgtl).trans HX1.out.k2, (hup8.cell (p := ⟨gt, 3, none⟩) hgtl).trans HX1.out.k3, (hup8.cell (p := ⟨gt, 4, none⟩) hgtl).trans HX1.out.k4⟩)
    have HVx := Lib.hid (HV00.out.below (HB1.out.trans (hup8.mono (by omega))))
    replace HBW := Lib.hid hup8
    replace hsw := hup8.size
    clear hup8 hrow8 hO8 hA8 HCET HQ2 HOC HXp HVp HEp x0 x1 x2 x3 x4 hgt0
    obtain ⟨x0, x1, x2, x3, x4⟩ := HXx.out
    go_upto_region 8 with fail
    refine Plan.wp_region_own (fun w' => Below ws.heap.size ws w') 6 (trG ws.heap.size T) (fun _ => []) ([1, 2].map (·, true)) [(0, 43), (3, 46)] ([4, 5].map (·, false)) 79 (by kernel_rfl) (by kernel_rfl) (by kernel_rfl) (by kernel_rfl) (Below.refl _ _).drew ?_
    refine' Plan.plan_seg _ [1, 2] [] (by kernel_rfl) (by kernel_rfl) rfl (by exact (Below.refl _ _).drew) (fun wx hS => ?_) ?_
    rotate_left
    · have y1 := (HXx.out.below hS).k1
      clear hS
      go_light
      iterate 2 (apply Plan.seg_pick; rfl; intro K hK; go_wp)
      exact Plan.seg_nil
    refine Plan.plan_nil ?_
    obtain ⟨wd, hwd⟩ : ∃ x, x = ws.drew := ⟨_, rfl⟩
    rw [← hwd]
    have hzd : wd.heap.size = ws.heap.size := by rw [hwd]; rfl
    have hwrd : ws.heap.size ≤ wd.heap.size := by omega
    clear hwd
    refine ⟨rfl, fun wa wb ha hb => ha.trans (hb.mono (by omega)), fun i R X v wa wb h ht hd _ _ => trG_touch h ht hd, ?_, ?_⟩
    · intro p hp o ho vs wx R hS hE hG K hK
      have hSz := hS.size
      simp only [List.mem_cons, List.not_mem_nil, or_false] at hp
      rcases hp with rfl | rfl
      all_goals obtain rfl := Option.some.inj ho
      · clear hG
        refine Plan.one_call rfl 53 Try.func53 (by kernel_rfl) (by kernel_rfl) #[.const (.slice none 0 0), .const (.int .i64 12)] #[22, 3] rfl #[.slice none 0 0, .int .i64 12] (by simp [Act.eval]) (fun r w' => Own w' wx.heap.size r ([] ++ zs 12) ∧ Adv wx w' (.slice none 0 0) r) (appz_any (.slice none 0 0) [] 12 wx.heap.size wx (own_nil _ _) (by decide) (by decide) (by decide) (Nat.le_refl _)) (fun r w' hR => ?_)
        exact hK _ _ (GO.new hR.1 (by omega)) (touch_below (hR.2.below rfl))
      · clear hG
        simp only [Plan.puts] at hK ⊢
        go_wp2
        exact hK _ _ (GI.new (IL.build wx [T.sc, 0] 2) (fun a n c e => by cases e; exact ⟨Nat.le_refl _, by simp [go_sem]⟩)) (touch_below (below_box _ _))
    · intro vs R wx hS hE hall hap
      have h0 : GO ws.heap.size ([] ++ zs 12) (R 0) (vs 0) wx := (hall (0, 43) (by decide) (by decide)).1
      have h3 : GI [T.sc, 0] (R 3) (vs 3) wx := (hall (3, 46) (by decide) (by decide)).1
      have hdis := hap (0, 43) (by decide) (3, 46) (by decide) (by decide) (by decide) (by decide)
      obtain ⟨qa, qc, he0⟩ := h0.1.shape
      obtain ⟨pa, pc, he3⟩ := h3.1.shape
      have hapt : Apart (vs 0) (vs 3) := fun a n c e h => by
        obtain ⟨a', n', c', e1, e2⟩ := own_block h
        exact hdis _ (h0.2 a' n' c' e1) (by rw [e2]; exact h3.2 a n c e)
      have HS := Lib.hid hS
      have hSz := hS.size
      have ho0 := h0.1
      have hi3 := h3.1
      rw [he0] at ho0 hapt
      rw [he3] at hi3 hapt
      have HO := Lib.hid ho0
      have HI := Lib.hid hi3
      have HAP := Lib.hid hapt
      simp only [Plan.puts, he0, he3]
      clear hall hap hE h0 h3 hdis he0 he3 hapt ho0 hi3 hS hwrd hzd
      refine Plan.plan_of_effect rfl (fun K hK => ?_)
      go_wp2_with fail
      refine (appn_any _ _ ([] ++ zs 12) [T.sc, 0] ws.heap.size wx HO.out HI.out HAP.out (by simp) (by simp [zs]) (by omega)).mono ?_
      rintro e wy ⟨r, rfl, hO, hA⟩
      have hyw : Below ws.heap.size ws wy := HS.out.trans (hA.up HO.out hSz)
      obtain ⟨Lh, hLh⟩ : ∃ Lq, Lq = ([] ++ zs 12 ++ numsL [T.sc, 0] : List Int) := ⟨_, rfl⟩
      replace hO : Own wy ws.heap.size r Lh := by rw [hLh]; exact hO
      have hlh : Lh.length = 20 := by rw [hLh, List.length_append, numsL_length]; simp [zs]
      obtain ⟨ra0, rc0, rfl⟩ := hO.shape
      have HH := Lib.hid hO
      have HYW := Lib.hid hyw
      have HLh := Lib.hid hLh
      have HLhn := Lib.hid hlh
      have hsy := hyw.size
      clear hO hA hLh hlh HO HI HAP HS hyw
      go_wp2_with fail
      refine ⟨HYW.out, ?_⟩
      refine Plan.plan_of_effect rfl (fun K hK => ?_)
      go_wp2_with fail
      refine ⟨HYW.out, ?_⟩
      refine Plan.plan_done ?_
      go_wp2_with (at_builtin; refine wpList_adv _ rfl (.tmp 48) (.tmp 49) rfl ws.heap.size _ _ Lh [85, 196, 0, 0] rfl (HH.out.below (below_box wy _)) rfl (own_lit wy [85, 196, 0, 0] (by decide)).bl (by rw [HLhn.out]; decide) (by simp; omega) ?_)
      intro v9 w9 hO9 hA9
      have h9w : Below ws.heap.size ws w9 := (HYW.out.trans ((below_box wy _).mono hsy)).trans (hA9.up (HH.out.below (below_box wy _)) (by simp; omega))
      obtain ⟨L9, hL9⟩ : ∃ Lq, Lq = Lh ++ [85, 196, 0, 0] := ⟨_, rfl⟩
      rw [← hL9] at hO9
      have he9 : L9 = mdhdL T := by rw [hL9, HLh.out]; rfl
      obtain ⟨ra9, rc9, rfl⟩ := hO9.shape
      have HO9 := Lib.hid hO9
      have HL9 := Lib.hid he9
      have H9W := Lib.hid h9w
      have hs9 := h9w.size
      clear hO9 hA9 h9w hL9 he9 HH HYW HLh HLhn hsy hSz
      go_upto_region 10 with fail
      refine Plan.wp_region_plan (fun w' => Below w9.heap.size w9 w') (([1, 2].map (·, true)) ++ (([0, 3, 4].map (·, false)) ++ ([5].map (·, true)))) (by kernel_rfl) (by kernel_rfl) (by kernel_rfl) (Below.refl _ _).drew ?_
      refine' Plan.plan_seg _ [1, 2] (([0, 3, 4].map (·, false)) ++ ([5].map (·, true))) (by kernel_rfl) (by kernel_rfl) rfl (by exact (Below.refl _ _).drew) (fun wx hS => ?_) ?_
      rotate_left
      · have y0 := (((HXx.out.below H9W.out)).below hS).k0
        clear hS
        go_light
        iterate 2 (apply Plan.seg_pick; rfl; intro K hK; go_wp)
        exact Plan.seg_nil
      obtain ⟨we, hwe⟩ : ∃ x, x = w9.drew := ⟨_, rfl⟩
      rw [← hwe]
      have HD := Lib.hid (show Below w9.heap.size w9 we by rw [hwe]; exact (Below.refl _ _).drew)
      have hsd := HD.out.size
      clear hwe
      refine Plan.plan_of_effect rfl (fun K hK => ?_)
      go_wp2_with fail
      refine (appz_any (.slice none 0 0) [] 8 w9.heap.size we (own_nil _ _) (by decide) (by decide) (by decide) hsd).mono ?_
      rintro e wf ⟨r, rfl, hO, hA⟩
      have hfw : Below w9.heap.size w9 wf := HD.out.trans ((hA.below rfl).mono hsd)
      obtain ⟨La, hLa⟩ : ∃ Lq, Lq = ([] ++ zs 8 : List Int) := ⟨_, rfl⟩
      replace hO : Own wf w9.heap.size r La := by rw [hLa]; exact hO
      have hla : La.length = 8 := by rw [hLa]; simp [zs]
      obtain ⟨raa, rca, rfl⟩ := hO.shape
      have HA := Lib.hid hO
      have HFW := Lib.hid hfw
      have HLa := Lib.hid hLa
      have HLan := Lib.hid hla
      have hsf := hfw.size
      clear hO hA hLa hla hfw HD hsd
      go_wp2_with fail
      refine ⟨HFW.out, ?_⟩
      refine Plan.plan_of_effect rfl (fun K hK => ?_)
      refine wpList_advS _ rfl (.tmp 51) (.tmp 53) rfl w9.heap.size _ La T.h rfl HA.out rfl (by rw [HLan.out]; omega) hsf ?_
      intro v10 w10 hO10 hA10
      have h10 : Below w9.heap.size w9 w10 := HFW.out.trans (hA10.up HA.out hsf)
      obtain ⟨Lb, hLb⟩ : ∃ Lq, Lq = La ++ strB T.h := ⟨_, rfl⟩
      rw [← hLb] at hO10
      have hlb : Lb.length = 8 + T.h.size := by rw [hLb, List.length_append, HLan.out, strB_length]
      obtain ⟨rab, rcb, rfl⟩ := hO10.shape
      have HBq := Lib.hid hO10
      have H10 := Lib.hid h10
      have HLb := Lib.hid hLb
      have HLbn := Lib.hid hlb
      have hs10 := h10.size
      clear hO10 hA10 hLb hlb h10 HA HFW hsf
      go_wp2_with fail
      refine ⟨H10.out, ?_⟩
      refine Plan.plan_of_effect rfl (fun K hK => ?_)
      go_wp2_with fail
      refine (appz_any _ Lb 13 w9.heap.size w10 HBq.out (by decide) (by decide) (by rw [HLbn.out]; omega) hs10).mono ?_
      rintro e w11 ⟨r, rfl, hO, hA⟩
      have h11 : Below w9.heap.size w9 w11 := H10.out.trans (hA.up HBq.out hs10)
      obtain ⟨Lc, hLc⟩ : ∃ Lq, Lq = Lb ++ zs 13 := ⟨_, rfl⟩
      replace hO : Own w11 w9.heap.size r Lc := by rw [hLc]; exact hO
      have hec : Lc = hdlrL T := by rw [hLc, HLb.out, HLa.out]; rfl
      obtain ⟨rac, rcc, rfl⟩ := hO.shape
      have HC := Lib.hid hO
      have H11 := Lib.hid h11
      have HLc := Lib.hid hec
      have hs11 := h11.size
      clear hO hA hLc hec h11 HBq H10 HLa HLan HLb HLbn hs10
      go_wp2_with fail
      refine ⟨H11.out, ?_⟩
      refine' Plan.plan_seg _ [5] [] (by kernel_rfl) (by kernel_rfl) rfl (by exact H11.out) (fun wx hS => ?_) ?_
      rotate_left
      · clear hS
        go_light
        iterate 1 (apply Plan.seg_pick; rfl; intro K hK; go_wp)
        exact Plan.seg_nil
      refine Plan.plan_done ?_
      have h11w := H9W.out.trans (H11.out.mono hs9)
      have CA9 : ∀ no : Option Nat, (∀ q, no = some q → q < ws.heap.size) → CA w11 no (.iface 109 (.agg #[.string nMdhd, .slice ra9 L9.length rc9])) (.leaf nMdhd (mdhdL T)) := by
        intro no hno
        have h := (HO9.out.below H11.out).ca nMdhd hno
        rw [HL9.out] at h ⊢
        exact h
      have CAc : ∀ no : Option Nat, (∀ q, no = some q → q < ws.heap.size) → CA w11 no (.iface 109 (.agg #[.string nHdlr, .slice rac Lc.length rcc])) (.leaf nHdlr (hdlrL T)) := by
        intro no hno
        have h := HC.out.ca nHdlr (no := no) (fun q hq => by have := hno q hq; omega)
        rw [HLc.out] at h ⊢
        exact h
      have HC9 := Lib.hid CA9
      have HCc := Lib.hid CAc
      have HXy := Lib.hid (HXx.out.below h11w)
      have HVy := Lib.hid (HVx.out.below h11w)
      have H11W := Lib.hid h11w
      have hs11w := h11w.size
      clear CA9 CAc h11w HO9 HL9 HC HLc H9W H11
      obtain ⟨z0, z1, z2, z3, z4⟩ := HXy.out
      go_wp2_with fail
      refine (tables_any _ T first w11 HVy.out hn hC hf0 hf1 hs).mono ?_
      rintro e w12 ⟨r, rfl, hP, hb12⟩
      have hP' := hP
      obtain ⟨g7, f7, rfl, _⟩ := hP'
      have CS : ∀ no : Option Nat, (∀ q, no = some q → q < ws.heap.size) → CA w12 no (.iface 107 (.agg #[.string nStbl, .slice (some ⟨g7, 0, none⟩) 7 7])) (.group nStbl 7 (stbl T first)) := fun no hno => hP.group nStbl (fun q hq => by have := hno q hq; omega)
      have HCS := Lib.hid CS
      have HB12 := Lib.hid hb12
      replace HC9 := Lib.hid (show ∀ no : Option Nat, (∀ q, no = some q → q < ws.heap.size) → CA w12 no _ _ from fun no hno => (HC9.out no hno).bel hb12)
      replace HCc := Lib.hid (show ∀ no : Option Nat, (∀ q, no = some q → q < ws.heap.size) → CA w12 no _ _ from fun no hno => (HCc.out no hno).bel hb12)
      replace H11W := Lib.hid (H11W.out.trans (hb12.mono hs11w))
      have hs12 := hb12.size
      clear CS hP hb12 z0 z1 z2 z3 z4 HVy HXy
      go_upto_region 12 with fail
      obtain ⟨wm, hwm⟩ : ∃ x, x = w12.alloc (.cells #[.iface 107 (.agg #[.string (⟨#[115, 116, 98, 108]⟩ : ByteArray), .slice (some ⟨g7, 0, none⟩) 7 7])] 83) := ⟨_, rfl⟩
      have hbm : Below w12.heap.size w12 wm := by rw [hwm]; exact below_box _ _
      have hzm : wm.heap.size = w12.heap.size + 1 := by rw [hwm]; simp [go_sem]
      have hpm : Parts wm ws.heap.size (.slice (some ⟨w12.heap.size, 0, none⟩) 1 1) 1 (fun _ => .group nStbl 7 (stbl T first)) := by
        rw [hwm]
        refine Parts.of_alloc [_] rfl (by omega) (fun i v hv => ?_)
        have hi : i < 1 := (List.getElem?_eq_some_iff.1 hv).1
        obtain rfl : i = 0 := by omega
        simp only [List.getElem?_cons_zero, Option.some.injEq] at hv
        subst hv
        exact HCS.out
      have cmf : ∀ no : Option Nat, (∀ q, no = some q → q < ws.heap.size) → CA wm no (.iface 107 (.agg #[.string nMinf, .slice (some ⟨w12.heap.size, 0, none⟩) 1 1])) (minfT T first) := fun no hno => hpm.group nMinf hno
      rw [← hwm]
      obtain ⟨gm, hgm⟩ : ∃ g, g = w12.heap.size := ⟨_, rfl⟩
      rw [← hgm] at cmf hzm ⊢
      clear hwm hpm
      obtain ⟨wn, hwn⟩ : ∃ x, x = wm.alloc (.cells #[.iface 109 (.agg #[.string (⟨#[109, 100, 104, 100]⟩ : ByteArray), .slice ra9 L9.length rc9]), .iface 109 (.agg #[.string (⟨#[104, 100, 108, 114]⟩ : ByteArray), .slice rac Lc.length rcc]), .iface 107 (.agg #[.string (⟨#[109, 105, 110, 102]⟩ : ByteArray), .slice (some ⟨gm, 0, none⟩) 1 1])] 83) := ⟨_, rfl⟩
      have hbn : Below wm.heap.size wm wn := by rw [hwn]; exact below_box _ _
      have hzn : wn.heap.size = wm.heap.size + 1 := by rw [hwn]; simp [go_sem]
      have hpn : Parts wn ws.heap.size (.slice (some ⟨wm.heap.size, 0, none⟩) 3 3) 3 (fun i => if i = 0 then .leaf nMdhd (mdhdL T) else if i = 1 then .leaf nHdlr (hdlrL T) else minfT T first) := by
        rw [hwn]
        refine Parts.of_alloc [_, _, _] rfl (by omega) (fun i v hv => ?_)
        have hi : i < 3 := (List.getElem?_eq_some_iff.1 hv).1
        rcases (show i = 0 ∨ i = 1 ∨ i = 2 by omega) with rfl | rfl | rfl <;> (simp only [List.getElem?_cons_zero, List.getElem?_cons_succ, Option.some.injEq] at hv; subst hv)
        · exact fun no hno => (HC9.out no hno).bel hbm
        · exact fun no hno => (HCc.out no hno).bel hbm
        · exact cmf
      have cmd : ∀ no : Option Nat, (∀ q, no = some q → q < ws.heap.size) → CA wn no (.iface 107 (.agg #[.string nMdia, .slice (some ⟨wm.heap.size, 0, none⟩) 3 3])) (mdiaT T first) := fun no hno => hpn.group nMdia hno
      rw [← hwn]
      rw [← hzm]
      obtain ⟨gn, hgn⟩ : ∃ g, g = wm.heap.size := ⟨_, rfl⟩
      rw [← hgn] at cmd hzn ⊢
      clear hwn hpn
      obtain ⟨wo, hwo⟩ : ∃ x, x = wn.alloc (.cells #[.string (⟨#[109, 100, 105, 97]⟩ : ByteArray), .slice (some ⟨gn, 0, none⟩) 3 3] 107) := ⟨_, rfl⟩
      have hbo : Below wn.heap.size wn wo := by rw [hwo]; exact below_box _ _
      obtain ⟨go, hgo⟩ : ∃ g, g = wn.heap.size := ⟨_, rfl⟩
      have k0 : wo.cell? ⟨go, 0, none⟩ = some (.string (⟨#[109, 100, 105, 97]⟩ : ByteArray)) := by rw [hwo, hgo]; simp [go_sem]
      have k1 : wo.cell? ⟨go, 1, none⟩ = some (.slice (some ⟨gn, 0, none⟩) 3 3) := by rw [hwo, hgo]; simp [go_sem]
      rw [← hwo]
      rw [← hzn, ← hgo]
      have hb12o := (hbm.trans (hbn.mono hbm.size)).trans (hbo.mono (Nat.le_trans hbm.size hbn.size))
      have HCM := Lib.hid (show ∀ no : Option Nat, (∀ q, no = some q → q < ws.heap.size) → CA wo no _ _ from fun no hno => (cmd no hno).bel hbo)
      have HWo := Lib.hid (H11W.out.trans (hb12o.mono (by omega)))
      have HOCo := Lib.hid (HOCx.out.below HWo.out)
      have hso : ws.heap.size ≤ wo.heap.size := HWo.out.size
      clear hwo hgo hgn hgm hzm hzn hbm hbn hbo hb12o cmf cmd HC9 HCc HCS
      go_wp2_with (at_builtin; refine wpList_addC _ rfl (.tmp 72) (.tmp 75) rfl w1.heap.size _ _ (.iface 107 (.agg #[.string (⟨#[109, 100, 105, 97]⟩ : ByteArray), .slice (some ⟨gn, 0, none⟩) 3 3])) rfl (HOCo.out.own.below (below_box wo _)) wo.heap.size 1 rfl (by simp [go_sem]) rfl (by simp) (by simp; omega) ?_)
      intro v13 w13 hO13 hA13
      have hbx : Below wo.heap.size wo (wo.alloc (.cells #[.iface 107 (.agg #[.string (⟨#[109, 100, 105, 97]⟩ : ByteArray), .slice (some ⟨gn, 0, none⟩) 3 3])] 83)) := below_box _ _
      have h13 : Below w1.heap.size w1 w13 := ((HBW.out.trans (HWo.out.mono hsw)).trans (hbx.mono (by omega))).trans (hA13.up (HOCo.out.own.below hbx) (by simp; omega))
      have hrow := (HOCo.out.below hbx).add (W0 := ws.heap.size) (t := mdiaT T first) (fun g hg => HOCx.out.own.lt hg) hsw (fun no hno => (HCM.out no hno).bel hbx) hO13 hA13
      have hfin : ∀ no : Option Nat, (∀ q, no = some q → q < w.heap.size) → CA w13 no (.iface 107 (.agg #[.string nTrak, v13])) (trakT T k first) := fun no hno => by
        unfold trakT
        rw [if_pos hne]
        refine hrow.group nTrak rfl (by simp) (fun i hi => ?_) (fun q hq => by have := hno q hq; omega)
        have : i = 0 ∨ i = 1 ∨ i = 2 := by simp at hi; omega
        rcases this with rfl | rfl | rfl <;> rfl
      obtain ⟨aq, cq, rfl⟩ := hO13.shape
      have HF := Lib.hid hfin
      have HB13 := Lib.hid (HB1.out.trans (h13.mono (by omega)))
      clear hrow hfin hO13 hA13 h13 hbx
      go_wp2_with fail
      go_ret
      exact ⟨_, rfl, HF.out, HB13.out⟩
  · have hdec : decide ((0 : Int) < T.nE) = false := by simp; omega
    go_upto_region 8 with fail
    have HXx := HXp
    have HVx := HVp
    have HOCx := HOC
    refine Plan.wp_region_own (fun w' => Below wp.heap.size wp w') 6 (trG wp.heap.size T) (fun _ => []) ([1, 2].map (·, true)) [(0, 43), (3, 46)] ([4, 5].map (·, false)) 79 (by kernel_rfl) (by kernel_rfl) (by kernel_rfl) (by kernel_rfl) (Below.refl _ _).drew ?_
    refine' Plan.plan_seg _ [1, 2] [] (by kernel_rfl) (by kernel_rfl) rfl (by exact (Below.refl _ _).drew) (fun wx hS => ?_) ?_
    rotate_left
    · have y1 := (HXx.out.below hS).k1
      clear hS
      go_light
      iterate 2 (apply Plan.seg_pick; rfl; intro K hK; go_wp)
      exact Plan.seg_nil
    refine Plan.plan_nil ?_
    obtain ⟨wd, hwd⟩ : ∃ x, x = wp.drew := ⟨_, rfl⟩
    rw [← hwd]
    have hzd : wd.heap.size = wp.heap.size := by rw [hwd]; rfl
    have hwrd : wp.heap.size ≤ wd.heap.size := by omega
    clear hwd
    refine ⟨rfl, fun wa wb ha hb => ha.trans (hb.mono (by omega)), fun i R X v wa wb h ht hd _ _ => trG_touch h ht hd, ?_, ?_⟩
    · intro p hp o ho vs wx R hS hE hG K hK
      have hSz := hS.size
      simp only [List.mem_cons, List.not_mem_nil, or_false] at hp
      rcases hp with rfl | rfl
      all_goals obtain rfl := Option.some.inj ho
      · clear hG
        refine Plan.one_call rfl 53 Try.func53 (by kernel_rfl) (by kernel_rfl) #[.const (.slice none 0 0), .const (.int .i64 12)] #[22, 3] rfl #[.slice none 0 0, .int .i64 12] (by simp [Act.eval]) (fun r w' => Own w' wx.heap.size r ([] ++ zs 12) ∧ Adv wx w' (.slice none 0 0) r) (appz_any (.slice none 0 0) [] 12 wx.heap.size wx (own_nil _ _) (by decide) (by decide) (by decide) (Nat.le_refl _)) (fun r w' hR => ?_)
        exact hK _ _ (GO.new hR.1 (by omega)) (touch_below (hR.2.below rfl))
      · clear hG
        simp only [Plan.puts] at hK ⊢
        go_wp2
        exact hK _ _ (GI.new (IL.build wx [T.sc, 0] 2) (fun a n c e => by cases e; exact ⟨Nat.le_refl _, by simp [go_sem]⟩)) (touch_below (below_box _ _))
    · intro vs R wx hS hE hall hap
      have h0 : GO wp.heap.size ([] ++ zs 12) (R 0) (vs 0) wx := (hall (0, 43) (by decide) (by decide)).1
      have h3 : GI [T.sc, 0] (R 3) (vs 3) wx := (hall (3, 46) (by decide) (by decide)).1
      have hdis := hap (0, 43) (by decide) (3, 46) (by decide) (by decide) (by decide) (by decide)
      obtain ⟨qa, qc, he0⟩ := h0.1.shape
      obtain ⟨pa, pc, he3⟩ := h3.1.shape
      have hapt : Apart (vs 0) (vs 3) := fun a n c e h => by
        obtain ⟨a', n', c', e1, e2⟩ := own_block h
        exact hdis _ (h0.2 a' n' c' e1) (by rw [e2]; exact h3.2 a n c e)
      have HS := Lib.hid hS
      have hSz := hS.size
      have ho0 := h0.1
      have hi3 := h3.1
      rw [he0] at ho0 hapt
      rw [he3] at hi3 hapt
      have HO := Lib.hid ho0
      have HI := Lib.hid hi3
      have HAP := Lib.hid hapt
      simp only [Plan.puts, he0, he3]
      clear hall hap hE h0 h3 hdis he0 he3 hapt ho0 hi3 hS hwrd hzd
      refine Plan.plan_of_effect rfl (fun K hK => ?_)
      go_wp2_with fail
      refine (appn_any _ _ ([] ++ zs 12) [T.sc, 0] wp.heap.size wx HO.out HI.out HAP.out (by simp) (by simp [zs]) (by omega)).mono ?_
      rintro e wy ⟨r, rfl, hO, hA⟩
      have hyw : Below wp.heap.size wp wy := HS.out.trans (hA.up HO.out hSz)
      obtain ⟨Lh, hLh⟩ : ∃ Lq, Lq = ([] ++ zs 12 ++ numsL [T.sc, 0] : List Int) := ⟨_, rfl⟩
      replace hO : Own wy wp.heap.size r Lh := by rw [hLh]; exact hO
      have hlh : Lh.length = 20 := by rw [hLh, List.length_append, numsL_length]; simp [zs]
      obtain ⟨ra0, rc0, rfl⟩ := hO.shape
      have HH := Lib.hid hO
      have HYW := Lib.hid hyw
      have HLh := Lib.hid hLh
      have HLhn := Lib.hid hlh
      have hsy := hyw.size
      clear hO hA hLh hlh HO HI HAP HS hyw
      go_wp2_with fail
      refine ⟨HYW.out, ?_⟩
      refine Plan.plan_of_effect rfl (fun K hK => ?_)
      go_wp2_with fail
      refine ⟨HYW.out, ?_⟩
      refine Plan.plan_done ?_
      go_wp2_with (at_builtin; refine wpList_adv _ rfl (.tmp 48) (.tmp 49) rfl wp.heap.size _ _ Lh [85, 196, 0, 0] rfl (HH.out.below (below_box wy _)) rfl (own_lit wy [85, 196, 0, 0] (by decide)).bl (by rw [HLhn.out]; decide) (by simp; omega) ?_)
      intro v9 w9 hO9 hA9
      have h9w : Below wp.heap.size wp w9 := (HYW.out.trans ((below_box wy _).mono hsy)).trans (hA9.up (HH.out.below (below_box wy _)) (by simp; omega))
      obtain ⟨L9, hL9⟩ : ∃ Lq, Lq = Lh ++ [85, 196, 0, 0] := ⟨_, rfl⟩
      rw [← hL9] at hO9
      have he9 : L9 = mdhdL T := by rw [hL9, HLh.out]; rfl
      obtain ⟨ra9, rc9, rfl⟩ := hO9.shape
      have HO9 := Lib.hid hO9
      have HL9 := Lib.hid he9
      have H9W := Lib.hid h9w
      have hs9 := h9w.size
      clear hO9 hA9 h9w hL9 he9 HH HYW HLh HLhn hsy hSz
      go_upto_region 10 with fail
      refine Plan.wp_region_plan (fun w' => Below w9.heap.size w9 w') (([1, 2].map (·, true)) ++ (([0, 3, 4].map (·, false)) ++ ([5].map (·, true)))) (by kernel_rfl) (by kernel_rfl) (by kernel_rfl) (Below.refl _ _).drew ?_
      refine' Plan.plan_seg _ [1, 2] (([0, 3, 4].map (·, false)) ++ ([5].map (·, true))) (by kernel_rfl) (by kernel_rfl) rfl (by exact (Below.refl _ _).drew) (fun wx hS => ?_) ?_
      rotate_left
      · have y0 := (((HXx.out.below H9W.out)).below hS).k0
        clear hS
        go_light
        iterate 2 (apply Plan.seg_pick; rfl; intro K hK; go_wp)
        exact Plan.seg_nil
      obtain ⟨we, hwe⟩ : ∃ x, x = w9.drew := ⟨_, rfl⟩
      rw [← hwe]
      have HD := Lib.hid (show Below w9.heap.size w9 we by rw [hwe]; exact (Below.refl _ _).drew)
      have hsd := HD.out.size
      clear hwe
      refine Plan.plan_of_effect rfl (fun K hK => ?_)
      go_wp2_with fail
      refine (appz_any (.slice none 0 0) [] 8 w9.heap.size we (own_nil _ _) (by decide) (by decide) (by decide) hsd).mono ?_
      rintro e wf ⟨r, rfl, hO, hA⟩
      have hfw : Below w9.heap.size w9 wf := HD.out.trans ((hA.below rfl).mono hsd)
      obtain ⟨La, hLa⟩ : ∃ Lq, Lq = ([] ++ zs 8 : List Int) := ⟨_, rfl⟩
      replace hO : Own wf w9.heap.size r La := by rw [hLa]; exact hO
      have hla : La.length = 8 := by rw [hLa]; simp [zs]
      obtain ⟨raa, rca, rfl⟩ := hO.shape
      have HA := Lib.hid hO
      have HFW := Lib.hid hfw
      have HLa := Lib.hid hLa
      have HLan := Lib.hid hla
      have hsf := hfw.size
      clear hO hA hLa hla hfw HD hsd
      go_wp2_with fail
      refine ⟨HFW.out, ?_⟩
      refine Plan.plan_of_effect rfl (fun K hK => ?_)
      refine wpList_advS _ rfl (.tmp 51) (.tmp 53) rfl w9.heap.size _ La T.h rfl HA.out rfl (by rw [HLan.out]; omega) hsf ?_
      intro v10 w10 hO10 hA10
      have h10 : Below w9.heap.size w9 w10 := HFW.out.trans (hA10.up HA.out hsf)
      obtain ⟨Lb, hLb⟩ : ∃ Lq, Lq = La ++ strB T.h := ⟨_, rfl⟩
      rw [← hLb] at hO10
      have hlb : Lb.length = 8 + T.h.size := by rw [hLb, List.length_append, HLan.out, strB_length]
      obtain ⟨rab, rcb, rfl⟩ := hO10.shape
      have HBq := Lib.hid hO10
      have H10 := Lib.hid h10
      have HLb := Lib.hid hLb
      have HLbn := Lib.hid hlb
      have hs10 := h10.size
      clear hO10 hA10 hLb hlb h10 HA HFW hsf
      go_wp2_with fail
      refine ⟨H10.out, ?_⟩
      refine Plan.plan_of_effect rfl (fun K hK => ?_)
      go_wp2_with fail
      refine (appz_any _ Lb 13 w9.heap.size w10 HBq.out (by decide) (by decide) (by rw [HLbn.out]; omega) hs10).mono ?_
      rintro e w11 ⟨r, rfl, hO, hA⟩
      have h11 : Below w9.heap.size w9 w11 := H10.out.trans (hA.up HBq.out hs10)
      obtain ⟨Lc, hLc⟩ : ∃ Lq, Lq = Lb ++ zs 13 := ⟨_, rfl⟩
      replace hO : Own w11 w9.heap.size r Lc := by rw [hLc]; exact hO
      have hec : Lc = hdlrL T := by rw [hLc, HLb.out, HLa.out]; rfl
      obtain ⟨rac, rcc, rfl⟩ := hO.shape
      have HC := Lib.hid hO
      have H11 := Lib.hid h11
      have HLc := Lib.hid hec
      have hs11 := h11.size
      clear hO hA hLc hec h11 HBq H10 HLa HLan HLb HLbn hs10
      go_wp2_with fail
      refine ⟨H11.out, ?_⟩
      refine' Plan.plan_seg _ [5] [] (by kernel_rfl) (by kernel_rfl) rfl (by exact H11.out) (fun wx hS => ?_) ?_
      rotate_left
      · clear hS
        go_light
        iterate 1 (apply Plan.seg_pick; rfl; intro K hK; go_wp)
        exact Plan.seg_nil
      refine Plan.plan_done ?_
      have h11w := H9W.out.trans (H11.out.mono hs9)
      have CA9 : ∀ no : Option Nat, (∀ q, no = some q → q < wp.heap.size) → CA w11 no (.iface 109 (.agg #[.string nMdhd, .slice ra9 L9.length rc9])) (.leaf nMdhd (mdhdL T)) := by
        intro no hno
        have h := (HO9.out.below H11.out).ca nMdhd hno
        rw [HL9.out] at h ⊢
        exact h
      have CAc : ∀ no : Option Nat, (∀ q, no = some q → q < wp.heap.size) → CA w11 no (.iface 109 (.agg #[.string nHdlr, .slice rac Lc.length rcc])) (.leaf nHdlr (hdlrL T)) := by
        intro no hno
        have h := HC.out.ca nHdlr (no := no) (fun q hq => by have := hno q hq; omega)
        rw [HLc.out] at h ⊢
        exact h
      have HC9 := Lib.hid CA9
      have HCc := Lib.hid CAc
      have HXy := Lib.hid (HXx.out.below h11w)
      have HVy := Lib.hid (HVx.out.below h11w)
      have H11W := Lib.hid h11w
      have hs11w := h11w.size
      clear CA9 CAc h11w HO9 HL9 HC HLc H9W H11
      obtain ⟨z0, z1, z2, z3, z4⟩ := HXy.out
      go_wp2_with fail
      refine (tables_any _ T first w11 HVy.out hn hC hf0 hf1 hs).mono ?_
      rintro e w12 ⟨r, rfl, hP, hb12⟩
      have hP' := hP
      obtain ⟨g7, f7, rfl, _⟩ := hP'
      have CS : ∀ no : Option Nat, (∀ q, no = some q → q < wp.heap.size) → CA w12 no (.iface 107 (.agg #[.string nStbl, .slice (some ⟨g7, 0, none⟩) 7 7])) (.group nStbl 7 (stbl T first)) := fun no hno => hP.group nStbl (fun q hq => by have := hno q hq; omega)
      have HCS := Lib.hid CS
      have HB12 := Lib.hid hb12
      replace HC9 := Lib.hid (show ∀ no : Option Nat, (∀ q, no = some q → q < wp.heap.size) → CA w12 no _ _ from fun no hno => (HC9.out no hno).bel hb12)
      replace HCc := Lib.hid (show ∀ no : Option Nat, (∀ q, no = some q → q < wp.heap.size) → CA w12 no _ _ from fun no hno => (HCc.out no hno).bel hb12)
      replace H11W := Lib.hid (H11W.out.trans (hb12.mono hs11w))
      have hs12 := hb12.size
      clear CS hP hb12 z0 z1 z2 z3 z4 HVy HXy
      go_upto_region 12 with fail
      obtain ⟨wm, hwm⟩ : ∃ x, x = w12.alloc (.cells #[.iface 107 (.agg #[.string (⟨#[115, 116, 98, 108]⟩ : ByteArray), .slice (some ⟨g7, 0, none⟩) 7 7])] 83) := ⟨_, rfl⟩
      have hbm : Below w12.heap.size w12 wm := by rw [hwm]; exact below_box _ _
      have hzm : wm.heap.size = w12.heap.size + 1 := by rw [hwm]; simp [go_sem]
      have hpm : Parts wm wp.heap.size (.slice (some ⟨w12.heap.size, 0, none⟩) 1 1) 1 (fun _ => .group nStbl 7 (stbl T first)) := by
        rw [hwm]
        refine Parts.of_alloc [_] rfl (by omega) (fun i v hv => ?_)
        have hi : i < 1 := (List.getElem?_eq_some_iff.1 hv).1
        obtain rfl : i = 0 := by omega
        simp only [List.getElem?_cons_zero, Option.some.injEq] at hv
        subst hv
        exact HCS.out
      have cmf : ∀ no : Option Nat, (∀ q, no = some q → q < wp.heap.size) → CA wm no (.iface 107 (.agg #[.string nMinf, .slice (some ⟨w12.heap.size, 0, none⟩) 1 1])) (minfT T first) := fun no hno => hpm.group nMinf hno
      rw [← hwm]
      obtain ⟨gm, hgm⟩ : ∃ g, g = w12.heap.size := ⟨_, rfl⟩
      rw [← hgm] at cmf hzm ⊢
      clear hwm hpm
      obtain ⟨wn, hwn⟩ : ∃ x, x = wm.alloc (.cells #[.iface 109 (.agg #[.string (⟨#[109, 100, 104, 100]⟩ : ByteArray), .slice ra9 L9.length rc9]), .iface 109 (.agg #[.string (⟨#[104, 100, 108, 114]⟩ : ByteArray), .slice rac Lc.length rcc]), .iface 107 (.agg #[.string (⟨#[109, 105, 110, 102]⟩ : ByteArray), .slice (some ⟨gm, 0, none⟩) 1 1])] 83) := ⟨_, rfl⟩
      have hbn : Below wm.heap.size wm wn := by rw [hwn]; exact below_box _ _
      have hzn : wn.heap.size = wm.heap.size + 1 := by rw [hwn]; simp [go_sem]
      have hpn : Parts wn wp.heap.size (.slice (some ⟨wm.heap.size, 0, none⟩) 3 3) 3 (fun i => if i = 0 then .leaf nMdhd (mdhdL T) else if i = 1 then .leaf nHdlr (hdlrL T) else minfT T first) := by
        rw [hwn]
        refine Parts.of_alloc [_, _, _] rfl (by omega) (fun i v hv => ?_)
        have hi : i < 3 := (List.getElem?_eq_some_iff.1 hv).1
        rcases (show i = 0 ∨ i = 1 ∨ i = 2 by omega) with rfl | rfl | rfl <;> (simp only [List.getElem?_cons_zero, List.getElem?_cons_succ, Option.some.injEq] at hv; subst hv)
        · exact fun no hno => (HC9.out no hno).bel hbm
        · exact fun no hno => (HCc.out no hno).bel hbm
        · exact cmf
      have cmd : ∀ no : Option Nat, (∀ q, no = some q → q < wp.heap.size) → CA wn no (.iface 107 (.agg #[.string nMdia, .slice (some ⟨wm.heap.size, 0, none⟩) 3 3])) (mdiaT T first) := fun no hno => hpn.group nMdia hno
      rw [← hwn]
      rw [← hzm]
      obtain ⟨gn, hgn⟩ : ∃ g, g = wm.heap.size := ⟨_, rfl⟩
      rw [← hgn] at cmd hzn ⊢
      clear hwn hpn
      obtain ⟨wo, hwo⟩ : ∃ x, x = wn.alloc (.cells #[.string (⟨#[109, 100, 105, 97]⟩ : ByteArray), .slice (some ⟨gn, 0, none⟩) 3 3] 107) := ⟨_, rfl⟩
      have hbo : Below wn.heap.size wn wo := by rw [hwo]; exact below_box _ _
      obtain ⟨go, hgo⟩ : ∃ g, g = wn.heap.size := ⟨_, rfl⟩
      have k0 : wo.cell? ⟨go, 0, none⟩ = some (.string (⟨#[109, 100, 105, 97]⟩ : ByteArray)) := by rw [hwo, hgo]; simp [go_sem]
      have k1 : wo.cell? ⟨go, 1, none⟩ = some (.slice (some ⟨gn, 0, none⟩) 3 3) := by rw [hwo, hgo]; simp [go_sem]
      rw [← hwo]
      rw [← hzn, ← hgo]
      have hb12o := (hbm.trans (hbn.mono hbm.size)).trans (hbo.mono (Nat.le_trans hbm.size hbn.size))
      have HCM := Lib.hid (show ∀ no : Option Nat, (∀ q, no = some q → q < wp.heap.size) → CA wo no _ _ from fun no hno => (cmd no hno).bel hbo)
      have HWo := Lib.hid (H11W.out.trans (hb12o.mono (by omega)))
      have HOCo := Lib.hid (HOCx.out.below HWo.out)
      have hso : wp.heap.size ≤ wo.heap.size := HWo.out.size
      clear hwo hgo hgn hgm hzm hzn hbm hbn hbo hb12o cmf cmd HC9 HCc HCS
      go_wp2_with (at_builtin; refine wpList_addC _ rfl (.tmp 72) (.tmp 75) rfl w1.heap.size _ _ (.iface 107 (.agg #[.string (⟨#[109, 100, 105, 97]⟩ : ByteArray), .slice (some ⟨gn, 0, none⟩) 3 3])) rfl (HOCo.out.own.below (below_box wo _)) wo.heap.size 1 rfl (by simp [go_sem]) rfl (by simp) (by simp; omega) ?_)
      intro v13 w13 hO13 hA13
      have hbx : Below wo.heap.size wo (wo.alloc (.cells #[.iface 107 (.agg #[.string (⟨#[109, 100, 105, 97]⟩ : ByteArray), .slice (some ⟨gn, 0, none⟩) 3 3])] 83)) := below_box _ _
      have h13 : Below w1.heap.size w1 w13 := ((HBW.out.trans (HWo.out.mono hsw)).trans (hbx.mono (by omega))).trans (hA13.up (HOCo.out.own.below hbx) (by simp; omega))
      have hrow := (HOCo.out.below hbx).add (W0 := wp.heap.size) (t := mdiaT T first) (fun g hg => HOCx.out.own.lt hg) hsw (fun no hno => (HCM.out no hno).bel hbx) hO13 hA13
      have hfin : ∀ no : Option Nat, (∀ q, no = some q → q < w.heap.size) → CA w13 no (.iface 107 (.agg #[.string nTrak, v13])) (trakT T k first) := fun no hno => by
        unfold trakT
        rw [if_neg hne]
        refine hrow.group nTrak rfl (by simp) (fun i hi => ?_) (fun q hq => by have := hno q hq; omega)
        have : i = 0 ∨ i = 1 := by simp at hi; omega
        rcases this with rfl | rfl <;> rfl
      obtain ⟨aq, cq, rfl⟩ := hO13.shape
      have HF := Lib.hid hfin
      have HB13 := Lib.hid (HB1.out.trans (h13.mono (by omega)))
      clear hrow hfin hO13 hA13 h13 hbx
      go_wp2_with fail
      go_ret
      exact ⟨_, rfl, HF.out, HB13.out⟩
end Go.Proofs.Ytkhjkemllgjfmaa

/- The contract of the program's movie. -/
namespace Go.Proofs.Ytkhjkemllgjfmaa
open Go.RowKit
set_option linter.unusedVariables false
set_option linter.unusedSimpArgs false

def nMvhd : ByteArray := ⟨#[109, 118, 104, 100]⟩
def nMoov : ByteArray := ⟨#[109, 111, 111, 118]⟩
def mvhdL (F : Fl) : List Int := [] ++ zs 12 ++ numsL [F.sc, 0, 65536] ++ [1, 0] ++ zs 10 ++ matL ++ zs 24 ++ numsL [(F.nT : Int) + 1]
def offN (T : Nat → Tr) : Nat → Nat
  | 0 => 0
  | k + 1 => offN T k + sizeN (T k).S (T k).nS
def moovP (F : Fl) (first : Int) (i : Nat) : CT := if i = 0 then .leaf nMvhd (mvhdL F) else trakT (F.T (i - 1)) (i : Int) (first + (offN F.T (i - 1) : Nat))
def moovT (F : Fl) (first : Int) : CT := .group nMoov (F.nT + 1) (moovP F first)
/-- What a light file's tracks hold. -/
structure LT (T : Tr) : Prop where
  s : T.nS ≤ 40
  c : T.nC ≤ 5000
  e : T.nE ≤ 70
  h : T.h.size ≤ 20
  z : sizeN T.S T.nS ≤ 20000
theorem offN_le {T : Nat → Tr} {n : Nat} (h : ∀ i, i < n → LT (T i)) : ∀ k, k ≤ n → offN T k ≤ k * 20000
  | 0, _ => by simp [offN]
  | k + 1, hk => by
    have h1 := offN_le h k (by omega)
    have h2 := (h k (by omega)).z
    simp only [offN]
    omega
theorem RowC.congr {w : World} {B : Nat} {v : Value} {xs : List Value} {P Q : Nat → CT} (h : RowC w B v xs P) (e : ∀ i, i < xs.length → P i = Q i) : RowC w B v xs Q :=
  ⟨h.own, fun i x hi => by rw [← e i (List.getElem?_eq_some_iff.1 hi).1]; exact h.here i x hi, fun i x hi => by rw [← e i (List.getElem?_eq_some_iff.1 hi).1]; exact h.low i x hi⟩
theorem CA.iface {w : World} {no : Option Nat} {v : Value} {t : CT} (h : CA w no v t) : ∃ ty x, v = .iface ty x := by cases h <;> exact ⟨_, _, rfl⟩
theorem moovP_succ (F : Fl) (first : Int) (k : Nat) : moovP F first (k + 1) = trakT (F.T k) ((k : Int) + 1) (first + (offN F.T k : Nat)) := by
  unfold moovP
  rw [if_neg (by omega)]
  simp
def MoovPost (w : World) (F : Fl) (first : Int) (e : Ending) (w' : World) : Prop := ∃ r, e = .returned r ∧ (∀ no : Option Nat, (∀ q, no = some q → q < w.heap.size) → CA w' no r (moovT F first)) ∧ Below w.heap.size w w'
def mvG (B : Nat) (F : Fl) (i : Nat) (R : Nat → Prop) (v : Value) (w : World) : Prop :=
  match i with
  | 0 => GO B ([] ++ zs 12) R v w | 3 => GI [F.sc, 0, 65536] R v w | _ => True
theorem mvG_touch {B : Nat} {F : Fl} {i : Nat} {R X : Nat → Prop} {v : Value} {w w' : World} (h : mvG B F i R v w) (ht : Plan.Touch X w w') (hd : ∀ b, R b → ¬ X b ∧ b < w.heap.size) : mvG B F i R v w' := by
  unfold mvG at h ⊢
  split <;> first | exact GI.touch h ht hd | exact GO.touch h ht hd | trivial

set_option maxRecDepth 100000 in
set_option maxHeartbeats 4000000 in
theorem movie_any (v : Value) (F : Fl) (first : Int) (w : World) (hv : FA w v F) (hn : F.nT ≤ 6) (hL : ∀ i, i < F.nT → LT (F.T i)) (hf0 : 0 ≤ first) (hf1 : first ≤ 1000000) :
    Calls Try.prog 40 #[v, .int .i64 first] w (MoovPost w F first) := by
  obtain ⟨cT, rfl, hts⟩ := hv
  obtain ⟨aT, dT, rfl⟩ := hts.shape
  have HTS := Lib.hid hts
  have HLT := Lib.hid hL
  clear hts hL
  go_enter Try.func40, Try.ntmps40
  go_upto_region 1 with fail
  obtain ⟨w1, hw1⟩ : ∃ x, x = w.alloc (.cells #[.int .i64 F.sc, .slice aT F.nT dT] 56) := ⟨_, rfl⟩
  rw [← hw1]
  obtain ⟨gt, hgt⟩ : ∃ g, g = w.heap.size := ⟨_, rfl⟩
  have hE1 : Below w.heap.size w w1 := by rw [hw1]; exact below_box _ _
  have x0 : w1.cell? ⟨gt, 0, none⟩ = some (.int .i64 F.sc) := by rw [hw1, hgt]; simp [go_sem]
  have x1 : w1.cell? ⟨gt, 1, none⟩ = some (.slice aT F.nT dT) := by rw [hw1, hgt]; simp [go_sem]
  have hz1 : w.heap.size < w1.heap.size := by rw [hw1]; simp [go_sem]
  rw [← hgt]
  have hgtl : gt < w1.heap.size := block_lt_of_cell x0
  have HB1 := Lib.hid hE1
  have HX := Lib.hid (And.intro x0 x1)
  clear hw1 hE1 hgt x1
  refine Plan.wp_region_own (fun w' => Below w1.heap.size w1 w') 6 (mvG w1.heap.size F) (fun _ => []) ([1, 2].map (·, true)) [(0, 9), (3, 12)] ([4, 5].map (·, false)) 56 (by kernel_rfl) (by kernel_rfl) (by kernel_rfl) (by kernel_rfl) (Below.refl _ _).drew ?_
  refine' Plan.plan_seg _ [1, 2] [] (by kernel_rfl) (by kernel_rfl) rfl (by exact (Below.refl _ _).drew) (fun wx hS => ?_) ?_
  rotate_left
  · have y0 := (hS.cell (p := ⟨gt, 0, none⟩) hgtl).trans x0
    clear hS
    go_light
    iterate 2 (apply Plan.seg_pick; rfl; intro K hK; go_wp)
    exact Plan.seg_nil
  refine Plan.plan_nil ?_
  obtain ⟨wd, hwd⟩ : ∃ x, x = w1.drew := ⟨_, rfl⟩
  rw [← hwd]
  have hzd : wd.heap.size = w1.heap.size := by rw [hwd]; rfl
  have hwrd : w1.heap.size ≤ wd.heap.size := by omega
  clear hwd
  refine ⟨rfl, fun wa wb ha hb => ha.trans (hb.mono (by omega)), fun i R X v wa wb h ht hd _ _ => mvG_touch h ht hd, ?_, ?_⟩
  · intro p hp o ho vs wx R hS hE hG K hK
    have hSz := hS.size
    simp only [List.mem_cons, List.not_mem_nil, or_false] at hp
    rcases hp with rfl | rfl
    all_goals obtain rfl := Option.some.inj ho
    · clear hG
      refine Plan.one_call rfl 53 Try.func53 (by kernel_rfl) (by kernel_rfl) #[.const (.slice none 0 0), .const (.int .i64 12)] #[22, 3] rfl #[.slice none 0 0, .int .i64 12] (by simp [Act.eval]) (fun r w' => Own w' wx.heap.size r ([] ++ zs 12) ∧ Adv wx w' (.slice none 0 0) r) (appz_any (.slice none 0 0) [] 12 wx.heap.size wx (own_nil _ _) (by decide) (by decide) (by decide) (Nat.le_refl _)) (fun r w' hR => ?_)
      exact hK _ _ (GO.new hR.1 (by omega)) (touch_below (hR.2.below rfl))
    · clear hG
      simp only [Plan.puts] at hK ⊢
      go_wp2
      exact hK _ _ (GI.new (IL.build wx [F.sc, 0, 65536] 2) (fun a n c e => by cases e; exact ⟨Nat.le_refl _, by simp [go_sem]⟩)) (touch_below (below_box _ _))
  intro vs R wx hS hE hall hap
  have h0 : GO w1.heap.size ([] ++ zs 12) (R 0) (vs 0) wx := (hall (0, 9) (by decide) (by decide)).1
  have h3 : GI [F.sc, 0, 65536] (R 3) (vs 3) wx := (hall (3, 12) (by decide) (by decide)).1
  have hdis := hap (0, 9) (by decide) (3, 12) (by decide) (by decide) (by decide) (by decide)
  obtain ⟨qa, qc, he0⟩ := h0.1.shape
  obtain ⟨pa, pc, he3⟩ := h3.1.shape
  have hapt : Apart (vs 0) (vs 3) := fun a n c e h => by
    obtain ⟨a', n', c', e1, e2⟩ := own_block h
    exact hdis _ (h0.2 a' n' c' e1) (by rw [e2]; exact h3.2 a n c e)
  have HS := Lib.hid hS
  have hSz := hS.size
  have ho0 := h0.1
  have hi3 := h3.1
  rw [he0] at ho0 hapt
  rw [he3] at hi3 hapt
  have HO := Lib.hid ho0
  have HI := Lib.hid hi3
  have HAP := Lib.hid hapt
  simp only [Plan.puts, he0, he3]
  clear hall hap hE h0 h3 hdis he0 he3 hapt ho0 hi3 hS hwrd hzd x0
  refine Plan.plan_of_effect rfl (fun K hK => ?_)
  go_wp2_with fail
  refine (appn_any _ _ ([] ++ zs 12) [F.sc, 0, 65536] w1.heap.size wx HO.out HI.out HAP.out (by simp) (by simp [zs]) hSz).mono ?_
  rintro e w2 ⟨r, rfl, hO, hA⟩
  have hup : Below w1.heap.size w1 w2 := HS.out.trans (hA.up HO.out hSz)
  obtain ⟨L2, hL2⟩ : ∃ Lq, Lq = ([] ++ zs 12 ++ numsL [F.sc, 0, 65536] : List Int) := ⟨_, rfl⟩
  replace hO : Own w2 w1.heap.size r L2 := by rw [hL2]; exact hO
  have hn2 : L2.length = 24 := by rw [hL2, List.length_append, numsL_length]; simp [zs]
  obtain ⟨ra, rc, rfl⟩ := hO.shape
  have HBW := Lib.hid hup
  have HLn := Lib.hid hn2
  have HLe := Lib.hid hL2
  have hsw := hup.size
  replace HO := Lib.hid hO
  clear hO hA hup hL2 hn2 HI HAP HS
  go_wp2_with fail
  refine ⟨HBW.out, ?_⟩
  refine Plan.plan_of_effect rfl (fun K hK => ?_)
  go_wp2_with fail
  refine ⟨HBW.out, ?_⟩
  refine Plan.plan_done ?_
  go_wp2_with (at_builtin; refine wpList_adv _ rfl (.tmp 14) (.tmp 15) rfl w1.heap.size _ _ L2 [1, 0] rfl (HO.out.below (below_box w2 _)) rfl (own_lit w2 [1, 0] (by decide)).bl (by rw [HLn.out]; decide) (by simp; omega) ?_)
  intro r w3 hO hA
  have hup : Below w1.heap.size w1 w3 := (HBW.out.trans ((below_box w2 _).mono hsw)).trans (hA.up (HO.out.below (below_box w2 _)) (by first | exact hsw | (simp; done) | (simp; omega)))
  obtain ⟨L3, hL3⟩ : ∃ Lq, Lq = L2 ++ [1, 0] := ⟨_, rfl⟩
  replace hO : Own w3 w1.heap.size r L3 := by rw [hL3]; exact hO
  have hn2 : L3.length = 26 := by rw [hL3, List.length_append, HLn.out, show ([1, 0] : List Int).length = 2 from rfl]
  have he2 : L3 = [] ++ zs 12 ++ numsL [F.sc, 0, 65536] ++ [1, 0] := hL3.trans (by rw [HLe.out])
  obtain ⟨ra, rc, rfl⟩ := hO.shape
  replace HO := Lib.hid hO
  replace HBW := Lib.hid hup
  replace HLn := Lib.hid hn2
  replace HLe := Lib.hid he2
  replace hsw := hup.size
  clear hO hA hup hL3 hn2 he2
  go_wp2_with fail
  refine (appz_any _ L3 10 w1.heap.size _ HO.out (by decide) (by decide) (by rw [HLn.out]; decide) hsw).mono ?_
  rintro e w4 ⟨r, rfl, hO, hA⟩
  have hup : Below w1.heap.size w1 w4 := HBW.out.trans (hA.up HO.out (by first | exact hsw | (simp; done) | (simp; omega)))
  obtain ⟨L4, hL4⟩ : ∃ Lq, Lq = L3 ++ zs 10 := ⟨_, rfl⟩
  replace hO : Own w4 w1.heap.size r L4 := by rw [hL4]; exact hO
  have hn2 : L4.length = 36 := by rw [hL4, List.length_append, HLn.out, show (zs 10 : List Int).length = 10 from by simp [zs]]
  have he2 : L4 = [] ++ zs 12 ++ numsL [F.sc, 0, 65536] ++ [1, 0] ++ zs 10 := hL4.trans (by rw [HLe.out])
  obtain ⟨ra, rc, rfl⟩ := hO.shape
  replace HO := Lib.hid hO
  replace HBW := Lib.hid hup
  replace HLn := Lib.hid hn2
  replace HLe := Lib.hid he2
  replace hsw := hup.size
  clear hO hA hup hL4 hn2 he2
  go_wp2_with fail
  refine (appm_any _ L4 w1.heap.size _ HO.out (by rw [HLn.out]; decide) hsw).mono ?_
  rintro e w5 ⟨r, rfl, hO, hA⟩
  have hup : Below w1.heap.size w1 w5 := HBW.out.trans (hA.up HO.out (by first | exact hsw | (simp; done) | (simp; omega)))
  obtain ⟨L5, hL5⟩ : ∃ Lq, Lq = L4 ++ matL := ⟨_, rfl⟩
  replace hO : Own w5 w1.heap.size r L5 := by rw [hL5]; exact hO
  have hn2 : L5.length = 72 := by rw [hL5, List.length_append, HLn.out, show (matL : List Int).length = 36 from by rfl]
  have he2 : L5 = [] ++ zs 12 ++ numsL [F.sc, 0, 65536] ++ [1, 0] ++ zs 10 ++ matL := hL5.trans (by rw [HLe.out])
  obtain ⟨ra, rc, rfl⟩ := hO.shape
  replace HO := Lib.hid hO
  replace HBW := Lib.hid hup
  replace HLn := Lib.hid hn2
  replace HLe := Lib.hid he2
  replace hsw := hup.size
  clear hO hA hup hL5 hn2 he2
  go_wp2_with fail
  refine (appz_any _ L5 24 w1.heap.size _ HO.out (by decide) (by decide) (by rw [HLn.out]; decide) hsw).mono ?_
  rintro e w6 ⟨r, rfl, hO, hA⟩
  have hup : Below w1.heap.size w1 w6 := HBW.out.trans (hA.up HO.out (by first | exact hsw | (simp; done) | (simp; omega)))
  obtain ⟨L6, hL6⟩ : ∃ Lq, Lq = L5 ++ zs 24 := ⟨_, rfl⟩
  replace hO : Own w6 w1.heap.size r L6 := by rw [hL6]; exact hO
  have hn2 : L6.length = 96 := by rw [hL6, List.length_append, HLn.out, show (zs 24 : List Int).length = 24 from by simp [zs]]
  have he2 : L6 = [] ++ zs 12 ++ numsL [F.sc, 0, 65536] ++ [1, 0] ++ zs 10 ++ matL ++ zs 24 := hL6.trans (by rw [HLe.out])
  obtain ⟨ra, rc, rfl⟩ := hO.shape
  replace HO := Lib.hid hO
  replace HBW := Lib.hid hup
  replace HLn := Lib.hid hn2
  replace HLe := Lib.hid he2
  replace hsw := hup.size
  clear hO hA hup hL6 hn2 he2
  have x1 := (HBW.out.cell (p := ⟨gt, 1, none⟩) hgtl).trans HX.out.2
  go_wp2_with fail
  refine (appn_any _ _ L6 [(F.nT : Int) + 1] w1.heap.size _ (HO.out.below (below_box w6 _)) (IL.build w6 [(F.nT : Int) + 1] 2) (HO.out.apart_new (Nat.le_refl _)) (by simp) (by rw [HLn.out]; decide) (by simp; omega)).mono ?_
  rintro e w7 ⟨r, rfl, hO, hA⟩
  have hup : Below w1.heap.size w1 w7 := (HBW.out.trans ((below_box w6 _).mono hsw)).trans (hA.up (HO.out.below (below_box w6 _)) (by first | exact hsw | (simp; done) | (simp; omega)))
  obtain ⟨L7, hL7⟩ : ∃ Lq, Lq = L6 ++ numsL [(F.nT : Int) + 1] := ⟨_, rfl⟩
  replace hO : Own w7 w1.heap.size r L7 := by rw [hL7]; exact hO
  have hn2 : L7.length = 100 := by rw [hL7, List.length_append, HLn.out, show (numsL [(F.nT : Int) + 1] : List Int).length = 4 from by rw [numsL_length]; rfl]
  have he2 : L7 = [] ++ zs 12 ++ numsL [F.sc, 0, 65536] ++ [1, 0] ++ zs 10 ++ matL ++ zs 24 ++ numsL [(F.nT : Int) + 1] := hL7.trans (by rw [HLe.out])
  obtain ⟨ra, rc, rfl⟩ := hO.shape
  replace HO := Lib.hid hO
  replace HBW := Lib.hid hup
  replace HLn := Lib.hid hn2
  replace HLe := Lib.hid he2
  replace hsw := hup.size
  clear hO hA hup hL7 hn2 he2
  clear x1
  go_upto_region 6 with fail
  have HOT := HO
  have HLM := Lib.hid (show L7 = mvhdL F from HLe.out)
  clear HO HLe HLn
  obtain ⟨wp, hwp⟩ : ∃ x, x = w7.alloc (.cells #[.iface 109 (.agg #[.string nMvhd, .slice ra L7.length rc])] 83) := ⟨_, rfl⟩
  have hbp : Below w7.heap.size w7 wp := by rw [hwp]; exact below_box _ _
  obtain ⟨gq, hgq⟩ : ∃ g, g = w7.heap.size := ⟨_, rfl⟩
  have hoc : RowC wp w1.heap.size (.slice (some ⟨gq, 0, none⟩) 1 1) [.iface 109 (.agg #[.string nMvhd, .slice ra L7.length rc])] (moovP F first) := by
    rw [hwp, hgq]
    refine (RowC.one hsw (fun no hno => ?_)).congr (P := fun _ => .leaf nMvhd (mvhdL F)) (fun i hi => ?_)
    · have h := HOT.out.ca nMvhd hno
      rw [HLM.out] at h ⊢
      exact h
    · have : i = 0 := by simp at hi; exact hi
      subst this
      rfl
  have hwp' := hwp
  unfold nMvhd at hwp'
  rw [← hwp', ← hgq]
  replace hbp := HBW.out.trans (hbp.mono hsw)
  have HOC := Lib.hid hoc
  replace HBW := Lib.hid hbp
  replace hsw := hbp.size
  clear hwp hwp' hgq hbp hoc HOT HLM
  have x1 := (HBW.out.cell (p := ⟨gt, 1, none⟩) hgtl).trans HX.out.2
  go_wp2_with fail
  clear x1
  go_loopw [1, 6, 35] (fun f v6 i wr => ∃ k : Nat, k ≤ F.nT ∧ i = .int .i64 (k : Int) ∧ f = .int .i64 (first + (offN F.T k : Nat)) ∧ ∃ a6 c6 xs, v6 = .slice a6 (k + 1) c6 ∧ xs.length = k + 1 ∧ RowC wr w1.heap.size (.slice a6 (k + 1) c6) xs (moovP F first) ∧ Below w1.heap.size w1 wr) (fun _ _ i _ => F.nT - (intOf i).toNat)
  case atStart => exact ⟨0, Nat.zero_le _, rfl, by simp [offN], _, _, _, rfl, rfl, HOC.out, HBW.out⟩
  case round =>
    obtain ⟨k, hk, rfl, rfl, a6, c6, xs, rfl, hxl, hR, hbw⟩ := hrel
    have HR := Lib.hid hR
    have HW := Lib.hid hbw
    have HXL := Lib.hid hxl
    have hsr := hbw.size
    clear hR hbw hxl HOC HBW hsw
    have hww := HB1.out.trans (HW.out.mono (by omega))
    have HWW := Lib.hid hww
    have hswr := hww.size
    by_cases hlt : k < F.nT
    · obtain ⟨ao, c', e, hcc, H⟩ := HTS.out
      simp only [Value.slice.injEq, true_and] at e
      obtain ⟨rfl, rfl⟩ := e
      obtain ⟨b', o', c0, c1, c2, c3, c4, rfl, h0, h1, h2, h3, h4, hTC⟩ := H k hlt
      have HTA := Lib.hid (show TA w (.agg #[c0, c1, c2, c3, c4]) (F.T k) from ⟨c0, c1, c2, c3, c4, rfl, hTC⟩)
      obtain ⟨rfl, rfl, b2, b3, b4⟩ := hTC
      obtain ⟨p2, q2, rfl⟩ := b2.shape
      obtain ⟨p3, q3, rfl⟩ := b3.shape
      obtain ⟨p4, q4, rfl⟩ := b4.shape
      replace h0 := (hww.cell (block_lt_of_cell h0)).trans h0
      replace h1 := (hww.cell (block_lt_of_cell h1)).trans h1
      replace h2 := (hww.cell (block_lt_of_cell h2)).trans h2
      replace h3 := (hww.cell (block_lt_of_cell h3)).trans h3
      replace h4 := (hww.cell (block_lt_of_cell h4)).trans h4
      have hl := HLT.out k hlt
      have hoff := offN_le HLT.out k (by omega)
      obtain ⟨Tk, hTk⟩ : ∃ T, T = F.T k := ⟨_, rfl⟩
      rw [← hTk] at h0 h1 h2 h3 h4 HTA hl
      obtain ⟨G, hG⟩ : ∃ G, G = offN F.T k := ⟨_, rfl⟩
      rw [← hG] at hoff ⊢
      have HTk := Lib.hid hTk
      have HGq := Lib.hid hG
      have hzz := hl.z
      have hl1 := hl.s
      have hl2 := hl.c
      have hl3 := hl.e
      have hl4 := hl.h
      clear H b2 b3 b4 hTk hG hl hww
      go_upto_region 9 with fail
      obtain ⟨ws, hws⟩ : ∃ x, x = wr.alloc (.cells #[.string Tk.h, .int .i64 Tk.sc, .slice p2 Tk.nC q2, .slice p3 Tk.nS q3, .slice p4 Tk.nE q4] 43) := ⟨_, rfl⟩
      rw [← hws]
      obtain ⟨gs, hgs⟩ : ∃ g, g = wr.heap.size := ⟨_, rfl⟩
      have hbs : Below wr.heap.size wr ws := by rw [hws]; exact below_box _ _
      have hcx : C5 ws gs (.string Tk.h) (.int .i64 Tk.sc) (.slice p2 Tk.nC q2) (.slice p3 Tk.nS q3) (.slice p4 Tk.nE q4) := by rw [hws, hgs]; constructor <;> simp [go_sem]
      rw [← hgs]
      have hrow_lt : ∀ g, (Value.slice a6 (k + 1) c6).ownBlock = some g → g < gs := fun g hg => by rw [hgs]; exact HR.out.own.lt hg
      have HRL := Lib.hid hrow_lt
      have hss := hbs.size
      have HCX := Lib.hid hcx
      have HBS := Lib.hid hbs
      have hgss : gs < ws.heap.size := hcx.lt
      clear hws hgs hbs hcx hrow_lt h0 h1 h2 h3 h4
      obtain ⟨y0, y1, y2, y3, y4⟩ := HCX.out
      go_wp2_with fail
      refine (wtrack_any _ Tk ((k : Int) + 1) (first + (G : Nat)) ws ((HTA.out.below HWW.out).below HBS.out) (by omega) (by omega) (by omega) (by omega) (by omega) (by omega) (by omega)).mono ?_
      rintro e wt ⟨r, rfl, hca, hbt⟩
      obtain ⟨ty, rx, rfl⟩ := (hca none (by simp)).iface
      have HCA := Lib.hid hca
      have HBT := Lib.hid (HBS.out.trans (hbt.mono hss))
      have hst := HBT.out.size
      have hst2 := hbt.size
      replace HCX := Lib.hid (HCX.out.below hbt)
      clear hca hbt y0 y1 y2 y3 y4
      go_wp2_with (at_builtin; refine wpList_addC _ rfl (.tmp 40) (.tmp 46) rfl w1.heap.size _ xs (.iface ty rx) rfl ((HR.out.below HBT.out).own.below (below_box wt _)) wt.heap.size 1 rfl (by simp [go_sem]) rfl (by rw [HXL.out]; omega) (by simp; omega) ?_)
      intro v6' wu hO hA
      have hbx : Below wt.heap.size wt (wt.alloc (.cells #[.iface ty rx] 83)) := below_box _ _
      have hzx : (wt.alloc (.cells #[.iface ty rx] 83)).heap.size = wt.heap.size + 1 := by simp [go_sem]
      have hrow := ((HR.out.below HBT.out).below hbx).add (W0 := ws.heap.size) (t := trakT Tk ((k : Int) + 1) (first + (G : Nat))) (fun g hg => Nat.lt_trans (HRL.out g hg) hgss) (by omega) (fun no hno => (HCA.out no hno).bel hbx) hO hA
      have hrow2 : RowC wu w1.heap.size v6' (xs ++ [.iface ty rx]) (moovP F first) := hrow.congr (fun i hi => by
        by_cases e : i = xs.length
        · rw [if_pos e, e, HXL.out, moovP_succ, HTk.out, HGq.out]
        · rw [if_neg e])
      have hbu : Below w1.heap.size w1 wu := (HW.out.trans (HBT.out.mono hsr)).trans ((hbx.mono (by omega)).trans (hA.up ((HR.out.below HBT.out).own.below hbx) (by omega)))
      have hxu : C5 wu gs (.string Tk.h) (.int .i64 Tk.sc) (.slice p2 Tk.nC q2) (.slice p3 Tk.nS q3) (.slice p4 Tk.nE q4) := by
        have h1 := HCX.out.below hbx
        have hb : wu.heap[gs]? = (wt.alloc (.cells #[.iface ty rx] 83)).heap[gs]? := hA.g.block gs h1.lt (fun e => by have := HRL.out gs e.symm; omega)
        exact ⟨(World.cell?_of_block (a := ⟨gs, 0, none⟩) hb).trans h1.k0, (World.cell?_of_block (a := ⟨gs, 1, none⟩) hb).trans h1.k1, (World.cell?_of_block (a := ⟨gs, 2, none⟩) hb).trans h1.k2, (World.cell?_of_block (a := ⟨gs, 3, none⟩) hb).trans h1.k3, (World.cell?_of_block (a := ⟨gs, 4, none⟩) hb).trans h1.k4⟩
      have hln : (xs ++ [Value.iface ty rx]).length = k + 1 + 1 := by rw [List.length_append, HXL.out]; rfl
      obtain ⟨a6', c6', hv⟩ := hO.shape
      rw [hln] at hv
      subst hv
      have HRow := Lib.hid hrow2
      have HBU := Lib.hid hbu
      have HLN := Lib.hid hln
      have HTU := Lib.hid (HTA.out.below (HB1.out.trans (hbu.mono (by omega))))
      have hsu := hbu.size
      clear hrow hrow2 hbx hzx hbu hln hO hA HCX HBT HR HCA
      obtain ⟨y0, y1, y2, y3, y4⟩ := hxu
      go_wp2_with fail
      refine (size_any _ Tk wu HTU.out (by omega) (by omega)).mono ?_
      rintro e wv ⟨rfl, hbv⟩
      have HRv := Lib.hid (HRow.out.below hbv)
      have HBv := Lib.hid (HBU.out.trans (hbv.mono hsu))
      obtain ⟨Z, hZ⟩ : ∃ Z, Z = sizeN Tk.S Tk.nS := ⟨_, rfl⟩
      rw [← hZ] at hzz ⊢
      have HZ := Lib.hid hZ
      clear hbv hZ y0 y1 y2 y3 y4 HRow HBU
      go_wp2_with fail
      refine ⟨⟨k + 1, by omega, by go_num, ?_, a6', c6', _, by go_num, HLN.out, HRv.out, HBv.out⟩, ?_⟩
      · have e1 : offN F.T (k + 1) = G + Z := by rw [HZ.out, HGq.out, HTk.out]; rfl
        rw [e1]
        go_num
      · simp [intOf]
        omega
    · obtain rfl : k = F.nT := by omega
      have hfin : ∀ no : Option Nat, (∀ q, no = some q → q < w.heap.size) → CA wr no (.iface 107 (.agg #[.string nMoov, .slice a6 (F.nT + 1) c6])) (moovT F first) := fun no hno => HR.out.group nMoov HXL.out (by omega) (fun i _ => rfl) (fun q hq => by have := hno q hq; omega)
      have HF := Lib.hid hfin
      clear hfin hww
      go_wp2_with fail
      go_ret
      exact ⟨_, rfl, HF.out, HWW.out⟩
end Go.Proofs.Ytkhjkemllgjfmaa

/- How long a light file's boxes are. -/
namespace Go.Proofs.Ytkhjkemllgjfmaa
open Go.RowKit
set_option linter.unusedVariables false
set_option linter.unusedSimpArgs false

theorem zs_length (n : Nat) : (zs n).length = n := by simp [zs]
theorem matL_length : matL.length = 36 := rfl
theorem chunkL_length : chunkL.length = 20 := rfl
theorem runsL_le (f : Nat → Int) (n : Nat) : (runsL f n).length ≤ 8 + 8 * n := by
  unfold runsL
  rw [List.length_append, numsL_length, numsL_length]
  have h1 := rl_length f n
  have h2 : ((rl f n).flatMap fun p => [p.1, p.2]).length = 2 * (rl f n).length := pairs2_length (rl f n)
  rw [h2]
  simp only [List.length_cons, List.length_nil]
  omega
theorem stsdL_len {T : Tr} (h : LT T) : (stsdL T).length ≤ 5100 := by
  have hc := h.c
  unfold stsdL
  simp only [bytesT]
  rw [List.length_append, numsL_length, boxP_length]
  have : (descL T).length = 8 + T.nC := by unfold descL; rw [List.length_append, List.length_append, cfL_length]; simp
  rw [this]
  have : nCrsd.size = 4 := rfl
  simp only [List.length_cons, List.length_nil]
  omega
theorem stbl_len {T : Tr} (h : LT T) (first : Int) : (catN (fun i => bytesT (stbl T first i)) 7).length ≤ 7000 := by
  have h0 := stsdL_len h
  have h1 := runsL_le (fun i => (T.S i).dur) T.nS
  have h2 := runsL_le (fun i => (T.S i).shift) T.nS
  have h3 := syncL_length T.S T.nS
  have h4 := sizeL_length T.S T.nS
  have h5 := placeL_length T.S first T.nS
  have hs := h.s
  simp only [catN, List.nil_append, List.length_append, stbl]
  simp only [if_true, if_false, show ¬ (1 : Nat) = 0 by decide, show ¬ (2 : Nat) = 0 by decide, show ¬ (2 : Nat) = 1 by decide, show ¬ (3 : Nat) = 0 by decide, show ¬ (3 : Nat) = 1 by decide, show ¬ (3 : Nat) = 2 by decide, show ¬ (4 : Nat) = 0 by decide, show ¬ (4 : Nat) = 1 by decide, show ¬ (4 : Nat) = 2 by decide, show ¬ (4 : Nat) = 3 by decide, show ¬ (5 : Nat) = 0 by decide, show ¬ (5 : Nat) = 1 by decide, show ¬ (5 : Nat) = 2 by decide, show ¬ (5 : Nat) = 3 by decide, show ¬ (5 : Nat) = 4 by decide, show ¬ (6 : Nat) = 0 by decide, show ¬ (6 : Nat) = 1 by decide, show ¬ (6 : Nat) = 2 by decide, show ¬ (6 : Nat) = 3 by decide, show ¬ (6 : Nat) = 4 by decide, show ¬ (6 : Nat) = 5 by decide]
  simp only [bytesT, boxP_length]
  simp only [stssL, stszL, stcoL, List.length_append, numsL_length, List.length_cons, List.length_nil, chunkL_length]
  simp only [show nStsd.size = 4 from rfl, show nStts.size = 4 from rfl, show nCtts.size = 4 from rfl, show nStss.size = 4 from rfl, show nStsz.size = 4 from rfl, show nStsc.size = 4 from rfl, show nStco.size = 4 from rfl]
  omega
theorem mdia_len {T : Tr} (h : LT T) (first : Int) : (bytesT (mdiaT T first)).length ≤ 7300 := by
  have h0 := stbl_len h first
  have hh := h.h
  simp only [mdiaT, minfT, bytesT, boxP_length, catN, List.nil_append, List.length_append, if_true, if_false, show ¬ (1 : Nat) = 0 by decide, show ¬ (2 : Nat) = 0 by decide, show ¬ (2 : Nat) = 1 by decide]
  simp only [mdhdL, hdlrL, List.length_append, List.length_nil, zs_length, numsL_length, strB_length, List.length_cons]
  simp only [show nMdhd.size = 4 from rfl, show nHdlr.size = 4 from rfl, show nMinf.size = 4 from rfl, show nStbl.size = 4 from rfl, show nMdia.size = 4 from rfl]
  simp only [catN, List.nil_append, List.length_append] at h0
  omega
theorem trak_len {T : Tr} (h : LT T) (k first : Int) : (bytesT (trakT T k first)).length ≤ 9000 := by
  have h0 := mdia_len h first
  have he := h.e
  have hd := edL_length T.E T.nE
  unfold trakT
  split
  · simp only [bytesT, boxP_length, catN, List.nil_append, List.length_append, if_true, if_false, show ¬ (1 : Nat) = 0 by decide, show ¬ (2 : Nat) = 0 by decide, show ¬ (2 : Nat) = 1 by decide]
    simp only [edtsT, bytesT, boxP_length, catN, List.nil_append, List.length_append, numsL_length, hd, List.length_cons, List.length_nil]
    simp only [tkhdL, List.length_append, List.length_cons, List.length_nil, zs_length, numsL_length, matL_length]
    simp only [show nTkhd.size = 4 from rfl, show nEdts.size = 4 from rfl, show nElst.size = 4 from rfl, show nTrak.size = 4 from rfl]
    omega
  · simp only [bytesT, boxP_length, catN, List.nil_append, List.length_append, if_true, if_false, show ¬ (1 : Nat) = 0 by decide]
    simp only [tkhdL, List.length_append, List.length_cons, List.length_nil, zs_length, numsL_length, matL_length]
    simp only [show nTkhd.size = 4 from rfl, show nTrak.size = 4 from rfl]
    omega
theorem catN_bd {f : Nat → List Int} {m : Nat} : ∀ n, (∀ i, i < n → (f i).length ≤ m) → (catN f n).length ≤ n * m
  | 0, _ => by simp [catN]
  | n + 1, h => by
    have h1 := catN_bd n (fun i hi => h i (by omega))
    have h2 := h n (by omega)
    simp only [catN, List.length_append]
    rw [Nat.succ_mul]
    omega
theorem moov_len {F : Fl} (hn : F.nT ≤ 6) (h : ∀ i, i < F.nT → LT (F.T i)) (first : Int) : (bytesT (moovT F first)).length ≤ 70000 := by
  have h1 := catN_bd (f := fun i => bytesT (moovP F first i)) (m := 9000) (F.nT + 1) (fun i hi => by
    by_cases h0 : i = 0
    · subst h0
      simp only [moovP, if_true, bytesT, boxP_length, mvhdL, List.length_append, List.length_nil, List.length_cons, zs_length, numsL_length, matL_length, show nMvhd.size = 4 from rfl]
      omega
    · simp only [moovP, h0, if_false]
      exact trak_len (h (i - 1) (by omega)) _ _)
  have h2 : (F.nT + 1) * 9000 ≤ 63000 := by omega
  simp only [moovT, bytesT, boxP_length]
  have : nMoov.size = 4 := rfl
  omega
theorem small_leaf (nm : ByteArray) (d : List Int) : small (.leaf nm d) := trivial
theorem stbl_small (T : Tr) (first : Int) (i : Nat) : small (stbl T first i) := by
  unfold stbl
  repeat' split
  all_goals trivial
theorem trak_small (T : Tr) (k first : Int) : small (trakT T k first) := by
  have hm : small (mdiaT T first) := ⟨by decide, fun i _ => by
    dsimp only
    split
    · trivial
    · split
      · trivial
      · exact ⟨by decide, fun j _ => ⟨by decide, fun q _ => stbl_small T first q⟩⟩⟩
  unfold trakT
  split
  · refine ⟨by decide, fun i _ => ?_⟩
    dsimp only
    split
    · trivial
    · split
      · exact ⟨by decide, fun _ _ => trivial⟩
      · exact hm
  · refine ⟨by decide, fun i _ => ?_⟩
    dsimp only
    split
    · trivial
    · exact hm
theorem moov_small {F : Fl} (hn : F.nT ≤ 6) (first : Int) : small (moovT F first) := ⟨by omega, fun i _ => by
  unfold moovP
  split
  · trivial
  · exact trak_small _ _ _⟩
end Go.Proofs.Ytkhjkemllgjfmaa

/- The contract of the program's Put at a light valid file. -/
namespace Go.Proofs.Ytkhjkemllgjfmaa
open Go.RowKit
set_option linter.unusedVariables false
set_option linter.unusedSimpArgs false

def nFtyp : ByteArray := ⟨#[102, 116, 121, 112]⟩
def nMdat : ByteArray := ⟨#[109, 100, 97, 116]⟩
def ftypB : List Int := bytesT (.leaf nFtyp ftypL)
theorem ftypB_length : ftypB.length = 20 := by
  unfold ftypB
  simp only [bytesT, boxP_length, ftypL_length]
  rfl
def firstOf (F : Fl) : Int := ((ftypB ++ bytesT (moovT F 0)).length : Int) + 8
def putL (F : Fl) : List Int := ftypB ++ bytesT (moovT F (firstOf F)) ++ boxP nMdat (dataL F.T F.nT)
theorem idle37 (p q : Addr) (w : World) : CallsD Try.prog 37 #[.pointer (some p), .pointer (some q)] .returning w fun e u' w' => e = .returned (.tuple #[]) ∧ u' = .returning ∧ w' = w := by
  refine callsD_of_wpS Try.func37 rfl fun c₀ cs hu => ?_
  apply wpS_seq
  apply wpS_region
  simp [wpOpsS, go_sem, recoverD, hu, Try.ntmps37, Exit.thenS]
  refine wpS_cond (t := false) (by simp [Act.eval, Array.replicate]) ?_
  simp only [Bool.false_eq_true, if_false]
  refine wpS_of_wp (wp_skip ?_)
  cases c₀
  simp_all [bodyPostS, results, Try.results37]
theorem dataL_length (T : Nat → Tr) (n : Nat) : (dataL T n).length = offN T n := by
  unfold dataL
  induction n with
  | zero => rfl
  | succ n ih =>
    simp only [catN, offN, List.length_append, ih]
    rw [show (trL (T n)).length = sizeN (T n).S (T n).nS from catN_sm (T n).S (T n).nS]
theorem owns_setc {w : World} {B : Nat} {v : Value} {L : List Int} (h : Own w B v L) {p : Addr} (hp : p.block < B) (u : Value) : Own (w.setCell p u) B v L := owns_far h hp u

set_option maxRecDepth 100000 in
set_option maxHeartbeats 4000000 in
theorem put_any (v : Value) (F : Fl) (w : World) (hv : FA w v F) (hok : okFl F = true) (hn : F.nT ≤ 6) (hL : ∀ i, i < F.nT → LT (F.T i)) :
    Calls Try.prog 21 #[v] w fun e w' => ∃ r, e = .returned (.tuple #[r, .int .i64 0]) ∧ BL w' r (putL F) ∧ Below w.heap.size w w' := by
  have HV := Lib.hid hv
  obtain ⟨cT, rfl, hts⟩ := hv
  obtain ⟨aT, dT, rfl⟩ := hts.shape
  have HTS := Lib.hid hts
  have HLT := Lib.hid hL
  have HOK := Lib.hid hok
  clear hts hL hok
  go_enter_defers Try.func21, Try.ntmps21
  go_upto_region 2 with fail
  obtain ⟨w1, hw1⟩ : ∃ x, x = ((w.alloc (.cells #[.int .i64 F.sc, .slice aT F.nT dT] 56)).alloc (.cells #[.slice none 0 0] 22)).alloc (.cells #[.int .i64 0] 24) := ⟨_, rfl⟩
  rw [← hw1]
  obtain ⟨g1, hg1⟩ : ∃ g, g = w.heap.size := ⟨_, rfl⟩
  have hE1 : Below w.heap.size w w1 := by rw [hw1]; go_grown
  have hz1 : w1.heap.size = w.heap.size + 3 := by rw [hw1]; simp [go_sem]
  have x0 : w1.cell? ⟨g1, 0, none⟩ = some (.int .i64 F.sc) := by rw [hw1, hg1]; simp [go_sem]
  have x1 : w1.cell? ⟨g1, 1, none⟩ = some (.slice aT F.nT dT) := by rw [hw1, hg1]; simp [go_sem]
  have hb1 : C1 w1 (g1 + 1) (.slice none 0 0) := by rw [hw1, hg1]; constructor <;> simp [go_sem]
  have he1 : C1 w1 (g1 + 1 + 1) (.int .i64 0) := by rw [hw1, hg1]; constructor <;> simp [go_sem]
  rw [← hg1]
  obtain ⟨g2, hg2⟩ : ∃ g, g = g1 + 1 := ⟨_, rfl⟩
  rw [← hg2] at hb1 he1 ⊢
  obtain ⟨g3, hg3⟩ : ∃ g, g = g2 + 1 := ⟨_, rfl⟩
  rw [← hg3] at he1 ⊢
  have l1 : g1 < w1.heap.size := by omega
  have l2 : g2 < w1.heap.size := by omega
  have l3 : g3 < w1.heap.size := by omega
  have n12 : g1 ≠ g2 := by omega
  have n13 : g1 ≠ g3 := by omega
  have n23 : g2 ≠ g3 := by omega
  have m1 : w.heap.size ≤ g1 := by omega
  have m2 : w.heap.size ≤ g2 := by omega
  have m3 : w.heap.size ≤ g3 := by omega
  have hw0 : w.heap.size ≤ w1.heap.size := by omega
  have HB1 := Lib.hid hE1
  have HX := Lib.hid (And.intro x0 x1)
  have Hb := Lib.hid hb1
  have He := Lib.hid he1
  clear hw1 hE1 hg1 hg2 hg3 hz1 hb1 he1
  go_wp2_with fail
  refine (validF_any _ F w1 (HV.out.below HB1.out) (by omega)).mono ?_
  rintro e w2 ⟨rfl, hb2⟩
  rw [HOK.out]
  have HB2 := Lib.hid hb2
  have s2 := hb2.size
  clear hb2 x0 x1
  go_wp2_with fail
  refine (ftype_any w2).mono ?_
  rintro e w3 ⟨r, rfl, hO, hb3⟩
  obtain ⟨Lf, hLf⟩ : ∃ Lq, Lq = ftypL := ⟨_, rfl⟩
  rw [← hLf] at hO
  obtain ⟨ra, rc, rfl⟩ := hO.shape
  have s3 := hb3.size
  have HB3 := Lib.hid (HB2.out.trans (hb3.mono s2))
  have hcf : CA w3 (Value.slice none 0 0).ownBlock (.iface 109 (.agg #[.string nFtyp, .slice ra Lf.length rc])) (.leaf nFtyp ftypL) := by
    have h := hO.ca nFtyp (no := none) (by simp)
    rw [hLf] at h ⊢
    exact h
  have HCF := Lib.hid hcf
  clear hO hb3 hLf hcf
  go_wp2_with fail
  refine (appb_any (.leaf nFtyp ftypL) trivial (.slice none 0 0) _ [] w1.heap.size w3 (own_nil _ _) HCF.out (by have := ftypB_length; unfold ftypB at this; simp [this]) (by omega)).mono ?_
  rintro e w4 ⟨r, rfl, hO, hA⟩
  have hb4 : Below w1.heap.size w1 w4 := HB3.out.trans ((hA.below rfl).mono (by omega))
  obtain ⟨L1, hL1⟩ : ∃ Lq, Lq = ftypB := ⟨_, rfl⟩
  replace hO : Own w4 w1.heap.size r L1 := by rw [hL1]; exact hO
  have hn1 : L1.length = 20 := by rw [hL1, ftypB_length]
  obtain ⟨rb, qb, rfl⟩ := hO.shape
  have HO := Lib.hid hO
  have HB4 := Lib.hid hb4
  have HL1 := Lib.hid hL1
  have HN1 := Lib.hid hn1
  have s4 := hb4.size
  have hbc := (hb4.cell (p := ⟨g2, 0, none⟩) l2).trans Hb.out.k0
  have hbf := (hb4.frozen (p := ⟨g2, 0, none⟩) l2).trans Hb.out.fz
  clear hO hA hb4 hL1 hn1 HB3 HCF
  go_upto_region 5 with fail
  have HO5 := Lib.hid (owns_setc HO.out (p := ⟨g2, 0, none⟩) l2 (.slice rb L1.length qb))
  have HX5 := Lib.hid (show (w4.setCell ⟨g2, 0, none⟩ (.slice rb L1.length qb)).cell? ⟨g1, 0, none⟩ = some (.int .i64 F.sc) ∧ (w4.setCell ⟨g2, 0, none⟩ (.slice rb L1.length qb)).cell? ⟨g1, 1, none⟩ = some (.slice aT F.nT dT) from ⟨by rw [World.cell?_setCell_far _ _ _ _ (by simpa using Ne.symm n12)]; exact (HB4.out.cell (p := ⟨g1, 0, none⟩) l1).trans HX.out.1, by rw [World.cell?_setCell_far _ _ _ _ (by simpa using Ne.symm n12)]; exact (HB4.out.cell (p := ⟨g1, 1, none⟩) l1).trans HX.out.2⟩)
  have Hb5 := Lib.hid (show C1 (w4.setCell ⟨g2, 0, none⟩ (.slice rb L1.length qb)) g2 (.slice rb L1.length qb) from ⟨by simp [go_sem, hbc], by rw [World.frozen?_setCell]; exact hbf⟩)
  have He5 := Lib.hid (show C1 (w4.setCell ⟨g2, 0, none⟩ (.slice rb L1.length qb)) g3 (.int .i64 0) from ⟨by rw [World.cell?_setCell_far _ _ _ _ (by simpa using n23)]; exact (HB4.out.cell (p := ⟨g3, 0, none⟩) l3).trans He.out.k0, by rw [World.frozen?_setCell]; exact (HB4.out.frozen (p := ⟨g3, 0, none⟩) l3).trans He.out.fz⟩)
  have hbw5 : Below w.heap.size w (w4.setCell ⟨g2, 0, none⟩ (.slice rb L1.length qb)) := (HB1.out.trans (HB4.out.mono hw0)).setCell m2 _
  have hz5 : (w4.setCell ⟨g2, 0, none⟩ (.slice rb L1.length qb)).heap.size = w4.heap.size := World.size_setCell _ _ _
  obtain ⟨w5, hw5⟩ : ∃ x, x = w4.setCell ⟨g2, 0, none⟩ (.slice rb L1.length qb) := ⟨_, rfl⟩
  rw [← hw5] at HO5 HX5 Hb5 He5 hbw5 hz5 ⊢
  have HBW5 := Lib.hid hbw5
  have s5 : w1.heap.size ≤ w5.heap.size := by omega
  clear hw5 hbw5 hz5 HO HX Hb He HB4 HB1 HB2 hbc hbf
  refine Plan.wp_region_plan (fun wx => Below w1.heap.size w5 wx) (([0, 1].map (·, true)) ++ (([2, 3].map (·, false)) ++ (([4, 5, 6].map (·, true))))) (by kernel_rfl) (by kernel_rfl) (by kernel_rfl) (Below.refl _ _).drew ?_
  refine' Plan.plan_seg _ [0, 1] (([2, 3].map (·, false)) ++ (([4, 5, 6].map (·, true)))) (by kernel_rfl) (by kernel_rfl) rfl (by exact (Below.refl _ _).drew) (fun wx hS => ?_) ?_
  rotate_left
  · have y0 := (hS.cell (p := ⟨g1, 0, none⟩) l1).trans HX5.out.1
    have y1 := (hS.cell (p := ⟨g1, 1, none⟩) l1).trans HX5.out.2
    have y2 := (hS.cell (p := ⟨g2, 0, none⟩) l2).trans Hb5.out.k0
    clear hS
    go_light
    iterate 2 (apply Plan.seg_pick; rfl; intro K hK; go_wp)
    exact Plan.seg_nil
  obtain ⟨w6, hw6⟩ : ∃ x, x = w5.drew := ⟨_, rfl⟩
  rw [← hw6]
  have hD : Below w5.heap.size w5 w6 := by rw [hw6]; exact (Below.refl _ _).drew
  have HO6 := Lib.hid (HO5.out.below hD)
  have HD := Lib.hid (hD.mono s5)
  have HW6 := Lib.hid (HBW5.out.trans (hD.mono (by omega)))
  have s6 := HD.out.size
  clear hw6 hD
  refine Plan.plan_of_effect rfl (fun K hK => ?_)
  go_wp2_with fail
  refine (movie_any _ F 0 w6 (HV.out.below HW6.out) hn HLT.out (by decide) (by decide)).mono ?_
  rintro e w7 ⟨r, rfl, hca, hb7⟩
  obtain ⟨ty, rx, rfl⟩ := (hca none (by simp)).iface
  have HCA := Lib.hid hca
  have HO7 := Lib.hid (HO6.out.below hb7)
  have HB7 := Lib.hid (HD.out.trans (hb7.mono (by omega)))
  have s7 := HB7.out.size
  have s67 := hb7.size
  clear hca hb7
  go_wp2_with fail
  refine ⟨HB7.out, ?_⟩
  refine Plan.plan_of_effect rfl (fun K hK => ?_)
  go_wp2_with fail
  refine (appb_any (moovT F 0) (moov_small hn 0) _ _ L1 w1.heap.size w7 HO7.out (HCA.out _ (fun q hq => HO6.out.lt hq)) (by have := moov_len hn HLT.out 0; rw [HN1.out]; omega) (by omega)).mono ?_
  rintro e w8 ⟨r, rfl, hO8, hA8⟩
  have hb8 : Below w1.heap.size w5 w8 := HB7.out.trans (hA8.up HO7.out (by omega))
  obtain ⟨hpre, _⟩ := hA8.pre w1.heap.size L1 (by omega) HO7.out
  have HOb := Lib.hid hpre
  have HB8 := Lib.hid hb8
  obtain ⟨L8, hL8⟩ : ∃ Lq, Lq = L1 ++ bytesT (moovT F 0) := ⟨_, rfl⟩
  rw [← hL8] at hO8
  have hl8 : L8.length ≤ 80000 := by rw [hL8, List.length_append, HN1.out]; have := moov_len hn HLT.out 0; omega
  have hf8 : (L8.length : Int) + 8 = firstOf F := by rw [hL8, HL1.out]; rfl
  obtain ⟨rd, qd, rfl⟩ := hO8.shape
  have HF8 := Lib.hid hf8
  have s8 := hb8.size
  clear hO8 hA8 hb8 hpre hL8 hf8 HO7 HO6 HCA HB7 HD
  go_wp2_with fail
  refine ⟨HB8.out, ?_⟩
  refine' Plan.plan_seg _ [4, 5, 6] [] (by kernel_rfl) (by kernel_rfl) rfl (by exact HB8.out) (fun wx hS => ?_) ?_
  rotate_left
  · clear hS
    go_light
    iterate 3 (apply Plan.seg_pick; rfl; intro K hK; go_wp)
    exact Plan.seg_nil
  refine Plan.plan_done ?_
  have z1 := (HB8.out.cell (p := ⟨g1, 1, none⟩) l1).trans HX5.out.2
  obtain ⟨fi, hfi⟩ : ∃ fi : Int, fi = (L8.length : Int) + 8 := ⟨_, rfl⟩
  rw [← hfi] at HF8 ⊢
  have hfb : 0 ≤ fi ∧ fi ≤ 80008 := by omega
  have HFB := Lib.hid hfb
  clear hfi hfb hl8
  go_wp2_with fail
  clear z1
  have hfb := HFB.out
  go_loopw [5, 24] (fun g i wr => ∃ k : Nat, k ≤ F.nT ∧ i = .int .i64 (k : Int) ∧ g = .int .i64 (fi + (offN F.T k : Nat)) ∧ Below w8.heap.size w8 wr) (fun _ i _ => F.nT - (intOf i).toNat)
  case atStart => exact ⟨0, Nat.zero_le _, rfl, by simp [offN], Below.refl _ _⟩
  case round =>
    obtain ⟨k, hk, rfl, rfl, hbw⟩ := hrel
    have HW8 := Lib.hid (show Below w.heap.size w w8 from HBW5.out.trans (HB8.out.mono (by omega)))
    have hww := HW8.out.trans (hbw.mono (by omega))
    have HWW := Lib.hid hww
    have HBr := Lib.hid hbw
    have sr := hbw.size
    clear hbw
    by_cases hlt : k < F.nT
    · obtain ⟨ao, c', e, hcc, H⟩ := HTS.out
      simp only [Value.slice.injEq, true_and] at e
      obtain ⟨rfl, rfl⟩ := e
      obtain ⟨b', o', c0, c1, c2, c3, c4, rfl, h0, h1, h2, h3, h4, hTC⟩ := H k hlt
      have HTA := Lib.hid (show TA w (.agg #[c0, c1, c2, c3, c4]) (F.T k) from ⟨c0, c1, c2, c3, c4, rfl, hTC⟩)
      obtain ⟨rfl, rfl, b2, b3, b4⟩ := hTC
      obtain ⟨p2, q2, rfl⟩ := b2.shape
      obtain ⟨p3, q3, rfl⟩ := b3.shape
      obtain ⟨p4, q4, rfl⟩ := b4.shape
      replace h0 := (hww.cell (block_lt_of_cell h0)).trans h0
      replace h1 := (hww.cell (block_lt_of_cell h1)).trans h1
      replace h2 := (hww.cell (block_lt_of_cell h2)).trans h2
      replace h3 := (hww.cell (block_lt_of_cell h3)).trans h3
      replace h4 := (hww.cell (block_lt_of_cell h4)).trans h4
      have hl := HLT.out k hlt
      have hoff := offN_le HLT.out k (by omega)
      have hzz := hl.z
      have hl1 := hl.s
      have hst : offN F.T (k + 1) = offN F.T k + sizeN (F.T k).S (F.T k).nS := rfl
      obtain ⟨Tk, hTk⟩ : ∃ T, T = F.T k := ⟨_, rfl⟩
      rw [← hTk] at h0 h1 h2 h3 h4 HTA hzz hl1 hst
      obtain ⟨G, hG⟩ : ∃ G, G = offN F.T k := ⟨_, rfl⟩
      rw [← hG] at hoff hst ⊢
      have HST := Lib.hid hst
      clear H b2 b3 b4 hTk hG hl hww hst
      go_upto_region 10 with fail
      obtain ⟨ws, hws⟩ : ∃ x, x = wr.alloc (.cells #[.string Tk.h, .int .i64 Tk.sc, .slice p2 Tk.nC q2, .slice p3 Tk.nS q3, .slice p4 Tk.nE q4] 43) := ⟨_, rfl⟩
      rw [← hws]
      obtain ⟨gs, hgs⟩ : ∃ g, g = wr.heap.size := ⟨_, rfl⟩
      have hbs : Below wr.heap.size wr ws := by rw [hws]; exact below_box _ _
      have hcx : C5 ws gs (.string Tk.h) (.int .i64 Tk.sc) (.slice p2 Tk.nC q2) (.slice p3 Tk.nS q3) (.slice p4 Tk.nE q4) := by rw [hws, hgs]; constructor <;> simp [go_sem]
      rw [← hgs]
      have HBs := Lib.hid (HBr.out.trans (hbs.mono sr))
      have HTs := Lib.hid (HTA.out.below (HWW.out.trans (hbs.mono (by omega))))
      have ss := HBs.out.size
      clear hws hgs hbs h0 h1 h2 h3 h4
      obtain ⟨y0, y1, y2, y3, y4⟩ := hcx
      go_wp2_with fail
      refine (size_any _ Tk ws HTs.out (by omega) (by omega)).mono ?_
      rintro e wv ⟨rfl, hbv⟩
      have HBv := Lib.hid (HBs.out.trans (hbv.mono ss))
      obtain ⟨Z, hZ⟩ : ∃ Z, Z = sizeN Tk.S Tk.nS := ⟨_, rfl⟩
      rw [← hZ] at hzz HST ⊢
      clear hbv hZ y0 y1 y2 y3 y4
      go_wp2_with fail
      refine ⟨⟨k + 1, by omega, by go_num, by rw [HST.out]; go_num, HBv.out⟩, ?_⟩
      simp [intOf]
      omega
    · obtain rfl : k = F.nT := by omega
      have hoff := offN_le HLT.out F.nT (Nat.le_refl _)
      obtain ⟨G, hG⟩ : ∃ G, G = offN F.T F.nT := ⟨_, rfl⟩
      rw [← hG] at hoff ⊢
      have HGq := Lib.hid hG
      have h58 := HB8.out.trans (HBr.out.mono (by omega))
      have HBrr := Lib.hid h58
      have HX9 := Lib.hid (And.intro ((h58.cell (p := ⟨g1, 0, none⟩) l1).trans HX5.out.1) ((h58.cell (p := ⟨g1, 1, none⟩) l1).trans HX5.out.2))
      have Hb9 := Lib.hid (show C1 wr g2 (.slice rb L1.length qb) from ⟨(h58.cell (p := ⟨g2, 0, none⟩) l2).trans Hb5.out.k0, (h58.frozen (p := ⟨g2, 0, none⟩) l2).trans Hb5.out.fz⟩)
      have He9 := Lib.hid (show C1 wr g3 (.int .i64 0) from ⟨(h58.cell (p := ⟨g3, 0, none⟩) l3).trans He5.out.k0, (h58.frozen (p := ⟨g3, 0, none⟩) l3).trans He5.out.fz⟩)
      have HO9 := Lib.hid (HOb.out.below HBr.out)
      clear hG h58 HX5 Hb5 He5 HOb HBr HB8 HW8 hww
      go_upto_region 14 with fail
      have hgs : g1 < w1.heap.size := l1
      refine Plan.wp_region_planz (fun wx => Below w1.heap.size wr wx) 5 (([0, 1, 2].map (·, true)) ++ (([3, 4, 5].map (·, false)))) (by kernel_rfl) (by kernel_rfl) (by kernel_rfl) (Below.refl _ _).drew ?_
      refine' Plan.plan_seg _ [0, 1, 2] (([3, 4, 5].map (·, false))) (by kernel_rfl) (by kernel_rfl) rfl (by exact (Below.refl _ _).drew) (fun wx hS => ?_) ?_
      rotate_left
      · have y0 := (hS.cell (p := ⟨g1, 0, none⟩) l1).trans HX9.out.1
        have y1 := (hS.cell (p := ⟨g1, 1, none⟩) l1).trans HX9.out.2
        have y2 := (hS.cell (p := ⟨g2, 0, none⟩) l2).trans Hb9.out.k0
        clear hS
        go_light
        iterate 3 (apply Plan.seg_pick; rfl; intro K hK; go_wp)
        exact Plan.seg_nil
      obtain ⟨wa, hwa⟩ : ∃ x, x = wr.drew := ⟨_, rfl⟩
      rw [← hwa]
      have hD : Below wr.heap.size wr wa := by rw [hwa]; exact (Below.refl _ _).drew
      have sr' : w5.heap.size ≤ wr.heap.size := by have := HBrr.out.size; omega
      have HOa := Lib.hid (HO9.out.below hD)
      have HDa := Lib.hid (hD.mono (show w1.heap.size ≤ wr.heap.size by omega))
      have HWa := Lib.hid (HWW.out.trans (hD.mono (by omega)))
      have sa := HDa.out.size
      clear hwa hD
      refine Plan.plan_of_effect rfl (fun K hK => ?_)
      go_wp2_with fail
      refine (movie_any _ F fi wa (HV.out.below HWa.out) hn HLT.out hfb.1 (by omega)).mono ?_
      rintro e wb ⟨r, rfl, hca, hbb⟩
      obtain ⟨ty2, rx2, rfl⟩ := (hca none (by simp)).iface
      have HCA := Lib.hid hca
      have HOb := Lib.hid (HOa.out.below hbb)
      have HBb := Lib.hid (HDa.out.trans (hbb.mono (by omega)))
      have sb := HBb.out.size
      have sab := hbb.size
      clear hca hbb
      go_wp2_with fail
      refine ⟨HBb.out, ?_⟩
      refine Plan.plan_of_effect rfl (fun K hK => ?_)
      go_wp2_with fail
      refine (appb_any (moovT F fi) (moov_small hn fi) _ _ L1 w1.heap.size wb HOb.out (HCA.out _ (fun q hq => HOa.out.lt hq)) (by have := moov_len hn HLT.out fi; rw [HN1.out]; omega) (by omega)).mono ?_
      rintro e wc ⟨r, rfl, hOc, hAc⟩
      have hbc : Below w1.heap.size wr wc := HBb.out.trans (hAc.up HOb.out (by omega))
      have HBc := Lib.hid hbc
      obtain ⟨Lc, hLc⟩ : ∃ Lq, Lq = L1 ++ bytesT (moovT F fi) := ⟨_, rfl⟩
      rw [← hLc] at hOc
      have hlc : Lc.length ≤ 80000 := by rw [hLc, List.length_append, HN1.out]; have := moov_len hn HLT.out fi; omega
      have HLc := Lib.hid hLc
      obtain ⟨re, qe, rfl⟩ := hOc.shape
      have HOc := Lib.hid hOc
      have sc := hbc.size
      have yc2 := (hbc.cell (p := ⟨g2, 0, none⟩) l2).trans Hb9.out.k0
      have yf2 := (hbc.frozen (p := ⟨g2, 0, none⟩) l2).trans Hb9.out.fz
      clear hOc hAc hbc hLc HOb HOa HCA HBb HDa HO9
      go_wp2_with fail
      refine ⟨HBc.out, ?_⟩
      refine Plan.plan_of_last rfl (fun K hK => ?_)
      go_wp2_with fail
      refine Plan.plan_done ?_
      have HOd := Lib.hid (owns_setc HOc.out (p := ⟨g2, 0, none⟩) l2 (.slice re Lc.length qe))
      have u1 : (wc.setCell ⟨g2, 0, none⟩ (.slice re Lc.length qe)).cell? ⟨g1, 1, none⟩ = some (.slice aT F.nT dT) := by rw [World.cell?_setCell_far _ _ _ _ (by simpa using Ne.symm n12)]; exact (HBc.out.cell (p := ⟨g1, 1, none⟩) l1).trans HX9.out.2
      have u2 : C1 (wc.setCell ⟨g2, 0, none⟩ (.slice re Lc.length qe)) g2 (.slice re Lc.length qe) := ⟨by simp [go_sem, yc2], by rw [World.frozen?_setCell]; exact yf2⟩
      have u3 : C1 (wc.setCell ⟨g2, 0, none⟩ (.slice re Lc.length qe)) g3 (.int .i64 0) := ⟨by rw [World.cell?_setCell_far _ _ _ _ (by simpa using n23)]; exact (HBc.out.cell (p := ⟨g3, 0, none⟩) l3).trans He9.out.k0, by rw [World.frozen?_setCell]; exact (HBc.out.frozen (p := ⟨g3, 0, none⟩) l3).trans He9.out.fz⟩
      have hbd : Below w.heap.size w (wc.setCell ⟨g2, 0, none⟩ (.slice re Lc.length qe)) := (HWW.out.trans (HBc.out.mono hw0)).setCell m2 _
      have hzd : (wc.setCell ⟨g2, 0, none⟩ (.slice re Lc.length qe)).heap.size = wc.heap.size := World.size_setCell _ _ _
      obtain ⟨wd, hwd⟩ : ∃ x, x = wc.setCell ⟨g2, 0, none⟩ (.slice re Lc.length qe) := ⟨_, rfl⟩
      rw [← hwd] at HOd u1 u2 u3 hbd hzd ⊢
      have Hu2 := Lib.hid u2
      have Hu3 := Lib.hid u3
      have HBd := Lib.hid hbd
      have sd : w1.heap.size ≤ wd.heap.size := by omega
      have u20 := u2.k0
      clear hwd u2 u3 hbd hzd yc2 yf2 HBc HOc HX9 Hb9 He9
      go_wp2_with fail
      refine (appb_pay _ _ F.nT F.T Lc w1.heap.size w wd HOd.out HTS.out HBd.out hw0 (by omega) (fun i hi => by have := (HLT.out i hi).s; omega) (by rw [dataL_length, ← HGq.out]; omega) sd).mono ?_
      rintro e we ⟨r, rfl, hOe, hAe⟩
      obtain ⟨Le, hLe⟩ : ∃ Lq, Lq = Lc ++ boxP ⟨#[109, 100, 97, 116]⟩ (dataL F.T F.nT) := ⟨_, rfl⟩
      rw [← hLe] at hOe
      have HLe := Lib.hid hLe
      clear hLe
      obtain ⟨rf, qf, rfl⟩ := hOe.shape
      have hbe : Below w1.heap.size wd we := hAe.up HOd.out (by omega)
      have v20 := (hbe.cell (p := ⟨g2, 0, none⟩) l2).trans Hu2.out.k0
      have v2f := (hbe.frozen (p := ⟨g2, 0, none⟩) l2).trans Hu2.out.fz
      have v30 := (hbe.cell (p := ⟨g3, 0, none⟩) l3).trans Hu3.out.k0
      have v3f := (hbe.frozen (p := ⟨g3, 0, none⟩) l3).trans Hu3.out.fz
      have HOe := Lib.hid hOe
      have HBe := Lib.hid (HBd.out.trans (hbe.mono hw0))
      clear hOe hAe hbe Hu2 Hu3 HOd u1 u20
      go_wp2_with fail
      refine leaves_cons (f := 37) (args := #[.pointer (some ⟨g2, 0, none⟩), .pointer (some ⟨g3, 0, none⟩)]) (by simp) (by simp [go_sem]) ?_
      refine (idle37 _ _ _).mono ?_
      rintro e u' w'' ⟨rfl, rfl, rfl⟩
      simp [Leaves, settle, results, Try.results21, go_sem, v20, v30, n23, n23.symm]
      have hpl : Le = putL F := by rw [HLe.out, HLc.out, HL1.out, HF8.out]; rfl
      rw [← hpl]
      exact ⟨(owns_setc (owns_setc HOe.out (p := ⟨g2, 0, none⟩) l2 _) (p := ⟨g3, 0, none⟩) l3 _).bl, (HBe.out.setCell m2 _).setCell m3 _⟩
end Go.Proofs.Ytkhjkemllgjfmaa

/- What bytes a light valid file has: each is a byte, and with some of the last seven missing its last box is not complete. -/
namespace Go.Proofs.Ytkhjkemllgjfmaa
open Go.RowKit
set_option linter.unusedVariables false
set_option linter.unusedSimpArgs false

def Byt (L : List Int) : Prop := ∀ u, u ∈ L → 0 ≤ u ∧ u < 256
theorem Byt.nil : Byt [] := fun u h => by simp at h
theorem Byt.app {a b : List Int} (h : Byt a) (k : Byt b) : Byt (a ++ b) := fun u hu => by
  rcases List.mem_append.1 hu with h' | h'
  · exact h u h'
  · exact k u h'
theorem Byt.num4 (n : Int) : Byt (num4 n) := fun u hu => by
  simp only [Proofs.Ytkhjkemllgjfmaa.num4, List.mem_cons, List.not_mem_nil, or_false] at hu
  omega
theorem Byt.nums (L : List Int) : Byt (numsL L) := fun u hu => by
  obtain ⟨x, _, hx⟩ := List.mem_flatMap.1 hu
  exact Byt.num4 x u hx
theorem Byt.strB (s : ByteArray) : Byt (strB s) := fun u hu => by
  obtain ⟨x, _, rfl⟩ := List.mem_map.1 hu
  have := x.toNat_lt
  omega
theorem Byt.zs (n : Nat) : Byt (zs n) := fun u hu => by
  have := List.eq_of_mem_replicate hu
  omega
theorem Byt.boxP (nm : ByteArray) {d : List Int} (h : Byt d) : Byt (boxP nm d) := (Byt.num4 _).app ((Byt.strB _).app h)
theorem Byt.catN {f : Nat → List Int} : ∀ n, (∀ i, i < n → Byt (f i)) → Byt (catN f n)
  | 0, _ => Byt.nil
  | n + 1, h => (Byt.catN n (fun i hi => h i (by omega))).app (h n (by omega))
theorem Byt.lit4 (a b c d : Int) (h : (0 ≤ a ∧ a < 256) ∧ (0 ≤ b ∧ b < 256) ∧ (0 ≤ c ∧ c < 256) ∧ (0 ≤ d ∧ d < 256)) : Byt [a, b, c, d] := fun u hu => by
  simp only [List.mem_cons, List.not_mem_nil, or_false] at hu
  rcases hu with rfl | rfl | rfl | rfl <;> omega
theorem Byt.lit2 (a b : Int) (h : (0 ≤ a ∧ a < 256) ∧ (0 ≤ b ∧ b < 256)) : Byt [a, b] := fun u hu => by
  simp only [List.mem_cons, List.not_mem_nil, or_false] at hu
  rcases hu with rfl | rfl <;> omega
structure BytT (T : Tr) : Prop where
  c : ∀ i, i < T.nC → 0 ≤ T.C i ∧ T.C i < 256
  s : ∀ j, j < T.nS → ∀ i, i < (T.S j).n → 0 ≤ (T.S j).D i ∧ (T.S j).D i < 256
theorem Byt.range {n : Nat} {f : Nat → Int} (h : ∀ i, i < n → 0 ≤ f i ∧ f i < 256) : Byt ((List.range n).map f) := fun u hu => by
  obtain ⟨i, hi, rfl⟩ := List.mem_map.1 hu
  exact h i (List.mem_range.1 hi)
theorem Byt.runs (f : Nat → Int) (n : Nat) : Byt (runsL f n) := by unfold runsL; exact (Byt.nums _).app (Byt.nums _)
theorem Byt.ed (E : Nat → Ed) (n : Nat) : Byt (edL E n) := Byt.catN n fun i _ => Byt.nums _
theorem Byt.desc {T : Tr} (h : BytT T) : Byt (descL T) := ((Byt.zs 6).app (Byt.lit2 0 1 (by omega))).app (Byt.range h.c)
theorem Byt.stsd {T : Tr} (h : BytT T) : Byt (stsdL T) := by unfold stsdL; simp only [bytesT]; exact (Byt.nums _).app (Byt.boxP _ (Byt.desc h))
theorem Byt.stss (T : Tr) : Byt (stssL T) := by unfold stssL; exact (Byt.nums _).app (Byt.nums _)
theorem Byt.stsz (T : Tr) : Byt (stszL T) := by unfold stszL; exact (Byt.nums _).app (Byt.nums _)
theorem Byt.stco (T : Tr) (first : Int) : Byt (stcoL T first) := by unfold stcoL; exact (Byt.nums _).app (Byt.nums _)
theorem Byt.chunk : Byt chunkL := by unfold chunkL; exact Byt.nums _
theorem Byt.stbl {T : Tr} (h : BytT T) (first : Int) (i : Nat) : Byt (bytesT (stbl T first i)) := by
  unfold Proofs.Ytkhjkemllgjfmaa.stbl
  split
  · simp only [bytesT]; exact Byt.boxP _ (Byt.stsd h)
  split
  · simp only [bytesT]; exact Byt.boxP _ (Byt.runs _ _)
  split
  · simp only [bytesT]; exact Byt.boxP _ (Byt.runs _ _)
  split
  · simp only [bytesT]; exact Byt.boxP _ (Byt.stss T)
  split
  · simp only [bytesT]; exact Byt.boxP _ (Byt.stsz T)
  split
  · simp only [bytesT]; exact Byt.boxP _ Byt.chunk
  · simp only [bytesT]; exact Byt.boxP _ (Byt.stco T _)
theorem Byt.mat : Byt matL := Byt.nums _
theorem Byt.tkhd (k : Int) : Byt (tkhdL k) := (((((((Byt.lit4 0 0 0 3 (by omega)).app (Byt.zs 8)).app (Byt.nums _)).app (Byt.zs 4)).app (Byt.nums _)).app (Byt.zs 16)).app Byt.mat).app (Byt.zs 8)
theorem Byt.mdhd (T : Tr) : Byt (mdhdL T) := ((Byt.nil.app (Byt.zs 12)).app (Byt.nums _)).app (Byt.lit4 _ _ _ _ (by omega))
theorem Byt.hdlr (T : Tr) : Byt (hdlrL T) := ((Byt.nil.app (Byt.zs 8)).app (Byt.strB _)).app (Byt.zs 13)
theorem Byt.minf {T : Tr} (h : BytT T) (first : Int) : Byt (bytesT (minfT T first)) := by
  unfold minfT
  simp only [bytesT]
  exact Byt.boxP _ (Byt.catN 1 fun i _ => Byt.boxP _ (Byt.catN 7 fun i _ => Byt.stbl h first i))
theorem Byt.mdia {T : Tr} (h : BytT T) (first : Int) : Byt (bytesT (mdiaT T first)) := by
  unfold mdiaT
  simp only [bytesT]
  refine Byt.boxP _ (Byt.catN 3 fun i _ => ?_)
  split
  · simp only [bytesT]; exact Byt.boxP _ (Byt.mdhd T)
  split
  · simp only [bytesT]; exact Byt.boxP _ (Byt.hdlr T)
  · exact Byt.minf h first
theorem Byt.edts (T : Tr) : Byt (bytesT (edtsT T)) := by
  unfold edtsT
  simp only [bytesT]
  exact Byt.boxP _ (Byt.catN 1 fun i _ => Byt.boxP _ ((Byt.nums _).app (Byt.ed _ _)))
theorem Byt.trak {T : Tr} (h : BytT T) (k first : Int) : Byt (bytesT (trakT T k first)) := by
  unfold trakT
  split <;> simp only [bytesT] <;> refine Byt.boxP _ (Byt.catN _ fun i _ => ?_)
  · split
    · simp only [bytesT]; exact Byt.boxP _ (Byt.tkhd k)
    split
    · exact Byt.edts T
    · exact Byt.mdia h first
  · split
    · simp only [bytesT]; exact Byt.boxP _ (Byt.tkhd k)
    · exact Byt.mdia h first
theorem Byt.moov {F : Fl} (h : ∀ i, i < F.nT → BytT (F.T i)) (first : Int) : Byt (bytesT (moovT F first)) := by
  unfold moovT
  simp only [bytesT]
  refine Byt.boxP _ (Byt.catN _ fun i hi => ?_)
  unfold moovP
  split
  · simp only [bytesT]
    exact Byt.boxP _ (((((((Byt.nil.app (Byt.zs 12)).app (Byt.nums _)).app (Byt.lit2 _ _ (by omega))).app (Byt.zs 10)).app Byt.mat).app (Byt.zs 24)).app (Byt.nums _))
  · exact Byt.trak (h _ (by omega)) _ _
theorem Byt.put {F : Fl} (h : ∀ i, i < F.nT → BytT (F.T i)) : Byt (putL F) :=
  ((Byt.boxP _ ((Byt.strB _).app ((Byt.nums _).app (Byt.strB _)))).app (Byt.moov h _)).app (Byt.boxP _ (Byt.catN _ fun i hi => Byt.catN _ fun j hj => Byt.range ((h i hi).s j hj)))
end Go.Proofs.Ytkhjkemllgjfmaa

/- With some of the last seven bytes missing the last box is not complete. -/
namespace Go.Proofs.Ytkhjkemllgjfmaa
open Go.RowKit
set_option linter.unusedVariables false
set_option linter.unusedSimpArgs false

theorem bits_nat (a b : Nat) (ha : a < 2147483648) (hb : b < 2147483648) : bits BinOp.or IntKind.i64 (a : Int) (b : Int) = ((a ||| b : Nat) : Int) := by
  unfold bits
  have h1 : (BitVec.ofInt IntKind.i64.bits (a : Int)).toNat = a := by
    rw [BitVec.toNat_ofInt]
    show ((a : Int) % ((2 ^ 64 : Nat) : Int)).toNat = a
    omega
  have h2 : (BitVec.ofInt IntKind.i64.bits (b : Int)).toNat = b := by
    rw [BitVec.toNat_ofInt]
    show ((b : Int) % ((2 ^ 64 : Nat) : Int)).toNat = b
    omega
  have h3 : a ||| b < 2 ^ 31 := Nat.or_lt_two_pow (by omega) (by omega)
  simp only [BitVec.toNat_or, h1, h2]
  unfold IntKind.wrap
  have h4 : ((a ||| b : Nat) : Int) % 2 ^ IntKind.i64.bits = ((a ||| b : Nat) : Int) := by
    show ((a ||| b : Nat) : Int) % 2 ^ 64 = _
    omega
  rw [h4]
  rw [if_neg]
  simp only [Bool.and_eq_true, decide_eq_true_eq, not_and]
  intro _
  show ¬ ((a ||| b : Nat) : Int) ≥ 2 ^ 63
  omega
theorem or_add (a b k : Nat) (hb : b < 2 ^ k) : (a * 2 ^ k) ||| b = a * 2 ^ k + b := by
  rw [Nat.mul_comm]
  exact (Nat.two_pow_add_eq_or_of_lt hb a).symm
theorem numI_nat (z : Nat) (hz : z < 2147483648) (f : Nat → Int) (p : Nat) (h0 : f p = (z : Int) / 16777216 % 256) (h1 : f (p + 1) = (z : Int) / 65536 % 256) (h2 : f (p + 2) = (z : Int) / 256 % 256) (h3 : f (p + 3) = (z : Int) % 256) : numI f p = (z : Int) := by
  unfold numI
  rw [h0, h1, h2, h3]
  rw [show (z : Int) / 16777216 % 256 * 16777216 = (((z / 16777216) * 2 ^ 24 : Nat) : Int) by omega]
  rw [show (z : Int) / 65536 % 256 * 65536 = (((z / 65536 % 256) * 2 ^ 16 : Nat) : Int) by omega]
  rw [show (z : Int) / 256 % 256 * 256 = (((z / 256 % 256) * 2 ^ 8 : Nat) : Int) by omega]
  rw [show (z : Int) % 256 = ((z % 256 : Nat) : Int) by omega]
  rw [bits_nat _ _ (by omega) (by omega), or_add _ _ 24 (by omega)]
  rw [show z / 16777216 * 2 ^ 24 + z / 65536 % 256 * 2 ^ 16 = (z / 65536) * 2 ^ 16 by omega]
  rw [bits_nat _ _ (by omega) (by omega), or_add _ _ 16 (by omega)]
  rw [show z / 65536 * 2 ^ 16 + z / 256 % 256 * 2 ^ 8 = (z / 256) * 2 ^ 8 by omega]
  rw [bits_nat _ _ (by omega) (by omega), or_add _ _ 8 (by omega)]
  omega
/-- A box's size, read where the box begins. -/
theorem numI_box {L A C : List Int} {nm : ByteArray} {d : List Int} {f : Nat → Int} (e : L = A ++ (boxP nm d ++ C)) (hl : (boxP nm d).length < 2147483648) (h : ∀ j, j < 4 → f (A.length + j) = L.getD (A.length + j) 0) : numI f A.length = ((boxP nm d).length : Int) := by
  have hz : ((d.length : Int) + 4 + nm.size) = ((boxP nm d).length : Int) := by rw [boxP_length]; omega
  have hg : ∀ j, j < 4 → L.getD (A.length + j) 0 = (num4 ((boxP nm d).length : Int)).getD j 0 := by
    intro j hj
    have hx : boxP nm d ++ C = num4 ((boxP nm d).length : Int) ++ (strB nm ++ d ++ C) := by
      conv => lhs; unfold boxP
      rw [hz, List.append_assoc]
    simp only [List.getD_eq_getElem?_getD]
    rw [e, List.getElem?_append_right (by omega), hx, List.getElem?_append_left (by simp [num4]; omega), Nat.add_sub_cancel_left]
  have k0 := (h 0 (by omega)).trans (hg 0 (by omega))
  have k1 := (h 1 (by omega)).trans (hg 1 (by omega))
  have k2 := (h 2 (by omega)).trans (hg 2 (by omega))
  have k3 := (h 3 (by omega)).trans (hg 3 (by omega))
  exact numI_nat _ hl f A.length (by simpa [num4] using k0) (by simpa [num4] using k1) (by simpa [num4] using k2) (by simpa [num4] using k3)
/-- Three boxes, the last cut short: the walk stops at the third with 'short'. -/
theorem short_three {A B C : List Int} {na nb nc : ByteArray} {da db dc : List Int} (hA : A = boxP na da) (hB : B = boxP nb db) (hC : C = boxP nc dc) (h4 : na.size = 4 ∧ nb.size = 4 ∧ nc.size = 4) (hs : A.length + B.length + C.length < 100000000) (n : Nat) (h1 : A.length + B.length < n) (h2 : n < A.length + B.length + C.length) {f : Nat → Int} (hf : ∀ i, i < n → f i = (A ++ B ++ C).getD i 0) (k : Nat) (hw : Walked f 0 n k) (hg : ¬ goOn f n (pos f 0 k)) : codeAt f n (pos f 0 k) = 4 := by
  have la : 8 ≤ A.length := by rw [hA, boxP_length]; omega
  have lb : 8 ≤ B.length := by rw [hB, boxP_length]; omega
  have lc : 8 ≤ C.length := by rw [hC, boxP_length]; omega
  have e0 : numI f 0 = (A.length : Int) := by
    have := numI_box (L := A ++ B ++ C) (A := []) (C := B ++ C) (nm := na) (d := da) (f := f) (by rw [hA]; simp) (by rw [← hA]; omega) (fun j hj => hf _ (by simp; omega))
    rw [← hA] at this
    exact this
  have e1 : numI f A.length = (B.length : Int) := by
    have := numI_box (L := A ++ B ++ C) (A := A) (C := C) (nm := nb) (d := db) (f := f) (by rw [hB]; simp) (by rw [← hB]; omega) (fun j hj => hf _ (by omega))
    rw [← hB] at this
    exact this
  have e2 : A.length + B.length + 8 ≤ n → numI f (A.length + B.length) = (C.length : Int) := by
    intro hn
    have := numI_box (L := A ++ B ++ C) (A := A ++ B) (C := []) (nm := nc) (d := dc) (f := f) (by rw [hC]; simp) (by rw [← hC]; omega) (fun j hj => hf _ (by simp; omega))
    rw [← hC, List.length_append] at this
    exact this
  have p1 : pos f 0 1 = A.length := by simp only [pos]; rw [e0]; omega
  have p2 : pos f 0 2 = A.length + B.length := by
    show pos f 0 1 + (numI f (pos f 0 1)).toNat = _
    rw [p1, e1]; omega
  have g0 : goOn f n (pos f 0 0) := ⟨by simp only [pos]; omega, by simp only [pos]; rw [e0]; omega, by simp only [pos]; rw [e0]; omega⟩
  have g1 : goOn f n (pos f 0 1) := by rw [p1]; exact ⟨by omega, by rw [e1]; omega, by rw [e1]; omega⟩
  have ng : ¬ goOn f n (pos f 0 2) := by
    rw [p2]
    rintro ⟨a, b, c⟩
    rw [e2 a] at c
    omega
  have w2 : Walked f 0 n 2 := by
    intro j hj
    rcases (show j = 0 ∨ j = 1 by omega) with rfl | rfl
    · exact g0
    · exact g1
  obtain rfl := hw.unique w2 hg ng
  rw [p2]
  unfold codeAt
  rw [if_neg (by omega)]
  split
  · rfl
  · rw [e2 (by omega), if_neg (by omega)]
end Go.Proofs.Ytkhjkemllgjfmaa

/- Boxes that lie in a file one behind the other: what Boxes reads there; the reader's open, only, data. -/
namespace Go.Proofs.Ytkhjkemllgjfmaa
open Go.RowKit
set_option linter.unusedVariables false
set_option linter.unusedSimpArgs false
/-- D lies in L at p. -/
def Seg (L : List Int) (p : Nat) (D : List Int) : Prop := ∃ A C, L = A ++ (D ++ C) ∧ A.length = p
theorem Seg.left {L D E : List Int} {p : Nat} (h : Seg L p (D ++ E)) : Seg L p D := by
  obtain ⟨A, C, e, hl⟩ := h
  exact ⟨A, E ++ C, by rw [e, List.append_assoc], hl⟩
theorem Seg.right {L D E : List Int} {p : Nat} (h : Seg L p (D ++ E)) : Seg L (p + D.length) E := by
  obtain ⟨A, C, e, hl⟩ := h
  exact ⟨A ++ D, C, by rw [e]; simp [List.append_assoc], by rw [List.length_append, hl]⟩
theorem Seg.whole (L : List Int) : Seg L 0 L := ⟨[], [], by simp, rfl⟩
theorem Seg.le {L D : List Int} {p : Nat} (h : Seg L p D) : p + D.length ≤ L.length := by
  obtain ⟨A, C, e, hl⟩ := h
  rw [e, List.length_append, List.length_append, hl]; omega
theorem Seg.at {L D : List Int} {p : Nat} (h : Seg L p D) {i : Nat} (hi : i < D.length) : L.getD (p + i) 0 = D.getD i 0 := by
  obtain ⟨A, C, rfl, rfl⟩ := h
  simp only [List.getD_eq_getElem?_getD]
  rw [List.getElem?_append_right (by omega), Nat.add_sub_cancel_left, List.getElem?_append_left hi]
def catB (bs : List (ByteArray × List Int)) : List Int := bs.flatMap fun x => boxP x.1 x.2
/-- Where the boxes lie. -/
def lay : Nat → List (ByteArray × List Int) → List Bx
  | _, [] => []
  | p, x :: r => ⟨x.1, p, (boxP x.1 x.2).length⟩ :: lay (p + (boxP x.1 x.2).length) r
theorem lay_length (bs : List (ByteArray × List Int)) : ∀ p, (lay p bs).length = bs.length := by
  induction bs with
  | nil => intro p; rfl
  | cons x r ih => intro p; simp only [lay, List.length_cons, ih]
theorem strB_len (s : ByteArray) : (strB s).length = s.size := by unfold strB; rw [List.length_map]; rfl
theorem strOf_strB (s : ByteArray) : strOfNums (strB s) = s := by
  refine ByteArray.ext ?_
  show ((strB s).map fun n => UInt8.ofNat n.toNat).toArray = s.data
  unfold strB
  rw [List.map_map]
  have : ((fun n : Int => UInt8.ofNat n.toNat) ∘ fun b : UInt8 => (b.toNat : Int)) = id := by funext b; simp
  rw [this, List.map_id, Array.toArray_toList]
/-- What is read where one box begins. -/
theorem box_read {L : List Int} {p : Nat} {nm : ByteArray} {d : List Int} (h : Seg L p (boxP nm d)) (h4 : nm.size = 4) (hl : L.length < 100000000) :
    numI (fun i => L.getD i 0) p = ((boxP nm d).length : Int) ∧ boxV (fun i => L.getD i 0) p = bxC ⟨nm, p, (boxP nm d).length⟩ := by
  have hle := h.le
  have h8 : (boxP nm d).length = d.length + 8 := by rw [boxP_length]; omega
  have hn : numI (fun i => L.getD i 0) p = ((boxP nm d).length : Int) := by
    obtain ⟨A, C, e, rfl⟩ := h
    exact numI_box e (by omega) (fun j _ => rfl)
  refine ⟨hn, ?_⟩
  have hs : ∀ j, j < 4 → L.getD (p + 4 + j) 0 = (strB nm).getD j 0 := by
    intro j hj
    have := h.at (i := 4 + j) (by omega)
    rw [show p + 4 + j = p + (4 + j) by omega, this]
    unfold boxP
    have e4 : (num4 ((d.length : Int) + 4 + nm.size)).length = 4 := rfl
    have es : (strB nm).length = 4 := (strB_len nm).trans h4
    simp only [List.getD_eq_getElem?_getD]
    rw [List.getElem?_append_right (by omega), e4, List.getElem?_append_left (by omega)]
    congr 2; omega
  have es : (strB nm).length = 4 := (strB_len nm).trans h4
  unfold boxV bxC
  rw [hn]
  have hnm : strOfNums [L.getD (p + 4) 0, L.getD (p + 4 + 1) 0, L.getD (p + 4 + 2) 0, L.getD (p + 4 + 3) 0] = nm := by
    rw [show L.getD (p + 4) 0 = L.getD (p + 4 + 0) 0 from rfl, hs 0 (by omega), hs 1 (by omega), hs 2 (by omega), hs 3 (by omega)]
    conv => rhs; rw [← strOf_strB nm]
    congr 1
    match hq : strB nm, es with
    | [a, b, c, e], _ => rfl
  simp only [hnm]
theorem catB_cons (x : ByteArray × List Int) (r : List (ByteArray × List Int)) : catB (x :: r) = boxP x.1 x.2 ++ catB r := rfl
/-- Boxes one behind the other are walked to their end. -/
theorem lay_walk {L : List Int} {bs : List (ByteArray × List Int)} {p : Nat} (h : Seg L p (catB bs)) (h4 : ∀ x ∈ bs, x.1.size = 4) (hl : L.length < 100000000) :
    ∀ k, k ≤ bs.length → pos (fun i => L.getD i 0) p k = p + (catB (bs.take k)).length ∧ rowsV (fun i => L.getD i 0) p k = bxs ((lay p bs).take k) := by
  intro k
  induction k with
  | zero => intro _; exact ⟨rfl, rfl⟩
  | succ k ih =>
    intro hk
    obtain ⟨h1, h2⟩ := ih (by omega)
    obtain ⟨x, hx⟩ : ∃ x, bs[k]? = some x := ⟨_, List.getElem?_eq_getElem (by omega)⟩
    have hsplit : bs = bs.take k ++ x :: bs.drop (k + 1) := by
      conv => lhs; rw [← List.take_append_drop k bs]
      congr 1
      rw [List.drop_eq_getElem_cons (by omega)]
      congr 1
      exact Option.some.inj ((List.getElem?_eq_getElem (by omega)).symm.trans hx)
    have hseg : Seg L (p + (catB (bs.take k)).length) (boxP x.1 x.2) := by
      have h' := h
      rw [hsplit] at h'
      unfold catB at h'
      rw [List.flatMap_append] at h'
      exact h'.right.left
    have hr := box_read hseg (h4 x (List.mem_of_getElem? hx)) hl
    have htake : catB (bs.take (k + 1)) = catB (bs.take k) ++ boxP x.1 x.2 := by
      rw [List.take_add_one, hx]
      unfold catB
      rw [List.flatMap_append]
      simp
    have hlay : ∀ (bs : List (ByteArray × List Int)) (p k : Nat) (x : ByteArray × List Int), bs[k]? = some x → (lay p bs)[k]? = some ⟨x.1, p + (catB (bs.take k)).length, (boxP x.1 x.2).length⟩ := by
      intro bs
      induction bs with
      | nil => intro p k x h; simp at h
      | cons y r ih =>
        intro p k x h
        cases k with
        | zero =>
          simp only [List.getElem?_cons_zero, Option.some.injEq] at h
          subst h
          simp [lay, catB]
        | succ k =>
          simp only [List.getElem?_cons_succ] at h
          simp only [lay, List.getElem?_cons_succ, ih _ _ _ h, List.take_succ_cons, catB_cons, List.length_append]
          congr 2; omega
    refine ⟨?_, ?_⟩
    · rw [pos, h1, hr.1, htake, List.length_append]
      omega
    · rw [rowsV, h2, h1, hr.2, List.take_add_one, hlay bs p k x hx, bxs_append]
      simp [bxs]
theorem lay_end {L : List Int} {bs : List (ByteArray × List Int)} {p : Nat} (h : Seg L p (catB bs)) (h4 : ∀ x ∈ bs, x.1.size = 4) (hl : L.length < 100000000) :
    Walked (fun i => L.getD i 0) p (p + (catB bs).length) bs.length ∧ ¬ goOn (fun i => L.getD i 0) (p + (catB bs).length) (pos (fun i => L.getD i 0) p bs.length) ∧
      codeAt (fun i => L.getD i 0) (p + (catB bs).length) (pos (fun i => L.getD i 0) p bs.length) = 0 ∧ rowsV (fun i => L.getD i 0) p bs.length = bxs (lay p bs) := by
  have hw := lay_walk h h4 hl
  have hend := hw bs.length (Nat.le_refl _)
  rw [List.take_length] at hend
  rw [List.take_of_length_le (by rw [lay_length]; exact Nat.le_refl _)] at hend
  refine ⟨fun j hj => ?_, ?_, ?_, hend.2⟩
  · obtain ⟨x, hx⟩ : ∃ x, bs[j]? = some x := ⟨_, List.getElem?_eq_getElem hj⟩
    have e1 := (hw j (by omega)).1
    have e2 := (hw (j + 1) (by omega)).1
    have hsplit : bs = bs.take j ++ x :: bs.drop (j + 1) := by
      conv => lhs; rw [← List.take_append_drop j bs]
      congr 1
      rw [List.drop_eq_getElem_cons hj]
      congr 1
      exact Option.some.inj ((List.getElem?_eq_getElem hj).symm.trans hx)
    have hseg : Seg L (p + (catB (bs.take j)).length) (boxP x.1 x.2) := by
      have h' := h
      rw [hsplit] at h'
      unfold catB at h'
      rw [List.flatMap_append] at h'
      exact h'.right.left
    have hr := box_read hseg (h4 x (List.mem_of_getElem? hx)) hl
    have h8 : (boxP x.1 x.2).length = x.2.length + 8 := by have := h4 x (List.mem_of_getElem? hx); rw [boxP_length]; omega
    have hlen : (catB (bs.take j)).length + (boxP x.1 x.2).length ≤ (catB bs).length := by
      have e : catB bs = catB (bs.take j) ++ (boxP x.1 x.2 ++ catB (bs.drop (j + 1))) := by
        conv => lhs; rw [hsplit]
        unfold catB
        rw [List.flatMap_append, List.flatMap_cons]
      rw [e, List.length_append, List.length_append]; omega
    unfold goOn
    rw [e1, hr.1]
    omega
  · rw [hend.1]; unfold goOn; omega
  · rw [hend.1]; unfold codeAt; rw [if_pos (Nat.le_refl _)]
/-- Boxes at boxes that lie one behind the other. -/
theorem boxes_lay {v : Value} {n : Nat} {L : List Int} {w : World} (hv : BA w v n fun i => L.getD i 0) (hn : n = L.length) (hl : L.length < 100000000) {bs : List (ByteArray × List Int)} {p : Nat} (h : Seg L p (catB bs)) (h4 : ∀ x ∈ bs, x.1.size = 4) :
    Calls Try.prog 10 #[v, .int .i64 (p : Int), .int .i64 ((p + (catB bs).length : Nat) : Int)] w fun e w' => ∃ r, e = .returned (.tuple #[r, .int .i64 0]) ∧ RowB w' w.heap.size r (lay p bs) ∧ Below w.heap.size w w' := by
  refine (boxes_any v n _ (p : Int) ((p + (catB bs).length : Nat) : Int) w hv (by omega)).mono ?_
  rintro e w' ⟨r, c, rfl, hb, hp⟩
  have hle := h.le
  rw [if_neg (by omega)] at hp
  obtain ⟨k, k1, k2, k3, k4, k5⟩ := hp
  obtain ⟨w1, w2, w3, w4⟩ := lay_end h h4 hl
  simp only [Int.toNat_natCast] at k1 k2 k3 k5
  have hk := k1.unique w1 k2 w2
  subst hk
  rw [w3] at k3
  subst k3
  have := k5 rfl
  rw [w4] at this
  refine ⟨r, rfl, ?_, hb⟩
  show w'.ownsRow w.heap.size 31 4 r (lay p bs).length (bxs (lay p bs))
  rw [lay_length]
  exact this
end Go.Proofs.Ytkhjkemllgjfmaa
