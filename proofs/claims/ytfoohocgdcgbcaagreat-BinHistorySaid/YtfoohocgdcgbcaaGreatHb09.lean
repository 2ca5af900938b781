/- Texts of this claim joined: VP VQ VR VS VT VU VY. -/
import Derived.Deep.CutRange
import Derived.Deep.CutBlock
import Derived.Laws.EntriesVeiled
import Derived.Test.YtfoohocgdcgbcaaGreatHb08
set_option linter.unusedVariables false
set_option linter.unusedSimpArgs false
namespace Go.Proofs.YtfoohocgdcgbcaaGreat
open Go.RowKit
set_option maxRecDepth 100000 in
set_option maxHeartbeats 16000000 in
theorem enormal_any {L : Int} (v : Value) (l : List Trk.Clip) (w : World) (h : Tk w v l) (hV : Trk.VL L l) (hL : L ≤ 140737488355328) (ht : Trk.total l ≤ 2147483647) (hl : l.length ≤ 1048576) :
  Calls Tryz.prog 87 #[v] w (OTPost w (Trk.nf l)) := by
 obtain ⟨ao, cap, rfl, hc1, hc2, hT⟩ := h
 have HT := Lib.hid (show Tk w (.slice ao l.length cap) l from ⟨ao, cap, rfl, hc1, hc2, hT⟩)
 clear hT
 have HG := Lib.hid hV
 have HTT := Lib.hid ht
 unfold Trk.nf
 obtain ⟨N, hN⟩ : ∃ N, N = l.length := ⟨_, rfl⟩
 rw [← hN] at hl hc1
 have HLe := Lib.hid hN
 rw [← hN]
 clear hV hN hc2 ht
 go_enter Tryz.func87, Tryz.ntmps87
 go_wp2_with fail
 go_loopw [3, 11] (fun v3 v11 wr => ∃ k : Nat, k ≤ N ∧ v11 = .int .i64 (k : Int) ∧ OT wr w.heap.size v3 (Trk.pk (l.take k)) ∧ Below w.heap.size w wr) (fun _ i _ => N - (intOf i).toNat)
 case atStart => exact ⟨0, Nat.zero_le _, rfl, by rw [List.take_zero]; exact OT.nil _ _, Below.refl _ _⟩
 case round =>
  obtain ⟨k, hk, rfl, ho, hb⟩ := hrel
  have hvk : Trk.VL L (l.take k) := HG.out.sub fun x hx => List.mem_of_mem_take hx
  have htk := total_take l HG.out.good k
  have hvp := Trk.pk_vl hvk (by have := HTT.out; omega)
  have hpo := Trk.pk_of hvk.good
  have hpl : (Trk.pk (l.take k)).length ≤ 1048576 := by
   have := hpo.n
   simp only [List.length_take] at this
   omega
  by_cases hlt : k < N
  ·have hlt' : (k : Int) < (N : Int) := by omega
   have hkl : k < l.length := by rw [← HLe.out]; exact hlt
   obtain ⟨c, hc⟩ : ∃ c, l[k]? = some c := ⟨_, List.getElem?_eq_getElem hkl⟩
   obtain ⟨ao', cap', e, _, _, hT⟩ := HT.out.below hb
   simp only [Value.slice.injEq, true_and] at e
   obtain ⟨rfl, rfl⟩ := e
   obtain ⟨b, o, rfl, hA⟩ := hT k c hc
   clear hT
   have hvc := HG.out c (List.mem_of_getElem? hc)
   have htc : Trk.total (Trk.pk (l.take k)) + c.len ≤ 2147483647 := by
    have h1 := hpo.s.t
    have h2 := total_take l HG.out.good (k + 1)
    rw [List.take_add_one, hc] at h2
    simp only [Option.toList_some] at h2
    rw [Trk.total_append] at h2
    have h3 : Trk.total [c] = c.len := by show c.len + 0 = _; omega
    have := HTT.out
    omega
   have hsn : Trk.pk (l.take (k + 1)) = Trk.snoc (Trk.pk (l.take k)) c := by
    rw [List.take_add_one, hc]
    show Trk.pk (l.take k ++ [c]) = _
    rw [Trk.pk_snoc]
   have HSN := Lib.hid hsn
   have HA := Lib.hid hA
   have HO := Lib.hid ho
   have HB := Lib.hid hb
   have HC := Lib.hid hc
   have HVC := Lib.hid hvc
   have HTC := Lib.hid htc
   have HVP := Lib.hid hvp
   obtain ⟨P, hP⟩ : ∃ P, P = Trk.pk (l.take k) := ⟨_, rfl⟩
   rw [← hP] at HSN HO HTC HVP hpl
   clear hA ho hb hc hkl hvc htc hsn hvk htk hvp hpo hP
   go_upto_region 4 with fail
   apply wp_region_lit
   iterate 3 go_step
   refine wpl_load HA.out rfl rfl rfl ?_
   refine wpl_alloc rfl rfl (fun w2 hg hb2 hs2 => ?_)
   obtain ⟨g, hgg⟩ : ∃ g, g = wr.heap.size := ⟨_, rfl⟩
   rw [← hgg] at hg ⊢
   have hgn : w.heap.size ≤ g := by rw [hgg]; exact HB.out.size
   have hno2 : ∀ g2 cp x, u3 = .slice (some ⟨g2, 0, none⟩) x cp → g2 < g := fun g2 cp x e => by
    have h := HO.out
    rw [e] at h
    have := h.own.2.1
    omega
   have HNO := Lib.hid hno2
   have HBX := Lib.hid (And.intro hb2 hgg)
   clear hb2 hs2 hgg hno2 HA
   refine wpl_store c hg rfl rfl rfl rfl ?_
   intro w3 hv ho3 hb3
   have hbw : Below wr.heap.size wr w3 := hb3 _ _ (Nat.le_of_eq HBX.out.2.symm) HBX.out.1
   replace HO := Lib.hid (HO.out.below hbw)
   replace HB := Lib.hid (HB.out.trans (hbw.mono HB.out.size))
   have HT3 := Lib.hid (HT.out.below HB.out)
   have HV := Lib.hid hv
   clear hv ho3 hb3 hbw hg HBX
   simp only [Act.put, List.setIfInBounds_toArray, List.set_cons_succ, List.set_cons_zero]
   obtain ⟨C, hC⟩ : ∃ C, C = (clipC c).toArray := ⟨_, rfl⟩
   rw [← hC]
   have HCC := Lib.hid hC
   clear hC
   cases hp : P.getLast? with
   | none =>
    have e0 : P = [] := List.getLast?_eq_none_iff.1 hp
    subst e0
    clear hp
    obtain ⟨rfl, _⟩ | ⟨g2, cp, rfl⟩ := HO.out.shape
    ·have z21 := HV.out.c.k21
     have zf := HV.out.f
     simp only [Nat.zero_add] at z21
     go_upto_region 11 with (go_at_call 91; refine (clone_nil _).mono ?_; rintro e w' ⟨rfl, rfl⟩)
     replace HO := Lib.hid (HO.out.apart (p := ⟨g, 21, none⟩) (fun g' k' cap' e => Nat.ne_of_gt (HNO.out g' cap' k' e)) (.slice none 0 0))
     replace HB := Lib.hid (HB.out.setCell (p := ⟨g, 21, none⟩) hgn (.slice none 0 0))
     replace HV := Lib.hid HV.out.set_nil
     clear z21 zf
     obtain ⟨w8, hw8⟩ : ∃ y, y = w3.setCell ⟨g, 21, none⟩ (.slice none 0 0) := ⟨_, rfl⟩
     rw [← hw8] at HO HB HV ⊢
     clear hw8
     apply wp_region_lit
     iterate 3 go_step
     refine wpl_load HV.out.c rfl rfl rfl ?_
     rw [← HCC.out]
     simp only [Act.put, List.setIfInBounds_toArray, List.set_cons_succ, List.set_cons_zero]
     refine Great.wpList_buildSliceTo rfl 23 48 1 #[(0, .tmp 42)] rfl w8.heap.size rfl _ rfl Tryz.underlying23 C ?_ ?_
     ·simp only [List.map_toArray, List.map_cons, List.map_nil, List.toList_toArray]
      rw [HCC.out]
      exact built_clip c
     have hb : Below w8.heap.size w8 (w8.alloc (.cells C 48)) := below_box _ _
     have hbx : CA (w8.alloc (.cells C 48)) w8.heap.size 0 c := by rw [HCC.out]; exact CA.box w8 c 48
     replace HO := Lib.hid (HO.out.below hb)
     replace HB := Lib.hid (HB.out.trans (hb.mono HB.out.size))
     clear hb
     simp only [Act.put, List.setIfInBounds_toArray, List.set_cons_succ, List.set_cons_zero]
     refine wpList_appT 23 Tryz.underlying23 _ rfl (.tmp 41) (.tmp 43) rfl rfl w.heap.size (.slice none 0 0) [] rfl HO.out HB.out.size w8.heap.size 1 c rfl hbx (by first | (simp; done) | (have := HN.out; simp; omega)) ?_
     intro v' w9 r1 r2 r3 r4
     simp only [Act.put, List.setIfInBounds_toArray, List.set_cons_succ, List.set_cons_zero]
     have HR := Lib.hid (show OT w9 w.heap.size v' (Trk.pk (l.take (k + 1))) by rw [HSN.out]; show OT w9 _ _ [c]; exact r1)
     have HB9 := Lib.hid (HB.out.trans r2)
     clear r1 r2 r3 r4 hbx
     go_wp2_with fail
     go_roundw
     case rel => exact ⟨k + 1, by omega, by simp, HR.out, HB9.out⟩
     case measure =>
      show N - (intOf (.int .i64 ((k : Int) + 1))).toNat < N - (intOf (.int .i64 (k : Int))).toNat
      simp [intOf]
      omega
    ·simp only [List.length_nil] at HO HNO ⊢
     have z21 := HV.out.c.k21
     have zf := HV.out.f
     simp only [Nat.zero_add] at z21
     go_upto_region 11 with (go_at_call 91; refine (clone_nil _).mono ?_; rintro e w' ⟨rfl, rfl⟩)
     replace HO := Lib.hid (HO.out.apart (p := ⟨g, 21, none⟩) (fun g' k' cap' e => Nat.ne_of_gt (HNO.out g' cap' k' e)) (.slice none 0 0))
     replace HB := Lib.hid (HB.out.setCell (p := ⟨g, 21, none⟩) hgn (.slice none 0 0))
     replace HV := Lib.hid HV.out.set_nil
     clear z21 zf
     obtain ⟨w8, hw8⟩ : ∃ y, y = w3.setCell ⟨g, 21, none⟩ (.slice none 0 0) := ⟨_, rfl⟩
     rw [← hw8] at HO HB HV ⊢
     clear hw8
     apply wp_region_lit
     iterate 3 go_step
     refine wpl_load HV.out.c rfl rfl rfl ?_
     rw [← HCC.out]
     simp only [Act.put, List.setIfInBounds_toArray, List.set_cons_succ, List.set_cons_zero]
     refine Great.wpList_buildSliceTo rfl 23 48 1 #[(0, .tmp 42)] rfl w8.heap.size rfl _ rfl Tryz.underlying23 C ?_ ?_
     ·simp only [List.map_toArray, List.map_cons, List.map_nil, List.toList_toArray]
      rw [HCC.out]
      exact built_clip c
     have hb : Below w8.heap.size w8 (w8.alloc (.cells C 48)) := below_box _ _
     have hbx : CA (w8.alloc (.cells C 48)) w8.heap.size 0 c := by rw [HCC.out]; exact CA.box w8 c 48
     replace HO := Lib.hid (HO.out.below hb)
     replace HB := Lib.hid (HB.out.trans (hb.mono HB.out.size))
     clear hb
     simp only [Act.put, List.setIfInBounds_toArray, List.set_cons_succ, List.set_cons_zero]
     refine wpList_appT 23 Tryz.underlying23 _ rfl (.tmp 41) (.tmp 43) rfl rfl w.heap.size (.slice (some ⟨g2, 0, none⟩) 0 cp) [] rfl HO.out HB.out.size w8.heap.size 1 c rfl hbx (by first | (simp; done) | (have := HN.out; simp; omega)) ?_
     intro v' w9 r1 r2 r3 r4
     simp only [Act.put, List.setIfInBounds_toArray, List.set_cons_succ, List.set_cons_zero]
     have HR := Lib.hid (show OT w9 w.heap.size v' (Trk.pk (l.take (k + 1))) by rw [HSN.out]; show OT w9 _ _ [c]; exact r1)
     have HB9 := Lib.hid (HB.out.trans r2)
     clear r1 r2 r3 r4 hbx
     go_wp2_with fail
     go_roundw
     case rel => exact ⟨k + 1, by omega, by simp, HR.out, HB9.out⟩
     case measure =>
      show N - (intOf (.int .i64 ((k : Int) + 1))).toNat < N - (intOf (.int .i64 (k : Int))).toNat
      simp [intOf]
      omega
   | some p =>
    have hq := Trk.getLast_split hp
    obtain ⟨q, hq2⟩ : ∃ q, q = P.dropLast := ⟨_, rfl⟩
    rw [← hq2] at hq
    clear hp hq2
    subst hq
    obtain ⟨_, e0⟩ | ⟨g2, cp, rfl⟩ := HO.out.shape
    ·simp at e0
    have hng : g2 ≠ g := Nat.ne_of_lt (HNO.out g2 cp _ rfl)
    have hlen : (q ++ [p]).length = q.length + 1 := by simp
    have hvp := HVP.out p (by simp)
    have hpt : p.len + c.len ≤ 2147483647 := by
     have h1 := HTC.out
     rw [Trk.total_append] at h1
     have h2 := Trk.total_nonneg (l := q) (fun x hx => (HVP.out x (List.mem_append_left _ hx)).good)
     have h3 : Trk.total [p] = p.len := by show p.len + 0 = _; omega
     omega
    have HVT := Lib.hid (show VT L [p, c] from ⟨Trk.VL.cons hvp (Trk.VL.cons HVC.out Trk.VL.nil), by simp, by show p.len + (c.len + 0) ≤ _; omega⟩)
    rw [hlen] at HO hpl HNO ⊢
    obtain ⟨hB2, _, _, hcs⟩ := HO.out.own
    have HCP := Lib.hid (hcs q.length p (by simp))
    obtain ⟨n, hn⟩ : ∃ n, n = q.length := ⟨_, rfl⟩
    rw [← hn] at HO HCP hpl HNO ⊢
    have hcp : n + 1 ≤ cp := by
     obtain ⟨ao, c', e, h1, h2, _⟩ := HO.out.tk
     simp only [Value.slice.injEq] at e
     rw [hlen, ← hn] at h1
     omega
    have HN := Lib.hid hn
    have HP2 := Lib.hid (pk_two p c)
    clear hcs hn hlen hvp hpt
    go_upto_region 7 with fail
    refine Plan.wp_region_plan (fun w' => CV w' g c ∧ CA w' g2 (n * 22) p) (([0, 1, 2, 3, 4, 5].map (·, true)) ++ (([6, 7].map (·, false)) ++ ([8].map (·, true)))) (by kernel_rfl) (by kernel_rfl) (by kernel_rfl) ⟨HV.out.below (Below.refl _ _).drew, HCP.out.below (Below.refl _ _).drew⟩ ?_
    refine' Plan.plan_seg _ [0, 1, 2, 3, 4, 5] (([6, 7].map (·, false)) ++ ([8].map (·, true))) (by kernel_rfl) (by kernel_rfl) rfl (by exact ⟨HV.out.below (Below.refl _ _).drew, HCP.out.below (Below.refl _ _).drew⟩) (fun wx hS => ?_) ?_
    rotate_left
    ·obtain ⟨S1, S2⟩ := hS
     have HS1 := Lib.hid S1
     have HS2 := Lib.hid S2
     clear S1 S2
     go_light
     iterate 4 (apply Plan.seg_pick; rfl; intro K hK; go_wp)
     (apply Plan.seg_pick; rfl; intro K hK)
     refine wpl_load HS2.out rfl rfl rfl ?_
     go_wp
     (apply Plan.seg_pick; rfl; intro K hK)
     refine wpl_load HS1.out.c rfl rfl rfl ?_
     rw [← HCC.out]
     go_wp
     exact Plan.seg_nil
    obtain ⟨w4, hw4⟩ : ∃ x, x = w3.drew := ⟨_, rfl⟩
    rw [← hw4]
    have hb : Below w3.heap.size w3 w4 := by rw [hw4]; exact (Below.refl _ _).drew
    replace HV := Lib.hid (HV.out.below hb)
    replace HCP := Lib.hid (HCP.out.below hb)
    replace HO := Lib.hid (HO.out.below hb)
    replace HB := Lib.hid (HB.out.trans (hb.mono HB.out.size))
    clear hb hw4
    simp only [Act.put, List.setIfInBounds_toArray, List.set_cons_succ, List.set_cons_zero]
    refine Plan.plan_of_effect rfl (fun K hK => ?_)
    refine Great.wpList_buildSliceTo rfl 23 48 2 #[(0, .tmp 23), (1, .tmp 24)] rfl w4.heap.size rfl (some 25) rfl Tryz.underlying23 (cells [p, c]).toArray ?_ ?_
    ·simp only [List.map_toArray, List.map_cons, List.map_nil, List.toList_toArray]
     rw [HCC.out]
     exact built_two p c
    have hb := below_box w4 (.cells (cells [p, c]).toArray 48)
    have HTJ := Lib.hid (OT.of w4 [p, c] (by simp)).tk
    obtain ⟨w5, hw5⟩ : ∃ x, x = w4.alloc (.cells (cells [p, c]).toArray 48) := ⟨_, rfl⟩
    rw [← hw5] at hb HTJ ⊢
    replace HV := Lib.hid (HV.out.below hb)
    replace HCP := Lib.hid (HCP.out.below hb)
    replace HO := Lib.hid (HO.out.below hb)
    replace HB := Lib.hid (HB.out.trans (hb.mono HB.out.size))
    obtain ⟨h4, hh4⟩ : ∃ x, x = w4.heap.size := ⟨_, rfl⟩
    rw [← hh4] at HTJ ⊢
    clear hb hw5 hh4
    simp only [Act.put, List.setIfInBounds_toArray, List.set_cons_succ, List.set_cons_zero, List.length_cons, List.length_nil, Nat.zero_add, Nat.reduceAdd] at HTJ ⊢
    go_wp2_with fail
    refine ⟨⟨HV.out, HCP.out⟩, ?_⟩
    refine Plan.plan_of_effect rfl (fun K hK => ?_)
    go_wp2_with fail
    refine (packs_any _ [p, c] _ HTJ.out HVT.out hL).mono ?_
    rintro e w6 ⟨vj, rfl, hoj, hb⟩
    replace HV := Lib.hid (HV.out.below hb)
    replace HCP := Lib.hid (HCP.out.below hb)
    replace HO := Lib.hid (HO.out.below hb)
    replace HB := Lib.hid (HB.out.trans (hb.mono HB.out.size))
    have HJ := Lib.hid hoj
    clear hb hoj HTJ
    go_wp2_with fail
    refine ⟨⟨HV.out, HCP.out⟩, ?_⟩
    refine' Plan.plan_seg _ [8] [] (by kernel_rfl) (by kernel_rfl) rfl (by exact ⟨HV.out, HCP.out⟩) (fun wx hS => ?_) ?_
    rotate_left
    ·clear hS
     go_light
     iterate 1 (apply Plan.seg_pick; rfl; intro K hK; go_wp)
     exact Plan.seg_nil
    refine Plan.plan_done ?_
    by_cases hct : Trk.cont c p
    ·obtain ⟨x, hx⟩ : ∃ x, x = Trk.withLen p (p.len + c.len) := ⟨_, rfl⟩
     have hsn2 : Trk.pk (l.take (k + 1)) = q ++ [x] := by
      rw [HSN.out, hx]
      unfold Trk.snoc
      simp only [List.getLast?_append, List.getLast?_singleton, Option.some_or, List.dropLast_concat]
      rw [if_pos hct]
     rw [HP2.out, if_pos hct, ← hx] at HJ
     have HS2 := Lib.hid hsn2
     clear hsn2 hct hx HP2
     obtain ⟨_, e0⟩ | ⟨gj, cj, rfl⟩ := HJ.out.shape
     ·simp at e0
     have HJ0 := Lib.hid (HJ.out.own.2.2.2 0 x rfl)
     have hcj : 1 ≤ cj := by
      obtain ⟨ao, c', e, h1, h2, _⟩ := HJ.out.tk
      simp only [Value.slice.injEq] at e
      simp only [List.length_cons, List.length_nil] at h1
      omega
     simp only [List.length_cons, List.length_nil, Nat.zero_add, Nat.zero_mul] at HJ HJ0 ⊢
     go_upto_region 9 with fail
     apply wp_region_lit
     iterate 15 go_step
     refine wpl_load HJ0.out rfl rfl rfl ?_
     simp only [Act.put, List.setIfInBounds_toArray, List.set_cons_succ, List.set_cons_zero]
     iterate 3 go_step
     refine wpl_storeLast x HO.out rfl rfl (by rw [← HN.out]; rfl) rfl ?_
     intro w7 r1 r2 r3
     simp only [Act.put, List.setIfInBounds_toArray, List.set_cons_succ, List.set_cons_zero]
     have HR := Lib.hid (show OT w7 w.heap.size (.slice (some ⟨g2, 0, none⟩) (n + 1) cp) (Trk.pk (l.take (k + 1))) by rw [HS2.out]; exact r1)
     have HB9 := Lib.hid (r3 _ _ hB2 HB.out)
     clear r1 r2 r3
     obtain ⟨XC, hXC⟩ : ∃ X, X = (clipC x).toArray := ⟨_, rfl⟩
     rw [← hXC]
     clear hXC
     go_wp2_with fail
     go_roundw
     case rel => exact ⟨k + 1, by omega, by simp, HR.out, HB9.out⟩
     case measure =>
      show N - (intOf (.int .i64 ((k : Int) + 1))).toNat < N - (intOf (.int .i64 (k : Int))).toNat
      simp [intOf]
      omega
    ·have hsn2 : Trk.snoc (q ++ [p]) c = q ++ [p] ++ [c] := by
      unfold Trk.snoc
      simp only [List.getLast?_append, List.getLast?_singleton, Option.some_or, List.dropLast_concat]
      rw [if_neg hct]
     rw [HP2.out, if_neg hct] at HJ
     have HS2 := Lib.hid hsn2
     clear hsn2 hct HP2
     obtain ⟨_, e0⟩ | ⟨gj, cj, rfl⟩ := HJ.out.shape
     ·simp at e0
     simp only [List.length_cons, List.length_nil, Nat.zero_add, Nat.reduceAdd] at HJ ⊢
     have z21 := HV.out.c.k21
     have zf := HV.out.f
     simp only [Nat.zero_add] at z21
     go_upto_region 11 with (go_at_call 91; refine (clone_nil _).mono ?_; rintro e w' ⟨rfl, rfl⟩)
     replace HO := Lib.hid (HO.out.apart (p := ⟨g, 21, none⟩) (fun g' k' cap' e => Nat.ne_of_gt (HNO.out g' cap' k' e)) (.slice none 0 0))
     replace HB := Lib.hid (HB.out.setCell (p := ⟨g, 21, none⟩) hgn (.slice none 0 0))
     replace HV := Lib.hid HV.out.set_nil
     clear z21 zf
     obtain ⟨w8, hw8⟩ : ∃ y, y = w6.setCell ⟨g, 21, none⟩ (.slice none 0 0) := ⟨_, rfl⟩
     rw [← hw8] at HO HB HV ⊢
     clear hw8
     apply wp_region_lit
     iterate 3 go_step
     refine wpl_load HV.out.c rfl rfl rfl ?_
     rw [← HCC.out]
     simp only [Act.put, List.setIfInBounds_toArray, List.set_cons_succ, List.set_cons_zero]
     refine Great.wpList_buildSliceTo rfl 23 48 1 #[(0, .tmp 42)] rfl w8.heap.size rfl _ rfl Tryz.underlying23 C ?_ ?_
     ·simp only [List.map_toArray, List.map_cons, List.map_nil, List.toList_toArray]
      rw [HCC.out]
      exact built_clip c
     have hb : Below w8.heap.size w8 (w8.alloc (.cells C 48)) := below_box _ _
     have hbx : CA (w8.alloc (.cells C 48)) w8.heap.size 0 c := by rw [HCC.out]; exact CA.box w8 c 48
     replace HO := Lib.hid (HO.out.below hb)
     replace HB := Lib.hid (HB.out.trans (hb.mono HB.out.size))
     clear hb
     simp only [Act.put, List.setIfInBounds_toArray, List.set_cons_succ, List.set_cons_zero]
     refine wpList_appT 23 Tryz.underlying23 _ rfl (.tmp 41) (.tmp 43) rfl rfl w.heap.size (.slice (some ⟨g2, 0, none⟩) (n + 1) cp) (q ++ [p]) rfl HO.out HB.out.size w8.heap.size 1 c rfl hbx (by first | (simp; done) | (have := HN.out; simp; omega)) ?_
     intro v' w9 r1 r2 r3 r4
     simp only [Act.put, List.setIfInBounds_toArray, List.set_cons_succ, List.set_cons_zero]
     have HR := Lib.hid (show OT w9 w.heap.size v' (Trk.pk (l.take (k + 1))) by rw [HSN.out]; rw [HS2.out]; exact r1)
     have HB9 := Lib.hid (HB.out.trans r2)
     clear r1 r2 r3 r4 hbx
     go_wp2_with fail
     go_roundw
     case rel => exact ⟨k + 1, by omega, by simp, HR.out, HB9.out⟩
     case measure =>
      show N - (intOf (.int .i64 ((k : Int) + 1))).toNat < N - (intOf (.int .i64 (k : Int))).toNat
      simp [intOf]
      omega
  ·have hkl : k = N := by omega
   have e : l.take k = l := List.take_of_length_le (by rw [← HLe.out]; omega)
   rw [e] at ho hpl
   have HO := Lib.hid ho
   have HB := Lib.hid hb
   obtain ⟨P, hP⟩ : ∃ P, P = Trk.pk l := ⟨_, rfl⟩
   rw [← hP] at HO hpl
   have HPE := Lib.hid hP
   clear ho hb e hP hvp hpo hvk htk HT HG
   subst hkl
   obtain ⟨rfl, rfl⟩ | ⟨g, cq, rfl⟩ := HO.out.shape
   ·go_wp2_with fail
    go_ret
    rw [← HPE.out]
    exact ⟨_, rfl, HO.out, HB.out⟩
   ·cases hp : P.getLast? with
    | none =>
     have e0 : P = [] := List.getLast?_eq_none_iff.1 hp
     subst e0
     clear hp
     simp only [List.length_nil] at HO ⊢
     go_wp2_with fail
     go_ret
     rw [← HPE.out]
     exact ⟨_, rfl, HO.out, HB.out⟩
    | some p =>
     have hs := Trk.getLast_split hp
     have HD := Lib.hid (show Trk.dropGap P = if p.kind = 0 then P.dropLast else P by unfold Trk.dropGap; rw [hp])
     obtain ⟨q, hq⟩ : ∃ q, q = P.dropLast := ⟨_, rfl⟩
     rw [← hq] at hs HD
     clear hp hq
     subst hs
     have hlen : (q ++ [p]).length = q.length + 1 := by simp
     rw [hlen] at hpl HO ⊢
     obtain ⟨hB2, _, _, hcs⟩ := HO.out.own
     have HCP := Lib.hid (hcs q.length p (by simp))
     have HDR := Lib.hid HO.out.drop
     obtain ⟨n, hn2⟩ : ∃ n, n = q.length := ⟨_, rfl⟩
     rw [← hn2] at hpl HO HCP HDR ⊢
     have hcap : n + 1 ≤ cq := by
      obtain ⟨ao, c', e, h1, h2, _⟩ := HO.out.tk
      simp only [Value.slice.injEq] at e
      rw [hlen, ← hn2] at h1
      omega
     have z1 := HCP.out.k1
     clear hlen hcs hn2 HCP
     by_cases hk0 : p.kind = 0
     ·have HR := Lib.hid (HD.out.trans (if_pos hk0))
      rw [hk0] at z1
      clear hk0 HD
      go_wp2_with fail
      go_ret
      rw [← HPE.out, HR.out]
      exact ⟨_, rfl, HDR.out, HB.out⟩
     ·have HR := Lib.hid (HD.out.trans (if_neg hk0))
      clear HD
      go_wp2_with fail
      go_ret
      rw [← HPE.out, HR.out]
      exact ⟨_, rfl, HO.out, HB.out⟩
def edC (k p n c d sn sd : Int) (v : Value) : Array Value := #[.int .i64 k, .int .i64 p, .int .i64 n, .int .i64 c, .int .i64 d, .int .i64 sn, .int .i64 sd, v]
def edV (k p n c d sn sd : Int) (v : Value) : Value := .agg (edC k p n c d sn sd v)
structure ED (w : World) (b : Nat) (k p n c d sn sd : Int) (v : Value) : Prop where
 k0 : w.cell? ⟨b, 0, none⟩ = some (.int .i64 k)
 k1 : w.cell? ⟨b, 1, none⟩ = some (.int .i64 p)
 k2 : w.cell? ⟨b, 2, none⟩ = some (.int .i64 n)
 k3 : w.cell? ⟨b, 3, none⟩ = some (.int .i64 c)
 k4 : w.cell? ⟨b, 4, none⟩ = some (.int .i64 d)
 k5 : w.cell? ⟨b, 5, none⟩ = some (.int .i64 sn)
 k6 : w.cell? ⟨b, 6, none⟩ = some (.int .i64 sd)
 k7 : w.cell? ⟨b, 7, none⟩ = some v
 fz : ∀ o, w.frozen? ⟨b, o, none⟩ = false
theorem ED.lt {w : World} {b : Nat} {k p n c d sn sd : Int} {v : Value} (h : ED w b k p n c d sn sd v) : b < w.heap.size := block_lt_of_cell h.k0
theorem ED.lim {w w' : World} {m b : Nat} {k p n c d sn sd : Int} {v : Value} (h : ED w b k p n c d sn sd v) (hb : Below m w w') (hm : b < m) : ED w' b k p n c d sn sd v :=
 ⟨(hb.cell hm).trans h.k0, (hb.cell hm).trans h.k1, (hb.cell hm).trans h.k2, (hb.cell hm).trans h.k3, (hb.cell hm).trans h.k4, (hb.cell hm).trans h.k5, (hb.cell hm).trans h.k6, (hb.cell hm).trans h.k7, fun o => (hb.frozen (p := ⟨b, o, none⟩) hm).trans (h.fz o)⟩
theorem ED.below {w w' : World} {b : Nat} {k p n c d sn sd : Int} {v : Value} (h : ED w b k p n c d sn sd v) (hb : Below w.heap.size w w') : ED w' b k p n c d sn sd v := h.lim hb h.lt
theorem ED.box (w : World) (k p n c d sn sd : Int) (v : Value) (hv : v.oneCell' = true) (t : TypeId) : ED (w.alloc (.cells #[.int .i64 k, .int .i64 p, .int .i64 n, .int .i64 c, .int .i64 d, .int .i64 sn, .int .i64 sd, v] t)) w.heap.size k p n c d sn sd v := by
 constructor <;> simp [go_sem]
theorem ED.other {w : World} {b : Nat} {k p n c d sn sd : Int} {v : Value} (h : ED w b k p n c d sn sd v) {b2 : Nat} (hne : b ≠ b2) (o : Nat) (u : Value) : ED (w.setCell ⟨b2, o, none⟩ u) b k p n c d sn sd v := by
 have hs : (w.setCell ⟨b2, o, none⟩ u).heap[b]? = w.heap[b]? := by simp [World.setCell, Array.getElem?_modify, hne.symm]
 exact ⟨(World.cell?_of_block (a := ⟨b, 0, none⟩) hs).trans h.k0, (World.cell?_of_block (a := ⟨b, 1, none⟩) hs).trans h.k1, (World.cell?_of_block (a := ⟨b, 2, none⟩) hs).trans h.k2, (World.cell?_of_block (a := ⟨b, 3, none⟩) hs).trans h.k3, (World.cell?_of_block (a := ⟨b, 4, none⟩) hs).trans h.k4, (World.cell?_of_block (a := ⟨b, 5, none⟩) hs).trans h.k5, (World.cell?_of_block (a := ⟨b, 6, none⟩) hs).trans h.k6, (World.cell?_of_block (a := ⟨b, 7, none⟩) hs).trans h.k7, fun o' => (World.frozen?_setCell _ _ _ _).trans (h.fz o')⟩
def edPut (w : World) (b : Nat) (k p n c d sn sd : Int) (v : Value) : World := (((((((w.setCell ⟨b, 0, none⟩ (.int .i64 k)).setCell ⟨b, 1, none⟩ (.int .i64 p)).setCell ⟨b, 2, none⟩ (.int .i64 n)).setCell ⟨b, 3, none⟩ (.int .i64 c)).setCell ⟨b, 4, none⟩ (.int .i64 d)).setCell ⟨b, 5, none⟩ (.int .i64 sn)).setCell ⟨b, 6, none⟩ (.int .i64 sd)).setCell ⟨b, 7, none⟩ v
theorem ED.put {w : World} {b : Nat} {k p n c d sn sd : Int} {v : Value} (h : ED w b k p n c d sn sd v) (k' p' n' c' d' sn' sd' : Int) (v' : Value) : ED (edPut w b k' p' n' c' d' sn' sd' v') b k' p' n' c' d' sn' sd' v' := by
 obtain ⟨x0, x1, x2, x3, x4, x5, x6, x7, f⟩ := h
 unfold edPut
 exact ⟨by simp [go_sem, x0, x1, x2, x3, x4, x5, x6, x7], by simp [go_sem, x0, x1, x2, x3, x4, x5, x6, x7], by simp [go_sem, x0, x1, x2, x3, x4, x5, x6, x7], by simp [go_sem, x0, x1, x2, x3, x4, x5, x6, x7], by simp [go_sem, x0, x1, x2, x3, x4, x5, x6, x7], by simp [go_sem, x0, x1, x2, x3, x4, x5, x6, x7], by simp [go_sem, x0, x1, x2, x3, x4, x5, x6, x7], by simp [go_sem, x0, x1, x2, x3, x4, x5, x6, x7], fun o => by simp only [World.frozen?_setCell]; exact f o⟩
theorem Tk.lim {w w' : World} {n : Nat} {v : Value} {l : List Trk.Clip} (h : Tk w v l) (hb : Below n w w') (hn : ∀ b o k c, v = .slice (some ⟨b, o, none⟩) k c → b < n) : Tk w' v l := by
 obtain ⟨ao, cap, rfl, h1, h2, h3⟩ := h
 refine ⟨ao, cap, rfl, h1, h2, fun i c hc => ?_⟩
 obtain ⟨b, o, rfl, hA⟩ := h3 i c hc
 exact ⟨b, o, rfl, hA.same (hb.block b (hn b o _ _ rfl))⟩
theorem ED.same {w w' : World} {b : Nat} {k p n c d sn sd : Int} {v : Value} (h : ED w b k p n c d sn sd v) (hs : w'.heap[b]? = w.heap[b]?) : ED w' b k p n c d sn sd v :=
 ⟨(World.cell?_of_block (a := ⟨b, 0, none⟩) hs).trans h.k0, (World.cell?_of_block (a := ⟨b, 1, none⟩) hs).trans h.k1, (World.cell?_of_block (a := ⟨b, 2, none⟩) hs).trans h.k2, (World.cell?_of_block (a := ⟨b, 3, none⟩) hs).trans h.k3, (World.cell?_of_block (a := ⟨b, 4, none⟩) hs).trans h.k4, (World.cell?_of_block (a := ⟨b, 5, none⟩) hs).trans h.k5, (World.cell?_of_block (a := ⟨b, 6, none⟩) hs).trans h.k6, (World.cell?_of_block (a := ⟨b, 7, none⟩) hs).trans h.k7, fun o => (World.frozen?_of_block (a := ⟨b, o, none⟩) hs).trans (h.fz o)⟩
theorem OT.blk {w : World} {B g k cap : Nat} {v : Value} {l : List Trk.Clip} (h : OT w B v l) (e : v = .slice (some ⟨g, 0, none⟩) k cap) : B ≤ g ∧ g < w.heap.size := by
 subst e
 exact ⟨h.own.1, h.own.2.1⟩
theorem cutRaw_np (l : List Trk.Clip) (f : Int) {n : Int} (hn : n ≤ 0) : Trk.cutRaw l f n = [] := by
 cases l with
 | nil => unfold Trk.cutRaw; rw [if_neg (by omega)]
 | cons c l => unfold Trk.cutRaw; rw [if_pos hn]
def EdV (e : Trk.Ed) (u : Value) : Value := edV e.k e.p e.m e.c e.d e.sn e.sd u
def EdPost (w : World) (n l : List Trk.Clip) (a b uk : Int) (e : Ending) (w' : World) : Prop :=
 ∃ v' vr, e = .returned (.tuple #[v', EdV (Trk.backOf n a b uk) vr, .int .i64 0]) ∧ OT w' w.heap.size v' l ∧ OT w' w.heap.size vr (Trk.backOf n a b uk).ins ∧ Below w.heap.size w w'
structure E2 (w : World) (g1 g2 : Nat) (k p m c d sn sd : Int) (u : Value) : Prop where
 a : ED w g1 k p m c d sn sd u
 r : ED w g2 0 0 0 0 0 0 0 (.slice none 0 0)
theorem E2.below {w w' : World} {g1 g2 : Nat} {k p m c d sn sd : Int} {u : Value} (h : E2 w g1 g2 k p m c d sn sd u) (hb : Below w.heap.size w w') : E2 w' g1 g2 k p m c d sn sd u := ⟨h.a.below hb, h.r.below hb⟩
structure UK (n ins put rl : List Trk.Clip) (k uk p T rem mm : Int) : Prop where
 a : k = 1 → uk = 2 ∧ mm = T ∧ rl = [] ∧ put = ins
 b : k = 2 → uk = 1 ∧ mm = 0 ∧ rl = Trk.cut n p (p + rem) ∧ put = []
 c : k = 3 → uk = 3 ∧ mm = 0 ∧ rl = Trk.cut n p (p + rem) ∧ put = ins
 d : k = 4 → uk = 3 ∧ mm = 0 ∧ rl = Trk.cut n p (p + rem) ∧ put = Trk.gapL T
theorem UK.of {n ins put rl : List Trk.Clip} {k uk p T rem mm m : Int} (huk : uk = Trk.undoK k) (hmm : mm = if uk = 2 then p + T - p else 0) (hrl : rl = if uk = 2 then [] else Trk.cut n p (p + T)) (hr : rem = if k = 1 then 0 else T)
  (hp : put = if k = 4 then [Trk.gap m] else ins) (hm : k = 2 ∨ k = 4 → T = m ∧ ins = []) (ht : 1 ≤ T) : UK n ins put rl k uk p T rem mm := by
 unfold Trk.undoK at huk
 constructor
 ·rintro rfl
  have hu : uk = 2 := huk
  subst hu
  exact ⟨rfl, by rw [hmm, if_pos rfl]; omega, by rw [hrl, if_pos rfl], by rw [hp, if_neg (by decide)]⟩
 ·rintro rfl
  have hu : uk = 1 := huk
  subst hu
  rw [if_neg (by decide)] at hr hmm hrl hp
  exact ⟨rfl, hmm, by rw [hrl, hr], by rw [hp, (hm (.inl rfl)).2]⟩
 ·rintro rfl
  have hu : uk = 3 := huk
  subst hu
  rw [if_neg (by decide)] at hr hmm hrl hp
  exact ⟨rfl, hmm, by rw [hrl, hr], hp⟩
 ·rintro rfl
  have hu : uk = 3 := huk
  subst hu
  rw [if_neg (by decide)] at hr hmm hrl
  rw [if_pos rfl] at hp
  refine ⟨rfl, hmm, by rw [hrl, hr], ?_⟩
  rw [hp, ← (hm (.inr rfl)).1]
  unfold Trk.gapL
  rw [if_pos (by omega)]
def T26 (w : World) (b : Nat) : Prop := ∃ cs p, w.heap[b]? = some (.cells cs 40 p)
theorem T26.set {w : World} {b : Nat} (h : T26 w b) (p : Addr) (u : Value) : T26 (w.setCell p u) b := by
 obtain ⟨cs, q, hc⟩ := h
 by_cases hb : p.block = b
 ·subst hb
  simp only [T26, World.setCell, Array.getElem?_modify, hc, if_true, Option.map_some]
  exact ⟨_, _, rfl⟩
 ·refine ⟨cs, q, ?_⟩
  simp [World.setCell, Array.getElem?_modify, hb, hc]
theorem T26.put {w : World} {b : Nat} (h : T26 w b) (g : Nat) (k p n c d sn sd : Int) (u : Value) : T26 (edPut w g k p n c d sn sd u) b := by
 unfold edPut
 exact (((((((h.set _ _).set _ _).set _ _).set _ _).set _ _).set _ _).set _ _).set _ _
theorem T26.same {w w' : World} {b : Nat} (h : T26 w b) (hs : w'.heap[b]? = w.heap[b]?) : T26 w' b := by
 obtain ⟨cs, q, hc⟩ := h
 exact ⟨cs, q, hs.trans hc⟩
theorem T26.ne {w : World} {b B : Nat} {v : Value} {l : List Trk.Clip} (h : T26 w b) (ho : OT w B v l) : ∀ g kk cap, v = .slice (some ⟨g, 0, none⟩) kk cap → b ≠ g := by
 intro g kk cap e hbg
 subst hbg
 subst e
 obtain ⟨cs, q, hc⟩ := h
 rcases ho with ⟨e, _⟩ | ⟨g', cap', cur, e, hB, hg, _⟩
 ·simp at e
 ·simp only [Value.slice.injEq, Option.some.injEq, Addr.mk.injEq, and_true, true_and] at e
  obtain ⟨rfl, rfl, rfl⟩ := e
  rw [hc] at hg
  simp at hg
theorem ED.range {w : World} {b : Nat} {k p n c d sn sd : Int} {v : Value} (h : ED w b k p n c d sn sd v) : w.rangeAt b 0 (edC k p n c d sn sd v).toList := by
 intro j u hj
 have hl : j < 8 := (List.getElem?_eq_some_iff.1 hj).1
 rcases (show j = 0 ∨ j = 1 ∨ j = 2 ∨ j = 3 ∨ j = 4 ∨ j = 5 ∨ j = 6 ∨ j = 7 by omega) with rfl | rfl | rfl | rfl | rfl | rfl | rfl | rfl
 all_goals simp only [edC, List.getElem?_cons_zero, List.getElem?_cons_succ, Option.some.injEq] at hj; subst hj
 ·exact h.k0
 ·exact h.k1
 ·exact h.k2
 ·exact h.k3
 ·exact h.k4
 ·exact h.k5
 ·exact h.k6
 ·exact h.k7
theorem results_ed {fn : Func} {tmps : Array Value} {w : World} {s t r : Tmp} {b : Nat} {k p n c d sn sd : Int} {v x y : Value} (hr : fn.results = #[.tmp s, .cell t 40, .tmp r]) (hs : tmps.getD s undef = x) (ht : tmps.getD t undef = .pointer (some ⟨b, 0, none⟩)) (hy : tmps.getD r undef = y)
  (hc : ED w b k p n c d sn sd v) (hv : (∃ ao m cp, v = .slice ao m cp)) : (results fn tmps).run Tryz.prog w = .ok (.tuple #[x, edV k p n c d sn sd v, y]) w := by
 obtain ⟨ao, m, cp, rfl⟩ := hv
 have h := run_loadVar_mid (P := Tryz.prog) w b 0 40 (edC k p n c d sn sd (.slice ao m cp)).toList _ hc.range Tryz.underlying40 rfl (by kernel_rfl)
 obtain ⟨C, hC⟩ : ∃ C, C = (edC k p n c d sn sd (.slice ao m cp)).toList.toArray := ⟨_, rfl⟩
 rw [← hC] at h
 unfold results
 rw [hr]
 have ht2 : tmps[t]?.getD undef = .pointer (some ⟨b, 0, none⟩) := by rw [← Array.getD_eq_getD_getElem?]; exact ht
 have hs2 : tmps[s]?.getD undef = x := by rw [← Array.getD_eq_getD_getElem?]; exact hs
 have hy2 : tmps[r]?.getD undef = y := by rw [← Array.getD_eq_getD_getElem?]; exact hy
 simp [ht2, hs2, hy2, asAddr, h]
 rw [hC]
 rfl
theorem OT.blocks {w w' : World} {B : Nat} {v : Value} {l : List Trk.Clip} (h : OT w B v l) (hs : ∀ g kk cap, v = .slice (some ⟨g, 0, none⟩) kk cap → w'.heap[g]? = w.heap[g]?) : OT w' B v l := by
 obtain ⟨rfl, rfl⟩ | ⟨g, cap, rfl⟩ := h.shape
 ·exact OT.nil _ _
 ·exact h.same (hs g _ _ rfl)
theorem setCells_other (b b2 : Nat) (hn : b2 ≠ b) : ∀ (vs : List Value) (o : Nat) (w : World), (w.setCells b o vs).heap[b2]? = w.heap[b2]?
 | [], _, _ => rfl
 | v :: r, o, w => by
  rw [World.setCells, setCells_other b b2 hn r (o + 1)]
  simp [World.setCell, Array.getElem?_modify, hn.symm]
theorem size_setCells (b : Nat) : ∀ (vs : List Value) (o : Nat) (w : World), (w.setCells b o vs).heap.size = w.heap.size
 | [], _, _ => rfl
 | v :: r, o, w => by rw [World.setCells, size_setCells b r (o + 1), World.size_setCell]
theorem T26.cells {b : Nat} : ∀ (vs : List Value) (o g : Nat) (w : World), T26 w b → T26 (w.setCells g o vs) b
 | [], _, _, _, h => h
 | v :: r, o, g, w, h => by rw [World.setCells]; exact T26.cells r (o + 1) g _ (h.set _ _)
theorem ED.there {w : World} {b : Nat} {k p n c d sn sd : Int} {v : Value} (h : ED w b k p n c d sn sd v) : w.there b 0 8 := fun j hj => ⟨by
 have hj' : j < (edC k p n c d sn sd v).toList.length := hj
 rw [h.range j _ (List.getElem?_eq_getElem hj')]; rfl, h.fz _⟩
theorem ED.ofRange {w : World} {b : Nat} {k p n c d sn sd : Int} {v : Value} (h : w.rangeAt b 0 (edC k p n c d sn sd v).toList) (hf : ∀ o, w.frozen? ⟨b, o, none⟩ = false) : ED w b k p n c d sn sd v :=
 ⟨h 0 _ rfl, h 1 _ rfl, h 2 _ rfl, h 3 _ rfl, h 4 _ rfl, h 5 _ rfl, h 6 _ rfl, h 7 _ rfl, hf⟩
theorem wpList_appTo (w : World) {ops : Array Oper} {rest : List Oper} {op : Oper} {a : Act} {Q : Exit → Act → World → Prop} (T1 T2 : TypeId) (dst : Option Tmp) (hd : op.dst = dst) (h1 : Tryz.prog.underlying T1 = some (.slice 48)) (h2 : Tryz.prog.underlying T2 = some (.slice 48)) (hg : op.guard = none) (s x : Operand)
  (hop : op.op = .call { callee := .builtin .append, args := #[s, x], argTypes := #[T1, T2] }) (B : Nat) (v u : Value) (l m : List Trk.Clip) (hs : a.eval s = v) (hx : a.eval x = u) (h : OT w B v l) (hB : B ≤ w.heap.size) (hm : Tk w u m) (hl : l.length + m.length ≤ 1048576)
  (hK : ∀ v' w', OT w' B v' (l ++ m) → Below B w w' → (∀ b, b < w.heap.size → (∀ g cap, v = .slice (some ⟨g, 0, none⟩) l.length cap → b ≠ g) → w'.heap[b]? = w.heap[b]?) → w.heap.size ≤ w'.heap.size → wpList Tryz.prog ops Q rest (a.put dst v') w') : wpList Tryz.prog ops Q (op :: rest) a w := by
 subst hd
 exact wpList_appM w T1 T2 h1 h2 hg s x hop B v u l m hs hx h hB hm hl hK
theorem wpl_loadE {ops : Array Oper} {rest : List Oper} {op : Oper} {a : Act} {w : World} {Q : Exit → Act → World → Prop} {b : Nat} {k p n c d sn sd : Int} {ao : Option Addr} {m cp : Nat} {x : Operand} (hE : ED w b k p n c d sn sd (.slice ao m cp)) (hgd : op.guard = none) (ho : op.op = .load 40 x)
  (hx : a.eval x = .pointer (some ⟨b, 0, none⟩)) (h : wpList Tryz.prog ops Q rest (a.put op.dst (.agg (edC k p n c d sn sd (.slice ao m cp)))) w) : wpList Tryz.prog ops Q (op :: rest) a w :=
 wpList_load_mid hgd 40 x ho b 0 hx (edC k p n c d sn sd (.slice ao m cp)).toList _ hE.range Tryz.underlying40 rfl (by kernel_rfl) h
theorem wpl_storeE {ops : Array Oper} {rest : List Oper} {op : Oper} {a : Act} {w : World} {Q : Exit → Act → World → Prop} {b : Nat} {k p n c d sn sd : Int} {v : Value} (k' p' n' c' d' sn' sd' : Int) (ao : Option Addr) (m cp : Nat) {x y : Operand}
  (hE : ED w b k p n c d sn sd v) (hgd : op.guard = none) (ho : op.op = .store 40 x y) (hx : a.eval x = .pointer (some ⟨b, 0, none⟩)) (hy : a.eval y = .agg (edC k' p' n' c' d' sn' sd' (.slice ao m cp)))
  (h : ∀ w', ED w' b k' p' n' c' d' sn' sd' (.slice ao m cp) → (∀ b2, b2 ≠ b → w'.heap[b2]? = w.heap[b2]?) → w'.heap.size = w.heap.size → (∀ n w0, n ≤ b → Below n w0 w → Below n w0 w') → (T26 w b → T26 w' b) → wpList Tryz.prog ops Q rest (a.put op.dst undef) w') : wpList Tryz.prog ops Q (op :: rest) a w :=
 wpList_store_mid hgd 40 x y ho b 0 (edC k' p' n' c' d' sn' sd' (.slice ao m cp)) hx hy hE.there (by kernel_rfl) (by simp [edC, Value.oneCell'])
  (h _ (ED.ofRange (fun j u hj => World.rangeAt_setCells_same w b 0 (edC k' p' n' c' d' sn' sd' (.slice ao m cp)).toList hE.there j u hj) (fun o => (World.frozen?_setCells b _ _ w _).trans (hE.fz o)))
   (fun b2 hn => setCells_other b b2 hn _ _ _) (size_setCells b _ _ _) (fun n w0 hn hb => below_setCells b hn _ _ _ hb) (fun ht => T26.cells _ _ _ _ ht))
set_option maxRecDepth 100000 in
set_option maxHeartbeats 16000000 in
theorem ex_any {L : Int} (v u : Value) (n : List Trk.Clip) (e : Trk.Ed) (w : World) (h : Tk w v n) (hu : Tk w u e.ins) (hV : VT L n) (hI : VT L e.ins) (hL : L ≤ 140737488355328) (hn : n.length ≤ 63) (hx : e.Ex)
  (hee : (if e.k = 1 then max e.p (Trk.total n) else e.p) + e.T ≤ 2147483647) :
  Calls Tryz.prog 85 #[v, EdV e u] w (EdPost w n (e.exl n) e.p (e.p + e.T) (Trk.undoK e.k)) := by
 unfold EdV edV edC
 have HT := Lib.hid h
 have HU := Lib.hid hu
 have tn0 := Trk.total_nonneg hV.v.good
 have tn1 := hV.t
 have hk := hx.k
 have hTp := hx.t
 have hp0 := hx.p
 have hTi : (e.k = 1 ∨ e.k = 3) → e.T = Trk.total e.ins := fun h => by unfold Trk.Ed.T; rw [if_pos h]
 have hTm : (e.k = 2 ∨ e.k = 4) → e.T = e.m ∧ e.ins = [] := fun h => ⟨by unfold Trk.Ed.T; rw [if_neg (by omega)], hx.i h⟩
 have hrr : e.rem = if e.k = 1 then 0 else e.T := rfl
 have hr0 : 0 ≤ e.rem := hx.rem_nonneg
 have hpT : e.p + e.T ≤ 2147483647 := by split at hee <;> omega
 have hrT : e.rem ≤ e.T := by rw [hrr]; split <;> omega
 have hcl : ∀ a b, 0 ≤ a → a ≤ b → (Trk.cut n a b).length ≤ 64 := fun a b h0 h1 => by
  have := Trk.cut_length (l := n) hV.v.good h0 h1
  omega
 have hcl2 : ∀ a b, 0 ≤ a → (Trk.cut n a b).length ≤ 64 := fun a b h0 => by
  by_cases h1 : a ≤ b
  ·exact hcl a b h0 h1
  ·unfold Trk.cut
   rw [cutRaw_np _ _ (by omega)]
   simp [Trk.pk]
 have HTO := Lib.hid (fun w (h : Tk w v n) => etotal_any v n w h hV.v.good (by omega) (by omega))
 have HTI := Lib.hid (fun w (h : Tk w u e.ins) => etotal_any u e.ins w h hI.v.good (by have := hI.t; omega) (by have := hI.n; omega))
 have HC1 := Lib.hid (fun w (h : Tk w v n) => cut_any v n 0 (min e.p (Trk.total n)) w h hV hL (Int.le_refl 0) (by omega) (by omega) (hcl _ _ (Int.le_refl 0) (by omega)))
 have HC2 := Lib.hid (fun w (h : Tk w v n) => cut_any v n e.p (e.p + e.rem) w h hV hL hp0 (by omega) (by omega) (hcl _ _ hp0 (by omega)))
 have HRS := Lib.hid (fun w (h : Tk w v n) => rest_any v n (e.p + e.rem) w h hV hL (by omega) (by omega) (hcl2 _ _ (by omega)))
 have hil := hI.n
 have HCL := Lib.hid hcl
 have HEX := Lib.hid (show e.exl n = Trk.cut n 0 (min e.p (Trk.total n)) ++ Trk.gapL (e.p - Trk.total n) ++ e.put ++ Trk.aft n (e.p + e.rem) from rfl)
 have HPUT := Lib.hid (show e.put = if e.k = 4 then [Trk.gap e.m] else e.ins from rfl)
 unfold EdPost CutPost EdV Trk.backOf at *
 obtain ⟨k, p, m, c, d, sn, sd, ins⟩ := e
 dsimp only at *
 generalize hT : Trk.Ed.T _ = T at *
 generalize hR : Trk.Ed.rem _ = rem at *
 generalize hP : Trk.Ed.put _ = put at *
 generalize hEX : Trk.Ed.exl _ _ = exl at *
 have HPU := Lib.hid hP
 obtain ⟨uk, huk⟩ : ∃ uk, uk = Trk.undoK k := ⟨_, rfl⟩
 rw [← huk]
 obtain ⟨mm, hmm⟩ : ∃ mm, mm = (if uk = 2 then p + T - p else 0) := ⟨_, rfl⟩
 rw [← hmm]
 obtain ⟨rl, hrl⟩ : ∃ rl, rl = (if uk = 2 then [] else Trk.cut n p (p + T)) := ⟨_, rfl⟩
 rw [← hrl]
 have HUK := Lib.hid (show UK n ins put rl k uk p T rem mm from UK.of huk hmm hrl hrr HPUT.out hTm hTp)
 clear huk hmm hrl HPU
 obtain ⟨N, hN⟩ : ∃ N, N = Trk.total n := ⟨_, rfl⟩
 rw [← hN] at tn0 tn1 hee HTO HC1 HRS HEX
 obtain ⟨AF, hAF⟩ : ∃ AF, AF = (if p + rem < N then Trk.cut n (p + rem) N else []) := ⟨_, rfl⟩
 have HAL := Lib.hid (show AF.length ≤ 64 by rw [hAF]; split; exact hcl2 _ _ (by omega); simp)
 have HPL := Lib.hid (show put.length ≤ 64 by rw [HPUT.out]; split; simp; exact hil)
 have haft : Trk.aft n (p + rem) = AF := by rw [hAF]; unfold Trk.aft; rw [← hN]
 rw [haft] at HEX
 rw [← hAF] at HRS
 clear haft hAF
 clear hT hR hP hEX hx hcl hcl2
 have HTOT := Lib.hid hN
 clear hN h
 obtain ⟨ao, cap, rfl, hc1, hc2, _⟩ := hu
 have hI0 : (k = 1 ∨ k = 3) → 0 < ins.length := fun h => by
  have := hTi h
  cases ins with
  | nil => have e : Trk.total ([] : List Trk.Clip) = 0 := rfl; omega
  | cons a l => simp
 have hI1 : (k = 2 ∨ k = 4) → ins.length = 0 := fun h => by rw [(hTm h).2]; rfl
 obtain ⟨I, hI9⟩ : ∃ I, I = ins.length := ⟨_, rfl⟩
 rw [← hI9] at hil hc1 hI0 hI1 HTI HU ⊢
 have HIL := Lib.hid hI9
 have HTI2 := Lib.hid hTi
 have HTM2 := Lib.hid hTm
 have HK := Lib.hid hk
 have HRR := Lib.hid hrr
 have HEE := Lib.hid hee
 clear hI9 hI hTi hTm hV hk hrr hee
 go_enter Tryz.func85, Tryz.ntmps85
 go_upto_region 1 with fail
 obtain ⟨w1, hw1⟩ : ∃ x, x = (w.alloc (.cells (edC k p m c d sn sd (.slice ao I cap)) 40)).alloc (.cells (edC 0 0 0 0 0 0 0 (.slice none 0 0)) 40) := ⟨_, rfl⟩
 have hw1' := hw1
 unfold edC at hw1'
 rw [← hw1']
 clear hw1'
 have hE1 : Below w.heap.size w w1 := by rw [hw1]; go_grown
 obtain ⟨g1, hg1⟩ : ∃ g, g = w.heap.size := ⟨_, rfl⟩
 obtain ⟨g2, hg2⟩ : ∃ g, g = w.heap.size + 1 := ⟨_, rfl⟩
 have h2 : E2 w1 g1 g2 k p m c d sn sd (.slice ao I cap) := by
  rw [hw1, hg1, hg2]
  refine ⟨(ED.box w k p m c d sn sd _ rfl 40).below (below_box _ _), ?_⟩
  have h2 := ED.box (w.alloc (.cells (edC k p m c d sn sd (.slice ao I cap)) 40)) 0 0 0 0 0 0 0 (.slice none 0 0) rfl 40
  rw [show (w.alloc (.cells (edC k p m c d sn sd (.slice ao I cap)) 40)).heap.size = w.heap.size + 1 by simp] at h2
  exact h2
 rw [← hg2, ← hg1]
 have hn1 : w.heap.size ≤ g1 := by omega
 have hn2 : w.heap.size ≤ g2 := by omega
 have h12 : g1 < g2 := by omega
 have HE := Lib.hid h2
 have HB := Lib.hid hE1
 have HSZ := Lib.hid (show g2 + 1 ≤ w1.heap.size by rw [hw1, hg2]; simp [go_sem])
 clear hw1 hE1 hg1 hg2 h2
 obtain ⟨_, _, e2, _, _, _, _, e7, _⟩ := HE.out.a
 go_upto_if 22 with fail
 go_cut [7, 22] from 23 (fun v7 v22 wx => v7 = .int .i64 T ∧ E2 wx g1 g2 k p m c d sn sd (.slice ao I cap) ∧ Below w.heap.size w wx ∧ g2 + 1 ≤ wx.heap.size)
 case first =>
  by_cases hi0 : 0 < I
  ·have hk13 : k = 1 ∨ k = 3 := by
    rcases HK.out with h | h | h | h
    ·exact .inl h
    ·have := hI1 (.inl h); omega
    ·exact .inr h
    ·have := hI1 (.inr h); omega
   have hTe := Lib.hid (HTI2.out hk13)
   go_wp2_with fail
   refine (HTI.out _ (HU.out.below HB.out)).mono ?_
   rintro e w2 ⟨rfl, hb⟩
   replace HE := Lib.hid (HE.out.below hb)
   replace HSZ := Lib.hid (Nat.le_trans HSZ.out hb.size)
   replace HB := Lib.hid (HB.out.trans (hb.mono HB.out.size))
   clear hb
   go_wp2_with fail
   go_meet
   case rel => exact ⟨by rw [hTe.out], HE.out, HB.out, HSZ.out⟩
  ·have hk24 : k = 2 ∨ k = 4 := by
    rcases HK.out with h | h | h | h
    ·have := hI0 (.inl h); omega
    ·exact .inl h
    ·have := hI0 (.inr h); omega
    ·exact .inr h
   have hTe := Lib.hid (HTM2.out hk24)
   go_wp2_with fail
   go_meet
   case rel => exact ⟨by rw [hTe.out.1], HE.out, HB.out, HSZ.out⟩
 clear HE HB HSZ e2 e7
 obtain ⟨rfl, he, hb, hsz⟩ := hcut
 have HE := Lib.hid he
 have HB := Lib.hid hb
 have HSZ := Lib.hid hsz
 clear he hb hsz
 obtain ⟨e0, e1, _, _, _, _, _, _, _⟩ := HE.out.a
 go_upto_if 33 with fail
 go_cut [8, 9, 33] from 34 (fun v8 v9 v33 wx => v8 = .int .i64 rem ∧ v9 = .int .i64 ((if k = 1 then max p N else p) + T) ∧ E2 wx g1 g2 k p m c d sn sd (.slice ao I cap) ∧ Below w.heap.size w wx ∧ g2 + 1 ≤ wx.heap.size)
 case first J K' h1 h2 =>
  by_cases hk1 : k = 1
  ·have hk1' : (k == 1) = true := by simpa using hk1
   have hrem : Hid (rem = 0) := Lib.hid (by rw [HRR.out, if_pos hk1])
   have hmx : max p N + T ≤ 2147483647 := by have hee := HEE.out; rw [if_pos hk1] at hee; exact hee
   have HME := Lib.hid (show (if k = 1 then max p N else p) + T = max p N + T by rw [if_pos hk1])
   clear hk1
   go_upto_region 8 with fail
   refine Plan.wp_region_plan (fun w' => w'.cell? ⟨g1, 1, none⟩ = some (.int .i64 p)) (([0, 1, 2, 5].map (·, true)) ++ (([3].map (·, false)) ++ ([4, 6, 7].map (·, true)))) (by kernel_rfl) (by kernel_rfl) (by kernel_rfl) (HE.out.below (Below.refl _ _).drew).a.k1 ?_
   refine' Plan.plan_seg _ [0, 1, 2, 5] (([3].map (·, false)) ++ ([4, 6, 7].map (·, true))) (by kernel_rfl) (by kernel_rfl) rfl (by exact (HE.out.below (Below.refl _ _).drew).a.k1) (fun wx hS => ?_) ?_
   rotate_left
   ·go_light
    iterate 4 (apply Plan.seg_pick; rfl; intro K hK; go_wp)
    exact Plan.seg_nil
   obtain ⟨w2, hw2⟩ : ∃ x, x = wc.drew := ⟨_, rfl⟩
   rw [← hw2]
   have hb : Below wc.heap.size wc w2 := by rw [hw2]; exact (Below.refl _ _).drew
   replace HE := Lib.hid (HE.out.below hb)
   replace HSZ := Lib.hid (Nat.le_trans HSZ.out hb.size)
   replace HB := Lib.hid (HB.out.trans (hb.mono HB.out.size))
   clear hb hw2
   refine Plan.plan_of_effect rfl (fun K hK => ?_)
   go_wp2_with fail
   refine (HTO.out _ (HT.out.below HB.out)).mono ?_
   rintro e w3 ⟨rfl, hb⟩
   replace HE := Lib.hid (HE.out.below hb)
   replace HSZ := Lib.hid (Nat.le_trans HSZ.out hb.size)
   replace HB := Lib.hid (HB.out.trans (hb.mono HB.out.size))
   clear hb
   go_wp2_with fail
   refine ⟨HE.out.a.k1, ?_⟩
   refine' Plan.plan_seg _ [4, 6, 7] [] (by kernel_rfl) (by kernel_rfl) rfl (by exact HE.out.a.k1) (fun wx hS => ?_) ?_
   rotate_left
   ·clear hS
    go_light
    iterate 3 (apply Plan.seg_pick; rfl; intro K hK; go_wp)
    exact Plan.seg_nil
   refine Plan.plan_done ?_
   refine h2 _ _ (Met.intro (h1 _ _ ?_))
   (repeat apply Exists.intro)
   exact ⟨⟨by rw [hrem.out], by rw [HME.out], HE.out, HB.out, HSZ.out⟩, rfl⟩
  ·have hk1' : (k == 1) = false := by simpa using hk1
   have hrem : Hid (rem = T) := Lib.hid (by rw [HRR.out, if_neg hk1])
   have HME := Lib.hid (show (if k = 1 then max p N else p) + T = p + T by rw [if_neg hk1])
   go_wp2_with fail
   refine Met.intro (h1 _ _ ?_)
   (repeat apply Exists.intro)
   exact ⟨⟨by rw [hrem.out], by rw [HME.out], HE.out, HB.out, HSZ.out⟩, rfl⟩
 clear HE HB HSZ e0 e1
 obtain ⟨rfl, rfl, he, hb, hsz⟩ := hcut
 have HE := Lib.hid he
 have HB := Lib.hid hb
 have HSZ := Lib.hid hsz
 clear he hb hsz
 have hmx : (if k = 1 then max p N else p) + T ≤ 2147483647 := HEE.out
 obtain ⟨Z, hZ⟩ : ∃ Z, Z = (if k = 1 then max p N else p) + T := ⟨_, rfl⟩
 rw [← hZ] at hmx ⊢
 clear hZ HEE
 have e1 := HE.out.a.k1
 go_upto_region 11 with fail
 refine Plan.wp_region_plan (fun w' => w'.cell? ⟨g1, 1, none⟩ = some (.int .i64 p)) (([0, 1, 2, 3].map (·, true)) ++ (([4].map (·, false)) ++ (([5].map (·, true)) ++ (([6].map (·, false)) ++ ([7, 8, 9, 10, 11].map (·, true)))))) (by kernel_rfl) (by kernel_rfl) (by kernel_rfl) (HE.out.below (Below.refl _ _).drew).a.k1 ?_
 refine' Plan.plan_seg _ [0, 1, 2, 3] (([4].map (·, false)) ++ (([5].map (·, true)) ++ (([6].map (·, false)) ++ ([7, 8, 9, 10, 11].map (·, true))))) (by kernel_rfl) (by kernel_rfl) rfl (by exact (HE.out.below (Below.refl _ _).drew).a.k1) (fun wx hS => ?_) ?_
 rotate_left
 ·go_light
  iterate 4 (apply Plan.seg_pick; rfl; intro K hK; go_wp)
  exact Plan.seg_nil
 obtain ⟨w2, hw2⟩ : ∃ x, x = wc.drew := ⟨_, rfl⟩
 rw [← hw2]
 have hb : Below wc.heap.size wc w2 := by rw [hw2]; exact (Below.refl _ _).drew
 replace HE := Lib.hid (HE.out.below hb)
 replace HSZ := Lib.hid (Nat.le_trans HSZ.out hb.size)
 replace HB := Lib.hid (HB.out.trans (hb.mono HB.out.size))
 clear hb hw2 e1
 refine Plan.plan_of_effect rfl (fun K hK => ?_)
 go_wp2_with fail
 refine (HTO.out _ (HT.out.below HB.out)).mono ?_
 rintro e w3 ⟨rfl, hb⟩
 replace HE := Lib.hid (HE.out.below hb)
 replace HSZ := Lib.hid (Nat.le_trans HSZ.out hb.size)
 replace HB := Lib.hid (HB.out.trans (hb.mono HB.out.size))
 clear hb
 go_wp2_with fail
 refine ⟨HE.out.a.k1, ?_⟩
 refine' Plan.plan_seg (S := (fun w' => w'.cell? ⟨g1, 1, none⟩ = some (.int .i64 p))) _ [5] (([6].map (·, false)) ++ ([7, 8, 9, 10, 11].map (·, true))) (by kernel_rfl) (by kernel_rfl) rfl (by exact HE.out.a.k1) (fun wx hS => ?_) ?_
 rotate_left
 ·clear hS
  go_light
  iterate 1 (apply Plan.seg_pick; rfl; intro K hK; go_wp)
  exact Plan.seg_nil
 refine Plan.plan_of_effect rfl (fun K hK => ?_)
 go_wp2_with fail
 refine (HC1.out _ (HT.out.below HB.out)).mono ?_
 rintro e w4 ⟨v10, rfl, ho, hb⟩
 replace HE := Lib.hid (HE.out.below hb)
 have HO10 := Lib.hid (ho.lower HB.out.size)
 have HSZ3 := Lib.hid (Nat.le_trans HSZ.out hb.size)
 replace HB := Lib.hid (HB.out.trans (hb.mono HB.out.size))
 clear hb ho HSZ
 go_wp2_with fail
 refine ⟨HE.out.a.k1, ?_⟩
 refine' Plan.plan_seg (S := (fun w' => w'.cell? ⟨g1, 1, none⟩ = some (.int .i64 p))) _ [7, 8, 9, 10, 11] [] (by kernel_rfl) (by kernel_rfl) rfl (by exact HE.out.a.k1) (fun wx hS => ?_) ?_
 rotate_left
 ·clear hS
  go_light
  iterate 5 (apply Plan.seg_pick; rfl; intro K hK; go_wp)
  exact Plan.seg_nil
 refine Plan.plan_done ?_
 have HSZ := HSZ3
 clear HSZ3
 have e1 := HE.out.a.k1
 have hpr : p + rem ≤ 2147483647 := by omega
 go_wp2_with fail
 refine (HC2.out _ (HT.out.below HB.out)).mono ?_
 rintro e w5 ⟨v12, rfl, ho, hb⟩
 replace HE := Lib.hid (HE.out.below hb)
 have HG12 := Lib.hid (show ∀ g kk cp, v12 = .slice (some ⟨g, 0, none⟩) kk cp → g ≠ g2 from fun g kk cp e => by have := (ho.blk e).1; have := HSZ.out; omega)
 have HO12 := Lib.hid (ho.lower HB.out.size)
 replace HO10 := Lib.hid (HO10.out.below hb)
 replace HSZ := Lib.hid (Nat.le_trans HSZ.out hb.size)
 replace HB := Lib.hid (HB.out.trans (hb.mono HB.out.size))
 clear hb ho e1
 have e1 := HE.out.a.k1
 go_wp2_with fail
 refine (HRS.out _ (HT.out.below HB.out)).mono ?_
 rintro e w6 ⟨v14, rfl, ho, hb⟩
 replace HE := Lib.hid (HE.out.below hb)
 have HO14 := Lib.hid (ho.lower HB.out.size)
 replace HO10 := Lib.hid (HO10.out.below hb)
 replace HO12 := Lib.hid (HO12.out.below hb)
 replace HSZ := Lib.hid (Nat.le_trans HSZ.out hb.size)
 replace HB := Lib.hid (HB.out.trans (hb.mono HB.out.size))
 clear hb ho e1
 go_upto_region 20 with fail
 obtain ⟨a10, c10, rfl, -⟩ := HO10.out.tk
 have HL10 := Lib.hid (HCL.out 0 (min p N) (Int.le_refl 0) (by omega))
 refine Plan.wp_region_plan (fun w' => w'.cell? ⟨g1, 1, none⟩ = some (.int .i64 p)) (([0, 1, 2, 3].map (·, true)) ++ (([4].map (·, false)) ++ (([5].map (·, true)) ++ (([6, 7, 8].map (·, false)) ++ ([9].map (·, true)))))) (by kernel_rfl) (by kernel_rfl) (by kernel_rfl) (HE.out.below (Below.refl _ _).drew).a.k1 ?_
 refine' Plan.plan_seg _ [0, 1, 2, 3] (([4].map (·, false)) ++ (([5].map (·, true)) ++ (([6, 7, 8].map (·, false)) ++ ([9].map (·, true))))) (by kernel_rfl) (by kernel_rfl) rfl (by exact (HE.out.below (Below.refl _ _).drew).a.k1) (fun wx hS => ?_) ?_
 rotate_left
 ·go_light
  iterate 4 (apply Plan.seg_pick; rfl; intro K hK; go_wp)
  exact Plan.seg_nil
 obtain ⟨w7, hw7⟩ : ∃ x, x = w6.drew := ⟨_, rfl⟩
 rw [← hw7]
 have hb : Below w6.heap.size w6 w7 := by rw [hw7]; exact (Below.refl _ _).drew
 replace HE := Lib.hid (HE.out.below hb)
 replace HO10 := Lib.hid (HO10.out.below hb)
 replace HO12 := Lib.hid (HO12.out.below hb)
 replace HO14 := Lib.hid (HO14.out.below hb)
 replace HSZ := Lib.hid (Nat.le_trans HSZ.out hb.size)
 replace HB := Lib.hid (HB.out.trans (hb.mono HB.out.size))
 clear hb hw7
 refine Plan.plan_of_effect rfl (fun K hK => ?_)
 go_wp2_with fail
 refine (HTO.out _ (HT.out.below HB.out)).mono ?_
 rintro e w8 ⟨rfl, hb⟩
 replace HE := Lib.hid (HE.out.below hb)
 replace HO10 := Lib.hid (HO10.out.below hb)
 replace HO12 := Lib.hid (HO12.out.below hb)
 replace HO14 := Lib.hid (HO14.out.below hb)
 replace HSZ := Lib.hid (Nat.le_trans HSZ.out hb.size)
 replace HB := Lib.hid (HB.out.trans (hb.mono HB.out.size))
 clear hb
 go_wp2_with fail
 refine ⟨HE.out.a.k1, ?_⟩
 refine' Plan.plan_seg (S := (fun w' => w'.cell? ⟨g1, 1, none⟩ = some (.int .i64 p))) _ [5] (([6, 7, 8].map (·, false)) ++ ([9].map (·, true))) (by kernel_rfl) (by kernel_rfl) rfl (by exact HE.out.a.k1) (fun wx hS => ?_) ?_
 rotate_left
 ·clear hS
  go_light
  iterate 1 (apply Plan.seg_pick; rfl; intro K hK; go_wp)
  exact Plan.seg_nil
 refine Plan.plan_of_effect rfl (fun K hK => ?_)
 go_wp2_with fail
 refine (gap_any (p - N) _).mono ?_
 rintro e w9 ⟨vg, rfl, ho, hb⟩
 have ho2 : OT w9 w8.heap.size vg (Trk.gapL (p - N)) := ho
 clear ho
 obtain ⟨ag, cg, rfl, -⟩ := ho2.tk
 replace HE := Lib.hid (HE.out.below hb)
 replace HO10 := Lib.hid (HO10.out.below hb)
 replace HO12 := Lib.hid (HO12.out.below hb)
 replace HO14 := Lib.hid (HO14.out.below hb)
 have HOG := Lib.hid ho2
 replace HSZ := Lib.hid (Nat.le_trans HSZ.out hb.size)
 replace HB := Lib.hid (HB.out.trans (hb.mono HB.out.size))
 clear hb ho2
 go_wp2_with fail
 refine ⟨HE.out.a.k1, ?_⟩
 refine Plan.plan_of_effect rfl (fun K hK => ?_)
 refine Great.wpList_buildSliceTo rfl 68 23 2 #[(0, .tmp 92), (1, .tmp 98)] rfl w9.heap.size rfl (some 99) rfl Tryz.underlying68 #[.slice a10 (Trk.cut n 0 (min p N)).length c10, .slice ag (Trk.gapL (p - N)).length cg] ?_ ?_
 ·simp only [List.map_toArray, List.map_cons, List.map_nil, List.toList_toArray]
  kernel_rfl
 have hb := below_box w9 (.cells #[.slice a10 (Trk.cut n 0 (min p N)).length c10, .slice ag (Trk.gapL (p - N)).length cg] 23)
 have hx1 : (w9.alloc (.cells #[.slice a10 (Trk.cut n 0 (min p N)).length c10, .slice ag (Trk.gapL (p - N)).length cg] 23)).cell? ⟨w9.heap.size, 0, none⟩ = some (.slice a10 (Trk.cut n 0 (min p N)).length c10) := by simp [go_sem]
 have hx2 : (w9.alloc (.cells #[.slice a10 (Trk.cut n 0 (min p N)).length c10, .slice ag (Trk.gapL (p - N)).length cg] 23)).cell? ⟨w9.heap.size, 0 + 1, none⟩ = some (.slice ag (Trk.gapL (p - N)).length cg) := by simp [go_sem]
 obtain ⟨w10, hw10⟩ : ∃ x, x = w9.alloc (.cells #[.slice a10 (Trk.cut n 0 (min p N)).length c10, .slice ag (Trk.gapL (p - N)).length cg] 23) := ⟨_, rfl⟩
 rw [← hw10] at hb hx1 hx2 ⊢
 obtain ⟨g5, hg5⟩ : ∃ x, x = w9.heap.size := ⟨_, rfl⟩
 rw [← hg5] at hx1 hx2 ⊢
 have HTA := Lib.hid (HO10.out.tk.below hb)
 have HTB := Lib.hid (HOG.out.tk.below hb)
 have HX12 := Lib.hid (And.intro hx1 hx2)
 replace HE := Lib.hid (HE.out.below hb)
 replace HO12 := Lib.hid (HO12.out.below hb)
 replace HO14 := Lib.hid (HO14.out.below hb)
 replace HSZ := Lib.hid (Nat.le_trans HSZ.out hb.size)
 replace HB := Lib.hid (HB.out.trans (hb.mono HB.out.size))
 clear hb hx1 hx2 hw10 hg5 HO10 HOG
 go_wp2_with fail
 refine ⟨HE.out.a.k1, ?_⟩
 refine Plan.plan_of_effect rfl (fun K hK => ?_)
 go_wp2_with fail
 refine (concat_two g5 0 2 _ _ _ _ _ HX12.out.1 HX12.out.2 HTA.out HTB.out (Nat.le_refl _) (by have := HL10.out; have := Trk.gapL_len (p - N); omega)).mono ?_
 rintro e w11 ⟨v15, rfl, ho, hb⟩
 obtain ⟨B, hB⟩ : ∃ B, B = w10.heap.size := ⟨_, rfl⟩
 rw [← hB] at ho
 have HO15 := Lib.hid ho
 have HBL := Lib.hid (show w.heap.size ≤ B ∧ g2 + 1 ≤ B ∧ B ≤ w11.heap.size from ⟨by rw [hB]; exact HB.out.size, by rw [hB]; exact HSZ.out, by rw [hB]; exact hb.size⟩)
 have HF12 := Lib.hid (show ∀ g k cap, v12 = .slice (some ⟨g, 0, none⟩) k cap → g < B from fun g k cap e => by rw [hB]; exact (HO12.out.blk e).2)
 have HF14 := Lib.hid (show ∀ g k cap, v14 = .slice (some ⟨g, 0, none⟩) k cap → g < B from fun g k cap e => by rw [hB]; exact (HO14.out.blk e).2)
 replace HE := Lib.hid (HE.out.below hb)
 replace HO12 := Lib.hid (HO12.out.below hb)
 replace HO14 := Lib.hid (HO14.out.below hb)
 replace HB := Lib.hid (HB.out.trans (hb.mono HB.out.size))
 clear hb ho hB HX12 HTA HTB HSZ
 go_wp2_with fail
 refine ⟨HE.out.a.k1, ?_⟩
 refine' Plan.plan_seg (S := (fun w' => w'.cell? ⟨g1, 1, none⟩ = some (.int .i64 p))) _ [9] [] (by kernel_rfl) (by kernel_rfl) rfl (by exact HE.out.a.k1) (fun wx hS => ?_) ?_
 rotate_left
 ·clear hS
  go_light
  iterate 1 (apply Plan.seg_pick; rfl; intro K hK; go_wp)
  exact Plan.seg_nil
 refine Plan.plan_done ?_
 go_upto_region 22 with fail
 obtain ⟨w12, hw12⟩ : ∃ x, x = w11.alloc (.cells (edC 0 0 0 0 0 0 0 (.slice none 0 0)) 40) := ⟨_, rfl⟩
 have hw12' := hw12
 unfold edC at hw12'
 rw [← hw12']
 clear hw12'
 obtain ⟨g3, hg3⟩ : ∃ g, g = w11.heap.size := ⟨_, rfl⟩
 have hb : Below w11.heap.size w11 w12 := by rw [hw12]; exact below_box _ _
 have hv : ED w12 g3 0 0 0 0 0 0 0 (.slice none 0 0) := by rw [hw12, hg3]; exact ED.box w11 0 0 0 0 0 0 0 (.slice none 0 0) rfl 40
 rw [← hg3]
 have HV := Lib.hid hv
 have HV26 := Lib.hid (show T26 w12 g3 by rw [hw12, hg3]; exact ⟨_, _, (MapKept.heap_alloc w11 _).1⟩)
 have HG3 := Lib.hid (show B ≤ g3 ∧ g3 < w12.heap.size ∧ B ≤ w12.heap.size from ⟨by rw [hg3]; exact HBL.out.2.2, hv.lt, Nat.le_trans HBL.out.2.2 hb.size⟩)
 have HN15 := Lib.hid (show ∀ g kk cp, v15 = .slice (some ⟨g, 0, none⟩) kk cp → g3 ≠ g from fun g kk cp e => by have := (HO15.out.blk e).2; omega)
 replace HE := Lib.hid (HE.out.below hb)
 replace HO12 := Lib.hid (HO12.out.below hb)
 replace HO14 := Lib.hid (HO14.out.below hb)
 replace HO15 := Lib.hid (HO15.out.below hb)
 replace HB := Lib.hid (HB.out.trans (hb.mono HB.out.size))
 clear hb hv hg3 hw12
 have e0 := HE.out.a.k0
 go_upto_block 0 with fail
 clear e0
 have HS12 := Lib.hid (show ∃ ao m cp, v12 = .slice ao m cp by obtain ⟨ao, cp, e, _⟩ := HO12.out.tk; exact ⟨_, _, _, e⟩)
 obtain ⟨a12, m12, c12, rfl⟩ := HS12.out
 clear HS12
 go_cut [15] from 103 (fun v15' wx => OT wx B v15' (Trk.cut n 0 (min p N) ++ Trk.gapL (p - N) ++ put) ∧ (∃ vr, ED wx g3 uk p mm 0 0 0 0 vr ∧ OT wx w.heap.size vr rl ∧ (∀ g kk cp, vr = .slice (some ⟨g, 0, none⟩) kk cp → g < B) ∧ (∃ ao m cp, vr = .slice ao m cp) ∧ (∀ g kk cp, vr = .slice (some ⟨g, 0, none⟩) kk cp → g ≠ g2)) ∧ ED wx g2 0 0 0 0 0 0 0 (.slice none 0 0) ∧ OT wx w.heap.size v14 AF ∧ Below w.heap.size w wx ∧ B ≤ wx.heap.size ∧ T26 wx g3)
 case first J K' h1 h2 =>
  have HLN := Lib.hid (show (Trk.cut n 0 (min p N) ++ Trk.gapL (p - N)).length ≤ 65 by have := HL10.out; have := Trk.gapL_len (p - N); rw [List.length_append]; omega)
  rcases HK.out with hk1 | hk2 | hk3 | hk4
  ·have HKK := Lib.hid hk1
   have t1 : (k == 1) = true := by have := HKK.out; simp; omega
   have HQ := Lib.hid (HUK.out.a hk1)
   clear hk1
   obtain ⟨_, _, _, _, _, _, _, e7, _⟩ := HE.out.a
   go_upto_region 24 with fail
   apply wp_region_lit
   iterate 9 go_step
   refine wpList_appM _ 23 22 Tryz.underlying23 Tryz.underlying22 rfl (.tmp 105) (.tmp 107) rfl B v15 (.slice ao I cap) _ ins rfl rfl HO15.out HG3.out.2.2 (HU.out.below HB.out) (by have := HLN.out; have := hil; have := HIL.out; omega) ?_
   intro v16 w13 q1 q2 q3 q4
   simp only [Act.put, List.setIfInBounds_toArray, List.set_cons_succ, List.set_cons_zero]
   have q5 := q3 g3 HG3.out.2.1 (fun g cp e => HN15.out g _ cp e)
   replace HV := Lib.hid (HV.out.same q5)
   replace HV26 := Lib.hid (HV26.out.same q5)
   replace HO15 := Lib.hid q1
   replace HO12 := Lib.hid (HO12.out.lim HF12.out q2)
   replace HO14 := Lib.hid (HO14.out.lim HF14.out q2)
   replace HE := Lib.hid (show E2 w13 g1 g2 k p m c d sn sd (.slice ao I cap) from ⟨HE.out.a.lim q2 (by have := HBL.out.2.1; omega), HE.out.r.lim q2 (by have := HBL.out.2.1; omega)⟩)
   replace HB := Lib.hid (HB.out.trans (q2.mono HBL.out.1))
   have HS := Lib.hid (Nat.le_trans HG3.out.2.2 q4)
   clear q1 q2 q3 q4 q5
   clear e7
   have e1 := HE.out.a.k1
   go_upto_region 25 with fail
   apply wp_region_lit
   iterate 12 go_step
   refine wpl_storeE 2 p T 0 0 0 0 none 0 0 HV.out rfl rfl rfl rfl ?_
   intro w14 q1 q2 q3 q4 q5
   simp only [Act.put, List.setIfInBounds_toArray, List.set_cons_succ, List.set_cons_zero]
   have HV4 := Lib.hid q1
   have HQ4 := Lib.hid (And.intro q2 (And.intro q3 (And.intro (q4 _ _ (show w.heap.size ≤ g3 by have := HBL.out.1; have := HG3.out.1; omega) HB.out) (q5 HV26.out))))
   clear q1 q2 q3 q4 q5 e1
   go_wp2_with fail
   refine Met.intro (h1 _ _ ?_)
   (repeat apply Exists.intro)
   refine ⟨⟨?_, ⟨(.slice none 0 0), ?_, ?_, ?_, ?_, ?_⟩, ?_, ?_, ?_, ?_, ?_⟩, rfl⟩
   ·rw [HQ.out.2.2.2]
    exact HO15.out.blocks (fun g kk cp e => HQ4.out.1 g (fun h => HV26.out.ne HO15.out g kk cp e h.symm))
   ·rw [HQ.out.1, HQ.out.2.1]
    exact HV4.out
   ·rw [HQ.out.2.2.1]
    exact OT.nil _ _
   ·exact fun g kk cp e => by simp at e
   ·exact ⟨_, _, _, rfl⟩
   ·exact fun g kk cp e => by simp at e
   ·exact HE.out.r.same (HQ4.out.1 _ (by have := HG3.out.1; have := HBL.out.2.1; omega))
   ·exact HO14.out.blocks (fun g kk cp e => HQ4.out.1 g (by have := HF14.out g kk cp e; have := HG3.out.1; omega))
   ·exact HQ4.out.2.2.1
   ·rw [HQ4.out.2.1]; exact HS.out
   ·exact HQ4.out.2.2.2
  ·have HKK := Lib.hid hk2
   have t1 : (k == 1) = false := by have := HKK.out; simp; omega
   have t2 : (k == 2) = true := by have := HKK.out; simp; omega
   have HQ := Lib.hid (HUK.out.b hk2)
   clear hk2
   have HS := Lib.hid HG3.out.2.2
   have e1 := HE.out.a.k1
   go_upto_region 27 with fail
   apply wp_region_lit
   iterate 12 go_step
   refine wpl_storeE 1 p 0 0 0 0 0 a12 m12 c12 HV.out rfl rfl rfl rfl ?_
   intro w14 q1 q2 q3 q4 q5
   simp only [Act.put, List.setIfInBounds_toArray, List.set_cons_succ, List.set_cons_zero]
   have HV4 := Lib.hid q1
   have HQ4 := Lib.hid (And.intro q2 (And.intro q3 (And.intro (q4 _ _ (show w.heap.size ≤ g3 by have := HBL.out.1; have := HG3.out.1; omega) HB.out) (q5 HV26.out))))
   clear q1 q2 q3 q4 q5 e1
   go_wp2_with fail
   refine Met.intro (h1 _ _ ?_)
   (repeat apply Exists.intro)
   refine ⟨⟨?_, ⟨(.slice a12 m12 c12), ?_, ?_, ?_, ?_, ?_⟩, ?_, ?_, ?_, ?_, ?_⟩, rfl⟩
   ·rw [HQ.out.2.2.2]
    rw [List.append_nil]
    exact HO15.out.blocks (fun g kk cp e => HQ4.out.1 g (fun h => HV26.out.ne HO15.out g kk cp e h.symm))
   ·rw [HQ.out.1, HQ.out.2.1]
    exact HV4.out
   ·rw [HQ.out.2.2.1]
    exact HO12.out.blocks (fun g kk cp e => HQ4.out.1 g (by have := HF12.out g kk cp e; have := HG3.out.1; omega))
   ·exact HF12.out
   ·exact ⟨_, _, _, rfl⟩
   ·exact HG12.out
   ·exact HE.out.r.same (HQ4.out.1 _ (by have := HG3.out.1; have := HBL.out.2.1; omega))
   ·exact HO14.out.blocks (fun g kk cp e => HQ4.out.1 g (by have := HF14.out g kk cp e; have := HG3.out.1; omega))
   ·exact HQ4.out.2.2.1
   ·rw [HQ4.out.2.1]; exact HS.out
   ·exact HQ4.out.2.2.2
  ·have HKK := Lib.hid hk3
   have t1 : (k == 1) = false := by have := HKK.out; simp; omega
   have t2 : (k == 2) = false := by have := HKK.out; simp; omega
   have t3 : (k == 3) = true := by have := HKK.out; simp; omega
   have HQ := Lib.hid (HUK.out.c hk3)
   clear hk3
   obtain ⟨_, _, _, _, _, _, _, e7, _⟩ := HE.out.a
   go_upto_region 29 with fail
   apply wp_region_lit
   iterate 9 go_step
   refine wpList_appM _ 23 22 Tryz.underlying23 Tryz.underlying22 rfl (.tmp 121) (.tmp 123) rfl B v15 (.slice ao I cap) _ ins rfl rfl HO15.out HG3.out.2.2 (HU.out.below HB.out) (by have := HLN.out; have := hil; have := HIL.out; omega) ?_
   intro v16 w13 q1 q2 q3 q4
   simp only [Act.put, List.setIfInBounds_toArray, List.set_cons_succ, List.set_cons_zero]
   have q5 := q3 g3 HG3.out.2.1 (fun g cp e => HN15.out g _ cp e)
   replace HV := Lib.hid (HV.out.same q5)
   replace HV26 := Lib.hid (HV26.out.same q5)
   replace HO15 := Lib.hid q1
   replace HO12 := Lib.hid (HO12.out.lim HF12.out q2)
   replace HO14 := Lib.hid (HO14.out.lim HF14.out q2)
   replace HE := Lib.hid (show E2 w13 g1 g2 k p m c d sn sd (.slice ao I cap) from ⟨HE.out.a.lim q2 (by have := HBL.out.2.1; omega), HE.out.r.lim q2 (by have := HBL.out.2.1; omega)⟩)
   replace HB := Lib.hid (HB.out.trans (q2.mono HBL.out.1))
   have HS := Lib.hid (Nat.le_trans HG3.out.2.2 q4)
   clear q1 q2 q3 q4 q5
   clear e7
   have e1 := HE.out.a.k1
   go_upto_region 30 with fail
   apply wp_region_lit
   iterate 12 go_step
   refine wpl_storeE 3 p 0 0 0 0 0 a12 m12 c12 HV.out rfl rfl rfl rfl ?_
   intro w14 q1 q2 q3 q4 q5
   simp only [Act.put, List.setIfInBounds_toArray, List.set_cons_succ, List.set_cons_zero]
   have HV4 := Lib.hid q1
   have HQ4 := Lib.hid (And.intro q2 (And.intro q3 (And.intro (q4 _ _ (show w.heap.size ≤ g3 by have := HBL.out.1; have := HG3.out.1; omega) HB.out) (q5 HV26.out))))
   clear q1 q2 q3 q4 q5 e1
   go_wp2_with fail
   refine Met.intro (h1 _ _ ?_)
   (repeat apply Exists.intro)
   refine ⟨⟨?_, ⟨(.slice a12 m12 c12), ?_, ?_, ?_, ?_, ?_⟩, ?_, ?_, ?_, ?_, ?_⟩, rfl⟩
   ·rw [HQ.out.2.2.2]
    exact HO15.out.blocks (fun g kk cp e => HQ4.out.1 g (fun h => HV26.out.ne HO15.out g kk cp e h.symm))
   ·rw [HQ.out.1, HQ.out.2.1]
    exact HV4.out
   ·rw [HQ.out.2.2.1]
    exact HO12.out.blocks (fun g kk cp e => HQ4.out.1 g (by have := HF12.out g kk cp e; have := HG3.out.1; omega))
   ·exact HF12.out
   ·exact ⟨_, _, _, rfl⟩
   ·exact HG12.out
   ·exact HE.out.r.same (HQ4.out.1 _ (by have := HG3.out.1; have := HBL.out.2.1; omega))
   ·exact HO14.out.blocks (fun g kk cp e => HQ4.out.1 g (by have := HF14.out g kk cp e; have := HG3.out.1; omega))
   ·exact HQ4.out.2.2.1
   ·rw [HQ4.out.2.1]; exact HS.out
   ·exact HQ4.out.2.2.2
  ·have HKK := Lib.hid hk4
   have t1 : (k == 1) = false := by have := HKK.out; simp; omega
   have t2 : (k == 2) = false := by have := HKK.out; simp; omega
   have t3 : (k == 3) = false := by have := HKK.out; simp; omega
   have t4 : (k == 4) = true := by have := HKK.out; simp; omega
   have HQ := Lib.hid (HUK.out.d hk4)
   clear hk4
   go_upto_region 32 with fail
   apply wp_region_lit
   iterate 8 go_step
   refine (gap_any T _).mono ?_
   rintro e w12' ⟨vg, rfl, ho, hb⟩
   have ho2 : OT w12' w12.heap.size vg (Trk.gapL T) := ho
   replace HE := Lib.hid (HE.out.below hb)
   replace HV := Lib.hid (HV.out.below hb)
   replace HV26 := Lib.hid (HV26.out.same (hb.block g3 HG3.out.2.1))
   replace HO12 := Lib.hid (HO12.out.below hb)
   replace HO14 := Lib.hid (HO14.out.below hb)
   replace HO15 := Lib.hid (HO15.out.below hb)
   replace HG3 := Lib.hid (show B ≤ g3 ∧ g3 < w12'.heap.size ∧ B ≤ w12'.heap.size from ⟨HG3.out.1, Nat.lt_of_lt_of_le HG3.out.2.1 hb.size, Nat.le_trans HG3.out.2.2 hb.size⟩)
   replace HB := Lib.hid (HB.out.trans (hb.mono HB.out.size))
   have HOG := Lib.hid ho2.tk
   clear ho ho2 hb
   dsimp only
   go_step
   refine wpList_appM _ 23 22 Tryz.underlying23 Tryz.underlying22 rfl (.tmp 131) (.tmp 133) rfl B v15 vg _ (Trk.gapL T) rfl rfl HO15.out HG3.out.2.2 HOG.out (by have := HLN.out; have := Trk.gapL_len T; omega) ?_
   intro v16 w13 q1 q2 q3 q4
   simp only [Act.put, List.setIfInBounds_toArray, List.set_cons_succ, List.set_cons_zero]
   have q5 := q3 g3 HG3.out.2.1 (fun g cp e => HN15.out g _ cp e)
   replace HV := Lib.hid (HV.out.same q5)
   replace HV26 := Lib.hid (HV26.out.same q5)
   replace HO15 := Lib.hid q1
   replace HO12 := Lib.hid (HO12.out.lim HF12.out q2)
   replace HO14 := Lib.hid (HO14.out.lim HF14.out q2)
   replace HE := Lib.hid (show E2 w13 g1 g2 k p m c d sn sd (.slice ao I cap) from ⟨HE.out.a.lim q2 (by have := HBL.out.2.1; omega), HE.out.r.lim q2 (by have := HBL.out.2.1; omega)⟩)
   replace HB := Lib.hid (HB.out.trans (q2.mono HBL.out.1))
   have HS := Lib.hid (Nat.le_trans HG3.out.2.2 q4)
   clear q1 q2 q3 q4 q5
   have e1 := HE.out.a.k1
   go_upto_region 33 with fail
   apply wp_region_lit
   iterate 12 go_step
   refine wpl_storeE 3 p 0 0 0 0 0 a12 m12 c12 HV.out rfl rfl rfl rfl ?_
   intro w14 q1 q2 q3 q4 q5
   simp only [Act.put, List.setIfInBounds_toArray, List.set_cons_succ, List.set_cons_zero]
   have HV4 := Lib.hid q1
   have HQ4 := Lib.hid (And.intro q2 (And.intro q3 (And.intro (q4 _ _ (show w.heap.size ≤ g3 by have := HBL.out.1; have := HG3.out.1; omega) HB.out) (q5 HV26.out))))
   clear q1 q2 q3 q4 q5 e1
   go_wp2_with fail
   refine Met.intro (h1 _ _ ?_)
   (repeat apply Exists.intro)
   refine ⟨⟨?_, ⟨(.slice a12 m12 c12), ?_, ?_, ?_, ?_, ?_⟩, ?_, ?_, ?_, ?_, ?_⟩, rfl⟩
   ·rw [HQ.out.2.2.2]
    exact HO15.out.blocks (fun g kk cp e => HQ4.out.1 g (fun h => HV26.out.ne HO15.out g kk cp e h.symm))
   ·rw [HQ.out.1, HQ.out.2.1]
    exact HV4.out
   ·rw [HQ.out.2.2.1]
    exact HO12.out.blocks (fun g kk cp e => HQ4.out.1 g (by have := HF12.out g kk cp e; have := HG3.out.1; omega))
   ·exact HF12.out
   ·exact ⟨_, _, _, rfl⟩
   ·exact HG12.out
   ·exact HE.out.r.same (HQ4.out.1 _ (by have := HG3.out.1; have := HBL.out.2.1; omega))
   ·exact HO14.out.blocks (fun g kk cp e => HQ4.out.1 g (by have := HF14.out g kk cp e; have := HG3.out.1; omega))
   ·exact HQ4.out.2.2.1
   ·rw [HQ4.out.2.1]; exact HS.out
   ·exact HQ4.out.2.2.2
 clear HE HB HO15 HO12 HO14 HV HV26 HN15 HF12 HG12
 obtain ⟨ho15, ⟨vr, hv, hor, hfr, hsr, hgr⟩, hr, ho14, hb, hs, h26⟩ := hcut
 have HO15 := Lib.hid ho15
 have HV := Lib.hid hv
 have HOR := Lib.hid hor
 have HFR := Lib.hid hfr
 have HSR := Lib.hid hsr
 have HGR := Lib.hid hgr
 have HR := Lib.hid hr
 have HO14 := Lib.hid ho14
 have HB := Lib.hid hb
 have HS := Lib.hid hs
 have HV26 := Lib.hid h26
 clear ho15 hv hor hfr hsr hgr hr ho14 hb hs h26
 obtain ⟨ar, mr, cr, rfl⟩ := HSR.out
 go_upto_region 34 with fail
 refine Plan.wp_region_plan (fun w' => ED w' g3 uk p mm 0 0 0 0 (.slice ar mr cr)) (([0, 1, 3].map (·, true)) ++ (([2].map (·, false)) ++ (([4].map (·, true)) ++ (([5].map (·, false)) ++ ([6].map (·, true)))))) (by kernel_rfl) (by kernel_rfl) (by kernel_rfl) (HV.out.below (Below.refl _ _).drew) ?_
 refine' Plan.plan_seg _ [0, 1, 3] (([2].map (·, false)) ++ (([4].map (·, true)) ++ (([5].map (·, false)) ++ ([6].map (·, true))))) (by kernel_rfl) (by kernel_rfl) rfl (by exact HV.out.below (Below.refl _ _).drew) (fun wx hS => ?_) ?_
 rotate_left
 ·go_light
  iterate 2 (apply Plan.seg_pick; rfl; intro K hK; go_wp)
  (apply Plan.seg_pick; rfl; intro K hK)
  refine wpl_loadE hS rfl rfl rfl ?_
  go_wp
  exact Plan.seg_nil
 obtain ⟨w15, hw15⟩ : ∃ x, x = wc.drew := ⟨_, rfl⟩
 rw [← hw15]
 have hb : Below wc.heap.size wc w15 := by rw [hw15]; exact (Below.refl _ _).drew
 replace HV26 := Lib.hid (HV26.out.same (hb.block g3 HV.out.lt))
 replace HV := Lib.hid (HV.out.below hb)
 replace HO15 := Lib.hid (HO15.out.below hb)
 replace HOR := Lib.hid (HOR.out.below hb)
 replace HR := Lib.hid (HR.out.below hb)
 replace HO14 := Lib.hid (HO14.out.below hb)
 replace HS := Lib.hid (Nat.le_trans HS.out hb.size)
 replace HB := Lib.hid (HB.out.trans (hb.mono HB.out.size))
 clear hb hw15
 refine Plan.plan_of_effect rfl (fun K hK => ?_)
 refine wpList_appTo _ 23 23 (some 141) rfl Tryz.underlying23 Tryz.underlying23 rfl (.tmp 139) (.tmp 140) rfl B u15 v14 _ AF rfl rfl HO15.out HS.out HO14.out.tk (by have h1 := HL10.out; have h2 := Trk.gapL_len (p - N); have h3 := HPL.out; have h4 := HAL.out; rw [List.length_append, List.length_append]; omega) ?_
 intro v4 w16 q1 q2 q3 q4
 simp only [Act.put, List.setIfInBounds_toArray, List.set_cons_succ, List.set_cons_zero]
 have q5 := q3 g3 HV.out.lt (fun g cp e => HV26.out.ne HO15.out g _ cp e)
 replace HV := Lib.hid (HV.out.same q5)
 have HO4 := Lib.hid (q1.lower HBL.out.1)
 replace HOR := Lib.hid (HOR.out.lim HFR.out q2)
 replace HR := Lib.hid (HR.out.lim q2 (by have := HBL.out.2.1; omega))
 replace HB := Lib.hid (HB.out.trans (q2.mono HBL.out.1))
 have HN4 := Lib.hid (show ∀ g kk cp, v4 = .slice (some ⟨g, 0, none⟩) kk cp → B ≤ g from fun g kk cp e => (q1.blk e).1)
 clear q1 q2 q3 q4 q5 HO15 HO14 HV26
 go_wp2_with fail
 refine ⟨HV.out, ?_⟩
 refine' Plan.plan_seg (S := (fun w' => ED w' g3 uk p mm 0 0 0 0 (.slice ar mr cr))) _ [4] (([5].map (·, false)) ++ ([6].map (·, true))) (by kernel_rfl) (by kernel_rfl) rfl (by exact HV.out) (fun wx hS => ?_) ?_
 rotate_left
 ·clear hS
  go_light
  iterate 1 (apply Plan.seg_pick; rfl; intro K hK; go_wp)
  exact Plan.seg_nil
 refine Plan.plan_of_effect rfl (fun K hK => ?_)
 refine wpl_storeE uk p mm 0 0 0 0 ar mr cr HR.out rfl rfl rfl rfl ?_
 intro w17 q1 q2 q3 q4 q5
 simp only [Act.put, List.setIfInBounds_toArray, List.set_cons_succ, List.set_cons_zero]
 replace HR := Lib.hid q1
 have hne23 : g3 ≠ g2 := by have := HG3.out.1; have := HBL.out.2.1; omega
 replace HV := Lib.hid (HV.out.same (q2 g3 hne23))
 replace HO4 := Lib.hid (HO4.out.blocks (fun g kk cp e => q2 g (by have := HN4.out g kk cp e; have := HBL.out.2.1; omega)))
 have HORN := Lib.hid (show OT w17 w.heap.size (.slice ar mr cr) rl from HOR.out.blocks (fun g kk cp e => q2 g (HGR.out g kk cp e)))
 replace HB := Lib.hid (q4 _ _ hn2 HB.out)
 clear q1 q2 q3 q4 q5
 go_wp2_with fail
 refine ⟨HV.out, ?_⟩
 refine' Plan.plan_seg (S := (fun w' => ED w' g3 uk p mm 0 0 0 0 (.slice ar mr cr))) _ [6] [] (by kernel_rfl) (by kernel_rfl) rfl (by exact HV.out) (fun wx hS => ?_) ?_
 rotate_left
 ·clear hS
  go_light
  iterate 1 (apply Plan.seg_pick; rfl; intro K hK; go_wp)
  exact Plan.seg_nil
 refine Plan.plan_done ?_
 iterate 3 go_step
 refine bodyPost_ret (v := .tuple #[v4, edV uk p mm 0 0 0 0 (.slice ar mr cr), .int .i64 0]) (results_ed Tryz.results85 rfl rfl rfl HR.out ⟨_, _, _, rfl⟩) rfl ?_
 exact ⟨_, _, rfl, by rw [HEX.out]; exact HO4.out, HORN.out, HB.out⟩
theorem cells_range : ∀ {l : List Trk.Clip} {i : Nat} {x x' : Trk.Clip} {j : Nat} {vs : List Value}, l[i]? = some x → j + vs.length ≤ 22 → clipC x' = (clipC x).take j ++ vs ++ (clipC x).drop (j + vs.length) →
  (cells l).take (i * 22 + j) ++ vs ++ (cells l).drop (i * 22 + j + vs.length) = cells (l.set i x')
 | [], i, x, x', j, vs, h, _, _ => by simp at h
 | c :: l, 0, x, x', j, vs, h, hj, e => by
  simp only [List.getElem?_cons_zero, Option.some.injEq] at h
  subst h
  show (clipC c ++ cells l).take (0 * 22 + j) ++ vs ++ (clipC c ++ cells l).drop (0 * 22 + j + vs.length) = clipC x' ++ cells l
  rw [Nat.zero_mul, Nat.zero_add, e, List.take_append_of_le_length (by rw [clipC_length]; omega), List.drop_append_of_le_length (by rw [clipC_length]; omega)]
  simp [List.append_assoc]
 | c :: l, i + 1, x, x', j, vs, h, hj, e => by
  simp only [List.getElem?_cons_succ] at h
  have ih := cells_range (l := l) h hj e
  show (clipC c ++ cells l).take ((i + 1) * 22 + j) ++ vs ++ (clipC c ++ cells l).drop ((i + 1) * 22 + j + vs.length) = clipC c ++ cells (l.set i x')
  have e1 : (i + 1) * 22 + j = (clipC c).length + (i * 22 + j) := by rw [clipC_length]; omega
  have e2 : (i + 1) * 22 + j + vs.length = (clipC c).length + (i * 22 + j + vs.length) := by rw [clipC_length]; omega
  rw [e1, List.take_length_add_append, ← e1, e2, List.drop_length_add_append, ← ih]
  simp [List.append_assoc]
theorem OT.range {w : World} {B g cap kk : Nat} {l : List Trk.Clip} {i j : Nat} {x x' : Trk.Clip} {vs : List Value} (h : OT w B (.slice (some ⟨g, 0, none⟩) kk cap) l) (hx : l[i]? = some x) (hj : j + vs.length ≤ 22)
  (e : clipC x' = (clipC x).take j ++ vs ++ (clipC x).drop (j + vs.length)) : OT (w.setCells g (i * 22 + j) vs) B (.slice (some ⟨g, 0, none⟩) kk cap) (l.set i x') := by
 have hk := h.own.2.2.1
 subst hk
 unfold OT at h ⊢
 have hi := (List.getElem?_eq_some_iff.1 hx).1
 have h2 := RowX.setCells vs (o := i * 22 + j) h (by rw [cells_length]; omega)
 rw [cells_range hx hj e] at h2
 rw [List.length_set]
 exact h2
structure Turn (g : Nat) (w w' : World) : Prop where
 s : w.heap.size ≤ w'.heap.size
 o : ∀ b, b < w.heap.size → b ≠ g → w'.heap[b]? = w.heap[b]?
 b : ∀ n w0, n ≤ g → Below n w0 w → Below n w0 w'
theorem Turn.refl (g : Nat) (w : World) : Turn g w w := ⟨Nat.le_refl _, fun _ _ _ => rfl, fun _ _ _ h => h⟩
theorem Turn.trans {g : Nat} {a b c : World} (h : Turn g a b) (k : Turn g b c) : Turn g a c :=
 ⟨Nat.le_trans h.s k.s, fun x hx hn => (k.o x (Nat.lt_of_lt_of_le hx h.s) hn).trans (h.o x hx hn), fun n w0 hn hb => k.b n w0 hn (h.b n w0 hn hb)⟩
theorem Turn.cells (g o : Nat) (vs : List Value) (w : World) : Turn g w (w.setCells g o vs) :=
 ⟨Nat.le_of_eq (size_setCells g vs o w).symm, fun b _ hn => setCells_other g b hn vs o w, fun n w0 hn hb => below_setCells g hn _ _ _ hb⟩
theorem Turn.cell (g o : Nat) (u : Value) (w : World) : Turn g w (w.setCell ⟨g, o, none⟩ u) := Turn.cells g o [u] w
theorem Turn.of {g : Nat} {w w' : World} (hg : g ≤ w.heap.size) (h : Below w.heap.size w w') : Turn g w w' :=
 ⟨h.size, fun b hb _ => h.block b hb, fun n w0 hn hb => hb.trans (h.mono (Nat.le_trans hn hg))⟩
theorem Turn.get {g : Nat} {w w' : World} (h : Turn g w w') {b o : Nat} {u : Value} (hn : b ≠ g) (hc : w.cell? ⟨b, o, none⟩ = some u) : w'.cell? ⟨b, o, none⟩ = some u :=
 (World.cell?_of_block (a := ⟨b, o, none⟩) (h.o b (block_lt_of_cell hc) hn)).trans hc
theorem Turn.ed {g : Nat} {w w' : World} (h : Turn g w w') {b : Nat} {k p n c d sn sd : Int} {v : Value} (hn : b ≠ g) (hc : ED w b k p n c d sn sd v) : ED w' b k p n c d sn sd v := hc.same (h.o b hc.lt hn)
structure Seen (w : World) (b8 b3 g N cap : Nat) (d : Int) (l : List Trk.Clip) (B : Nat) : Prop where
 v : w.cell? ⟨b8, 0, none⟩ = some (.slice (some ⟨g, 0, none⟩) N cap)
 d : w.cell? ⟨b3, 4, none⟩ = some (.int .i64 d)
 l : OT w B (.slice (some ⟨g, 0, none⟩) N cap) l
 n8 : b8 ≠ g
 n3 : b3 ≠ g
theorem Seen.below {w w' : World} {b8 b3 g N cap : Nat} {d : Int} {l : List Trk.Clip} {B : Nat} (h : Seen w b8 b3 g N cap d l B) (hb : Below w.heap.size w w') : Seen w' b8 b3 g N cap d l B :=
 ⟨(hb.cell (block_lt_of_cell h.v)).trans h.v, (hb.cell (block_lt_of_cell h.d)).trans h.d, h.l.below hb, h.n8, h.n3⟩
theorem Seen.cells {w : World} {b8 b3 g N cap : Nat} {d : Int} {l : List Trk.Clip} {B : Nat} (h : Seen w b8 b3 g N cap d l B) {i j : Nat} {x x' : Trk.Clip} {vs : List Value} (hx : l[i]? = some x) (hj : j + vs.length ≤ 22)
  (e : clipC x' = (clipC x).take j ++ vs ++ (clipC x).drop (j + vs.length)) : Seen (w.setCells g (i * 22 + j) vs) b8 b3 g N cap d (l.set i x') B :=
 ⟨(Turn.cells g (i * 22 + j) vs w).get h.n8 h.v, (Turn.cells g (i * 22 + j) vs w).get h.n3 h.d, h.l.range hx hj e, h.n8, h.n3⟩
theorem Seen.room {w : World} {b8 b3 g N cap : Nat} {d : Int} {l : List Trk.Clip} {B : Nat} (h : Seen w b8 b3 g N cap d l B) : N = l.length ∧ N ≤ cap := by
 obtain ⟨ao, c', e, h1, h2, _⟩ := h.l.tk
 simp only [Value.slice.injEq] at e
 exact ⟨h.l.own.2.2.1, by omega⟩
structure C82 (w : World) (b8 b3 g N cap : Nat) (d : Int) : Prop where
 v : w.cell? ⟨b8, 0, none⟩ = some (.slice (some ⟨g, 0, none⟩) N cap)
 d : w.cell? ⟨b3, 4, none⟩ = some (.int .i64 d)
theorem C82.below {w w' : World} {b8 b3 g N cap : Nat} {d : Int} (h : C82 w b8 b3 g N cap d) (hb : Below w.heap.size w w') : C82 w' b8 b3 g N cap d :=
 ⟨(hb.cell (block_lt_of_cell h.v)).trans h.v, (hb.cell (block_lt_of_cell h.d)).trans h.d⟩
theorem Seen.at' {w : World} {b8 b3 g N cap : Nat} {d : Int} {l : List Trk.Clip} {B : Nat} (h : Seen w b8 b3 g N cap d l B) {i : Nat} {x : Trk.Clip} (hx : l[i]? = some x) : CA w g (i * 22) x := h.l.own.2.2.2 i x hx
theorem CA.src_b {w : World} {b o : Nat} {c : Trk.Clip} (h : CA w b o c) : w.rangeAt b (o + 9) (srcC c.b) := by
 intro j u hj
 have hl : j < 7 := (List.getElem?_eq_some_iff.1 hj).1
 have h2 := h.get (9 + j) u (by
  rcases (show j = 0 ∨ j = 1 ∨ j = 2 ∨ j = 3 ∨ j = 4 ∨ j = 5 ∨ j = 6 by omega) with rfl | rfl | rfl | rfl | rfl | rfl | rfl <;> simpa [srcC, clipC] using hj)
 rw [Nat.add_assoc]
 exact h2
theorem wpl_loadS {ops : Array Oper} {rest : List Oper} {op : Oper} {a : Act} {w : World} {Q : Exit → Act → World → Prop} {b o : Nat} {s : Trk.Src} (dst : Option Tmp) (hd : op.dst = dst) {x : Operand} (hc : w.rangeAt b o (srcC s)) (hgd : op.guard = none) (ho : op.op = .load 46 x)
  (hx : a.eval x = .pointer (some ⟨b, o, none⟩)) (h : wpList Tryz.prog ops Q rest (a.put dst (.agg (srcC s).toArray)) w) : wpList Tryz.prog ops Q (op :: rest) a w := by
 subst hd
 exact wpList_load_mid hgd 46 x ho b o hx (srcC s) _ hc Tryz.underlying46 rfl (by kernel_rfl) h
theorem src_oneCell (s : Trk.Src) : (srcC s).toArray.all (·.oneCell') = true := by simp [srcC, Value.oneCell']
theorem wpl_storeS {ops : Array Oper} {rest : List Oper} {op : Oper} {a : Act} {w : World} {Q : Exit → Act → World → Prop} {b o : Nat} (s : Trk.Src) (dst : Option Tmp) (hd : op.dst = dst) {x y : Operand} (ht : w.there b o 7) (hgd : op.guard = none) (ho : op.op = .store 46 x y)
  (hx : a.eval x = .pointer (some ⟨b, o, none⟩)) (hy : a.eval y = .agg (srcC s).toArray) (h : wpList Tryz.prog ops Q rest (a.put dst undef) (w.setCells b o (srcC s))) : wpList Tryz.prog ops Q (op :: rest) a w := by
 subst hd
 exact wpList_store_mid hgd 46 x y ho b o (srcC s).toArray hx hy ht (by kernel_rfl) (src_oneCell s) h
structure CB2 (w : World) (b8 b3 g N cap i : Nat) (d : Int) (s : Trk.Src) : Prop where
 v : w.cell? ⟨b8, 0, none⟩ = some (.slice (some ⟨g, 0, none⟩) N cap)
 d : w.cell? ⟨b3, 4, none⟩ = some (.int .i64 d)
 b : w.rangeAt g (i * 22 + 9) (srcC s)
theorem CB2.below {w w' : World} {b8 b3 g N cap i : Nat} {d : Int} {s : Trk.Src} (h : CB2 w b8 b3 g N cap i d s) (hb : Below w.heap.size w w') : CB2 w' b8 b3 g N cap i d s :=
 ⟨(hb.cell (block_lt_of_cell h.v)).trans h.v, (hb.cell (block_lt_of_cell h.d)).trans h.d, fun j u hj => (hb.cell (block_lt_of_cell (h.b j u hj))).trans (h.b j u hj)⟩
theorem Seen.cb {w : World} {b8 b3 g N cap : Nat} {d : Int} {l : List Trk.Clip} {B : Nat} (h : Seen w b8 b3 g N cap d l B) {i : Nat} {x : Trk.Clip} (hx : l[i]? = some x) : CB2 w b8 b3 g N cap i d x.b := ⟨h.v, h.d, (h.at' hx).src_b⟩
theorem OT.thereS {w : World} {B g cap k : Nat} {l : List Trk.Clip} (h : OT w B (.slice (some ⟨g, 0, none⟩) k cap) l) {i : Nat} (hi : i < l.length) (j : Nat) (hj : j + 7 ≤ 22) : w.there g (i * 22 + j) 7 := fun q hq => by
 have := h.there hi (j + q) (by omega)
 rw [← Nat.add_assoc] at this
 exact this
theorem Tk.take {w : World} {ao : Option Addr} {m cap : Nat} {l : List Trk.Clip} (h : Tk w (.slice ao m cap) l) {c : Nat} (hc : c ≤ l.length) : Tk w (.slice ao c cap) (l.take c) := by
 obtain ⟨ao', cap', e, h1, h2, h3⟩ := h
 simp only [Value.slice.injEq] at e
 obtain ⟨rfl, rfl, rfl⟩ := e
 have hl : (l.take c).length = c := by simp; omega
 refine ⟨ao, cap, by rw [hl], by rw [hl]; omega, h2, fun i x hi => ?_⟩
 have hi' := (List.getElem?_eq_some_iff.1 hi).1
 rw [hl] at hi'
 rw [List.getElem?_take, if_pos hi'] at hi
 exact h3 i x hi
structure AW (w0 w : World) (g1 g2 b8 b10 gl g15 N cap B : Nat) (k p m c d sn sd : Int) (u : Value) (l : List Trk.Clip) (uk : Int) : Prop where
 a : ED w g1 k p m c d sn sd u
 r : ED w g2 0 0 0 0 0 0 0 (.slice none 0 0)
 s : Seen w b8 g1 gl N cap d l B
 c : w.cell? ⟨b10, 0, none⟩ = some (.func (.func 127) #[] #[.pointer (some ⟨b8, 0, none⟩), .pointer (some ⟨g1, 0, none⟩)])
 e : ED w g15 uk 0 0 0 0 0 0 (.slice none 0 0)
 b : Below w0.heap.size w0 w
structure AN (w0 : World) (g1 g2 b8 b10 gl g15 : Nat) : Prop where
 h1 : w0.heap.size ≤ g1
 h2 : g1 < g2
 h3 : g2 < gl
 h4 : gl < b8
 h5 : b8 < b10
 h6 : b10 < g15
theorem AW.below {w0 w w' : World} {g1 g2 b8 b10 gl g15 N cap B : Nat} {k p m c d sn sd : Int} {u : Value} {l : List Trk.Clip} {uk : Int} (h : AW w0 w g1 g2 b8 b10 gl g15 N cap B k p m c d sn sd u l uk) (hb : Below w.heap.size w w') :
  AW w0 w' g1 g2 b8 b10 gl g15 N cap B k p m c d sn sd u l uk :=
 ⟨h.a.below hb, h.r.below hb, h.s.below hb, (hb.cell (block_lt_of_cell h.c)).trans h.c, h.e.below hb, h.b.trans (hb.mono h.b.size)⟩
theorem AW.turn {w0 w w' : World} {g1 g2 b8 b10 gl g15 N cap B : Nat} {k p m c d sn sd : Int} {u : Value} {l l' : List Trk.Clip} {uk : Int} (h : AW w0 w g1 g2 b8 b10 gl g15 N cap B k p m c d sn sd u l uk) (hn : AN w0 g1 g2 b8 b10 gl g15)
  (ht : Turn gl w w') (hs : Seen w' b8 g1 gl N cap d l' B) : AW w0 w' g1 g2 b8 b10 gl g15 N cap B k p m c d sn sd u l' uk := by
 obtain ⟨h1, h2, h3, h4, h5, h6⟩ := hn
 exact ⟨ht.ed (by omega) h.a, ht.ed (by omega) h.r, hs, ht.get (by omega) h.c, ht.ed (by omega) h.e, ht.b _ _ (by omega) h.b⟩
structure AF (w0 w : World) (g1 g2 b8 gl g15 N cap B : Nat) (d : Int) (l : List Trk.Clip) (uk a mm : Int) (v : Value) : Prop where
 r : ED w g2 0 0 0 0 0 0 0 (.slice none 0 0)
 s : Seen w b8 g1 gl N cap d l B
 e : ED w g15 uk a mm 0 0 0 0 v
 b : Below w0.heap.size w0 w
theorem AF.below {w0 w w' : World} {g1 g2 b8 gl g15 N cap B : Nat} {d : Int} {l : List Trk.Clip} {uk a mm : Int} {v : Value} (h : AF w0 w g1 g2 b8 gl g15 N cap B d l uk a mm v) (hb : Below w.heap.size w w') : AF w0 w' g1 g2 b8 gl g15 N cap B d l uk a mm v :=
 ⟨h.r.below hb, h.s.below hb, h.e.below hb, h.b.trans (hb.mono h.b.size)⟩
theorem AF.turn {w0 w w' : World} {g1 g2 b8 b10 gl g15 N cap B : Nat} {d : Int} {l : List Trk.Clip} {uk a mm : Int} {v : Value} (h : AF w0 w g1 g2 b8 gl g15 N cap B d l uk a mm v) (hn : AN w0 g1 g2 b8 b10 gl g15) (ht : Turn g15 w w') {a' mm' : Int} {v' : Value} (he : ED w' g15 uk a' mm' 0 0 0 0 v') :
  AF w0 w' g1 g2 b8 gl g15 N cap B d l uk a' mm' v' := by
 obtain ⟨h1, h2, h3, h4, h5, h6⟩ := hn
 refine ⟨ht.ed (by omega) h.r, ⟨ht.get (by omega) h.s.v, ht.get (by omega) h.s.d, h.s.l.blocks (fun g kk cp e => ?_), h.s.n8, h.s.n3⟩, he, ht.b _ _ (by omega) h.b⟩
 simp only [Value.slice.injEq, Option.some.injEq, Addr.mk.injEq, and_true, true_and] at e
 obtain ⟨rfl, _, _⟩ := e
 exact ht.o gl h.s.l.own.2.1 (by omega)
theorem ED.set2 {w : World} {b : Nat} {k p n c d sn sd : Int} {v : Value} (h : ED w b k p n c d sn sd v) (x : Int) : ED (w.setCell ⟨b, 2, none⟩ (.int .i64 x)) b k p x c d sn sd v := by
 obtain ⟨x0, x1, x2, x3, x4, x5, x6, x7, f⟩ := h
 exact ⟨by simp [go_sem, x0], by simp [go_sem, x1], by simp [go_sem, x2], by simp [go_sem, x3], by simp [go_sem, x4], by simp [go_sem, x5], by simp [go_sem, x6], by simp [go_sem, x7], fun o => by rw [World.frozen?_setCell]; exact f o⟩
end Go.Proofs.YtfoohocgdcgbcaaGreat
