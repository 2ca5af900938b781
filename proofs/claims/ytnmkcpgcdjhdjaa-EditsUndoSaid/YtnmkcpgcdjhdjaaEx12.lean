/- Rows.EditsExtractsSaid is proved here, for every input; the walk is law_extracts. -/
import Derived.ProofKit
import Derived.OpenShut
import Derived.Carry
import Derived.ChangeSlices
import Derived.ChangeSame
import Derived.Test.YtnmkcpgcdjhdjaaRows
import Derived.WalkKit
import Derived.Test.YtnmkcpgcdjhdjaaEx11
set_option linter.unusedVariables false
set_option linter.unusedSimpArgs false

/- The contract of awake. -/
namespace Go.Proofs.Ytnmkcpgcdjhdjaa
open Go.RowKit
set_option linter.unusedVariables false
set_option linter.unusedSimpArgs false
theorem OT.first {w : World} {B : Nat} {v : Value} {l : List Trk.Clip} (h : OT w B v l) (hl : l ≠ []) : ∃ g cap, v = .slice (some ⟨g, 0, none⟩) l.length cap ∧ B ≤ g ∧ l.length ≤ cap ∧ ∀ i c, l[i]? = some c → CA w g (i * 22) c := by
  obtain ⟨_, e⟩ | ⟨g, cap, rfl⟩ := h.shape
  · exact absurd e hl
  · obtain ⟨ao, cp, e, h1, _⟩ := h.tk
    simp only [Value.slice.injEq] at e
    exact ⟨g, cap, rfl, h.own.1, by omega, h.own.2.2.2⟩
set_option maxRecDepth 100000 in
set_option maxHeartbeats 16000000 in
theorem awake_any (w : World) : Calls Try.prog 18 #[] w fun e w' => e = .returned (.bool true) ∧ Below w.heap.size w w' := by
  go_enter Try.func18, Try.ntmps18
  go_upto_region 1 with fail
  apply wp_region_lit
  iterate 3 go_step
  refine Great.wpList_buildSliceTo rfl 35 53 1 #[(0, .tmp 11)] rfl w.heap.size rfl (some 12) rfl Try.underlying35 (clipC (Trk.gap 4)).toArray ?_ ?_
  · simp only [List.map_toArray, List.map_cons, List.map_nil, List.toList_toArray]
    exact built_clip (Trk.gap 4)
  have HT1 := Lib.hid (OT.box w (Trk.gap 4)).tk
  have HB := Lib.hid (below_box w (.cells (clipC (Trk.gap 4)).toArray 53))
  obtain ⟨w1, hw1⟩ : ∃ y, y = w.alloc (.cells (clipC (Trk.gap 4)).toArray 53) := ⟨_, rfl⟩
  rw [← hw1] at HT1 HB ⊢
  obtain ⟨g1, hg1⟩ : ∃ y, y = w.heap.size := ⟨_, rfl⟩
  rw [← hg1] at HT1 ⊢
  clear hw1 hg1
  simp only [Act.put, List.setIfInBounds_toArray, List.set_cons_succ, List.set_cons_zero]
  go_wp2_with fail
  refine (one_any 1 ⟨#[97]⟩ _).mono ?_
  rintro e w2 ⟨rfl, hb⟩
  replace HT1 := Lib.hid (HT1.out.below hb)
  replace HB := Lib.hid (HB.out.trans (hb.mono HB.out.size))
  clear hb
  rw [show clipV (oneC 1 ⟨#[97]⟩) = .agg (clipC (oneC 1 nA)).toArray from rfl]
  dsimp only
  iterate 1 go_step
  refine Great.wpList_buildSliceTo rfl 35 53 1 #[(0, .tmp 13)] rfl w2.heap.size rfl (some 14) rfl Try.underlying35 (clipC (oneC 1 nA)).toArray ?_ ?_
  · simp only [List.map_toArray, List.map_cons, List.map_nil, List.toList_toArray]
    exact built_clip (oneC 1 nA)
  have hb := below_box w2 (.cells (clipC (oneC 1 nA)).toArray 53)
  replace HT1 := Lib.hid (HT1.out.below hb)
  replace HB := Lib.hid (HB.out.trans (hb.mono HB.out.size))
  have HU1 := Lib.hid (OT.box w2 (oneC 1 nA)).tk
  obtain ⟨w3, hw3⟩ : ∃ y, y = w2.alloc (.cells (clipC (oneC 1 nA)).toArray 53) := ⟨_, rfl⟩
  rw [← hw3] at HT1 HB HU1 ⊢
  obtain ⟨g2, hg2⟩ : ∃ y, y = w2.heap.size := ⟨_, rfl⟩
  rw [← hg2] at HU1 ⊢
  clear hw3 hg2 hb
  simp only [Act.put, List.setIfInBounds_toArray, List.set_cons_succ, List.set_cons_zero]
  iterate 3 go_step
  have HA1 := Lib.hid (apply_x (L := 1000000) (.slice (some ⟨g1, 0, none⟩) 1 1) (.slice (some ⟨g2, 0, none⟩) 1 1) [Trk.gap 4] ed1 w3 HT1.out HU1.out ⟨Trk.VL.cons (Trk.gap_vc (by decide) (by decide)) Trk.VL.nil, by decide, by decide⟩ ed1_v (by decide) (by rw [nf_gap4]; decide) (by rw [nf_gap4]; decide) (by rw [nf_gap4, ex1]; decide))
  rw [nf_gap4, ex1] at HA1
  iterate 2 go_step
  refine HA1.out.mono ?_
  rintro e w4 ⟨v1, r1, rfl, ho, hor, hb⟩
  have hE : EdV (Trk.backOf [] ed1.p (ed1.p + ed1.T) (Trk.undoK ed1.k)) r1 = .agg (edC 2 2 1 0 0 0 0 r1) := rfl
  rw [hE]
  obtain ⟨ra, rc, rfl, -⟩ := hor.tk
  obtain ⟨ga, ca, rfl, _, hca, hcs⟩ := ho.first (by simp)
  have HCA := Lib.hid (hcs 0 _ rfl)
  have HCB := Lib.hid (hcs 1 _ rfl)
  replace HB := Lib.hid (HB.out.trans (hb.mono HB.out.size))
  obtain ⟨rl, hrl⟩ : ∃ m, m = (Trk.backOf [] ed1.p (ed1.p + ed1.T) (Trk.undoK ed1.k)).ins.length := ⟨_, rfl⟩
  rw [← hrl]
  clear hE hor ho hb hcs hrl HA1 HT1 HU1
  simp only [List.length_cons, List.length_nil, Nat.zero_add, Nat.reduceAdd] at hca ⊢
  try dsimp only
  iterate 19 go_step
  have hv : ED (w4.alloc (.cells (edC 0 0 0 0 0 0 0 (.slice none 0 0)) 26)) w4.heap.size 0 0 0 0 0 0 0 (.slice none 0 0) := ED.box w4 0 0 0 0 0 0 0 (.slice none 0 0) rfl 26
  have hb : Below w4.heap.size w4 (w4.alloc (.cells (edC 0 0 0 0 0 0 0 (.slice none 0 0)) 26)) := below_box _ _
  refine wpl_storeE 2 2 1 0 0 0 0 ra rl rc hv rfl rfl rfl rfl ?_
  intro w5 q1 q2 q3 q4 q5
  have hb5 : Below w4.heap.size w4 w5 := q4 _ _ (Nat.le_refl _) hb
  have HE1 := Lib.hid q1
  replace HCA := Lib.hid (HCA.out.below hb5)
  replace HCB := Lib.hid (HCB.out.below hb5)
  replace HB := Lib.hid (HB.out.trans (hb5.mono HB.out.size))
  obtain ⟨gE, hgE⟩ : ∃ g, g = w4.heap.size := ⟨_, rfl⟩
  rw [← hgE] at HE1 ⊢
  clear q1 q2 q3 q4 q5 hb hb5 hv hgE
  simp only [Act.put, List.setIfInBounds_toArray, List.set_cons_succ, List.set_cons_zero]
  go_wp2_with fail
  refine (one_any 3 ⟨#[97]⟩ _).mono ?_
  rintro e w6 ⟨rfl, hb⟩
  replace HCA := Lib.hid (HCA.out.below hb)
  replace HCB := Lib.hid (HCB.out.below hb)
  replace HE1 := Lib.hid (HE1.out.below hb)
  replace HB := Lib.hid (HB.out.trans (hb.mono HB.out.size))
  clear hb
  rw [show clipV (oneC 3 ⟨#[97]⟩) = .agg (clipC (oneC 3 nA)).toArray from rfl]
  go_wp2_with fail
  refine (one_any 3 ⟨#[98]⟩ _).mono ?_
  rintro e w7 ⟨rfl, hb⟩
  replace HCA := Lib.hid (HCA.out.below hb)
  replace HCB := Lib.hid (HCB.out.below hb)
  replace HE1 := Lib.hid (HE1.out.below hb)
  replace HB := Lib.hid (HB.out.trans (hb.mono HB.out.size))
  clear hb
  rw [show clipV (oneC 3 ⟨#[98]⟩) = .agg (clipC (oneC 3 nB)).toArray from rfl]
  try dsimp only
  iterate 1 go_step
  refine Great.wpList_buildSliceTo rfl 35 53 2 #[(0, .tmp 21), (1, .tmp 22)] rfl w7.heap.size rfl (some 23) rfl Try.underlying35 (cells [oneC 3 nA, oneC 3 nB]).toArray ?_ ?_
  · simp only [List.map_toArray, List.map_cons, List.map_nil, List.toList_toArray]
    exact built_two (oneC 3 nA) (oneC 3 nB)
  have hb := below_box w7 (.cells (cells [oneC 3 nA, oneC 3 nB]).toArray 53)
  have HT2 := Lib.hid (OT.of w7 [oneC 3 nA, oneC 3 nB] (by simp)).tk
  replace HCA := Lib.hid (HCA.out.below hb)
  replace HCB := Lib.hid (HCB.out.below hb)
  replace HE1 := Lib.hid (HE1.out.below hb)
  replace HB := Lib.hid (HB.out.trans (hb.mono HB.out.size))
  obtain ⟨w8, hw8⟩ : ∃ y, y = w7.alloc (.cells (cells [oneC 3 nA, oneC 3 nB]).toArray 53) := ⟨_, rfl⟩
  rw [← hw8] at HT2 HB HCA HCB HE1 ⊢
  obtain ⟨g3, hg3⟩ : ∃ y, y = w7.heap.size := ⟨_, rfl⟩
  rw [← hg3] at HT2 ⊢
  clear hw8 hg3 hb
  simp only [Act.put, List.setIfInBounds_toArray, List.set_cons_succ, List.set_cons_zero]
  iterate 3 go_step
  have HA2 := Lib.hid (apply_c (L := 1000000) (.slice (some ⟨g3, 0, none⟩) 2 2) [oneC 3 nA, oneC 3 nB] 7 0 1 0 none w8 HT2.out ⟨Trk.VL.cons (one_vc (by decide) (by decide) nA_ok) (Trk.VL.cons (one_vc (by decide) (by decide) nB_ok) Trk.VL.nil), by decide, by decide⟩ (by decide) (by rw [two_nf]; decide) (by decide) (by decide) (by decide) (by decide))
  rw [two_nf] at HA2
  unfold ClipsPost at HA2
  rw [ex2, ex2_nf, ex2_code] at HA2
  iterate 2 go_step
  refine HA2.out.mono ?_
  rintro e w9 (⟨_, _, v2, r2, rfl, ho, hor, hb⟩ | ⟨h, _⟩)
  rotate_left
  · exact absurd h (by decide)
  have hE : EdV (Trk.backOf [oneC 3 nA, oneC 3 nB] (Trk.fromL [oneC 3 nA, oneC 3 nB] 7 0 1) (Trk.toL [oneC 3 nA, oneC 3 nB] 7 0 1) (Trk.undK 7 1)) r2 = .agg (edC 3 3 0 0 0 0 0 r2) := rfl
  rw [hE]
  obtain ⟨rb, rd, rfl, -⟩ := hor.tk
  obtain ⟨gb, cb, rfl, _, hcb, hcs⟩ := ho.first (by simp)
  have HDA := Lib.hid (hcs 0 _ rfl)
  have HDB := Lib.hid (hcs 1 _ rfl)
  replace HCA := Lib.hid (HCA.out.below hb)
  replace HCB := Lib.hid (HCB.out.below hb)
  replace HE1 := Lib.hid (HE1.out.below hb)
  replace HB := Lib.hid (HB.out.trans (hb.mono HB.out.size))
  obtain ⟨rm, hrm⟩ : ∃ m, m = (Trk.backOf [oneC 3 nA, oneC 3 nB] (Trk.fromL [oneC 3 nA, oneC 3 nB] 7 0 1) (Trk.toL [oneC 3 nA, oneC 3 nB] 7 0 1) (Trk.undK 7 1)).ins.length := ⟨_, rfl⟩
  rw [← hrm]
  clear hE hor ho hb hcs hrm HA2 HT2
  simp only [List.length_cons, List.length_nil, Nat.zero_add, Nat.reduceAdd] at hcb ⊢
  try dsimp only
  iterate 19 go_step
  have hv : ED (w9.alloc (.cells (edC 0 0 0 0 0 0 0 (.slice none 0 0)) 26)) w9.heap.size 0 0 0 0 0 0 0 (.slice none 0 0) := ED.box w9 0 0 0 0 0 0 0 (.slice none 0 0) rfl 26
  have hb0 : Below w9.heap.size w9 (w9.alloc (.cells (edC 0 0 0 0 0 0 0 (.slice none 0 0)) 26)) := below_box _ _
  refine wpl_storeE 3 3 0 0 0 0 0 rb rm rd hv rfl rfl rfl rfl ?_
  intro w10 q1 q2 q3 q4 q5
  have hb : Below w9.heap.size w9 w10 := q4 _ _ (Nat.le_refl _) hb0
  replace HCA := Lib.hid (HCA.out.below hb)
  replace HCB := Lib.hid (HCB.out.below hb)
  replace HE1 := Lib.hid (HE1.out.below hb)
  replace HB := Lib.hid (HB.out.trans (hb.mono HB.out.size))
  replace HDA := Lib.hid (HDA.out.below hb)
  replace HDB := Lib.hid (HDB.out.below hb)
  obtain ⟨gF, hgF⟩ : ∃ g, g = w9.heap.size := ⟨_, rfl⟩
  rw [← hgF]
  clear q1 q2 q3 q4 q5 hb hb0 hv hgF
  simp only [Act.put, List.setIfInBounds_toArray, List.set_cons_succ, List.set_cons_zero]
  go_wp2_with fail
  refine (one_any 3 ⟨#[97]⟩ _).mono ?_
  rintro e w11 ⟨rfl, hb⟩
  replace HCA := Lib.hid (HCA.out.below hb)
  replace HCB := Lib.hid (HCB.out.below hb)
  replace HE1 := Lib.hid (HE1.out.below hb)
  replace HB := Lib.hid (HB.out.trans (hb.mono HB.out.size))
  replace HDA := Lib.hid (HDA.out.below hb)
  replace HDB := Lib.hid (HDB.out.below hb)
  clear hb
  rw [show clipV (oneC 3 ⟨#[97]⟩) = .agg (clipC (oneC 3 nA)).toArray from rfl]
  try dsimp only
  iterate 1 go_step
  refine Great.wpList_buildSliceTo rfl 35 53 1 #[(0, .tmp 30)] rfl w11.heap.size rfl (some 31) rfl Try.underlying35 (clipC (oneC 3 nA)).toArray ?_ ?_
  · simp only [List.map_toArray, List.map_cons, List.map_nil, List.toList_toArray]
    exact built_clip (oneC 3 nA)
  have hb := below_box w11 (.cells (clipC (oneC 3 nA)).toArray 53)
  have HT3 := Lib.hid (OT.box w11 (oneC 3 nA)).tk
  replace HCA := Lib.hid (HCA.out.below hb)
  replace HCB := Lib.hid (HCB.out.below hb)
  replace HE1 := Lib.hid (HE1.out.below hb)
  replace HB := Lib.hid (HB.out.trans (hb.mono HB.out.size))
  replace HDA := Lib.hid (HDA.out.below hb)
  replace HDB := Lib.hid (HDB.out.below hb)
  obtain ⟨w12, hw12⟩ : ∃ y, y = w11.alloc (.cells (clipC (oneC 3 nA)).toArray 53) := ⟨_, rfl⟩
  rw [← hw12] at HT3 HB HCA HCB HE1 HDA HDB ⊢
  obtain ⟨g4, hg4⟩ : ∃ y, y = w11.heap.size := ⟨_, rfl⟩
  rw [← hg4] at HT3 ⊢
  clear hw12 hg4 hb
  simp only [Act.put, List.setIfInBounds_toArray, List.set_cons_succ, List.set_cons_zero]
  iterate 3 go_step
  have HA3 := Lib.hid (apply_c (L := 1000000) (.slice (some ⟨g4, 0, none⟩) 1 1) [oneC 3 nA] 5 0 (-3) 0 none w12 HT3.out ⟨Trk.VL.cons (one_vc (by decide) (by decide) nA_ok) Trk.VL.nil, by decide, by decide⟩ (by decide) (by rw [one_nf]; decide) (by decide) (by decide) (by decide) (by decide))
  rw [one_nf] at HA3
  unfold ClipsPost at HA3
  rw [ex3_code] at HA3
  iterate 2 go_step
  refine HA3.out.mono ?_
  rintro e w13 (⟨_, h, _⟩ | ⟨_, rfl, hb⟩)
  · exact absurd h (by decide)
  replace HCA := Lib.hid (HCA.out.below hb)
  replace HCB := Lib.hid (HCB.out.below hb)
  replace HE1 := Lib.hid (HE1.out.below hb)
  replace HB := Lib.hid (HB.out.trans (hb.mono HB.out.size))
  replace HDA := Lib.hid (HDA.out.below hb)
  replace HDB := Lib.hid (HDB.out.below hb)
  clear hb HA3 HT3
  have hE : edV 0 0 0 0 0 0 0 (.slice none 0 0) = .agg (edC 0 0 0 0 0 0 0 (.slice none 0 0)) := rfl
  rw [hE]
  have hc2 : (if decide ((-3 : Int) ≠ 0 ∧ -2147483647 ≤ (-3 : Int) ∧ (-3 : Int) ≤ 2147483647) = true then (2 : Int) else 1) = 2 := by decide
  rw [hc2]
  clear hE hc2
  try dsimp only
  iterate 19 go_step
  have hv : ED (w13.alloc (.cells (edC 0 0 0 0 0 0 0 (.slice none 0 0)) 26)) w13.heap.size 0 0 0 0 0 0 0 (.slice none 0 0) := ED.box w13 0 0 0 0 0 0 0 (.slice none 0 0) rfl 26
  have hb0 : Below w13.heap.size w13 (w13.alloc (.cells (edC 0 0 0 0 0 0 0 (.slice none 0 0)) 26)) := below_box _ _
  refine wpl_storeE 0 0 0 0 0 0 0 none 0 0 hv rfl rfl rfl rfl ?_
  intro w14 q1 q2 q3 q4 q5
  have hb : Below w13.heap.size w13 w14 := q4 _ _ (Nat.le_refl _) hb0
  replace HCA := Lib.hid (HCA.out.below hb)
  replace HCB := Lib.hid (HCB.out.below hb)
  replace HE1 := Lib.hid (HE1.out.below hb)
  replace HB := Lib.hid (HB.out.trans (hb.mono HB.out.size))
  replace HDA := Lib.hid (HDA.out.below hb)
  replace HDB := Lib.hid (HDB.out.below hb)
  clear q1 q2 q3 q4 q5 hb hb0 hv
  simp only [Act.put, List.setIfInBounds_toArray, List.set_cons_succ, List.set_cons_zero]
  have x0 : w14.cell? ⟨ga, 0, none⟩ = some (.int .i64 2) := HCA.out.k0
  obtain ⟨e0, e1, e2, _⟩ := HE1.out
  have y0 : w14.cell? ⟨gb, 0, none⟩ = some (.int .i64 4) := HDA.out.k0
  have y1 : w14.cell? ⟨gb, 26, none⟩ = some (.int .i64 1) := HDB.out.k4
  have y2 : w14.cell? ⟨gb, 27, none⟩ = some (.int .i64 1) := HDB.out.k5
  go_wp2_with fail
  go_ret
  exact ⟨rfl, HB.out⟩
end Go.Proofs.Ytnmkcpgcdjhdjaa

/- The law of the extractions. -/
namespace Go.Proofs.Ytnmkcpgcdjhdjaa
open Go.RowKit
set_option linter.unusedVariables false
set_option linter.unusedSimpArgs false
theorem Made.nf {t : List Trk.Clip} (h : Made t) : Trk.nf t = t := h.n.nf
theorem extract_v (n k : Int) (n0 : 0 ≤ n) (n1 : n ≤ 1000) (k0 : 1 ≤ k) (k1 : k ≤ 1000) : ExV 1000000 ⟨2, n, k, 0, 0, 0, 0, []⟩ :=
  ⟨⟨.inr (.inl rfl), n0, Trk.GoodL.nil, fun _ => rfl, k0⟩, ⟨Trk.VL.nil, by simp, by show (0 : Int) ≤ _; decide⟩, fun h => by rcases h with h | h <;> (have h2 : (2 : Int) = _ := h; omega), by show n ≤ _; omega, by show k ≤ _; omega, rfl, rfl, rfl, rfl⟩
/-- What an extraction makes of a made track. -/
structure ExtOf (t u : List Trk.Clip) (n k : Int) : Prop where
  v : VT 1000000 u
  lo : ∀ i, 0 ≤ i → i < n → Trk.fr u (0 + i) = Trk.fr t (0 + i)
  hi : ∀ i, 0 ≤ i → Trk.fr u (n + i) = Trk.fr t (n + k + i)
theorem ext_of {t : List Trk.Clip} (h : Made t) {n k : Int} (n0 : 0 ≤ n) (n1 : n ≤ 1000) (k0 : 1 ≤ k) (k1 : k ≤ 1000) :
    (Trk.nf ((⟨2, n, k, 0, 0, 0, 0, []⟩ : Trk.Ed).exl t)).length ≤ 64 ∧ ExtOf t (Trk.nf ((⟨2, n, k, 0, 0, 0, 0, []⟩ : Trk.Ed).exl t)) n k := by
  have hE := extract_v n k n0 n1 k0 k1
  have o := hE.x.of h.v.good
  have hu := hE.x.undo h.v.good
  have hx := exl_vl h.vt hE (by rw [if_neg (by show ¬ (2 : Int) = 1; decide)]; show n + k ≤ _; omega)
  have hl : ((⟨2, n, k, 0, 0, 0, 0, []⟩ : Trk.Ed).exl t).length ≤ 64 := by
    have h1 := o.n
    have h2 : ((⟨2, n, k, 0, 0, 0, 0, []⟩ : Trk.Ed).put).length = 0 := rfl
    have := h.l
    omega
  have hln := Nat.le_trans (Trk.nf_length hx.1.good) hl
  refine ⟨hln, ⟨⟨Trk.nf_vl hx.1 hx.2.1, hln, Int.le_trans (Trk.nf_total hx.1.good) hx.2.1⟩, fun i i0 i1 => ?_, fun i i0 => ?_⟩⟩
  · rw [Trk.nf_fr hx.1.good (by omega)]
    exact hu.lo (0 + i) (by omega) (by show 0 + i < n; omega)
  · rw [Trk.nf_fr hx.1.good (by omega)]
    have h1 := hu.one rfl (n + i) (by show n ≤ n + i; omega)
    rw [h1]
    have hT : (⟨2, n, k, 0, 0, 0, 0, []⟩ : Trk.Ed).T = k := rfl
    rw [hT]
    congr 1
    show n + i + (n + k - n) = _
    omega
set_option maxRecDepth 100000 in
set_option maxHeartbeats 16000000 in
theorem law_extracts (v : Value) (a m : Int) (w : World) (h : Ints w v) (ha : 0 ≤ a ∧ a ≤ 255) (hm : 0 ≤ m ∧ m ≤ 255) :
    Calls Try.prog 7 #[v, .int .u8 a, .int .u8 m] w fun e w' => e = .returned (.bool true) ∧ Below w.heap.size w w' := by
  obtain ⟨ha0, ha1⟩ := ha
  obtain ⟨hm0, hm1⟩ := hm
  have HMA := Lib.hid (made_any v w h)
  clear h
  go_enter Try.func7, Try.ntmps7
  go_wp2_with fail
  refine HMA.out.mono ?_
  rintro e w1 ⟨vt, t, p, k', rfl, ho, hmd, htp, hk', hb⟩
  have HO := Lib.hid ho
  have HM := Lib.hid hmd
  have HB := Lib.hid hb
  clear ho hmd htp hk' hb HMA
  go_upto_region 3 with fail
  obtain ⟨n, hn⟩ : ∃ n, n = a % 50 := ⟨_, rfl⟩
  obtain ⟨k, hk⟩ : ∃ k, k = m % 30 + 1 := ⟨_, rfl⟩
  rw [← hn, ← hk]
  have n0 : 0 ≤ n := by omega
  have n1 : n ≤ 49 := by omega
  have k0 : 1 ≤ k := by omega
  have k1 : k ≤ 30 := by omega
  clear hn hk ha0 ha1 hm0 hm1
  obtain ⟨hlen, hext⟩ := ext_of HM.out n0 (by omega) k0 (show k ≤ 1000 by omega)
  have hT0 := Trk.total_nonneg HM.out.v.good
  have hT1 := HM.out.tt
  have HAP := Lib.hid (fun w (h : Tk w vt t) => apply_x (L := 1000000) vt (.slice none 0 0) t ⟨2, n, k, 0, 0, 0, 0, []⟩ w h (Tk.nil w) HM.out.vt (extract_v n k n0 (by omega) k0 (by omega)) (by decide) (by rw [HM.out.nf]; have := HM.out.l; omega) (by rw [if_neg (by show ¬ (2 : Int) = 1; decide)]; show n + k ≤ _; omega) (by rw [HM.out.nf]; exact hlen))
  rw [HM.out.nf] at HAP
  obtain ⟨U, hU⟩ : ∃ U, U = Trk.nf ((⟨2, n, k, 0, 0, 0, 0, []⟩ : Trk.Ed).exl t) := ⟨_, rfl⟩
  rw [← hU] at HAP hext
  have HX := Lib.hid hext
  clear hU hlen hext
  have HLN := Lib.hid (fun w (h : Tk w vt t) => length_any vt t w h HM.out.vt (by decide))
  obtain ⟨T, hT⟩ : ∃ T, T = Trk.total t := ⟨_, rfl⟩
  rw [← hT] at HLN hT0 hT1
  clear hT
  go_wp2_with fail
  refine (HAP.out _ HO.out.tk).mono ?_
  rintro e w2 ⟨vu, vr, rfl, hou, hor, hb⟩
  obtain ⟨ra, rc, rfl, -⟩ := hor.tk
  have hE : ∃ x1 x2 x3 rl, EdV (Trk.backOf t n (n + (⟨2, n, k, 0, 0, 0, 0, []⟩ : Trk.Ed).T) (Trk.undoK 2)) (.slice ra (Trk.backOf t n (n + (⟨2, n, k, 0, 0, 0, 0, []⟩ : Trk.Ed).T) (Trk.undoK 2)).ins.length rc) = .agg (edC x1 x2 x3 0 0 0 0 (.slice ra rl rc)) := ⟨_, _, _, _, rfl⟩
  obtain ⟨x1, x2, x3, rl, hE⟩ := hE
  simp only [hE]
  have HU := Lib.hid hou
  replace HO := Lib.hid (HO.out.below hb)
  replace HB := Lib.hid (HB.out.trans (hb.mono HB.out.size))
  clear hE hou hor hb HAP
  try dsimp only
  iterate 19 go_step
  have hv : ED (w2.alloc (.cells (edC 0 0 0 0 0 0 0 (.slice none 0 0)) 26)) w2.heap.size 0 0 0 0 0 0 0 (.slice none 0 0) := ED.box w2 0 0 0 0 0 0 0 (.slice none 0 0) rfl 26
  have hb0 : Below w2.heap.size w2 (w2.alloc (.cells (edC 0 0 0 0 0 0 0 (.slice none 0 0)) 26)) := below_box _ _
  refine wpl_storeE x1 x2 x3 0 0 0 0 ra rl rc hv rfl rfl rfl rfl ?_
  intro w3 q1 q2 q3 q4 q5
  have hb : Below w2.heap.size w2 w3 := q4 _ _ (Nat.le_refl _) hb0
  replace HU := Lib.hid (HU.out.below hb)
  replace HO := Lib.hid (HO.out.below hb)
  replace HB := Lib.hid (HB.out.trans (hb.mono HB.out.size))
  obtain ⟨gE, hgE⟩ : ∃ g, g = w2.heap.size := ⟨_, rfl⟩
  rw [← hgE]
  clear q1 q2 q3 q4 q5 hb hb0 hv hgE
  simp only [Act.put, List.setIfInBounds_toArray, List.set_cons_succ, List.set_cons_zero]
  go_wp2_with fail
  refine (lequal_any (L := 1000000) vu vt U t 0 0 n _ HU.out.tk HO.out.tk HX.out.v HM.out.vt (by decide) (by omega) (by omega) (by omega) (by omega) (by omega) (by omega) HX.out.lo).mono ?_
  rintro e w4 ⟨rfl, hb⟩
  replace HU := Lib.hid (HU.out.below hb)
  replace HO := Lib.hid (HO.out.below hb)
  replace HB := Lib.hid (HB.out.trans (hb.mono HB.out.size))
  clear hb
  go_wp2_with fail
  refine (HLN.out _ HO.out.tk).mono ?_
  rintro e w5 ⟨rfl, hb⟩
  replace HU := Lib.hid (HU.out.below hb)
  replace HO := Lib.hid (HO.out.below hb)
  replace HB := Lib.hid (HB.out.trans (hb.mono HB.out.size))
  clear hb
  go_wp2_with fail
  refine (lequal_any (L := 1000000) vu vt U t n (n + k) (max 0 (T - n - k) + 2) _ HU.out.tk HO.out.tk HX.out.v HM.out.vt (by decide) (by omega) (by omega) (by omega) (by omega) (by omega) (by omega) (fun i i0 _ => HX.out.hi i i0)).mono ?_
  rintro e w6 ⟨rfl, hb⟩
  replace HB := Lib.hid (HB.out.trans (hb.mono HB.out.size))
  clear hb
  go_wp2_with fail
  refine (awake_any _).mono ?_
  rintro e w7 ⟨rfl, hb⟩
  replace HB := Lib.hid (HB.out.trans (hb.mono HB.out.size))
  clear hb
  go_wp2_with fail
  go_ret
  exact ⟨rfl, HB.out⟩
end Go.Proofs.Ytnmkcpgcdjhdjaa

/- Aid for the rows: arguments that stay as they were; a tape's numbers. -/
namespace Go.Proofs.Ytnmkcpgcdjhdjaa
open Go.ChangeShapes Go.WideShapes Go.ChangeAt Go.RowKit
set_option linter.unusedVariables false

theorem laid_out : laidOutB Try.prog = true := by kernel_rfl
theorem cells3 : Try.prog.cellsOf 3 = 1 := by kernel_rfl
theorem cells5 : Try.prog.cellsOf 5 = 1 := by kernel_rfl
section
variable {P : Program} {H : Type} {enc : TypeId × Value → H}
/-- The row's post where all that was there when the call began is as it was. -/
theorem post_of_below {f : Func} {s : ChangeSpec} {apart fresh handsOn again : Bool} {W W' : World} {args : Array Value} {v : Value} {ds gs : List (DataW H)} {before pa pv : List MemPlace}
    (hW : DataW.Whole enc P f.params.toList s.vars apart W args.toList ds gs before)
    (hres : ∀ (b : Nat) (sp : Nat → Bool) (hd : Bool), DataW.TrodAll enc P W' b sp hd f.resultTypes.toList (v.resultList f.resultTypes.size) (s.fn H (ds ++ gs)).results [])
    (hargs : ∀ sp : Nat → Bool, (∀ p ∈ before, sp p.block = true) → DataW.TrodAll enc P W' 0 sp true f.params.toList args.toList (s.fn H (ds ++ gs)).args pa)
    (hvars : ∀ sp : Nat → Bool, (∀ p ∈ before, sp p.block = true) → DataW.TrodVars enc P W' sp s.vars (s.fn H (ds ++ gs)).vars pv)
    (hps : before = pa ++ pv) (hb : Below W.heap.size W W')
    (hok : ∀ (j : Nat) (t : TypeId) (r : Value), f.resultTypes[j]? = some t → (v.resultList f.resultTypes.size)[j]? = some r → Value.okWide P W' .any 0 t r) :
    s.post enc P f apart fresh handsOn again W args v W' := by
  have old : ∀ p ∈ before, (fun b => decide (b < W.heap.size)) p.block = true := fun p hp => by simpa using hW.lt p hp
  have kept : W.keptBut W' (· ∈ before) := hb.frame _
  refine ⟨ds, gs, before, [], pa, pv, hW, hres _ _ _, hargs _ old, hvars _ old, World.keptBut_mono (fun p hp => ⟨hp, by rw [hps, List.mem_append] at hp; exact Or.inr hp⟩) kept, fun _ => ?_⟩
  have lt := hW.lt
  obtain ⟨_, _, _, _, _, hz, hn⟩ := hW
  refine ⟨hok, _, _, ([] ++ pa) ++ pv, ⟨[] ++ pa, pv, trodAll_append (hargs _ (fun _ _ => rfl)) (hres _ _ _), hvars _ (fun _ _ => rfl), rfl, ?_, ?_⟩, ?_⟩
  · intro b off hp
    have hp' : MemPlace.cell b off ∈ before := by rw [hps]; simpa using hp
    rw [hb.frozen (p := ⟨b, off, none⟩) (lt _ hp')]
    exact hz b off hp'
  · intro ha
    have h := hn ha
    rw [hps] at h
    simpa using h
  · intro p hp _
    rw [hps]
    simpa using hp

end
section
variable {H : Type} {enc : TypeId × Value → H}
theorem trodAll_stays {P : Program} (hl : laidOutB P = true) {W W' : World} {sp : Nat → Bool} (hb : Below W.heap.size W W') : ∀ {ts : List TypeId} {vs : List Value} {ds : List (DataW H)} {ps : List MemPlace}, (ts.all fun t => P.readableRec t && decide (t < P.types.size)) = true →
    DataW.TrodAll enc P W 0 (fun _ => true) true ts vs ds ps → (∀ x ∈ ps, x.block < W.heap.size) → (∀ x ∈ ps, sp x.block = true) → DataW.TrodAll enc P W' 0 sp true ts vs ds ps := by
  intro ts
  induction ts with
  | nil =>
    intro vs ds ps _ h _ _
    cases vs with
    | nil => cases ds with
      | nil => exact h
      | cons => exact h.elim
    | cons => exact h.elim
  | cons t ts ih =>
    intro vs ds ps hr h hlt hs
    cases vs with
    | nil => exact h.elim
    | cons v vs => cases ds with
      | nil => exact h.elim
      | cons d ds =>
        obtain ⟨p, q, h1, h2, rfl⟩ := h
        simp only [List.all_cons, Bool.and_eq_true, decide_eq_true_eq] at hr
        exact ⟨p, q, WideElems.Trod_stays hl hr.1.1 hr.1.2 h1 (fun x hx => hb.same (hlt x (List.mem_append_left _ hx))) (fun x hx => hs x (List.mem_append_left _ hx)),
          ih hr.2 h2 (fun x hx => hlt x (List.mem_append_right _ hx)) (fun x hx => hs x (List.mem_append_right _ hx)), rfl⟩


set_option maxRecDepth 100000 in
theorem open_tape {W : World} {base : Nat} {v : Value} {d : DataW H} {p : List MemPlace} (hval : Value.okWide Try.prog W .any base 27 v) (h : DataW.Trod enc Try.prog W 0 (fun _ => true) true 27 v d p) : Ints W v := by
  obtain ⟨a1, len, cap, rfl⟩ := okWide_slice Try.underlying27 hval
  obtain ⟨fuel, hf⟩ := h
  rcases open_ints Try.underlying27 Try.underlying3 cells3 hf with ⟨hcs, hx⟩ | ⟨a, len', cap', zs, hcs, _, hl, hm, hz, hx, hcell, hwz⟩
  · simp [Value.cells] at hcs
    obtain ⟨rfl, rfl, rfl⟩ := hcs
    exact ⟨none, 0, 0, rfl, Nat.le_refl _, by omega, fun i hi => absurd hi (Nat.not_lt_zero i)⟩
  · simp [Value.cells] at hcs
    obtain ⟨rfl, rfl, rfl⟩ := hcs
    simp only [if_true] at hz
    refine ⟨_, _, _, rfl, hl, by unfold maxLen at hm; omega, fun i hi => ?_⟩
    obtain ⟨ab, ao, spot⟩ := a
    have hspot : spot = none := by simpa [Addr.add] using World.cell?_spot (hcell 0 (by omega))
    subst hspot
    have hc := hcell i (by omega)
    rw [Addr.add_lit] at hc
    exact ⟨ab, ao, _, rfl, hc⟩

end
end Go.Proofs.Ytnmkcpgcdjhdjaa


namespace Go.Proofs.Ytnmkcpgcdjhdjaa.editsExtracts
open Go.ChangeShapes Go.WideShapes Go.ChangeAt Go.RowKit
set_option linter.unusedVariables false

theorem own : ownKnob Try.prog.godebug = none := by kernel_rfl

set_option maxRecDepth 100000 in
theorem lifted (os : Os) (started : os.Started) (H : Type) (enc : TypeId × Value → H) :
    ReturnsInHanded {} Try.checked os 7 .any (Rows.editsExtractsSpec.pre6 enc Try.prog Try.f7 Rows.editsExtractsRow.domain false) (Rows.editsExtractsSpec.post enc Try.prog Try.f7 false true false false) := by
  refine returnsInHanded_of_change (C := Try.checked) own started (by kernel_rfl) Try.func7
    (ChangeSpec.witness6 (enc := enc) (C := Try.checked) false ⟨#[], #[.slice none 0 0, .int .u8 0, .int .u8 0], []⟩ 8 (by kernel_rfl) (by kernel_rfl) (by kernel_rfl) (by kernel_rfl)) ?_
  intro W base args ds gs before hval0 hW hcnd _
  have hval : ∀ (j : Nat) t v, Try.f7.params[j]? = some t → args[j]? = some v → Value.okWide Try.prog W .any base t v := hval0
  have hW' := hW
  obtain ⟨p, q, hA0, hV, rfl, hfz, hnd⟩ := hW
  have hA : DataW.TrodAll enc Try.prog W 0 (fun _ => true) true Try.f7.params.toList args.toList ds p := hA0
  have hAk := hA
  rw [Try.params7] at hA hval
  obtain ⟨v0, vs0, d0, ds0, p0, q0, hargs, rfl, rfl, h0, r0⟩ := trodAll_cons hA
  obtain ⟨v1, vs1, d1, ds1, p1, q1, rfl, rfl, rfl, h1, r1⟩ := trodAll_cons r0
  obtain ⟨v2, vs2, d2, ds2, p2, q2, rfl, rfl, rfl, h2, r2⟩ := trodAll_cons r1
  obtain ⟨rfl, rfl, rfl⟩ := trodAll_nil r2
  obtain rfl : args = #[v0, v1, v2] := by cases args; simp_all
  obtain ⟨rfl, rfl⟩ := trodVars_none hV
  have hr0 := open_tape (hval 0 27 v0 rfl rfl) h0
  obtain ⟨a1, rfl, rfl, rfl, w1⟩ := open_int Try.underlying5 (hval 1 5 v1 rfl rfl) h1
  obtain ⟨a2, rfl, rfl, rfl, w2⟩ := open_int Try.underlying5 (hval 2 5 v2 rfl rfl) h2
  have x1 : 0 ≤ a1 ∧ a1 ≤ 255 := by simpa [Lit.wf, IntKind.min, IntKind.max, IntKind.signed, IntKind.bits] using w1
  have x2 : 0 ≤ a2 ∧ a2 ≤ 255 := by simpa [Lit.wf, IntKind.min, IntKind.max, IntKind.signed, IntKind.bits] using w2
  simp only [List.append_nil] at hW' hAk
  refine (law_extracts v0 a1 a2 W hr0 x1 x2).mono fun e W' ⟨he, hg⟩ => ?_
  subst he
  exact ⟨_, rfl, post_of_below (pv := []) hW' (fun _ _ _ => (trodAll_cons_mk (shut_bool Try.underlying4 _) trodAll_mk0)) (fun sp hsp => trodAll_stays laid_out hg (by kernel_rfl) hAk (fun x hx => hW'.lt x (by simpa using hx)) (fun x hx => hsp x (by simpa using hx))) (fun _ _ => rfl) (by simp)
    hg (ok_one (by kernel_rfl) rfl (okWide_bool_mk Try.underlying4 _))⟩

theorem over : Rows.editsExtractsRow.holds Try.pinned (OpenSpec.ofChange Rows.editsExtractsSpec) :=
  OpenClaim.holds_of_wide 7 Try.f7 rfl rfl rfl rfl rfl rfl rfl ⟨rfl, rfl, rfl, rfl, rfl⟩ rfl rfl rfl rfl rfl (by kernel_rfl) Try.func7 (by kernel_rfl)
    (of_decide_eq_true (by kernel_rfl)) (by unfold Func.isWrapper; first | (rw [if_pos (by decide +kernel)]; kernel_rfl) | (rw [if_neg (by decide +kernel)]; exact ⟨rfl, rfl⟩))
    (fun os started H enc _ => lifted os started H enc)

/-- The statement. -/
theorem proved : Rows.EditsExtractsSaid :=
  over
end Go.Proofs.Ytnmkcpgcdjhdjaa.editsExtracts
