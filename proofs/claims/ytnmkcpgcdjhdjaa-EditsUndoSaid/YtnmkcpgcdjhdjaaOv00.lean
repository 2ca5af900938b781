/- Rows.EditsOverwritesSaid is proved here, for every input; the walk is law_overwrites. -/
import Derived.Test.YtnmkcpgcdjhdjaaRows
import Derived.WalkKit
import Derived.ProofKit
import Derived.OpenShut
import Derived.Test.YtnmkcpgcdjhdjaaEx12
import Derived.Test.YtnmkcpgcdjhdjaaIn00
set_option linter.unusedVariables false
set_option linter.unusedSimpArgs false

/- The law of the overwrites and lifts. -/
namespace Go.Proofs.Ytnmkcpgcdjhdjaa
open Go.RowKit
set_option linter.unusedVariables false
set_option linter.unusedSimpArgs false
theorem lift_v (n m : Int) (n0 : 0 ≤ n) (n1 : n ≤ 1000) (m0 : 1 ≤ m) (m1 : m ≤ 1000) : ExV 1000000 ⟨4, n, m, 0, 0, 0, 0, []⟩ :=
  ⟨⟨.inr (.inr (.inr rfl)), n0, Trk.GoodL.nil, fun _ => rfl, m0⟩, ⟨Trk.VL.nil, by simp, by show (0 : Int) ≤ _; decide⟩, fun h => by rcases h with h | h <;> (have h2 : (4 : Int) = _ := h; omega), by show n ≤ _; omega, by show m ≤ _; omega, rfl, rfl, rfl, rfl⟩
theorem vt_nil : VT 1000000 [] := ⟨Trk.VL.nil, by simp, by show (0 : Int) ≤ _; decide⟩
set_option maxRecDepth 100000 in
set_option maxHeartbeats 16000000 in
theorem law_overwrites (v : Value) (a b : Int) (w : World) (h : Ints w v) (ha : 0 ≤ a ∧ a ≤ 255) (hb : 0 ≤ b ∧ b ≤ 255) :
    Calls Try.prog 8 #[v, .int .u8 a, .int .u8 b] w fun e w' => e = .returned (.bool true) ∧ Below w.heap.size w w' := by
  obtain ⟨ha0, ha1⟩ := ha
  obtain ⟨hb0, hb1⟩ := hb
  have HMA := Lib.hid (made_any v w h)
  clear h
  go_enter Try.func8, Try.ntmps8
  go_wp2_with fail
  refine HMA.out.mono ?_
  rintro e w1 ⟨vt, t, p, k', rfl, ho, hmd, htp, hk', hb⟩
  have HO := Lib.hid ho
  have HM := Lib.hid hmd
  have HB := Lib.hid hb
  have HT := Lib.hid htp
  have HK := Lib.hid hk'
  have HPB := Lib.hid htp.1
  have HP1 := Lib.hid htp.2.1
  clear ho hmd htp hk' hb HMA
  have HOB := Lib.hid (fun g kk cap (e : vt = .slice (some ⟨g, 0, none⟩) kk cap) => (HO.out.blk e).2)
  have hPW : p < w1.heap.size := HT.out.2.1
  have HPW := Lib.hid hPW
  clear hPW
  go_wp2_with fail
  refine (track_any w.heap.size p k' 2 w1 HT.out (by have := HK.out; omega) (by omega)).mono ?_
  rintro e w2 ⟨⟨vl, l, rfl, ho, hs, hl⟩, ⟨k2, hk2, hT_⟩, ht⟩
  have HL := Lib.hid ho
  have HS := Lib.hid hs
  have HLL := Lib.hid hl
  have HS1 := Lib.hid (show w1.heap.size ≤ w2.heap.size from ht.s)
  replace HO := Lib.hid (HO.out.tape HM.out.ne HT.out ht)
  replace HB := Lib.hid (ht.b _ _ HPB.out HB.out)
  replace HT := Lib.hid hT_
  have HK2 := Lib.hid hk2
  clear ho hs hl hT_ ht hk2
  go_wp2_with fail
  refine (clip_any w.heap.size p k2 _ HT.out (by have := HK.out; have := HK2.out; omega)).mono ?_
  rintro e w3 ⟨⟨z, rfl, hz⟩, ⟨k3, hk3, hT_⟩, ht⟩
  replace HO := Lib.hid (HO.out.tape HM.out.ne HT.out ht)
  replace HL := Lib.hid (HL.out.turn ht HPW.out)
  have HSZ := Lib.hid (Nat.le_trans HS1.out ht.s)
  replace HB := Lib.hid (ht.b _ _ HPB.out HB.out)
  replace HT := Lib.hid hT_
  have HK3 := Lib.hid hk3
  have HZ := Lib.hid hz
  clear hz hT_ ht hk3
  unfold clipV
  obtain ⟨C, hC⟩ : ∃ C, C = (clipC z).toArray := ⟨_, rfl⟩
  rw [← hC]
  have HCC := Lib.hid hC
  clear hC
  dsimp only
  iterate 1 go_step
  refine Great.wpList_buildSliceTo rfl 35 53 1 #[(0, .tmp 31)] rfl w3.heap.size rfl _ rfl Try.underlying35 C ?_ ?_
  · simp only [List.map_toArray, List.map_cons, List.map_nil, List.toList_toArray]
    rw [HCC.out]
    exact built_clip z
  have hbx : CA (w3.alloc (.cells C 53)) w3.heap.size 0 z := by rw [HCC.out]; exact CA.box w3 z 53
  have hb : Below w3.heap.size w3 (w3.alloc (.cells C 53)) := below_box _ _
  have hsz : w1.heap.size ≤ (w3.alloc (.cells C 53)).heap.size := Nat.le_trans HSZ.out hb.size
  replace HL := Lib.hid (HL.out.below hb)
  have HBX := Lib.hid hb
  clear hb
  simp only [Act.put, List.setIfInBounds_toArray, List.set_cons_succ, List.set_cons_zero]
  refine wpList_appT 35 Try.underlying35 _ rfl (.tmp 29) (.tmp 32) rfl rfl w1.heap.size vl l rfl HL.out hsz w3.heap.size 1 z rfl hbx (by have := HLL.out; omega) ?_
  intro vn w5 q1 q2 q3 q4
  simp only [Act.put, List.setIfInBounds_toArray, List.set_cons_succ, List.set_cons_zero]
  have hbl : Below w1.heap.size w3 w5 := (HBX.out.mono HSZ.out).trans q2
  have HC := Lib.hid q1.tk
  replace HO := Lib.hid (HO.out.blocks (fun g kk cap e => hbl.block g (by have := HOB.out g kk cap e; omega)))
  replace HT := Lib.hid (HT.out.low (n := w1.heap.size) (by have := HPB.out; have := HPW.out; omega) HPW.out hbl)
  replace HB := Lib.hid (HB.out.trans (hbl.mono (by have := HPB.out; have := HPW.out; omega)))
  have HCO := Lib.hid (clipsOK_snoc HS.out HLL.out HZ.out (by omega))
  obtain ⟨cl, hcl⟩ : ∃ cl, cl = l ++ [z] := ⟨_, rfl⟩
  rw [← hcl] at HC HCO
  clear q1 q2 q3 q4 hbl hbx hsz hcl HBX HCC HZ HS HLL HL HS1 HSZ
  obtain ⟨ca, cc, rfl, hcc⟩ := HC.out
  clear hcc
  obtain ⟨J, hJ⟩ : ∃ J, J = cl.length := ⟨_, rfl⟩
  rw [← hJ] at HC ⊢
  have HJ := Lib.hid hJ
  clear hJ
  go_upto_region 3 with fail
  obtain ⟨n, hn⟩ : ∃ n, n = a % 50 := ⟨_, rfl⟩
  rw [← hn]
  have n0 : 0 ≤ n := by omega
  have n1 : n ≤ 49 := by omega
  clear hn ha0 ha1
  obtain ⟨hE, eT, eP⟩ := insert_v HCO.out (by omega) 3 n (.inr rfl) n0 (by omega)
  have t1 := HCO.out.t1
  have t2 := HCO.out.t2
  have T0 := Trk.total_nonneg HM.out.v.good
  have T1 := HM.out.tt
  have hee : (if (3 : Int) = 1 then max n (Trk.total t) else n) + (⟨3, n, 0, 0, 0, 0, 0, cl⟩ : Trk.Ed).T ≤ 2147483647 := by rw [eT, if_neg (by decide)]; omega
  have eR : (⟨3, n, 0, 0, 0, 0, 0, cl⟩ : Trk.Ed).rem = Trk.total cl := by unfold Trk.Ed.rem; rw [if_neg (show ¬ (3 : Int) = 1 by decide)]; exact eT
  have hlp : t.length + 2 + (⟨3, n, 0, 0, 0, 0, 0, cl⟩ : Trk.Ed).put.length ≤ 63 := by
    rw [eP]
    have := HM.out.l
    have := HCO.out.n
    omega
  have hx := exch_of HM.out.vt hE (by omega) hee
  have hap := fun w (h : Tk w vt t) (hu : Tk w (.slice ca J cc) cl) => apply_f vt (.slice ca J cc) t ⟨3, n, 0, 0, 0, 0, 0, cl⟩ w h hu HM.out.vt HM.out.n hE hlp hee
  obtain ⟨U, hU⟩ : ∃ U, U = Trk.nf ((⟨3, n, 0, 0, 0, 0, 0, cl⟩ : Trk.Ed).exl t) := ⟨_, rfl⟩
  rw [← hU] at hx hap
  rw [eP, eR] at hx
  have HX := Lib.hid hx
  have HAP := Lib.hid hap
  have hln := Lib.hid (fun w (h : Tk w vt t) => length_any (L := 1000000) vt t w h HM.out.vt (by decide))
  have hlc := Lib.hid (fun w (h : Tk w (.slice ca J cc) cl) => length_any (L := 1000000) (.slice ca J cc) cl w h HCO.out.v (by decide))
  obtain ⟨T, hT⟩ : ∃ T, T = Trk.total t := ⟨_, rfl⟩
  obtain ⟨M, hM⟩ : ∃ M, M = Trk.total cl := ⟨_, rfl⟩
  have HTT := Lib.hid hT
  rw [← hT] at hln T0 T1
  rw [← hM] at hlc t1 t2 HX
  have HMC := Lib.hid hM
  clear hx hap hU eT eP eR hE hee hlp hT hM
  go_wp2_with fail
  refine (hlc.out _ HC.out).mono ?_
  rintro e' w4 ⟨rfl, hb⟩
  replace HO := Lib.hid (HO.out.below hb)
  replace HC := Lib.hid (HC.out.below hb)
  replace HB := Lib.hid (HB.out.trans (hb.mono HB.out.size))
  clear hb
  go_upto_region 4 with fail
  obtain ⟨m, hm⟩ : ∃ m, m = b % 30 + 1 := ⟨_, rfl⟩
  rw [← hm]
  have m0 : 1 ≤ m := by omega
  have m1 : m ≤ 30 := by omega
  clear hm hb0 hb1
  go_wp2_with fail
  refine (HAP.out _ HO.out.tk HC.out).mono ?_
  rintro e' w6 ⟨vu, x1, x2, x3, ra, rl, rc, rfl, hou, hb⟩
  have HU := Lib.hid hou
  replace HO := Lib.hid (HO.out.below hb)
  replace HC := Lib.hid (HC.out.below hb)
  replace HB := Lib.hid (HB.out.trans (hb.mono HB.out.size))
  clear hb
  clear hou HAP
  try dsimp only
  iterate 19 go_step
  have hv : ED (w6.alloc (.cells (edC 0 0 0 0 0 0 0 (.slice none 0 0)) 26)) w6.heap.size 0 0 0 0 0 0 0 (.slice none 0 0) := ED.box w6 0 0 0 0 0 0 0 (.slice none 0 0) rfl 26
  have hb0 : Below w6.heap.size w6 (w6.alloc (.cells (edC 0 0 0 0 0 0 0 (.slice none 0 0)) 26)) := below_box _ _
  refine wpl_storeE x1 x2 x3 0 0 0 0 ra rl rc hv rfl rfl rfl rfl ?_
  intro w6' q1 q2 q3 q4 q5
  have hb : Below w6.heap.size w6 w6' := q4 _ _ (Nat.le_refl _) hb0
  obtain ⟨gE, hgE⟩ : ∃ g, g = w6.heap.size := ⟨_, rfl⟩
  rw [← hgE]
  clear q1 q2 q3 q4 q5 hb0 hv hgE
  replace HU := Lib.hid (HU.out.below hb)
  replace HO := Lib.hid (HO.out.below hb)
  replace HC := Lib.hid (HC.out.below hb)
  replace HB := Lib.hid (HB.out.trans (hb.mono HB.out.size))
  clear hb
  simp only [Act.put, List.setIfInBounds_toArray, List.set_cons_succ, List.set_cons_zero]
  have hE := lift_v n m n0 (by omega) m0 (by omega)
  have hee : (if (4 : Int) = 1 then max n (Trk.total t) else n) + (⟨4, n, m, 0, 0, 0, 0, []⟩ : Trk.Ed).T ≤ 2147483647 := by
    rw [if_neg (by decide)]
    show n + m ≤ _
    omega
  have hlp : t.length + 2 + (⟨4, n, m, 0, 0, 0, 0, []⟩ : Trk.Ed).put.length ≤ 63 := by
    have := HM.out.l
    show t.length + 2 + 1 ≤ 63
    omega
  have hx := exch_of HM.out.vt hE (by omega) hee
  have hap := fun w (h : Tk w vt t) => apply_f vt (.slice none 0 0) t ⟨4, n, m, 0, 0, 0, 0, []⟩ w h (Tk.nil w) HM.out.vt HM.out.n hE hlp hee
  obtain ⟨V, hV⟩ : ∃ V, V = Trk.nf ((⟨4, n, m, 0, 0, 0, 0, []⟩ : Trk.Ed).exl t) := ⟨_, rfl⟩
  rw [← hV] at hx hap
  have hx' : ExF t V [Trk.gap m] n m := hx
  have HY := Lib.hid hx'
  have HAP := Lib.hid hap
  clear hx hx' hap hV hE hee hlp
  go_wp2_with fail
  refine (HAP.out _ HO.out.tk ).mono ?_
  rintro e' w7 ⟨vv, x1, x2, x3, ra, rl, rc, rfl, hou, hb⟩
  have HV := Lib.hid hou
  replace HU := Lib.hid (HU.out.below hb)
  replace HO := Lib.hid (HO.out.below hb)
  replace HC := Lib.hid (HC.out.below hb)
  replace HB := Lib.hid (HB.out.trans (hb.mono HB.out.size))
  clear hb
  clear hou HAP
  try dsimp only
  iterate 19 go_step
  have hv : ED (w7.alloc (.cells (edC 0 0 0 0 0 0 0 (.slice none 0 0)) 26)) w7.heap.size 0 0 0 0 0 0 0 (.slice none 0 0) := ED.box w7 0 0 0 0 0 0 0 (.slice none 0 0) rfl 26
  have hb0 : Below w7.heap.size w7 (w7.alloc (.cells (edC 0 0 0 0 0 0 0 (.slice none 0 0)) 26)) := below_box _ _
  refine wpl_storeE x1 x2 x3 0 0 0 0 ra rl rc hv rfl rfl rfl rfl ?_
  intro w7' q1 q2 q3 q4 q5
  have hb : Below w7.heap.size w7 w7' := q4 _ _ (Nat.le_refl _) hb0
  obtain ⟨gE, hgE⟩ : ∃ g, g = w7.heap.size := ⟨_, rfl⟩
  rw [← hgE]
  clear q1 q2 q3 q4 q5 hb0 hv hgE
  replace HV := Lib.hid (HV.out.below hb)
  replace HU := Lib.hid (HU.out.below hb)
  replace HO := Lib.hid (HO.out.below hb)
  replace HC := Lib.hid (HC.out.below hb)
  replace HB := Lib.hid (HB.out.trans (hb.mono HB.out.size))
  clear hb
  simp only [Act.put, List.setIfInBounds_toArray, List.set_cons_succ, List.set_cons_zero]
  go_wp2_with fail
  refine (hln.out _ HO.out.tk).mono ?_
  rintro e' w8 ⟨rfl, hb⟩
  replace HU := Lib.hid (HU.out.below hb)
  replace HV := Lib.hid (HV.out.below hb)
  replace HO := Lib.hid (HO.out.below hb)
  replace HC := Lib.hid (HC.out.below hb)
  replace HB := Lib.hid (HB.out.trans (hb.mono HB.out.size))
  clear hb
  go_wp2_with fail
  refine (lequal_any (L := 1000000) vu vt U t 0 0 n _ HU.out.tk HO.out.tk HX.out.v HM.out.vt (by decide) (by omega) (by omega) (by omega) (by omega) (by omega) (by omega) (fun i i0 i1 => by rw [HX.out.f (0 + i) (by omega), if_pos (by omega)])).mono ?_
  rintro e' w9 ⟨rfl, hb⟩
  replace HU := Lib.hid (HU.out.below hb)
  replace HV := Lib.hid (HV.out.below hb)
  replace HO := Lib.hid (HO.out.below hb)
  replace HC := Lib.hid (HC.out.below hb)
  replace HB := Lib.hid (HB.out.trans (hb.mono HB.out.size))
  clear hb
  go_wp2_with fail
  refine (lequal_any (L := 1000000) vu (.slice ca J cc) U cl n 0 M _ HU.out.tk HC.out HX.out.v HCO.out.v (by decide) (by omega) (by omega) (by omega) (by omega) (by omega) (by omega) (fun i i0 i1 => by rw [HX.out.f (n + i) (by omega), if_neg (by omega), if_pos (by rw [← HMC.out]; omega)]; congr 1; omega)).mono ?_
  rintro e' w10 ⟨rfl, hb⟩
  replace HU := Lib.hid (HU.out.below hb)
  replace HV := Lib.hid (HV.out.below hb)
  replace HO := Lib.hid (HO.out.below hb)
  replace HB := Lib.hid (HB.out.trans (hb.mono HB.out.size))
  clear hb
  go_wp2_with fail
  refine (lequal_any (L := 1000000) vu vt U t (n + M) (n + M) (max 0 (T - n - M) + 2) _ HU.out.tk HO.out.tk HX.out.v HM.out.vt (by decide) (by omega) (by omega) (by omega) (by omega) (by omega) (by omega) (fun i i0 i1 => by rw [HX.out.f (n + M + i) (by omega), if_neg (by omega), if_neg (by rw [← HMC.out]; omega), ← HMC.out]; congr 1; omega)).mono ?_
  rintro e' w11 ⟨rfl, hb⟩
  replace HV := Lib.hid (HV.out.below hb)
  replace HO := Lib.hid (HO.out.below hb)
  replace HB := Lib.hid (HB.out.trans (hb.mono HB.out.size))
  clear hb
  go_wp2_with fail
  refine (lequal_any (L := 1000000) vv vt V t 0 0 n _ HV.out.tk HO.out.tk HY.out.v HM.out.vt (by decide) (by omega) (by omega) (by omega) (by omega) (by omega) (by omega) (fun i i0 i1 => by rw [HY.out.f (0 + i) (by omega), if_pos (by omega)])).mono ?_
  rintro e' w12 ⟨rfl, hb⟩
  replace HV := Lib.hid (HV.out.below hb)
  replace HO := Lib.hid (HO.out.below hb)
  replace HB := Lib.hid (HB.out.trans (hb.mono HB.out.size))
  clear hb
  have eG : Trk.total [Trk.gap m] = m := Trk.total_one _
  go_wp2_with fail
  refine (lequal_any (L := 1000000) vv (.slice none 0 0) V [] n 0 m _ HV.out.tk (Tk.nil _) HY.out.v vt_nil (by decide) (by omega) (by omega) (by omega) (by omega) (by omega) (by omega) (fun i i0 i1 => by rw [HY.out.f (n + i) (by omega), if_neg (by omega), if_pos (by rw [eG]; omega), Trk.fr_one (by show _ < m; omega), Trk.one_gap]; rfl)).mono ?_
  rintro e' w13 ⟨rfl, hb⟩
  replace HV := Lib.hid (HV.out.below hb)
  replace HO := Lib.hid (HO.out.below hb)
  replace HB := Lib.hid (HB.out.trans (hb.mono HB.out.size))
  clear hb
  go_wp2_with fail
  refine (lequal_any (L := 1000000) vv vt V t (n + m) (n + m) (max 0 (T - n - m) + 2) _ HV.out.tk HO.out.tk HY.out.v HM.out.vt (by decide) (by omega) (by omega) (by omega) (by omega) (by omega) (by omega) (fun i i0 i1 => by rw [HY.out.f (n + m + i) (by omega), if_neg (by omega), if_neg (by rw [eG]; omega), eG]; congr 1; omega)).mono ?_
  rintro e' w14 ⟨rfl, hb⟩
  replace HB := Lib.hid (HB.out.trans (hb.mono HB.out.size))
  clear hb
  go_wp2_with fail
  refine (awake_any _).mono ?_
  rintro e w8 ⟨rfl, hb⟩
  replace HB := Lib.hid (HB.out.trans (hb.mono HB.out.size))
  clear hb
  go_wp2_with fail
  go_ret
  exact ⟨rfl, HB.out⟩
end Go.Proofs.Ytnmkcpgcdjhdjaa


namespace Go.Proofs.Ytnmkcpgcdjhdjaa.editsOverwrites
open Go.ChangeShapes Go.WideShapes Go.ChangeAt Go.RowKit
set_option linter.unusedVariables false

theorem own : ownKnob Try.prog.godebug = none := by kernel_rfl

set_option maxRecDepth 100000 in
theorem lifted (os : Os) (started : os.Started) (H : Type) (enc : TypeId × Value → H) :
    ReturnsInHanded {} Try.checked os 8 .any (Rows.editsOverwritesSpec.pre6 enc Try.prog Try.f8 Rows.editsOverwritesRow.domain false) (Rows.editsOverwritesSpec.post enc Try.prog Try.f8 false true false false) := by
  refine returnsInHanded_of_change (C := Try.checked) own started (by kernel_rfl) Try.func8
    (ChangeSpec.witness6 (enc := enc) (C := Try.checked) false ⟨#[], #[.slice none 0 0, .int .u8 0, .int .u8 0], []⟩ 8 (by kernel_rfl) (by kernel_rfl) (by kernel_rfl) (by kernel_rfl)) ?_
  intro W base args ds gs before hval0 hW hcnd _
  have hval : ∀ (j : Nat) t v, Try.f8.params[j]? = some t → args[j]? = some v → Value.okWide Try.prog W .any base t v := hval0
  have hW' := hW
  obtain ⟨p, q, hA0, hV, rfl, hfz, hnd⟩ := hW
  have hA : DataW.TrodAll enc Try.prog W 0 (fun _ => true) true Try.f8.params.toList args.toList ds p := hA0
  have hAk := hA
  rw [Try.params8] at hA hval
  obtain ⟨v0, vs0, d0, ds0, p0, q0, hargs, rfl, rfl, h0, r0⟩ := trodAll_cons hA
  obtain ⟨v1, vs1, d1, ds1, p1, q1, rfl, rfl, rfl, h1, r1⟩ := trodAll_cons r0
  obtain ⟨v2, vs2, d2, ds2, p2, q2, rfl, rfl, rfl, h2, r2⟩ := trodAll_cons r1
  obtain ⟨rfl, rfl, rfl⟩ := trodAll_nil r2
  obtain rfl : args = #[v0, v1, v2] := by cases args; simp_all
  obtain ⟨rfl, rfl⟩ := trodVars_none hV
  have hr0 := open_tape (hval 0 27 v0 rfl rfl) h0
  obtain ⟨a1, rfl, rfl, rfl, w1⟩ := open_int Try.underlying5 (hval 1 5 v1 rfl rfl) h1
  obtain ⟨a2, rfl, rfl, rfl, w2⟩ := open_int Try.underlying5 (hval 2 5 v2 rfl rfl) h2
  have x1 : 0 ≤ a1 ∧ a1 ≤ 255 := by simpa [Lit.wf, IntKind.min, IntKind.max, IntKind.signed, IntKind.bits] using w1
  have x2 : 0 ≤ a2 ∧ a2 ≤ 255 := by simpa [Lit.wf, IntKind.min, IntKind.max, IntKind.signed, IntKind.bits] using w2
  simp only [List.append_nil] at hW' hAk
  refine (law_overwrites v0 a1 a2 W hr0 x1 x2).mono fun e W' ⟨he, hg⟩ => ?_
  subst he
  exact ⟨_, rfl, post_of_below (pv := []) hW' (fun _ _ _ => (trodAll_cons_mk (shut_bool Try.underlying4 _) trodAll_mk0)) (fun sp hsp => trodAll_stays laid_out hg (by kernel_rfl) hAk (fun x hx => hW'.lt x (by simpa using hx)) (fun x hx => hsp x (by simpa using hx))) (fun _ _ => rfl) (by simp)
    hg (ok_one (by kernel_rfl) rfl (okWide_bool_mk Try.underlying4 _))⟩

theorem over : Rows.editsOverwritesRow.holds Try.pinned (OpenSpec.ofChange Rows.editsOverwritesSpec) :=
  OpenClaim.holds_of_wide 8 Try.f8 rfl rfl rfl rfl rfl rfl rfl ⟨rfl, rfl, rfl, rfl, rfl⟩ rfl rfl rfl rfl rfl (by kernel_rfl) Try.func8 (by kernel_rfl)
    (of_decide_eq_true (by kernel_rfl)) (by unfold Func.isWrapper; first | (rw [if_pos (by decide +kernel)]; kernel_rfl) | (rw [if_neg (by decide +kernel)]; exact ⟨rfl, rfl⟩))
    (fun os started H enc _ => lifted os started H enc)

/-- The statement. -/
theorem proved : Rows.EditsOverwritesSaid :=
  over
end Go.Proofs.Ytnmkcpgcdjhdjaa.editsOverwrites
