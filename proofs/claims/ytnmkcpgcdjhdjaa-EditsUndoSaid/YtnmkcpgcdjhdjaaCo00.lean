/- Rows.EditsCommuteSaid is proved here, for every input; the walk is law_commute. -/
import Derived.Test.YtnmkcpgcdjhdjaaRows
import Derived.WalkKit
import Derived.ProofKit
import Derived.OpenShut
import Derived.Test.YtnmkcpgcdjhdjaaEx12
import Derived.Test.YtnmkcpgcdjhdjaaOv00
set_option linter.unusedVariables false
set_option linter.unusedSimpArgs false

/- Two edits of frames in either order; the contracts of interval and change. -/
namespace Go.Trk
set_option linter.unusedVariables false
/-- An edit of a kind 0 .. 3, as the law makes it. -/
def edI (K at' many : Int) (cl : List Clip) : Ed := if K = 0 then ⟨1, at', 0, 0, 0, 0, 0, cl⟩ else if K = 1 then ⟨2, at', many, 0, 0, 0, 0, []⟩ else if K = 2 then ⟨3, at', 0, 0, 0, 0, 0, cl⟩ else ⟨4, at', many, 0, 0, 0, 0, []⟩
end Go.Trk
namespace Go.Proofs.Ytnmkcpgcdjhdjaa
open Go.RowKit
set_option linter.unusedVariables false
set_option linter.unusedSimpArgs false
theorem commute_fr {t u v w y P1 P2 : List Trk.Clip} {p1 p2 r1 r2 : Int} (h1 : ExF t u P1 p1 r1) (h2 : ExF u v P2 (p2 + (Trk.total P1 - r1)) r2) (h3 : ExF t w P2 p2 r2) (h4 : ExF w y P1 p1 r1)
    (a0 : 0 ≤ p1) (b0 : 0 ≤ r1) (c0 : 0 ≤ r2) (hp : p1 + r1 ≤ p2) (d1 : 0 ≤ Trk.total P1) (d2 : 0 ≤ Trk.total P2) : v = y := by
  refine Trk.nf_unique h2.n.g h4.n.g h2.n.p h4.n.p h2.n.n h4.n.n fun i i0 => ?_
  rw [h2.f i i0, h4.f i i0]
  by_cases c1 : i < p1
  · rw [if_pos (by omega), if_pos c1, h1.f i i0, if_pos c1, h3.f i i0, if_pos (by omega)]
  rw [if_neg c1]
  by_cases c2 : i < p1 + Trk.total P1
  · rw [if_pos (by omega), if_pos c2, h1.f i i0, if_neg c1, if_pos c2]
  rw [if_neg c2, h3.f _ (by omega)]
  by_cases c3 : i < p2 + (Trk.total P1 - r1)
  · rw [if_pos c3, if_pos (by omega), h1.f i i0, if_neg c1, if_neg c2]
  rw [if_neg c3]
  by_cases c4 : i < p2 + (Trk.total P1 - r1) + Trk.total P2
  · rw [if_pos c4, if_neg (show ¬ i - Trk.total P1 + r1 < p2 by omega), if_pos (show i - Trk.total P1 + r1 < p2 + Trk.total P2 by omega)]
    congr 1; omega
  rw [if_neg c4, if_neg (show ¬ i - Trk.total P1 + r1 < p2 by omega), if_neg (show ¬ i - Trk.total P1 + r1 < p2 + Trk.total P2 by omega), h1.f _ (by omega), if_neg (by omega), if_neg (by omega)]
  congr 1; omega
theorem results_ed2 {fn : Func} {tmps : Array Value} {w : World} {s t : Tmp} {b : Nat} {k p n c d sn sd : Int} {v x : Value} (hr : fn.results = #[.tmp s, .cell t 26]) (hs : tmps.getD s undef = x) (ht : tmps.getD t undef = .pointer (some ⟨b, 0, none⟩))
    (hc : ED w b k p n c d sn sd v) (hv : (∃ ao m cp, v = .slice ao m cp)) : (results fn tmps).run Try.prog w = .ok (.tuple #[x, edV k p n c d sn sd v]) w := by
  obtain ⟨ao, m, cp, rfl⟩ := hv
  have h := run_loadVar_mid (P := Try.prog) w b 0 26 (edC k p n c d sn sd (.slice ao m cp)).toList _ hc.range Try.underlying26 rfl (by kernel_rfl)
  obtain ⟨C, hC⟩ : ∃ C, C = (edC k p n c d sn sd (.slice ao m cp)).toList.toArray := ⟨_, rfl⟩
  rw [← hC] at h
  unfold results
  rw [hr]
  have ht2 : tmps[t]?.getD undef = .pointer (some ⟨b, 0, none⟩) := by rw [← Array.getD_eq_getD_getElem?]; exact ht
  have hs2 : tmps[s]?.getD undef = x := by rw [← Array.getD_eq_getD_getElem?]; exact hs
  simp [ht2, hs2, asAddr, h]
  rw [hC]
  rfl
/-- What interval answers. -/
def IntPost (w : World) (K a m M : Int) (ca : Option Addr) (J cc : Nat) (e : Ending) (w' : World) : Prop :=
  ∃ k mm en ao j cp, e = .returned (.tuple #[.int .i64 en, .agg (edC k a mm 0 0 0 0 (.slice ao j cp))]) ∧ Below w.heap.size w w' ∧
    ((K = 0 ∧ k = 1 ∧ mm = 0 ∧ en = a ∧ ao = ca ∧ j = J ∧ cp = cc) ∨ (K = 1 ∧ k = 2 ∧ mm = m ∧ en = a + m ∧ ao = none ∧ j = 0 ∧ cp = 0) ∨
     (K = 2 ∧ k = 3 ∧ mm = 0 ∧ en = a + M ∧ ao = ca ∧ j = J ∧ cp = cc) ∨ (K = 3 ∧ k = 4 ∧ mm = m ∧ en = a + m ∧ ao = none ∧ j = 0 ∧ cp = 0))
set_option maxRecDepth 100000 in
set_option maxHeartbeats 16000000 in
theorem interval_any (K a m : Int) (cl : List Trk.Clip) (ca : Option Addr) (J cc : Nat) (w : World) (hK : 0 ≤ K ∧ K ≤ 3) (ha : 0 ≤ a ∧ a ≤ 1000) (hm : 0 ≤ m ∧ m ≤ 1000) (hc : Tk w (.slice ca J cc) cl) (hV : VT 1000000 cl) (hT : Trk.total cl ≤ 1000) :
    Calls Try.prog 33 #[.int .i64 K, .int .i64 a, .int .i64 m, .slice ca J cc] w (IntPost w K a m (Trk.total cl) ca J cc) := by
  obtain ⟨hK0, hK1⟩ := hK
  obtain ⟨ha0, ha1⟩ := ha
  obtain ⟨hm0, hm1⟩ := hm
  have hT0 := Trk.total_nonneg hV.v.good
  have HLC := Lib.hid (fun w (h : Tk w (.slice ca J cc) cl) => length_any (L := 1000000) (.slice ca J cc) cl w h hV (by decide))
  have HC := Lib.hid hc
  obtain ⟨M, hM⟩ : ∃ M, M = Trk.total cl := ⟨_, rfl⟩
  rw [← hM] at hT hT0 HLC ⊢
  clear hM hV hc
  go_enter Try.func33, Try.ntmps33
  go_upto_region 1 with fail
  obtain ⟨w1, hw1⟩ : ∃ y, y = w.alloc (.cells #[.int .i64 0, .int .i64 0, .int .i64 0, .int .i64 0, .int .i64 0, .int .i64 0, .int .i64 0, .slice none 0 0] 26) := ⟨_, rfl⟩
  rw [← hw1]
  have HE := Lib.hid (show ED w1 w.heap.size 0 0 0 0 0 0 0 (.slice none 0 0) by rw [hw1]; exact ED.box w 0 0 0 0 0 0 0 (.slice none 0 0) rfl 26)
  have HB := Lib.hid (show Below w.heap.size w w1 by rw [hw1]; exact below_box _ _)
  have HB1 := Lib.hid HB.out
  obtain ⟨g, hg⟩ : ∃ y, y = w.heap.size := ⟨_, rfl⟩
  rw [← hg] at HE ⊢
  have HG := Lib.hid (show w.heap.size ≤ g by omega)
  clear hw1 hg
  rcases (show K = 0 ∨ K = 1 ∨ K = 2 ∨ K = 3 by omega) with rfl | rfl | rfl | rfl
  · clear hK0 hK1
    go_upto_region 3 with fail
    apply wp_region_lit
    iterate 15 go_step
    refine wpl_storeE 1 a 0 0 0 0 0 ca J cc HE.out rfl rfl rfl rfl ?_
    intro w3 q1 q2 q3 q4 q5
    have HB3 := Lib.hid (q4 _ _ HG.out HB.out)
    have HE3 := Lib.hid q1
    clear q1 q2 q3 q4 q5 HE HB
    simp only [Act.put, List.setIfInBounds_toArray, List.set_cons_succ, List.set_cons_zero]
    iterate 4 go_step
    refine bodyPost_ret (v := .tuple #[.int .i64 (a), edV 1 a 0 0 0 0 0 (.slice ca J cc)]) (results_ed2 Try.results33 rfl rfl HE3.out ⟨_, _, _, rfl⟩) rfl ?_
    exact ⟨_, _, _, _, _, _, rfl, HB3.out, .inl ⟨rfl, rfl, rfl, rfl, rfl, rfl, rfl⟩⟩
  · clear hK0 hK1
    go_upto_region 5 with fail
    apply wp_region_lit
    iterate 21 go_step
    refine wpl_storeE 2 a m 0 0 0 0 none 0 0 HE.out rfl rfl rfl rfl ?_
    intro w3 q1 q2 q3 q4 q5
    have HB3 := Lib.hid (q4 _ _ HG.out HB.out)
    have HE3 := Lib.hid q1
    clear q1 q2 q3 q4 q5 HE HB
    simp only [Act.put, List.setIfInBounds_toArray, List.set_cons_succ, List.set_cons_zero]
    iterate 4 go_step
    refine bodyPost_ret (v := .tuple #[.int .i64 (a + m), edV 2 a m 0 0 0 0 (.slice none 0 0)]) (results_ed2 Try.results33 rfl rfl HE3.out ⟨_, _, _, rfl⟩) rfl ?_
    exact ⟨_, _, _, _, _, _, rfl, HB3.out, .inr (.inl ⟨rfl, rfl, rfl, rfl, rfl, rfl, rfl⟩)⟩
  · clear hK0 hK1
    go_wp2_with fail
    refine (HLC.out _ (HC.out.below HB1.out)).mono ?_
    rintro e w2 ⟨rfl, hb⟩
    replace HE := Lib.hid (HE.out.below hb)
    replace HB := Lib.hid (HB.out.trans (hb.mono HB.out.size))
    clear hb
    try dsimp only
    iterate 16 go_step
    refine wpl_storeE 3 a 0 0 0 0 0 ca J cc HE.out rfl rfl rfl rfl ?_
    intro w3 q1 q2 q3 q4 q5
    have HB3 := Lib.hid (q4 _ _ HG.out HB.out)
    have HE3 := Lib.hid q1
    clear q1 q2 q3 q4 q5 HE HB
    simp only [Act.put, List.setIfInBounds_toArray, List.set_cons_succ, List.set_cons_zero]
    iterate 4 go_step
    refine bodyPost_ret (v := .tuple #[.int .i64 (a + M), edV 3 a 0 0 0 0 0 (.slice ca J cc)]) (results_ed2 Try.results33 rfl rfl HE3.out ⟨_, _, _, rfl⟩) rfl ?_
    exact ⟨_, _, _, _, _, _, rfl, HB3.out, .inr (.inr (.inl ⟨rfl, rfl, rfl, rfl, rfl, rfl, rfl⟩))⟩
  · clear hK0 hK1
    go_upto_region 8 with fail
    apply wp_region_lit
    iterate 21 go_step
    refine wpl_storeE 4 a m 0 0 0 0 none 0 0 HE.out rfl rfl rfl rfl ?_
    intro w3 q1 q2 q3 q4 q5
    have HB3 := Lib.hid (q4 _ _ HG.out HB.out)
    have HE3 := Lib.hid q1
    clear q1 q2 q3 q4 q5 HE HB
    simp only [Act.put, List.setIfInBounds_toArray, List.set_cons_succ, List.set_cons_zero]
    iterate 4 go_step
    refine bodyPost_ret (v := .tuple #[.int .i64 (a + m), edV 4 a m 0 0 0 0 (.slice none 0 0)]) (results_ed2 Try.results33 rfl rfl HE3.out ⟨_, _, _, rfl⟩) rfl ?_
    exact ⟨_, _, _, _, _, _, rfl, HB3.out, .inr (.inr (.inr ⟨rfl, rfl, rfl, rfl, rfl, rfl, rfl⟩))⟩
set_option maxRecDepth 100000 in
set_option maxHeartbeats 16000000 in
theorem change_any (k a mm : Int) (ins : List Trk.Clip) (ao : Option Addr) (j cp : Nat) (w : World) (hk : k = 1 ∨ k = 2 ∨ k = 3 ∨ k = 4) (hmm : 0 ≤ mm ∧ mm ≤ 1000) (hc : Tk w (.slice ao j cp) ins) (hV : VT 1000000 ins) :
    Calls Try.prog 34 #[.agg (edC k a mm 0 0 0 0 (.slice ao j cp))] w fun e w' => e = .returned (.int .i64 (if k = 1 then Trk.total ins else if k = 2 then -mm else 0)) ∧ Below w.heap.size w w' := by
  obtain ⟨hm0, hm1⟩ := hmm
  have HLC := Lib.hid (fun w (h : Tk w (.slice ao j cp) ins) => length_any (L := 1000000) (.slice ao j cp) ins w h hV (by decide))
  have HC := Lib.hid hc
  obtain ⟨M, hM⟩ : ∃ M, M = Trk.total ins := ⟨_, rfl⟩
  rw [← hM] at HLC ⊢
  clear hM hV hc
  go_enter Try.func34, Try.ntmps34
  go_upto_region 1 with fail
  obtain ⟨w1, hw1⟩ : ∃ y, y = w.alloc (.cells (edC k a mm 0 0 0 0 (.slice ao j cp)) 26) := ⟨_, rfl⟩
  rw [← hw1]
  have HE := Lib.hid (show ED w1 w.heap.size k a mm 0 0 0 0 (.slice ao j cp) by rw [hw1]; exact ED.box w k a mm 0 0 0 0 (.slice ao j cp) rfl 26)
  have HB := Lib.hid (show Below w.heap.size w w1 by rw [hw1]; exact below_box _ _)
  obtain ⟨g, hg⟩ : ∃ y, y = w.heap.size := ⟨_, rfl⟩
  rw [← hg] at HE ⊢
  clear hw1 hg
  have e0 := HE.out.k0
  have e2 := HE.out.k2
  have e7 := HE.out.k7
  rcases hk with rfl | rfl | rfl | rfl
  · go_wp2_with fail
    refine (HLC.out _ (HC.out.below HB.out)).mono ?_
    rintro e w2 ⟨rfl, hb⟩
    replace HB := Lib.hid (HB.out.trans (hb.mono HB.out.size))
    clear hb e0 e2 e7
    go_wp2_with fail
    go_ret
    exact ⟨rfl, HB.out⟩
  all_goals
    go_wp2_with fail
    go_ret
    exact ⟨rfl, HB.out⟩
end Go.Proofs.Ytnmkcpgcdjhdjaa

/- The law of two edits in either order. -/
namespace Go.Proofs.Ytnmkcpgcdjhdjaa
open Go.RowKit
set_option linter.unusedVariables false
set_option linter.unusedSimpArgs false
theorem ClipsOK.mono {l : List Trk.Clip} {m n : Nat} (h : ClipsOK l m) (hm : m ≤ n) : ClipsOK l n := ⟨h.v, Nat.le_trans h.n hm, h.t1, by have := h.t2; omega⟩
/-- An edit as interval makes it. -/
structure IV (k a m en : Int) (ins : List Trk.Clip) : Prop where
  x : ExV 1000000 ⟨k, a, m, 0, 0, 0, 0, ins⟩
  e : en = a + (⟨k, a, m, 0, 0, 0, 0, ins⟩ : Trk.Ed).rem
  ch : (if k = 1 then Trk.total ins else if k = 2 then -m else 0) = Trk.total (⟨k, a, m, 0, 0, 0, 0, ins⟩ : Trk.Ed).put - (⟨k, a, m, 0, 0, 0, 0, ins⟩ : Trk.Ed).rem
  r0 : 0 ≤ (⟨k, a, m, 0, 0, 0, 0, ins⟩ : Trk.Ed).rem
  r1 : (⟨k, a, m, 0, 0, 0, 0, ins⟩ : Trk.Ed).rem ≤ 100
  q0 : 0 ≤ Trk.total (⟨k, a, m, 0, 0, 0, 0, ins⟩ : Trk.Ed).put
  q1 : Trk.total (⟨k, a, m, 0, 0, 0, 0, ins⟩ : Trk.Ed).put ≤ 100
  l : (⟨k, a, m, 0, 0, 0, 0, ins⟩ : Trk.Ed).put.length ≤ 5
  t : (⟨k, a, m, 0, 0, 0, 0, ins⟩ : Trk.Ed).T ≤ 100
  m0 : 0 ≤ m
  m1 : m ≤ 100
  k : k = 1 ∨ k = 2 ∨ k = 3 ∨ k = 4
  v : VT 1000000 ins
theorem IV.move {k a m en : Int} {ins : List Trk.Clip} (h : IV k a m en ins) {b : Int} (b0 : 0 ≤ b) (b1 : b ≤ 10000) : ExV 1000000 ⟨k, b, m, 0, 0, 0, 0, ins⟩ := by
  obtain ⟨⟨⟨x1, x2, x3, x4, x5⟩, v, mm, p, t, c, d, sn, sd⟩, _⟩ := h
  exact ⟨⟨x1, b0, x3, x4, x5⟩, v, mm, by show b ≤ _; omega, t, rfl, rfl, rfl, rfl⟩
theorem extract_v2 (n k : Int) (n0 : 0 ≤ n) (n1 : n ≤ 1000) (k0 : 1 ≤ k) (k1 : k ≤ 1000) : ExV 1000000 ⟨2, n, k, 0, 0, 0, 0, []⟩ := extract_v n k n0 n1 k0 k1
theorem iv_ins {k a en : Int} {cl : List Trk.Clip} (hk : k = 1 ∨ k = 3) (h : ClipsOK cl 5) (a0 : 0 ≤ a) (a1 : a ≤ 1000) (he : en = a + if k = 1 then 0 else Trk.total cl) : IV k a 0 en cl := by
  obtain ⟨hE, eT, eP⟩ := insert_v h (by decide) k a hk a0 a1
  have t1 := h.t1
  have t2 := h.t2
  have eR : (⟨k, a, 0, 0, 0, 0, 0, cl⟩ : Trk.Ed).rem = if k = 1 then 0 else Trk.total cl := by unfold Trk.Ed.rem; rw [eT]
  refine ⟨hE, by rw [eR]; exact he, ?_, ?_, ?_, ?_, ?_, by rw [eP]; exact h.n, by rw [eT]; omega, by decide, by decide, by omega, h.v⟩
  · rw [eP, eR]
    rcases hk with rfl | rfl
    · rw [if_pos rfl, if_pos rfl]; omega
    · rw [if_neg (by decide), if_neg (by decide), if_neg (by decide)]; omega
  · rw [eR]; split <;> omega
  · rw [eR]; split <;> omega
  · rw [eP]; omega
  · rw [eP]; omega
theorem iv_two {a m : Int} (a0 : 0 ≤ a) (a1 : a ≤ 1000) (m0 : 1 ≤ m) (m1 : m ≤ 100) : IV 2 a m (a + m) [] :=
  ⟨extract_v a m a0 a1 m0 (by omega), rfl, by show -m = (0 : Int) - m; omega, by show 0 ≤ m; omega, m1, by show (0 : Int) ≤ 0; decide, by show (0 : Int) ≤ 100; decide, by show 0 ≤ 5; decide, m1, by omega, m1, by decide, vt_nil⟩
theorem iv_four {a m : Int} (a0 : 0 ≤ a) (a1 : a ≤ 1000) (m0 : 1 ≤ m) (m1 : m ≤ 100) : IV 4 a m (a + m) [] := by
  have e : Trk.total (⟨4, a, m, 0, 0, 0, 0, []⟩ : Trk.Ed).put = m := Trk.total_one _
  refine ⟨lift_v a m a0 a1 m0 (by omega), rfl, ?_, by show 0 ≤ m; omega, m1, ?_, ?_, by show 1 ≤ 5; decide, m1, by omega, m1, by decide, vt_nil⟩
  · rw [e]; show (0 : Int) = m - m; omega
  · rw [e]; omega
  · rw [e]; omega
def IvPost (w : World) (a : Int) (ca : Option Addr) (J cc : Nat) (cl : List Trk.Clip) (e : Ending) (w' : World) : Prop :=
  ∃ k mm en ins ao j cp, e = .returned (.tuple #[.int .i64 en, .agg (edC k a mm 0 0 0 0 (.slice ao j cp))]) ∧ Below w.heap.size w w' ∧ IV k a mm en ins ∧ (∀ w, Tk w (.slice ca J cc) cl → Tk w (.slice ao j cp) ins)
theorem interval_iv (K a m : Int) (cl : List Trk.Clip) (ca : Option Addr) (J cc : Nat) (w : World) (hK : 0 ≤ K ∧ K ≤ 3) (ha : 0 ≤ a ∧ a ≤ 1000) (hm : 1 ≤ m ∧ m ≤ 100) (hc : Tk w (.slice ca J cc) cl) (h : ClipsOK cl 5) :
    Calls Try.prog 33 #[.int .i64 K, .int .i64 a, .int .i64 m, .slice ca J cc] w (IvPost w a ca J cc cl) := by
  refine (interval_any K a m cl ca J cc w hK ha ⟨by omega, by omega⟩ hc h.v (by have := h.t2; omega)).mono ?_
  rintro e w' ⟨k, mm, en, ao, j, cp, rfl, hb, hd⟩
  rcases hd with ⟨-, rfl, rfl, rfl, rfl, rfl, rfl⟩ | ⟨-, rfl, rfl, rfl, rfl, rfl, rfl⟩ | ⟨-, rfl, rfl, rfl, rfl, rfl, rfl⟩ | ⟨-, rfl, rfl, rfl, rfl, rfl, rfl⟩
  · exact ⟨_, _, _, cl, _, _, _, rfl, hb, iv_ins (k := 1) (.inl rfl) h ha.1 ha.2 (by rw [if_pos rfl]; omega), fun w h => h⟩
  · exact ⟨_, _, _, [], _, _, _, rfl, hb, iv_two ha.1 ha.2 hm.1 hm.2, fun w _ => Tk.nil w⟩
  · exact ⟨_, _, _, cl, _, _, _, rfl, hb, iv_ins (k := 3) (.inr rfl) h ha.1 ha.2 (by rw [if_neg (by decide)]), fun w h => h⟩
  · exact ⟨_, _, _, [], _, _, _, rfl, hb, iv_four ha.1 ha.2 hm.1 hm.2, fun w _ => Tk.nil w⟩
set_option maxRecDepth 100000 in
set_option maxHeartbeats 16000000 in
theorem law_commute (v : Value) (kk a b c d : Int) (w : World) (h : Ints w v) (hkk : 0 ≤ kk ∧ kk ≤ 255) (ha : 0 ≤ a ∧ a ≤ 255) (hb : 0 ≤ b ∧ b ≤ 255) (hc : 0 ≤ c ∧ c ≤ 255) (hd : 0 ≤ d ∧ d ≤ 255) :
    Calls Try.prog 14 #[v, .int .u8 kk, .int .u8 a, .int .u8 b, .int .u8 c, .int .u8 d] w fun e w' => e = .returned (.bool true) ∧ Below w.heap.size w w' := by
  obtain ⟨hkk0, hkk1⟩ := hkk
  obtain ⟨ha0, ha1⟩ := ha
  obtain ⟨hb0, hb1⟩ := hb
  obtain ⟨hc0, hc1⟩ := hc
  obtain ⟨hd0, hd1⟩ := hd
  have HMA := Lib.hid (made_any v w h)
  clear h
  go_enter Try.func14, Try.ntmps14
  go_wp2_with fail
  refine HMA.out.mono ?_
  rintro e w1 ⟨vt, t, p, k', rfl, ho, hmd, htp, hk', hb⟩
  have HO := Lib.hid ho
  have HM := Lib.hid hmd
  have HB := Lib.hid hb
  have HT := Lib.hid htp
  have HK := Lib.hid hk'
  have HPB := Lib.hid htp.1
  have HP1 := Lib.hid htp.2.1
  clear ho hmd htp hk' hb HMA
  have HOB := Lib.hid (fun g kk cap (e : vt = .slice (some ⟨g, 0, none⟩) kk cap) => (HO.out.blk e).2)
  have hPW : p < w1.heap.size := HT.out.2.1
  have HPW := Lib.hid hPW
  clear hPW
  go_wp2_with fail
  refine (track_any w.heap.size p k' 2 w1 HT.out (by have := HK.out; omega) (by omega)).mono ?_
  rintro e w2 ⟨⟨vl, l, rfl, ho, hs, hl⟩, ⟨k2, hk2, hT_⟩, ht⟩
  have HL := Lib.hid ho
  have HS := Lib.hid hs
  have HLL := Lib.hid hl
  have HS1 := Lib.hid (show w1.heap.size ≤ w2.heap.size from ht.s)
  replace HO := Lib.hid (HO.out.tape HM.out.ne HT.out ht)
  replace HB := Lib.hid (ht.b _ _ HPB.out HB.out)
  replace HT := Lib.hid hT_
  have HK2 := Lib.hid hk2
  clear ho hs hl hT_ ht hk2
  go_wp2_with fail
  refine (clip_any w.heap.size p k2 _ HT.out (by have := HK.out; have := HK2.out; omega)).mono ?_
  rintro e w3 ⟨⟨z, rfl, hz⟩, ⟨k3, hk3, hT_⟩, ht⟩
  replace HO := Lib.hid (HO.out.tape HM.out.ne HT.out ht)
  replace HL := Lib.hid (HL.out.turn ht HPW.out)
  have HSZ := Lib.hid (Nat.le_trans HS1.out ht.s)
  replace HB := Lib.hid (ht.b _ _ HPB.out HB.out)
  replace HT := Lib.hid hT_
  have HK3 := Lib.hid hk3
  have HZ := Lib.hid hz
  clear hz hT_ ht hk3
  unfold clipV
  obtain ⟨C, hC⟩ : ∃ C, C = (clipC z).toArray := ⟨_, rfl⟩
  rw [← hC]
  have HCC := Lib.hid hC
  clear hC
  dsimp only
  iterate 1 go_step
  refine Great.wpList_buildSliceTo rfl 35 53 1 #[(0, .tmp 41)] rfl w3.heap.size rfl _ rfl Try.underlying35 C ?_ ?_
  · simp only [List.map_toArray, List.map_cons, List.map_nil, List.toList_toArray]
    rw [HCC.out]
    exact built_clip z
  have hbx : CA (w3.alloc (.cells C 53)) w3.heap.size 0 z := by rw [HCC.out]; exact CA.box w3 z 53
  have hb : Below w3.heap.size w3 (w3.alloc (.cells C 53)) := below_box _ _
  have hsz : w1.heap.size ≤ (w3.alloc (.cells C 53)).heap.size := Nat.le_trans HSZ.out hb.size
  replace HL := Lib.hid (HL.out.below hb)
  have HBX := Lib.hid hb
  clear hb
  simp only [Act.put, List.setIfInBounds_toArray, List.set_cons_succ, List.set_cons_zero]
  refine wpList_appT 35 Try.underlying35 _ rfl (.tmp 39) (.tmp 42) rfl rfl w1.heap.size vl l rfl HL.out hsz w3.heap.size 1 z rfl hbx (by have := HLL.out; omega) ?_
  intro vn w5 q1 q2 q3 q4
  simp only [Act.put, List.setIfInBounds_toArray, List.set_cons_succ, List.set_cons_zero]
  have hbl : Below w1.heap.size w3 w5 := (HBX.out.mono HSZ.out).trans q2
  have HC := Lib.hid q1
  replace HO := Lib.hid (HO.out.blocks (fun g kk cap e => hbl.block g (by have := HOB.out g kk cap e; omega)))
  replace HT := Lib.hid (HT.out.low (n := w1.heap.size) (by have := HPB.out; have := HPW.out; omega) HPW.out hbl)
  replace HB := Lib.hid (HB.out.trans (hbl.mono (by have := HPB.out; have := HPW.out; omega)))
  have HCO := Lib.hid (clipsOK_snoc HS.out HLL.out HZ.out (by omega))
  obtain ⟨cl, hcl⟩ : ∃ cl, cl = l ++ [z] := ⟨_, rfl⟩
  rw [← hcl] at HC HCO
  clear q1 q2 q3 q4 hbl hbx hsz hcl HBX HCC HZ HS HLL HL HS1 HSZ
  obtain ⟨ca, cc, rfl, hcc⟩ := HC.out.tk
  clear hcc
  obtain ⟨J, hJ⟩ : ∃ J, J = cl.length := ⟨_, rfl⟩
  rw [← hJ] at HC ⊢
  have HJ := Lib.hid hJ
  clear hJ
  go_wp2_with fail
  refine (interval_iv (kk % 4) (a % 20) (b % 9 + 1) cl ca J cc _ (by omega) (by omega) (by omega) HC.out.tk HCO.out).mono ?_
  rintro e w6 ⟨i1, m1, en1, n1, ao1, j1, cp1, rfl, hb, hIV, hTk⟩
  have HI1 := Lib.hid hIV
  have HN1 := Lib.hid hTk
  have HP1' := Lib.hid HP1.out
  replace HO := Lib.hid (HO.out.below hb)
  replace HC := Lib.hid (HC.out.below hb)
  replace HT := Lib.hid (HT.out.low (Nat.le_of_lt (Nat.lt_of_le_of_lt HT.out.1 HT.out.2.1)) HT.out.2.1 hb)
  replace HB := Lib.hid (HB.out.trans (hb.mono HB.out.size))
  clear hb
  clear hIV hTk
  obtain ⟨a1, ha1'⟩ : ∃ q, q = a % 20 := ⟨_, rfl⟩
  rw [← ha1'] at HI1 ⊢
  have a10 : 0 ≤ a1 := by omega
  have a11 : a1 ≤ 19 := by omega
  clear ha1' ha0 ha1 hb0 hb1
  try dsimp only
  iterate 16 go_step
  have HPW6 := Lib.hid HT.out.2.1
  have hv : ED (w6.alloc (.cells (edC 0 0 0 0 0 0 0 (.slice none 0 0)) 26)) w6.heap.size 0 0 0 0 0 0 0 (.slice none 0 0) := ED.box w6 0 0 0 0 0 0 0 (.slice none 0 0) rfl 26
  have hb0 : Below w6.heap.size w6 (w6.alloc (.cells (edC 0 0 0 0 0 0 0 (.slice none 0 0)) 26)) := below_box _ _
  refine wpl_storeE i1 a1 m1 0 0 0 0 ao1 j1 cp1 hv rfl rfl rfl rfl ?_
  intro w6' q1 q2 q3 q4 q5
  have hb : Below w6.heap.size w6 w6' := q4 _ _ (Nat.le_refl _) hb0
  have HE1 := Lib.hid q1
  obtain ⟨g17, hgE⟩ : ∃ g, g = w6.heap.size := ⟨_, rfl⟩
  rw [← hgE] at HE1 ⊢
  have Hg17 := Lib.hid (Nat.le_of_eq hgE.symm)
  clear q1 q2 q3 q4 q5 hb0 hv hgE
  replace HO := Lib.hid (HO.out.below hb)
  replace HC := Lib.hid (HC.out.below hb)
  replace HT := Lib.hid (HT.out.low (Nat.le_of_lt (Nat.lt_of_le_of_lt HT.out.1 HT.out.2.1)) HT.out.2.1 hb)
  replace HB := Lib.hid (HB.out.trans (hb.mono HB.out.size))
  clear hb
  simp only [Act.put, List.setIfInBounds_toArray, List.set_cons_succ, List.set_cons_zero]
  replace HOB := Lib.hid (fun g kk cap (e : vt = .slice (some ⟨g, 0, none⟩) kk cap) => (HO.out.blk e).2)
  have HCB := Lib.hid (fun g kk cap (e : (.slice ca J cc : Value) = .slice (some ⟨g, 0, none⟩) kk cap) => (HC.out.blk e).2)
  have HEL := Lib.hid HE1.out.lt
  have en0 : 0 ≤ en1 := by have := HI1.out.e; have := HI1.out.r0; omega
  have en9 : en1 ≤ 119 := by have := HI1.out.e; have := HI1.out.r1; omega
  have HNE := Lib.hid (show g17 ≠ p by have := HPW6.out; have := Hg17.out; omega)
  have hPW : p < w6'.heap.size := HT.out.2.1
  have HPWs := Lib.hid hPW
  clear hPW
  go_wp2_with fail
  refine (track_any w.heap.size p k3 1 w6' HT.out (by have := HK.out; have := HK2.out; have := HK3.out; omega) (by omega)).mono ?_
  rintro e sw2 ⟨⟨vls, ls, rfl, ho, hs, hl⟩, ⟨k2s, hk2, hT_⟩, ht⟩
  have HL := Lib.hid ho
  have HS := Lib.hid hs
  have HLL := Lib.hid hl
  have HS1 := Lib.hid (show w6'.heap.size ≤ sw2.heap.size from ht.s)
  replace HO := Lib.hid (HO.out.tape HM.out.ne HT.out ht)
  replace HC := Lib.hid (HC.out.turn ht HPW.out)
  replace HE1 := Lib.hid (HE1.out.same (ht.o g17 HE1.out.lt HNE.out))
  replace HB := Lib.hid (ht.b _ _ HPB.out HB.out)
  replace HT := Lib.hid hT_
  have HK2s := Lib.hid hk2
  clear ho hs hl hT_ ht hk2
  go_wp2_with fail
  refine (clip_any w.heap.size p k2s _ HT.out (by have := HK.out; have := HK2.out; have := HK3.out; have := HK2s.out; omega)).mono ?_
  rintro e sw3 ⟨⟨zs, rfl, hz⟩, ⟨k3s, hk3, hT_⟩, ht⟩
  replace HO := Lib.hid (HO.out.tape HM.out.ne HT.out ht)
  replace HC := Lib.hid (HC.out.turn ht HPW.out)
  replace HE1 := Lib.hid (HE1.out.same (ht.o g17 HE1.out.lt HNE.out))
  replace HL := Lib.hid (HL.out.turn ht HPWs.out)
  have HSZ := Lib.hid (Nat.le_trans HS1.out ht.s)
  replace HB := Lib.hid (ht.b _ _ HPB.out HB.out)
  replace HT := Lib.hid hT_
  have HK3s := Lib.hid hk3
  have HZ := Lib.hid hz
  clear hz hT_ ht hk3
  unfold clipV
  obtain ⟨Cs, hC⟩ : ∃ C, C = (clipC zs).toArray := ⟨_, rfl⟩
  rw [← hC]
  have HCC := Lib.hid hC
  clear hC
  dsimp only
  iterate 1 go_step
  refine Great.wpList_buildSliceTo rfl 35 53 1 #[(0, .tmp 77)] rfl sw3.heap.size rfl _ rfl Try.underlying35 Cs ?_ ?_
  · simp only [List.map_toArray, List.map_cons, List.map_nil, List.toList_toArray]
    rw [HCC.out]
    exact built_clip zs
  have hbx : CA (sw3.alloc (.cells Cs 53)) sw3.heap.size 0 zs := by rw [HCC.out]; exact CA.box sw3 zs 53
  have hb : Below sw3.heap.size sw3 (sw3.alloc (.cells Cs 53)) := below_box _ _
  have hsz : w6'.heap.size ≤ (sw3.alloc (.cells Cs 53)).heap.size := Nat.le_trans HSZ.out hb.size
  replace HL := Lib.hid (HL.out.below hb)
  have HBX := Lib.hid hb
  clear hb
  simp only [Act.put, List.setIfInBounds_toArray, List.set_cons_succ, List.set_cons_zero]
  refine wpList_appT 35 Try.underlying35 _ rfl (.tmp 75) (.tmp 78) rfl rfl w6'.heap.size vls ls rfl HL.out hsz sw3.heap.size 1 zs rfl hbx (by have := HLL.out; omega) ?_
  intro vn2 w7 q1 q2 q3 q4
  simp only [Act.put, List.setIfInBounds_toArray, List.set_cons_succ, List.set_cons_zero]
  have hbl : Below w6'.heap.size sw3 w7 := (HBX.out.mono HSZ.out).trans q2
  have HD := Lib.hid q1
  replace HO := Lib.hid (HO.out.blocks (fun g kk cap e => hbl.block g (HOB.out g kk cap e)))
  replace HC := Lib.hid (HC.out.blocks (fun g kk cap e => hbl.block g (HCB.out g kk cap e)))
  replace HE1 := Lib.hid (HE1.out.same (hbl.block g17 HEL.out))
  replace HT := Lib.hid (HT.out.low (n := w6'.heap.size) (by have := HPB.out; have := HPWs.out; omega) HPWs.out hbl)
  replace HB := Lib.hid (HB.out.trans (hbl.mono (by have := HPB.out; have := HPWs.out; omega)))
  have HDO := Lib.hid (clipsOK_snoc HS.out HLL.out HZ.out (by omega))
  obtain ⟨dl, hcl⟩ : ∃ cl, cl = ls ++ [zs] := ⟨_, rfl⟩
  rw [← hcl] at HD HDO
  clear q1 q2 q3 q4 hbl hbx hsz hcl HBX HCC HZ HS HLL HL HS1 HSZ
  obtain ⟨da, dc, rfl, hcc⟩ := HD.out.tk
  clear hcc
  obtain ⟨I, hJ⟩ : ∃ J, J = dl.length := ⟨_, rfl⟩
  rw [← hJ] at HD ⊢
  have HI := Lib.hid hJ
  clear hJ
  go_wp2_with fail
  refine (interval_iv (kk / 4 % 4) (en1 + 1 + c % 12) (d % 9 + 1) dl da I dc _ (by omega) (by omega) (by omega) HD.out.tk (HDO.out.mono (by decide))).mono ?_
  rintro e w8 ⟨i2, m2, en2, n2, ao2, j2, cp2, rfl, hb, hIV, hTk⟩
  have HI2 := Lib.hid hIV
  have HN2 := Lib.hid hTk
  replace HO := Lib.hid (HO.out.below hb)
  replace HC := Lib.hid (HC.out.below hb)
  replace HD := Lib.hid (HD.out.below hb)
  replace HE1 := Lib.hid (HE1.out.below hb)
  replace HB := Lib.hid (HB.out.trans (hb.mono HB.out.size))
  clear hb
  clear hIV hTk
  obtain ⟨a2, ha2'⟩ : ∃ q, q = en1 + 1 + c % 12 := ⟨_, rfl⟩
  rw [← ha2'] at HI2 ⊢
  have a20 : en1 + 1 ≤ a2 := by omega
  have a21 : a2 ≤ 140 := by omega
  clear ha2' hc0 hc1 hd0 hd1 hkk0 hkk1 HT HK HK2 HK3 HK2s HK3s HP1 HPW HPW6 HPWs HPB HNE HEL HOB HCB
  try dsimp only
  iterate 16 go_step
  have hv : ED (w8.alloc (.cells (edC 0 0 0 0 0 0 0 (.slice none 0 0)) 26)) w8.heap.size 0 0 0 0 0 0 0 (.slice none 0 0) := ED.box w8 0 0 0 0 0 0 0 (.slice none 0 0) rfl 26
  have hb0 : Below w8.heap.size w8 (w8.alloc (.cells (edC 0 0 0 0 0 0 0 (.slice none 0 0)) 26)) := below_box _ _
  refine wpl_storeE i2 a2 m2 0 0 0 0 ao2 j2 cp2 hv rfl rfl rfl rfl ?_
  intro w8' q1 q2 q3 q4 q5
  have hb : Below w8.heap.size w8 w8' := q4 _ _ (Nat.le_refl _) hb0
  have HE2 := Lib.hid q1
  obtain ⟨g19, hgE⟩ : ∃ g, g = w8.heap.size := ⟨_, rfl⟩
  rw [← hgE] at HE2 ⊢
  have Hg19 := Lib.hid (Nat.le_of_eq hgE.symm)
  clear q1 q2 q3 q4 q5 hb0 hv hgE
  replace HO := Lib.hid (HO.out.below hb)
  replace HC := Lib.hid (HC.out.below hb)
  replace HD := Lib.hid (HD.out.below hb)
  replace HE1 := Lib.hid (HE1.out.below hb)
  replace HB := Lib.hid (HB.out.trans (hb.mono HB.out.size))
  clear hb
  simp only [Act.put, List.setIfInBounds_toArray, List.set_cons_succ, List.set_cons_zero]
  go_upto_region 5 with fail
  apply wp_region_lit
  refine wpl_loadE HE2.out rfl rfl rfl ?_
  iterate 3 go_step
  have hv : ED (w8'.alloc (.cells (edC 0 0 0 0 0 0 0 (.slice none 0 0)) 26)) w8'.heap.size 0 0 0 0 0 0 0 (.slice none 0 0) := ED.box w8' 0 0 0 0 0 0 0 (.slice none 0 0) rfl 26
  have hb0 : Below w8'.heap.size w8' (w8'.alloc (.cells (edC 0 0 0 0 0 0 0 (.slice none 0 0)) 26)) := below_box _ _
  refine wpl_storeE i2 a2 m2 0 0 0 0 ao2 j2 cp2 hv rfl rfl rfl rfl ?_
  intro w8'' q1 q2 q3 q4 q5
  have hb : Below w8'.heap.size w8' w8'' := q4 _ _ (Nat.le_refl _) hb0
  have HE3 := Lib.hid q1
  obtain ⟨g20, hgE⟩ : ∃ g, g = w8'.heap.size := ⟨_, rfl⟩
  rw [← hgE] at HE3 ⊢
  have Hg20 := Lib.hid (Nat.le_of_eq hgE.symm)
  clear q1 q2 q3 q4 q5 hb0 hv hgE
  have HW := Lib.hid hb
  clear hb
  simp only [Act.put, List.setIfInBounds_toArray, List.set_cons_succ, List.set_cons_zero]
  have hch := fun w (h : Tk w (.slice ca J cc) cl) => change_any i1 a1 m1 n1 ao1 j1 cp1 w HI1.out.k ⟨HI1.out.m0, by have := HI1.out.m1; omega⟩ (HN1.out w h) HI1.out.v
  obtain ⟨df, hdf⟩ : ∃ q, q = if i1 = 1 then Trk.total n1 else if i1 = 2 then -m1 else 0 := ⟨_, rfl⟩
  rw [← hdf] at hch
  have HCH := Lib.hid hch
  have HDF := Lib.hid (hdf.trans HI1.out.ch)
  have df0 : -100 ≤ df := by have := HDF.out; have := HI1.out.q0; have := HI1.out.r1; omega
  have df1 : df ≤ 100 := by have := HDF.out; have := HI1.out.r0; have := HI1.out.q1; omega
  clear hch hdf
  go_upto_region 6 with fail
  refine Plan.wp_region_plan (fun w' => ED w' g17 i1 a1 m1 0 0 0 0 (.slice ao1 j1 cp1) ∧ ED w' g19 i2 a2 m2 0 0 0 0 (.slice ao2 j2 cp2)) (([0, 1, 2].map (·, true)) ++ (([3].map (·, false)) ++ (([4, 5].map (·, true)) ++ ([6].map (·, false))))) (by kernel_rfl) (by kernel_rfl) (by kernel_rfl) ⟨HE1.out.below HW.out.drew, HE2.out.below HW.out.drew⟩ ?_
  refine' Plan.plan_seg _ [0, 1, 2] (([3].map (·, false)) ++ (([4, 5].map (·, true)) ++ ([6].map (·, false)))) (by kernel_rfl) (by kernel_rfl) rfl (by exact ⟨HE1.out.below HW.out.drew, HE2.out.below HW.out.drew⟩) (fun wx hS => ?_) ?_
  rotate_left
  · have HS1 := Lib.hid hS.1
    have s1 := hS.2.k1
    clear hS
    go_light
    iterate 2 (apply Plan.seg_pick; rfl; intro K hK; go_wp)
    (apply Plan.seg_pick; rfl; intro K hK)
    refine wpl_loadE HS1.out rfl rfl rfl ?_
    go_wp
    exact Plan.seg_nil
  obtain ⟨w9, hw9⟩ : ∃ x, x = (w8'').drew := ⟨_, rfl⟩
  rw [← hw9]
  have hb : Below w8''.heap.size w8'' w9 := by rw [hw9]; exact (Below.refl _ _).drew
  replace HW := Lib.hid (HW.out.trans (hb.mono HW.out.size))
  clear hw9
  replace HE3 := Lib.hid (HE3.out.below hb)
  clear hb
  refine Plan.plan_of_effect rfl (fun K hK => ?_)
  go_wp2_with fail
  refine (HCH.out _ (HC.out.below HW.out).tk).mono ?_
  rintro e w10 ⟨rfl, hb⟩
  replace HW := Lib.hid (HW.out.trans (hb.mono HW.out.size))
  replace HE3 := Lib.hid (HE3.out.below hb)
  clear hb
  go_wp2_with fail
  refine ⟨⟨HE1.out.below HW.out, HE2.out.below HW.out⟩, ?_⟩
  refine' Plan.plan_seg _ [4, 5] ([6].map (·, false)) (by kernel_rfl) (by kernel_rfl) rfl (by exact ⟨HE1.out.below HW.out, HE2.out.below HW.out⟩) (fun wx hS => ?_) ?_
  rotate_left
  · clear hS
    go_light
    iterate 2 (apply Plan.seg_pick; rfl; intro K hK; go_wp)
    exact Plan.seg_nil
  have y1 := HE3.out.k1
  have yf := HE3.out.fz 1
  refine Plan.plan_of_effect rfl (fun K hK => ?_)
  go_wp2_with fail
  obtain ⟨w11, hw11⟩ : ∃ x, x = w10.setCell ⟨g20, 1, none⟩ (.int .i64 (a2 + df)) := ⟨_, rfl⟩
  rw [← hw11]
  have hb : Below w8'.heap.size w8' w11 := by rw [hw11]; exact HW.out.setCell Hg20.out _
  replace HE3 := Lib.hid (show ED w11 g20 i2 (a2 + df) m2 0 0 0 0 (.slice ao2 j2 cp2) by rw [hw11]; exact HE3.out.set1 _)
  clear hw11 y1 yf HW
  replace HO := Lib.hid (HO.out.below hb)
  replace HC := Lib.hid (HC.out.below hb)
  replace HD := Lib.hid (HD.out.below hb)
  replace HE1 := Lib.hid (HE1.out.below hb)
  replace HE2 := Lib.hid (HE2.out.below hb)
  replace HB := Lib.hid (HB.out.trans (hb.mono HB.out.size))
  clear hb
  refine ⟨⟨HE1.out, HE2.out⟩, ?_⟩
  refine Plan.plan_done ?_
  have en20 : 0 ≤ en2 := by have := HI2.out.e; have := HI2.out.r0; omega
  have HEV1 := Lib.hid (HI1.out.x)
  have hlp : t.length + 2 + (⟨i1, a1, m1, 0, 0, 0, 0, n1⟩ : Trk.Ed).put.length ≤ 63 := by have := HI1.out.l; have := HM.out.l; omega
  have hee : (if i1 = 1 then max (a1) (Trk.total t) else (a1)) + (⟨i1, a1, m1, 0, 0, 0, 0, n1⟩ : Trk.Ed).T ≤ 2147483647 := by have := HI1.out.t; have := HM.out.tt; split <;> omega
  have hx := exch_of HM.out.vt HEV1.out (by omega) hee
  have hap := fun w (h : Tk w vt t) (hu : Tk w (.slice ao1 j1 cp1) n1) => apply_f vt (.slice ao1 j1 cp1) t ⟨i1, a1, m1, 0, 0, 0, 0, n1⟩ w h hu HM.out.vt HM.out.n HEV1.out hlp hee
  obtain ⟨U, hU⟩ : ∃ q, q = Trk.nf ((⟨i1, a1, m1, 0, 0, 0, 0, n1⟩ : Trk.Ed).exl t) := ⟨_, rfl⟩
  rw [← hU] at hx hap
  have HXU := Lib.hid hx
  have HAP := Lib.hid hap
  clear hx hap hU hlp hee
  go_upto_region 9 with fail
  apply wp_region_lit
  iterate 3 go_step
  refine wpl_loadE HE1.out rfl rfl rfl ?_
  iterate 2 go_step
  refine (HAP.out _ HO.out.tk (HN1.out _ HC.out.tk)).mono ?_
  rintro e' y1 ⟨vu, x1, x2, x3, ra, rl, rc, rfl, hou, hb⟩
  have HU := Lib.hid hou
  replace HO := Lib.hid (HO.out.below hb)
  replace HC := Lib.hid (HC.out.below hb)
  replace HD := Lib.hid (HD.out.below hb)
  replace HE1 := Lib.hid (HE1.out.below hb)
  replace HE2 := Lib.hid (HE2.out.below hb)
  replace HE3 := Lib.hid (HE3.out.below hb)
  replace HB := Lib.hid (HB.out.trans (hb.mono HB.out.size))
  clear hb
  clear hou HAP
  try dsimp only
  iterate 19 go_step
  have hv : ED (y1.alloc (.cells (edC 0 0 0 0 0 0 0 (.slice none 0 0)) 26)) y1.heap.size 0 0 0 0 0 0 0 (.slice none 0 0) := ED.box y1 0 0 0 0 0 0 0 (.slice none 0 0) rfl 26
  have hb0 : Below y1.heap.size y1 (y1.alloc (.cells (edC 0 0 0 0 0 0 0 (.slice none 0 0)) 26)) := below_box _ _
  refine wpl_storeE x1 x2 x3 0 0 0 0 ra rl rc hv rfl rfl rfl rfl ?_
  intro y1' q1 q2 q3 q4 q5
  have hb : Below y1.heap.size y1 y1' := q4 _ _ (Nat.le_refl _) hb0
  obtain ⟨gR1, hgE⟩ : ∃ g, g = y1.heap.size := ⟨_, rfl⟩
  rw [← hgE]
  have HgR1 := Lib.hid (Nat.le_of_eq hgE.symm)
  clear q1 q2 q3 q4 q5 hb0 hv hgE
  replace HO := Lib.hid (HO.out.below hb)
  replace HC := Lib.hid (HC.out.below hb)
  replace HD := Lib.hid (HD.out.below hb)
  replace HE1 := Lib.hid (HE1.out.below hb)
  replace HE2 := Lib.hid (HE2.out.below hb)
  replace HE3 := Lib.hid (HE3.out.below hb)
  replace HB := Lib.hid (HB.out.trans (hb.mono HB.out.size))
  replace HU := Lib.hid (HU.out.below hb)
  clear hb
  simp only [Act.put, List.setIfInBounds_toArray, List.set_cons_succ, List.set_cons_zero]
  have adf : 0 ≤ a2 + df := by have := HDF.out; have := HI1.out.e; have := HI1.out.q0; omega
  have HEV2 := Lib.hid (HI2.out.move (b := a2 + df) (by omega) (by omega))
  have hlp : U.length + 2 + (⟨i2, (a2 + df), m2, 0, 0, 0, 0, n2⟩ : Trk.Ed).put.length ≤ 63 := by have h1 : U.length ≤ t.length + 2 + _ := HXU.out.l; have := HI1.out.l; have h3 : (⟨i2, a2 + df, m2, 0, 0, 0, 0, n2⟩ : Trk.Ed).put.length ≤ 5 := HI2.out.l; have := HM.out.l; omega
  have hee : (if i2 = 1 then max ((a2 + df)) (Trk.total U) else ((a2 + df))) + (⟨i2, (a2 + df), m2, 0, 0, 0, 0, n2⟩ : Trk.Ed).T ≤ 2147483647 := by have h1 : Trk.total U ≤ max a1 (Trk.total t) + _ := HXU.out.tt; have := HI1.out.q1; have h3 : (⟨i2, a2 + df, m2, 0, 0, 0, 0, n2⟩ : Trk.Ed).T ≤ 100 := HI2.out.t; have := HM.out.tt; split <;> omega
  have hx := exch_of HXU.out.v HEV2.out (by omega) hee
  have hap := fun w (h : Tk w vu U) (hu : Tk w (.slice ao2 j2 cp2) n2) => apply_f vu (.slice ao2 j2 cp2) U ⟨i2, (a2 + df), m2, 0, 0, 0, 0, n2⟩ w h hu HXU.out.v HXU.out.n HEV2.out hlp hee
  obtain ⟨V, hU⟩ : ∃ q, q = Trk.nf ((⟨i2, (a2 + df), m2, 0, 0, 0, 0, n2⟩ : Trk.Ed).exl U) := ⟨_, rfl⟩
  rw [← hU] at hx hap
  have HXV := Lib.hid hx
  have HAP := Lib.hid hap
  clear hx hap hU hlp hee
  go_upto_region 10 with fail
  apply wp_region_lit
  iterate 3 go_step
  refine wpl_loadE HE3.out rfl rfl rfl ?_
  iterate 2 go_step
  refine (HAP.out _ HU.out.tk (HN2.out _ HD.out.tk)).mono ?_
  rintro e' y2 ⟨vv, x1, x2, x3, ra, rl, rc, rfl, hou, hb⟩
  have HV := Lib.hid hou
  replace HO := Lib.hid (HO.out.below hb)
  replace HU := Lib.hid (HU.out.below hb)
  replace HC := Lib.hid (HC.out.below hb)
  replace HD := Lib.hid (HD.out.below hb)
  replace HE1 := Lib.hid (HE1.out.below hb)
  replace HE2 := Lib.hid (HE2.out.below hb)
  replace HE3 := Lib.hid (HE3.out.below hb)
  replace HB := Lib.hid (HB.out.trans (hb.mono HB.out.size))
  clear hb
  clear hou HAP
  try dsimp only
  iterate 19 go_step
  have hv : ED (y2.alloc (.cells (edC 0 0 0 0 0 0 0 (.slice none 0 0)) 26)) y2.heap.size 0 0 0 0 0 0 0 (.slice none 0 0) := ED.box y2 0 0 0 0 0 0 0 (.slice none 0 0) rfl 26
  have hb0 : Below y2.heap.size y2 (y2.alloc (.cells (edC 0 0 0 0 0 0 0 (.slice none 0 0)) 26)) := below_box _ _
  refine wpl_storeE x1 x2 x3 0 0 0 0 ra rl rc hv rfl rfl rfl rfl ?_
  intro y2' q1 q2 q3 q4 q5
  have hb : Below y2.heap.size y2 y2' := q4 _ _ (Nat.le_refl _) hb0
  obtain ⟨gR2, hgE⟩ : ∃ g, g = y2.heap.size := ⟨_, rfl⟩
  rw [← hgE]
  have HgR2 := Lib.hid (Nat.le_of_eq hgE.symm)
  clear q1 q2 q3 q4 q5 hb0 hv hgE
  replace HO := Lib.hid (HO.out.below hb)
  replace HU := Lib.hid (HU.out.below hb)
  replace HC := Lib.hid (HC.out.below hb)
  replace HD := Lib.hid (HD.out.below hb)
  replace HE1 := Lib.hid (HE1.out.below hb)
  replace HE2 := Lib.hid (HE2.out.below hb)
  replace HE3 := Lib.hid (HE3.out.below hb)
  replace HB := Lib.hid (HB.out.trans (hb.mono HB.out.size))
  replace HV := Lib.hid (HV.out.below hb)
  clear hb
  simp only [Act.put, List.setIfInBounds_toArray, List.set_cons_succ, List.set_cons_zero]
  have HEV3 := Lib.hid (HI2.out.x)
  have hlp : t.length + 2 + (⟨i2, a2, m2, 0, 0, 0, 0, n2⟩ : Trk.Ed).put.length ≤ 63 := by have := HI2.out.l; have := HM.out.l; omega
  have hee : (if i2 = 1 then max (a2) (Trk.total t) else (a2)) + (⟨i2, a2, m2, 0, 0, 0, 0, n2⟩ : Trk.Ed).T ≤ 2147483647 := by have := HI2.out.t; have := HM.out.tt; split <;> omega
  have hx := exch_of HM.out.vt HEV3.out (by omega) hee
  have hap := fun w (h : Tk w vt t) (hu : Tk w (.slice ao2 j2 cp2) n2) => apply_f vt (.slice ao2 j2 cp2) t ⟨i2, a2, m2, 0, 0, 0, 0, n2⟩ w h hu HM.out.vt HM.out.n HEV3.out hlp hee
  obtain ⟨W, hU⟩ : ∃ q, q = Trk.nf ((⟨i2, a2, m2, 0, 0, 0, 0, n2⟩ : Trk.Ed).exl t) := ⟨_, rfl⟩
  rw [← hU] at hx hap
  have HXW := Lib.hid hx
  have HAP := Lib.hid hap
  clear hx hap hU hlp hee
  go_upto_region 11 with fail
  apply wp_region_lit
  iterate 3 go_step
  refine wpl_loadE HE2.out rfl rfl rfl ?_
  iterate 2 go_step
  refine (HAP.out _ HO.out.tk (HN2.out _ HD.out.tk)).mono ?_
  rintro e' y3 ⟨vw, x1, x2, x3, ra, rl, rc, rfl, hou, hb⟩
  have HW := Lib.hid hou
  replace HO := Lib.hid (HO.out.below hb)
  replace HV := Lib.hid (HV.out.below hb)
  replace HC := Lib.hid (HC.out.below hb)
  replace HD := Lib.hid (HD.out.below hb)
  replace HE1 := Lib.hid (HE1.out.below hb)
  replace HE2 := Lib.hid (HE2.out.below hb)
  replace HB := Lib.hid (HB.out.trans (hb.mono HB.out.size))
  clear hb
  clear hou HAP
  try dsimp only
  iterate 19 go_step
  have hv : ED (y3.alloc (.cells (edC 0 0 0 0 0 0 0 (.slice none 0 0)) 26)) y3.heap.size 0 0 0 0 0 0 0 (.slice none 0 0) := ED.box y3 0 0 0 0 0 0 0 (.slice none 0 0) rfl 26
  have hb0 : Below y3.heap.size y3 (y3.alloc (.cells (edC 0 0 0 0 0 0 0 (.slice none 0 0)) 26)) := below_box _ _
  refine wpl_storeE x1 x2 x3 0 0 0 0 ra rl rc hv rfl rfl rfl rfl ?_
  intro y3' q1 q2 q3 q4 q5
  have hb : Below y3.heap.size y3 y3' := q4 _ _ (Nat.le_refl _) hb0
  obtain ⟨gR3, hgE⟩ : ∃ g, g = y3.heap.size := ⟨_, rfl⟩
  rw [← hgE]
  have HgR3 := Lib.hid (Nat.le_of_eq hgE.symm)
  clear q1 q2 q3 q4 q5 hb0 hv hgE
  replace HO := Lib.hid (HO.out.below hb)
  replace HV := Lib.hid (HV.out.below hb)
  replace HC := Lib.hid (HC.out.below hb)
  replace HD := Lib.hid (HD.out.below hb)
  replace HE1 := Lib.hid (HE1.out.below hb)
  replace HE2 := Lib.hid (HE2.out.below hb)
  replace HB := Lib.hid (HB.out.trans (hb.mono HB.out.size))
  replace HW := Lib.hid (HW.out.below hb)
  clear hb
  simp only [Act.put, List.setIfInBounds_toArray, List.set_cons_succ, List.set_cons_zero]
  have HEV4 := Lib.hid (HI1.out.x)
  have hlp : W.length + 2 + (⟨i1, a1, m1, 0, 0, 0, 0, n1⟩ : Trk.Ed).put.length ≤ 63 := by have h1 : W.length ≤ t.length + 2 + _ := HXW.out.l; have := HI2.out.l; have := HI1.out.l; have := HM.out.l; omega
  have hee : (if i1 = 1 then max (a1) (Trk.total W) else (a1)) + (⟨i1, a1, m1, 0, 0, 0, 0, n1⟩ : Trk.Ed).T ≤ 2147483647 := by have h1 : Trk.total W ≤ max a2 (Trk.total t) + _ := HXW.out.tt; have := HI2.out.q1; have := HI1.out.t; have := HM.out.tt; split <;> omega
  have hx := exch_of HXW.out.v HEV4.out (by omega) hee
  have hap := fun w (h : Tk w vw W) (hu : Tk w (.slice ao1 j1 cp1) n1) => apply_f vw (.slice ao1 j1 cp1) W ⟨i1, a1, m1, 0, 0, 0, 0, n1⟩ w h hu HXW.out.v HXW.out.n HEV4.out hlp hee
  obtain ⟨Y, hU⟩ : ∃ q, q = Trk.nf ((⟨i1, a1, m1, 0, 0, 0, 0, n1⟩ : Trk.Ed).exl W) := ⟨_, rfl⟩
  rw [← hU] at hx hap
  have HXY := Lib.hid hx
  have HAP := Lib.hid hap
  clear hx hap hU hlp hee
  go_upto_region 12 with fail
  apply wp_region_lit
  iterate 3 go_step
  refine wpl_loadE HE1.out rfl rfl rfl ?_
  iterate 2 go_step
  refine (HAP.out _ HW.out.tk (HN1.out _ HC.out.tk)).mono ?_
  rintro e' y4 ⟨vy, x1, x2, x3, ra, rl, rc, rfl, hou, hb⟩
  have HY := Lib.hid hou
  replace HV := Lib.hid (HV.out.below hb)
  replace HW := Lib.hid (HW.out.below hb)
  replace HC := Lib.hid (HC.out.below hb)
  replace HE1 := Lib.hid (HE1.out.below hb)
  replace HB := Lib.hid (HB.out.trans (hb.mono HB.out.size))
  clear hb
  clear hou HAP
  try dsimp only
  iterate 19 go_step
  have hv : ED (y4.alloc (.cells (edC 0 0 0 0 0 0 0 (.slice none 0 0)) 26)) y4.heap.size 0 0 0 0 0 0 0 (.slice none 0 0) := ED.box y4 0 0 0 0 0 0 0 (.slice none 0 0) rfl 26
  have hb0 : Below y4.heap.size y4 (y4.alloc (.cells (edC 0 0 0 0 0 0 0 (.slice none 0 0)) 26)) := below_box _ _
  refine wpl_storeE x1 x2 x3 0 0 0 0 ra rl rc hv rfl rfl rfl rfl ?_
  intro y4' q1 q2 q3 q4 q5
  have hb : Below y4.heap.size y4 y4' := q4 _ _ (Nat.le_refl _) hb0
  obtain ⟨gR4, hgE⟩ : ∃ g, g = y4.heap.size := ⟨_, rfl⟩
  rw [← hgE]
  have HgR4 := Lib.hid (Nat.le_of_eq hgE.symm)
  clear q1 q2 q3 q4 q5 hb0 hv hgE
  replace HV := Lib.hid (HV.out.below hb)
  replace HW := Lib.hid (HW.out.below hb)
  replace HC := Lib.hid (HC.out.below hb)
  replace HE1 := Lib.hid (HE1.out.below hb)
  replace HB := Lib.hid (HB.out.trans (hb.mono HB.out.size))
  replace HY := Lib.hid (HY.out.below hb)
  clear hb
  simp only [Act.put, List.setIfInBounds_toArray, List.set_cons_succ, List.set_cons_zero]
  have hVY : V = Y := by
    have h2 : ExF U V (⟨i2, a2, m2, 0, 0, 0, 0, n2⟩ : Trk.Ed).put (a2 + (Trk.total (⟨i1, a1, m1, 0, 0, 0, 0, n1⟩ : Trk.Ed).put - (⟨i1, a1, m1, 0, 0, 0, 0, n1⟩ : Trk.Ed).rem)) (⟨i2, a2, m2, 0, 0, 0, 0, n2⟩ : Trk.Ed).rem := by
      rw [← HDF.out]
      exact HXV.out
    refine commute_fr HXU.out h2 HXW.out HXY.out a10 HI1.out.r0 HI2.out.r0 ?_ HI1.out.q0 HI2.out.q0
    have h3 := HI1.out.e
    show a1 + _ ≤ a2
    omega
  subst hVY
  clear HXU HXV HXW HXY HDF HI1 HI2
  go_wp2_with fail
  refine (equal_self vv vy V _ HV.out.tk HY.out.tk).mono ?_
  rintro e' w15 ⟨rfl, hb⟩
  replace HB := Lib.hid (HB.out.trans (hb.mono HB.out.size))
  clear hb
  go_wp2_with fail
  refine (awake_any _).mono ?_
  rintro e w8 ⟨rfl, hb⟩
  replace HB := Lib.hid (HB.out.trans (hb.mono HB.out.size))
  clear hb
  go_wp2_with fail
  go_ret
  exact ⟨rfl, HB.out⟩
end Go.Proofs.Ytnmkcpgcdjhdjaa


namespace Go.Proofs.Ytnmkcpgcdjhdjaa.editsCommute
open Go.ChangeShapes Go.WideShapes Go.ChangeAt Go.RowKit
set_option linter.unusedVariables false

theorem own : ownKnob Try.prog.godebug = none := by kernel_rfl

set_option maxRecDepth 100000 in
theorem lifted (os : Os) (started : os.Started) (H : Type) (enc : TypeId × Value → H) :
    ReturnsInHanded {} Try.checked os 14 .any (Rows.editsCommuteSpec.pre6 enc Try.prog Try.f14 Rows.editsCommuteRow.domain false) (Rows.editsCommuteSpec.post enc Try.prog Try.f14 false true false false) := by
  refine returnsInHanded_of_change (C := Try.checked) own started (by kernel_rfl) Try.func14
    (ChangeSpec.witness6 (enc := enc) (C := Try.checked) false ⟨#[], #[.slice none 0 0, .int .u8 0, .int .u8 0, .int .u8 0, .int .u8 0, .int .u8 0], []⟩ 8 (by kernel_rfl) (by kernel_rfl) (by kernel_rfl) (by kernel_rfl)) ?_
  intro W base args ds gs before hval0 hW hcnd _
  have hval : ∀ (j : Nat) t v, Try.f14.params[j]? = some t → args[j]? = some v → Value.okWide Try.prog W .any base t v := hval0
  have hW' := hW
  obtain ⟨p, q, hA0, hV, rfl, hfz, hnd⟩ := hW
  have hA : DataW.TrodAll enc Try.prog W 0 (fun _ => true) true Try.f14.params.toList args.toList ds p := hA0
  have hAk := hA
  rw [Try.params14] at hA hval
  obtain ⟨v0, vs0, d0, ds0, p0, q0, hargs, rfl, rfl, h0, r0⟩ := trodAll_cons hA
  obtain ⟨v1, vs1, d1, ds1, p1, q1, rfl, rfl, rfl, h1, r1⟩ := trodAll_cons r0
  obtain ⟨v2, vs2, d2, ds2, p2, q2, rfl, rfl, rfl, h2, r2⟩ := trodAll_cons r1
  obtain ⟨v3, vs3, d3, ds3, p3, q3, rfl, rfl, rfl, h3, r3⟩ := trodAll_cons r2
  obtain ⟨v4, vs4, d4, ds4, p4, q4, rfl, rfl, rfl, h4, r4⟩ := trodAll_cons r3
  obtain ⟨v5, vs5, d5, ds5, p5, q5, rfl, rfl, rfl, h5, r5⟩ := trodAll_cons r4
  obtain ⟨rfl, rfl, rfl⟩ := trodAll_nil r5
  obtain rfl : args = #[v0, v1, v2, v3, v4, v5] := by cases args; simp_all
  obtain ⟨rfl, rfl⟩ := trodVars_none hV
  have hr0 := open_tape (hval 0 27 v0 rfl rfl) h0
  obtain ⟨a1, rfl, rfl, rfl, w1⟩ := open_int Try.underlying5 (hval 1 5 v1 rfl rfl) h1
  obtain ⟨a2, rfl, rfl, rfl, w2⟩ := open_int Try.underlying5 (hval 2 5 v2 rfl rfl) h2
  obtain ⟨a3, rfl, rfl, rfl, w3⟩ := open_int Try.underlying5 (hval 3 5 v3 rfl rfl) h3
  obtain ⟨a4, rfl, rfl, rfl, w4⟩ := open_int Try.underlying5 (hval 4 5 v4 rfl rfl) h4
  obtain ⟨a5, rfl, rfl, rfl, w5⟩ := open_int Try.underlying5 (hval 5 5 v5 rfl rfl) h5
  have x1 : 0 ≤ a1 ∧ a1 ≤ 255 := by simpa [Lit.wf, IntKind.min, IntKind.max, IntKind.signed, IntKind.bits] using w1
  have x2 : 0 ≤ a2 ∧ a2 ≤ 255 := by simpa [Lit.wf, IntKind.min, IntKind.max, IntKind.signed, IntKind.bits] using w2
  have x3 : 0 ≤ a3 ∧ a3 ≤ 255 := by simpa [Lit.wf, IntKind.min, IntKind.max, IntKind.signed, IntKind.bits] using w3
  have x4 : 0 ≤ a4 ∧ a4 ≤ 255 := by simpa [Lit.wf, IntKind.min, IntKind.max, IntKind.signed, IntKind.bits] using w4
  have x5 : 0 ≤ a5 ∧ a5 ≤ 255 := by simpa [Lit.wf, IntKind.min, IntKind.max, IntKind.signed, IntKind.bits] using w5
  simp only [List.append_nil] at hW' hAk
  refine (law_commute v0 a1 a2 a3 a4 a5 W hr0 x1 x2 x3 x4 x5).mono fun e W' ⟨he, hg⟩ => ?_
  subst he
  exact ⟨_, rfl, post_of_below (pv := []) hW' (fun _ _ _ => (trodAll_cons_mk (shut_bool Try.underlying4 _) trodAll_mk0)) (fun sp hsp => trodAll_stays laid_out hg (by kernel_rfl) hAk (fun x hx => hW'.lt x (by simpa using hx)) (fun x hx => hsp x (by simpa using hx))) (fun _ _ => rfl) (by simp)
    hg (ok_one (by kernel_rfl) rfl (okWide_bool_mk Try.underlying4 _))⟩

theorem over : Rows.editsCommuteRow.holds Try.pinned (OpenSpec.ofChange Rows.editsCommuteSpec) :=
  OpenClaim.holds_of_wide 14 Try.f14 rfl rfl rfl rfl rfl rfl rfl ⟨rfl, rfl, rfl, rfl, rfl⟩ rfl rfl rfl rfl rfl (by kernel_rfl) Try.func14 (by kernel_rfl)
    (of_decide_eq_true (by kernel_rfl)) (by unfold Func.isWrapper; first | (rw [if_pos (by decide +kernel)]; kernel_rfl) | (rw [if_neg (by decide +kernel)]; exact ⟨rfl, rfl⟩))
    (fun os started H enc _ => lifted os started H enc)

/-- The statement. -/
theorem proved : Rows.EditsCommuteSaid :=
  over
end Go.Proofs.Ytnmkcpgcdjhdjaa.editsCommute
