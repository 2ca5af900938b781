/- Rows.BinReplacesSaid is proved here, for every input; the walk is law_replaces. -/
import Derived.Test.YtfoohocgdcgbcaaGreatRows
import Derived.WalkKit
import Derived.ProofKit
import Derived.OpenShut
import Derived.Test.YtfoohocgdcgbcaaGreatSd12
import Derived.Test.YtfoohocgdcgbcaaGreatSd14
import Derived.Test.YtfoohocgdcgbcaaGreatRp00
set_option linter.unusedVariables false
set_option linter.unusedSimpArgs false

/- The contracts of part and compare. -/
namespace Go.Proofs.YtfoohocgdcgbcaaGreat
open Go.RowKit
set_option linter.unusedVariables false
set_option linter.unusedSimpArgs false
/-- A difference in memory. -/
structure D4 (w : World) (g : Nat) (p q : Int) (x : Value) (e : Int) : Prop where
  k0 : w.cell? ⟨g, 0, none⟩ = some (.int .i64 p)
  k1 : w.cell? ⟨g, 1, none⟩ = some (.int .i64 q)
  k2 : w.cell? ⟨g, 2, none⟩ = some x
  k3 : w.cell? ⟨g, 3, none⟩ = some (.int .i64 e)
  f : ∀ o, w.frozen? ⟨g, o, none⟩ = false
theorem D4.lt {w : World} {g : Nat} {p q : Int} {x : Value} {e : Int} (h : D4 w g p q x e) : g < w.heap.size := block_lt_of_cell h.k0
theorem D4.below {w w' : World} {g : Nat} {p q : Int} {x : Value} {e : Int} (h : D4 w g p q x e) (hb : Below w.heap.size w w') : D4 w' g p q x e :=
  ⟨(hb.cell h.lt).trans h.k0, (hb.cell h.lt).trans h.k1, (hb.cell h.lt).trans h.k2, (hb.cell h.lt).trans h.k3, fun o => (hb.frozen (p := ⟨g, o, none⟩) h.lt).trans (h.f o)⟩
theorem results_diff {fn : Func} {tmps : Array Value} {w : World} {t : Tmp} {g : Nat} {p q : Int} {x : Value} {e : Int} (hr : fn.results = #[.cell t 98]) (ht : tmps.getD t undef = .pointer (some ⟨g, 0, none⟩)) (h : D4 w g p q x e) :
    (results fn tmps).run Tryz.prog w = .ok (.agg #[.int .i64 p, .int .i64 q, x, .int .i64 e]) w := by
  have hc : w.rangeAt g 0 [.int .i64 p, .int .i64 q, x, .int .i64 e] := by
    intro j u hj
    have hl : j < 4 := (List.getElem?_eq_some_iff.1 hj).1
    rcases (show j = 0 ∨ j = 1 ∨ j = 2 ∨ j = 3 by omega) with rfl | rfl | rfl | rfl
    all_goals
      simp only [List.getElem?_cons_zero, List.getElem?_cons_succ, Option.some.injEq] at hj
      subst hj
    · exact h.k0
    · exact h.k1
    · exact h.k2
    · exact h.k3
  have h := run_loadVar_mid (P := Tryz.prog) w g 0 98 [.int .i64 p, .int .i64 q, x, .int .i64 e] _ hc Tryz.underlying98 rfl (by kernel_rfl)
  unfold results
  rw [hr]
  have ht2 : tmps[t]?.getD undef = .pointer (some ⟨g, 0, none⟩) := by rw [← Array.getD_eq_getD_getElem?]; exact ht
  simp [ht2, asAddr, h]
def partL (l : List Trk.Clip) (a b : Int) : List Trk.Clip := if a = b then [] else Trk.cut l a b
set_option maxRecDepth 100000 in
set_option maxHeartbeats 8000000 in
theorem part_any {L : Int} (v : Value) (l : List Trk.Clip) (a b : Int) (w : World) (h : Tk w v l) (hV : VT L l) (hL : L ≤ 140737488355328) (a0 : 0 ≤ a) (ab : a ≤ b) (b1 : b ≤ Trk.total l) :
    Calls Tryz.prog 94 #[v, .int .i64 a, .int .i64 b] w fun e w' => ∃ v', e = .returned (.tuple #[v', .int .i64 0]) ∧ OT w' w.heap.size v' (partL l a b) ∧ Below w.heap.size w w' := by
  have HC := Lib.hid (cut_any v l a b w h hV hL a0 ab (by have := hV.t; omega) (Nat.le_trans (Trk.cut_len hV.good a0 ab b1) hV.n))
  obtain ⟨ao, cap, rfl, -⟩ := h
  clear hV
  unfold partL
  by_cases he : a = b
  · rw [if_pos he]
    subst he
    clear HC
    go_enter Tryz.func94, Tryz.ntmps94
    go_wp2_with fail
    go_ret2
    exact ⟨_, rfl, OT.nil _ _, Below.refl _ _⟩
  · rw [if_neg he]
    have z : (a == b) = false := by simpa using he
    go_enter Tryz.func94, Tryz.ntmps94
    go_wp2_with fail
    refine HC.out.mono ?_
    rintro e w1 ⟨v', rfl, ho, hb⟩
    have HO := Lib.hid ho
    have HB := Lib.hid hb
    clear ho hb
    go_wp2_with fail
    go_ret2
    exact ⟨_, rfl, HO.out, HB.out⟩
/-- What compare answers. -/
def CmpPost (w : World) (n m : List Trk.Clip) (e : Ending) (w' : World) : Prop := ∃ p q x xv, e = .returned (.agg #[.int .i64 p, .int .i64 q, xv, .int .i64 0]) ∧ Trk.Diff n m p q x ∧ OT w' w.heap.size xv x ∧ Below w.heap.size w w'
set_option maxRecDepth 100000 in
set_option maxHeartbeats 8000000 in
theorem compare_any {L : Int} (v u : Value) (n m : List Trk.Clip) (w : World) (h : Tk w v n) (h' : Tk w u m) (Vn : VT L n) (Vm : VT L m) (hL : L ≤ 140737488355328) :
    Calls Tryz.prog 49 #[v, u] w (CmpPost w n m) := by
  have HT := Lib.hid h
  have HU := Lib.hid h'
  have L1 := Lib.hid (fun (w : World) (h : Tk w v n) => length_any v n w h Vn hL)
  have L2 := Lib.hid (fun (w : World) (h : Tk w u m) => length_any u m w h Vm hL)
  have PX := Lib.hid (fun (w : World) (h : Tk w v n) (h' : Tk w u m) => prefix_any v u n m w h h' Vn Vm hL)
  have SX := Lib.hid (fun (lim : Int) (w : World) (h : Tk w v n) (h' : Tk w u m) => suffix_any v u n m lim w h h' Vn Vm hL)
  have PA := Lib.hid (fun (a b : Int) (w : World) (h' : Tk w u m) => part_any u m a b w h' Vm hL)
  have tn := Vn.t
  have tm := Vm.t
  have t0 := Trk.total_nonneg Vn.good
  have t1 := Trk.total_nonneg Vm.good
  obtain ⟨ao, cap, rfl, -⟩ := h
  obtain ⟨bo, dap, rfl, -⟩ := h'
  clear Vn Vm
  obtain ⟨N, hN⟩ : ∃ N, N = Trk.total n := ⟨_, rfl⟩
  obtain ⟨M, hM⟩ : ∃ M, M = Trk.total m := ⟨_, rfl⟩
  rw [← hN] at tn t0
  rw [← hM] at tm t1
  have HN := Lib.hid hN
  have HM := Lib.hid hM
  clear hN hM
  obtain ⟨ln, hln⟩ : ∃ k, k = n.length := ⟨_, rfl⟩
  obtain ⟨lm, hlm⟩ : ∃ k, k = m.length := ⟨_, rfl⟩
  rw [← hln] at HT L1 PX SX ⊢
  rw [← hlm] at HU L2 PX SX PA ⊢
  clear hln hlm
  go_enter Tryz.func49, Tryz.ntmps49
  go_upto_region 1 with fail
  obtain ⟨w1, hw1⟩ : ∃ z, z = w.alloc (.cells #[.int .i64 0, .int .i64 0, .slice none 0 0, .int .i64 0] 98) := ⟨_, rfl⟩
  obtain ⟨g, hg⟩ : ∃ g, g = w.heap.size := ⟨_, rfl⟩
  have hb : Below w.heap.size w w1 := by rw [hw1]; exact below_box _ _
  have HD := Lib.hid (show D4 w1 g 0 0 (.slice none 0 0) 0 by rw [hw1, hg]; exact ⟨by simp [go_sem], by simp [go_sem], by simp [go_sem], by simp [go_sem], fun o => by simp [go_sem]⟩)
  rw [← hw1, ← hg]
  have HB := Lib.hid hb
  have HG := Lib.hid (show w.heap.size ≤ g by omega)
  replace HT := Lib.hid (HT.out.below hb)
  replace HU := Lib.hid (HU.out.below hb)
  clear hb hw1 hg
  go_wp2_with fail
  refine (L1.out _ HT.out).mono ?_
  rintro e w2 ⟨rfl, hb⟩
  replace HB := Lib.hid (HB.out.trans (hb.mono HB.out.size))
  replace HD := Lib.hid (HD.out.below hb)
  replace HT := Lib.hid (HT.out.below hb)
  replace HU := Lib.hid (HU.out.below hb)
  rw [← HN.out]
  clear hb
  go_wp2_with fail
  refine (L2.out _ HU.out).mono ?_
  rintro e w3 ⟨rfl, hb⟩
  replace HB := Lib.hid (HB.out.trans (hb.mono HB.out.size))
  replace HD := Lib.hid (HD.out.below hb)
  replace HT := Lib.hid (HT.out.below hb)
  replace HU := Lib.hid (HU.out.below hb)
  rw [← HM.out]
  clear hb
  go_wp2_with fail
  refine (PX.out _ HT.out HU.out).mono ?_
  rintro e w4 ⟨p, rfl, hp, hb⟩
  replace HB := Lib.hid (HB.out.trans (hb.mono HB.out.size))
  replace HD := Lib.hid (HD.out.below hb)
  replace HT := Lib.hid (HT.out.below hb)
  replace HU := Lib.hid (HU.out.below hb)
  have HP := Lib.hid hp
  have p0 := hp.h0
  have p1 : p ≤ N := by rw [HN.out]; exact hp.h1
  have p2 : p ≤ M := by rw [HM.out]; exact hp.h2
  clear hb hp
  obtain ⟨k, hk⟩ : ∃ k, k = min N M := ⟨_, rfl⟩
  have HK := Lib.hid hk
  have k1 : k ≤ N := by omega
  have k2 : k ≤ M := by omega
  have k3 : p ≤ k := by omega
  clear hk
  go_upto_region 3 with fail
  apply wp_region_lit
  iterate 15 go_step
  rw [← HK.out]
  go_wp2_with fail
  refine (SX.out (k - p) _ HT.out HU.out (by omega) (by have := HN.out; omega) (by have := HM.out; omega)).mono ?_
  rintro e w5 ⟨s, rfl, hs, hb⟩
  replace HB := Lib.hid (HB.out.trans (hb.mono HB.out.size))
  replace HD := Lib.hid (HD.out.below hb)
  replace HU := Lib.hid (HU.out.below hb)
  have HS := Lib.hid hs
  have s0 := hs.h0
  have s1 := hs.h1
  clear hb hs HT
  obtain ⟨q, hq⟩ : ∃ q, q = N - s := ⟨_, rfl⟩
  obtain ⟨r, hr⟩ : ∃ r, r = M - s := ⟨_, rfl⟩
  have eq1 : N - s = q := hq.symm
  have er1 : M - s = r := hr.symm
  have HQR := Lib.hid (And.intro hq hr)
  have q0 : p ≤ q := by omega
  have q1 : q ≤ 2147483647 := by omega
  have r0 : p ≤ r := by omega
  have r1 : r ≤ 2147483647 := by omega
  have r2 : r ≤ M := by omega
  clear hq hr
  go_upto_region 5 with fail
  obtain ⟨w6, hw6⟩ : ∃ z, z = w5.alloc (.cells #[.int .i64 p, .int .i64 q, .slice none 0 0, .int .i64 0] 98) := ⟨_, rfl⟩
  obtain ⟨g2, hg2⟩ : ∃ g, g = w5.heap.size := ⟨_, rfl⟩
  have hb : Below w5.heap.size w5 w6 := by rw [hw6]; exact below_box _ _
  have HE := Lib.hid (show D4 w6 g2 p q (.slice none 0 0) 0 by rw [hw6, hg2]; exact ⟨by simp [go_sem], by simp [go_sem], by simp [go_sem], by simp [go_sem], fun o => by simp [go_sem]⟩)
  rw [← hw6, ← hg2]
  have HG2 := Lib.hid (show w.heap.size ≤ g2 ∧ g ≠ g2 by have := HB.out.size; have := HD.out.lt; omega)
  replace HB := Lib.hid (HB.out.trans (hb.mono HB.out.size))
  replace HD := Lib.hid (HD.out.below hb)
  replace HU := Lib.hid (HU.out.below hb)
  clear hb hw6 hg2
  go_wp2_with fail
  refine (PA.out p r _ HU.out p0 r0 (by have := HM.out; omega)).mono ?_
  rintro e w7 ⟨xv, rfl, ho, hb⟩
  obtain ⟨xa, xc, hxv, -⟩ := ho.tk
  have HO := Lib.hid ho
  have HLE := Lib.hid (And.intro HB.out.size (And.intro HD.out.lt HE.out.lt))
  replace HB := Lib.hid (HB.out.trans (hb.mono HB.out.size))
  replace HD := Lib.hid (HD.out.below hb)
  replace HE := Lib.hid (HE.out.below hb)
  clear hb ho
  obtain ⟨xn, hxn⟩ : ∃ k, k = (partL m p r).length := ⟨_, rfl⟩
  rw [← hxn] at hxv
  subst hxv
  clear hxn
  obtain ⟨e0, e1, e2, e3, ef⟩ := HE.out
  obtain ⟨d0, d1, d2, d3, df⟩ := HD.out
  have n1 := HG2.out.2
  have n2 : g2 ≠ g := Ne.symm n1
  go_wp2_with fail
  have hxp : partL m p r = if p = Trk.total m - (Trk.total n - q) then [] else Trk.cut m p (Trk.total m - (Trk.total n - q)) := by
    have h1 : r = Trk.total m - (Trk.total n - q) := by
      rw [← HN.out, ← HM.out]
      have := HQR.out
      omega
    rw [← h1]
    rfl
  have hdf : Trk.Diff n m p q (partL m p r) := by
    refine ⟨HP.out, ?_, hxp⟩
    have h1 : Trk.total n - q = s := by rw [← HN.out]; have := HQR.out; omega
    rw [h1, ← HN.out, ← HM.out, ← HK.out]
    exact HS.out
  have hg := HG.out
  have hg2 := HG2.out.1
  refine bodyPost_ret (results_diff (g := g) (p := p) (q := q) (x := .slice xa xn xc) (e := 0) Tryz.results49 rfl ?_) rfl ⟨p, q, _, _, rfl, hdf, ?_, ?_⟩
  · exact ⟨by simp [go_sem, d0, d1, d2, d3, df], by simp [go_sem, d0, d1, d2, d3, df], by simp [go_sem, d0, d1, d2, d3, df], by simp [go_sem, d0, d1, d2, d3, df], fun o => by simp [go_sem, df]⟩
  · obtain ⟨l1, l2, l3⟩ := HLE.out
    have h := HO.out
    exact ((((((h.far (p := ⟨g2, 2, none⟩) l3 _).far (p := ⟨g2, 3, none⟩) l3 _).far (p := ⟨g, 0, none⟩) l2 _).far (p := ⟨g, 1, none⟩) l2 _).far (p := ⟨g, 2, none⟩) l2 _).far (p := ⟨g, 3, none⟩) l2 _).lower l1
  · have h := HB.out
    exact (((((h.setCell (p := ⟨g2, 2, none⟩) hg2 _).setCell (p := ⟨g2, 3, none⟩) hg2 _).setCell (p := ⟨g, 0, none⟩) hg _).setCell (p := ⟨g, 1, none⟩) hg _).setCell (p := ⟨g, 2, none⟩) hg _).setCell (p := ⟨g, 3, none⟩) hg _
end Go.Proofs.YtfoohocgdcgbcaaGreat

/- The contract of Join. -/
namespace Go.Proofs.YtfoohocgdcgbcaaGreat
open Go.RowKit
set_option linter.unusedVariables false
set_option linter.unusedSimpArgs false
theorem idle72 (p q : Addr) (w : World) : CallsD Tryz.prog 72 #[.pointer (some p), .pointer (some q)] .returning w fun e u' w' => e = .returned (.tuple #[]) ∧ u' = .returning ∧ w' = w := by
  refine callsD_of_wpS Tryz.func72 rfl fun c₀ cs hu => ?_
  apply wpS_seq
  apply wpS_region
  simp [wpOpsS, go_sem, recoverD, hu, Tryz.ntmps72, Exit.thenS]
  refine wpS_cond (t := false) (by simp [Act.eval, Array.replicate]) ?_
  simp only [Bool.false_eq_true, if_false]
  refine wpS_of_wp (wp_skip ?_)
  cases c₀
  simp_all [bodyPostS, results, Tryz.results72]
/-- What Join answers where the lengths add up to a possible number. -/
def JoinPost (w : World) (a b : List Trk.Clip) (e : Ending) (w' : World) : Prop :=
  ∃ v' code, e = .returned (.tuple #[v', .int .i64 code]) ∧ (((Trk.pk (a ++ b)).length ≤ 64 ∧ code = 0 ∧ OT w' w.heap.size v' (Trk.pk (a ++ b))) ∨ (64 < (Trk.pk (a ++ b)).length ∧ code = 5 ∧ v' = .slice none 0 0)) ∧ Below w.heap.size w w'
set_option maxRecDepth 100000 in
set_option maxHeartbeats 8000000 in
theorem join_any {L : Int} (v u : Value) (a b : List Trk.Clip) (w : World) (h : Tk w v a) (h' : Tk w u b) (Va : VT L a) (Vb : VT L b) (hL : L ≤ 140737488355328) (ht : Trk.total a + Trk.total b ≤ 2147483647) :
    Calls Tryz.prog 32 #[v, u] w (JoinPost w a b) := by
  have HT := Lib.hid h
  have HU := Lib.hid h'
  have V1 := Lib.hid (fun (w : World) (h : Tk w v a) => vtrack_any v a w h Va hL)
  have V2 := Lib.hid (fun (w : World) (h : Tk w u b) => vtrack_any u b w h Vb hL)
  have T1 := Lib.hid (fun (w : World) (h : Tk w v a) => total_any v a w h Va.good (by have := Va.t; omega) (by have := Va.n; omega))
  have T2 := Lib.hid (fun (w : World) (h : Tk w u b) => total_any u b w h Vb.good (by have := Vb.t; omega) (by have := Vb.n; omega))
  have CC := Lib.hid (fun (b' o c : Nat) (w : World) (c1 : w.cell? ⟨b', o, none⟩ = some v) (c2 : w.cell? ⟨b', o + 1, none⟩ = some u) (h1 : Tk w v a) (h2 : Tk w u b) (hc : 2 ≤ c) => concat_two b' o c v u a b w c1 c2 h1 h2 hc (by have := Va.n; have := Vb.n; omega))
  have hO : ∀ c ∈ a ++ b, OkC c := fun c hc => VC.okC ((List.mem_append.1 hc).elim (Va.v c) (Vb.v c)) hL
  have PK := Lib.hid (fun (x : Value) (w : World) (h : Tk w x (a ++ b)) => pack_any x (a ++ b) w h hO (by have := Va.n; have := Vb.n; simp; omega) (by rw [Trk.total_append]; omega))
  have t0 := Trk.total_nonneg Va.good
  have t1 := Trk.total_nonneg Vb.good
  have la := Va.n
  have lb := Vb.n
  obtain ⟨ao, ca, rfl, -⟩ := h
  obtain ⟨bo, cb, rfl, -⟩ := h'
  clear Va Vb hO
  obtain ⟨A, hA⟩ : ∃ A, A = Trk.total a := ⟨_, rfl⟩
  obtain ⟨B, hB⟩ : ∃ B, B = Trk.total b := ⟨_, rfl⟩
  rw [← hA] at T1 t0 ht
  rw [← hB] at T2 t1 ht
  obtain ⟨na, hna⟩ : ∃ k, k = a.length := ⟨_, rfl⟩
  obtain ⟨nb, hnb⟩ : ∃ k, k = b.length := ⟨_, rfl⟩
  rw [← hna] at HT V1 T1 CC la ⊢
  rw [← hnb] at HU V2 T2 CC lb ⊢
  clear hA hB hna hnb
  obtain ⟨R, hR⟩ : ∃ R, R = Trk.pk (a ++ b) := ⟨_, rfl⟩
  rw [← hR] at PK
  unfold JoinPost
  rw [← hR]
  clear hR
  go_enter_defers Tryz.func32, Tryz.ntmps32
  go_upto_region 2 with fail
  obtain ⟨w1, hw1⟩ : ∃ x, x = (w.alloc (.cells #[.slice none 0 0] 23)).alloc (.cells #[.int .i64 0] 30) := ⟨_, rfl⟩
  rw [← hw1]
  have hE1 : Below w.heap.size w w1 := by rw [hw1]; go_grown
  obtain ⟨g1, hg1⟩ : ∃ g, g = w.heap.size := ⟨_, rfl⟩
  obtain ⟨g2, hg2⟩ : ∃ g, g = w.heap.size + 1 := ⟨_, rfl⟩
  have hr : RV w1 g1 g2 (.slice none 0 0) (.int .i64 0) := by rw [hw1, hg1, hg2]; constructor <;> simp [go_sem]
  have hz : w1.heap.size = g2 + 1 := by rw [hw1, hg2]; simp [go_sem]
  rw [← hg2, ← hg1]
  have hn1 : w.heap.size ≤ g1 := by omega
  have hn2 : w.heap.size ≤ g2 := by omega
  have h12 : g1 < g2 := by omega
  have HR := Lib.hid hr
  have HB := Lib.hid hE1
  have HS := Lib.hid (Nat.le_of_eq hz.symm)
  clear hw1 hE1 hg1 hg2 hr hz
  go_wp2_with fail
  refine (V1.out _ (HT.out.below HB.out)).mono ?_
  rintro e w2 ⟨rfl, hb⟩
  replace HR := Lib.hid (HR.out.up hb)
  replace HB := Lib.hid (HB.out.trans (hb.mono HB.out.size))
  replace HS := Lib.hid (Nat.le_trans HS.out hb.size)
  clear hb V1
  go_wp2_with fail
  refine (V2.out _ (HU.out.below HB.out)).mono ?_
  rintro e w3 ⟨rfl, hb⟩
  replace HR := Lib.hid (HR.out.up hb)
  replace HB := Lib.hid (HB.out.trans (hb.mono HB.out.size))
  replace HS := Lib.hid (Nat.le_trans HS.out hb.size)
  clear hb V2
  go_wp2_with fail
  refine (T1.out _ (HT.out.below HB.out)).mono ?_
  rintro e w4 ⟨rfl, hb⟩
  replace HR := Lib.hid (HR.out.up hb)
  replace HB := Lib.hid (HB.out.trans (hb.mono HB.out.size))
  replace HS := Lib.hid (Nat.le_trans HS.out hb.size)
  clear hb T1
  go_wp2_with fail
  refine (T2.out _ (HU.out.below HB.out)).mono ?_
  rintro e w5 ⟨rfl, hb⟩
  replace HR := Lib.hid (HR.out.up hb)
  replace HB := Lib.hid (HB.out.trans (hb.mono HB.out.size))
  replace HS := Lib.hid (Nat.le_trans HS.out hb.size)
  clear hb T2
  have hte : ¬ 2147483647 < A + B := by omega
  go_upto_region 6 with fail
  apply wp_region_lit
  iterate 6 go_step
  refine Great.wpList_buildSliceTo rfl 68 23 2 #[(0, .tmp 21), (1, .tmp 22)] rfl w5.heap.size rfl (some 23) rfl Tryz.underlying68 #[.slice ao na ca, .slice bo nb cb] ?_ ?_
  · simp only [List.map_toArray, List.map_cons, List.map_nil, List.toList_toArray]
    kernel_rfl
  have hb := below_box w5 (.cells #[.slice ao na ca, .slice bo nb cb] 23)
  have hx1 : (w5.alloc (.cells #[.slice ao na ca, .slice bo nb cb] 23)).cell? ⟨w5.heap.size, 0, none⟩ = some (.slice ao na ca) := by simp [go_sem]
  have hx2 : (w5.alloc (.cells #[.slice ao na ca, .slice bo nb cb] 23)).cell? ⟨w5.heap.size, 0 + 1, none⟩ = some (.slice bo nb cb) := by simp [go_sem]
  obtain ⟨w6, hw6⟩ : ∃ x, x = w5.alloc (.cells #[.slice ao na ca, .slice bo nb cb] 23) := ⟨_, rfl⟩
  rw [← hw6] at hb hx1 hx2 ⊢
  obtain ⟨g5, hg5⟩ : ∃ x, x = w5.heap.size := ⟨_, rfl⟩
  rw [← hg5] at hx1 hx2 ⊢
  have HX := Lib.hid (And.intro hx1 hx2)
  replace HR := Lib.hid (HR.out.up hb)
  replace HB := Lib.hid (HB.out.trans (hb.mono HB.out.size))
  replace HS := Lib.hid (Nat.le_trans HS.out hb.size)
  clear hb hx1 hx2 hw6 hg5
  go_wp2_with fail
  refine (CC.out g5 0 2 _ HX.out.1 HX.out.2 (HT.out.below HB.out) (HU.out.below HB.out) (Nat.le_refl _)).mono ?_
  rintro e w7 ⟨x7, rfl, ho, hb⟩
  obtain ⟨xa, xc, hx7, -⟩ := ho.tk
  obtain ⟨nx, hnx⟩ : ∃ k, k = (a ++ b).length := ⟨_, rfl⟩
  rw [← hnx] at hx7
  subst hx7
  clear hnx
  replace HR := Lib.hid (HR.out.up hb)
  replace HB := Lib.hid (HB.out.trans (hb.mono HB.out.size))
  replace HS := Lib.hid (Nat.le_trans HS.out hb.size)
  have HO := Lib.hid ho.tk
  clear hb ho HX CC
  go_wp2_with fail
  refine (PK.out _ _ HO.out).mono ?_
  rintro e w8 ⟨x8, rfl, ho, hb⟩
  obtain ⟨ya, yc, hx8, -⟩ := ho.tk
  have HQ := Lib.hid (ho.lower HS.out)
  replace HR := Lib.hid (HR.out.up hb)
  replace HB := Lib.hid (HB.out.trans (hb.mono HB.out.size))
  clear hb ho PK
  obtain ⟨nr, hnr⟩ : ∃ nr, nr = R.length := ⟨_, rfl⟩
  rw [← hnr] at hx8
  subst hx8
  have HNR := Lib.hid hnr
  clear hnr HO
  have r1 := HR.out.c1
  have r2 := HR.out.f1
  have r3 := HR.out.c2
  have r4 := HR.out.f2
  have n12 : g1 ≠ g2 := by omega
  have n21 : g2 ≠ g1 := by omega
  by_cases hle : nr ≤ 64
  · have hz : ¬ (64 : Int) < (nr : Int) := by omega
    go_wp2_with fail
    refine leaves_cons (f := 72) (args := #[.pointer (some ⟨g1, 0, none⟩), .pointer (some ⟨g2, 0, none⟩)]) (by simp) (by simp [go_sem]) ?_
    refine (idle72 _ _ _).mono ?_
    rintro e u' w'' ⟨rfl, rfl, rfl⟩
    simp [Leaves, settle, results, Tryz.results32, go_sem, r1, r3, n12, n21]
    exact ⟨_, _, ⟨rfl, rfl⟩, .inl ⟨by rw [← HNR.out]; exact hle, rfl, (((HQ.out.far (p := ⟨g1, 0, none⟩) (by show g1 < g2 + 1; omega) _).far (p := ⟨g1, 0, none⟩) (by show g1 < g2 + 1; omega) _).far (p := ⟨g2, 0, none⟩) (by show g2 < g2 + 1; omega) _).lower (by omega)⟩,
      ((HB.out.setCell (p := ⟨g1, 0, none⟩) hn1 _).setCell (p := ⟨g1, 0, none⟩) hn1 _).setCell (p := ⟨g2, 0, none⟩) hn2 _⟩
  · have hz : (64 : Int) < (nr : Int) := by omega
    go_wp2_with fail
    refine leaves_cons (f := 72) (args := #[.pointer (some ⟨g1, 0, none⟩), .pointer (some ⟨g2, 0, none⟩)]) (by simp) (by simp [go_sem]) ?_
    refine (idle72 _ _ _).mono ?_
    rintro e u' w'' ⟨rfl, rfl, rfl⟩
    simp [Leaves, settle, results, Tryz.results32, go_sem, r1, r3, n12, n21]
    exact ⟨_, _, ⟨rfl, rfl⟩, .inr ⟨by rw [← HNR.out]; omega, rfl, rfl⟩,
      ((HB.out.setCell (p := ⟨g1, 0, none⟩) hn1 _).setCell (p := ⟨g1, 0, none⟩) hn1 _).setCell (p := ⟨g2, 0, none⟩) hn2 _⟩
end Go.Proofs.YtfoohocgdcgbcaaGreat

/- The contract of Change. -/
namespace Go.Proofs.YtfoohocgdcgbcaaGreat
open Go.RowKit
set_option linter.unusedVariables false
set_option linter.unusedSimpArgs false
def ChgPost (w : World) (n m : List Trk.Clip) (e : Ending) (w' : World) : Prop :=
  ∃ p q xv x ok, e = .returned (.tuple #[.int .i64 p, .int .i64 q, xv, .bool ok]) ∧ ((ok = false ∧ Trk.nf n = Trk.nf m ∧ p = 0 ∧ q = 0 ∧ x = []) ∨ (ok = true ∧ Trk.nf n ≠ Trk.nf m ∧ Trk.Diff (Trk.nf n) (Trk.nf m) p q x)) ∧ OT w' w.heap.size xv x ∧ Below w.heap.size w w'
set_option maxRecDepth 100000 in
set_option maxHeartbeats 8000000 in
theorem change_any {L : Int} (v u : Value) (n m : List Trk.Clip) (w : World) (h : Tk w v n) (h' : Tk w u m) (Vn : VT L n) (Vm : VT L m) (hL : L ≤ 140737488355328) :
    Calls Tryz.prog 27 #[v, u] w (ChgPost w n m) := by
  have HT := Lib.hid h
  have HU := Lib.hid h'
  have V1 := Lib.hid (fun (w : World) (h : Tk w v n) => vtrack_any v n w h Vn hL)
  have V2 := Lib.hid (fun (w : World) (h : Tk w u m) => vtrack_any u m w h Vm hL)
  have S1 := Lib.hid (fun (w : World) (h : Tk w v n) (h' : Tk w u m) => same_any v u n m w h h' Vn Vm hL)
  have N1 := Lib.hid (fun (w : World) (h : Tk w v n) => normal_any v n w h Vn hL)
  have N2 := Lib.hid (fun (w : World) (h : Tk w u m) => normal_any u m w h Vm hL)
  have CM := Lib.hid (fun (v u : Value) (w : World) (h : Tk w v (Trk.nf n)) (h' : Tk w u (Trk.nf m)) => compare_any v u _ _ w h h' (nf_vt Vn) (nf_vt Vm) hL)
  have CL := Lib.hid (fun (p q : Int) (x : List Trk.Clip) (v : Value) (w : World) (hd : Trk.Diff (Trk.nf n) (Trk.nf m) p q x) (h : Tk w v x) => clonetrack_any v x w h (by have := hd.len (nf_vt Vm).good; have := (nf_vt Vm).n; omega))
  obtain ⟨ao, ca, rfl, -⟩ := h
  obtain ⟨bo, cb, rfl, -⟩ := h'
  clear Vn Vm
  obtain ⟨ln, hln⟩ : ∃ k, k = n.length := ⟨_, rfl⟩
  obtain ⟨lm, hlm⟩ : ∃ k, k = m.length := ⟨_, rfl⟩
  rw [← hln] at HT V1 S1 N1 ⊢
  rw [← hlm] at HU V2 S1 N2 ⊢
  clear hln hlm
  go_enter Tryz.func27, Tryz.ntmps27
  go_wp2_with fail
  refine (V1.out _ HT.out).mono ?_
  rintro e w1 ⟨rfl, hb⟩
  have HB := Lib.hid hb
  clear hb
  go_wp2_with fail
  refine (V2.out _ (HU.out.below HB.out)).mono ?_
  rintro e w2 ⟨rfl, hb⟩
  replace HB := Lib.hid (HB.out.trans (hb.mono HB.out.size))
  clear hb
  go_wp2_with fail
  refine (S1.out _ (HT.out.below HB.out) (HU.out.below HB.out)).mono ?_
  rintro e w3 ⟨rfl, hb⟩
  replace HB := Lib.hid (HB.out.trans (hb.mono HB.out.size))
  clear hb
  by_cases hs : Trk.nf n = Trk.nf m
  · have HS := Lib.hid hs
    rw [decide_eq_true hs]
    clear hs
    go_wp2_with fail
    go_returns
    exact ⟨0, 0, .slice none 0 0, [], false, rfl, .inl ⟨rfl, HS.out, rfl, rfl, rfl⟩, OT.nil _ _, HB.out⟩
  have HS := Lib.hid hs
  rw [decide_eq_false hs]
  clear hs
  go_wp2_with fail
  refine (N1.out _ (HT.out.below HB.out)).mono ?_
  rintro e w4 ⟨x4, rfl, ho, hb⟩
  have H4 := Lib.hid ho.tk
  replace HB := Lib.hid (HB.out.trans (hb.mono HB.out.size))
  clear hb ho
  go_wp2_with fail
  refine (N2.out _ (HU.out.below HB.out)).mono ?_
  rintro e w5 ⟨x5, rfl, ho, hb⟩
  have H5 := Lib.hid ho.tk
  replace H4 := Lib.hid (H4.out.below hb)
  replace HB := Lib.hid (HB.out.trans (hb.mono HB.out.size))
  clear hb ho
  go_wp2_with fail
  refine (CM.out _ _ _ H4.out H5.out).mono ?_
  rintro e w6 ⟨p, q, x, xv, rfl, hd, ho, hb⟩
  have H6 := Lib.hid ho.tk
  have HD := Lib.hid hd
  replace HB := Lib.hid (HB.out.trans (hb.mono HB.out.size))
  obtain ⟨xa, xc, hxv, -⟩ := ho.tk
  obtain ⟨xn, hxn⟩ : ∃ k, k = x.length := ⟨_, rfl⟩
  rw [← hxn] at hxv
  subst hxv
  clear hb ho hd hxn H4 H5 V1 V2 S1 N1 N2 CM
  go_upto_region 4 with fail
  obtain ⟨w7, hw7⟩ : ∃ z, z = w6.alloc (.cells #[.int .i64 p, .int .i64 q, .slice xa xn xc, .int .i64 0] 98) := ⟨_, rfl⟩
  obtain ⟨g, hg⟩ : ∃ g, g = w6.heap.size := ⟨_, rfl⟩
  have hb : Below w6.heap.size w6 w7 := by rw [hw7]; exact below_box _ _
  have HE := Lib.hid (show D4 w7 g p q (.slice xa xn xc) 0 by rw [hw7, hg]; exact ⟨by simp [go_sem], by simp [go_sem], by simp [go_sem], by simp [go_sem], fun o => by simp [go_sem]⟩)
  rw [← hw7, ← hg]
  replace H6 := Lib.hid (H6.out.below hb)
  replace HB := Lib.hid (HB.out.trans (hb.mono HB.out.size))
  clear hb hw7 hg
  refine Plan.wp_region_plan (fun w' => D4 w' g p q (.slice xa xn xc) 0) (([0, 1, 2, 3, 4, 5].map (·, true)) ++ (([6].map (·, false)) ++ ([7, 8, 9, 10].map (·, true)))) (by kernel_rfl) (by kernel_rfl) (by kernel_rfl) (HE.out.below (Below.refl _ _).drew) ?_
  refine' Plan.plan_seg _ [0, 1, 2, 3, 4, 5] (([6].map (·, false)) ++ ([7, 8, 9, 10].map (·, true))) (by kernel_rfl) (by kernel_rfl) rfl (by exact HE.out.below (Below.refl _ _).drew) (fun wx hS => ?_) ?_
  rotate_left
  · obtain ⟨e0, e1, e2, e3, ef⟩ := hS
    go_light
    iterate 6 (apply Plan.seg_pick; rfl; intro K hK; go_wp)
    exact Plan.seg_nil
  obtain ⟨w8, hw8⟩ : ∃ x, x = w7.drew := ⟨_, rfl⟩
  rw [← hw8]
  have hb : Below w7.heap.size w7 w8 := by rw [hw8]; exact (Below.refl _ _).drew
  replace HE := Lib.hid (HE.out.below hb)
  replace H6 := Lib.hid (H6.out.below hb)
  replace HB := Lib.hid (HB.out.trans (hb.mono HB.out.size))
  clear hb hw8
  refine Plan.plan_of_effect rfl (fun K hK => ?_)
  go_wp2_with fail
  refine (CL.out p q x _ _ HD.out H6.out).mono ?_
  rintro e w9 ⟨v9, rfl, ho, hb⟩
  have HO := Lib.hid (ho.lower HB.out.size)
  replace HE := Lib.hid (HE.out.below hb)
  replace HB := Lib.hid (HB.out.trans (hb.mono HB.out.size))
  clear hb ho
  go_wp2_with fail
  refine ⟨HE.out, ?_⟩
  refine' Plan.plan_seg _ [7, 8, 9, 10] [] (by kernel_rfl) (by kernel_rfl) rfl (by exact HE.out) (fun wx hS => ?_) ?_
  rotate_left
  · clear hS
    go_light
    iterate 4 (apply Plan.seg_pick; rfl; intro K hK; go_wp)
    exact Plan.seg_nil
  refine Plan.plan_done ?_
  go_wp2_with fail
  go_returns
  exact ⟨p, q, _, x, true, rfl, .inr ⟨rfl, HS.out, HD.out⟩, HO.out, HB.out⟩
end Go.Proofs.YtfoohocgdcgbcaaGreat

/- The law of replacing. -/
namespace Go.Proofs.YtfoohocgdcgbcaaGreat
open Go.RowKit
set_option linter.unusedVariables false
set_option linter.unusedSimpArgs false
theorem cut_vt {L : Int} {l : List Trk.Clip} (h : VT L l) {a b : Int} (a0 : 0 ≤ a) (ab : a ≤ b) (b1 : b ≤ Trk.total l) : VT L (Trk.cut l a b) := by
  have ht := h.t
  refine ⟨Trk.cut_vl h.v a0 ab (by omega), Nat.le_trans (Trk.cut_len h.good a0 ab b1) h.n, ?_⟩
  rw [(Trk.cut_of h.good a0 ab).t]
  omega
theorem diff_vt {L : Int} {n m x : List Trk.Clip} {p q : Int} (h : Trk.Diff n m p q x) (hm : VT L m) : VT L x := by
  have ht := h.total hm.good
  obtain ⟨h0, h1, h2, h3, h4⟩ := h.le
  have := hm.t
  exact ⟨h.vl hm.v hm.t, Nat.le_trans (h.len hm.good) hm.n, by omega⟩
set_option maxRecDepth 100000 in
set_option maxHeartbeats 16000000 in
theorem law_replaces (v : Value) (w : World) (h : Ints w v) : Calls Tryz.prog 9 #[v] w fun e w' => e = .returned (.bool true) ∧ Below w.heap.size w w' := by
  have H3 := Lib.hid (three_any v w h)
  clear h
  go_enter Tryz.func9, Tryz.ntmps9
  go_wp2_with fail
  refine H3.out.mono ?_
  rintro e w1 ⟨vt, va, vb, n, m, m2, rfl, hol, hom, -, hn, hm, -, hb⟩
  have HT := Lib.hid hol.tk
  have HA := Lib.hid hom.tk
  have VN := Lib.hid hn.vtk
  have VM := Lib.hid hm.vtk
  have HNN := Lib.hid (And.intro hn.n hm.n)
  have HB := Lib.hid hb
  clear hol hom hn hm hb H3
  go_wp2_with fail
  refine (change_any _ _ _ _ _ HT.out HA.out VN.out VM.out (by decide)).mono ?_
  rintro e w2 ⟨p, q, xv, x, ok, rfl, hd, ho, hb⟩
  have HX := Lib.hid ho.tk
  have HD := Lib.hid hd
  replace HT := Lib.hid (HT.out.below hb)
  replace HA := Lib.hid (HA.out.below hb)
  replace HB := Lib.hid (HB.out.trans (hb.mono HB.out.size))
  clear hb ho hd
  rw [HNN.out.1.nf, HNN.out.2.nf] at HD
  cases ok with
  | false =>
    have hs : n = m := by
      rcases HD.out with h | h
      · exact h.2.1
      · exact absurd h.1 (by decide)
    have S1 := Lib.hid (fun w h h' => same_any (L := Lk 3) vt va n m w h h' VN.out VM.out (by decide))
    rw [decide_eq_true (congrArg Trk.nf hs)] at S1
    clear hs
    go_wp2_with fail
    refine (S1.out _ HT.out HA.out).mono ?_
    rintro e w3 ⟨rfl, hb⟩
    replace HB := Lib.hid (HB.out.trans (hb.mono HB.out.size))
    clear hb
    go_wp2_with fail
    refine (awake_any _).mono ?_
    rintro e w4 ⟨rfl, hb⟩
    replace HB := Lib.hid (HB.out.trans (hb.mono HB.out.size))
    clear hb
    go_wp2_with fail
    go_ret
    exact ⟨rfl, HB.out⟩
  | true =>
    have hd : Trk.Diff n m p q x := by
      rcases HD.out with h | h
      · exact absurd h.1 (by decide)
      · exact h.2.2
    obtain ⟨h0, h1, h2, h3, h4⟩ := hd.le
    have VX := Lib.hid (diff_vt hd VM.out)
    have VA := Lib.hid (cut_vt VN.out (Int.le_refl 0) h0 (by omega))
    have VR := Lib.hid (cut_vt VN.out (show 0 ≤ q by omega) h2 (Int.le_refl _))
    obtain ⟨e1, e2⟩ := hd.back VN.out.good VM.out.good HNN.out.2.p
    have htx := hd.total VM.out.good
    have hx0 := Trk.total_nonneg VX.out.good
    have VU := Lib.hid (cut_vt VM.out (Int.le_refl 0) (show 0 ≤ p + Trk.total x by omega) (by omega))
    have tn := VN.out.t
    have tm := VM.out.t
    have J1 := Lib.hid (fun a w h h' => join_any (L := Lk 3) a xv (Trk.cut n 0 p) x w h h' VA.out VX.out (by decide) (by rw [(Trk.cut_of VN.out.good (Int.le_refl 0) h0).t]; omega))
    have J2 := Lib.hid (fun a b w h h' => join_any (L := Lk 3) a b (Trk.cut m 0 (p + Trk.total x)) (Trk.cut n q (Trk.total n)) w h h' VU.out VR.out (by decide) (by rw [(Trk.cut_of VM.out.good (Int.le_refl 0) (show 0 ≤ p + Trk.total x by omega)).t, (Trk.cut_of VN.out.good (show 0 ≤ q by omega) h2).t]; omega))
    unfold JoinPost at J1 J2
    rw [e1] at J1
    rw [e2] at J2
    have C1 := Lib.hid (fun w h => cut_any (L := Lk 3) vt n 0 p w h VN.out (by decide) (Int.le_refl 0) h0 (by omega) VA.out.n)
    have C2 := Lib.hid (fun w h => cut_any (L := Lk 3) vt n q (Trk.total n) w h VN.out (by decide) (show 0 ≤ q by omega) h2 (by omega) VR.out.n)
    have LN := Lib.hid (fun w h => length_any (L := Lk 3) vt n w h VN.out (by decide))
    have S1 := Lib.hid (fun a w h h' => same_any (L := Lk 3) a va m m w h h' VM.out VM.out (by decide))
    rw [decide_eq_true rfl] at S1
    have UL := Lib.hid VU.out.n
    have ML := Lib.hid VM.out.n
    obtain ⟨N, hN⟩ : ∃ N, N = Trk.total n := ⟨_, rfl⟩
    rw [← hN] at C2 LN J2 h2 tn
    clear hN hd h3 h4 htx hx0 tm e1 e2 HD
    go_wp2_with fail
    refine (C1.out _ HT.out).mono ?_
    rintro e w3 ⟨v3, rfl, ho, hb⟩
    have H3 := Lib.hid ho.tk
    replace HT := Lib.hid (HT.out.below hb)
    replace HA := Lib.hid (HA.out.below hb)
    replace HX := Lib.hid (HX.out.below hb)
    replace HB := Lib.hid (HB.out.trans (hb.mono HB.out.size))
    clear hb ho
    go_wp2_with fail
    refine (LN.out _ HT.out).mono ?_
    rintro e w4 ⟨rfl, hb⟩
    replace H3 := Lib.hid (H3.out.below hb)
    replace HT := Lib.hid (HT.out.below hb)
    replace HA := Lib.hid (HA.out.below hb)
    replace HX := Lib.hid (HX.out.below hb)
    replace HB := Lib.hid (HB.out.trans (hb.mono HB.out.size))
    clear hb
    have hmx : max q N = N := by omega
    dsimp only
    iterate 5 go_step
    clear hmx
    go_wp2_with fail
    refine (C2.out _ HT.out).mono ?_
    rintro e w5 ⟨v5, rfl, ho, hb⟩
    have H5 := Lib.hid ho.tk
    replace H3 := Lib.hid (H3.out.below hb)
    replace HA := Lib.hid (HA.out.below hb)
    replace HX := Lib.hid (HX.out.below hb)
    replace HB := Lib.hid (HB.out.trans (hb.mono HB.out.size))
    clear hb ho HT C1 C2 LN
    go_wp2_with fail
    refine (J1.out _ _ H3.out HX.out).mono ?_
    rintro e w6 ⟨v6, c6, rfl, hj, hb⟩
    obtain ⟨rfl, ho⟩ : c6 = 0 ∧ OT w6 w5.heap.size v6 (Trk.cut m 0 (p + Trk.total x)) := by
      rcases hj with h | h
      · exact h.2
      · have := UL.out; omega
    have H6 := Lib.hid ho.tk
    replace H5 := Lib.hid (H5.out.below hb)
    replace HA := Lib.hid (HA.out.below hb)
    replace HB := Lib.hid (HB.out.trans (hb.mono HB.out.size))
    clear hb ho hj H3 HX J1
    go_wp2_with fail
    refine (J2.out _ _ _ H6.out H5.out).mono ?_
    rintro e w7 ⟨v7, c7, rfl, hj, hb⟩
    obtain ⟨rfl, ho⟩ : c7 = 0 ∧ OT w7 w6.heap.size v7 m := by
      rcases hj with h | h
      · exact h.2
      · have := ML.out; omega
    have H7 := Lib.hid ho.tk
    replace HA := Lib.hid (HA.out.below hb)
    replace HB := Lib.hid (HB.out.trans (hb.mono HB.out.size))
    clear hb ho hj H5 H6 J2
    go_wp2_with fail
    refine (S1.out _ _ H7.out HA.out).mono ?_
    rintro e w8 ⟨rfl, hb⟩
    replace HB := Lib.hid (HB.out.trans (hb.mono HB.out.size))
    clear hb H7 HA S1
    go_wp2_with fail
    refine (awake_any _).mono ?_
    rintro e w9 ⟨rfl, hb⟩
    replace HB := Lib.hid (HB.out.trans (hb.mono HB.out.size))
    clear hb
    go_wp2_with fail
    go_ret
    exact ⟨rfl, HB.out⟩
end Go.Proofs.YtfoohocgdcgbcaaGreat


namespace Go.Proofs.YtfoohocgdcgbcaaGreat.binReplaces
open Go.ChangeShapes Go.WideShapes Go.ChangeAt Go.RowKit
set_option linter.unusedVariables false

theorem own : ownKnob Tryz.prog.godebug = none := by kernel_rfl

set_option maxRecDepth 100000 in
theorem lifted (os : Os) (started : os.Started) (H : Type) (enc : TypeId × Value → H) :
    ReturnsInHanded {} Tryz.checked os 9 .any (Rows.binReplacesSpec.pre6 enc Tryz.prog Tryz.f9 Rows.binReplacesRow.domain false) (Rows.binReplacesSpec.post enc Tryz.prog Tryz.f9 false true false false) := by
  refine returnsInHanded_of_change (C := Tryz.checked) own started (by kernel_rfl) Tryz.func9
    (ChangeSpec.witness6 (enc := enc) (C := Tryz.checked) false ⟨#[], #[.slice none 0 0], []⟩ 8 (by kernel_rfl) (by kernel_rfl) (by kernel_rfl) (by kernel_rfl)) ?_
  intro W base args ds gs before hval0 hW hcnd _
  have hval : ∀ (j : Nat) t v, Tryz.f9.params[j]? = some t → args[j]? = some v → Value.okWide Tryz.prog W .any base t v := hval0
  have hW' := hW
  obtain ⟨p, q, hA0, hV, rfl, hfz, hnd⟩ := hW
  have hA : DataW.TrodAll enc Tryz.prog W 0 (fun _ => true) true Tryz.f9.params.toList args.toList ds p := hA0
  have hAk := hA
  rw [Tryz.params9] at hA hval
  obtain ⟨v0, vs0, d0, ds0, p0, q0, hargs, rfl, rfl, h0, r0⟩ := trodAll_cons hA
  obtain ⟨rfl, rfl, rfl⟩ := trodAll_nil r0
  obtain rfl : args = #[v0] := by cases args; simp_all
  obtain ⟨rfl, rfl⟩ := trodVars_none hV
  have hr0 := open_tape (hval 0 24 v0 rfl rfl) h0
  simp only [List.append_nil] at hW' hAk
  refine (law_replaces v0 W hr0).mono fun e W' ⟨he, hg⟩ => ?_
  subst he
  exact ⟨_, rfl, post_of_below (pv := []) hW' (fun _ _ _ => (trodAll_cons_mk (shut_bool Tryz.underlying4 _) trodAll_mk0)) (fun sp hsp => trodAll_stays laid_out hg (by kernel_rfl) hAk (fun x hx => hW'.lt x (by simpa using hx)) (fun x hx => hsp x (by simpa using hx))) (fun _ _ => rfl) (by simp)
    hg (ok_one (by kernel_rfl) rfl (okWide_bool_mk Tryz.underlying4 _))⟩

theorem over : Rows.binReplacesRow.holds Tryz.pinned (OpenSpec.ofChange Rows.binReplacesSpec) :=
  OpenClaim.holds_of_wide 9 Tryz.f9 rfl rfl rfl rfl rfl rfl rfl ⟨rfl, rfl, rfl, rfl, rfl⟩ rfl rfl rfl rfl rfl (by kernel_rfl) Tryz.func9 (by kernel_rfl)
    (of_decide_eq_true (by kernel_rfl)) (by unfold Func.isWrapper; first | (rw [if_pos (by decide +kernel)]; kernel_rfl) | (rw [if_neg (by decide +kernel)]; exact ⟨rfl, rfl⟩))
    (fun os started H enc _ => lifted os started H enc)

/-- The statement. -/
theorem proved : Rows.BinReplacesSaid :=
  over
end Go.Proofs.YtfoohocgdcgbcaaGreat.binReplaces
