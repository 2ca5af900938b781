/- Rows.EditsNormalSaid is proved here, for every input; the walk is law_normal. -/
import Derived.Test.YtnmkcpgcdjhdjaaRows
import Derived.WalkKit
import Derived.ProofKit
import Derived.OpenShut
import Derived.Test.YtnmkcpgcdjhdjaaCo00
import Derived.Test.YtnmkcpgcdjhdjaaEx12
import Derived.Test.YtnmkcpgcdjhdjaaRe00
set_option linter.unusedVariables false
set_option linter.unusedSimpArgs false

/- The contract of the tape's Edit. -/
namespace Go.Proofs.Ytnmkcpgcdjhdjaa
open Go.RowKit
set_option linter.unusedVariables false
set_option linter.unusedSimpArgs false
/-- While the tape's Edit is made: the tape, the edit in block g5, the result in block g4. -/
structure EV (w wc : World) (B p kc g4 g5 : Nat) (k a m c d sn sd : Int) (V : Value) : Prop where
  t : TP wc B p kc
  u : Turn p w wc
  e : ED wc g5 k a m c d sn sd V
  z : ED wc g4 0 0 0 0 0 0 0 (.slice none 0 0)
  p : p < w.heap.size
  q4 : w.heap.size ≤ g4
  q5 : w.heap.size ≤ g5
  n : g4 ≠ g5
theorem EV.turn {w wc wd : World} {B p kc kd g4 g5 : Nat} {k a m c d sn sd : Int} {V : Value} (h : EV w wc B p kc g4 g5 k a m c d sn sd V) (ht : Turn p wc wd) (hT : TP wd B p kd) : EV w wd B p kd g4 g5 k a m c d sn sd V :=
  ⟨hT, h.u.trans ht, ht.ed (by have := h.p; have := h.q5; omega) h.e, ht.ed (by have := h.p; have := h.q4; omega) h.z, h.p, h.q4, h.q5, h.n⟩
theorem EV.low {w wc wd : World} {B p kc g4 g5 n : Nat} {k a m c d sn sd : Int} {V : Value} (h : EV w wc B p kc g4 g5 k a m c d sn sd V) (hb : Below n wc wd) (h4 : g4 < n) (h5 : g5 < n) : EV w wd B p kc g4 g5 k a m c d sn sd V := by
  have hB := h.t.1
  have hp := h.p
  have h4' := h.q4
  refine ⟨h.t.low (n := n) (by omega) (by omega) hb, ⟨Nat.le_trans h.u.s hb.size, fun b hb' hne => (hb.block b (by omega)).trans (h.u.o b hb' hne), fun q w0 hq hb0 => ?_⟩, h.e.lim hb h5, h.z.lim hb h4, h.p, h.q4, h.q5, h.n⟩
  exact (h.u.b q w0 hq hb0).trans (hb.mono (by omega))
theorem EV.set {w wc wd : World} {B p kc g4 g5 : Nat} {k a m c d sn sd k' a' m' c' d' sn' sd' : Int} {V V' : Value} (h : EV w wc B p kc g4 g5 k a m c d sn sd V) (ht : Turn g5 wc wd) (he : ED wd g5 k' a' m' c' d' sn' sd' V') : EV w wd B p kc g4 g5 k' a' m' c' d' sn' sd' V' := by
  have hp := h.p
  have h5 := h.q5
  have hB := h.t.1
  exact ⟨h.t.turn ht (by omega) (by omega), h.u.into h5 (by omega) ht, he, ht.ed h.n h.z, h.p, h.q4, h.q5, h.n⟩
theorem ED.set3 {w : World} {b : Nat} {k p n c d sn sd : Int} {v : Value} (h : ED w b k p n c d sn sd v) (x : Int) : ED (w.setCell ⟨b, 3, none⟩ (.int .i64 x)) b k p n x d sn sd v := by
  obtain ⟨x0, x1, x2, x3, x4, x5, x6, x7, f⟩ := h
  exact ⟨by simp [go_sem, x0], by simp [go_sem, x1], by simp [go_sem, x2], by simp [go_sem, x3], by simp [go_sem, x4], by simp [go_sem, x5], by simp [go_sem, x6], by simp [go_sem, x7], fun o => (World.frozen?_setCell ..).trans (f o)⟩
theorem ED.set4 {w : World} {b : Nat} {k p n c d sn sd : Int} {v : Value} (h : ED w b k p n c d sn sd v) (x : Int) : ED (w.setCell ⟨b, 4, none⟩ (.int .i64 x)) b k p n c x sn sd v := by
  obtain ⟨x0, x1, x2, x3, x4, x5, x6, x7, f⟩ := h
  exact ⟨by simp [go_sem, x0], by simp [go_sem, x1], by simp [go_sem, x2], by simp [go_sem, x3], by simp [go_sem, x4], by simp [go_sem, x5], by simp [go_sem, x6], by simp [go_sem, x7], fun o => (World.frozen?_setCell ..).trans (f o)⟩
theorem ED.set56 {w : World} {b : Nat} {k p n c d sn sd : Int} {v : Value} (h : ED w b k p n c d sn sd v) (x y : Int) : ED ((w.setCell ⟨b, 5, none⟩ (.int .i64 x)).setCell ⟨b, 6, none⟩ (.int .i64 y)) b k p n c d x y v := by
  obtain ⟨x0, x1, x2, x3, x4, x5, x6, x7, f⟩ := h
  exact ⟨by simp [go_sem, x0], by simp [go_sem, x1], by simp [go_sem, x2], by simp [go_sem, x3], by simp [go_sem, x4], by simp [go_sem, x5], by simp [go_sem, x6], by simp [go_sem, x7], fun o => ((World.frozen?_setCell ..).trans (World.frozen?_setCell ..)).trans (f o)⟩
theorem results_ed1 {fn : Func} {tmps : Array Value} {w : World} {t : Tmp} {b : Nat} {k p n c d sn sd : Int} {v : Value} (hr : fn.results = #[.cell t 26]) (ht : tmps.getD t undef = .pointer (some ⟨b, 0, none⟩))
    (hc : ED w b k p n c d sn sd v) (hv : (∃ ao m cp, v = .slice ao m cp)) : (results fn tmps).run Try.prog w = .ok (edV k p n c d sn sd v) w := by
  obtain ⟨ao, m, cp, rfl⟩ := hv
  have h := run_loadVar_mid (P := Try.prog) w b 0 26 (edC k p n c d sn sd (.slice ao m cp)).toList _ hc.range Try.underlying26 rfl (by kernel_rfl)
  obtain ⟨C, hC⟩ : ∃ C, C = (edC k p n c d sn sd (.slice ao m cp)).toList.toArray := ⟨_, rfl⟩
  rw [← hC] at h
  unfold results
  rw [hr]
  have ht2 : tmps[t]?.getD undef = .pointer (some ⟨b, 0, none⟩) := by rw [← Array.getD_eq_getD_getElem?]; exact ht
  simp [ht2, asAddr, h]
  rw [hC]
  rfl
/-- An edit of the tape, n the number of clips. -/
inductive TE (n : Nat) : Trk.Ed → Prop where
  | ins (k a : Int) (cl : List Trk.Clip) (hk : k = 1 ∨ k = 3) (a0 : 0 ≤ a) (a1 : a < 60) (h : ClipsOK cl 7) : TE n ⟨k, a, 0, 0, 0, 0, 0, cl⟩
  | rem (k a m : Int) (hk : k = 2 ∨ k = 4) (a0 : 0 ≤ a) (a1 : a < 60) (m0 : 1 ≤ m) (m1 : m ≤ 20) : TE n ⟨k, a, m, 0, 0, 0, 0, []⟩
  | clip (k d : Int) (c : Nat) (hk : 5 ≤ k ∧ k ≤ 9) (hc : c ≤ n) (d0 : d ≠ 0) (d1 : -5 ≤ d ∧ d ≤ 6) : TE n ⟨k, 0, 0, (c : Int), d, 0, 0, []⟩
  | speed (sn sd : Int) (c : Nat) (hc : c ≤ n) (h : Trk.SpeedOK sn sd) : TE n ⟨10, 0, 0, (c : Int), 0, sn, sd, []⟩
theorem Turn.ofStore {g : Nat} {w w' : World} (h2 : ∀ b, b ≠ g → w'.heap[b]? = w.heap[b]?) (h3 : w'.heap.size = w.heap.size) (h4 : ∀ n w0, n ≤ g → Below n w0 w → Below n w0 w') : Turn g w w' :=
  ⟨Nat.le_of_eq h3.symm, fun b _ hn => h2 b hn, h4⟩
theorem EV.fin {w wc wd : World} {B p kc g4 g5 : Nat} {k a m c d sn sd : Int} {V : Value} (h : EV w wc B p kc g4 g5 k a m c d sn sd V) (ht : Turn g4 wc wd) : TP wd B p kc ∧ Turn p w wd := by
  have hp := h.p
  have h4 := h.q4
  have hB := h.t.1
  exact ⟨h.t.turn ht (by omega) (by omega), h.u.into h4 (by omega) ht⟩
def TEPost (w : World) (B p k j n : Nat) (e : Ending) (w' : World) : Prop := (∃ ed ao l cp, e = .returned (EdV ed (.slice ao l cp)) ∧ TE n ed ∧ OT w' w.heap.size (.slice ao l cp) ed.ins) ∧ TQ w B p k j w'
set_option maxRecDepth 100000 in
set_option maxHeartbeats 16000000 in
theorem tedit_any (B p k n : Nat) (w : World) (ht : TP w B p k) (hk : k < 400000) (hn : n ≤ 1000) :
    Calls Try.prog 15 #[.pointer (some ⟨p, 0, none⟩), .int .i64 (n : Int)] w (TEPost w B p k 200 n) := by
  have hp := ht.2.1
  have hB := ht.1
  have HTP := Lib.hid ht
  clear ht
  go_enter Try.func15, Try.ntmps15
  go_upto_region 1 with fail
  obtain ⟨w1, hw1⟩ : ∃ y, y = w.alloc (.cells #[.int .i64 0, .int .i64 0, .int .i64 0, .int .i64 0, .int .i64 0, .int .i64 0, .int .i64 0, .slice none 0 0] 26) := ⟨_, rfl⟩
  rw [← hw1]
  have HZ := Lib.hid (show ED w1 w.heap.size 0 0 0 0 0 0 0 (.slice none 0 0) by rw [hw1]; exact ED.box w 0 0 0 0 0 0 0 (.slice none 0 0) rfl 26)
  have hb : Below w.heap.size w w1 := by rw [hw1]; exact below_box _ _
  have HT := Lib.hid (HTP.out.below (by omega) hb)
  have HU := Lib.hid (Turn.of (g := p) (Nat.le_of_lt hp) hb)
  obtain ⟨g4, hg4⟩ : ∃ y, y = w.heap.size := ⟨_, rfl⟩
  rw [← hg4] at HZ ⊢
  have HG4 := Lib.hid hg4
  clear hw1 hg4 hb
  go_wp2_with fail
  refine (next_any B p k 10 _ HT.out (by omega) (by omega) (by omega)).mono ?_
  rintro e w2 ⟨r, rfl, r0, r1, hT_, hg_⟩
  have ht := Turn.grown hg_ HT.out.2.1
  replace HU := Lib.hid (HU.out.trans ht)
  replace HZ := Lib.hid (ht.ed (show g4 ≠ p by have := HG4.out; omega) HZ.out)
  replace HT := Lib.hid hT_
  clear hT_ hg_ ht
  try dsimp only
  iterate 10 go_step
  have hv : ED (w2.alloc (.cells (edC 0 0 0 0 0 0 0 (.slice none 0 0)) 26)) w2.heap.size 0 0 0 0 0 0 0 (.slice none 0 0) := ED.box w2 0 0 0 0 0 0 0 (.slice none 0 0) rfl 26
  have hb0 : Below w2.heap.size w2 (w2.alloc (.cells (edC 0 0 0 0 0 0 0 (.slice none 0 0)) 26)) := below_box _ _
  refine wpl_storeE (1 + r) 0 0 0 0 0 0 none 0 0 hv rfl rfl rfl rfl ?_
  intro w3 q1 q2 q3 q4 q5
  have hb : Below w2.heap.size w2 w3 := q4 _ _ (Nat.le_refl _) hb0
  have hp2 : p < w2.heap.size := HT.out.2.1
  have hEV : EV w w3 B p (k + 1) g4 w2.heap.size (1 + r) 0 0 0 0 0 0 (.slice none 0 0) := by
    have h4 := HZ.out.lt
    have h5 := HU.out.s
    have h6 := HG4.out
    exact ⟨HT.out.low (n := w2.heap.size) (by omega) hp2 hb, HU.out.trans (Turn.of (g := p) (by omega) hb), q1, HZ.out.below hb, hp, by omega, by omega, by omega⟩
  have H := Lib.hid hEV
  have HS0 := Lib.hid (show w.heap.size ≤ w3.heap.size from hEV.u.s)
  obtain ⟨g5, hg5⟩ : ∃ g, g = w2.heap.size := ⟨_, rfl⟩
  rw [← hg5] at H ⊢
  clear hg5 q1 q2 q3 q4 q5 hb0 hb hv hp2 hEV HT HU HZ HTP HG4
  simp only [Act.put, List.setIfInBounds_toArray, List.set_cons_succ, List.set_cons_zero]
  obtain ⟨K, hK⟩ : ∃ K, K = 1 + r := ⟨_, rfl⟩
  rw [← hK] at H ⊢
  have K0 : 1 ≤ K := by omega
  have K1 : K ≤ 10 := by omega
  clear hK r0 r1
  have e0 := H.out.e.k0
  rcases (show K = 1 ∨ K = 2 ∨ K = 3 ∨ K = 4 ∨ K = 5 ∨ K = 6 ∨ K = 7 ∨ K = 8 ∨ K = 9 ∨ K = 10 by omega) with rfl | rfl | rfl | rfl | rfl | rfl | rfl | rfl | rfl | rfl
  · clear K0 K1
    go_wp2_with fail
    refine (next_any B p (k + 1) 60 _ H.out.t (by omega) (by omega) (by omega)).mono ?_
    rintro e wn ⟨a, rfl, a0, a1, hT_, hg_⟩
    have ht := Turn.grown hg_ H.out.t.2.1
    replace H := Lib.hid (H.out.turn ht hT_)
    clear hT_ hg_ ht
    have y1 := H.out.e.k1
    have f1 := H.out.e.fz 1
    go_upto_region 9 with fail
    obtain ⟨wq, hw⟩ : ∃ q, q = wn.setCell ⟨g5, 1, none⟩ (.int .i64 a) := ⟨_, rfl⟩
    rw [← hw]
    have ht : Turn g5 wn wq := by rw [hw]; exact (Turn.refl _ _).trans (Turn.cell g5 1 (.int .i64 a) _)
    replace H := Lib.hid (H.out.set ht (by rw [hw]; exact H.out.e.set1 a))
    clear hw ht
    clear y1 f1
    have HL4 := Lib.hid H.out.z.lt
    have HL5 := Lib.hid H.out.e.lt
    have HPW := Lib.hid H.out.t.2.1
    have HSQ := Lib.hid H.out.u.s
    clear e0
    go_wp2_with fail
    refine (track_any B p (k + 1 + 1) 3 wq H.out.t (by omega) (by omega)).mono ?_
    rintro e v2 ⟨⟨vl, l, rfl, ho, hs, hl⟩, ⟨k2, hk2, hT_⟩, ht⟩
    have HL := Lib.hid ho
    have HS := Lib.hid hs
    have HLL := Lib.hid hl
    have HS1 := Lib.hid (show wq.heap.size ≤ v2.heap.size from ht.s)
    replace H := Lib.hid (H.out.turn ht hT_)
    have HK2 := Lib.hid hk2
    clear ho hs hl hT_ ht hk2
    go_wp2_with fail
    refine (clip_any B p k2 _ H.out.t (by have := HK2.out; omega)).mono ?_
    rintro e v3 ⟨⟨z, rfl, hz⟩, ⟨k3, hk3, hT_⟩, ht⟩
    replace H := Lib.hid (H.out.turn ht hT_)
    replace HL := Lib.hid (HL.out.turn ht HPW.out)
    have HSZ := Lib.hid (Nat.le_trans HS1.out ht.s)
    have HK3 := Lib.hid hk3
    have HZ := Lib.hid hz
    clear hz hT_ ht hk3
    unfold clipV
    obtain ⟨C, hC⟩ : ∃ C, C = (clipC z).toArray := ⟨_, rfl⟩
    rw [← hC]
    have HCC := Lib.hid hC
    clear hC
    dsimp only
    iterate 1 go_step
    refine Great.wpList_buildSliceTo rfl 35 53 1 #[(0, .tmp 34)] rfl v3.heap.size rfl _ rfl Try.underlying35 C ?_ ?_
    · simp only [List.map_toArray, List.map_cons, List.map_nil, List.toList_toArray]
      rw [HCC.out]
      exact built_clip z
    have hbx : CA (v3.alloc (.cells C 53)) v3.heap.size 0 z := by rw [HCC.out]; exact CA.box v3 z 53
    have hb : Below v3.heap.size v3 (v3.alloc (.cells C 53)) := below_box _ _
    have hsz : wq.heap.size ≤ (v3.alloc (.cells C 53)).heap.size := Nat.le_trans HSZ.out hb.size
    replace HL := Lib.hid (HL.out.below hb)
    have HBX := Lib.hid hb
    clear hb
    simp only [Act.put, List.setIfInBounds_toArray, List.set_cons_succ, List.set_cons_zero]
    refine wpList_appT 35 Try.underlying35 _ rfl (.tmp 32) (.tmp 35) rfl rfl wq.heap.size vl l rfl HL.out hsz v3.heap.size 1 z rfl hbx (by have := HLL.out; omega) ?_
    intro vn v5 q1 q2 q3 q4
    simp only [Act.put, List.setIfInBounds_toArray, List.set_cons_succ, List.set_cons_zero]
    have hbl : Below wq.heap.size v3 v5 := (HBX.out.mono HSZ.out).trans q2
    have HC := Lib.hid q1
    replace H := Lib.hid (H.out.low hbl HL4.out HL5.out)
    have HCO := Lib.hid (clipsOK_snoc HS.out HLL.out HZ.out (by omega))
    obtain ⟨cl, hcl⟩ : ∃ cl, cl = l ++ [z] := ⟨_, rfl⟩
    rw [← hcl] at HC HCO
    clear q1 q2 q3 q4 hbl hbx hsz hcl HBX HCC HZ HS HLL HL HSZ
    obtain ⟨ca, cc, rfl, hcc⟩ := HC.out.tk
    clear hcc
    obtain ⟨J, hJ⟩ : ∃ J, J = cl.length := ⟨_, rfl⟩
    rw [← hJ] at HC ⊢
    clear hJ
    have y7 := H.out.e.k7
    have f7 := H.out.e.fz 7
    go_upto_region 15 with fail
    obtain ⟨w6, hw⟩ : ∃ q, q = v5.setCell ⟨g5, 7, none⟩ (.slice ca J cc) := ⟨_, rfl⟩
    rw [← hw]
    have ht : Turn g5 v5 w6 := by rw [hw]; exact (Turn.refl _ _).trans (Turn.cell g5 7 (.slice ca J cc) _)
    replace H := Lib.hid (H.out.set ht (by rw [hw]; exact H.out.e.set7 (.slice ca J cc)))
    replace HC := Lib.hid (show OT w6 wq.heap.size (.slice ca J cc) cl by rw [hw]; exact HC.out.far (p := ⟨g5, 7, none⟩) HL5.out _)
    clear hw ht
    clear y7 f7
    apply wp_region_lit
    refine wpl_loadE H.out.e rfl rfl rfl ?_
    refine wpl_storeE (1) (a) (0) (0) (0) (0) (0) ca J cc H.out.z rfl rfl rfl rfl ?_
    intro wz q1 q2 q3 q4 q5
    have hfin := H.out.fin (Turn.ofStore q2 q3 q4)
    have HOT := Lib.hid ((HC.out.blocks (fun g kk cap e => q2 g (by have h1 := (HC.out.blk e).1; have h2 := HL4.out; omega))).lower HSQ.out)
    have HQ1 := Lib.hid q1
    have HFI := Lib.hid hfin
    clear q1 q2 q3 q4 q5 hfin
    simp only [Act.put, List.setIfInBounds_toArray, List.set_cons_succ, List.set_cons_zero]
    iterate 4 go_step
    exact bodyPost_ret (results_ed1 Try.results15 rfl HQ1.out ⟨_, _, _, rfl⟩) rfl ⟨⟨⟨1, a, 0, 0, 0, 0, 0, cl⟩, ca, J, cc, rfl, TE.ins 1 a cl (by decide) a0 (by omega) HCO.out, HOT.out⟩, TQ.of (k' := k3) (by have := HK2.out; have := HK3.out; omega) HFI.out.1 HFI.out.2⟩
  · clear K0 K1
    go_wp2_with fail
    refine (next_any B p (k + 1) 60 _ H.out.t (by omega) (by omega) (by omega)).mono ?_
    rintro e wn ⟨a, rfl, a0, a1, hT_, hg_⟩
    have ht := Turn.grown hg_ H.out.t.2.1
    replace H := Lib.hid (H.out.turn ht hT_)
    clear hT_ hg_ ht
    go_wp2_with fail
    refine (next_any B p (k + 1 + 1) 20 _ H.out.t (by omega) (by omega) (by omega)).mono ?_
    rintro e wm ⟨m, rfl, m0, m1, hT_, hg_⟩
    have ht := Turn.grown hg_ H.out.t.2.1
    replace H := Lib.hid (H.out.turn ht hT_)
    clear hT_ hg_ ht
    have y1 := H.out.e.k1
    have f1 := H.out.e.fz 1
    have y2 := H.out.e.k2
    have f2 := H.out.e.fz 2
    go_upto_region 15 with fail
    obtain ⟨w6, hw⟩ : ∃ q, q = (wm.setCell ⟨g5, 1, none⟩ (.int .i64 a)).setCell ⟨g5, 2, none⟩ (.int .i64 (1 + m)) := ⟨_, rfl⟩
    rw [← hw]
    have ht : Turn g5 wm w6 := by rw [hw]; exact ((Turn.refl _ _).trans (Turn.cell g5 1 (.int .i64 a) _)).trans (Turn.cell g5 2 (.int .i64 (1 + m)) _)
    replace H := Lib.hid (H.out.set ht (by rw [hw]; exact (H.out.e.set1 a).set2 (1 + m)))
    clear hw ht
    clear y1 f1 y2 f2
    apply wp_region_lit
    refine wpl_loadE H.out.e rfl rfl rfl ?_
    refine wpl_storeE (2) (a) (1 + m) (0) (0) (0) (0) none 0 0 H.out.z rfl rfl rfl rfl ?_
    intro wz q1 q2 q3 q4 q5
    have hfin := H.out.fin (Turn.ofStore q2 q3 q4)
    have HOT := Lib.hid (OT.nil wz w.heap.size)
    have HQ1 := Lib.hid q1
    have HFI := Lib.hid hfin
    clear q1 q2 q3 q4 q5 hfin
    simp only [Act.put, List.setIfInBounds_toArray, List.set_cons_succ, List.set_cons_zero]
    iterate 4 go_step
    exact bodyPost_ret (results_ed1 Try.results15 rfl HQ1.out ⟨_, _, _, rfl⟩) rfl ⟨⟨⟨2, a, 1 + m, 0, 0, 0, 0, []⟩, none, 0, 0, rfl, TE.rem 2 a (1 + m) (by decide) a0 (by omega) (by omega) (by omega), HOT.out⟩, TQ.of (k' := k + 1 + 1 + 1) (by omega) HFI.out.1 HFI.out.2⟩
  · clear K0 K1
    go_wp2_with fail
    refine (next_any B p (k + 1) 60 _ H.out.t (by omega) (by omega) (by omega)).mono ?_
    rintro e wn ⟨a, rfl, a0, a1, hT_, hg_⟩
    have ht := Turn.grown hg_ H.out.t.2.1
    replace H := Lib.hid (H.out.turn ht hT_)
    clear hT_ hg_ ht
    have y1 := H.out.e.k1
    have f1 := H.out.e.fz 1
    go_upto_region 9 with fail
    obtain ⟨wq, hw⟩ : ∃ q, q = wn.setCell ⟨g5, 1, none⟩ (.int .i64 a) := ⟨_, rfl⟩
    rw [← hw]
    have ht : Turn g5 wn wq := by rw [hw]; exact (Turn.refl _ _).trans (Turn.cell g5 1 (.int .i64 a) _)
    replace H := Lib.hid (H.out.set ht (by rw [hw]; exact H.out.e.set1 a))
    clear hw ht
    clear y1 f1
    have HL4 := Lib.hid H.out.z.lt
    have HL5 := Lib.hid H.out.e.lt
    have HPW := Lib.hid H.out.t.2.1
    have HSQ := Lib.hid H.out.u.s
    clear e0
    go_wp2_with fail
    refine (track_any B p (k + 1 + 1) 3 wq H.out.t (by omega) (by omega)).mono ?_
    rintro e v2 ⟨⟨vl, l, rfl, ho, hs, hl⟩, ⟨k2, hk2, hT_⟩, ht⟩
    have HL := Lib.hid ho
    have HS := Lib.hid hs
    have HLL := Lib.hid hl
    have HS1 := Lib.hid (show wq.heap.size ≤ v2.heap.size from ht.s)
    replace H := Lib.hid (H.out.turn ht hT_)
    have HK2 := Lib.hid hk2
    clear ho hs hl hT_ ht hk2
    go_wp2_with fail
    refine (clip_any B p k2 _ H.out.t (by have := HK2.out; omega)).mono ?_
    rintro e v3 ⟨⟨z, rfl, hz⟩, ⟨k3, hk3, hT_⟩, ht⟩
    replace H := Lib.hid (H.out.turn ht hT_)
    replace HL := Lib.hid (HL.out.turn ht HPW.out)
    have HSZ := Lib.hid (Nat.le_trans HS1.out ht.s)
    have HK3 := Lib.hid hk3
    have HZ := Lib.hid hz
    clear hz hT_ ht hk3
    unfold clipV
    obtain ⟨C, hC⟩ : ∃ C, C = (clipC z).toArray := ⟨_, rfl⟩
    rw [← hC]
    have HCC := Lib.hid hC
    clear hC
    dsimp only
    iterate 1 go_step
    refine Great.wpList_buildSliceTo rfl 35 53 1 #[(0, .tmp 34)] rfl v3.heap.size rfl _ rfl Try.underlying35 C ?_ ?_
    · simp only [List.map_toArray, List.map_cons, List.map_nil, List.toList_toArray]
      rw [HCC.out]
      exact built_clip z
    have hbx : CA (v3.alloc (.cells C 53)) v3.heap.size 0 z := by rw [HCC.out]; exact CA.box v3 z 53
    have hb : Below v3.heap.size v3 (v3.alloc (.cells C 53)) := below_box _ _
    have hsz : wq.heap.size ≤ (v3.alloc (.cells C 53)).heap.size := Nat.le_trans HSZ.out hb.size
    replace HL := Lib.hid (HL.out.below hb)
    have HBX := Lib.hid hb
    clear hb
    simp only [Act.put, List.setIfInBounds_toArray, List.set_cons_succ, List.set_cons_zero]
    refine wpList_appT 35 Try.underlying35 _ rfl (.tmp 32) (.tmp 35) rfl rfl wq.heap.size vl l rfl HL.out hsz v3.heap.size 1 z rfl hbx (by have := HLL.out; omega) ?_
    intro vn v5 q1 q2 q3 q4
    simp only [Act.put, List.setIfInBounds_toArray, List.set_cons_succ, List.set_cons_zero]
    have hbl : Below wq.heap.size v3 v5 := (HBX.out.mono HSZ.out).trans q2
    have HC := Lib.hid q1
    replace H := Lib.hid (H.out.low hbl HL4.out HL5.out)
    have HCO := Lib.hid (clipsOK_snoc HS.out HLL.out HZ.out (by omega))
    obtain ⟨cl, hcl⟩ : ∃ cl, cl = l ++ [z] := ⟨_, rfl⟩
    rw [← hcl] at HC HCO
    clear q1 q2 q3 q4 hbl hbx hsz hcl HBX HCC HZ HS HLL HL HSZ
    obtain ⟨ca, cc, rfl, hcc⟩ := HC.out.tk
    clear hcc
    obtain ⟨J, hJ⟩ : ∃ J, J = cl.length := ⟨_, rfl⟩
    rw [← hJ] at HC ⊢
    clear hJ
    have y7 := H.out.e.k7
    have f7 := H.out.e.fz 7
    go_upto_region 15 with fail
    obtain ⟨w6, hw⟩ : ∃ q, q = v5.setCell ⟨g5, 7, none⟩ (.slice ca J cc) := ⟨_, rfl⟩
    rw [← hw]
    have ht : Turn g5 v5 w6 := by rw [hw]; exact (Turn.refl _ _).trans (Turn.cell g5 7 (.slice ca J cc) _)
    replace H := Lib.hid (H.out.set ht (by rw [hw]; exact H.out.e.set7 (.slice ca J cc)))
    replace HC := Lib.hid (show OT w6 wq.heap.size (.slice ca J cc) cl by rw [hw]; exact HC.out.far (p := ⟨g5, 7, none⟩) HL5.out _)
    clear hw ht
    clear y7 f7
    apply wp_region_lit
    refine wpl_loadE H.out.e rfl rfl rfl ?_
    refine wpl_storeE (3) (a) (0) (0) (0) (0) (0) ca J cc H.out.z rfl rfl rfl rfl ?_
    intro wz q1 q2 q3 q4 q5
    have hfin := H.out.fin (Turn.ofStore q2 q3 q4)
    have HOT := Lib.hid ((HC.out.blocks (fun g kk cap e => q2 g (by have h1 := (HC.out.blk e).1; have h2 := HL4.out; omega))).lower HSQ.out)
    have HQ1 := Lib.hid q1
    have HFI := Lib.hid hfin
    clear q1 q2 q3 q4 q5 hfin
    simp only [Act.put, List.setIfInBounds_toArray, List.set_cons_succ, List.set_cons_zero]
    iterate 4 go_step
    exact bodyPost_ret (results_ed1 Try.results15 rfl HQ1.out ⟨_, _, _, rfl⟩) rfl ⟨⟨⟨3, a, 0, 0, 0, 0, 0, cl⟩, ca, J, cc, rfl, TE.ins 3 a cl (by decide) a0 (by omega) HCO.out, HOT.out⟩, TQ.of (k' := k3) (by have := HK2.out; have := HK3.out; omega) HFI.out.1 HFI.out.2⟩
  · clear K0 K1
    go_wp2_with fail
    refine (next_any B p (k + 1) 60 _ H.out.t (by omega) (by omega) (by omega)).mono ?_
    rintro e wn ⟨a, rfl, a0, a1, hT_, hg_⟩
    have ht := Turn.grown hg_ H.out.t.2.1
    replace H := Lib.hid (H.out.turn ht hT_)
    clear hT_ hg_ ht
    go_wp2_with fail
    refine (next_any B p (k + 1 + 1) 20 _ H.out.t (by omega) (by omega) (by omega)).mono ?_
    rintro e wm ⟨m, rfl, m0, m1, hT_, hg_⟩
    have ht := Turn.grown hg_ H.out.t.2.1
    replace H := Lib.hid (H.out.turn ht hT_)
    clear hT_ hg_ ht
    have y1 := H.out.e.k1
    have f1 := H.out.e.fz 1
    have y2 := H.out.e.k2
    have f2 := H.out.e.fz 2
    go_upto_region 15 with fail
    obtain ⟨w6, hw⟩ : ∃ q, q = (wm.setCell ⟨g5, 1, none⟩ (.int .i64 a)).setCell ⟨g5, 2, none⟩ (.int .i64 (1 + m)) := ⟨_, rfl⟩
    rw [← hw]
    have ht : Turn g5 wm w6 := by rw [hw]; exact ((Turn.refl _ _).trans (Turn.cell g5 1 (.int .i64 a) _)).trans (Turn.cell g5 2 (.int .i64 (1 + m)) _)
    replace H := Lib.hid (H.out.set ht (by rw [hw]; exact (H.out.e.set1 a).set2 (1 + m)))
    clear hw ht
    clear y1 f1 y2 f2
    apply wp_region_lit
    refine wpl_loadE H.out.e rfl rfl rfl ?_
    refine wpl_storeE (4) (a) (1 + m) (0) (0) (0) (0) none 0 0 H.out.z rfl rfl rfl rfl ?_
    intro wz q1 q2 q3 q4 q5
    have hfin := H.out.fin (Turn.ofStore q2 q3 q4)
    have HOT := Lib.hid (OT.nil wz w.heap.size)
    have HQ1 := Lib.hid q1
    have HFI := Lib.hid hfin
    clear q1 q2 q3 q4 q5 hfin
    simp only [Act.put, List.setIfInBounds_toArray, List.set_cons_succ, List.set_cons_zero]
    iterate 4 go_step
    exact bodyPost_ret (results_ed1 Try.results15 rfl HQ1.out ⟨_, _, _, rfl⟩) rfl ⟨⟨⟨4, a, 1 + m, 0, 0, 0, 0, []⟩, none, 0, 0, rfl, TE.rem 4 a (1 + m) (by decide) a0 (by omega) (by omega) (by omega), HOT.out⟩, TQ.of (k' := k + 1 + 1 + 1) (by omega) HFI.out.1 HFI.out.2⟩
  · clear K0 K1
    have hn1 : (1 : Int) ≤ (n : Int) + 1 := by omega
    go_wp2_with fail
    refine (next_any B p (k + 1) ((n : Int) + 1) _ H.out.t (by omega) (by omega) (by omega)).mono ?_
    rintro e wn ⟨c, rfl, c0, c1, hT_, hg_⟩
    have ht := Turn.grown hg_ H.out.t.2.1
    replace H := Lib.hid (H.out.turn ht hT_)
    clear hT_ hg_ ht
    go_wp2_with fail
    refine (next_any B p (k + 1 + 1) 11 _ H.out.t (by omega) (by omega) (by omega)).mono ?_
    rintro e wm ⟨d, rfl, d0, d1, hT_, hg_⟩
    have ht := Turn.grown hg_ H.out.t.2.1
    replace H := Lib.hid (H.out.turn ht hT_)
    clear hT_ hg_ ht
    obtain ⟨cn, hcn⟩ : ∃ cn : Nat, c = (cn : Int) := ⟨c.toNat, by omega⟩
    subst hcn
    have y3 := H.out.e.k3
    have f3 := H.out.e.fz 3
    have y4 := H.out.e.k4
    have f4 := H.out.e.fz 4
    by_cases hd5 : d = 5
    · subst hd5
      go_upto_region 15 with fail
      obtain ⟨w6, hw⟩ : ∃ q, q = ((wm.setCell ⟨g5, 3, none⟩ (.int .i64 (cn : Int))).setCell ⟨g5, 4, none⟩ (.int .i64 0)).setCell ⟨g5, 4, none⟩ (.int .i64 6) := ⟨_, rfl⟩
      rw [← hw]
      have ht : Turn g5 wm w6 := by rw [hw]; exact (((Turn.refl _ _).trans (Turn.cell g5 3 (.int .i64 (cn : Int)) _)).trans (Turn.cell g5 4 (.int .i64 0) _)).trans (Turn.cell g5 4 (.int .i64 6) _)
      replace H := Lib.hid (H.out.set ht (by rw [hw]; exact ((H.out.e.set3 (cn : Int)).set4 0).set4 6))
      clear hw ht
      clear y3 f3 y4 f4
      apply wp_region_lit
      refine wpl_loadE H.out.e rfl rfl rfl ?_
      refine wpl_storeE (5) (0) (0) ((cn : Int)) (6) (0) (0) none 0 0 H.out.z rfl rfl rfl rfl ?_
      intro wz q1 q2 q3 q4 q5
      have hfin := H.out.fin (Turn.ofStore q2 q3 q4)
      have HOT := Lib.hid (OT.nil wz w.heap.size)
      have HQ1 := Lib.hid q1
      have HFI := Lib.hid hfin
      clear q1 q2 q3 q4 q5 hfin
      simp only [Act.put, List.setIfInBounds_toArray, List.set_cons_succ, List.set_cons_zero]
      iterate 4 go_step
      exact bodyPost_ret (results_ed1 Try.results15 rfl HQ1.out ⟨_, _, _, rfl⟩) rfl ⟨⟨⟨5, 0, 0, (cn : Int), 6, 0, 0, []⟩, none, 0, 0, rfl, TE.clip 5 6 cn (by decide) (by omega) (by decide) (by decide), HOT.out⟩, TQ.of (k' := k + 1 + 1 + 1) (by omega) HFI.out.1 HFI.out.2⟩
    · have hd6 : (d - 5 == 0) = false := by simp; omega
      go_upto_region 15 with fail
      obtain ⟨w6, hw⟩ : ∃ q, q = (wm.setCell ⟨g5, 3, none⟩ (.int .i64 (cn : Int))).setCell ⟨g5, 4, none⟩ (.int .i64 (d - 5)) := ⟨_, rfl⟩
      rw [← hw]
      have ht : Turn g5 wm w6 := by rw [hw]; exact ((Turn.refl _ _).trans (Turn.cell g5 3 (.int .i64 (cn : Int)) _)).trans (Turn.cell g5 4 (.int .i64 (d - 5)) _)
      replace H := Lib.hid (H.out.set ht (by rw [hw]; exact (H.out.e.set3 (cn : Int)).set4 (d - 5)))
      clear hw ht
      clear y3 f3 y4 f4
      apply wp_region_lit
      refine wpl_loadE H.out.e rfl rfl rfl ?_
      refine wpl_storeE (5) (0) (0) ((cn : Int)) (d - 5) (0) (0) none 0 0 H.out.z rfl rfl rfl rfl ?_
      intro wz q1 q2 q3 q4 q5
      have hfin := H.out.fin (Turn.ofStore q2 q3 q4)
      have HOT := Lib.hid (OT.nil wz w.heap.size)
      have HQ1 := Lib.hid q1
      have HFI := Lib.hid hfin
      clear q1 q2 q3 q4 q5 hfin
      simp only [Act.put, List.setIfInBounds_toArray, List.set_cons_succ, List.set_cons_zero]
      iterate 4 go_step
      exact bodyPost_ret (results_ed1 Try.results15 rfl HQ1.out ⟨_, _, _, rfl⟩) rfl ⟨⟨⟨5, 0, 0, (cn : Int), d - 5, 0, 0, []⟩, none, 0, 0, rfl, TE.clip 5 (d - 5) cn (by decide) (by omega) (by omega) (by omega), HOT.out⟩, TQ.of (k' := k + 1 + 1 + 1) (by omega) HFI.out.1 HFI.out.2⟩
  · clear K0 K1
    have hn1 : (1 : Int) ≤ (n : Int) + 1 := by omega
    go_wp2_with fail
    refine (next_any B p (k + 1) ((n : Int) + 1) _ H.out.t (by omega) (by omega) (by omega)).mono ?_
    rintro e wn ⟨c, rfl, c0, c1, hT_, hg_⟩
    have ht := Turn.grown hg_ H.out.t.2.1
    replace H := Lib.hid (H.out.turn ht hT_)
    clear hT_ hg_ ht
    go_wp2_with fail
    refine (next_any B p (k + 1 + 1) 11 _ H.out.t (by omega) (by omega) (by omega)).mono ?_
    rintro e wm ⟨d, rfl, d0, d1, hT_, hg_⟩
    have ht := Turn.grown hg_ H.out.t.2.1
    replace H := Lib.hid (H.out.turn ht hT_)
    clear hT_ hg_ ht
    obtain ⟨cn, hcn⟩ : ∃ cn : Nat, c = (cn : Int) := ⟨c.toNat, by omega⟩
    subst hcn
    have y3 := H.out.e.k3
    have f3 := H.out.e.fz 3
    have y4 := H.out.e.k4
    have f4 := H.out.e.fz 4
    by_cases hd5 : d = 5
    · subst hd5
      go_upto_region 15 with fail
      obtain ⟨w6, hw⟩ : ∃ q, q = ((wm.setCell ⟨g5, 3, none⟩ (.int .i64 (cn : Int))).setCell ⟨g5, 4, none⟩ (.int .i64 0)).setCell ⟨g5, 4, none⟩ (.int .i64 6) := ⟨_, rfl⟩
      rw [← hw]
      have ht : Turn g5 wm w6 := by rw [hw]; exact (((Turn.refl _ _).trans (Turn.cell g5 3 (.int .i64 (cn : Int)) _)).trans (Turn.cell g5 4 (.int .i64 0) _)).trans (Turn.cell g5 4 (.int .i64 6) _)
      replace H := Lib.hid (H.out.set ht (by rw [hw]; exact ((H.out.e.set3 (cn : Int)).set4 0).set4 6))
      clear hw ht
      clear y3 f3 y4 f4
      apply wp_region_lit
      refine wpl_loadE H.out.e rfl rfl rfl ?_
      refine wpl_storeE (6) (0) (0) ((cn : Int)) (6) (0) (0) none 0 0 H.out.z rfl rfl rfl rfl ?_
      intro wz q1 q2 q3 q4 q5
      have hfin := H.out.fin (Turn.ofStore q2 q3 q4)
      have HOT := Lib.hid (OT.nil wz w.heap.size)
      have HQ1 := Lib.hid q1
      have HFI := Lib.hid hfin
      clear q1 q2 q3 q4 q5 hfin
      simp only [Act.put, List.setIfInBounds_toArray, List.set_cons_succ, List.set_cons_zero]
      iterate 4 go_step
      exact bodyPost_ret (results_ed1 Try.results15 rfl HQ1.out ⟨_, _, _, rfl⟩) rfl ⟨⟨⟨6, 0, 0, (cn : Int), 6, 0, 0, []⟩, none, 0, 0, rfl, TE.clip 6 6 cn (by decide) (by omega) (by decide) (by decide), HOT.out⟩, TQ.of (k' := k + 1 + 1 + 1) (by omega) HFI.out.1 HFI.out.2⟩
    · have hd6 : (d - 5 == 0) = false := by simp; omega
      go_upto_region 15 with fail
      obtain ⟨w6, hw⟩ : ∃ q, q = (wm.setCell ⟨g5, 3, none⟩ (.int .i64 (cn : Int))).setCell ⟨g5, 4, none⟩ (.int .i64 (d - 5)) := ⟨_, rfl⟩
      rw [← hw]
      have ht : Turn g5 wm w6 := by rw [hw]; exact ((Turn.refl _ _).trans (Turn.cell g5 3 (.int .i64 (cn : Int)) _)).trans (Turn.cell g5 4 (.int .i64 (d - 5)) _)
      replace H := Lib.hid (H.out.set ht (by rw [hw]; exact (H.out.e.set3 (cn : Int)).set4 (d - 5)))
      clear hw ht
      clear y3 f3 y4 f4
      apply wp_region_lit
      refine wpl_loadE H.out.e rfl rfl rfl ?_
      refine wpl_storeE (6) (0) (0) ((cn : Int)) (d - 5) (0) (0) none 0 0 H.out.z rfl rfl rfl rfl ?_
      intro wz q1 q2 q3 q4 q5
      have hfin := H.out.fin (Turn.ofStore q2 q3 q4)
      have HOT := Lib.hid (OT.nil wz w.heap.size)
      have HQ1 := Lib.hid q1
      have HFI := Lib.hid hfin
      clear q1 q2 q3 q4 q5 hfin
      simp only [Act.put, List.setIfInBounds_toArray, List.set_cons_succ, List.set_cons_zero]
      iterate 4 go_step
      exact bodyPost_ret (results_ed1 Try.results15 rfl HQ1.out ⟨_, _, _, rfl⟩) rfl ⟨⟨⟨6, 0, 0, (cn : Int), d - 5, 0, 0, []⟩, none, 0, 0, rfl, TE.clip 6 (d - 5) cn (by decide) (by omega) (by omega) (by omega), HOT.out⟩, TQ.of (k' := k + 1 + 1 + 1) (by omega) HFI.out.1 HFI.out.2⟩
  · clear K0 K1
    have hn1 : (1 : Int) ≤ (n : Int) + 1 := by omega
    go_wp2_with fail
    refine (next_any B p (k + 1) ((n : Int) + 1) _ H.out.t (by omega) (by omega) (by omega)).mono ?_
    rintro e wn ⟨c, rfl, c0, c1, hT_, hg_⟩
    have ht := Turn.grown hg_ H.out.t.2.1
    replace H := Lib.hid (H.out.turn ht hT_)
    clear hT_ hg_ ht
    go_wp2_with fail
    refine (next_any B p (k + 1 + 1) 11 _ H.out.t (by omega) (by omega) (by omega)).mono ?_
    rintro e wm ⟨d, rfl, d0, d1, hT_, hg_⟩
    have ht := Turn.grown hg_ H.out.t.2.1
    replace H := Lib.hid (H.out.turn ht hT_)
    clear hT_ hg_ ht
    obtain ⟨cn, hcn⟩ : ∃ cn : Nat, c = (cn : Int) := ⟨c.toNat, by omega⟩
    subst hcn
    have y3 := H.out.e.k3
    have f3 := H.out.e.fz 3
    have y4 := H.out.e.k4
    have f4 := H.out.e.fz 4
    by_cases hd5 : d = 5
    · subst hd5
      go_upto_region 15 with fail
      obtain ⟨w6, hw⟩ : ∃ q, q = ((wm.setCell ⟨g5, 3, none⟩ (.int .i64 (cn : Int))).setCell ⟨g5, 4, none⟩ (.int .i64 0)).setCell ⟨g5, 4, none⟩ (.int .i64 6) := ⟨_, rfl⟩
      rw [← hw]
      have ht : Turn g5 wm w6 := by rw [hw]; exact (((Turn.refl _ _).trans (Turn.cell g5 3 (.int .i64 (cn : Int)) _)).trans (Turn.cell g5 4 (.int .i64 0) _)).trans (Turn.cell g5 4 (.int .i64 6) _)
      replace H := Lib.hid (H.out.set ht (by rw [hw]; exact ((H.out.e.set3 (cn : Int)).set4 0).set4 6))
      clear hw ht
      clear y3 f3 y4 f4
      apply wp_region_lit
      refine wpl_loadE H.out.e rfl rfl rfl ?_
      refine wpl_storeE (7) (0) (0) ((cn : Int)) (6) (0) (0) none 0 0 H.out.z rfl rfl rfl rfl ?_
      intro wz q1 q2 q3 q4 q5
      have hfin := H.out.fin (Turn.ofStore q2 q3 q4)
      have HOT := Lib.hid (OT.nil wz w.heap.size)
      have HQ1 := Lib.hid q1
      have HFI := Lib.hid hfin
      clear q1 q2 q3 q4 q5 hfin
      simp only [Act.put, List.setIfInBounds_toArray, List.set_cons_succ, List.set_cons_zero]
      iterate 4 go_step
      exact bodyPost_ret (results_ed1 Try.results15 rfl HQ1.out ⟨_, _, _, rfl⟩) rfl ⟨⟨⟨7, 0, 0, (cn : Int), 6, 0, 0, []⟩, none, 0, 0, rfl, TE.clip 7 6 cn (by decide) (by omega) (by decide) (by decide), HOT.out⟩, TQ.of (k' := k + 1 + 1 + 1) (by omega) HFI.out.1 HFI.out.2⟩
    · have hd6 : (d - 5 == 0) = false := by simp; omega
      go_upto_region 15 with fail
      obtain ⟨w6, hw⟩ : ∃ q, q = (wm.setCell ⟨g5, 3, none⟩ (.int .i64 (cn : Int))).setCell ⟨g5, 4, none⟩ (.int .i64 (d - 5)) := ⟨_, rfl⟩
      rw [← hw]
      have ht : Turn g5 wm w6 := by rw [hw]; exact ((Turn.refl _ _).trans (Turn.cell g5 3 (.int .i64 (cn : Int)) _)).trans (Turn.cell g5 4 (.int .i64 (d - 5)) _)
      replace H := Lib.hid (H.out.set ht (by rw [hw]; exact (H.out.e.set3 (cn : Int)).set4 (d - 5)))
      clear hw ht
      clear y3 f3 y4 f4
      apply wp_region_lit
      refine wpl_loadE H.out.e rfl rfl rfl ?_
      refine wpl_storeE (7) (0) (0) ((cn : Int)) (d - 5) (0) (0) none 0 0 H.out.z rfl rfl rfl rfl ?_
      intro wz q1 q2 q3 q4 q5
      have hfin := H.out.fin (Turn.ofStore q2 q3 q4)
      have HOT := Lib.hid (OT.nil wz w.heap.size)
      have HQ1 := Lib.hid q1
      have HFI := Lib.hid hfin
      clear q1 q2 q3 q4 q5 hfin
      simp only [Act.put, List.setIfInBounds_toArray, List.set_cons_succ, List.set_cons_zero]
      iterate 4 go_step
      exact bodyPost_ret (results_ed1 Try.results15 rfl HQ1.out ⟨_, _, _, rfl⟩) rfl ⟨⟨⟨7, 0, 0, (cn : Int), d - 5, 0, 0, []⟩, none, 0, 0, rfl, TE.clip 7 (d - 5) cn (by decide) (by omega) (by omega) (by omega), HOT.out⟩, TQ.of (k' := k + 1 + 1 + 1) (by omega) HFI.out.1 HFI.out.2⟩
  · clear K0 K1
    have hn1 : (1 : Int) ≤ (n : Int) + 1 := by omega
    go_wp2_with fail
    refine (next_any B p (k + 1) ((n : Int) + 1) _ H.out.t (by omega) (by omega) (by omega)).mono ?_
    rintro e wn ⟨c, rfl, c0, c1, hT_, hg_⟩
    have ht := Turn.grown hg_ H.out.t.2.1
    replace H := Lib.hid (H.out.turn ht hT_)
    clear hT_ hg_ ht
    go_wp2_with fail
    refine (next_any B p (k + 1 + 1) 11 _ H.out.t (by omega) (by omega) (by omega)).mono ?_
    rintro e wm ⟨d, rfl, d0, d1, hT_, hg_⟩
    have ht := Turn.grown hg_ H.out.t.2.1
    replace H := Lib.hid (H.out.turn ht hT_)
    clear hT_ hg_ ht
    obtain ⟨cn, hcn⟩ : ∃ cn : Nat, c = (cn : Int) := ⟨c.toNat, by omega⟩
    subst hcn
    have y3 := H.out.e.k3
    have f3 := H.out.e.fz 3
    have y4 := H.out.e.k4
    have f4 := H.out.e.fz 4
    by_cases hd5 : d = 5
    · subst hd5
      go_upto_region 15 with fail
      obtain ⟨w6, hw⟩ : ∃ q, q = ((wm.setCell ⟨g5, 3, none⟩ (.int .i64 (cn : Int))).setCell ⟨g5, 4, none⟩ (.int .i64 0)).setCell ⟨g5, 4, none⟩ (.int .i64 6) := ⟨_, rfl⟩
      rw [← hw]
      have ht : Turn g5 wm w6 := by rw [hw]; exact (((Turn.refl _ _).trans (Turn.cell g5 3 (.int .i64 (cn : Int)) _)).trans (Turn.cell g5 4 (.int .i64 0) _)).trans (Turn.cell g5 4 (.int .i64 6) _)
      replace H := Lib.hid (H.out.set ht (by rw [hw]; exact ((H.out.e.set3 (cn : Int)).set4 0).set4 6))
      clear hw ht
      clear y3 f3 y4 f4
      apply wp_region_lit
      refine wpl_loadE H.out.e rfl rfl rfl ?_
      refine wpl_storeE (8) (0) (0) ((cn : Int)) (6) (0) (0) none 0 0 H.out.z rfl rfl rfl rfl ?_
      intro wz q1 q2 q3 q4 q5
      have hfin := H.out.fin (Turn.ofStore q2 q3 q4)
      have HOT := Lib.hid (OT.nil wz w.heap.size)
      have HQ1 := Lib.hid q1
      have HFI := Lib.hid hfin
      clear q1 q2 q3 q4 q5 hfin
      simp only [Act.put, List.setIfInBounds_toArray, List.set_cons_succ, List.set_cons_zero]
      iterate 4 go_step
      exact bodyPost_ret (results_ed1 Try.results15 rfl HQ1.out ⟨_, _, _, rfl⟩) rfl ⟨⟨⟨8, 0, 0, (cn : Int), 6, 0, 0, []⟩, none, 0, 0, rfl, TE.clip 8 6 cn (by decide) (by omega) (by decide) (by decide), HOT.out⟩, TQ.of (k' := k + 1 + 1 + 1) (by omega) HFI.out.1 HFI.out.2⟩
    · have hd6 : (d - 5 == 0) = false := by simp; omega
      go_upto_region 15 with fail
      obtain ⟨w6, hw⟩ : ∃ q, q = (wm.setCell ⟨g5, 3, none⟩ (.int .i64 (cn : Int))).setCell ⟨g5, 4, none⟩ (.int .i64 (d - 5)) := ⟨_, rfl⟩
      rw [← hw]
      have ht : Turn g5 wm w6 := by rw [hw]; exact ((Turn.refl _ _).trans (Turn.cell g5 3 (.int .i64 (cn : Int)) _)).trans (Turn.cell g5 4 (.int .i64 (d - 5)) _)
      replace H := Lib.hid (H.out.set ht (by rw [hw]; exact (H.out.e.set3 (cn : Int)).set4 (d - 5)))
      clear hw ht
      clear y3 f3 y4 f4
      apply wp_region_lit
      refine wpl_loadE H.out.e rfl rfl rfl ?_
      refine wpl_storeE (8) (0) (0) ((cn : Int)) (d - 5) (0) (0) none 0 0 H.out.z rfl rfl rfl rfl ?_
      intro wz q1 q2 q3 q4 q5
      have hfin := H.out.fin (Turn.ofStore q2 q3 q4)
      have HOT := Lib.hid (OT.nil wz w.heap.size)
      have HQ1 := Lib.hid q1
      have HFI := Lib.hid hfin
      clear q1 q2 q3 q4 q5 hfin
      simp only [Act.put, List.setIfInBounds_toArray, List.set_cons_succ, List.set_cons_zero]
      iterate 4 go_step
      exact bodyPost_ret (results_ed1 Try.results15 rfl HQ1.out ⟨_, _, _, rfl⟩) rfl ⟨⟨⟨8, 0, 0, (cn : Int), d - 5, 0, 0, []⟩, none, 0, 0, rfl, TE.clip 8 (d - 5) cn (by decide) (by omega) (by omega) (by omega), HOT.out⟩, TQ.of (k' := k + 1 + 1 + 1) (by omega) HFI.out.1 HFI.out.2⟩
  · clear K0 K1
    have hn1 : (1 : Int) ≤ (n : Int) + 1 := by omega
    go_wp2_with fail
    refine (next_any B p (k + 1) ((n : Int) + 1) _ H.out.t (by omega) (by omega) (by omega)).mono ?_
    rintro e wn ⟨c, rfl, c0, c1, hT_, hg_⟩
    have ht := Turn.grown hg_ H.out.t.2.1
    replace H := Lib.hid (H.out.turn ht hT_)
    clear hT_ hg_ ht
    go_wp2_with fail
    refine (next_any B p (k + 1 + 1) 11 _ H.out.t (by omega) (by omega) (by omega)).mono ?_
    rintro e wm ⟨d, rfl, d0, d1, hT_, hg_⟩
    have ht := Turn.grown hg_ H.out.t.2.1
    replace H := Lib.hid (H.out.turn ht hT_)
    clear hT_ hg_ ht
    obtain ⟨cn, hcn⟩ : ∃ cn : Nat, c = (cn : Int) := ⟨c.toNat, by omega⟩
    subst hcn
    have y3 := H.out.e.k3
    have f3 := H.out.e.fz 3
    have y4 := H.out.e.k4
    have f4 := H.out.e.fz 4
    by_cases hd5 : d = 5
    · subst hd5
      go_upto_region 15 with fail
      obtain ⟨w6, hw⟩ : ∃ q, q = ((wm.setCell ⟨g5, 3, none⟩ (.int .i64 (cn : Int))).setCell ⟨g5, 4, none⟩ (.int .i64 0)).setCell ⟨g5, 4, none⟩ (.int .i64 6) := ⟨_, rfl⟩
      rw [← hw]
      have ht : Turn g5 wm w6 := by rw [hw]; exact (((Turn.refl _ _).trans (Turn.cell g5 3 (.int .i64 (cn : Int)) _)).trans (Turn.cell g5 4 (.int .i64 0) _)).trans (Turn.cell g5 4 (.int .i64 6) _)
      replace H := Lib.hid (H.out.set ht (by rw [hw]; exact ((H.out.e.set3 (cn : Int)).set4 0).set4 6))
      clear hw ht
      clear y3 f3 y4 f4
      apply wp_region_lit
      refine wpl_loadE H.out.e rfl rfl rfl ?_
      refine wpl_storeE (9) (0) (0) ((cn : Int)) (6) (0) (0) none 0 0 H.out.z rfl rfl rfl rfl ?_
      intro wz q1 q2 q3 q4 q5
      have hfin := H.out.fin (Turn.ofStore q2 q3 q4)
      have HOT := Lib.hid (OT.nil wz w.heap.size)
      have HQ1 := Lib.hid q1
      have HFI := Lib.hid hfin
      clear q1 q2 q3 q4 q5 hfin
      simp only [Act.put, List.setIfInBounds_toArray, List.set_cons_succ, List.set_cons_zero]
      iterate 4 go_step
      exact bodyPost_ret (results_ed1 Try.results15 rfl HQ1.out ⟨_, _, _, rfl⟩) rfl ⟨⟨⟨9, 0, 0, (cn : Int), 6, 0, 0, []⟩, none, 0, 0, rfl, TE.clip 9 6 cn (by decide) (by omega) (by decide) (by decide), HOT.out⟩, TQ.of (k' := k + 1 + 1 + 1) (by omega) HFI.out.1 HFI.out.2⟩
    · have hd6 : (d - 5 == 0) = false := by simp; omega
      go_upto_region 15 with fail
      obtain ⟨w6, hw⟩ : ∃ q, q = (wm.setCell ⟨g5, 3, none⟩ (.int .i64 (cn : Int))).setCell ⟨g5, 4, none⟩ (.int .i64 (d - 5)) := ⟨_, rfl⟩
      rw [← hw]
      have ht : Turn g5 wm w6 := by rw [hw]; exact ((Turn.refl _ _).trans (Turn.cell g5 3 (.int .i64 (cn : Int)) _)).trans (Turn.cell g5 4 (.int .i64 (d - 5)) _)
      replace H := Lib.hid (H.out.set ht (by rw [hw]; exact (H.out.e.set3 (cn : Int)).set4 (d - 5)))
      clear hw ht
      clear y3 f3 y4 f4
      apply wp_region_lit
      refine wpl_loadE H.out.e rfl rfl rfl ?_
      refine wpl_storeE (9) (0) (0) ((cn : Int)) (d - 5) (0) (0) none 0 0 H.out.z rfl rfl rfl rfl ?_
      intro wz q1 q2 q3 q4 q5
      have hfin := H.out.fin (Turn.ofStore q2 q3 q4)
      have HOT := Lib.hid (OT.nil wz w.heap.size)
      have HQ1 := Lib.hid q1
      have HFI := Lib.hid hfin
      clear q1 q2 q3 q4 q5 hfin
      simp only [Act.put, List.setIfInBounds_toArray, List.set_cons_succ, List.set_cons_zero]
      iterate 4 go_step
      exact bodyPost_ret (results_ed1 Try.results15 rfl HQ1.out ⟨_, _, _, rfl⟩) rfl ⟨⟨⟨9, 0, 0, (cn : Int), d - 5, 0, 0, []⟩, none, 0, 0, rfl, TE.clip 9 (d - 5) cn (by decide) (by omega) (by omega) (by omega), HOT.out⟩, TQ.of (k' := k + 1 + 1 + 1) (by omega) HFI.out.1 HFI.out.2⟩
  · clear K0 K1
    have hn1 : (1 : Int) ≤ (n : Int) + 1 := by omega
    go_wp2_with fail
    refine (next_any B p (k + 1) ((n : Int) + 1) _ H.out.t (by omega) (by omega) (by omega)).mono ?_
    rintro e wn ⟨c, rfl, c0, c1, hT_, hg_⟩
    have ht := Turn.grown hg_ H.out.t.2.1
    replace H := Lib.hid (H.out.turn ht hT_)
    clear hT_ hg_ ht
    go_wp2_with fail
    refine (speed_any B p (k + 1 + 1) _ H.out.t (by omega)).mono ?_
    rintro e wm ⟨⟨sn, sd, rfl, hsp⟩, ⟨k3, hk3, hT_⟩, ht⟩
    replace H := Lib.hid (H.out.turn ht hT_)
    have HSP := Lib.hid hsp
    have HK3 := Lib.hid hk3
    clear hsp hT_ ht hk3
    obtain ⟨cn, hcn⟩ : ∃ cn : Nat, c = (cn : Int) := ⟨c.toNat, by omega⟩
    subst hcn
    have y3 := H.out.e.k3
    have f3 := H.out.e.fz 3
    have y5 := H.out.e.k5
    have f5 := H.out.e.fz 5
    have y6 := H.out.e.k6
    have f6 := H.out.e.fz 6
    go_upto_region 15 with fail
    obtain ⟨w6, hw⟩ : ∃ q, q = ((wm.setCell ⟨g5, 3, none⟩ (.int .i64 (cn : Int))).setCell ⟨g5, 5, none⟩ (.int .i64 sn)).setCell ⟨g5, 6, none⟩ (.int .i64 sd) := ⟨_, rfl⟩
    rw [← hw]
    have ht : Turn g5 wm w6 := by rw [hw]; exact (((Turn.refl _ _).trans (Turn.cell g5 3 (.int .i64 (cn : Int)) _)).trans (Turn.cell g5 5 (.int .i64 sn) _)).trans (Turn.cell g5 6 (.int .i64 sd) _)
    replace H := Lib.hid (H.out.set ht (by rw [hw]; exact (H.out.e.set3 (cn : Int)).set56 sn sd))
    clear hw ht
    clear y3 f3 y5 f5 y6 f6
    apply wp_region_lit
    refine wpl_loadE H.out.e rfl rfl rfl ?_
    refine wpl_storeE (10) (0) (0) ((cn : Int)) (0) (sn) (sd) none 0 0 H.out.z rfl rfl rfl rfl ?_
    intro wz q1 q2 q3 q4 q5
    have hfin := H.out.fin (Turn.ofStore q2 q3 q4)
    have HOT := Lib.hid (OT.nil wz w.heap.size)
    have HQ1 := Lib.hid q1
    have HFI := Lib.hid hfin
    clear q1 q2 q3 q4 q5 hfin
    simp only [Act.put, List.setIfInBounds_toArray, List.set_cons_succ, List.set_cons_zero]
    iterate 4 go_step
    exact bodyPost_ret (results_ed1 Try.results15 rfl HQ1.out ⟨_, _, _, rfl⟩) rfl ⟨⟨⟨10, 0, 0, (cn : Int), 0, sn, sd, []⟩, none, 0, 0, rfl, TE.speed sn sd cn (by omega) HSP.out, HOT.out⟩, TQ.of (k' := k3) (by have := HK3.out; omega) HFI.out.1 HFI.out.2⟩
end Go.Proofs.Ytnmkcpgcdjhdjaa

/- What Apply answers at any edit of the tape, and the reference's SameEdit. -/
namespace Go.Proofs.Ytnmkcpgcdjhdjaa
open Go.RowKit
set_option linter.unusedVariables false
set_option linter.unusedSimpArgs false
/-- Code, track and undoing edit. -/
structure Out where
  code : Int
  u : List Trk.Clip
  b : Trk.Ed
def zeroEd : Trk.Ed := ⟨0, 0, 0, 0, 0, 0, 0, []⟩
/-- What an edit makes of a track in normal form. -/
def outOf (n : List Trk.Clip) (e : Trk.Ed) : Out :=
  if e.k ≤ 4 then ⟨0, Trk.nf (e.exl n), Trk.backOf n e.p (e.p + e.T) (Trk.undoK e.k)⟩ else
  if Trk.adjCode n e.k e.c.toNat e.d e.sn e.sd = 0 then
    ⟨0, Trk.nf (Trk.adjL n e.k e.c.toNat e.d e.sn e.sd), Trk.backOf n (Trk.fromL n e.k e.c.toNat e.d) (Trk.toL n e.k e.c.toNat e.d) (Trk.undK e.k e.d)⟩
  else ⟨Trk.adjCode n e.k e.c.toNat e.d e.sn e.sd, [], zeroEd⟩
def OutPost (w : World) (o : Out) (e : Ending) (w' : World) : Prop :=
  ∃ v' ra rl rc, e = .returned (.tuple #[v', EdV o.b (.slice ra rl rc), .int .i64 o.code]) ∧ OT w' w.heap.size v' o.u ∧ OT w' w.heap.size (.slice ra rl rc) o.b.ins ∧ Below w.heap.size w w'
theorem out_of_ed {w : World} {n l : List Trk.Clip} {a b uk : Int} {e : Ending} {w' : World} (h : EdPost w n l a b uk e w') : OutPost w ⟨0, l, Trk.backOf n a b uk⟩ e w' := by
  obtain ⟨v', vr, rfl, hou, hor, hb⟩ := h
  obtain ⟨ra, rc, rfl, -⟩ := hor.tk
  exact ⟨_, _, _, _, rfl, hou, hor, hb⟩
theorem out_of_no {w w' : World} {n : List Trk.Clip} {k : Int} {c : Nat} {d sn sd : Int} (hb : Below w.heap.size w w') :
    OutPost w ⟨Trk.adjCode n k c d sn sd, [], zeroEd⟩ (.returned (.tuple #[.slice none 0 0, edV 0 0 0 0 0 0 0 (.slice none 0 0), .int .i64 (if True then Trk.adjCode n k c d sn sd else 1)])) w' := by
  rw [if_pos trivial]
  exact ⟨_, _, _, _, rfl, OT.nil _ _, OT.nil _ _, hb⟩
theorem te_ex {n : Nat} {t : List Trk.Clip} (h : Made t) {e : Trk.Ed} (he : TE n e) (hk : e.k ≤ 4) : ExV 1000000 e ∧ e.put.length ≤ 7 ∧ e.T ≤ 63 ∧ e.p ≤ 60 := by
  cases he with
  | ins k a cl hk' a0 a1 hc =>
    obtain ⟨hE, eT, eP⟩ := insert_v hc (by decide) k a hk' a0 (by omega)
    refine ⟨hE, by rw [eP]; exact hc.n, by rw [eT]; have := hc.t2; omega, by show a ≤ 60; omega⟩
  | rem k a m hk' a0 a1 m0 m1 =>
    rcases hk' with rfl | rfl
    · exact ⟨extract_v a m a0 (by omega) m0 (by omega), by show 0 ≤ 7; decide, by show m ≤ 63; omega, by show a ≤ 60; omega⟩
    · exact ⟨lift_v a m a0 (by omega) m0 (by omega), by show 1 ≤ 7; decide, by show m ≤ 63; omega, by show a ≤ 60; omega⟩
  | clip k d c hk' hc d0 d1 => exact absurd hk (by show ¬ k ≤ 4; omega)
  | speed sn sd c hc h => exact absurd hk (by show ¬ (10 : Int) ≤ 4; decide)
theorem hee_of {t : List Trk.Clip} (h : Made t) {e : Trk.Ed} (hT : e.T ≤ 63) (hp : e.p ≤ 60) : (if e.k = 1 then max e.p (Trk.total t) else e.p) + e.T ≤ 2147483647 := by
  have := h.tt
  split <;> omega
theorem out_ok {n : Nat} {t : List Trk.Clip} (h : Made t) {e : Trk.Ed} (he : TE n e) : VT bigM (outOf t e).u ∧ Trk.Norm (outOf t e).u := by
  unfold outOf
  split
  · rename_i hk
    obtain ⟨hE, hl, hT, hp⟩ := te_ex h he hk
    have hx := exch_of h.vt hE (by have := h.l; omega) (hee_of h hT hp)
    exact ⟨hx.v.mono (by unfold bigM; decide), hx.n⟩
  split
  · rename_i hk h0
    have key : ∀ (k : Int) (c : Nat) (d sn sd : Int), (5 ≤ k ∧ k ≤ 10) → (k ≤ 9 → d ≠ 0) → d.natAbs ≤ 2147483647 → (k = 10 → Trk.SpeedOK sn sd) → Trk.adjCode t k c d sn sd = 0 → VT bigM (Trk.nf (Trk.adjL t k c d sn sd)) ∧ Trk.Norm (Trk.nf (Trk.adjL t k c d sn sd)) := by
      intro k c d sn sd h1 h2 h3 h4 h5
      obtain ⟨ha, -, -, -, hV, -⟩ := adj_of h h1 h2 h3 h4 h5
      exact ⟨ha.v, Trk.nf_norm hV.good⟩
    cases he with
    | ins k a cl hk' a0 a1 hc => exact absurd (show k ≤ 4 by omega) hk
    | rem k a m hk' a0 a1 m0 m1 => exact absurd (show k ≤ 4 by omega) hk
    | clip k d c hk' hc d0 d1 => exact key k _ d 0 0 (by omega) (fun _ => d0) (by omega) (fun h => by omega) h0
    | speed sn sd c hc hs => exact key 10 _ 0 sn sd (by decide) (fun h => by omega) (by decide) (fun _ => hs) h0
  · exact ⟨⟨Trk.VL.nil, by simp, by show (0 : Int) ≤ _; decide⟩, ⟨Trk.GoodL.nil, trivial, fun c hc => by simp at hc⟩⟩
theorem apply_out (v V : Value) (t' t : List Trk.Clip) (e : Trk.Ed) (n : Nat) (w : World) (h : Tk w v t') (hu : Tk w V e.ins) (hV : VT 1000000 t') (hM : Made t) (hnf : Trk.nf t' = t) (he : TE n e) (hn : n ≤ 1000) :
    Calls Try.prog 20 #[v, EdV e V] w (OutPost w (outOf t e)) := by
  have hl := hM.l
  by_cases hk : e.k ≤ 4
  · obtain ⟨hE, hpl, hT, hp⟩ := te_ex hM he hk
    have hx := exch_of hM.vt hE (by omega) (hee_of hM hT hp)
    have h1 := apply_x (L := 1000000) v V t' e w h hu hV hE (by decide) (by rw [hnf]; omega) (by rw [hnf]; exact hee_of hM hT hp) (by rw [hnf]; have := hx.l; omega)
    rw [hnf] at h1
    refine h1.mono fun ev w' hp => ?_
    unfold outOf
    rw [if_pos hk]
    exact out_of_ed hp
  · cases he with
    | ins k a cl hk' a0 a1 hc => exact absurd (show k ≤ 4 by omega) hk
    | rem k a m hk' a0 a1 m0 m1 => exact absurd (show k ≤ 4 by omega) hk
    | clip k d c hk' hc d0 d1 =>
      obtain ⟨ao, cap, rfl, _, hcap, -⟩ := hu
      have h1 := apply_c (L := 1000000) v t' k c d cap ao w h hV (by decide) (by rw [hnf]; omega) hk' (by omega) hcap (by omega)
      rw [hnf, decide_eq_true (show d ≠ 0 ∧ -2147483647 ≤ d ∧ d ≤ 2147483647 by omega)] at h1
      refine h1.mono fun ev w' hp => ?_
      unfold outOf
      rw [if_neg hk]
      simp only [Int.toNat_natCast]
      rcases hp with ⟨-, h0, hp⟩ | ⟨ho, rfl, hb⟩
      · rw [if_pos h0]
        exact out_of_ed hp
      · have hne : Trk.adjCode t k c d 0 0 ≠ 0 := ho.resolve_left (by decide)
        rw [if_neg hne]
        exact out_of_no hb
    | speed sn sd c hc hs =>
      obtain ⟨ao, cap, rfl, _, hcap, -⟩ := hu
      have h1 := apply_r (L := 1000000) v t' c sn sd cap ao w h hV (by decide) (by rw [hnf]; omega) (by omega) hcap hs
      rw [hnf] at h1
      refine h1.mono fun ev w' hp => ?_
      unfold outOf
      rw [if_neg hk]
      simp only [Int.toNat_natCast]
      rcases hp with ⟨-, h0, hp⟩ | ⟨ho, rfl, hb⟩
      · rw [if_pos h0]
        exact out_of_ed hp
      · have hne : Trk.adjCode t 10 c 0 sn sd ≠ 0 := ho.resolve_left (by decide)
        rw [if_neg hne]
        exact out_of_no hb
set_option maxRecDepth 100000 in
set_option maxHeartbeats 8000000 in
theorem sameedit_self (k a m c d sn sd : Int) (ao bo : Option Addr) (j cp j' cp' : Nat) (l : List Trk.Clip) (w : World) (h : Tk w (.slice ao j cp) l) (h' : Tk w (.slice bo j' cp') l) :
    Calls Try.prog 24 #[.agg (edC k a m c d sn sd (.slice ao j cp)), .agg (edC k a m c d sn sd (.slice bo j' cp'))] w fun e w' => e = .returned (.bool true) ∧ Below w.heap.size w w' := by
  have HT := Lib.hid h
  have HU := Lib.hid h'
  clear h h'
  go_enter Try.func24, Try.ntmps24
  go_upto_region 1 with fail
  obtain ⟨w1, hw1⟩ : ∃ y, y = (w.alloc (.cells (edC k a m c d sn sd (.slice ao j cp)) 26)).alloc (.cells (edC k a m c d sn sd (.slice bo j' cp')) 26) := ⟨_, rfl⟩
  rw [← hw1]
  have HE := Lib.hid (show ED w1 w.heap.size k a m c d sn sd (.slice ao j cp) by
    rw [hw1]
    exact (ED.box w k a m c d sn sd (.slice ao j cp) rfl 26).below (below_box _ _))
  have HF := Lib.hid (show ED w1 (w.heap.size + 1) k a m c d sn sd (.slice bo j' cp') by
    have h2 := ED.box (w.alloc (.cells (edC k a m c d sn sd (.slice ao j cp)) 26)) k a m c d sn sd (.slice bo j' cp') rfl 26
    rw [show (w.alloc (.cells (edC k a m c d sn sd (.slice ao j cp)) 26)).heap.size = w.heap.size + 1 by simp] at h2
    rw [hw1]
    exact h2)
  have HB := Lib.hid (show Below w.heap.size w w1 by rw [hw1]; exact ((Below.refl _ _).alloc (Nat.le_refl _) _).alloc (by simp) _)
  obtain ⟨g1, hg1⟩ : ∃ g, g = w.heap.size := ⟨_, rfl⟩
  obtain ⟨g2, hg2⟩ : ∃ g, g = w.heap.size + 1 := ⟨_, rfl⟩
  rw [← hg2] at HF ⊢
  rw [← hg1] at HE ⊢
  clear hw1 hg1 hg2
  obtain ⟨x0, x1, x2, x3, x4, x5, x6, x7, -⟩ := HE.out
  obtain ⟨y0, y1, y2, y3, y4, y5, y6, y7, -⟩ := HF.out
  go_wp2_with fail
  refine (equal_self _ _ l _ (HT.out.below HB.out) (HU.out.below HB.out)).mono ?_
  rintro e w2 ⟨rfl, hb⟩
  replace HB := Lib.hid (HB.out.trans (hb.mono HB.out.size))
  clear hb x0 x1 x2 x3 x4 x5 x6 x7 y0 y1 y2 y3 y4 y5 y6 y7
  go_wp2_with fail
  go_ret
  exact ⟨rfl, HB.out⟩
end Go.Proofs.Ytnmkcpgcdjhdjaa

/- The law of the normal form. -/
namespace Go.Proofs.Ytnmkcpgcdjhdjaa
open Go.RowKit
set_option linter.unusedVariables false
set_option linter.unusedSimpArgs false
theorem index_len (a T : Int) (h0 : 0 ≤ T) (h1 : T ≤ 1000) : ∃ k : Int, (wrap64 (wrap64 (a.tmod (T + 1) + T) + 1)).tmod (T + 1) = k ∧ 0 ≤ k ∧ k ≤ T := by
  have b := Int.tmod_lt_of_pos a (show (0 : Int) < T + 1 by omega)
  have b2 := Int.lt_tmod_of_pos a (show (0 : Int) < T + 1 by omega)
  obtain ⟨r, hr⟩ : ∃ r, r = a.tmod (T + 1) := ⟨_, rfl⟩
  rw [← hr] at b b2 ⊢
  rw [wrap_in (r + T) (by omega), wrap_in _ (by omega)]
  have c1 := Int.tmod_lt_of_pos (r + T + 1) (show (0 : Int) < T + 1 by omega)
  have c2 := Int.tmod_nonneg (T + 1) (show 0 ≤ r + T + 1 by omega)
  exact ⟨_, rfl, c2, by omega⟩
/-- A made track, cut in two, and a gap behind it. -/
theorem split_ok {t : List Trk.Clip} (h : Made t) {k : Int} (k0 : 0 ≤ k) (k1 : k ≤ Trk.total t) :
    VT 1000000 (Trk.cut t 0 k ++ Trk.cut t k (Trk.total t + 3)) ∧ Trk.nf (Trk.cut t 0 k ++ Trk.cut t k (Trk.total t + 3)) = t ∧ (Trk.cut t 0 k).length ≤ 14 ∧ (Trk.cut t k (Trk.total t + 3)).length ≤ 14 := by
  have hg := h.v.good
  have hT := h.tt
  have hl := h.l
  have c1 := Trk.cut_of hg (Int.le_refl 0) k0
  have c2 := Trk.cut_of hg k0 (show k ≤ Trk.total t + 3 by omega)
  have l1 := Trk.cut_length hg (Int.le_refl 0) k0
  have l2 := Trk.cut_length hg k0 (show k ≤ Trk.total t + 3 by omega)
  have gg := c1.g.append c2.g
  have t1 := c1.t
  have t2 := c2.t
  refine ⟨⟨(Trk.cut_vl h.v (Int.le_refl 0) k0 (by omega)).append (Trk.cut_vl h.v k0 (by omega) (by omega)), by rw [List.length_append]; omega, by rw [Trk.total_append]; omega⟩, ?_, by omega, by omega⟩
  rw [← h.n.nf]
  rw [h.n.nf]
  have h3 : Trk.nf (Trk.cut t 0 k ++ Trk.cut t k (Trk.total t + 3)) = Trk.nf t := Trk.nf_eq gg hg fun i i0 => by
    by_cases hi : i < k
    · rw [Trk.fr_append_lt _ c1.g i0 (by omega), c1.f i i0 (by omega)]
      congr 1; omega
    · rw [Trk.fr_append_ge _ c1.g (by omega)]
      by_cases hj : i < Trk.total t + 3
      · rw [c2.f _ (by omega) (by omega)]
        congr 1; omega
      · rw [Trk.fr_beyond c2.g (by omega), Trk.fr_beyond hg (by omega)]
  rw [h3, h.n.nf]
set_option maxRecDepth 100000 in
set_option maxHeartbeats 16000000 in
theorem law_normal (v : Value) (a : Int) (w : World) (h : Ints w v) :
    Calls Try.prog 5 #[v, .int .i64 a] w fun e w' => e = .returned (.bool true) ∧ Below w.heap.size w w' := by
  have HMA := Lib.hid (made_any v w h)
  clear h
  go_enter Try.func5, Try.ntmps5
  go_wp2_with fail
  refine HMA.out.mono ?_
  rintro e w1 ⟨vt, t, p, k', rfl, ho, hmd, htp, hk', hb⟩
  have HO := Lib.hid ho
  have HM := Lib.hid hmd
  have HB := Lib.hid hb
  have HT := Lib.hid htp
  have HK := Lib.hid hk'
  have HPB := Lib.hid htp.1
  have HP1 := Lib.hid htp.2.1
  clear ho hmd htp hk' hb HMA
  obtain ⟨ta, tc, rfl, htc⟩ := HO.out.tk
  clear htc
  obtain ⟨N, hN⟩ : ∃ N, N = t.length := ⟨_, rfl⟩
  have hN2 : N ≤ 13 := by rw [hN]; exact HM.out.l
  rw [← hN] at HO ⊢
  have HN := Lib.hid hN
  clear hN
  have HTE0 := Lib.hid (tedit_any w.heap.size p k' N w1 HT.out (by have := HK.out; omega) (by omega))
  go_wp2_with fail
  refine HTE0.out.mono ?_
  rintro e w2 ⟨⟨ed, ao, l, cp, rfl, hte, hcl⟩, ⟨k2, hk2, hT_⟩, ht⟩
  replace HO := Lib.hid (HO.out.tape HM.out.ne HT.out ht)
  replace HB := Lib.hid (ht.b _ _ HPB.out HB.out)
  have HTE := Lib.hid hte
  have HCL := Lib.hid hcl
  clear hte hcl hk2 hT_ ht HTE0 HT HK HPB HP1
  unfold EdV edV
  try dsimp only
  iterate 4 go_step
  have hv : ED (w2.alloc (.cells (edC 0 0 0 0 0 0 0 (.slice none 0 0)) 26)) w2.heap.size 0 0 0 0 0 0 0 (.slice none 0 0) := ED.box w2 0 0 0 0 0 0 0 (.slice none 0 0) rfl 26
  have hb0 : Below w2.heap.size w2 (w2.alloc (.cells (edC 0 0 0 0 0 0 0 (.slice none 0 0)) 26)) := below_box _ _
  refine wpl_storeE ed.k ed.p ed.m ed.c ed.d ed.sn ed.sd ao l cp hv rfl rfl rfl rfl ?_
  intro w3 q1 q2 q3 q4 q5
  have hb : Below w2.heap.size w2 w3 := q4 _ _ (Nat.le_refl _) hb0
  have HE7 := Lib.hid q1
  obtain ⟨g7, hgE⟩ : ∃ g, g = w2.heap.size := ⟨_, rfl⟩
  rw [← hgE] at HE7 ⊢
  clear q1 q2 q3 q4 q5 hb0 hv hgE
  replace HO := Lib.hid (HO.out.below hb)
  replace HCL := Lib.hid (HCL.out.below hb)
  replace HB := Lib.hid (HB.out.trans (hb.mono HB.out.size))
  clear hb
  simp only [Act.put, List.setIfInBounds_toArray, List.set_cons_succ, List.set_cons_zero]
  have HAP := Lib.hid (fun v' t' w (h : Tk w v' t') (hu : Tk w (.slice ao l cp) ed.ins) (hV : VT 1000000 t') (hnf : Trk.nf t' = t) => apply_out v' (.slice ao l cp) t' t ed N w h hu hV HM.out hnf HTE.out (by omega))
  have HOK := Lib.hid (out_ok HM.out HTE.out)
  obtain ⟨O, hO⟩ : ∃ O, O = outOf t ed := ⟨_, rfl⟩
  rw [← hO] at HAP HOK
  clear hO HTE
  go_upto_region 3 with fail
  apply wp_region_lit
  iterate 3 go_step
  refine wpl_loadE HE7.out rfl rfl rfl ?_
  iterate 2 go_step
  refine (HAP.out _ t _ HO.out.tk HCL.out.tk HM.out.vt HM.out.n.nf).mono ?_
  rintro e w4 ⟨vu, ra, rl, rc, rfl, hou, hor, hb⟩
  have HU := Lib.hid hou
  have HR := Lib.hid hor
  replace HO := Lib.hid (HO.out.below hb)
  replace HCL := Lib.hid (HCL.out.below hb)
  replace HE7 := Lib.hid (HE7.out.below hb)
  replace HB := Lib.hid (HB.out.trans (hb.mono HB.out.size))
  clear hb
  clear hou hor
  unfold EdV edV
  try dsimp only
  iterate 19 go_step
  have hv : ED (w4.alloc (.cells (edC 0 0 0 0 0 0 0 (.slice none 0 0)) 26)) w4.heap.size 0 0 0 0 0 0 0 (.slice none 0 0) := ED.box w4 0 0 0 0 0 0 0 (.slice none 0 0) rfl 26
  have hb0 : Below w4.heap.size w4 (w4.alloc (.cells (edC 0 0 0 0 0 0 0 (.slice none 0 0)) 26)) := below_box _ _
  refine wpl_storeE O.b.k O.b.p O.b.m O.b.c O.b.d O.b.sn O.b.sd ra rl rc hv rfl rfl rfl rfl ?_
  intro w5 q1 q2 q3 q4 q5
  have hb : Below w4.heap.size w4 w5 := q4 _ _ (Nat.le_refl _) hb0
  have HE9 := Lib.hid q1
  obtain ⟨g9, hgE⟩ : ∃ g, g = w4.heap.size := ⟨_, rfl⟩
  rw [← hgE] at HE9 ⊢
  clear q1 q2 q3 q4 q5 hb0 hv hgE
  replace HO := Lib.hid (HO.out.below hb)
  replace HCL := Lib.hid (HCL.out.below hb)
  replace HE7 := Lib.hid (HE7.out.below hb)
  replace HU := Lib.hid (HU.out.below hb)
  replace HR := Lib.hid (HR.out.below hb)
  replace HB := Lib.hid (HB.out.trans (hb.mono HB.out.size))
  clear hb
  simp only [Act.put, List.setIfInBounds_toArray, List.set_cons_succ, List.set_cons_zero]
  have HLN := Lib.hid (fun w (h : Tk w (.slice ta N tc) t) => length_any (.slice ta N tc) t w h HM.out.vt (by decide))
  have HSP := Lib.hid (fun k (k0 : 0 ≤ k) (k1 : k ≤ Trk.total t) => split_ok HM.out k0 k1)
  have T0 := Trk.total_nonneg HM.out.v.good
  have T1 := HM.out.tt
  obtain ⟨T, hT⟩ : ∃ T, T = Trk.total t := ⟨_, rfl⟩
  rw [← hT] at HLN HSP T0 T1
  clear hT
  go_wp2_with fail
  refine (HLN.out _ HO.out.tk).mono ?_
  rintro e w6 ⟨rfl, hb⟩
  replace HO := Lib.hid (HO.out.below hb)
  replace HCL := Lib.hid (HCL.out.below hb)
  replace HE7 := Lib.hid (HE7.out.below hb)
  replace HE9 := Lib.hid (HE9.out.below hb)
  replace HU := Lib.hid (HU.out.below hb)
  replace HR := Lib.hid (HR.out.below hb)
  replace HB := Lib.hid (HB.out.trans (hb.mono HB.out.size))
  clear hb
  go_upto_region 6 with fail
  obtain ⟨k, hk, k0, k1⟩ := index_len a T T0 (by omega)
  rw [hk]
  clear hk
  have HVT := Lib.hid (HSP.out k k0 k1)
  obtain ⟨P, hP⟩ : ∃ P, P = Trk.cut t 0 k := ⟨_, rfl⟩
  obtain ⟨Q, hQ⟩ : ∃ Q, Q = Trk.cut t k (T + 3) := ⟨_, rfl⟩
  rw [← hP, ← hQ] at HVT
  have HC1 := Lib.hid (fun w (h : Tk w (.slice ta N tc) t) => cut_any (L := 1000000) (.slice ta N tc) t 0 k w h HM.out.vt (by decide) (by omega) (by omega) (by omega) (by rw [← hP]; have := HVT.out.2.2.1; omega))
  have HC2 := Lib.hid (fun w (h : Tk w (.slice ta N tc) t) => cut_any (L := 1000000) (.slice ta N tc) t k (T + 3) w h HM.out.vt (by decide) (by omega) (by omega) (by omega) (by rw [← hQ]; have := HVT.out.2.2.2; omega))
  unfold CutPost at HC1 HC2
  rw [← hP] at HC1
  rw [← hQ] at HC2
  clear hP hQ HSP
  go_wp2_with fail
  refine (HC1.out _ HO.out.tk).mono ?_
  rintro e w7 ⟨vp, rfl, hop, hb⟩
  have HP := Lib.hid hop
  have HW := Lib.hid hb
  clear hop hb
  go_wp2_with fail
  refine (HC2.out _ (HO.out.below HW.out).tk).mono ?_
  rintro e w8 ⟨vq, rfl, hoq, hb⟩
  have HQ := Lib.hid hoq.tk
  replace HP := Lib.hid (HP.out.below hb)
  replace HW := Lib.hid (HW.out.trans (hb.mono HW.out.size))
  clear hoq hb HC1 HC2
  go_upto_region 8 with fail
  go_cut [17, 18, 19] from 62 (fun v17 v18 v19 wx => ∃ g18 sa sl sc, v18 = .pointer (some ⟨g18, 0, none⟩) ∧ v19 = .int .i64 O.code ∧ OT wx w6.heap.size v17 O.u ∧ OT wx w6.heap.size (.slice sa sl sc) O.b.ins ∧ ED wx g18 O.b.k O.b.p O.b.m O.b.c O.b.d O.b.sn O.b.sd (.slice sa sl sc) ∧ Below w6.heap.size w6 wx)
  case first J K' h1' h2' =>
    refine Plan.wp_region_tree (fun w' => ED w' g7 ed.k ed.p ed.m ed.c ed.d ed.sn ed.sd (.slice ao l cp)) (.run ([0, 1, 3].map (·, true)) (.fork 2 (.fork 4 (.run (([5, 6, 7, 8].map (·, true)) ++ (([9].map (·, false)) ++ (([10].map (·, true)) ++ (([11].map (·, false)) ++ ([12].map (·, true)))))) .leaf) 9 (.run (([4].map (·, false)) ++ (([5, 6, 7, 8].map (·, true)) ++ (([10].map (·, true)) ++ (([11].map (·, false)) ++ ([12].map (·, true)))))) .leaf)) 9 (.run (([2, 4].map (·, false)) ++ (([5, 6, 7, 8].map (·, true)) ++ (([10].map (·, true)) ++ (([11].map (·, false)) ++ ([12].map (·, true)))))) .leaf))) (by kernel_rfl) (by kernel_rfl) (by kernel_rfl) (HE7.out.below HW.out.drew) ?_
    obtain ⟨wa, hwa⟩ : ∃ q, q = w8.drew := ⟨_, rfl⟩
    rw [← hwa]
    have hb : Below w8.heap.size w8 wa := by rw [hwa]; exact (Below.refl _ _).drew
    replace HP := Lib.hid (HP.out.below hb)
    replace HQ := Lib.hid (HQ.out.below hb)
    replace HW := Lib.hid (HW.out.trans (hb.mono HW.out.size))
    clear hb hwa
    refine Plan.tree_run ?_
    refine' Plan.plan_seg _ [0, 1, 3] ([]) (by kernel_rfl) (by kernel_rfl) rfl (by exact HE7.out.below HW.out) (fun wx hS => ?_) ?_
    rotate_left
    · have HS := Lib.hid hS
      clear hS
      go_light
      iterate 2 (apply Plan.seg_pick; rfl; intro K hK; go_wp)
      (apply Plan.seg_pick; rfl; intro K hK)
      refine wpl_loadE HS.out rfl rfl rfl ?_
      go_wp
      exact Plan.seg_nil
    refine Plan.plan_nil ?_
    refine Plan.tree_fork ?_ ?_
    ·
      refine Plan.op_of_list rfl (fun K hK => ?_)
      refine wpList_appTo wa 35 35 (some 65) rfl Try.underlying35 Try.underlying35 rfl (.tmp 63) (.tmp 64) rfl w6.heap.size vp vq P Q rfl rfl HP.out HW.out.size HQ.out (by have := HVT.out.2.2.1; have := HVT.out.2.2.2; omega) ?_
      intro vz wb q1 q2 q3 q4
      have HV2 := Lib.hid q1
      replace HW := Lib.hid (HW.out.trans q2)
      clear q1 q2 q3 q4
      simp only [Act.put, List.setIfInBounds_toArray, List.set_cons_succ, List.set_cons_zero]
      go_wp2_with fail
      refine ⟨HE7.out.below HW.out, ?_⟩
      refine Plan.tree_fork ?_ ?_
      ·
          refine Plan.op_of_list rfl (fun K hK => ?_)
          go_wp2_with fail
          refine (HAP.out _ (P ++ Q) _ HV2.out.tk (HCL.out.below HW.out).tk HVT.out.1 HVT.out.2.1).mono ?_
          rintro e' wc ⟨vw, sa, sl, sc, rfl, hou, hor, hb⟩
          have HX := Lib.hid (hou.lower HW.out.size)
          have HY := Lib.hid (hor.lower HW.out.size)
          replace HW := Lib.hid (HW.out.trans (hb.mono HW.out.size))
          clear hou hor hb
          unfold EdV edV
          try dsimp only
          go_wp2_with fail
          refine ⟨HE7.out.below HW.out, ?_⟩
          refine Plan.tree_run ?_
          refine' Plan.plan_seg _ [5, 6, 7, 8] ((([9].map (·, false)) ++ (([10].map (·, true)) ++ (([11].map (·, false)) ++ ([12].map (·, true)))))) (by kernel_rfl) (by kernel_rfl) rfl (by exact HE7.out.below HW.out) (fun wx hS => ?_) ?_
          rotate_left
          · clear hS
            go_light
            iterate 4 (apply Plan.seg_pick; rfl; intro K hK; go_wp)
            exact Plan.seg_nil
          refine Plan.plan_of_effect rfl (fun K hK => ?_)
          go_wp2_with fail
          obtain ⟨wd, hw⟩ : ∃ q, q = wc.alloc (.cells #[.int .i64 0, .int .i64 0, .int .i64 0, .int .i64 0, .int .i64 0, .int .i64 0, .int .i64 0, .slice none 0 0] 26) := ⟨_, rfl⟩
          rw [← hw]
          have HZ := Lib.hid (show ED wd wc.heap.size 0 0 0 0 0 0 0 (.slice none 0 0) by rw [hw]; exact ED.box wc 0 0 0 0 0 0 0 (.slice none 0 0) rfl 26)
          have HT26 := Lib.hid (show T26 wd wc.heap.size by rw [hw]; exact ⟨_, _, (MapKept.heap_alloc wc _).1⟩)
          have hbx : Below wc.heap.size wc wd := by rw [hw]; exact below_box _ _
          obtain ⟨g18, hg18⟩ : ∃ q, q = wc.heap.size := ⟨_, rfl⟩
          have HGE := Lib.hid (show w6.heap.size ≤ g18 by rw [hg18]; exact HW.out.size)
          rw [← hg18] at HZ HT26 ⊢
          replace HW := Lib.hid (HW.out.trans (hbx.mono HW.out.size))
          replace HX := Lib.hid (HX.out.below hbx)
          replace HY := Lib.hid (HY.out.below hbx)
          clear hbx hg18 hw
          refine ⟨HE7.out.below HW.out, ?_⟩
          refine' Plan.plan_seg _ [10] ((([11].map (·, false)) ++ ([12].map (·, true)))) (by kernel_rfl) (by kernel_rfl) rfl (by exact HE7.out.below HW.out) (fun wx hS => ?_) ?_
          rotate_left
          · clear hS
            go_light
            iterate 1 (apply Plan.seg_pick; rfl; intro K hK; go_wp)
            exact Plan.seg_nil
          refine Plan.plan_of_effect rfl (fun K hK => ?_)
          refine wpl_storeE O.b.k O.b.p O.b.m O.b.c O.b.d O.b.sn O.b.sd sa sl sc HZ.out rfl rfl rfl rfl ?_
          intro wz q1 q2 q3 q4 q5
          have HZ2 := Lib.hid q1
          have HX2 := Lib.hid (HX.out.blocks (fun g kk cap e => q2 g (HT26.out.ne HX.out g kk cap e).symm))
          have HY2 := Lib.hid (HY.out.blocks (fun g kk cap e => q2 g (HT26.out.ne HY.out g kk cap e).symm))
          replace HW := Lib.hid (q4 _ _ HGE.out HW.out)
          clear q1 q2 q3 q4 q5
          simp only [Act.put, List.setIfInBounds_toArray, List.set_cons_succ, List.set_cons_zero]
          go_wp2_with fail
          refine ⟨HE7.out.below HW.out, ?_⟩
          refine' Plan.plan_seg _ [12] ([]) (by kernel_rfl) (by kernel_rfl) rfl (by exact HE7.out.below HW.out) (fun wx hS => ?_) ?_
          rotate_left
          · clear hS
            go_light
            iterate 1 (apply Plan.seg_pick; rfl; intro K hK; go_wp)
            exact Plan.seg_nil
          refine Plan.plan_nil ?_
          refine Plan.tree_leaf ?_
          refine h2' _ _ (Met.intro (h1' _ _ ?_))
          (repeat apply Exists.intro)
          exact ⟨⟨g18, sa, sl, sc, rfl, rfl, HX2.out, HY2.out, HZ2.out, HW.out⟩, rfl⟩
      ·
          refine Plan.op_of_list rfl (fun K hK => ?_)
          go_wp2_with fail
          obtain ⟨wc, hw⟩ : ∃ q, q = wb.alloc (.cells #[.int .i64 0, .int .i64 0, .int .i64 0, .int .i64 0, .int .i64 0, .int .i64 0, .int .i64 0, .slice none 0 0] 26) := ⟨_, rfl⟩
          rw [← hw]
          have HZ := Lib.hid (show ED wc wb.heap.size 0 0 0 0 0 0 0 (.slice none 0 0) by rw [hw]; exact ED.box wb 0 0 0 0 0 0 0 (.slice none 0 0) rfl 26)
          have HT26 := Lib.hid (show T26 wc wb.heap.size by rw [hw]; exact ⟨_, _, (MapKept.heap_alloc wb _).1⟩)
          have hbx : Below wb.heap.size wb wc := by rw [hw]; exact below_box _ _
          obtain ⟨g18, hg18⟩ : ∃ q, q = wb.heap.size := ⟨_, rfl⟩
          have HGE := Lib.hid (show w6.heap.size ≤ g18 by rw [hg18]; exact HW.out.size)
          rw [← hg18] at HZ HT26 ⊢
          replace HW := Lib.hid (HW.out.trans (hbx.mono HW.out.size))
          replace HV2 := Lib.hid (HV2.out.below hbx)
          clear hbx hg18 hw
          refine ⟨HE7.out.below HW.out, ?_⟩
          refine Plan.tree_run ?_
          refine Plan.plan_of_effect rfl (fun K hK => ?_)
          go_wp2_with fail
          refine (HAP.out _ (P ++ Q) _ HV2.out.tk (HCL.out.below HW.out).tk HVT.out.1 HVT.out.2.1).mono ?_
          rintro e' wd ⟨vw, sa, sl, sc, rfl, hou, hor, hb⟩
          have HX := Lib.hid (hou.lower HW.out.size)
          have HY := Lib.hid (hor.lower HW.out.size)
          replace HT26 := Lib.hid (HT26.out.same (hb.block _ HZ.out.lt))
          replace HZ := Lib.hid (HZ.out.below hb)
          replace HW := Lib.hid (HW.out.trans (hb.mono HW.out.size))
          clear hou hor hb
          unfold EdV edV
          try dsimp only
          go_wp2_with fail
          refine ⟨HE7.out.below HW.out, ?_⟩
          refine' Plan.plan_seg _ [5, 6, 7, 8] ((([10].map (·, true)) ++ (([11].map (·, false)) ++ ([12].map (·, true))))) (by kernel_rfl) (by kernel_rfl) rfl (by exact HE7.out.below HW.out) (fun wx hS => ?_) ?_
          rotate_left
          · clear hS
            go_light
            iterate 4 (apply Plan.seg_pick; rfl; intro K hK; go_wp)
            exact Plan.seg_nil
          refine' Plan.plan_seg _ [10] ((([11].map (·, false)) ++ ([12].map (·, true)))) (by kernel_rfl) (by kernel_rfl) rfl (by exact HE7.out.below HW.out) (fun wx hS => ?_) ?_
          rotate_left
          · clear hS
            go_light
            iterate 1 (apply Plan.seg_pick; rfl; intro K hK; go_wp)
            exact Plan.seg_nil
          refine Plan.plan_of_effect rfl (fun K hK => ?_)
          refine wpl_storeE O.b.k O.b.p O.b.m O.b.c O.b.d O.b.sn O.b.sd sa sl sc HZ.out rfl rfl rfl rfl ?_
          intro wz q1 q2 q3 q4 q5
          have HZ2 := Lib.hid q1
          have HX2 := Lib.hid (HX.out.blocks (fun g kk cap e => q2 g (HT26.out.ne HX.out g kk cap e).symm))
          have HY2 := Lib.hid (HY.out.blocks (fun g kk cap e => q2 g (HT26.out.ne HY.out g kk cap e).symm))
          replace HW := Lib.hid (q4 _ _ HGE.out HW.out)
          clear q1 q2 q3 q4 q5
          simp only [Act.put, List.setIfInBounds_toArray, List.set_cons_succ, List.set_cons_zero]
          go_wp2_with fail
          refine ⟨HE7.out.below HW.out, ?_⟩
          refine' Plan.plan_seg _ [12] ([]) (by kernel_rfl) (by kernel_rfl) rfl (by exact HE7.out.below HW.out) (fun wx hS => ?_) ?_
          rotate_left
          · clear hS
            go_light
            iterate 1 (apply Plan.seg_pick; rfl; intro K hK; go_wp)
            exact Plan.seg_nil
          refine Plan.plan_nil ?_
          refine Plan.tree_leaf ?_
          refine h2' _ _ (Met.intro (h1' _ _ ?_))
          (repeat apply Exists.intro)
          exact ⟨⟨g18, sa, sl, sc, rfl, rfl, HX2.out, HY2.out, HZ2.out, HW.out⟩, rfl⟩
    ·
          refine Plan.op_of_list rfl (fun K hK => ?_)
          go_wp2_with fail
          obtain ⟨wb, hw⟩ : ∃ q, q = wa.alloc (.cells #[.int .i64 0, .int .i64 0, .int .i64 0, .int .i64 0, .int .i64 0, .int .i64 0, .int .i64 0, .slice none 0 0] 26) := ⟨_, rfl⟩
          rw [← hw]
          have HZ := Lib.hid (show ED wb wa.heap.size 0 0 0 0 0 0 0 (.slice none 0 0) by rw [hw]; exact ED.box wa 0 0 0 0 0 0 0 (.slice none 0 0) rfl 26)
          have HT26 := Lib.hid (show T26 wb wa.heap.size by rw [hw]; exact ⟨_, _, (MapKept.heap_alloc wa _).1⟩)
          have hbx : Below wa.heap.size wa wb := by rw [hw]; exact below_box _ _
          obtain ⟨g18, hg18⟩ : ∃ q, q = wa.heap.size := ⟨_, rfl⟩
          have HGE := Lib.hid (show w6.heap.size ≤ g18 by rw [hg18]; exact HW.out.size)
          rw [← hg18] at HZ HT26 ⊢
          replace HW := Lib.hid (HW.out.trans (hbx.mono HW.out.size))
          replace HP := Lib.hid (HP.out.below hbx)
          replace HQ := Lib.hid (HQ.out.below hbx)
          clear hbx hg18 hw
          refine ⟨HE7.out.below HW.out, ?_⟩
          refine Plan.tree_run ?_
          refine Plan.plan_of_effect rfl (fun K hK => ?_)
          refine wpList_appTo wb 35 35 (some 65) rfl Try.underlying35 Try.underlying35 rfl (.tmp 63) (.tmp 64) rfl w6.heap.size vp vq P Q rfl rfl HP.out HW.out.size HQ.out (by have := HVT.out.2.2.1; have := HVT.out.2.2.2; omega) ?_
          intro vz wc q1 q2 q3 q4
          have HV2 := Lib.hid q1
          have hq3 := q3 g18 HZ.out.lt (fun g cap e => HT26.out.ne HP.out g _ cap e)
          replace HZ := Lib.hid (HZ.out.same hq3)
          replace HT26 := Lib.hid (HT26.out.same hq3)
          clear hq3
          replace HW := Lib.hid (HW.out.trans q2)
          clear q1 q2 q3 q4
          simp only [Act.put, List.setIfInBounds_toArray, List.set_cons_succ, List.set_cons_zero]
          go_wp2_with fail
          refine ⟨HE7.out.below HW.out, ?_⟩
          refine Plan.plan_of_effect rfl (fun K hK => ?_)
          go_wp2_with fail
          refine (HAP.out _ (P ++ Q) _ HV2.out.tk (HCL.out.below HW.out).tk HVT.out.1 HVT.out.2.1).mono ?_
          rintro e' wd ⟨vw, sa, sl, sc, rfl, hou, hor, hb⟩
          have HX := Lib.hid (hou.lower HW.out.size)
          have HY := Lib.hid (hor.lower HW.out.size)
          replace HT26 := Lib.hid (HT26.out.same (hb.block _ HZ.out.lt))
          replace HZ := Lib.hid (HZ.out.below hb)
          replace HW := Lib.hid (HW.out.trans (hb.mono HW.out.size))
          clear hou hor hb
          unfold EdV edV
          try dsimp only
          go_wp2_with fail
          refine ⟨HE7.out.below HW.out, ?_⟩
          refine' Plan.plan_seg _ [5, 6, 7, 8] ((([10].map (·, true)) ++ (([11].map (·, false)) ++ ([12].map (·, true))))) (by kernel_rfl) (by kernel_rfl) rfl (by exact HE7.out.below HW.out) (fun wx hS => ?_) ?_
          rotate_left
          · clear hS
            go_light
            iterate 4 (apply Plan.seg_pick; rfl; intro K hK; go_wp)
            exact Plan.seg_nil
          refine' Plan.plan_seg _ [10] ((([11].map (·, false)) ++ ([12].map (·, true)))) (by kernel_rfl) (by kernel_rfl) rfl (by exact HE7.out.below HW.out) (fun wx hS => ?_) ?_
          rotate_left
          · clear hS
            go_light
            iterate 1 (apply Plan.seg_pick; rfl; intro K hK; go_wp)
            exact Plan.seg_nil
          refine Plan.plan_of_effect rfl (fun K hK => ?_)
          refine wpl_storeE O.b.k O.b.p O.b.m O.b.c O.b.d O.b.sn O.b.sd sa sl sc HZ.out rfl rfl rfl rfl ?_
          intro wz q1 q2 q3 q4 q5
          have HZ2 := Lib.hid q1
          have HX2 := Lib.hid (HX.out.blocks (fun g kk cap e => q2 g (HT26.out.ne HX.out g kk cap e).symm))
          have HY2 := Lib.hid (HY.out.blocks (fun g kk cap e => q2 g (HT26.out.ne HY.out g kk cap e).symm))
          replace HW := Lib.hid (q4 _ _ HGE.out HW.out)
          clear q1 q2 q3 q4 q5
          simp only [Act.put, List.setIfInBounds_toArray, List.set_cons_succ, List.set_cons_zero]
          go_wp2_with fail
          refine ⟨HE7.out.below HW.out, ?_⟩
          refine' Plan.plan_seg _ [12] ([]) (by kernel_rfl) (by kernel_rfl) rfl (by exact HE7.out.below HW.out) (fun wx hS => ?_) ?_
          rotate_left
          · clear hS
            go_light
            iterate 1 (apply Plan.seg_pick; rfl; intro K hK; go_wp)
            exact Plan.seg_nil
          refine Plan.plan_nil ?_
          refine Plan.tree_leaf ?_
          refine h2' _ _ (Met.intro (h1' _ _ ?_))
          (repeat apply Exists.intro)
          exact ⟨⟨g18, sa, sl, sc, rfl, rfl, HX2.out, HY2.out, HZ2.out, HW.out⟩, rfl⟩
  obtain ⟨g18, sa, sl, sc, rfl, rfl, hx, hy, hz, hb⟩ := hcut
  have HX := Lib.hid hx
  have HY := Lib.hid hy
  have HZ := Lib.hid hz
  replace HU := Lib.hid (HU.out.below hb)
  replace HR := Lib.hid (HR.out.below hb)
  replace HE9 := Lib.hid (HE9.out.below hb)
  replace HB := Lib.hid (HB.out.trans (hb.mono HB.out.size))
  clear hb
  clear hx hy hz HO HCL HE7 HP HQ HVT HAP HW HLN
  have HNO := Lib.hid (fun w (h : Tk w vu O.u) => normal_any (L := bigM) vu O.u w h HOK.out.1 bigM_le)
  rw [HOK.out.2.nf] at HNO
  unfold OTPost at HNO
  obtain ⟨cd, hcd⟩ : ∃ q, q = O.code := ⟨_, rfl⟩
  obtain ⟨U, hU⟩ : ∃ q, q = O.u := ⟨_, rfl⟩
  obtain ⟨⟨bk, bp, bm, bc, bd, bsn, bsd, bi⟩, hbb⟩ : ∃ q, q = O.b := ⟨_, rfl⟩
  rw [← hcd]
  rw [← hU] at HNO HU HX
  rw [← hbb] at HR HY HZ HE9 ⊢
  clear hcd hU hbb HOK
  simp only at HR HY HZ HE9 ⊢
  obtain ⟨x0, x1, x2, x3, x4, x5, x6, x7, -⟩ := HE9.out
  obtain ⟨y0, y1, y2, y3, y4, y5, y6, y7, -⟩ := HZ.out
  go_wp2_with fail
  refine (equal_self _ _ U _ HU.out.tk HX.out.tk).mono ?_
  rintro e w10 ⟨rfl, hb⟩
  replace HU := Lib.hid (HU.out.below hb)
  replace HR := Lib.hid (HR.out.below hb)
  replace HY := Lib.hid (HY.out.below hb)
  replace HE9 := Lib.hid (HE9.out.below hb)
  replace HZ := Lib.hid (HZ.out.below hb)
  replace HB := Lib.hid (HB.out.trans (hb.mono HB.out.size))
  clear hb
  clear x0 x1 x2 x3 x4 x5 x6 x7 y0 y1 y2 y3 y4 y5 y6 y7 HX
  obtain ⟨x0, x1, x2, x3, x4, x5, x6, x7, -⟩ := HE9.out
  obtain ⟨y0, y1, y2, y3, y4, y5, y6, y7, -⟩ := HZ.out
  go_wp2_with fail
  refine (sameedit_self bk bp bm bc bd bsn bsd ra sa rl rc sl sc bi _ HR.out.tk HY.out.tk).mono ?_
  rintro e w11 ⟨rfl, hb⟩
  replace HU := Lib.hid (HU.out.below hb)
  replace HB := Lib.hid (HB.out.trans (hb.mono HB.out.size))
  clear hb
  clear x0 x1 x2 x3 x4 x5 x6 x7 y0 y1 y2 y3 y4 y5 y6 y7 HR HY HE9 HZ
  go_wp2_with fail
  refine (HNO.out _ HU.out.tk).mono ?_
  rintro e w12 ⟨vn, rfl, hon, hb⟩
  have HN2 := Lib.hid hon.tk
  replace HU := Lib.hid (HU.out.below hb)
  replace HB := Lib.hid (HB.out.trans (hb.mono HB.out.size))
  clear hb hon HNO
  go_wp2_with fail
  refine (equal_self _ _ U _ HN2.out HU.out.tk).mono ?_
  rintro e w13 ⟨rfl, hb⟩
  replace HB := Lib.hid (HB.out.trans (hb.mono HB.out.size))
  clear hb
  go_wp2_with fail
  refine (awake_any _).mono ?_
  rintro e w8 ⟨rfl, hb⟩
  replace HB := Lib.hid (HB.out.trans (hb.mono HB.out.size))
  clear hb
  go_wp2_with fail
  go_ret
  exact ⟨rfl, HB.out⟩
end Go.Proofs.Ytnmkcpgcdjhdjaa


namespace Go.Proofs.Ytnmkcpgcdjhdjaa.editsNormal
open Go.ChangeShapes Go.WideShapes Go.ChangeAt Go.RowKit
set_option linter.unusedVariables false

theorem own : ownKnob Try.prog.godebug = none := by kernel_rfl

set_option maxRecDepth 100000 in
theorem lifted (os : Os) (started : os.Started) (H : Type) (enc : TypeId × Value → H) :
    ReturnsInHanded {} Try.checked os 5 .any (Rows.editsNormalSpec.pre6 enc Try.prog Try.f5 Rows.editsNormalRow.domain false) (Rows.editsNormalSpec.post enc Try.prog Try.f5 false true false false) := by
  refine returnsInHanded_of_change (C := Try.checked) own started (by kernel_rfl) Try.func5
    (ChangeSpec.witness6 (enc := enc) (C := Try.checked) false ⟨#[], #[.slice none 0 0, .int .i64 0], []⟩ 8 (by kernel_rfl) (by kernel_rfl) (by kernel_rfl) (by kernel_rfl)) ?_
  intro W base args ds gs before hval0 hW hcnd _
  have hval : ∀ (j : Nat) t v, Try.f5.params[j]? = some t → args[j]? = some v → Value.okWide Try.prog W .any base t v := hval0
  have hW' := hW
  obtain ⟨p, q, hA0, hV, rfl, hfz, hnd⟩ := hW
  have hA : DataW.TrodAll enc Try.prog W 0 (fun _ => true) true Try.f5.params.toList args.toList ds p := hA0
  have hAk := hA
  rw [Try.params5] at hA hval
  obtain ⟨v0, vs0, d0, ds0, p0, q0, hargs, rfl, rfl, h0, r0⟩ := trodAll_cons hA
  obtain ⟨v1, vs1, d1, ds1, p1, q1, rfl, rfl, rfl, h1, r1⟩ := trodAll_cons r0
  obtain ⟨rfl, rfl, rfl⟩ := trodAll_nil r1
  obtain rfl : args = #[v0, v1] := by cases args; simp_all
  obtain ⟨rfl, rfl⟩ := trodVars_none hV
  have hr0 := open_tape (hval 0 27 v0 rfl rfl) h0
  obtain ⟨a1, rfl, rfl, rfl, w1⟩ := open_int Try.underlying2 (hval 1 2 v1 rfl rfl) h1
  have x1 : -9223372036854775808 ≤ a1 ∧ a1 ≤ 9223372036854775807 := by simpa [Lit.wf, IntKind.min, IntKind.max, IntKind.signed, IntKind.bits] using w1
  simp only [List.append_nil] at hW' hAk
  refine (law_normal v0 a1 W hr0).mono fun e W' ⟨he, hg⟩ => ?_
  subst he
  exact ⟨_, rfl, post_of_below (pv := []) hW' (fun _ _ _ => (trodAll_cons_mk (shut_bool Try.underlying4 _) trodAll_mk0)) (fun sp hsp => trodAll_stays laid_out hg (by kernel_rfl) hAk (fun x hx => hW'.lt x (by simpa using hx)) (fun x hx => hsp x (by simpa using hx))) (fun _ _ => rfl) (by simp)
    hg (ok_one (by kernel_rfl) rfl (okWide_bool_mk Try.underlying4 _))⟩

theorem over : Rows.editsNormalRow.holds Try.pinned (OpenSpec.ofChange Rows.editsNormalSpec) :=
  OpenClaim.holds_of_wide 5 Try.f5 rfl rfl rfl rfl rfl rfl rfl ⟨rfl, rfl, rfl, rfl, rfl⟩ rfl rfl rfl rfl rfl (by kernel_rfl) Try.func5 (by kernel_rfl)
    (of_decide_eq_true (by kernel_rfl)) (by unfold Func.isWrapper; first | (rw [if_pos (by decide +kernel)]; kernel_rfl) | (rw [if_neg (by decide +kernel)]; exact ⟨rfl, rfl⟩))
    (fun os started H enc _ => lifted os started H enc)

/-- The statement. -/
theorem proved : Rows.EditsNormalSaid :=
  over
end Go.Proofs.Ytnmkcpgcdjhdjaa.editsNormal
