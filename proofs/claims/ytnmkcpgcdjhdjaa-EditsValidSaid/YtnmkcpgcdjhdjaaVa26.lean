/- Rows.EditsValidSaid is proved here, for every input; the walk is law_valid. -/
import Derived.Deep.Cut
import Derived.ProofKit
import Derived.OpenShut
import Derived.Carry
import Derived.ChangeSlices
import Derived.ChangeSame
import Derived.Deep.Slices
import Derived.Test.YtnmkcpgcdjhdjaaRows
import Derived.WalkKit
import Derived.Test.YtnmkcpgcdjhdjaaVa08
import Derived.Test.YtnmkcpgcdjhdjaaVa12
import Derived.Test.YtnmkcpgcdjhdjaaVa15
import Derived.Test.YtnmkcpgcdjhdjaaVa18
import Derived.Test.YtnmkcpgcdjhdjaaVa20
import Derived.Test.YtnmkcpgcdjhdjaaVa25
set_option linter.unusedVariables false
set_option linter.unusedSimpArgs false

/- The contract of the tape's Edit. -/
namespace Go.Proofs.Ytnmkcpgcdjhdjaa
open Go.RowKit
set_option linter.unusedVariables false
set_option linter.unusedSimpArgs false
/-- While the tape's Edit is made: the tape, the edit in block g5, the result in block g4. -/
structure EV (w wc : World) (B p kc g4 g5 : Nat) (k a m c d sn sd : Int) (V : Value) : Prop where
  t : TP wc B p kc
  u : Turn p w wc
  e : ED wc g5 k a m c d sn sd V
  z : ED wc g4 0 0 0 0 0 0 0 (.slice none 0 0)
  p : p < w.heap.size
  q4 : w.heap.size ≤ g4
  q5 : w.heap.size ≤ g5
  n : g4 ≠ g5
theorem EV.turn {w wc wd : World} {B p kc kd g4 g5 : Nat} {k a m c d sn sd : Int} {V : Value} (h : EV w wc B p kc g4 g5 k a m c d sn sd V) (ht : Turn p wc wd) (hT : TP wd B p kd) : EV w wd B p kd g4 g5 k a m c d sn sd V :=
  ⟨hT, h.u.trans ht, ht.ed (by have := h.p; have := h.q5; omega) h.e, ht.ed (by have := h.p; have := h.q4; omega) h.z, h.p, h.q4, h.q5, h.n⟩
theorem EV.low {w wc wd : World} {B p kc g4 g5 n : Nat} {k a m c d sn sd : Int} {V : Value} (h : EV w wc B p kc g4 g5 k a m c d sn sd V) (hb : Below n wc wd) (h4 : g4 < n) (h5 : g5 < n) : EV w wd B p kc g4 g5 k a m c d sn sd V := by
  have hB := h.t.1
  have hp := h.p
  have h4' := h.q4
  refine ⟨h.t.low (n := n) (by omega) (by omega) hb, ⟨Nat.le_trans h.u.s hb.size, fun b hb' hne => (hb.block b (by omega)).trans (h.u.o b hb' hne), fun q w0 hq hb0 => ?_⟩, h.e.lim hb h5, h.z.lim hb h4, h.p, h.q4, h.q5, h.n⟩
  exact (h.u.b q w0 hq hb0).trans (hb.mono (by omega))
theorem EV.set {w wc wd : World} {B p kc g4 g5 : Nat} {k a m c d sn sd k' a' m' c' d' sn' sd' : Int} {V V' : Value} (h : EV w wc B p kc g4 g5 k a m c d sn sd V) (ht : Turn g5 wc wd) (he : ED wd g5 k' a' m' c' d' sn' sd' V') : EV w wd B p kc g4 g5 k' a' m' c' d' sn' sd' V' := by
  have hp := h.p
  have h5 := h.q5
  have hB := h.t.1
  exact ⟨h.t.turn ht (by omega) (by omega), h.u.into h5 (by omega) ht, he, ht.ed h.n h.z, h.p, h.q4, h.q5, h.n⟩
theorem ED.set3 {w : World} {b : Nat} {k p n c d sn sd : Int} {v : Value} (h : ED w b k p n c d sn sd v) (x : Int) : ED (w.setCell ⟨b, 3, none⟩ (.int .i64 x)) b k p n x d sn sd v := by
  obtain ⟨x0, x1, x2, x3, x4, x5, x6, x7, f⟩ := h
  exact ⟨by simp [go_sem, x0], by simp [go_sem, x1], by simp [go_sem, x2], by simp [go_sem, x3], by simp [go_sem, x4], by simp [go_sem, x5], by simp [go_sem, x6], by simp [go_sem, x7], fun o => (World.frozen?_setCell ..).trans (f o)⟩
theorem ED.set4 {w : World} {b : Nat} {k p n c d sn sd : Int} {v : Value} (h : ED w b k p n c d sn sd v) (x : Int) : ED (w.setCell ⟨b, 4, none⟩ (.int .i64 x)) b k p n c x sn sd v := by
  obtain ⟨x0, x1, x2, x3, x4, x5, x6, x7, f⟩ := h
  exact ⟨by simp [go_sem, x0], by simp [go_sem, x1], by simp [go_sem, x2], by simp [go_sem, x3], by simp [go_sem, x4], by simp [go_sem, x5], by simp [go_sem, x6], by simp [go_sem, x7], fun o => (World.frozen?_setCell ..).trans (f o)⟩
theorem ED.set56 {w : World} {b : Nat} {k p n c d sn sd : Int} {v : Value} (h : ED w b k p n c d sn sd v) (x y : Int) : ED ((w.setCell ⟨b, 5, none⟩ (.int .i64 x)).setCell ⟨b, 6, none⟩ (.int .i64 y)) b k p n c d x y v := by
  obtain ⟨x0, x1, x2, x3, x4, x5, x6, x7, f⟩ := h
  exact ⟨by simp [go_sem, x0], by simp [go_sem, x1], by simp [go_sem, x2], by simp [go_sem, x3], by simp [go_sem, x4], by simp [go_sem, x5], by simp [go_sem, x6], by simp [go_sem, x7], fun o => ((World.frozen?_setCell ..).trans (World.frozen?_setCell ..)).trans (f o)⟩
theorem results_ed1 {fn : Func} {tmps : Array Value} {w : World} {t : Tmp} {b : Nat} {k p n c d sn sd : Int} {v : Value} (hr : fn.results = #[.cell t 26]) (ht : tmps.getD t undef = .pointer (some ⟨b, 0, none⟩))
    (hc : ED w b k p n c d sn sd v) (hv : (∃ ao m cp, v = .slice ao m cp)) : (results fn tmps).run Try.prog w = .ok (edV k p n c d sn sd v) w := by
  obtain ⟨ao, m, cp, rfl⟩ := hv
  have h := run_loadVar_mid (P := Try.prog) w b 0 26 (edC k p n c d sn sd (.slice ao m cp)).toList _ hc.range Try.underlying26 rfl (by kernel_rfl)
  obtain ⟨C, hC⟩ : ∃ C, C = (edC k p n c d sn sd (.slice ao m cp)).toList.toArray := ⟨_, rfl⟩
  rw [← hC] at h
  unfold results
  rw [hr]
  have ht2 : tmps[t]?.getD undef = .pointer (some ⟨b, 0, none⟩) := by rw [← Array.getD_eq_getD_getElem?]; exact ht
  simp [ht2, asAddr, h]
  rw [hC]
  rfl
/-- An edit of the tape, n the number of clips. -/
inductive TE (n : Nat) : Trk.Ed → Prop where
  | ins (k a : Int) (cl : List Trk.Clip) (hk : k = 1 ∨ k = 3) (a0 : 0 ≤ a) (a1 : a < 60) (h : ClipsOK cl 7) : TE n ⟨k, a, 0, 0, 0, 0, 0, cl⟩
  | rem (k a m : Int) (hk : k = 2 ∨ k = 4) (a0 : 0 ≤ a) (a1 : a < 60) (m0 : 1 ≤ m) (m1 : m ≤ 20) : TE n ⟨k, a, m, 0, 0, 0, 0, []⟩
  | clip (k d : Int) (c : Nat) (hk : 5 ≤ k ∧ k ≤ 9) (hc : c ≤ n) (d0 : d ≠ 0) (d1 : -5 ≤ d ∧ d ≤ 6) : TE n ⟨k, 0, 0, (c : Int), d, 0, 0, []⟩
  | speed (sn sd : Int) (c : Nat) (hc : c ≤ n) (h : Trk.SpeedOK sn sd) : TE n ⟨10, 0, 0, (c : Int), 0, sn, sd, []⟩
theorem Turn.ofStore {g : Nat} {w w' : World} (h2 : ∀ b, b ≠ g → w'.heap[b]? = w.heap[b]?) (h3 : w'.heap.size = w.heap.size) (h4 : ∀ n w0, n ≤ g → Below n w0 w → Below n w0 w') : Turn g w w' :=
  ⟨Nat.le_of_eq h3.symm, fun b _ hn => h2 b hn, h4⟩
theorem EV.fin {w wc wd : World} {B p kc g4 g5 : Nat} {k a m c d sn sd : Int} {V : Value} (h : EV w wc B p kc g4 g5 k a m c d sn sd V) (ht : Turn g4 wc wd) : TP wd B p kc ∧ Turn p w wd := by
  have hp := h.p
  have h4 := h.q4
  have hB := h.t.1
  exact ⟨h.t.turn ht (by omega) (by omega), h.u.into h4 (by omega) ht⟩
def TEPost (w : World) (B p k j n : Nat) (e : Ending) (w' : World) : Prop := (∃ ed ao l cp, e = .returned (EdV ed (.slice ao l cp)) ∧ TE n ed ∧ OT w' w.heap.size (.slice ao l cp) ed.ins) ∧ TQ w B p k j w'
set_option maxRecDepth 100000 in
set_option maxHeartbeats 16000000 in
theorem tedit_any (B p k n : Nat) (w : World) (ht : TP w B p k) (hk : k < 400000) (hn : n ≤ 1000) :
    Calls Try.prog 15 #[.pointer (some ⟨p, 0, none⟩), .int .i64 (n : Int)] w (TEPost w B p k 200 n) := by
  have hp := ht.2.1
  have hB := ht.1
  have HTP := Lib.hid ht
  clear ht
  go_enter Try.func15, Try.ntmps15
  go_upto_region 1 with fail
  obtain ⟨w1, hw1⟩ : ∃ y, y = w.alloc (.cells #[.int .i64 0, .int .i64 0, .int .i64 0, .int .i64 0, .int .i64 0, .int .i64 0, .int .i64 0, .slice none 0 0] 26) := ⟨_, rfl⟩
  rw [← hw1]
  have HZ := Lib.hid (show ED w1 w.heap.size 0 0 0 0 0 0 0 (.slice none 0 0) by rw [hw1]; exact ED.box w 0 0 0 0 0 0 0 (.slice none 0 0) rfl 26)
  have hb : Below w.heap.size w w1 := by rw [hw1]; exact below_box _ _
  have HT := Lib.hid (HTP.out.below (by omega) hb)
  have HU := Lib.hid (Turn.of (g := p) (Nat.le_of_lt hp) hb)
  obtain ⟨g4, hg4⟩ : ∃ y, y = w.heap.size := ⟨_, rfl⟩
  rw [← hg4] at HZ ⊢
  have HG4 := Lib.hid hg4
  clear hw1 hg4 hb
  go_wp2_with fail
  refine (next_any B p k 10 _ HT.out (by omega) (by omega) (by omega)).mono ?_
  rintro e w2 ⟨r, rfl, r0, r1, hT_, hg_⟩
  have ht := Turn.grown hg_ HT.out.2.1
  replace HU := Lib.hid (HU.out.trans ht)
  replace HZ := Lib.hid (ht.ed (show g4 ≠ p by have := HG4.out; omega) HZ.out)
  replace HT := Lib.hid hT_
  clear hT_ hg_ ht
  try dsimp only
  iterate 10 go_step
  have hv : ED (w2.alloc (.cells (edC 0 0 0 0 0 0 0 (.slice none 0 0)) 26)) w2.heap.size 0 0 0 0 0 0 0 (.slice none 0 0) := ED.box w2 0 0 0 0 0 0 0 (.slice none 0 0) rfl 26
  have hb0 : Below w2.heap.size w2 (w2.alloc (.cells (edC 0 0 0 0 0 0 0 (.slice none 0 0)) 26)) := below_box _ _
  refine wpl_storeE (1 + r) 0 0 0 0 0 0 none 0 0 hv rfl rfl rfl rfl ?_
  intro w3 q1 q2 q3 q4 q5
  have hb : Below w2.heap.size w2 w3 := q4 _ _ (Nat.le_refl _) hb0
  have hp2 : p < w2.heap.size := HT.out.2.1
  have hEV : EV w w3 B p (k + 1) g4 w2.heap.size (1 + r) 0 0 0 0 0 0 (.slice none 0 0) := by
    have h4 := HZ.out.lt
    have h5 := HU.out.s
    have h6 := HG4.out
    exact ⟨HT.out.low (n := w2.heap.size) (by omega) hp2 hb, HU.out.trans (Turn.of (g := p) (by omega) hb), q1, HZ.out.below hb, hp, by omega, by omega, by omega⟩
  have H := Lib.hid hEV
  have HS0 := Lib.hid (show w.heap.size ≤ w3.heap.size from hEV.u.s)
  obtain ⟨g5, hg5⟩ : ∃ g, g = w2.heap.size := ⟨_, rfl⟩
  rw [← hg5] at H ⊢
  clear hg5 q1 q2 q3 q4 q5 hb0 hb hv hp2 hEV HT HU HZ HTP HG4
  simp only [Act.put, List.setIfInBounds_toArray, List.set_cons_succ, List.set_cons_zero]
  obtain ⟨K, hK⟩ : ∃ K, K = 1 + r := ⟨_, rfl⟩
  rw [← hK] at H ⊢
  have K0 : 1 ≤ K := by omega
  have K1 : K ≤ 10 := by omega
  clear hK r0 r1
  have e0 := H.out.e.k0
  rcases (show K = 1 ∨ K = 2 ∨ K = 3 ∨ K = 4 ∨ K = 5 ∨ K = 6 ∨ K = 7 ∨ K = 8 ∨ K = 9 ∨ K = 10 by omega) with rfl | rfl | rfl | rfl | rfl | rfl | rfl | rfl | rfl | rfl
  · clear K0 K1
    go_wp2_with fail
    refine (next_any B p (k + 1) 60 _ H.out.t (by omega) (by omega) (by omega)).mono ?_
    rintro e wn ⟨a, rfl, a0, a1, hT_, hg_⟩
    have ht := Turn.grown hg_ H.out.t.2.1
    replace H := Lib.hid (H.out.turn ht hT_)
    clear hT_ hg_ ht
    have y1 := H.out.e.k1
    have f1 := H.out.e.fz 1
    go_upto_region 9 with fail
    obtain ⟨wq, hw⟩ : ∃ q, q = wn.setCell ⟨g5, 1, none⟩ (.int .i64 a) := ⟨_, rfl⟩
    rw [← hw]
    have ht : Turn g5 wn wq := by rw [hw]; exact (Turn.refl _ _).trans (Turn.cell g5 1 (.int .i64 a) _)
    replace H := Lib.hid (H.out.set ht (by rw [hw]; exact H.out.e.set1 a))
    clear hw ht
    clear y1 f1
    have HL4 := Lib.hid H.out.z.lt
    have HL5 := Lib.hid H.out.e.lt
    have HPW := Lib.hid H.out.t.2.1
    have HSQ := Lib.hid H.out.u.s
    clear e0
    go_wp2_with fail
    refine (track_any B p (k + 1 + 1) 3 wq H.out.t (by omega) (by omega)).mono ?_
    rintro e v2 ⟨⟨vl, l, rfl, ho, hs, hl⟩, ⟨k2, hk2, hT_⟩, ht⟩
    have HL := Lib.hid ho
    have HS := Lib.hid hs
    have HLL := Lib.hid hl
    have HS1 := Lib.hid (show wq.heap.size ≤ v2.heap.size from ht.s)
    replace H := Lib.hid (H.out.turn ht hT_)
    have HK2 := Lib.hid hk2
    clear ho hs hl hT_ ht hk2
    go_wp2_with fail
    refine (clip_any B p k2 _ H.out.t (by have := HK2.out; omega)).mono ?_
    rintro e v3 ⟨⟨z, rfl, hz⟩, ⟨k3, hk3, hT_⟩, ht⟩
    replace H := Lib.hid (H.out.turn ht hT_)
    replace HL := Lib.hid (HL.out.turn ht HPW.out)
    have HSZ := Lib.hid (Nat.le_trans HS1.out ht.s)
    have HK3 := Lib.hid hk3
    have HZ := Lib.hid hz
    clear hz hT_ ht hk3
    unfold clipV
    obtain ⟨C, hC⟩ : ∃ C, C = (clipC z).toArray := ⟨_, rfl⟩
    rw [← hC]
    have HCC := Lib.hid hC
    clear hC
    dsimp only
    iterate 1 go_step
    refine Great.wpList_buildSliceTo rfl 35 53 1 #[(0, .tmp 34)] rfl v3.heap.size rfl _ rfl Try.underlying35 C ?_ ?_
    · simp only [List.map_toArray, List.map_cons, List.map_nil, List.toList_toArray]
      rw [HCC.out]
      exact built_clip z
    have hbx : CA (v3.alloc (.cells C 53)) v3.heap.size 0 z := by rw [HCC.out]; exact CA.box v3 z 53
    have hb : Below v3.heap.size v3 (v3.alloc (.cells C 53)) := below_box _ _
    have hsz : wq.heap.size ≤ (v3.alloc (.cells C 53)).heap.size := Nat.le_trans HSZ.out hb.size
    replace HL := Lib.hid (HL.out.below hb)
    have HBX := Lib.hid hb
    clear hb
    simp only [Act.put, List.setIfInBounds_toArray, List.set_cons_succ, List.set_cons_zero]
    refine wpList_appT 35 Try.underlying35 _ rfl (.tmp 32) (.tmp 35) rfl rfl wq.heap.size vl l rfl HL.out hsz v3.heap.size 1 z rfl hbx (by have := HLL.out; omega) ?_
    intro vn v5 q1 q2 q3 q4
    simp only [Act.put, List.setIfInBounds_toArray, List.set_cons_succ, List.set_cons_zero]
    have hbl : Below wq.heap.size v3 v5 := (HBX.out.mono HSZ.out).trans q2
    have HC := Lib.hid q1
    replace H := Lib.hid (H.out.low hbl HL4.out HL5.out)
    have HCO := Lib.hid (clipsOK_snoc HS.out HLL.out HZ.out (by omega))
    obtain ⟨cl, hcl⟩ : ∃ cl, cl = l ++ [z] := ⟨_, rfl⟩
    rw [← hcl] at HC HCO
    clear q1 q2 q3 q4 hbl hbx hsz hcl HBX HCC HZ HS HLL HL HSZ
    obtain ⟨ca, cc, rfl, hcc⟩ := HC.out.tk
    clear hcc
    obtain ⟨J, hJ⟩ : ∃ J, J = cl.length := ⟨_, rfl⟩
    rw [← hJ] at HC ⊢
    clear hJ
    have y7 := H.out.e.k7
    have f7 := H.out.e.fz 7
    go_upto_region 15 with fail
    obtain ⟨w6, hw⟩ : ∃ q, q = v5.setCell ⟨g5, 7, none⟩ (.slice ca J cc) := ⟨_, rfl⟩
    rw [← hw]
    have ht : Turn g5 v5 w6 := by rw [hw]; exact (Turn.refl _ _).trans (Turn.cell g5 7 (.slice ca J cc) _)
    replace H := Lib.hid (H.out.set ht (by rw [hw]; exact H.out.e.set7 (.slice ca J cc)))
    replace HC := Lib.hid (show OT w6 wq.heap.size (.slice ca J cc) cl by rw [hw]; exact HC.out.far (p := ⟨g5, 7, none⟩) HL5.out _)
    clear hw ht
    clear y7 f7
    apply wp_region_lit
    refine wpl_loadE H.out.e rfl rfl rfl ?_
    refine wpl_storeE (1) (a) (0) (0) (0) (0) (0) ca J cc H.out.z rfl rfl rfl rfl ?_
    intro wz q1 q2 q3 q4 q5
    have hfin := H.out.fin (Turn.ofStore q2 q3 q4)
    have HOT := Lib.hid ((HC.out.blocks (fun g kk cap e => q2 g (by have h1 := (HC.out.blk e).1; have h2 := HL4.out; omega))).lower HSQ.out)
    have HQ1 := Lib.hid q1
    have HFI := Lib.hid hfin
    clear q1 q2 q3 q4 q5 hfin
    simp only [Act.put, List.setIfInBounds_toArray, List.set_cons_succ, List.set_cons_zero]
    iterate 4 go_step
    exact bodyPost_ret (results_ed1 Try.results15 rfl HQ1.out ⟨_, _, _, rfl⟩) rfl ⟨⟨⟨1, a, 0, 0, 0, 0, 0, cl⟩, ca, J, cc, rfl, TE.ins 1 a cl (by decide) a0 (by omega) HCO.out, HOT.out⟩, TQ.of (k' := k3) (by have := HK2.out; have := HK3.out; omega) HFI.out.1 HFI.out.2⟩
  · clear K0 K1
    go_wp2_with fail
    refine (next_any B p (k + 1) 60 _ H.out.t (by omega) (by omega) (by omega)).mono ?_
    rintro e wn ⟨a, rfl, a0, a1, hT_, hg_⟩
    have ht := Turn.grown hg_ H.out.t.2.1
    replace H := Lib.hid (H.out.turn ht hT_)
    clear hT_ hg_ ht
    go_wp2_with fail
    refine (next_any B p (k + 1 + 1) 20 _ H.out.t (by omega) (by omega) (by omega)).mono ?_
    rintro e wm ⟨m, rfl, m0, m1, hT_, hg_⟩
    have ht := Turn.grown hg_ H.out.t.2.1
    replace H := Lib.hid (H.out.turn ht hT_)
    clear hT_ hg_ ht
    have y1 := H.out.e.k1
    have f1 := H.out.e.fz 1
    have y2 := H.out.e.k2
    have f2 := H.out.e.fz 2
    go_upto_region 15 with fail
    obtain ⟨w6, hw⟩ : ∃ q, q = (wm.setCell ⟨g5, 1, none⟩ (.int .i64 a)).setCell ⟨g5, 2, none⟩ (.int .i64 (1 + m)) := ⟨_, rfl⟩
    rw [← hw]
    have ht : Turn g5 wm w6 := by rw [hw]; exact ((Turn.refl _ _).trans (Turn.cell g5 1 (.int .i64 a) _)).trans (Turn.cell g5 2 (.int .i64 (1 + m)) _)
    replace H := Lib.hid (H.out.set ht (by rw [hw]; exact (H.out.e.set1 a).set2 (1 + m)))
    clear hw ht
    clear y1 f1 y2 f2
    apply wp_region_lit
    refine wpl_loadE H.out.e rfl rfl rfl ?_
    refine wpl_storeE (2) (a) (1 + m) (0) (0) (0) (0) none 0 0 H.out.z rfl rfl rfl rfl ?_
    intro wz q1 q2 q3 q4 q5
    have hfin := H.out.fin (Turn.ofStore q2 q3 q4)
    have HOT := Lib.hid (OT.nil wz w.heap.size)
    have HQ1 := Lib.hid q1
    have HFI := Lib.hid hfin
    clear q1 q2 q3 q4 q5 hfin
    simp only [Act.put, List.setIfInBounds_toArray, List.set_cons_succ, List.set_cons_zero]
    iterate 4 go_step
    exact bodyPost_ret (results_ed1 Try.results15 rfl HQ1.out ⟨_, _, _, rfl⟩) rfl ⟨⟨⟨2, a, 1 + m, 0, 0, 0, 0, []⟩, none, 0, 0, rfl, TE.rem 2 a (1 + m) (by decide) a0 (by omega) (by omega) (by omega), HOT.out⟩, TQ.of (k' := k + 1 + 1 + 1) (by omega) HFI.out.1 HFI.out.2⟩
  · clear K0 K1
    go_wp2_with fail
    refine (next_any B p (k + 1) 60 _ H.out.t (by omega) (by omega) (by omega)).mono ?_
    rintro e wn ⟨a, rfl, a0, a1, hT_, hg_⟩
    have ht := Turn.grown hg_ H.out.t.2.1
    replace H := Lib.hid (H.out.turn ht hT_)
    clear hT_ hg_ ht
    have y1 := H.out.e.k1
    have f1 := H.out.e.fz 1
    go_upto_region 9 with fail
    obtain ⟨wq, hw⟩ : ∃ q, q = wn.setCell ⟨g5, 1, none⟩ (.int .i64 a) := ⟨_, rfl⟩
    rw [← hw]
    have ht : Turn g5 wn wq := by rw [hw]; exact (Turn.refl _ _).trans (Turn.cell g5 1 (.int .i64 a) _)
    replace H := Lib.hid (H.out.set ht (by rw [hw]; exact H.out.e.set1 a))
    clear hw ht
    clear y1 f1
    have HL4 := Lib.hid H.out.z.lt
    have HL5 := Lib.hid H.out.e.lt
    have HPW := Lib.hid H.out.t.2.1
    have HSQ := Lib.hid H.out.u.s
    clear e0
    go_wp2_with fail
    refine (track_any B p (k + 1 + 1) 3 wq H.out.t (by omega) (by omega)).mono ?_
    rintro e v2 ⟨⟨vl, l, rfl, ho, hs, hl⟩, ⟨k2, hk2, hT_⟩, ht⟩
    have HL := Lib.hid ho
    have HS := Lib.hid hs
    have HLL := Lib.hid hl
    have HS1 := Lib.hid (show wq.heap.size ≤ v2.heap.size from ht.s)
    replace H := Lib.hid (H.out.turn ht hT_)
    have HK2 := Lib.hid hk2
    clear ho hs hl hT_ ht hk2
    go_wp2_with fail
    refine (clip_any B p k2 _ H.out.t (by have := HK2.out; omega)).mono ?_
    rintro e v3 ⟨⟨z, rfl, hz⟩, ⟨k3, hk3, hT_⟩, ht⟩
    replace H := Lib.hid (H.out.turn ht hT_)
    replace HL := Lib.hid (HL.out.turn ht HPW.out)
    have HSZ := Lib.hid (Nat.le_trans HS1.out ht.s)
    have HK3 := Lib.hid hk3
    have HZ := Lib.hid hz
    clear hz hT_ ht hk3
    unfold clipV
    obtain ⟨C, hC⟩ : ∃ C, C = (clipC z).toArray := ⟨_, rfl⟩
    rw [← hC]
    have HCC := Lib.hid hC
    clear hC
    dsimp only
    iterate 1 go_step
    refine Great.wpList_buildSliceTo rfl 35 53 1 #[(0, .tmp 34)] rfl v3.heap.size rfl _ rfl Try.underlying35 C ?_ ?_
    · simp only [List.map_toArray, List.map_cons, List.map_nil, List.toList_toArray]
      rw [HCC.out]
      exact built_clip z
    have hbx : CA (v3.alloc (.cells C 53)) v3.heap.size 0 z := by rw [HCC.out]; exact CA.box v3 z 53
    have hb : Below v3.heap.size v3 (v3.alloc (.cells C 53)) := below_box _ _
    have hsz : wq.heap.size ≤ (v3.alloc (.cells C 53)).heap.size := Nat.le_trans HSZ.out hb.size
    replace HL := Lib.hid (HL.out.below hb)
    have HBX := Lib.hid hb
    clear hb
    simp only [Act.put, List.setIfInBounds_toArray, List.set_cons_succ, List.set_cons_zero]
    refine wpList_appT 35 Try.underlying35 _ rfl (.tmp 32) (.tmp 35) rfl rfl wq.heap.size vl l rfl HL.out hsz v3.heap.size 1 z rfl hbx (by have := HLL.out; omega) ?_
    intro vn v5 q1 q2 q3 q4
    simp only [Act.put, List.setIfInBounds_toArray, List.set_cons_succ, List.set_cons_zero]
    have hbl : Below wq.heap.size v3 v5 := (HBX.out.mono HSZ.out).trans q2
    have HC := Lib.hid q1
    replace H := Lib.hid (H.out.low hbl HL4.out HL5.out)
    have HCO := Lib.hid (clipsOK_snoc HS.out HLL.out HZ.out (by omega))
    obtain ⟨cl, hcl⟩ : ∃ cl, cl = l ++ [z] := ⟨_, rfl⟩
    rw [← hcl] at HC HCO
    clear q1 q2 q3 q4 hbl hbx hsz hcl HBX HCC HZ HS HLL HL HSZ
    obtain ⟨ca, cc, rfl, hcc⟩ := HC.out.tk
    clear hcc
    obtain ⟨J, hJ⟩ : ∃ J, J = cl.length := ⟨_, rfl⟩
    rw [← hJ] at HC ⊢
    clear hJ
    have y7 := H.out.e.k7
    have f7 := H.out.e.fz 7
    go_upto_region 15 with fail
    obtain ⟨w6, hw⟩ : ∃ q, q = v5.setCell ⟨g5, 7, none⟩ (.slice ca J cc) := ⟨_, rfl⟩
    rw [← hw]
    have ht : Turn g5 v5 w6 := by rw [hw]; exact (Turn.refl _ _).trans (Turn.cell g5 7 (.slice ca J cc) _)
    replace H := Lib.hid (H.out.set ht (by rw [hw]; exact H.out.e.set7 (.slice ca J cc)))
    replace HC := Lib.hid (show OT w6 wq.heap.size (.slice ca J cc) cl by rw [hw]; exact HC.out.far (p := ⟨g5, 7, none⟩) HL5.out _)
    clear hw ht
    clear y7 f7
    apply wp_region_lit
    refine wpl_loadE H.out.e rfl rfl rfl ?_
    refine wpl_storeE (3) (a) (0) (0) (0) (0) (0) ca J cc H.out.z rfl rfl rfl rfl ?_
    intro wz q1 q2 q3 q4 q5
    have hfin := H.out.fin (Turn.ofStore q2 q3 q4)
    have HOT := Lib.hid ((HC.out.blocks (fun g kk cap e => q2 g (by have h1 := (HC.out.blk e).1; have h2 := HL4.out; omega))).lower HSQ.out)
    have HQ1 := Lib.hid q1
    have HFI := Lib.hid hfin
    clear q1 q2 q3 q4 q5 hfin
    simp only [Act.put, List.setIfInBounds_toArray, List.set_cons_succ, List.set_cons_zero]
    iterate 4 go_step
    exact bodyPost_ret (results_ed1 Try.results15 rfl HQ1.out ⟨_, _, _, rfl⟩) rfl ⟨⟨⟨3, a, 0, 0, 0, 0, 0, cl⟩, ca, J, cc, rfl, TE.ins 3 a cl (by decide) a0 (by omega) HCO.out, HOT.out⟩, TQ.of (k' := k3) (by have := HK2.out; have := HK3.out; omega) HFI.out.1 HFI.out.2⟩
  · clear K0 K1
    go_wp2_with fail
    refine (next_any B p (k + 1) 60 _ H.out.t (by omega) (by omega) (by omega)).mono ?_
    rintro e wn ⟨a, rfl, a0, a1, hT_, hg_⟩
    have ht := Turn.grown hg_ H.out.t.2.1
    replace H := Lib.hid (H.out.turn ht hT_)
    clear hT_ hg_ ht
    go_wp2_with fail
    refine (next_any B p (k + 1 + 1) 20 _ H.out.t (by omega) (by omega) (by omega)).mono ?_
    rintro e wm ⟨m, rfl, m0, m1, hT_, hg_⟩
    have ht := Turn.grown hg_ H.out.t.2.1
    replace H := Lib.hid (H.out.turn ht hT_)
    clear hT_ hg_ ht
    have y1 := H.out.e.k1
    have f1 := H.out.e.fz 1
    have y2 := H.out.e.k2
    have f2 := H.out.e.fz 2
    go_upto_region 15 with fail
    obtain ⟨w6, hw⟩ : ∃ q, q = (wm.setCell ⟨g5, 1, none⟩ (.int .i64 a)).setCell ⟨g5, 2, none⟩ (.int .i64 (1 + m)) := ⟨_, rfl⟩
    rw [← hw]
    have ht : Turn g5 wm w6 := by rw [hw]; exact ((Turn.refl _ _).trans (Turn.cell g5 1 (.int .i64 a) _)).trans (Turn.cell g5 2 (.int .i64 (1 + m)) _)
    replace H := Lib.hid (H.out.set ht (by rw [hw]; exact (H.out.e.set1 a).set2 (1 + m)))
    clear hw ht
    clear y1 f1 y2 f2
    apply wp_region_lit
    refine wpl_loadE H.out.e rfl rfl rfl ?_
    refine wpl_storeE (4) (a) (1 + m) (0) (0) (0) (0) none 0 0 H.out.z rfl rfl rfl rfl ?_
    intro wz q1 q2 q3 q4 q5
    have hfin := H.out.fin (Turn.ofStore q2 q3 q4)
    have HOT := Lib.hid (OT.nil wz w.heap.size)
    have HQ1 := Lib.hid q1
    have HFI := Lib.hid hfin
    clear q1 q2 q3 q4 q5 hfin
    simp only [Act.put, List.setIfInBounds_toArray, List.set_cons_succ, List.set_cons_zero]
    iterate 4 go_step
    exact bodyPost_ret (results_ed1 Try.results15 rfl HQ1.out ⟨_, _, _, rfl⟩) rfl ⟨⟨⟨4, a, 1 + m, 0, 0, 0, 0, []⟩, none, 0, 0, rfl, TE.rem 4 a (1 + m) (by decide) a0 (by omega) (by omega) (by omega), HOT.out⟩, TQ.of (k' := k + 1 + 1 + 1) (by omega) HFI.out.1 HFI.out.2⟩
  · clear K0 K1
    have hn1 : (1 : Int) ≤ (n : Int) + 1 := by omega
    go_wp2_with fail
    refine (next_any B p (k + 1) ((n : Int) + 1) _ H.out.t (by omega) (by omega) (by omega)).mono ?_
    rintro e wn ⟨c, rfl, c0, c1, hT_, hg_⟩
    have ht := Turn.grown hg_ H.out.t.2.1
    replace H := Lib.hid (H.out.turn ht hT_)
    clear hT_ hg_ ht
    go_wp2_with fail
    refine (next_any B p (k + 1 + 1) 11 _ H.out.t (by omega) (by omega) (by omega)).mono ?_
    rintro e wm ⟨d, rfl, d0, d1, hT_, hg_⟩
    have ht := Turn.grown hg_ H.out.t.2.1
    replace H := Lib.hid (H.out.turn ht hT_)
    clear hT_ hg_ ht
    obtain ⟨cn, hcn⟩ : ∃ cn : Nat, c = (cn : Int) := ⟨c.toNat, by omega⟩
    subst hcn
    have y3 := H.out.e.k3
    have f3 := H.out.e.fz 3
    have y4 := H.out.e.k4
    have f4 := H.out.e.fz 4
    by_cases hd5 : d = 5
    · subst hd5
      go_upto_region 15 with fail
      obtain ⟨w6, hw⟩ : ∃ q, q = ((wm.setCell ⟨g5, 3, none⟩ (.int .i64 (cn : Int))).setCell ⟨g5, 4, none⟩ (.int .i64 0)).setCell ⟨g5, 4, none⟩ (.int .i64 6) := ⟨_, rfl⟩
      rw [← hw]
      have ht : Turn g5 wm w6 := by rw [hw]; exact (((Turn.refl _ _).trans (Turn.cell g5 3 (.int .i64 (cn : Int)) _)).trans (Turn.cell g5 4 (.int .i64 0) _)).trans (Turn.cell g5 4 (.int .i64 6) _)
      replace H := Lib.hid (H.out.set ht (by rw [hw]; exact ((H.out.e.set3 (cn : Int)).set4 0).set4 6))
      clear hw ht
      clear y3 f3 y4 f4
      apply wp_region_lit
      refine wpl_loadE H.out.e rfl rfl rfl ?_
      refine wpl_storeE (5) (0) (0) ((cn : Int)) (6) (0) (0) none 0 0 H.out.z rfl rfl rfl rfl ?_
      intro wz q1 q2 q3 q4 q5
      have hfin := H.out.fin (Turn.ofStore q2 q3 q4)
      have HOT := Lib.hid (OT.nil wz w.heap.size)
      have HQ1 := Lib.hid q1
      have HFI := Lib.hid hfin
      clear q1 q2 q3 q4 q5 hfin
      simp only [Act.put, List.setIfInBounds_toArray, List.set_cons_succ, List.set_cons_zero]
      iterate 4 go_step
      exact bodyPost_ret (results_ed1 Try.results15 rfl HQ1.out ⟨_, _, _, rfl⟩) rfl ⟨⟨⟨5, 0, 0, (cn : Int), 6, 0, 0, []⟩, none, 0, 0, rfl, TE.clip 5 6 cn (by decide) (by omega) (by decide) (by decide), HOT.out⟩, TQ.of (k' := k + 1 + 1 + 1) (by omega) HFI.out.1 HFI.out.2⟩
    · have hd6 : (d - 5 == 0) = false := by simp; omega
      go_upto_region 15 with fail
      obtain ⟨w6, hw⟩ : ∃ q, q = (wm.setCell ⟨g5, 3, none⟩ (.int .i64 (cn : Int))).setCell ⟨g5, 4, none⟩ (.int .i64 (d - 5)) := ⟨_, rfl⟩
      rw [← hw]
      have ht : Turn g5 wm w6 := by rw [hw]; exact ((Turn.refl _ _).trans (Turn.cell g5 3 (.int .i64 (cn : Int)) _)).trans (Turn.cell g5 4 (.int .i64 (d - 5)) _)
      replace H := Lib.hid (H.out.set ht (by rw [hw]; exact (H.out.e.set3 (cn : Int)).set4 (d - 5)))
      clear hw ht
      clear y3 f3 y4 f4
      apply wp_region_lit
      refine wpl_loadE H.out.e rfl rfl rfl ?_
      refine wpl_storeE (5) (0) (0) ((cn : Int)) (d - 5) (0) (0) none 0 0 H.out.z rfl rfl rfl rfl ?_
      intro wz q1 q2 q3 q4 q5
      have hfin := H.out.fin (Turn.ofStore q2 q3 q4)
      have HOT := Lib.hid (OT.nil wz w.heap.size)
      have HQ1 := Lib.hid q1
      have HFI := Lib.hid hfin
      clear q1 q2 q3 q4 q5 hfin
      simp only [Act.put, List.setIfInBounds_toArray, List.set_cons_succ, List.set_cons_zero]
      iterate 4 go_step
      exact bodyPost_ret (results_ed1 Try.results15 rfl HQ1.out ⟨_, _, _, rfl⟩) rfl ⟨⟨⟨5, 0, 0, (cn : Int), d - 5, 0, 0, []⟩, none, 0, 0, rfl, TE.clip 5 (d - 5) cn (by decide) (by omega) (by omega) (by omega), HOT.out⟩, TQ.of (k' := k + 1 + 1 + 1) (by omega) HFI.out.1 HFI.out.2⟩
  · clear K0 K1
    have hn1 : (1 : Int) ≤ (n : Int) + 1 := by omega
    go_wp2_with fail
    refine (next_any B p (k + 1) ((n : Int) + 1) _ H.out.t (by omega) (by omega) (by omega)).mono ?_
    rintro e wn ⟨c, rfl, c0, c1, hT_, hg_⟩
    have ht := Turn.grown hg_ H.out.t.2.1
    replace H := Lib.hid (H.out.turn ht hT_)
    clear hT_ hg_ ht
    go_wp2_with fail
    refine (next_any B p (k + 1 + 1) 11 _ H.out.t (by omega) (by omega) (by omega)).mono ?_
    rintro e wm ⟨d, rfl, d0, d1, hT_, hg_⟩
    have ht := Turn.grown hg_ H.out.t.2.1
    replace H := Lib.hid (H.out.turn ht hT_)
    clear hT_ hg_ ht
    obtain ⟨cn, hcn⟩ : ∃ cn : Nat, c = (cn : Int) := ⟨c.toNat, by omega⟩
    subst hcn
    have y3 := H.out.e.k3
    have f3 := H.out.e.fz 3
    have y4 := H.out.e.k4
    have f4 := H.out.e.fz 4
    by_cases hd5 : d = 5
    · subst hd5
      go_upto_region 15 with fail
      obtain ⟨w6, hw⟩ : ∃ q, q = ((wm.setCell ⟨g5, 3, none⟩ (.int .i64 (cn : Int))).setCell ⟨g5, 4, none⟩ (.int .i64 0)).setCell ⟨g5, 4, none⟩ (.int .i64 6) := ⟨_, rfl⟩
      rw [← hw]
      have ht : Turn g5 wm w6 := by rw [hw]; exact (((Turn.refl _ _).trans (Turn.cell g5 3 (.int .i64 (cn : Int)) _)).trans (Turn.cell g5 4 (.int .i64 0) _)).trans (Turn.cell g5 4 (.int .i64 6) _)
      replace H := Lib.hid (H.out.set ht (by rw [hw]; exact ((H.out.e.set3 (cn : Int)).set4 0).set4 6))
      clear hw ht
      clear y3 f3 y4 f4
      apply wp_region_lit
      refine wpl_loadE H.out.e rfl rfl rfl ?_
      refine wpl_storeE (6) (0) (0) ((cn : Int)) (6) (0) (0) none 0 0 H.out.z rfl rfl rfl rfl ?_
      intro wz q1 q2 q3 q4 q5
      have hfin := H.out.fin (Turn.ofStore q2 q3 q4)
      have HOT := Lib.hid (OT.nil wz w.heap.size)
      have HQ1 := Lib.hid q1
      have HFI := Lib.hid hfin
      clear q1 q2 q3 q4 q5 hfin
      simp only [Act.put, List.setIfInBounds_toArray, List.set_cons_succ, List.set_cons_zero]
      iterate 4 go_step
      exact bodyPost_ret (results_ed1 Try.results15 rfl HQ1.out ⟨_, _, _, rfl⟩) rfl ⟨⟨⟨6, 0, 0, (cn : Int), 6, 0, 0, []⟩, none, 0, 0, rfl, TE.clip 6 6 cn (by decide) (by omega) (by decide) (by decide), HOT.out⟩, TQ.of (k' := k + 1 + 1 + 1) (by omega) HFI.out.1 HFI.out.2⟩
    · have hd6 : (d - 5 == 0) = false := by simp; omega
      go_upto_region 15 with fail
      obtain ⟨w6, hw⟩ : ∃ q, q = (wm.setCell ⟨g5, 3, none⟩ (.int .i64 (cn : Int))).setCell ⟨g5, 4, none⟩ (.int .i64 (d - 5)) := ⟨_, rfl⟩
      rw [← hw]
      have ht : Turn g5 wm w6 := by rw [hw]; exact ((Turn.refl _ _).trans (Turn.cell g5 3 (.int .i64 (cn : Int)) _)).trans (Turn.cell g5 4 (.int .i64 (d - 5)) _)
      replace H := Lib.hid (H.out.set ht (by rw [hw]; exact (H.out.e.set3 (cn : Int)).set4 (d - 5)))
      clear hw ht
      clear y3 f3 y4 f4
      apply wp_region_lit
      refine wpl_loadE H.out.e rfl rfl rfl ?_
      refine wpl_storeE (6) (0) (0) ((cn : Int)) (d - 5) (0) (0) none 0 0 H.out.z rfl rfl rfl rfl ?_
      intro wz q1 q2 q3 q4 q5
      have hfin := H.out.fin (Turn.ofStore q2 q3 q4)
      have HOT := Lib.hid (OT.nil wz w.heap.size)
      have HQ1 := Lib.hid q1
      have HFI := Lib.hid hfin
      clear q1 q2 q3 q4 q5 hfin
      simp only [Act.put, List.setIfInBounds_toArray, List.set_cons_succ, List.set_cons_zero]
      iterate 4 go_step
      exact bodyPost_ret (results_ed1 Try.results15 rfl HQ1.out ⟨_, _, _, rfl⟩) rfl ⟨⟨⟨6, 0, 0, (cn : Int), d - 5, 0, 0, []⟩, none, 0, 0, rfl, TE.clip 6 (d - 5) cn (by decide) (by omega) (by omega) (by omega), HOT.out⟩, TQ.of (k' := k + 1 + 1 + 1) (by omega) HFI.out.1 HFI.out.2⟩
  · clear K0 K1
    have hn1 : (1 : Int) ≤ (n : Int) + 1 := by omega
    go_wp2_with fail
    refine (next_any B p (k + 1) ((n : Int) + 1) _ H.out.t (by omega) (by omega) (by omega)).mono ?_
    rintro e wn ⟨c, rfl, c0, c1, hT_, hg_⟩
    have ht := Turn.grown hg_ H.out.t.2.1
    replace H := Lib.hid (H.out.turn ht hT_)
    clear hT_ hg_ ht
    go_wp2_with fail
    refine (next_any B p (k + 1 + 1) 11 _ H.out.t (by omega) (by omega) (by omega)).mono ?_
    rintro e wm ⟨d, rfl, d0, d1, hT_, hg_⟩
    have ht := Turn.grown hg_ H.out.t.2.1
    replace H := Lib.hid (H.out.turn ht hT_)
    clear hT_ hg_ ht
    obtain ⟨cn, hcn⟩ : ∃ cn : Nat, c = (cn : Int) := ⟨c.toNat, by omega⟩
    subst hcn
    have y3 := H.out.e.k3
    have f3 := H.out.e.fz 3
    have y4 := H.out.e.k4
    have f4 := H.out.e.fz 4
    by_cases hd5 : d = 5
    · subst hd5
      go_upto_region 15 with fail
      obtain ⟨w6, hw⟩ : ∃ q, q = ((wm.setCell ⟨g5, 3, none⟩ (.int .i64 (cn : Int))).setCell ⟨g5, 4, none⟩ (.int .i64 0)).setCell ⟨g5, 4, none⟩ (.int .i64 6) := ⟨_, rfl⟩
      rw [← hw]
      have ht : Turn g5 wm w6 := by rw [hw]; exact (((Turn.refl _ _).trans (Turn.cell g5 3 (.int .i64 (cn : Int)) _)).trans (Turn.cell g5 4 (.int .i64 0) _)).trans (Turn.cell g5 4 (.int .i64 6) _)
      replace H := Lib.hid (H.out.set ht (by rw [hw]; exact ((H.out.e.set3 (cn : Int)).set4 0).set4 6))
      clear hw ht
      clear y3 f3 y4 f4
      apply wp_region_lit
      refine wpl_loadE H.out.e rfl rfl rfl ?_
      refine wpl_storeE (7) (0) (0) ((cn : Int)) (6) (0) (0) none 0 0 H.out.z rfl rfl rfl rfl ?_
      intro wz q1 q2 q3 q4 q5
      have hfin := H.out.fin (Turn.ofStore q2 q3 q4)
      have HOT := Lib.hid (OT.nil wz w.heap.size)
      have HQ1 := Lib.hid q1
      have HFI := Lib.hid hfin
      clear q1 q2 q3 q4 q5 hfin
      simp only [Act.put, List.setIfInBounds_toArray, List.set_cons_succ, List.set_cons_zero]
      iterate 4 go_step
      exact bodyPost_ret (results_ed1 Try.results15 rfl HQ1.out ⟨_, _, _, rfl⟩) rfl ⟨⟨⟨7, 0, 0, (cn : Int), 6, 0, 0, []⟩, none, 0, 0, rfl, TE.clip 7 6 cn (by decide) (by omega) (by decide) (by decide), HOT.out⟩, TQ.of (k' := k + 1 + 1 + 1) (by omega) HFI.out.1 HFI.out.2⟩
    · have hd6 : (d - 5 == 0) = false := by simp; omega
      go_upto_region 15 with fail
      obtain ⟨w6, hw⟩ : ∃ q, q = (wm.setCell ⟨g5, 3, none⟩ (.int .i64 (cn : Int))).setCell ⟨g5, 4, none⟩ (.int .i64 (d - 5)) := ⟨_, rfl⟩
      rw [← hw]
      have ht : Turn g5 wm w6 := by rw [hw]; exact ((Turn.refl _ _).trans (Turn.cell g5 3 (.int .i64 (cn : Int)) _)).trans (Turn.cell g5 4 (.int .i64 (d - 5)) _)
      replace H := Lib.hid (H.out.set ht (by rw [hw]; exact (H.out.e.set3 (cn : Int)).set4 (d - 5)))
      clear hw ht
      clear y3 f3 y4 f4
      apply wp_region_lit
      refine wpl_loadE H.out.e rfl rfl rfl ?_
      refine wpl_storeE (7) (0) (0) ((cn : Int)) (d - 5) (0) (0) none 0 0 H.out.z rfl rfl rfl rfl ?_
      intro wz q1 q2 q3 q4 q5
      have hfin := H.out.fin (Turn.ofStore q2 q3 q4)
      have HOT := Lib.hid (OT.nil wz w.heap.size)
      have HQ1 := Lib.hid q1
      have HFI := Lib.hid hfin
      clear q1 q2 q3 q4 q5 hfin
      simp only [Act.put, List.setIfInBounds_toArray, List.set_cons_succ, List.set_cons_zero]
      iterate 4 go_step
      exact bodyPost_ret (results_ed1 Try.results15 rfl HQ1.out ⟨_, _, _, rfl⟩) rfl ⟨⟨⟨7, 0, 0, (cn : Int), d - 5, 0, 0, []⟩, none, 0, 0, rfl, TE.clip 7 (d - 5) cn (by decide) (by omega) (by omega) (by omega), HOT.out⟩, TQ.of (k' := k + 1 + 1 + 1) (by omega) HFI.out.1 HFI.out.2⟩
  · clear K0 K1
    have hn1 : (1 : Int) ≤ (n : Int) + 1 := by omega
    go_wp2_with fail
    refine (next_any B p (k + 1) ((n : Int) + 1) _ H.out.t (by omega) (by omega) (by omega)).mono ?_
    rintro e wn ⟨c, rfl, c0, c1, hT_, hg_⟩
    have ht := Turn.grown hg_ H.out.t.2.1
    replace H := Lib.hid (H.out.turn ht hT_)
    clear hT_ hg_ ht
    go_wp2_with fail
    refine (next_any B p (k + 1 + 1) 11 _ H.out.t (by omega) (by omega) (by omega)).mono ?_
    rintro e wm ⟨d, rfl, d0, d1, hT_, hg_⟩
    have ht := Turn.grown hg_ H.out.t.2.1
    replace H := Lib.hid (H.out.turn ht hT_)
    clear hT_ hg_ ht
    obtain ⟨cn, hcn⟩ : ∃ cn : Nat, c = (cn : Int) := ⟨c.toNat, by omega⟩
    subst hcn
    have y3 := H.out.e.k3
    have f3 := H.out.e.fz 3
    have y4 := H.out.e.k4
    have f4 := H.out.e.fz 4
    by_cases hd5 : d = 5
    · subst hd5
      go_upto_region 15 with fail
      obtain ⟨w6, hw⟩ : ∃ q, q = ((wm.setCell ⟨g5, 3, none⟩ (.int .i64 (cn : Int))).setCell ⟨g5, 4, none⟩ (.int .i64 0)).setCell ⟨g5, 4, none⟩ (.int .i64 6) := ⟨_, rfl⟩
      rw [← hw]
      have ht : Turn g5 wm w6 := by rw [hw]; exact (((Turn.refl _ _).trans (Turn.cell g5 3 (.int .i64 (cn : Int)) _)).trans (Turn.cell g5 4 (.int .i64 0) _)).trans (Turn.cell g5 4 (.int .i64 6) _)
      replace H := Lib.hid (H.out.set ht (by rw [hw]; exact ((H.out.e.set3 (cn : Int)).set4 0).set4 6))
      clear hw ht
      clear y3 f3 y4 f4
      apply wp_region_lit
      refine wpl_loadE H.out.e rfl rfl rfl ?_
      refine wpl_storeE (8) (0) (0) ((cn : Int)) (6) (0) (0) none 0 0 H.out.z rfl rfl rfl rfl ?_
      intro wz q1 q2 q3 q4 q5
      have hfin := H.out.fin (Turn.ofStore q2 q3 q4)
      have HOT := Lib.hid (OT.nil wz w.heap.size)
      have HQ1 := Lib.hid q1
      have HFI := Lib.hid hfin
      clear q1 q2 q3 q4 q5 hfin
      simp only [Act.put, List.setIfInBounds_toArray, List.set_cons_succ, List.set_cons_zero]
      iterate 4 go_step
      exact bodyPost_ret (results_ed1 Try.results15 rfl HQ1.out ⟨_, _, _, rfl⟩) rfl ⟨⟨⟨8, 0, 0, (cn : Int), 6, 0, 0, []⟩, none, 0, 0, rfl, TE.clip 8 6 cn (by decide) (by omega) (by decide) (by decide), HOT.out⟩, TQ.of (k' := k + 1 + 1 + 1) (by omega) HFI.out.1 HFI.out.2⟩
    · have hd6 : (d - 5 == 0) = false := by simp; omega
      go_upto_region 15 with fail
      obtain ⟨w6, hw⟩ : ∃ q, q = (wm.setCell ⟨g5, 3, none⟩ (.int .i64 (cn : Int))).setCell ⟨g5, 4, none⟩ (.int .i64 (d - 5)) := ⟨_, rfl⟩
      rw [← hw]
      have ht : Turn g5 wm w6 := by rw [hw]; exact ((Turn.refl _ _).trans (Turn.cell g5 3 (.int .i64 (cn : Int)) _)).trans (Turn.cell g5 4 (.int .i64 (d - 5)) _)
      replace H := Lib.hid (H.out.set ht (by rw [hw]; exact (H.out.e.set3 (cn : Int)).set4 (d - 5)))
      clear hw ht
      clear y3 f3 y4 f4
      apply wp_region_lit
      refine wpl_loadE H.out.e rfl rfl rfl ?_
      refine wpl_storeE (8) (0) (0) ((cn : Int)) (d - 5) (0) (0) none 0 0 H.out.z rfl rfl rfl rfl ?_
      intro wz q1 q2 q3 q4 q5
      have hfin := H.out.fin (Turn.ofStore q2 q3 q4)
      have HOT := Lib.hid (OT.nil wz w.heap.size)
      have HQ1 := Lib.hid q1
      have HFI := Lib.hid hfin
      clear q1 q2 q3 q4 q5 hfin
      simp only [Act.put, List.setIfInBounds_toArray, List.set_cons_succ, List.set_cons_zero]
      iterate 4 go_step
      exact bodyPost_ret (results_ed1 Try.results15 rfl HQ1.out ⟨_, _, _, rfl⟩) rfl ⟨⟨⟨8, 0, 0, (cn : Int), d - 5, 0, 0, []⟩, none, 0, 0, rfl, TE.clip 8 (d - 5) cn (by decide) (by omega) (by omega) (by omega), HOT.out⟩, TQ.of (k' := k + 1 + 1 + 1) (by omega) HFI.out.1 HFI.out.2⟩
  · clear K0 K1
    have hn1 : (1 : Int) ≤ (n : Int) + 1 := by omega
    go_wp2_with fail
    refine (next_any B p (k + 1) ((n : Int) + 1) _ H.out.t (by omega) (by omega) (by omega)).mono ?_
    rintro e wn ⟨c, rfl, c0, c1, hT_, hg_⟩
    have ht := Turn.grown hg_ H.out.t.2.1
    replace H := Lib.hid (H.out.turn ht hT_)
    clear hT_ hg_ ht
    go_wp2_with fail
    refine (next_any B p (k + 1 + 1) 11 _ H.out.t (by omega) (by omega) (by omega)).mono ?_
    rintro e wm ⟨d, rfl, d0, d1, hT_, hg_⟩
    have ht := Turn.grown hg_ H.out.t.2.1
    replace H := Lib.hid (H.out.turn ht hT_)
    clear hT_ hg_ ht
    obtain ⟨cn, hcn⟩ : ∃ cn : Nat, c = (cn : Int) := ⟨c.toNat, by omega⟩
    subst hcn
    have y3 := H.out.e.k3
    have f3 := H.out.e.fz 3
    have y4 := H.out.e.k4
    have f4 := H.out.e.fz 4
    by_cases hd5 : d = 5
    · subst hd5
      go_upto_region 15 with fail
      obtain ⟨w6, hw⟩ : ∃ q, q = ((wm.setCell ⟨g5, 3, none⟩ (.int .i64 (cn : Int))).setCell ⟨g5, 4, none⟩ (.int .i64 0)).setCell ⟨g5, 4, none⟩ (.int .i64 6) := ⟨_, rfl⟩
      rw [← hw]
      have ht : Turn g5 wm w6 := by rw [hw]; exact (((Turn.refl _ _).trans (Turn.cell g5 3 (.int .i64 (cn : Int)) _)).trans (Turn.cell g5 4 (.int .i64 0) _)).trans (Turn.cell g5 4 (.int .i64 6) _)
      replace H := Lib.hid (H.out.set ht (by rw [hw]; exact ((H.out.e.set3 (cn : Int)).set4 0).set4 6))
      clear hw ht
      clear y3 f3 y4 f4
      apply wp_region_lit
      refine wpl_loadE H.out.e rfl rfl rfl ?_
      refine wpl_storeE (9) (0) (0) ((cn : Int)) (6) (0) (0) none 0 0 H.out.z rfl rfl rfl rfl ?_
      intro wz q1 q2 q3 q4 q5
      have hfin := H.out.fin (Turn.ofStore q2 q3 q4)
      have HOT := Lib.hid (OT.nil wz w.heap.size)
      have HQ1 := Lib.hid q1
      have HFI := Lib.hid hfin
      clear q1 q2 q3 q4 q5 hfin
      simp only [Act.put, List.setIfInBounds_toArray, List.set_cons_succ, List.set_cons_zero]
      iterate 4 go_step
      exact bodyPost_ret (results_ed1 Try.results15 rfl HQ1.out ⟨_, _, _, rfl⟩) rfl ⟨⟨⟨9, 0, 0, (cn : Int), 6, 0, 0, []⟩, none, 0, 0, rfl, TE.clip 9 6 cn (by decide) (by omega) (by decide) (by decide), HOT.out⟩, TQ.of (k' := k + 1 + 1 + 1) (by omega) HFI.out.1 HFI.out.2⟩
    · have hd6 : (d - 5 == 0) = false := by simp; omega
      go_upto_region 15 with fail
      obtain ⟨w6, hw⟩ : ∃ q, q = (wm.setCell ⟨g5, 3, none⟩ (.int .i64 (cn : Int))).setCell ⟨g5, 4, none⟩ (.int .i64 (d - 5)) := ⟨_, rfl⟩
      rw [← hw]
      have ht : Turn g5 wm w6 := by rw [hw]; exact ((Turn.refl _ _).trans (Turn.cell g5 3 (.int .i64 (cn : Int)) _)).trans (Turn.cell g5 4 (.int .i64 (d - 5)) _)
      replace H := Lib.hid (H.out.set ht (by rw [hw]; exact (H.out.e.set3 (cn : Int)).set4 (d - 5)))
      clear hw ht
      clear y3 f3 y4 f4
      apply wp_region_lit
      refine wpl_loadE H.out.e rfl rfl rfl ?_
      refine wpl_storeE (9) (0) (0) ((cn : Int)) (d - 5) (0) (0) none 0 0 H.out.z rfl rfl rfl rfl ?_
      intro wz q1 q2 q3 q4 q5
      have hfin := H.out.fin (Turn.ofStore q2 q3 q4)
      have HOT := Lib.hid (OT.nil wz w.heap.size)
      have HQ1 := Lib.hid q1
      have HFI := Lib.hid hfin
      clear q1 q2 q3 q4 q5 hfin
      simp only [Act.put, List.setIfInBounds_toArray, List.set_cons_succ, List.set_cons_zero]
      iterate 4 go_step
      exact bodyPost_ret (results_ed1 Try.results15 rfl HQ1.out ⟨_, _, _, rfl⟩) rfl ⟨⟨⟨9, 0, 0, (cn : Int), d - 5, 0, 0, []⟩, none, 0, 0, rfl, TE.clip 9 (d - 5) cn (by decide) (by omega) (by omega) (by omega), HOT.out⟩, TQ.of (k' := k + 1 + 1 + 1) (by omega) HFI.out.1 HFI.out.2⟩
  · clear K0 K1
    have hn1 : (1 : Int) ≤ (n : Int) + 1 := by omega
    go_wp2_with fail
    refine (next_any B p (k + 1) ((n : Int) + 1) _ H.out.t (by omega) (by omega) (by omega)).mono ?_
    rintro e wn ⟨c, rfl, c0, c1, hT_, hg_⟩
    have ht := Turn.grown hg_ H.out.t.2.1
    replace H := Lib.hid (H.out.turn ht hT_)
    clear hT_ hg_ ht
    go_wp2_with fail
    refine (speed_any B p (k + 1 + 1) _ H.out.t (by omega)).mono ?_
    rintro e wm ⟨⟨sn, sd, rfl, hsp⟩, ⟨k3, hk3, hT_⟩, ht⟩
    replace H := Lib.hid (H.out.turn ht hT_)
    have HSP := Lib.hid hsp
    have HK3 := Lib.hid hk3
    clear hsp hT_ ht hk3
    obtain ⟨cn, hcn⟩ : ∃ cn : Nat, c = (cn : Int) := ⟨c.toNat, by omega⟩
    subst hcn
    have y3 := H.out.e.k3
    have f3 := H.out.e.fz 3
    have y5 := H.out.e.k5
    have f5 := H.out.e.fz 5
    have y6 := H.out.e.k6
    have f6 := H.out.e.fz 6
    go_upto_region 15 with fail
    obtain ⟨w6, hw⟩ : ∃ q, q = ((wm.setCell ⟨g5, 3, none⟩ (.int .i64 (cn : Int))).setCell ⟨g5, 5, none⟩ (.int .i64 sn)).setCell ⟨g5, 6, none⟩ (.int .i64 sd) := ⟨_, rfl⟩
    rw [← hw]
    have ht : Turn g5 wm w6 := by rw [hw]; exact (((Turn.refl _ _).trans (Turn.cell g5 3 (.int .i64 (cn : Int)) _)).trans (Turn.cell g5 5 (.int .i64 sn) _)).trans (Turn.cell g5 6 (.int .i64 sd) _)
    replace H := Lib.hid (H.out.set ht (by rw [hw]; exact (H.out.e.set3 (cn : Int)).set56 sn sd))
    clear hw ht
    clear y3 f3 y5 f5 y6 f6
    apply wp_region_lit
    refine wpl_loadE H.out.e rfl rfl rfl ?_
    refine wpl_storeE (10) (0) (0) ((cn : Int)) (0) (sn) (sd) none 0 0 H.out.z rfl rfl rfl rfl ?_
    intro wz q1 q2 q3 q4 q5
    have hfin := H.out.fin (Turn.ofStore q2 q3 q4)
    have HOT := Lib.hid (OT.nil wz w.heap.size)
    have HQ1 := Lib.hid q1
    have HFI := Lib.hid hfin
    clear q1 q2 q3 q4 q5 hfin
    simp only [Act.put, List.setIfInBounds_toArray, List.set_cons_succ, List.set_cons_zero]
    iterate 4 go_step
    exact bodyPost_ret (results_ed1 Try.results15 rfl HQ1.out ⟨_, _, _, rfl⟩) rfl ⟨⟨⟨10, 0, 0, (cn : Int), 0, sn, sd, []⟩, none, 0, 0, rfl, TE.speed sn sd cn (by omega) HSP.out, HOT.out⟩, TQ.of (k' := k3) (by have := HK3.out; omega) HFI.out.1 HFI.out.2⟩
end Go.Proofs.Ytnmkcpgcdjhdjaa

/- The tape's clips and edits are valid ones. -/
namespace Go.Proofs.Ytnmkcpgcdjhdjaa
open Go.RowKit
set_option linter.unusedVariables false
set_option linter.unusedSimpArgs false
theorem two_text {c d : UInt8} {P : Nat → Prop} {m : Nat} (hm : 2 ≤ m) (hc : P c.toNat) (hd : P d.toNat) : TextP P m ⟨#[c, d]⟩ :=
  ⟨show 1 ≤ 2 by decide, hm, fun i hi => by
    have hi2 : i < 2 := hi
    rcases (show i = 0 ∨ i = 1 by omega) with rfl | rfl
    · exact hc
    · exact hd⟩
theorem one_text {c : UInt8} {P : Nat → Prop} {m : Nat} (hm : 1 ≤ m) (hc : P c.toNat) : TextP P m ⟨#[c]⟩ :=
  ⟨show 1 ≤ 1 by decide, hm, fun i hi => by
    have hi2 : i < 1 := hi
    obtain rfl : i = 0 := by omega
    exact hc⟩
theorem okName_text {s : ByteArray} (h : Trk.okName s) : TextP NC 32 s ∧ s.size ≤ 2 := by
  rcases h with ⟨c, d, rfl, h0, h1, h2, h3⟩ | ⟨c, rfl, h0, h1⟩
  · exact ⟨two_text (by decide) (.inl ⟨by omega, by omega⟩) (.inr (.inl ⟨by omega, by omega⟩)), Nat.le_refl 2⟩
  · exact ⟨one_text (by decide) (.inl ⟨by omega, by omega⟩), show 1 ≤ 2 by decide⟩
theorem okLine_text {s : ByteArray} (h : Trk.okLine s) : TextP LC 64 s :=
  ⟨h.1, h.2.1, fun i hi => by have := h.2.2 i hi; exact ⟨by omega, by omega⟩⟩
theorem srcOK_of {L n : Int} {s : Trk.Src} (h : Trk.SrcP L n s) (hL : L ≤ 140737488355328) : SrcOK s ∧ InS s := by
  obtain ⟨a0, a1, s0, s1, n0, n1, v0, v1⟩ := h.nums
  obtain ⟨f0, f1⟩ := h.far hL
  have hda : s.ad.toNat ∣ 6006 := by
    have := h.lat.a
    rw [show s.ad = ((s.ad.toNat : Nat) : Int) by omega] at this
    exact Int.natCast_dvd_natCast.1 this
  have hds : s.sd.toNat ∣ 6006 := by
    have := h.lat.s
    rw [show s.sd = ((s.sd.toNat : Nat) : Int) by omega] at this
    exact Int.natCast_dvd_natCast.1 this
  have hl := lcm_le hda hds (by omega)
  have ga := h.lat.g.a1
  have gs := h.lat.g.s1
  have hn := okName_text h.nm
  refine ⟨⟨h.k, hn.1, ?_, ?_, by omega, by omega, by omega, by omega, by omega⟩, ⟨by rcases h.k with e | e <;> rw [e] <;> decide, by rcases h.k with e | e <;> rw [e] <;> decide, by have := hn.2; omega, by omega, by omega, by omega, by omega, by omega, by omega, by omega, by omega⟩⟩
  · rw [validR_yes a0 (by omega), ga]; rfl
  · rw [validR_yes s0 (by omega), gs]; rfl
theorem srcIn_ok {L n : Int} {s : Trk.Src} (h : Trk.SrcIn L n s) (hL : L ≤ 140737488355328) : srcB s = true ∧ InS s := by
  rcases h with rfl | h
  · exact ⟨srcB_yes (.inl rfl), by constructor <;> decide⟩
  · exact ⟨srcB_yes (.inr (srcOK_of h hL).1), (srcOK_of h hL).2⟩
theorem chansB_nil : chansB [] = true := chansB_yes ⟨by decide, fun i c h => by simp at h⟩
theorem vc_valid {L : Int} {c : Trk.Clip} (h : Trk.VC L c) (hL : L ≤ 140737488355328) : clipB c c.chan = true ∧ InC c := by
  have ha := srcIn_ok h.c.a hL
  have hb := srcIn_ok h.c.b hL
  have hs : ∀ k, (k = 2 ∨ k = 3) → Trk.shares k = true := by rintro k (rfl | rfl) <;> rfl
  obtain ⟨l0, l1, l2⟩ := h.l
  have ht : c.text.size < 9223372036854775808 := by
    rcases h.c.kd with ⟨_, _, _, _, _, _, e⟩ | ⟨_, _, _, _, _, e⟩ | ⟨_, _, e⟩ | ⟨_, _, _, e⟩ | ⟨_, _, _, _, _, e⟩ | ⟨_, _, _, _, _, e⟩
    iterate 5 rw [e]; decide
    have := e.2.1; omega
  refine ⟨?_, ha.2, hb.2, ht⟩
  rw [h.c.ch]
  unfold clipB headB bodyB tailB
  rw [decide_eq_true l0, decide_eq_true l1, h.c.gn, chansB_nil, ha.1, hb.1]
  rcases h.c.kd with ⟨h0, h1, h2, h3, h4, h5, h6⟩ | ⟨h0, h2, h3, h4, h5, h6⟩ | ⟨h0, h5, h6⟩ | ⟨h0, h5, h5', h6⟩ | ⟨h0, h3, h4, h5, h5', h6⟩ | ⟨h0, h2, h3, h4, h5, h6⟩
  · simp [h0, h1, h2, h3, h4, h5, h6]
  · simp [h0, h2, h3, h4, h5, h6]
  · obtain ⟨o0, o1, o2, o3⟩ := l2 (hs _ (.inl h0))
    simp [h0, h5, h6, o0, o1, o2, o3]
  · obtain ⟨o0, o1, o2, o3⟩ := l2 (hs _ (.inr h0))
    simp [h0, h5, h5', h6, o0, o1, o2, o3]
  · simp [h0, h3, h4, h5, h5', h6]
  · simp [h0, h2, h3, h4, h5, lineB_yes (okLine_text h6)]
theorem clipG_clipC {c : Trk.Clip} (h : c.chan = []) : clipG c (.slice none 0 0) = clipC c := rfl
theorem Tk.gt {L : Int} {w : World} {v : Value} {l : List Trk.Clip} (h : Tk w v l) (hV : Trk.VL L l) (hL : L ≤ 140737488355328) : GT w v l := by
  obtain ⟨ao, cap, e, h1, h2, h3⟩ := h
  refine ⟨ao, cap, e, h1, h2, fun i c hi => ?_⟩
  obtain ⟨b, o, e2, hA⟩ := h3 i c hi
  have hv := hV c (List.mem_of_getElem? hi)
  exact ⟨b, o, .slice none 0 0, e2, GA.of hA.get, by rw [hv.c.ch]; exact IT.nil w, (vc_valid hv hL).2⟩
theorem trackB_vt {L : Int} {l : List Trk.Clip} (h : VT L l) (hL : L ≤ 140737488355328) : trackB l = true :=
  trackB_yes ⟨h.n, fun i c hi => (vc_valid (h.v c (List.mem_of_getElem? hi)) hL).1, h.t⟩
/-- The tape's edits are valid. -/
theorem te_valid {n : Nat} {e : Trk.Ed} (h : TE n e) : editB e.k e.p e.m e.c e.d e.sn e.sd e.ins = true ∧ Trk.VL 1000000 e.ins ∧ -9223372036854775808 ≤ e.sn ∧ e.sn ≤ 9223372036854775807 ∧ -9223372036854775808 ≤ e.sd ∧ e.sd ≤ 9223372036854775807 := by
  have hnil : Trk.VL 1000000 [] := fun x hx => by cases hx
  cases h with
  | ins k a cl hk a0 a1 h =>
    refine ⟨?_, h.v.v, by show (-9223372036854775808 : Int) ≤ 0; decide, by show (0 : Int) ≤ _; decide, by show (-9223372036854775808 : Int) ≤ 0; decide, by show (0 : Int) ≤ _; decide⟩
    show editB k a 0 0 0 0 0 cl = true
    rw [editB_ins hk a0 (by omega) rfl rfl rfl rfl rfl]
    have hne : cl.length ≠ 0 := fun e => by
      have := h.t1
      rw [List.length_eq_zero_iff.1 e] at this
      exact absurd this (by decide)
    rw [clipsB_of hne]
    exact trackB_vt h.v (by decide)
  | rem k a m hk a0 a1 m0 m1 =>
    refine ⟨?_, hnil, by show (-9223372036854775808 : Int) ≤ 0; decide, by show (0 : Int) ≤ _; decide, by show (-9223372036854775808 : Int) ≤ 0; decide, by show (0 : Int) ≤ _; decide⟩
    exact editB_yes (.inr (.inl ⟨hk, a0, by show a ≤ _; omega, m0, by show m ≤ _; omega, rfl, rfl, rfl, rfl, rfl⟩))
  | clip k d c hk hc d0 d1 =>
    refine ⟨?_, hnil, by show (-9223372036854775808 : Int) ≤ 0; decide, by show (0 : Int) ≤ _; decide, by show (-9223372036854775808 : Int) ≤ 0; decide, by show (0 : Int) ≤ _; decide⟩
    exact editB_yes (.inr (.inr (.inl ⟨hk, rfl, rfl, by show (0 : Int) ≤ (c : Int); omega, d0, by show (-2147483647 : Int) ≤ d; omega, by show d ≤ _; omega, rfl, rfl, rfl⟩)))
  | speed sn sd c hc h =>
    have hd : sd ≤ 6006 := Int.le_of_dvd (by decide) h.d
    have hd0 := h.d0
    have hq : 1 ≤ 6006 / sd := Int.le_ediv_of_mul_le (by omega) (by omega)
    have v0 := h.v0
    have v1 := h.v1
    obtain ⟨q, hq'⟩ : ∃ q, q = 6006 / sd := ⟨_, rfl⟩
    rw [← hq'] at hq v0 v1
    have b1 : sn ≤ 18018 := by
      rcases Int.lt_or_le 0 sn with h0 | h0
      · have := Int.mul_le_mul_of_nonneg_left hq (show 0 ≤ sn by omega); omega
      · omega
    have b0 : -18018 ≤ sn := by
      rcases Int.lt_or_le sn 0 with h0 | h0
      · have := Int.mul_le_mul_of_nonpos_left (show sn ≤ 0 by omega) hq; omega
      · omega
    refine ⟨?_, hnil, by show (-9223372036854775808 : Int) ≤ sn; omega, by show sn ≤ _; omega, by show (-9223372036854775808 : Int) ≤ sd; omega, by show sd ≤ _; omega⟩
    show editB 10 0 0 (c : Int) 0 sn sd [] = true
    rw [editB_spd rfl rfl (by omega) rfl rfl, validR_yes hd0 (by omega), h.g]
    rfl
end Go.Proofs.Ytnmkcpgcdjhdjaa

/- A plan with a turning point z: a condition S1 holds until z comes, and what it is needed for is waited for by z; a condition S2 holds throughout; from z on all comes in one forced order. -/
namespace Go.Plan
open Go
section
variable {P : Program} {ops : Array Oper} {Q : Exit → Act → World → Prop} {S1 S2 : World → Prop} {z : Nat} {C : Act → World → Prop}
/-- Whatever order is picked from here on; S1 holds until z has come, S2 always. -/
def anyV (P : Program) (ops : Array Oper) (Q : Exit → Act → World → Prop) (S1 S2 : World → Prop) (z : Nat) : Nat → Array Bool → Act → World → Prop
  | 0, listed, a, w => Region.ready .any ops listed = [] ∧ Q .normal a w
  | fuel + 1, listed, a, w => (Region.ready .any ops listed = [] → Q .normal a w) ∧
    ∀ i ∈ Region.ready .any ops listed, wpOp P ops Q i (fun a' w' => (S2 w' ∧ ((listed.setIfInBounds i true).getD z false = false → S1 w')) ∧ anyV P ops Q S1 S2 z fuel (listed.setIfInBounds i true) a' w') a w
theorem any_of_anyV : ∀ (fuel : Nat) (listed : Array Bool) (a : Act) (w : World), anyV P ops Q S1 S2 z fuel listed a w → wpAny P .any ops Q fuel listed a w
  | 0, _, _, _, h => h
  | fuel + 1, _, _, _, h => ⟨h.1, fun i hi => wpOp_mono (fun a' w' h' => any_of_anyV fuel _ a' w' h'.2) (h.2 i hi)⟩
theorem anyV_done {listed : Array Bool} {a : Act} {w : World} (hr : Region.ready .any ops listed = []) (h : Q .normal a w) : ∀ fuel, anyV P ops Q S1 S2 z fuel listed a w
  | 0 => ⟨hr, h⟩
  | _ + 1 => ⟨fun _ => h, by rw [hr]; simp⟩
theorem getD_false {l : Array Bool} {i z : Nat} (h : (l.setIfInBounds i true).getD z false = false) : l.getD z false = false := by
  by_cases hiz : i = z
  · subst hiz
    by_cases hlt : i < l.size
    · simp [hlt] at h
    · simp [Array.getD, hlt]
  · rw [getD_set_ne false hiz] at h; exact h
/-- A pure operation: what it yields depends on S2 alone, or on S1 too if z waits for it. -/
theorem anyV_take {i : Nat} {oi : Oper} {v : Value} (hi : ops[i]? = some oi) (hs : Region.noSelect ops = true) (hiz : i ≠ z) (S : World → Prop)
    (hz : (S = S2) ∨ ((ops[z]?).isSome = true ∧ waitsFor ops 6 z i = true ∧ S = fun w => S1 w ∧ S2 w)) (hQ : ∀ c a w, Q (.panic c) (a.put oi.dst v) w → Q (.panic c) a w) :
    ∀ (fuel : Nat) (listed : Array Bool) (a : Act) (w : World), Closed ops listed → Region.free .any ops listed i = true → i ∈ Region.ready .any ops listed → YieldsIf P ops S oi v a → S w → S2 w → (listed.getD z false = false → S1 w) →
      anyV P ops Q S1 S2 z fuel (listed.setIfInBounds i true) (a.put oi.dst v) w → anyV P ops Q S1 S2 z (fuel + 1) listed a w := by
  have hsel := Region.noSelect_spec hs
  have hilt := (Array.getElem?_eq_some_iff.1 hi).1
  have key : ∀ (fuel : Nat) (listed : Array Bool) (a : Act) (w : World), Closed ops listed →
      (∀ j oj, ops[j]? = some oj → j ≠ i → listed.getD j true = false → (∀ e ∈ oj.after, Region.binds .any e = true → e.on ≠ i) → oi.apart ops oj = true) →
      i ∈ Region.ready .any ops listed → YieldsIf P ops S oi v a → S w → S2 w → (listed.getD z false = false → S1 w) → anyV P ops Q S1 S2 z fuel (listed.setIfInBounds i true) (a.put oi.dst v) w → anyV P ops Q S1 S2 z (fuel + 1) listed a w := by
    intro fuel
    induction fuel with
    | zero =>
      intro listed a w _ _ hr hy hS hS2 hS1 H
      refine ⟨fun h => absurd (h ▸ hr) (by simp), fun j hj => ?_⟩
      by_cases hji : j = i
      · subst hji; exact hy.wpOp hi hS ⟨⟨hS2, fun h => hS1 (getD_false h)⟩, H⟩
      · have := ready_mono hj hji
        rw [H.1] at this
        cases this
    | succ fuel ih =>
      intro listed a w hcl hfree hr hy hS hS2 hS1 H
      refine ⟨fun h => absurd (h ▸ hr) (by simp), fun j hj => ?_⟩
      by_cases hji : j = i
      · subst hji; exact hy.wpOp hi hS ⟨⟨hS2, fun h => hS1 (getD_false h)⟩, H⟩
      · have h1 := H.2 j (ready_mono hj hji)
        obtain ⟨hjun, oj, hoj, hall⟩ := mem_ready.1 hj
        have hun0 := (mem_ready.1 hr).1
        have hil : listed.getD i false = false := by
          by_cases hlt : i < listed.size
          · simp [hlt] at hun0 ⊢; exact hun0
          · simp [Array.getD, hlt]
        have hnot : ∀ e ∈ oj.after, Region.binds .any e = true → e.on ≠ i := fun e he hb heq => by
          have h3 := hall e he hb
          rw [heq, hil] at h3
          cases h3
        have h2 := wpOp_putIf hoj (hfree j oj hoj hji hjun hnot) (fun cs b => hsel i oi cs b hi) (fun cs b => hsel j oj cs b hoj) hQ hy h1
        refine wpOp_mono (fun a' w' h3 => ?_) h2
        obtain ⟨hy', ⟨h2', h1'⟩, hrest⟩ := h3
        have hcomm : (listed.setIfInBounds i true).setIfInBounds j true = (listed.setIfInBounds j true).setIfInBounds i true := (Array.setIfInBounds_comm _ _ (Ne.symm hji))
        rw [hcomm] at h1' hrest
        have hr' : i ∈ Region.ready .any ops (listed.setIfInBounds j true) := ready_mono hr (Ne.symm hji)
        have hS1' : (listed.setIfInBounds j true).getD z false = false → S1 w' := fun h => h1' (by rw [getD_set_ne false hiz]; exact h)
        have hS' : S w' := by
          rcases hz with hz | ⟨hzs, hz, hz2⟩
          · rw [hz]; exact h2'
          · have hjz : j ≠ z := by
              rintro rfl
              have h3 := waits_spec hcl 6 j i (fun o ho e he hb => by
                rw [hoj] at ho
                obtain rfl := Option.some.inj ho
                exact hall e he hb) hz
              rw [hil] at h3; cases h3
            have hlz : listed.getD z false = false := by
              cases hc : listed.getD z false with
              | false => rfl
              | true =>
                have h3 := waits_spec hcl 6 z i (fun o ho e he hb => hcl z o ho hc e he hb) hz
                rw [hil] at h3; cases h3
            rw [hz2]
            exact ⟨hS1' (by rw [getD_set_ne false hjz]; exact hlz), h2'⟩
        refine ⟨⟨h2', hS1'⟩, ih (listed.setIfInBounds j true) a' w' (hcl.set hj) (fun k ok hk hki hun hno => ?_) hr' hy' hS' h2' hS1' hrest⟩
        refine hfree k ok hk hki ?_ hno
        by_cases hjk : j = k
        · subst hjk; exact hjun
        · rw [getD_set_ne true hjk] at hun; exact hun
  intro fuel listed a w hcl hf hr hy hS hS2 hS1 H
  exact key fuel listed a w hcl (Region.free_spec hi hf) hr hy hS hS2 hS1 H
/-- Pure operations: those of b = true need S1 too and are waited for by z. -/
def goV (ops : Array Oper) (z : Nat) (b : Bool) : Array Bool → List Nat → Option (Array Bool)
  | listed, [] => some listed
  | listed, i :: r => if Region.free .any ops listed i && (Region.ready .any ops listed).contains i && i != z && (!b || (ops[z]?).isSome && waitsFor ops 6 z i) then goV ops z b (listed.setIfInBounds i true) r else none
theorem goV_z {b : Bool} : ∀ (l : List Nat) (listed l' : Array Bool), goV ops z b listed l = some l' → l'.getD z false = listed.getD z false
  | [], listed, l', h => by simp only [goV, Option.some.injEq] at h; rw [h]
  | i :: r, listed, l', h => by
    simp only [goV] at h
    split at h
    · rename_i hc
      simp only [Bool.and_eq_true, bne_iff_ne] at hc
      rw [goV_z r _ _ h, getD_set_ne false hc.1.2]
    · cases h
theorem held_of_goV (hs : Region.noSelect ops = true) (hQ : ∀ c a d v w, Q (.panic c) (a.put d v) w → Q (.panic c) a w) (b : Bool) (S : World → Prop) (hS : S = if b then fun w => S1 w ∧ S2 w else S2) (z2 : Nat) (listed' : Array Bool) (fuel : Nat)
    (hC : ∀ a w, Closed ops listed' → listed'.size = ops.size → S2 w → (listed'.getD z false = false → S1 w) → C a w → anyV P ops Q S1 S2 z fuel listed' a w) :
    ∀ (l : List Nat) (listed : Array Bool) (a : Act) (w : World), Closed ops listed → goV ops z b listed l = some listed' → listed.size = ops.size → S2 w → S1 w → wpPlan P ops Q S z2 C (l.map (·, true)) a w →
      anyV P ops Q S1 S2 z (fuel + l.length) listed a w
  | [], listed, a, w, hcl, hp, hl, h2, h1, h => by
    simp only [goV, Option.some.injEq] at hp
    subst hp
    exact hC a w hcl hl h2 (fun _ => h1) h
  | i :: r, listed, a, w, hcl, hp, hl, h2, h1, h => by
    simp only [goV] at hp
    split at hp
    · rename_i hc
      simp only [Bool.and_eq_true, List.contains_eq_mem, decide_eq_true_eq, bne_iff_ne, Bool.or_eq_true, Bool.not_eq_true'] at hc
      obtain ⟨o, ho, v, hy, hr⟩ := h
      have hz : (S = S2) ∨ ((ops[z]?).isSome = true ∧ waitsFor ops 6 z i = true ∧ S = fun w => S1 w ∧ S2 w) := by
        rcases hc.2 with hb | hb
        · exact .inl (by rw [hS, hb]; rfl)
        · cases b with
          | false => exact .inl hS
          | true => exact .inr ⟨hb.1, hb.2, hS⟩
      have hSw : S w := by
        rcases hz with hz | ⟨_, _, hz⟩
        · rw [hz]; exact h2
        · rw [hz]; exact ⟨h1, h2⟩
      exact anyV_take ho hs hc.1.2 S hz (fun c a w => hQ c a _ _ w) _ _ _ _ hcl hc.1.1.1 hc.1.1.2 hy hSw h2 (fun _ => h1) (held_of_goV hs hQ b S hS z2 listed' fuel hC r _ _ _ (hcl.set hc.1.1.2) hp (by simp [hl]) h2 h1 hr)
    · cases hp
theorem held_of_tail : ∀ (t : List Nat) (listed listed' : Array Bool) (a : Act) (w : World), planGo ops ops.size listed (t.map (·, false)) = some listed' → (∀ i r, t = i :: r → i = z ∨ listed.getD z false = true) → listed.size = ops.size →
    (Region.ready .any ops listed' = []) → wpPlan P ops Q S2 ops.size (Q .normal) (t.map (·, false)) a w → anyV P ops Q S1 S2 z (0 + t.length) listed a w
  | [], listed, listed', a, w, hp, _, _, hr, h => by
    simp only [List.map_nil, planGo, Option.some.injEq] at hp
    subst hp
    exact anyV_done hr h _
  | i :: r, listed, listed', a, w, hp, hz, hl, hr, h => by
    simp only [List.map_cons, planGo] at hp
    split at hp
    · rename_i hc
      simp only [beq_iff_eq] at hc
      refine ⟨fun h0 => by rw [hc] at h0; simp at h0, fun j hj => ?_⟩
      have hj2 := hj
      rw [hc] at hj
      obtain rfl := List.mem_singleton.1 hj
      have hjlt : j < listed.size := by
        obtain ⟨_, o, ho, _⟩ := mem_ready.1 hj2
        rw [hl]; exact (Array.getElem?_eq_some_iff.1 ho).1
      have hzl : (listed.setIfInBounds j true).getD z false = true := by
        rcases hz j r rfl with h1 | h1
        · subst h1; simp [hjlt]
        · cases hc2 : (listed.setIfInBounds j true).getD z false with
          | true => rfl
          | false => rw [getD_false hc2] at h1; cases h1
      have hjn : j ≠ ops.size := by rw [← hl]; omega
      refine wpOp_mono (fun a' w' h' => ⟨⟨h'.1 hjn, fun hnz => by rw [hzl] at hnz; cases hnz⟩, ?_⟩) h
      exact held_of_tail r _ listed' a' w' hp (fun i' r' _ => .inr hzl) (by simp [hl]) hr h'.2
    · cases hp
/-- p0, p2: pure operations under S2; p1: pure operations under S1 and S2 that z waits for; t: z and all behind it. -/
def okV (ops : Array Oper) (z : Nat) (p0 p1 p2 t : List Nat) : Bool :=
  match goV ops z false (Array.replicate ops.size false) p0 with
  | none => false
  | some l0 => match goV ops z true l0 p1 with
    | none => false
    | some l1 => match goV ops z false l1 p2 with
      | none => false
      | some l2 => match planGo ops ops.size l2 (t.map (·, false)) with
        | none => false
        | some l3 => (Region.ready .any ops l3).isEmpty && decide (p0.length + p1.length + p2.length + t.length = ops.size) && decide (t.head? = some z)
theorem wp_region_planv {id : Nat} {l : List Oper} {a : Act} {w : World} (S1 S2 : World → Prop) (z : Nat) (p0 p1 p2 t : List Nat) (hm : P.follows .mixedOrders = true)
    (hs : Region.noSelect l.toArray = true) (hp : okV l.toArray z p0 p1 p2 t = true) (hS1 : S1 w.drew) (hS2 : S2 w.drew)
    (h : wpPlan P l.toArray (NoPanic Q) S2 l.toArray.size (wpPlan P l.toArray (NoPanic Q) (fun w => S1 w ∧ S2 w) l.toArray.size (wpPlan P l.toArray (NoPanic Q) S2 l.toArray.size (wpPlan P l.toArray (NoPanic Q) S2 l.toArray.size (NoPanic Q .normal) (t.map (·, false))) (p2.map (·, true))) (p1.map (·, true))) (p0.map (·, true)) a w.drew) :
    (Code.region id l.toArray true).wp P Q a w := by
  unfold okV at hp
  split at hp
  · cases hp
  rename_i l0 h0
  split at hp
  · cases hp
  rename_i l1 h1
  split at hp
  · cases hp
  rename_i l2 h2
  split at hp
  · cases hp
  rename_i l3 h3
  simp only [Bool.and_eq_true, decide_eq_true_eq, List.isEmpty_iff] at hp
  refine wp_region_noPanic (wp_region_any hm (any_of_anyV (S1 := S1) (S2 := S2) (z := z) _ _ _ _ ?_))
  have hQ : ∀ c (a : Act) d v w, NoPanic Q (.panic c) (a.put d v) w → NoPanic Q (.panic c) a w := fun c a d v w h => h.elim
  have hz0 : (Array.replicate l.toArray.size false).getD z false = false := by by_cases hz : z < l.toArray.size <;> simp [Array.getD, hz]
  have := held_of_goV (P := P) (Q := NoPanic Q) (S1 := S1) (S2 := S2) (z := z) hs hQ false S2 rfl l.toArray.size l0 (0 + t.length + p2.length + p1.length)
    (fun a w hcl hsz hs2 hs1 h => held_of_goV (P := P) (Q := NoPanic Q) (S1 := S1) (S2 := S2) (z := z) hs hQ true (fun w => S1 w ∧ S2 w) rfl l.toArray.size l1 (0 + t.length + p2.length)
      (fun a w hcl hsz hs2 hs1 h => held_of_goV (P := P) (Q := NoPanic Q) (S1 := S1) (S2 := S2) (z := z) hs hQ false S2 rfl l.toArray.size l2 (0 + t.length)
        (fun a w hcl hsz hs2 hs1 h => held_of_tail t l2 l3 a w h3 (fun i r e => .inl (by have := hp.2; rw [e] at this; simpa using this)) hsz hp.1.1 h)
        p2 l1 a w hcl h2 hsz hs2 (hs1 (by rw [goV_z p1 _ _ h1, goV_z p0 _ _ h0]; exact hz0)) h)
      p1 l0 a w hcl h1 hsz hs2 (hs1 (by rw [goV_z p0 _ _ h0]; exact hz0)) h)
    p0 _ a w.drew (closed_none _) h0 (by simp) hS2 hS1 h
  have e : 0 + t.length + p2.length + p1.length + p0.length = l.toArray.size := by have := hp.1.2; omega
  rw [e] at this
  exact this
end
end Go.Plan

/- The law of valid edits. -/
namespace Go.Proofs.Ytnmkcpgcdjhdjaa
open Go.RowKit
set_option linter.unusedVariables false
set_option linter.unusedSimpArgs false
/-- The contract of a function that says whether an edit is valid. -/
def EditSays (f : Nat) : Prop := ∀ (k p n c d sn sd : Int) (v : Value) (l : List Trk.Clip) (w : World), GT w v l → InE k p n c d sn sd → Calls Try.prog f #[edV k p n c d sn sd v] w fun e w' => e = .returned (.bool (editB k p n c d sn sd l)) ∧ Below w.heap.size w w'
theorem ED.set6 {w : World} {b : Nat} {k p n c d sn sd : Int} {v : Value} (h : ED w b k p n c d sn sd v) (x : Int) : ED (w.setCell ⟨b, 6, none⟩ (.int .i64 x)) b k p n c d sn x v := by
  obtain ⟨x0, x1, x2, x3, x4, x5, x6, x7, f⟩ := h
  exact ⟨by simp [go_sem, x0, x1, x2, x3, x4, x5, x6, x7], by simp [go_sem, x0, x1, x2, x3, x4, x5, x6, x7], by simp [go_sem, x0, x1, x2, x3, x4, x5, x6, x7], by simp [go_sem, x0, x1, x2, x3, x4, x5, x6, x7], by simp [go_sem, x0, x1, x2, x3, x4, x5, x6, x7], by simp [go_sem, x0, x1, x2, x3, x4, x5, x6, x7], by simp [go_sem, x0, x1, x2, x3, x4, x5, x6, x7], by simp [go_sem, x0, x1, x2, x3, x4, x5, x6, x7], fun o => (World.frozen?_setCell _ _ _ _).trans (f o)⟩
theorem wrap_rng (x : Int) : -9223372036854775808 ≤ wrap64 x ∧ wrap64 x ≤ 9223372036854775807 := by
  unfold wrap64
  omega
set_option maxRecDepth 100000 in
set_option maxHeartbeats 16000000 in
theorem law_valid (hv : EditSays 16) (hr : EditSays 17) (k p n c d sn sd : Int) (u vt : Value) (l : List Trk.Clip) (w : World) (hG : GT w u l) (hI : InE k p n c d sn sd) (ht : Ints w vt) :
    Calls Try.prog 3 #[edV k p n c d sn sd u, vt] w fun e w' => e = .returned (.bool true) ∧ Below w.heap.size w w' := by
  have HV := Lib.hid hv
  have HR := Lib.hid hr
  have HG := Lib.hid hG
  have HIN := Lib.hid hI
  obtain ⟨ua, ul, uc, hu⟩ : ∃ ua ul uc, u = .slice ua ul uc := by obtain ⟨ao, cap, e, _⟩ := hG; exact ⟨_, _, _, e⟩
  subst hu
  obtain ⟨ao, m, cp, rfl, hnc, hn, hIt⟩ := ht
  have HI := Lib.hid hIt
  clear hIt hG hI hv hr
  unfold edV
  obtain ⟨EE, hEE⟩ : ∃ E, E = edC k p n c d sn sd (.slice ua ul uc) := ⟨_, rfl⟩
  rw [← hEE]
  have HEE := Lib.hid hEE
  clear hEE
  go_enter Try.func3, Try.ntmps3
  go_upto_region 1 with fail
  obtain ⟨w1, hw1⟩ : ∃ y, y = w.alloc (.cells EE 26) := ⟨_, rfl⟩
  rw [← hw1]
  obtain ⟨g2, hg2⟩ : ∃ y, y = w.heap.size := ⟨_, rfl⟩
  have HE2 := Lib.hid (show ED w1 g2 k p n c d sn sd (.slice ua ul uc) by rw [hw1, hg2, HEE.out]; exact ED.box w k p n c d sn sd (.slice ua ul uc) rfl 26)
  have HB := Lib.hid (show Below w.heap.size w w1 by rw [hw1]; exact below_box _ _)
  have HG2 := Lib.hid (show w.heap.size ≤ g2 ∧ g2 < w1.heap.size from ⟨Nat.le_of_eq hg2.symm, HE2.out.lt⟩)
  rw [← hg2]
  clear hw1 hg2 HEE
  go_upto_region 2 with fail
  obtain ⟨w2, hw2⟩ : ∃ y, y = w1.alloc (.cells #[.slice ao m cp, .int .i64 0] 30) := ⟨_, rfl⟩
  rw [← hw2]
  obtain ⟨q, hq⟩ : ∃ y, y = w1.heap.size := ⟨_, rfl⟩
  have hb2 : Below w1.heap.size w1 w2 := by rw [hw2]; exact below_box _ _
  have HT := Lib.hid (show TP w2 w1.heap.size q 0 by
    refine ⟨by omega, by rw [hw2, hq]; simp [go_sem], ao, m, cp, by rw [hw2, hq]; simp [go_sem], by rw [hw2, hq]; simp [go_sem], by rw [hw2, hq]; simp [go_sem], hnc, hn, fun i hi => ?_⟩
    obtain ⟨b, o, x, e, hc⟩ := HI.out i hi
    exact ⟨b, o, x, e, Nat.lt_of_lt_of_le (block_lt_of_cell hc) HB.out.size, (hb2.cell (Nat.lt_of_lt_of_le (block_lt_of_cell hc) HB.out.size)).trans ((HB.out.cell (block_lt_of_cell hc)).trans hc)⟩)
  have HQ := Lib.hid (show w.heap.size ≤ q ∧ g2 < q from ⟨by rw [hq]; exact HB.out.size, by rw [hq]; exact HG2.out.2⟩)
  replace HE2 := Lib.hid (HE2.out.below hb2)
  replace HB := Lib.hid (HB.out.trans (hb2.mono HB.out.size))
  rw [← hq]
  clear hw2 hq hb2 HI
  go_wp2_with fail
  refine (tedit_any w1.heap.size q 0 5 w2 HT.out (by omega) (by omega)).mono ?_
  rintro e w3 ⟨⟨ed, ra, rl, rc, rfl, hte, hot⟩, ⟨k2, hk2, hT_⟩, ht⟩
  replace HE2 := Lib.hid (ht.ed (by have := HQ.out.2; omega) HE2.out)
  replace HB := Lib.hid (ht.b _ _ HQ.out.1 HB.out)
  obtain ⟨ek, ep, em, ec, ey, ez, es, ei⟩ := ed
  have HTV := Lib.hid (show editB ek ep em ec ey ez es ei = true ∧ Trk.VL 1000000 ei ∧ -9223372036854775808 ≤ ez ∧ ez ≤ 9223372036854775807 ∧ -9223372036854775808 ≤ es ∧ es ≤ 9223372036854775807 from te_valid hte)
  have HOT := Lib.hid (show GT w3 (.slice ra rl rc) ei from hot.tk.gt HTV.out.2.1 (by decide))
  clear hte hot hk2 hT_ ht HT
  unfold EdV edV
  try dsimp only
  iterate 4 go_step
  have hv : ED (w3.alloc (.cells (edC 0 0 0 0 0 0 0 (.slice none 0 0)) 26)) w3.heap.size 0 0 0 0 0 0 0 (.slice none 0 0) := ED.box w3 0 0 0 0 0 0 0 (.slice none 0 0) rfl 26
  have hb0 : Below w3.heap.size w3 (w3.alloc (.cells (edC 0 0 0 0 0 0 0 (.slice none 0 0)) 26)) := below_box _ _
  refine wpl_storeE ek ep em ec ey ez es ra rl rc hv rfl rfl rfl rfl ?_
  intro w4 q1 q2 q3 q4 q5
  have hb : Below w3.heap.size w3 w4 := q4 _ _ (Nat.le_refl _) hb0
  have HE6 := Lib.hid q1
  obtain ⟨g6, hgE⟩ : ∃ g, g = w3.heap.size := ⟨_, rfl⟩
  have HG6 := Lib.hid (show g2 < g6 ∧ w.heap.size ≤ g6 ∧ w3.heap.size ≤ g6 from ⟨by rw [hgE]; exact HE2.out.lt, by rw [hgE]; exact HB.out.size, Nat.le_of_eq hgE.symm⟩)
  have HB3 := Lib.hid hb
  rw [← hgE] at HE6 ⊢
  clear q1 q2 q3 q4 q5 hb0 hv hgE
  replace HE2 := Lib.hid (HE2.out.below hb)
  replace HB := Lib.hid (HB.out.trans (hb.mono HB.out.size))
  clear hb
  simp only [Act.put, List.setIfInBounds_toArray, List.set_cons_succ, List.set_cons_zero]
  have hv6 := fun w' (h : GT w' (.slice ra rl rc) ei) => HV.out ek ep em ec ey ez es (.slice ra rl rc) ei w' h ⟨HTV.out.2.2.1, HTV.out.2.2.2.1, HTV.out.2.2.2.2.1, HTV.out.2.2.2.2.2⟩
  have hr6 := fun w' (h : GT w' (.slice ra rl rc) ei) => HR.out ek ep em ec ey ez es (.slice ra rl rc) ei w' h ⟨HTV.out.2.2.1, HTV.out.2.2.2.1, HTV.out.2.2.2.2.1, HTV.out.2.2.2.2.2⟩
  rw [HTV.out.1] at hv6 hr6
  unfold edV edC at hr6
  unfold edV at hv6
  have HV6 := Lib.hid hv6
  have HR6 := Lib.hid hr6
  clear hv6 hr6
  go_upto_region 3 with fail
  apply wp_region_lit
  refine wpl_loadE HE6.out rfl rfl rfl ?_
  simp only [Act.put, List.setIfInBounds_toArray, List.set_cons_succ, List.set_cons_zero]
  go_wp2_with fail
  refine (HV6.out _ (HOT.out.below HB3.out)).mono ?_
  rintro e w5 ⟨rfl, hb⟩
  replace HE2 := Lib.hid (HE2.out.below hb)
  replace HE6 := Lib.hid (HE6.out.below hb)
  replace HB3 := Lib.hid (HB3.out.trans (hb.mono HB3.out.size))
  replace HB := Lib.hid (HB.out.trans (hb.mono HB.out.size))
  clear hb
  obtain ⟨e0, e1, e2, e3, e4, e5, e6, e7, ef⟩ := HE6.out
  go_wp2_with fail
  refine (HR6.out _ (HOT.out.below HB3.out)).mono ?_
  rintro e w6 ⟨rfl, hb⟩
  clear e0 e1 e2 e3 e4 e5 e6 e7 ef
  replace HE2 := Lib.hid (HE2.out.below hb)
  replace HE6 := Lib.hid (HE6.out.below hb)
  replace HB3 := Lib.hid (HB3.out.trans (hb.mono HB3.out.size))
  replace HB := Lib.hid (HB.out.trans (hb.mono HB.out.size))
  clear hb
  go_upto_region 5 with fail
  have hb : Below w6.heap.size w6 w6.drew := (Below.refl _ _).drew
  replace HE2 := Lib.hid (HE2.out.below hb)
  replace HE6 := Lib.hid (HE6.out.below hb)
  replace HB3 := Lib.hid (HB3.out.trans (hb.mono HB3.out.size))
  replace HB := Lib.hid (HB.out.trans (hb.mono HB.out.size))
  clear hb
  have hs1 := (⟨HE6.out.k4, HE6.out.k2, HE6.out.k6⟩ : w6.drew.cell? ⟨g6, 4, none⟩ = some (.int .i64 ey) ∧ w6.drew.cell? ⟨g6, 2, none⟩ = some (.int .i64 em) ∧ w6.drew.cell? ⟨g6, 6, none⟩ = some (.int .i64 es))
  have hs2 := (⟨HE2.out.k4, HE2.out.k2, HE2.out.k6⟩ : w6.drew.cell? ⟨g2, 4, none⟩ = some (.int .i64 d) ∧ w6.drew.cell? ⟨g2, 2, none⟩ = some (.int .i64 n) ∧ w6.drew.cell? ⟨g2, 6, none⟩ = some (.int .i64 sd))
  refine Plan.wp_region_planv (fun w' => w'.cell? ⟨g6, 4, none⟩ = some (.int .i64 ey) ∧ w'.cell? ⟨g6, 2, none⟩ = some (.int .i64 em) ∧ w'.cell? ⟨g6, 6, none⟩ = some (.int .i64 es)) (fun w' => w'.cell? ⟨g2, 4, none⟩ = some (.int .i64 d) ∧ w'.cell? ⟨g2, 2, none⟩ = some (.int .i64 n) ∧ w'.cell? ⟨g2, 6, none⟩ = some (.int .i64 sd)) 18 [7, 8, 13, 14, 15] [0, 1, 2, 3, 4, 5, 6, 10, 11, 12, 17] [9, 16] [18, 19, 20, 21, 22, 23] (by kernel_rfl) (by kernel_rfl) (by kernel_rfl) hs1 hs2 ?_
  refine' Plan.plan_seg (S := (fun w' => w'.cell? ⟨g2, 4, none⟩ = some (.int .i64 d) ∧ w'.cell? ⟨g2, 2, none⟩ = some (.int .i64 n) ∧ w'.cell? ⟨g2, 6, none⟩ = some (.int .i64 sd))) _ [7, 8, 13, 14, 15] [] (by kernel_rfl) (by kernel_rfl) rfl (by exact hs2) (fun wx hS => ?_) ?_
  rotate_left
  · obtain ⟨s4, s5, s6⟩ := hS
    skip
    go_light
    iterate 5 (apply Plan.seg_pick; rfl; intro K hK; go_wp)
    exact Plan.seg_nil
  refine Plan.plan_nil ?_
  refine' Plan.plan_seg (S := fun w' => (fun w' => w'.cell? ⟨g6, 4, none⟩ = some (.int .i64 ey) ∧ w'.cell? ⟨g6, 2, none⟩ = some (.int .i64 em) ∧ w'.cell? ⟨g6, 6, none⟩ = some (.int .i64 es)) w' ∧ (fun w' => w'.cell? ⟨g2, 4, none⟩ = some (.int .i64 d) ∧ w'.cell? ⟨g2, 2, none⟩ = some (.int .i64 n) ∧ w'.cell? ⟨g2, 6, none⟩ = some (.int .i64 sd)) w') _ [0, 1, 2, 3, 4, 5, 6, 10, 11, 12, 17] [] (by kernel_rfl) (by kernel_rfl) rfl (by exact ⟨hs1, hs2⟩) (fun wx hS => ?_) ?_
  rotate_left
  · obtain ⟨⟨s1, s2, s3⟩, s4, s5, s6⟩ := hS
    skip
    go_light
    iterate 11 (apply Plan.seg_pick; rfl; intro K hK; go_wp)
    exact Plan.seg_nil
  refine Plan.plan_nil ?_
  refine' Plan.plan_seg (S := (fun w' => w'.cell? ⟨g2, 4, none⟩ = some (.int .i64 d) ∧ w'.cell? ⟨g2, 2, none⟩ = some (.int .i64 n) ∧ w'.cell? ⟨g2, 6, none⟩ = some (.int .i64 sd))) _ [9, 16] [] (by kernel_rfl) (by kernel_rfl) rfl (by exact hs2) (fun wx hS => ?_) ?_
  rotate_left
  · clear hS
    go_light
    iterate 2 (apply Plan.seg_pick; rfl; intro K hK; go_wp)
    exact Plan.seg_nil
  refine Plan.plan_nil ?_
  clear hs1 hs2
  obtain ⟨w7, hw7⟩ : ∃ y, y = w6.drew := ⟨_, rfl⟩
  rw [← hw7] at HE2 HE6 HB3 HB ⊢
  clear hw7
  have HGN := Lib.hid (show g6 ≠ g2 by have := HG6.out.1; omega)
  have y4 := HE6.out.k4
  have y2 := HE6.out.k2
  have y6 := HE6.out.k6
  have yf := HE6.out.fz
  obtain ⟨d', hd⟩ : ∃ y, y = wrap64 (ey + d) := ⟨_, rfl⟩
  obtain ⟨n', hn'⟩ : ∃ y, y = wrap64 (em + n) := ⟨_, rfl⟩
  obtain ⟨s', hs'⟩ : ∃ y, y = wrap64 (es + sd) := ⟨_, rfl⟩
  have hsr := wrap_rng (es + sd)
  rw [← hs'] at hsr
  have HSR := Lib.hid hsr
  try rw [← hd]
  try rw [← hn']
  try rw [← hs']
  clear hd hn' hs' hsr
  have z4 := HE2.out.k4
  have z2 := HE2.out.k2
  have z6 := HE2.out.k6
  refine Plan.plan_of_effect rfl (fun K hK => ?_)
  go_wp2_with fail
  refine ⟨?_, ?_⟩
  · exact ⟨by simp [go_sem, HGN.out, z4], by simp [go_sem, HGN.out, z2], by simp [go_sem, HGN.out, z6]⟩
  refine Plan.plan_of_effect rfl (fun K hK => ?_)
  go_wp2_with fail
  refine ⟨⟨by simp [go_sem, HGN.out, z4], by simp [go_sem, HGN.out, z2], by simp [go_sem, HGN.out, z6]⟩, ?_⟩
  refine Plan.plan_of_effect rfl (fun K hK => ?_)
  go_wp2_with fail
  refine ⟨⟨by simp [go_sem, HGN.out, z4], by simp [go_sem, HGN.out, z2], by simp [go_sem, HGN.out, z6]⟩, ?_⟩
  refine Plan.plan_of_effect rfl (fun K hK => ?_)
  go_wp2_with fail
  refine ⟨⟨by simp [go_sem, HGN.out, z4], by simp [go_sem, HGN.out, z2], by simp [go_sem, HGN.out, z6]⟩, ?_⟩
  refine Plan.plan_of_effect rfl (fun K hK => ?_)
  go_wp2_with fail
  refine ⟨⟨by simp [go_sem, HGN.out, z4], by simp [go_sem, HGN.out, z2], by simp [go_sem, HGN.out, z6]⟩, ?_⟩
  refine Plan.plan_of_effect rfl (fun K hK => ?_)
  go_wp2_with fail
  refine ⟨⟨by simp [go_sem, HGN.out, z4], by simp [go_sem, HGN.out, z2], by simp [go_sem, HGN.out, z6]⟩, ?_⟩
  refine Plan.plan_done ?_
  obtain ⟨w8, hw8⟩ : ∃ y, y = ((w7.setCell ⟨g6, 4, none⟩ (.int .i64 d')).setCell ⟨g6, 2, none⟩ (.int .i64 n')).setCell ⟨g6, 6, none⟩ (.int .i64 s') := ⟨_, rfl⟩
  rw [← hw8]
  have HE6' := Lib.hid (show ED w8 g6 ek ep n' ec d' ez s' (.slice ra rl rc) by rw [hw8]; exact ((HE6.out.set4 d').set2 n').set6 s')
  have ht : Turn g6 w7 w8 := by rw [hw8]; exact ((Turn.cell g6 4 _ _).trans (Turn.cell g6 2 _ _)).trans (Turn.cell g6 6 _ _)
  replace HE2 := Lib.hid (ht.ed (by have := HG6.out.1; omega) HE2.out)
  replace HB := Lib.hid (ht.b _ _ HG6.out.2.1 HB.out)
  replace HB3 := Lib.hid (ht.b _ _ HG6.out.2.2 HB3.out)
  clear hw8 ht y4 y2 y6 yf z4 z2 z6 HE6 HV6 HR6
  have hv2 := fun w' (h : GT w' (.slice ua ul uc) l) => HV.out k p n c d sn sd (.slice ua ul uc) l w' h HIN.out
  have hr2 := fun w' (h : GT w' (.slice ua ul uc) l) => HR.out k p n c d sn sd (.slice ua ul uc) l w' h HIN.out
  have hv6 := fun w' (h : GT w' (.slice ra rl rc) ei) => HV.out ek ep n' ec d' ez s' (.slice ra rl rc) ei w' h ⟨HTV.out.2.2.1, HTV.out.2.2.2.1, HSR.out.1, HSR.out.2⟩
  have hr6 := fun w' (h : GT w' (.slice ra rl rc) ei) => HR.out ek ep n' ec d' ez s' (.slice ra rl rc) ei w' h ⟨HTV.out.2.2.1, HTV.out.2.2.2.1, HSR.out.1, HSR.out.2⟩
  unfold edV at hv2 hr2 hv6 hr6
  obtain ⟨b1, hb1⟩ : ∃ b, b = editB k p n c d sn sd l := ⟨_, rfl⟩
  obtain ⟨b2, hb2⟩ : ∃ b, b = editB ek ep n' ec d' ez s' ei := ⟨_, rfl⟩
  rw [← hb1] at hv2 hr2
  rw [← hb2] at hv6 hr6
  have HV2 := Lib.hid hv2
  have HR2 := Lib.hid hr2
  clear hv2 hr2 hb1 hb2
  unfold edC at hv6 hr6
  have HV6 := Lib.hid hv6
  have HR6 := Lib.hid hr6
  clear hv6 hr6
  go_upto_region 6 with fail
  have hbz : Below w8.heap.size w8 w8.drew := (Below.refl _ _).drew
  refine Plan.wp_region_plan (fun w' => Below w8.heap.size w8 w') (([0, 2].map (·, true)) ++ (([1, 3].map (·, false)) ++ (([4, 5, 6, 8].map (·, true)) ++ (([7, 9].map (·, false)) ++ (([10, 11, 12].map (·, true)) ++ (([13].map (·, false)) ++ ([14, 15].map (·, true)))))))) (by kernel_rfl) (by kernel_rfl) (by kernel_rfl) hbz ?_
  refine' Plan.plan_seg (S := fun w' => Below w8.heap.size w8 w') _ [0, 2] (([1, 3].map (·, false)) ++ (([4, 5, 6, 8].map (·, true)) ++ (([7, 9].map (·, false)) ++ (([10, 11, 12].map (·, true)) ++ (([13].map (·, false)) ++ ([14, 15].map (·, true))))))) (by kernel_rfl) (by kernel_rfl) rfl (by exact hbz) (fun wx hS => ?_) ?_
  rotate_left
  · have HS := Lib.hid (HE2.out.below hS)
    clear hS
    go_light
    (apply Plan.seg_pick; rfl; intro K hK)
    refine wpl_loadE HS.out rfl rfl rfl ?_
    go_wp
    (apply Plan.seg_pick; rfl; intro K hK)
    refine wpl_loadE HS.out rfl rfl rfl ?_
    go_wp
    exact Plan.seg_nil
  have HW := Lib.hid hbz
  refine Plan.plan_of_effect rfl (fun K hK => ?_)
  go_wp2_with fail
  refine (HV2.out _ (HG.out.below (HB.out.trans (HW.out.mono HB.out.size)))).mono ?_
  rintro e w9 ⟨rfl, hb⟩
  replace HW := Lib.hid (HW.out.trans (hb.mono HW.out.size))
  clear hb
  go_wp2_with fail
  refine ⟨HW.out, ?_⟩
  refine Plan.plan_of_effect rfl (fun K hK => ?_)
  go_wp2_with fail
  refine (HR2.out _ (HG.out.below (HB.out.trans (HW.out.mono HB.out.size)))).mono ?_
  rintro e w10 ⟨rfl, hb⟩
  replace HW := Lib.hid (HW.out.trans (hb.mono HW.out.size))
  clear hb
  go_wp2_with fail
  refine ⟨HW.out, ?_⟩
  refine' Plan.plan_seg (S := fun w' => Below w8.heap.size w8 w') _ [4, 5, 6, 8] (([7, 9].map (·, false)) ++ (([10, 11, 12].map (·, true)) ++ (([13].map (·, false)) ++ ([14, 15].map (·, true))))) (by kernel_rfl) (by kernel_rfl) rfl (by exact HW.out) (fun wx hS => ?_) ?_
  rotate_left
  · obtain ⟨e0, e1, e2, e3, e4, e5, e6, e7, ef⟩ := HE6'.out.below hS
    clear hS
    go_light
    iterate 4 (apply Plan.seg_pick; rfl; intro K hK; go_wp2_with fail)
    exact Plan.seg_nil
  refine Plan.plan_of_effect rfl (fun K hK => ?_)
  go_wp2_with fail
  refine (HV6.out _ (HOT.out.below (HB3.out.trans (HW.out.mono HB3.out.size)))).mono ?_
  rintro e w11 ⟨rfl, hb⟩
  replace HW := Lib.hid (HW.out.trans (hb.mono HW.out.size))
  clear hb
  go_wp2_with fail
  refine ⟨HW.out, ?_⟩
  refine Plan.plan_of_effect rfl (fun K hK => ?_)
  go_wp2_with fail
  refine (HR6.out _ (HOT.out.below (HB3.out.trans (HW.out.mono HB3.out.size)))).mono ?_
  rintro e w12 ⟨rfl, hb⟩
  replace HW := Lib.hid (HW.out.trans (hb.mono HW.out.size))
  clear hb
  go_wp2_with fail
  refine ⟨HW.out, ?_⟩
  refine' Plan.plan_seg (S := fun w' => Below w8.heap.size w8 w') _ [10, 11, 12] (([13].map (·, false)) ++ ([14, 15].map (·, true))) (by kernel_rfl) (by kernel_rfl) rfl (by exact HW.out) (fun wx hS => ?_) ?_
  rotate_left
  · clear hS
    go_light
    iterate 3 (apply Plan.seg_pick; rfl; intro K hK; go_wp)
    exact Plan.seg_nil
  refine Plan.plan_of_effect rfl (fun K hK => ?_)
  go_wp2_with fail
  refine (awake_any _).mono ?_
  rintro e w13 ⟨rfl, hb⟩
  replace HW := Lib.hid (HW.out.trans (hb.mono HW.out.size))
  clear hb
  go_wp2_with fail
  refine ⟨HW.out, ?_⟩
  refine' Plan.plan_seg (S := fun w' => Below w8.heap.size w8 w') _ [14, 15] [] (by kernel_rfl) (by kernel_rfl) rfl (by exact HW.out) (fun wx hS => ?_) ?_
  rotate_left
  · clear hS
    go_light
    iterate 2 (apply Plan.seg_pick; rfl; intro K hK; go_wp)
    exact Plan.seg_nil
  refine Plan.plan_done ?_
  go_wp2_with fail
  go_ret
  exact ⟨by first | rfl | exact ret_bool (by simp), HB.out.trans (HW.out.mono HB.out.size)⟩
end Go.Proofs.Ytnmkcpgcdjhdjaa

/- The contracts of the validity functions put together. -/
namespace Go.Proofs.Ytnmkcpgcdjhdjaa
open Go.RowKit
set_option linter.unusedVariables false
theorem clip_says : ClipSays 62 := fun c x w hI hC => by
  cases h : headB c c.chan with
  | false => rw [clipB_head h]; exact vclip_no c x c.chan w hI hC.a hC.b h
  | true =>
    have e : clipB c c.chan = bodyB c c.chan := by unfold clipB; rw [h]; rfl
    rw [e]
    exact vclip_yes c x c.chan w hI hC.a hC.b h hC.t
theorem rclip_says : ClipSays 61 := fun c x w hI hC => rclip_all c x c.chan w hI hC.a hC.b hC.t
theorem track_says : TrackSays 44 := fun v l w h => vtrack_all v l w h clip_says
theorem rtrack_says : TrackSays 40 := fun v l w h => rtrack_all v l w h rclip_says
theorem says16 : EditSays 16 := fun k p n c d sn sd v l w h hI => gvalid_all k p n c d sn sd v l w h hI track_says
theorem says17 : EditSays 17 := fun k p n c d sn sd v l w h hI => grvalid_all k p n c d sn sd v l w h hI rtrack_says
end Go.Proofs.Ytnmkcpgcdjhdjaa

/- Aid for the rows: arguments that stay as they were; a tape's numbers. -/
namespace Go.Proofs.Ytnmkcpgcdjhdjaa
open Go.ChangeShapes Go.WideShapes Go.ChangeAt Go.RowKit
set_option linter.unusedVariables false

theorem laid_out : laidOutB Try.prog = true := by kernel_rfl
theorem cells3 : Try.prog.cellsOf 3 = 1 := by kernel_rfl
theorem cells5 : Try.prog.cellsOf 5 = 1 := by kernel_rfl
section
variable {P : Program} {H : Type} {enc : TypeId × Value → H}
/-- The row's post where all that was there when the call began is as it was. -/
theorem post_of_below {f : Func} {s : ChangeSpec} {apart fresh handsOn again : Bool} {W W' : World} {args : Array Value} {v : Value} {ds gs : List (DataW H)} {before pa pv : List MemPlace}
    (hW : DataW.Whole enc P f.params.toList s.vars apart W args.toList ds gs before)
    (hres : ∀ (b : Nat) (sp : Nat → Bool) (hd : Bool), DataW.TrodAll enc P W' b sp hd f.resultTypes.toList (v.resultList f.resultTypes.size) (s.fn H (ds ++ gs)).results [])
    (hargs : ∀ sp : Nat → Bool, (∀ p ∈ before, sp p.block = true) → DataW.TrodAll enc P W' 0 sp true f.params.toList args.toList (s.fn H (ds ++ gs)).args pa)
    (hvars : ∀ sp : Nat → Bool, (∀ p ∈ before, sp p.block = true) → DataW.TrodVars enc P W' sp s.vars (s.fn H (ds ++ gs)).vars pv)
    (hps : before = pa ++ pv) (hb : Below W.heap.size W W')
    (hok : ∀ (j : Nat) (t : TypeId) (r : Value), f.resultTypes[j]? = some t → (v.resultList f.resultTypes.size)[j]? = some r → Value.okWide P W' .any 0 t r) :
    s.post enc P f apart fresh handsOn again W args v W' := by
  have old : ∀ p ∈ before, (fun b => decide (b < W.heap.size)) p.block = true := fun p hp => by simpa using hW.lt p hp
  have kept : W.keptBut W' (· ∈ before) := hb.frame _
  refine ⟨ds, gs, before, [], pa, pv, hW, hres _ _ _, hargs _ old, hvars _ old, World.keptBut_mono (fun p hp => ⟨hp, by rw [hps, List.mem_append] at hp; exact Or.inr hp⟩) kept, fun _ => ?_⟩
  have lt := hW.lt
  obtain ⟨_, _, _, _, _, hz, hn⟩ := hW
  refine ⟨hok, _, _, ([] ++ pa) ++ pv, ⟨[] ++ pa, pv, trodAll_append (hargs _ (fun _ _ => rfl)) (hres _ _ _), hvars _ (fun _ _ => rfl), rfl, ?_, ?_⟩, ?_⟩
  · intro b off hp
    have hp' : MemPlace.cell b off ∈ before := by rw [hps]; simpa using hp
    rw [hb.frozen (p := ⟨b, off, none⟩) (lt _ hp')]
    exact hz b off hp'
  · intro ha
    have h := hn ha
    rw [hps] at h
    simpa using h
  · intro p hp _
    rw [hps]
    simpa using hp

end
section
variable {H : Type} {enc : TypeId × Value → H}
theorem trodAll_stays {P : Program} (hl : laidOutB P = true) {W W' : World} {sp : Nat → Bool} (hb : Below W.heap.size W W') : ∀ {ts : List TypeId} {vs : List Value} {ds : List (DataW H)} {ps : List MemPlace}, (ts.all fun t => P.readableRec t && decide (t < P.types.size)) = true →
    DataW.TrodAll enc P W 0 (fun _ => true) true ts vs ds ps → (∀ x ∈ ps, x.block < W.heap.size) → (∀ x ∈ ps, sp x.block = true) → DataW.TrodAll enc P W' 0 sp true ts vs ds ps := by
  intro ts
  induction ts with
  | nil =>
    intro vs ds ps _ h _ _
    cases vs with
    | nil => cases ds with
      | nil => exact h
      | cons => exact h.elim
    | cons => exact h.elim
  | cons t ts ih =>
    intro vs ds ps hr h hlt hs
    cases vs with
    | nil => exact h.elim
    | cons v vs => cases ds with
      | nil => exact h.elim
      | cons d ds =>
        obtain ⟨p, q, h1, h2, rfl⟩ := h
        simp only [List.all_cons, Bool.and_eq_true, decide_eq_true_eq] at hr
        exact ⟨p, q, WideElems.Trod_stays hl hr.1.1 hr.1.2 h1 (fun x hx => hb.same (hlt x (List.mem_append_left _ hx))) (fun x hx => hs x (List.mem_append_left _ hx)),
          ih hr.2 h2 (fun x hx => hlt x (List.mem_append_right _ hx)) (fun x hx => hs x (List.mem_append_right _ hx)), rfl⟩


set_option maxRecDepth 100000 in
theorem open_tape {W : World} {base : Nat} {v : Value} {d : DataW H} {p : List MemPlace} (hval : Value.okWide Try.prog W .any base 27 v) (h : DataW.Trod enc Try.prog W 0 (fun _ => true) true 27 v d p) : Ints W v := by
  obtain ⟨a1, len, cap, rfl⟩ := okWide_slice Try.underlying27 hval
  obtain ⟨fuel, hf⟩ := h
  rcases open_ints Try.underlying27 Try.underlying3 cells3 hf with ⟨hcs, hx⟩ | ⟨a, len', cap', zs, hcs, _, hl, hm, hz, hx, hcell, hwz⟩
  · simp [Value.cells] at hcs
    obtain ⟨rfl, rfl, rfl⟩ := hcs
    exact ⟨none, 0, 0, rfl, Nat.le_refl _, by omega, fun i hi => absurd hi (Nat.not_lt_zero i)⟩
  · simp [Value.cells] at hcs
    obtain ⟨rfl, rfl, rfl⟩ := hcs
    simp only [if_true] at hz
    refine ⟨_, _, _, rfl, hl, by unfold maxLen at hm; omega, fun i hi => ?_⟩
    obtain ⟨ab, ao, spot⟩ := a
    have hspot : spot = none := by simpa [Addr.add] using World.cell?_spot (hcell 0 (by omega))
    subst hspot
    have hc := hcell i (by omega)
    rw [Addr.add_lit] at hc
    exact ⟨ab, ao, _, rfl, hc⟩

end
end Go.Proofs.Ytnmkcpgcdjhdjaa

/- Aid for the row: an edit with any clips read off an argument. -/
namespace Go.Proofs.Ytnmkcpgcdjhdjaa
open Go.ChangeShapes Go.WideShapes Go.ChangeAt Go.RowKit
set_option linter.unusedVariables false
set_option linter.unusedSimpArgs false

theorem cellsT2 : Try.prog.cellsOf 2 = 1 := by kernel_rfl
theorem cellsT3 : Try.prog.cellsOf 3 = 1 := by kernel_rfl
theorem cellsT4 : Try.prog.cellsOf 4 = 1 := by kernel_rfl
theorem cellsT9 : Try.prog.cellsOf 9 = 1 := by kernel_rfl
theorem cellsT23 : Try.prog.cellsOf 23 = 2 := by kernel_rfl
theorem cellsT24 : Try.prog.cellsOf 24 = 1 := by kernel_rfl
theorem cellsT26 : Try.prog.cellsOf 26 = 8 := by kernel_rfl
theorem cellsT27 : Try.prog.cellsOf 27 = 1 := by kernel_rfl
theorem cellsT51 : Try.prog.cellsOf 51 = 7 := by kernel_rfl
theorem cellsT53 : Try.prog.cellsOf 53 = 22 := by kernel_rfl

section
variable {H : Type} {enc : TypeId × Value → H}

/-- A slice whose elements have k cells each. -/
theorem slice_at {W : World} {n : Nat} {c : Value} {t e : TypeId} {k : Nat} {y : DataW H × List MemPlace} (ht : Try.prog.underlying t = some (.slice e)) (hC : Try.prog.cellsOf e = k) (hk : 0 < k) (h : DataW.trod enc Try.prog W 0 (fun _ => true) true n t [c] = some y) :
    ∃ ao len cap, c = .slice ao len cap ∧ len ≤ cap ∧ cap ≤ maxLen ∧ ∀ i, i < len → ∃ b o cs' n' y', ao = some ⟨b, o, none⟩ ∧ cs'.length = k ∧ (∀ j, j < k → W.cell? ⟨b, o + i * k + j, none⟩ = cs'[j]?) ∧ DataW.trod enc Try.prog W 0 (fun _ => true) true n' e cs' = some y' := by
  rcases Go.Deep.open_slice ht h with ⟨hcs, _⟩ | ⟨a, len, cap, m, n', D, Pl, hcs, _, hl, hm, hmm, _, hi⟩
  · obtain rfl : c = .slice none 0 0 := by simpa using hcs
    exact ⟨none, 0, 0, rfl, Nat.le_refl _, Nat.zero_le _, fun i hi => absurd hi (Nat.not_lt_zero i)⟩
  · obtain rfl : c = .slice (some a) len cap := by simpa using hcs
    simp only [if_true] at hmm
    subst hmm
    refine ⟨_, len, m, rfl, hl, hm, fun i hil => ?_⟩
    obtain ⟨ab, ao, spot⟩ := a
    have hspot : spot = none := by
      obtain ⟨cs0, hc0, _⟩ := hi 0 (by omega)
      rw [hC] at hc0
      obtain ⟨_, hl0, hat0⟩ := World.cells?_some hc0
      have h0 := hat0 0 hk
      rw [List.getElem?_eq_getElem (by omega)] at h0
      have := World.cell?_spot h0
      simpa [Addr.add] using this
    subst hspot
    obtain ⟨cs', hc', ht'⟩ := hi i (by omega)
    rw [hC] at hc'
    obtain ⟨_, hl', hat⟩ := World.cells?_some hc'
    refine ⟨ab, ao, cs', n', _, rfl, hl', fun j hj => ?_, ht'⟩
    have := hat j hj
    rw [Addr.add_lit, Addr.add_lit] at this
    exact this

theorem list_of {α : Type} {P : Nat → α → Prop} (len : Nat) (h : ∀ i, i < len → ∃ a, P i a) : ∃ l : List α, l.length = len ∧ ∀ i a, l[i]? = some a → P i a := by
  induction len with
  | zero => exact ⟨[], rfl, fun i a h => by simp at h⟩
  | succ len ih =>
    obtain ⟨l, hl, hp⟩ := ih (fun i hi => h i (by omega))
    obtain ⟨a, ha⟩ := h len (by omega)
    refine ⟨l ++ [a], by simp [hl], fun i b hb => ?_⟩
    by_cases hi : i < l.length
    · rw [List.getElem?_append_left hi] at hb
      exact hp i b hb
    · rw [List.getElem?_append_right (by omega)] at hb
      have hi2 : i = len := by
        have := (List.getElem?_eq_some_iff.1 hb).1
        simp at this
        omega
      subst hi2
      rw [hl, Nat.sub_self] at hb
      simp at hb
      rw [← hb]
      exact ha

theorem int_of {W : World} {n : Nat} {c : Value} {t : TypeId} {y : DataW H × List MemPlace} (ht : Try.prog.underlying t = some (.int .i64)) (h : DataW.trod enc Try.prog W 0 (fun _ => true) true n t [c] = some y) :
    ∃ a, c = .int .i64 a ∧ -9223372036854775808 ≤ a ∧ a ≤ 9223372036854775807 := by
  obtain ⟨a, e, _, hw⟩ := DataW.trod_int ht h
  exact ⟨a, by simpa using e, by simpa [Lit.wf, IntKind.min, IntKind.max, IntKind.signed, IntKind.bits] using hw⟩
theorem text_of {W : World} {n : Nat} {c : Value} {y : DataW H × List MemPlace} (h : DataW.trod enc Try.prog W 0 (fun _ => true) true n 9 [c] = some y) :
    ∃ s, c = .string s ∧ s.size < 9223372036854775808 := by
  obtain ⟨s, e, _, hm⟩ := DataW.trod_string Try.underlying9 h
  exact ⟨s, by simpa using e, Nat.lt_of_le_of_lt hm (by unfold maxLen; decide)⟩

theorem ints_of {W : World} {n : Nat} {c : Value} {y : DataW H × List MemPlace} (h : DataW.trod enc Try.prog W 0 (fun _ => true) true n 27 [c] = some y) : ∃ l, IT W c l := by
  obtain ⟨ao, len, cap, rfl, hl, hm, hi⟩ := slice_at Try.underlying27 cellsT3 (by decide) h
  obtain ⟨l, hll, hp⟩ := list_of (P := fun i a => ∃ b o, ao = some ⟨b, o, none⟩ ∧ b < W.heap.size ∧ W.cell? ⟨b, o + i, none⟩ = some (.int .i64 a)) len (fun i hil => by
    obtain ⟨b, o, cs', n', y', rfl, hlen, hat, ht⟩ := hi i hil
    match cs', hlen with
    | [c0], _ =>
      obtain ⟨a, rfl, _⟩ := int_of Try.underlying3 ht
      have hc := hat 0 (by decide)
      simp only [Nat.mul_one, Nat.add_zero, List.getElem?_cons_zero] at hc
      exact ⟨a, b, o, rfl, block_lt_of_cell hc, hc⟩)
  subst hll
  exact ⟨l, ao, cap, rfl, hl, hm, hp⟩

set_option maxRecDepth 100000 in
theorem rat_of {W : World} {n : Nat} {cs : List Value} {y : DataW H × List MemPlace} (h : DataW.trod enc Try.prog W 0 (fun _ => true) true n 23 cs = some y) :
    ∃ a b, cs = [.int .i64 a, .int .i64 b] ∧ (-9223372036854775808 ≤ a ∧ a ≤ 9223372036854775807) ∧ -9223372036854775808 ≤ b ∧ b ≤ 9223372036854775807 := by
  obtain ⟨xs, n2, _, hx, hl, hxl, hg⟩ := DataW.trod_struct Try.underlying23 h
  rw [cellsT23] at hl
  match cs, hl with
  | [c0, c1], _ =>
    match xs, hxl with
    | [y0, y1], _ =>
      have h0 := hg 0 _ rfl
      have h1 := hg 1 _ rfl
      simp [cellsT2] at h0 h1
      obtain ⟨a, rfl, ha⟩ := int_of Try.underlying2 h0
      obtain ⟨b, rfl, hb⟩ := int_of Try.underlying2 h1
      exact ⟨a, b, rfl, ha, hb⟩

set_option maxRecDepth 100000 in
theorem src_of {W : World} {n : Nat} {cs : List Value} {y : DataW H × List MemPlace} (h : DataW.trod enc Try.prog W 0 (fun _ => true) true n 51 cs = some y) :
    ∃ s : Trk.Src, cs = [.int .i64 s.kind, .string s.name, .int .i64 s.an, .int .i64 s.ad, .int .i64 s.sn, .int .i64 s.sd, .bool s.smooth] ∧ InS s := by
  obtain ⟨xs, n2, _, hx, hl, hxl, hg⟩ := DataW.trod_struct Try.underlying51 h
  rw [cellsT51] at hl
  match cs, hl with
  | [c0, c1, c2, c3, c4, c5, c6], _ =>
    match xs, hxl with
    | [y0, y1, y2, y3, y4], _ =>
      have h0 := hg 0 _ rfl
      have h1 := hg 1 _ rfl
      have h2 := hg 2 _ rfl
      have h3 := hg 3 _ rfl
      have h4 := hg 4 _ rfl
      simp [cellsT3, cellsT9, cellsT23, cellsT4] at h0 h1 h2 h3 h4
      obtain ⟨k, rfl, hk⟩ := int_of Try.underlying3 h0
      obtain ⟨s, rfl, hs⟩ := text_of h1
      obtain ⟨a, b, e2, ha, hb⟩ := rat_of h2
      obtain ⟨c, d, e3, hc, hd⟩ := rat_of h3
      obtain ⟨f, e4, _⟩ := DataW.trod_bool Try.underlying4 h4
      obtain ⟨rfl, rfl⟩ : c2 = .int .i64 a ∧ c3 = .int .i64 b := by simpa using e2
      obtain ⟨rfl, rfl⟩ : c4 = .int .i64 c ∧ c5 = .int .i64 d := by simpa using e3
      obtain rfl : c6 = .bool f := by simpa using e4
      exact ⟨⟨k, s, a, b, c, d, f⟩, rfl, hk.1, hk.2, hs, ha.1, ha.2, hb.1, hb.2, hc.1, hc.2, hd.1, hd.2⟩

set_option maxRecDepth 100000 in
theorem clip_of {W : World} {n : Nat} {cs : List Value} {y : DataW H × List MemPlace} (h : DataW.trod enc Try.prog W 0 (fun _ => true) true n 53 cs = some y) :
    ∃ (c : Trk.Clip) (x : Value), cs = clipG c x ∧ IT W x c.chan ∧ InC c := by
  obtain ⟨xs, n2, _, hx, hl, hxl, hg⟩ := DataW.trod_struct Try.underlying53 h
  rw [cellsT53] at hl
  match cs, hl with
  | [c0, c1, a0, a1, a2, a3, a4, a5, a6, b0, b1, b2, b3, b4, b5, b6, c16, c17, c18, c19, c20, c21], _ =>
    match xs, hxl with
    | [y0, y1, y2, y3, y4, y5, y6, y7, y8, y9], _ =>
      have h0 := hg 0 _ rfl
      have h1 := hg 1 _ rfl
      have h2 := hg 2 _ rfl
      have h3 := hg 3 _ rfl
      have h4 := hg 4 _ rfl
      have h5 := hg 5 _ rfl
      have h6 := hg 6 _ rfl
      have h7 := hg 7 _ rfl
      have h8 := hg 8 _ rfl
      have h9 := hg 9 _ rfl
      simp [cellsT2, cellsT3, cellsT9, cellsT27, cellsT51] at h0 h1 h2 h3 h4 h5 h6 h7 h8 h9
      obtain ⟨len, rfl, _⟩ := int_of Try.underlying2 h0
      obtain ⟨kind, rfl, _⟩ := int_of Try.underlying3 h1
      obtain ⟨a, ea, ha⟩ := src_of h2
      obtain ⟨b, eb, hb⟩ := src_of h3
      obtain ⟨off, rfl, _⟩ := int_of Try.underlying2 h4
      obtain ⟨total, rfl, _⟩ := int_of Try.underlying2 h5
      obtain ⟨param, rfl, _⟩ := int_of Try.underlying3 h6
      obtain ⟨text, rfl, ht⟩ := text_of h7
      obtain ⟨gain, rfl, _⟩ := int_of Try.underlying3 h8
      obtain ⟨l, hI⟩ := ints_of h9
      simp only [List.cons.injEq, and_true] at ea eb
      obtain ⟨rfl, rfl, rfl, rfl, rfl, rfl, rfl⟩ := ea
      obtain ⟨rfl, rfl, rfl, rfl, rfl, rfl, rfl⟩ := eb
      exact ⟨⟨len, kind, a, b, off, total, param, text, gain, l⟩, c21, rfl, hI, ha, hb, ht⟩

theorem clips_of {W : World} {n : Nat} {c : Value} {y : DataW H × List MemPlace} (h : DataW.trod enc Try.prog W 0 (fun _ => true) true n 24 [c] = some y) : ∃ l, GT W c l := by
  obtain ⟨ao, len, cap, rfl, hl, hm, hi⟩ := slice_at Try.underlying24 cellsT53 (by decide) h
  obtain ⟨l, hll, hp⟩ := list_of (P := fun i c => ∃ b o x, ao = some ⟨b, o, none⟩ ∧ GA W b (o + i * 22) c x ∧ IT W x c.chan ∧ InC c) len (fun i hil => by
    obtain ⟨b, o, cs', n', y', rfl, hlen, hat, ht⟩ := hi i hil
    obtain ⟨c, x, rfl, hI, hC⟩ := clip_of ht
    exact ⟨c, b, o, x, rfl, GA.of fun j u hj => by rw [hat j (List.getElem?_eq_some_iff.1 hj).1]; exact hj, hI, hC⟩)
  subst hll
  exact ⟨l, ao, cap, rfl, hl, hm, hp⟩

set_option maxRecDepth 100000 in
theorem open_edit {W : World} {base : Nat} {v : Value} {d : DataW H} {p : List MemPlace} (hval : Value.okWide Try.prog W .any base 26 v) (h : DataW.Trod enc Try.prog W 0 (fun _ => true) true 26 v d p) :
    ∃ k p n c d sn sd u l, v = edV k p n c d sn sd u ∧ GT W u l ∧ InE k p n c d sn sd := by
  obtain ⟨cs, rfl, hsz⟩ := okWide_struct Try.underlying26 hval
  obtain ⟨fuel, hf⟩ := h
  obtain ⟨xs, n, _, hx, _, hlen, hg⟩ := DataW.trod_struct Try.underlying26 hf
  obtain ⟨l⟩ := cs
  match l, hsz.trans cellsT26 with
  | [c0, c1, c2, c3, c4, c5, c6, c7], _ =>
    match xs, hlen with
    | [y0, y1, y2, y3, y4, y5, y6], _ =>
      have h0 := hg 0 _ rfl
      have h1 := hg 1 _ rfl
      have h2 := hg 2 _ rfl
      have h3 := hg 3 _ rfl
      have h4 := hg 4 _ rfl
      have h5 := hg 5 _ rfl
      have h6 := hg 6 _ rfl
      simp [Value.cells, cellsT2, cellsT3, cellsT23, cellsT24] at h0 h1 h2 h3 h4 h5 h6
      obtain ⟨k, rfl, _⟩ := int_of Try.underlying3 h0
      obtain ⟨p, rfl, _⟩ := int_of Try.underlying2 h1
      obtain ⟨m, rfl, _⟩ := int_of Try.underlying2 h2
      obtain ⟨c, rfl, _⟩ := int_of Try.underlying3 h3
      obtain ⟨d, rfl, _⟩ := int_of Try.underlying2 h4
      obtain ⟨sn, sd, e5, ha, hb⟩ := rat_of h5
      obtain ⟨rfl, rfl⟩ : c5 = .int .i64 sn ∧ c6 = .int .i64 sd := by simpa using e5
      obtain ⟨l, hl⟩ := clips_of h6
      exact ⟨k, p, m, c, d, sn, sd, c7, l, rfl, hl, ha.1, ha.2, hb.1, hb.2⟩
end
end Go.Proofs.Ytnmkcpgcdjhdjaa


namespace Go.Proofs.Ytnmkcpgcdjhdjaa.editsValid
open Go.ChangeShapes Go.WideShapes Go.ChangeAt Go.RowKit
set_option linter.unusedVariables false

theorem own : ownKnob Try.prog.godebug = none := by kernel_rfl

set_option maxRecDepth 100000 in
theorem lifted (os : Os) (started : os.Started) (H : Type) (enc : TypeId × Value → H) :
    ReturnsInHanded {} Try.checked os 3 .any (Rows.editsValidSpec.pre6 enc Try.prog Try.f3 Rows.editsValidRow.domain false) (Rows.editsValidSpec.post enc Try.prog Try.f3 false true false false) := by
  refine returnsInHanded_of_change (C := Try.checked) own started (by kernel_rfl) Try.func3
    (ChangeSpec.witness6 (enc := enc) (C := Try.checked) false ⟨#[], #[edV 0 0 0 0 0 0 0 (.slice none 0 0), .slice none 0 0], []⟩ 8 (by kernel_rfl) (by kernel_rfl) (by kernel_rfl) (by kernel_rfl)) ?_
  intro W base args ds gs before hval0 hW hcnd _
  have hval : ∀ (j : Nat) t v, Try.f3.params[j]? = some t → args[j]? = some v → Value.okWide Try.prog W .any base t v := hval0
  have hW' := hW
  obtain ⟨p, q, hA0, hV, rfl, hfz, hnd⟩ := hW
  have hA : DataW.TrodAll enc Try.prog W 0 (fun _ => true) true Try.f3.params.toList args.toList ds p := hA0
  have hAk := hA
  rw [Try.params3] at hA hval
  obtain ⟨v0, vs0, d0, ds0, p0, q0, hargs, rfl, rfl, h0, r0⟩ := trodAll_cons hA
  obtain ⟨v1, vs1, d1, ds1, p1, q1, rfl, rfl, rfl, h1, r1⟩ := trodAll_cons r0
  obtain ⟨rfl, rfl, rfl⟩ := trodAll_nil r1
  obtain rfl : args = #[v0, v1] := by cases args; simp_all
  obtain ⟨rfl, rfl⟩ := trodVars_none hV
  obtain ⟨k, p, n, c, d, sn, sd, u, l, rfl, hG, hI⟩ := open_edit (hval 0 26 v0 rfl rfl) h0
  have hr1 := open_tape (hval 1 27 v1 rfl rfl) h1
  simp only [List.append_nil] at hW' hAk
  refine (law_valid says16 says17 k p n c d sn sd u v1 l W hG hI hr1).mono fun e W' ⟨he, hg⟩ => ?_
  subst he
  exact ⟨_, rfl, post_of_below (pv := []) hW' (fun _ _ _ => (trodAll_cons_mk (shut_bool Try.underlying4 _) trodAll_mk0)) (fun sp hsp => trodAll_stays laid_out hg (by kernel_rfl) hAk (fun x hx => hW'.lt x (by simpa using hx)) (fun x hx => hsp x (by simpa using hx))) (fun _ _ => rfl) (by simp)
    hg (ok_one (by kernel_rfl) rfl (okWide_bool_mk Try.underlying4 _))⟩

theorem over : Rows.editsValidRow.holds Try.pinned (OpenSpec.ofChange Rows.editsValidSpec) :=
  OpenClaim.holds_of_wide 3 Try.f3 rfl rfl rfl rfl rfl rfl rfl ⟨rfl, rfl, rfl, rfl, rfl⟩ rfl rfl rfl rfl rfl (by kernel_rfl) Try.func3 (by kernel_rfl)
    (of_decide_eq_true (by kernel_rfl)) (by unfold Func.isWrapper; first | (rw [if_pos (by decide +kernel)]; kernel_rfl) | (rw [if_neg (by decide +kernel)]; exact ⟨rfl, rfl⟩))
    (fun os started H enc _ => lifted os started H enc)

/-- The statement. -/
theorem proved : Rows.EditsValidSaid :=
  over
end Go.Proofs.Ytnmkcpgcdjhdjaa.editsValid
