/- Texts of this claim joined: XM XO. -/
import Derived.Test.YtnnobdcbmagbaaaEv21
import Derived.Test.YtnnobdcbmagbaaaEv22
set_option linter.unusedVariables false
set_option linter.unusedSimpArgs false

/- The contract of compose.Eval. -/
namespace Go.Proofs.Ytnnobdcbmagbaaa
open Go.RowKit
set_option linter.unusedVariables false

def okP (W H : Int) (q : Pic) : Bool := q.fr.ok && decide (q.fr.W = W) && decide (q.fr.H = H)
def okL (P : Nat → Pic) (W H : Int) : Nat → Bool
  | 0 => true
  | k + 1 => okL P W H k && okP W H (P k)
theorem okL_at {P : Nat → Pic} {W H : Int} : ∀ {m : Nat}, okL P W H m = true → ∀ i, i < m → okP W H (P i) = true
  | 0, _, i, hi => absurd hi (Nat.not_lt_zero i)
  | m + 1, h, i, hi => by
    simp only [okL, Bool.and_eq_true] at h
    by_cases e : i = m
    · subst e; exact h.2
    · exact okL_at h.1 i (by omega)
theorem okL_no {P : Nat → Pic} {W H : Int} {k : Nat} (hk : okP W H (P k) = false) : ∀ {m : Nat}, k < m → okL P W H m = false
  | 0, h => absurd h (Nat.not_lt_zero k)
  | m + 1, h => by
    by_cases e : k = m
    · subst e; simp [okL, hk]
    · simp [okL, okL_no hk (show k < m by omega)]
def okAll (P : Nat → Pic) (m : Nat) (W H : Int) (e : Ex) : Bool := okX e && okSize W H && okL P W H m
def evE (P : Nat → Pic) (m : Nat) (W H : Int) (e : Ex) : Int := if okAll P m W H e then (evX P m W H e).1 else 1
def evR (P : Nat → Pic) (m : Nat) (W H : Int) (e : Ex) : Fr := if okAll P m W H e then (evX P m W H e).2 else Fr.zero
def EvIs (P : Nat → Pic) (m : Nat) (W H : Int) (e : Ex) (E : Int) (R : Fr) : Prop := E = evE P m W H e ∧ R = evR P m W H e
theorem EvIs.no {P : Nat → Pic} {m : Nat} {W H : Int} {e : Ex} (h : okAll P m W H e = false) : Hid (EvIs P m W H e 1 Fr.zero) := Lib.hid ⟨by simp [evE, h], by simp [evR, h]⟩
theorem EvIs.yes {P : Nat → Pic} {m : Nat} {W H : Int} {e : Ex} (h : okAll P m W H e = true) : Hid (EvIs P m W H e (evX P m W H e).1 (evX P m W H e).2) := Lib.hid ⟨by simp [evE, h], by simp [evR, h]⟩

/-- The blocks of the two results, b + 1 and b + 2, still hold zeros. -/
structure R6 (w : World) (b : Nat) : Prop where
  k0 : w.cell? ⟨b + 1, 0, none⟩ = some (.int .i64 0)
  k1 : w.cell? ⟨b + 1, 1, none⟩ = some (.int .i64 0)
  k2 : w.cell? ⟨b + 1, 2, none⟩ = some (.slice none 0 0)
  k3 : w.cell? ⟨b + 1, 3, none⟩ = some (.slice none 0 0)
  k4 : w.cell? ⟨b + 1, 4, none⟩ = some (.slice none 0 0)
  k5 : w.cell? ⟨b + 1 + 1, 0, none⟩ = some (.int .i64 0)
  z1 : ∀ o, w.frozen? ⟨b + 1, o, none⟩ = false
  z2 : ∀ o, w.frozen? ⟨b + 1 + 1, o, none⟩ = false
theorem R6.keep {w w' : World} {b mb : Nat} (h : R6 w b) (hk : Keep mb w w') (hn : b + 1 + 1 < mb) : R6 w' b := by
  have l1 : b + 1 < w.heap.size := block_lt_of_cell h.k0
  have l2 : b + 1 + 1 < w.heap.size := block_lt_of_cell h.k5
  exact ⟨(hk.cell l1 (show b + 1 ≠ mb by omega)).trans h.k0, (hk.cell l1 (show b + 1 ≠ mb by omega)).trans h.k1, (hk.cell l1 (show b + 1 ≠ mb by omega)).trans h.k2, (hk.cell l1 (show b + 1 ≠ mb by omega)).trans h.k3, (hk.cell l1 (show b + 1 ≠ mb by omega)).trans h.k4,
    (hk.cell l2 (show b + 1 + 1 ≠ mb by omega)).trans h.k5, fun o => (hk.frozen l1 (show b + 1 ≠ mb by omega)).trans (h.z1 o), fun o => (hk.frozen l2 (show b + 1 + 1 ≠ mb by omega)).trans (h.z2 o)⟩
theorem R6.below {w w' : World} {b : Nat} (h : R6 w b) (hb : Below w.heap.size w w') : R6 w' b := h.keep (mb := b + 1 + 1 + 1) (Keep.of_below hb) (by omega)

set_option maxRecDepth 100000 in
set_option maxHeartbeats 8000000 in
theorem eval_is (v l : Value) (e : Ex) (m : Nat) (P : Nat → Pic) (W H : Int) (w : World) (hv : XA w v e) (hl : LA w l m P) :
    Calls Try.prog 35 #[v, l, .int .i64 W, .int .i64 H] w fun r w' => ∃ x E R, r = .returned (.tuple #[x, .int .i64 E]) ∧ FA w' x R ∧ Below w.heap.size w w' ∧ Hid (EvIs P m W H e E R) := by
  have hmf : ∀ (fn : Fn) (first cap : Array Value) (w : World), (Instr.makeFunc fn first cap).run Try.prog w = .ok (.func fn first cap) w := fun _ _ _ _ => rfl
  have hmm : ∀ (n : Int) (w : World), (Instr.makeMap 91 (some (.int .i64 n))).run Try.prog w = .ok (.map (some w.heap.size)) (w.alloc (.map #[] 0)) := fun n w => by
    simp [Instr.makeMap, run_underlying Try.underlying91, asInt, asIntOf, Result.andThen]
  have HV := hv
  obtain ⟨f, eao, ec, hvs⟩ : ∃ (f : Fld) (b : Option Addr) (c : Nat), v = f.val (Value.slice b f.n c) := by
    cases hv with
    | mk f a ao c g hf hc hcell hsub => exact ⟨f, ao, c, rfl⟩
  subst hvs
  obtain ⟨lo, lc, rfl, hlc, hm, HL⟩ := hl
  have HLA := Lib.hid (show LA w (.slice lo m lc) m P from ⟨lo, lc, rfl, hlc, hm, HL⟩)
  clear HL hv
  have DV := dvalid_any HV
  have SV := fun (mb : Nat) => seval_any HV W H mb m P
  replace HV := Lib.hid HV
  unfold Fld.val at DV SV ⊢
  replace SV := Lib.hid SV
  go_enter_defers Try.func35, Try.ntmps35
  go_wp2_with fail
  refine (DV _ (by go_grown)).mono ?_
  clear DV
  rintro r w1 ⟨rfl, hb⟩
  have BB : Below (w.heap.size + 1 + 1 + 1) _ w1 := hb.mono (by simp)
  have n1 := BB.size
  simp at n1
  have W1 : Below w.heap.size w w1 := Below.trans (by go_grown) (BB.mono (by omega))
  have BE := Lib.hid (show B8 w1 w.heap.size f (.slice eao f.n ec) from (((B8.of_alloc w w.heap.size f (.slice eao f.n ec) 58 rfl).below (below_box _ _)).below (below_box _ _)).below hb)
  have R1 : R6 w1 w.heap.size := by
    refine R6.below ?_ hb
    constructor <;> simp [go_sem]
  clear BB hb
  by_cases hx : okX e = true
  rotate_left
  · have hx' : okX e = false := by simpa using hx
    have HNo := EvIs.no (P := P) (m := m) (W := W) (H := H) (show okAll P m W H e = false by simp [okAll, hx'])
    obtain ⟨k0, k1, k2, k3, k4, k5, z1, z2⟩ := R1
    rw [hx']
    clear hx hx'
    go_wp2_with fail
    refine leaves_cons (f := 62) (args := #[.pointer (some ⟨w.heap.size + 1, 0, none⟩), .pointer (some ⟨w.heap.size + 1 + 1, 0, none⟩)]) (by simp) (by simp [go_sem]) ?_
    refine (idle62 _ _ _).mono ?_
    rintro e u' w'' ⟨rfl, rfl, rfl⟩
    simp [Leaves, settle, results, Try.results35, go_sem, k0, k1, k2, k3, k4, k5]
    exact ⟨_, _, ⟨rfl, rfl⟩, _, FA.zero _, by go_grown, HNo⟩
  have HX := Lib.hid hx
  rw [hx]
  clear hx
  go_wp2_with fail
  refine (validSize_any _ _ _).mono ?_
  rintro r w2 ⟨rfl, rfl⟩
  by_cases hs : okSize W H = true
  rotate_left
  · have hs' : okSize W H = false := by simpa using hs
    have HNo := EvIs.no (P := P) (m := m) (W := W) (H := H) (show okAll P m W H e = false by simp [okAll, hs'])
    obtain ⟨k0, k1, k2, k3, k4, k5, z1, z2⟩ := R1
    rw [hs']
    clear hs hs'
    go_wp2_with fail
    refine leaves_cons (f := 62) (args := #[.pointer (some ⟨w.heap.size + 1, 0, none⟩), .pointer (some ⟨w.heap.size + 1 + 1, 0, none⟩)]) (by simp) (by simp [go_sem]) ?_
    refine (idle62 _ _ _).mono ?_
    rintro e u' w'' ⟨rfl, rfl, rfl⟩
    simp [Leaves, settle, results, Try.results35, go_sem, k0, k1, k2, k3, k4, k5]
    exact ⟨_, _, ⟨rfl, rfl⟩, _, FA.zero _, by go_grown, HNo⟩
  have HS := Lib.hid hs
  rw [hs]
  clear hs
  go_upto_region 5 with fail
  obtain ⟨w2, hw⟩ : ∃ x, x = (w1.alloc (.map #[] 0)).alloc (.cells #[.int .i64 W, .int .i64 H, .map (some w1.heap.size)] 93) := ⟨_, rfl⟩
  rw [← hw]
  obtain ⟨mb, hmb⟩ : ∃ b, b = w1.heap.size := ⟨_, rfl⟩
  have nmb : w.heap.size + 1 + 1 < mb := by omega
  have ng : w2.heap.size = mb + 1 + 1 := by rw [hw, hmb]; simp
  have B12 : Below w1.heap.size w1 w2 := by rw [hw]; exact (below_box _ _).trans ((below_box _ _).mono (by simp))
  have M0 : MapA w2 mb 0 P := by rw [hw]; exact (MapA.of_alloc w1 P mb hmb).below (below_box _ _)
  have s0 : w2.cell? ⟨mb + 1, 0, none⟩ = some (.int .i64 W) := by rw [hw, hmb]; simp [go_sem]
  have s1 : w2.cell? ⟨mb + 1, 1, none⟩ = some (.int .i64 H) := by rw [hw, hmb]; simp [go_sem]
  have s2 : w2.cell? ⟨mb + 1, 2, none⟩ = some (.map (some mb)) := by rw [hw, hmb]; simp [go_sem]
  have ES : (w1.alloc (.map #[] 0)).heap.size = mb + 1 := by rw [hmb]; simp
  try rw [← hmb]
  have W2 : Below w.heap.size w w2 := W1.trans (B12.mono (by omega))
  have R2 := R1.below B12
  have BE2 := Lib.hid (BE.out.below B12)
  clear hw hmb W1 B12 R1 BE
  have HM0 := Lib.hid M0
  clear M0
  have hlen : m ≤ 9223372036854775807 := hm
  go_wp2_with fail
  go_loopw [35] (fun i wr => ∃ k : Nat, k ≤ m ∧ i = .int .i64 (k : Int) ∧ Keep mb w2 wr ∧ Hid (MapA wr mb k P) ∧ Hid (okL P W H k = true)) (fun i _ => m - (intOf i).toNat)
  case atStart => exact ⟨0, Nat.zero_le _, rfl, Keep.refl _ _, HM0, Lib.hid rfl⟩
  case round =>
    obtain ⟨k, hk, rfl, hK, HM, HO⟩ := hrel
    clear HM0
    have hWr : Below w.heap.size w wr := W2.trans (hK.below (by omega) (by omega))
    have nr := hK.size
    have t0 := (hK.cell (p := ⟨mb + 1, 0, none⟩) (by simp; omega) (by simp)).trans s0
    have t1 := (hK.cell (p := ⟨mb + 1, 1, none⟩) (by simp; omega) (by simp)).trans s1
    have t2 := (hK.cell (p := ⟨mb + 1, 2, none⟩) (by simp; omega) (by simp)).trans s2
    have RR := R2.keep hK nmb
    have HE8 := Lib.hid (show B8 wr w.heap.size f (.slice eao f.n ec) from by
      obtain ⟨h0, h1, h2, h3, h4, h5, h6, h7⟩ := BE2.out
      have l : w.heap.size < w2.heap.size := block_lt_of_cell h0
      exact ⟨(hK.cell l (show w.heap.size ≠ mb by omega)).trans h0, (hK.cell l (show w.heap.size ≠ mb by omega)).trans h1, (hK.cell l (show w.heap.size ≠ mb by omega)).trans h2, (hK.cell l (show w.heap.size ≠ mb by omega)).trans h3, (hK.cell l (show w.heap.size ≠ mb by omega)).trans h4, (hK.cell l (show w.heap.size ≠ mb by omega)).trans h5, (hK.cell l (show w.heap.size ≠ mb by omega)).trans h6, (hK.cell l (show w.heap.size ≠ mb by omega)).trans h7⟩)
    have HK := Lib.hid hK
    clear hK s0 s1 s2 R2 BE2
    by_cases hlt : k < m
    · obtain ⟨lo', lc', e', hlc', hm', HLr⟩ := HLA.out.below hWr
      simp only [Value.slice.injEq, true_and] at e'
      obtain ⟨rfl, rfl⟩ := e'
      obtain ⟨hfit, b, o, y, u, z, rfl, hC, hF⟩ := HLr k hlt
      obtain ⟨ay, cy, au, cu, av, cv, hsh⟩ := hF.shape
      simp only [Value.agg.injEq, Array.mk.injEq, List.cons.injEq, and_true, true_and] at hsh
      obtain ⟨rfl, rfl, rfl⟩ := hsh
      obtain ⟨q0, q1, q2, q3, q4, q5, q6⟩ := hC
      have HNk := fun (h : okP W H (P k) = false) => EvIs.no (P := P) (m := m) (W := W) (H := H) (e := e) (show okAll P m W H e = false by simp [okAll, okL_no (P := P) (W := W) (H := H) (k := k) h hlt])
      have HOk := fun (h : okP W H (P k) = true) => (show okL P W H (k + 1) = true by simp only [okL, HO.out, Bool.true_and]; exact h)
      have hskip := fun (i : Nat) => MapA.skip (w := wr) (mb := mb) (m := k) (P := P) (i := i) HM.out
      have hfit' := Lib.hid hfit
      have hft1 := hfit.m
      have hft2 := hfit.lo
      have hft3 := hfit.hi
      replace HNk := Lib.hid HNk
      replace HOk := Lib.hid HOk
      clear hskip hfit HLr
      obtain ⟨Q, hQ⟩ : ∃ Q, Q = P k := ⟨_, rfl⟩
      rw [← hQ] at q0 q1 q2 q3 q4 q5 q6 hF HNk HOk hft1 hft2 hft3
      have HQ := Lib.hid hQ
      clear hQ
      have HF := Lib.hid hF
      clear hF
      go_wp2_with fail
      refine (valid_any _ Q.fr _ (HF.out.below (below_box _ _))).mono ?_
      rintro r w3 ⟨rfl, hw3⟩
      have B3 : Below wr.heap.size wr w3 := by rw [← hw3]; exact (below_box _ _).trans ((below_box _ _).mono (by simp))
      have n3 : w3.heap.size = wr.heap.size + 2 := by rw [← hw3]; simp
      have y0 : w3.cell? ⟨wr.heap.size, 0, none⟩ = some (.string Q.media) := by rw [← hw3]; simp [go_sem]
      have y1 : w3.cell? ⟨wr.heap.size, 1, none⟩ = some (.int .i64 Q.num) := by rw [← hw3]; simp [go_sem]
      have y2 : w3.cell? ⟨wr.heap.size, 2, none⟩ = some (.int .i64 Q.fr.W) := by rw [← hw3]; simp [go_sem]
      have y3 : w3.cell? ⟨wr.heap.size, 3, none⟩ = some (.int .i64 Q.fr.H) := by rw [← hw3]; simp [go_sem]
      have y4 : w3.cell? ⟨wr.heap.size, 4, none⟩ = some (.slice ay Q.fr.nY cy) := by rw [← hw3]; simp [go_sem]
      have y5 : w3.cell? ⟨wr.heap.size, 5, none⟩ = some (.slice au Q.fr.nU cu) := by rw [← hw3]; simp [go_sem]
      have y6 : w3.cell? ⟨wr.heap.size, 6, none⟩ = some (.slice av Q.fr.nV cv) := by rw [← hw3]; simp [go_sem]
      clear hw3
      have W3 : Below w.heap.size w w3 := hWr.trans (B3.mono (by omega))
      have HB3 := Lib.hid B3
      have RR3 := RR.below B3
      have HT2 := Lib.hid ((B3.cell (p := ⟨mb + 1, 2, none⟩) (by simp; omega)).trans t2)
      clear B3 q0 q1 q2 q3 q4 q5 q6 t0 t1 t2 RR
      by_cases qo : Q.fr.ok = true
      rotate_left
      · have qo' : Q.fr.ok = false := by simpa using qo
        have HNo := HNk.out (by simp [okP, qo'])
        obtain ⟨k0, k1, k2, k3, k4, k5, z1, z2⟩ := RR3
        rw [qo']
        clear qo qo'
        go_wp2_with fail
        refine leaves_cons (f := 62) (args := #[.pointer (some ⟨w.heap.size + 1, 0, none⟩), .pointer (some ⟨w.heap.size + 1 + 1, 0, none⟩)]) (by simp) (by simp [go_sem]) ?_
        refine (idle62 _ _ _).mono ?_
        rintro e u' w'' ⟨rfl, rfl, rfl⟩
        simp [Leaves, settle, results, Try.results35, go_sem, k0, k1, k2, k3, k4, k5]
        exact ⟨_, _, ⟨rfl, rfl⟩, _, FA.zero _, by go_grown, HNo⟩
      by_cases qw : Q.fr.W = W
      rotate_left
      · have HNo := HNk.out (by simp [okP, qw])
        have qw' : (Q.fr.W != W) = true := by rw [bne_iff_ne]; exact qw
        obtain ⟨k0, k1, k2, k3, k4, k5, z1, z2⟩ := RR3
        rw [qo]
        clear qo
        go_wp2_with fail
        refine leaves_cons (f := 62) (args := #[.pointer (some ⟨w.heap.size + 1, 0, none⟩), .pointer (some ⟨w.heap.size + 1 + 1, 0, none⟩)]) (by simp) (by simp [go_sem]) ?_
        refine (idle62 _ _ _).mono ?_
        rintro e u' w'' ⟨rfl, rfl, rfl⟩
        simp [Leaves, settle, results, Try.results35, go_sem, k0, k1, k2, k3, k4, k5]
        exact ⟨_, _, ⟨rfl, rfl⟩, _, FA.zero _, by go_grown, HNo⟩
      have qw' : (Q.fr.W != W) = false := by rw [bne_eq_false_iff_eq]; exact qw
      by_cases qh : Q.fr.H = H
      rotate_left
      · have HNo := HNk.out (by simp [okP, qh])
        have qh' : (Q.fr.H != H) = true := by rw [bne_iff_ne]; exact qh
        obtain ⟨k0, k1, k2, k3, k4, k5, z1, z2⟩ := RR3
        rw [qo]
        clear qo qw
        go_wp2_with fail
        refine leaves_cons (f := 62) (args := #[.pointer (some ⟨w.heap.size + 1, 0, none⟩), .pointer (some ⟨w.heap.size + 1 + 1, 0, none⟩)]) (by simp) (by simp [go_sem]) ?_
        refine (idle62 _ _ _).mono ?_
        rintro e u' w'' ⟨rfl, rfl, rfl⟩
        simp [Leaves, settle, results, Try.results35, go_sem, k0, k1, k2, k3, k4, k5]
        exact ⟨_, _, ⟨rfl, rfl⟩, _, FA.zero _, by go_grown, HNo⟩
      have qh' : (Q.fr.H != H) = false := by rw [bne_eq_false_iff_eq]; exact qh
      have HOn := Lib.hid (HOk.out (by simp [okP, qo, qw, qh]))
      rw [qo]
      clear qo qw qh RR3
      have M4 : MapA (w3.alloc (.cells #[.string Q.media, .int .i64 Q.num] 95)) mb k P := (HM.out.below HB3.out).below (below_box _ _)
      obtain ⟨r, ok, hrun, HL⟩ := M4.look Q.media Q.num hft1 hft2 hft3
      unfold keyV at hrun
      have t2 : ∀ o, (w3.alloc o).cell? ⟨mb + 1, 2, none⟩ = some (.map (some mb)) := fun o => ((below_box w3 o).cell (by simp; omega)).trans HT2.out
      have t2b : ∀ o o', ((w3.alloc o).alloc o').cell? ⟨mb + 1, 2, none⟩ = some (.map (some mb)) := fun o o' => ((below_box _ o').cell (by simp; omega)).trans (t2 o)
      have f2 : ∀ o o', ((w3.alloc o).alloc o').cell? ⟨wr.heap.size, 2, none⟩ = some (.int .i64 Q.fr.W) := fun o o' => ((below_box _ o').cell (by simp; omega)).trans (((below_box _ o).cell (by simp; omega)).trans y2)
      have f3 : ∀ o o', ((w3.alloc o).alloc o').cell? ⟨wr.heap.size, 3, none⟩ = some (.int .i64 Q.fr.H) := fun o o' => ((below_box _ o').cell (by simp; omega)).trans (((below_box _ o).cell (by simp; omega)).trans y3)
      have f4 : ∀ o o', ((w3.alloc o).alloc o').cell? ⟨wr.heap.size, 4, none⟩ = some (.slice ay Q.fr.nY cy) := fun o o' => ((below_box _ o').cell (by simp; omega)).trans (((below_box _ o).cell (by simp; omega)).trans y4)
      have f5 : ∀ o o', ((w3.alloc o).alloc o').cell? ⟨wr.heap.size, 5, none⟩ = some (.slice au Q.fr.nU cu) := fun o o' => ((below_box _ o').cell (by simp; omega)).trans (((below_box _ o).cell (by simp; omega)).trans y5)
      have f6 : ∀ o o', ((w3.alloc o).alloc o').cell? ⟨wr.heap.size, 6, none⟩ = some (.slice av Q.fr.nV cv) := fun o o' => ((below_box _ o').cell (by simp; omega)).trans (((below_box _ o).cell (by simp; omega)).trans y6)
      have KE : ∀ o o', Keep mb w2 ((w3.alloc o).alloc o') := fun o o' => HK.out.trans (Keep.of_below ((HB3.out.alloc (by omega) _).alloc (by simp; omega) _))
      replace KE := Lib.hid KE
      have LG := Lib.hid M4
      clear M4
      rcases HL with ⟨rfl, i, hi, hFi⟩ | ⟨rfl, hi, rfl⟩
      · have MS := Lib.hid (HM.out.skip (i := i) (by rw [← HQ.out]; exact hi))
        obtain ⟨ay', cy', au', cu', av', cv', rfl⟩ := hFi.shape
        clear hFi hi
        go_wp2_with fail
        go_round
        case rel => exact ⟨k + 1, by omega, by go_num, KE.out _ _, Lib.hid (((MS.out.below HB3.out).below (below_box _ _)).below (below_box _ _)), HOn⟩
        case measure => simp [intOf]; omega
      · have HNn := Lib.hid hi
        clear hi
        unfold zeroV at hrun
        go_wp2_with (at_mapUpdate; refine wpList_update _ rfl _ _ _ rfl mb k P rfl (LG.out.below (below_box _ _)) (.agg #[.int .i64 Q.fr.W, .int .i64 Q.fr.H, .slice ay Q.fr.nY cy, .slice au Q.fr.nU cu, .slice av Q.fr.nV cv]) (by rw [← HQ.out]; rfl) rfl hfit'.out (by rw [← HQ.out]; exact ((HF.out.below HB3.out).below (below_box _ _)).below (below_box _ _)) (by rw [← HQ.out]; exact HNn.out) ?_; intro w5 M5 K5)
        go_round
        case rel => exact ⟨k + 1, by omega, by go_num, (KE.out _ _).trans K5, Lib.hid M5, HOn⟩
        case measure => simp [intOf]; omega
    · obtain rfl : k = m := by omega
      have HYes := EvIs.yes (P := P) (m := k) (W := W) (H := H) (e := e) (by simp [okAll, HX.out, HS.out, HO.out])
      obtain ⟨e0, e1, e2, e3, e4, e5, e6, e7⟩ := HE8.out
      go_wp2_with fail
      refine (SV.out mb HS.out (fun i hi => by have := okL_at HO.out i hi; simp [okP] at this; exact this.1.1) HX.out _ hWr HM.out).mono ?_
      rintro r w3 ⟨x, rfl, hFx, hb3⟩
      have W3 : Below w.heap.size w w3 := hWr.trans (hb3.mono (by omega))
      obtain ⟨k0, k1, k2, k3, k4, k5, z1, z2⟩ := RR.below hb3
      have HFx := Lib.hid hFx
      obtain ⟨X, hX⟩ : ∃ X, X = evX P k W H e := ⟨_, rfl⟩
      rw [← hX] at hFx HFx HYes ⊢
      clear hX
      obtain ⟨ay, cy, au, cu, av, cv, rfl⟩ := hFx.shape
      clear hFx hb3 e0 e1 e2 e3 e4 e5 e6 e7 t0 t1 t2
      go_wp2_with fail
      refine leaves_cons (f := 62) (args := #[.pointer (some ⟨w.heap.size + 1, 0, none⟩), .pointer (some ⟨w.heap.size + 1 + 1, 0, none⟩)]) (by simp) (by simp [go_sem]) ?_
      refine (idle62 _ _ _).mono ?_
      rintro e u' w'' ⟨rfl, rfl, rfl⟩
      simp [Leaves, settle, results, Try.results35, go_sem, k0, k1, k2, k3, k4, k5]
      refine ⟨_, _, ⟨rfl, rfl⟩, _, FA.put (u := .int .i64 0) (HFx.out.put5 k0 k1 k2 k3 k4) ?_ (by simp) _, by go_grown, HYes⟩
      iterate 5 rw [World.cell?_setCell_far _ _ _ _ (by simp)]
      exact k5

theorem eval_any (v l : Value) (e : Ex) (m : Nat) (P : Nat → Pic) (W H : Int) (w : World) (hv : XA w v e) (hl : LA w l m P) :
    Calls Try.prog 35 #[v, l, .int .i64 W, .int .i64 H] w fun r w' => ∃ x, r = .returned (.tuple #[x, .int .i64 (evE P m W H e)]) ∧ FA w' x (evR P m W H e) ∧ Below w.heap.size w w' :=
  (eval_is v l e m P W H w hv hl).mono fun r w' ⟨x, E, R, h1, h2, h3, h4⟩ => by
    obtain ⟨rfl, rfl⟩ := h4.out
    exact ⟨x, h1, h2, h3⟩

end Go.Proofs.Ytnnobdcbmagbaaa

/- A list of frames that grows by append: one more frame. -/
namespace Go.Proofs.Ytnnobdcbmagbaaa
open Go.RowKit
set_option linter.unusedVariables false

/-- v is a list of the call's own of k frames R 0, .., in a block that holds no bytes. -/
def RF (w : World) (B : Nat) (v : Value) (k : Nat) (R : Nat → Fr) : Prop :=
  (v = .slice none 0 0 ∧ k = 0) ∨ ∃ g cap cur, v = .slice (some ⟨g, 0, none⟩) k cap ∧ 0 < k ∧ B ≤ g ∧ w.heap[g]? = some (.cells cur 26 (0, 0)) ∧ k ≤ cap ∧ cap ≤ maxLen ∧ cur.size = cap * 5 ∧ (∀ u ∈ cur.toList, ∀ q, u ≠ .int .u8 q) ∧
    ∀ i, i < k → ∃ ay cy au cu av cv, C5 w g (i * 5) (.int .i64 (R i).W) (.int .i64 (R i).H) (.slice ay (R i).nY cy) (.slice au (R i).nU cu) (.slice av (R i).nV cv) ∧
      FA w (.agg #[.int .i64 (R i).W, .int .i64 (R i).H, .slice ay (R i).nY cy, .slice au (R i).nU cu, .slice av (R i).nV cv]) (R i)
theorem RF.below {w w' : World} {B k : Nat} {v : Value} {R : Nat → Fr} (h : RF w B v k R) (hb : Below w.heap.size w w') : RF w' B v k R := by
  rcases h with h | ⟨g, cap, cur, h1, h0, h2, h3, h4, h5, h6, h7, h8⟩
  · exact Or.inl h
  · refine Or.inr ⟨g, cap, cur, h1, h0, h2, (hb.block g (Array.getElem?_eq_some_iff.1 h3).1).trans h3, h4, h5, h6, h7, fun i hi => ?_⟩
    obtain ⟨ay, cy, au, cu, av, cv, hC, hF⟩ := h8 i hi
    exact ⟨ay, cy, au, cu, av, cv, hC.below hb, hF.below hb⟩
theorem FA.only {w w' : World} {v : Value} {F : Fr} {g : Nat} (h : FA w v F) (hn : ∀ o q, w.cell? ⟨g, o, none⟩ ≠ some (.int .u8 q)) (hs : ∀ b, b < w.heap.size → b ≠ g → w'.heap[b]? = w.heap[b]?) : FA w' v F := by
  have step : ∀ {v : Value} {n : Nat} {f : Nat → Int}, BA w v n f → BA w' v n f := by
    rintro v n f ⟨ao, c, rfl, hc, H⟩
    refine ⟨ao, c, rfl, hc, fun i hi => ?_⟩
    obtain ⟨⟨b, o, he, hcell⟩, h2⟩ := H i hi
    have hne : b ≠ g := by
      rintro rfl
      exact hn _ _ hcell
    exact ⟨⟨b, o, he, (World.cell?_of_block (w := w) (a := ⟨b, o + i, none⟩) (hs b (block_lt_of_cell hcell) hne)).trans hcell⟩, h2⟩
  obtain ⟨y, u, z, rfl, h1, h2, h3⟩ := h
  exact ⟨y, u, z, rfl, step h1, step h2, step h3⟩

def zf : Value := .agg #[.int .i64 0, .int .i64 0, .slice none 0 0, .slice none 0 0, .slice none 0 0]
theorem zeros_plain (n : Nat) : ∀ u ∈ (Builtin.zeroCells zf.cells n).toList, ∀ q, u ≠ .int .u8 q := by
  intro u hu q
  simp only [Builtin.zeroCells, Array.toList_map, List.mem_map] at hu
  obtain ⟨i, _, rfl⟩ := hu
  have hs : zf.cells.size = 5 := rfl
  have h5 : i % zf.cells.size < 5 := by rw [hs]; omega
  generalize i % zf.cells.size = j at h5
  have : j = 0 ∨ j = 1 ∨ j = 2 ∨ j = 3 ∨ j = 4 := by omega
  rcases this with rfl | rfl | rfl | rfl | rfl <;> simp [zf, Value.cells]
theorem zeros_size (n : Nat) : (Builtin.zeroCells zf.cells n).size = n * 5 := by
  simp [Builtin.zeroCells, zf, Value.cells]
theorem info26z : (Try.prog.info? 26).map (fun i => (i.zero, i.size, i.bytes)) = some (some zf, 5, 88) := by kernel_rfl
/-- The five cells of a frame. -/
def fr5 (F : Fr) (ay : Option Addr) (cy : Nat) (au : Option Addr) (cu : Nat) (av : Option Addr) (cv : Nat) : List Value := [.int .i64 F.W, .int .i64 F.H, .slice ay F.nY cy, .slice au F.nU cu, .slice av F.nV cv]
theorem fr5_plain {F : Fr} {ay au av : Option Addr} {cy cu cv : Nat} : ∀ u ∈ fr5 F ay cy au cu av cv, ∀ q, u ≠ .int .u8 q := by
  intro u hu q
  simp only [fr5, List.mem_cons, List.not_mem_nil, or_false] at hu
  rcases hu with rfl | rfl | rfl | rfl | rfl <;> simp
theorem fr5_one {F : Fr} {ay au av : Option Addr} {cy cu cv : Nat} : ∀ u ∈ fr5 F ay cy au cu av cv, u.oneCell' = true := by
  intro u hu
  simp only [fr5, List.mem_cons, List.not_mem_nil, or_false] at hu
  rcases hu with rfl | rfl | rfl | rfl | rfl <;> rfl
theorem C5.news {w : World} {b o : Nat} {F : Fr} {ay au av : Option Addr} {cy cu cv : Nat} (h : C5 w b o (.int .i64 F.W) (.int .i64 F.H) (.slice ay F.nY cy) (.slice au F.nU cu) (.slice av F.nV cv)) :
    ∀ j u, (fr5 F ay cy au cu av cv)[j]? = some u → w.cell? ((⟨b, o, none⟩ : Addr).add j) = some u := by
  intro j u hu
  have hadd : (⟨b, o, none⟩ : Addr).add j = ⟨b, o + j, none⟩ := by unfold Addr.add; split <;> simp_all
  rw [hadd]
  have hj : j < 5 := by
    have := (List.getElem?_eq_some_iff.1 hu).1
    simpa [fr5] using this
  match j, hj with
  | 0, _ => simp [fr5] at hu; subst hu; exact h.k0
  | 1, _ => simp [fr5] at hu; subst hu; exact h.k1
  | 2, _ => simp [fr5] at hu; subst hu; exact h.k2
  | 3, _ => simp [fr5] at hu; subst hu; exact h.k3
  | 4, _ => simp [fr5] at hu; subst hu; exact h.k4

theorem cell_of {w : World} {g : Nat} {cur : Array Value} (hg : w.heap[g]? = some (.cells cur 26 (0, 0))) (j : Nat) : w.cell? ⟨g, j, none⟩ = cur.toList[j]? := by
  simp [World.cell?, hg]
theorem C5.of_list {w : World} {g p : Nat} {cur : Array Value} (hg : w.heap[g]? = some (.cells cur 26 (0, 0))) {F : Fr} {ay au av : Option Addr} {cy cu cv : Nat} (pre suf : List Value)
    (h : cur.toList = pre ++ fr5 F ay cy au cu av cv ++ suf) (hp : pre.length = p) : C5 w g p (.int .i64 F.W) (.int .i64 F.H) (.slice ay F.nY cy) (.slice au F.nU cu) (.slice av F.nV cv) := by
  have hc : ∀ j u, (fr5 F ay cy au cu av cv)[j]? = some u → w.cell? ⟨g, p + j, none⟩ = some u := fun j u hu => by
    have hj := (List.getElem?_eq_some_iff.1 hu).1
    rw [cell_of hg, h, List.append_assoc, List.getElem?_append_right (by omega), List.getElem?_append_left (by omega)]
    rw [← hu]
    congr 1
    omega
  exact ⟨hc 0 _ rfl, hc 1 _ rfl, hc 2 _ rfl, hc 3 _ rfl, hc 4 _ rfl⟩
theorem C5.pre {w w' : World} {g g' : Nat} {cur cur' : Array Value} (hg : w.heap[g]? = some (.cells cur 26 (0, 0))) (hg' : w'.heap[g']? = some (.cells cur' 26 (0, 0))) (rest : List Value)
    (h : cur'.toList = cur.toList.take 5 ++ rest) (hl : 5 ≤ cur.size) {c0 c1 c2 c3 c4 : Value} (hC : C5 w g (0 * 5) c0 c1 c2 c3 c4) : C5 w' g' (0 * 5) c0 c1 c2 c3 c4 := by
  have hc : ∀ j, j < 5 → w'.cell? ⟨g', j, none⟩ = w.cell? ⟨g, j, none⟩ := fun j hj => by
    rw [cell_of hg', cell_of hg, h, List.getElem?_append_left (by simp; omega), List.getElem?_take]
    simp [hj]
  exact ⟨(hc 0 (by decide)).trans hC.k0, (hc 1 (by decide)).trans hC.k1, (hc 2 (by decide)).trans hC.k2, (hc 3 (by decide)).trans hC.k3, (hc 4 (by decide)).trans hC.k4⟩

set_option maxHeartbeats 1000000 in
theorem append_fr (w : World) (B : Nat) (v : Value) (k : Nat) (R : Nat → Fr) (h : RF w B v k R) (hk : k ≤ 1) (hB : B ≤ w.heap.size) (b o c : Nat) (ay : Option Addr) (cy : Nat) (au : Option Addr) (cu : Nat) (av : Option Addr) (cv : Nat)
    (hC : C5 w b o (.int .i64 (R k).W) (.int .i64 (R k).H) (.slice ay (R k).nY cy) (.slice au (R k).nU cu) (.slice av (R k).nV cv))
    (hF : FA w (.agg #[.int .i64 (R k).W, .int .i64 (R k).H, .slice ay (R k).nY cy, .slice au (R k).nU cu, .slice av (R k).nV cv]) (R k)) :
    ∃ v' w', (Builtin.append_ #[99, 99] 99 #[v, .slice (some ⟨b, o, none⟩) 1 c]).run Try.prog w = .ok v' w' ∧ RF w' B v' (k + 1) R ∧ Below B w w' := by
  obtain ⟨i0, hi, hz0, hz1, hz2⟩ := info_parts info26z
  have hl : (fr5 (R k) ay cy au cu av cv).length = 1 * i0.size := by rw [hz1]; rfl
  rcases h with ⟨rfl, rfl⟩ | ⟨g, cap, cur, rfl, h0, h2, h3, h4, h5, h6, h7, h8⟩
  · have hr := run_append_nil (P := Try.prog) w 99 99 26 i0 zf Try.underlying99 hi hz0 ⟨b, o, none⟩ 1 c (fr5 (R 0) ay cy au cu av cv) hl hC.news (by decide) (by decide) (by rw [hz2]; decide)
    have hcap : 1 ≤ grownCap w 1 0 26 := grownCap_ge w 1 0 26
    have hb : Below w.heap.size w (w.drew.alloc (.cells ((fr5 (R 0) ay cy au cu av cv).toArray ++ Builtin.zeroCells zf.cells (grownCap w 1 0 26 - 1)) 26)) := ((Below.refl _ w).drew).alloc (by simp) _
    have hh := (MapKept.heap_alloc w.drew (.cells ((fr5 (R 0) ay cy au cu av cv).toArray ++ Builtin.zeroCells zf.cells (grownCap w 1 0 26 - 1)) 26)).1
    refine ⟨_, _, hr, Or.inr ⟨w.heap.size, grownCap w 1 0 26, _, rfl, by decide, hB, hh, hcap, grownCap_le_maxLen w 1 0 26 (by decide), ?_, ?_, ?_⟩, hb.mono hB⟩
    · rw [Array.size_append, zeros_size]; simp [fr5]; omega
    · intro u hu q
      simp only [Array.toList_append, List.mem_append] at hu
      rcases hu with hu | hu
      · exact fr5_plain u hu q
      · exact zeros_plain _ u hu q
    · intro i hi
      obtain rfl : i = 0 := by omega
      exact ⟨ay, cy, au, cu, av, cv, C5.of_list hh [] _ (by rw [Array.toList_append]; rfl) rfl, hF.below hb⟩
  · obtain rfl : k = 1 := by omega
    obtain ⟨ay0, cy0, au0, cu0, av0, cv0, hC0, hF0⟩ := h8 0 (by decide)
    by_cases hroom : 1 + 1 ≤ cap
    · have hr := run_append_room (P := Try.prog) w 99 99 26 i0 Try.underlying99 hi g 1 cap cur h3 ⟨b, o, none⟩ 1 c (fr5 (R 1) ay cy au cu av cv) hl hC.news fr5_one hroom (by rw [hz1, h6]; simp [fr5]; omega)
      have hh := setRow_heap w g cur (cur.toList.take (1 * i0.size) ++ fr5 (R 1) ay cy au cu av cv ++ cur.toList.drop (1 * i0.size + (fr5 (R 1) ay cy au cu av cv).length)).toArray 26 (0, 0) h3
      have hsame : ∀ b, b < w.heap.size → b ≠ g → (w.setRow g (cur.toList.take (1 * i0.size) ++ fr5 (R 1) ay cy au cu av cv ++ cur.toList.drop (1 * i0.size + (fr5 (R 1) ay cy au cu av cv).length)).toArray).heap[b]? = w.heap[b]? := fun b _ hn => setRow_other w g b _ hn
      have hnb : ∀ o q, w.cell? ⟨g, o, none⟩ ≠ some (.int .u8 q) := fun o q e => by
        rw [cell_of h3] at e
        exact h7 _ (List.mem_of_getElem? e) q rfl
      refine ⟨_, _, hr, Or.inr ⟨g, cap, _, rfl, by decide, h2, hh, hroom, h5, ?_, ?_, ?_⟩, ⟨rfl, rfl, rfl, by simp [World.setRow], fun j hj => setRow_other w g j _ (by omega)⟩⟩
      · simp [fr5, hz1, h6]; omega
      · intro u hu q
        simp only [List.mem_append] at hu
        rcases hu with (hu | hu) | hu
        · exact h7 u (List.mem_of_mem_take hu) q
        · exact fr5_plain u hu q
        · exact h7 u (List.mem_of_mem_drop hu) q
      · intro i hi'
        by_cases e : i = 0
        · subst e
          exact ⟨ay0, cy0, au0, cu0, av0, cv0, C5.pre h3 hh (fr5 (R 1) ay cy au cu av cv ++ cur.toList.drop (1 * i0.size + (fr5 (R 1) ay cy au cu av cv).length)) (by simp [hz1]) (by omega) hC0, hF0.only hnb hsame⟩
        · obtain rfl : i = 1 := by omega
          exact ⟨ay, cy, au, cu, av, cv, C5.of_list hh (cur.toList.take (1 * i0.size)) (cur.toList.drop (1 * i0.size + (fr5 (R 1) ay cy au cu av cv).length)) rfl (by simp [hz1, h6]; omega), hF.only hnb hsame⟩
    · obtain rfl : cap = 1 := by omega
      have holds : ∀ j u, cur.toList[j]? = some u → w.cell? ((⟨g, 0, none⟩ : Addr).add j) = some u := fun j u hu => by
        have hadd : (⟨g, 0, none⟩ : Addr).add j = ⟨g, j, none⟩ := by unfold Addr.add; split <;> simp_all
        rw [hadd, cell_of h3, hu]
      have hr := run_append_grow (P := Try.prog) w 99 99 26 i0 zf Try.underlying99 hi hz0 ⟨g, 0, none⟩ 1 1 cur.toList (by rw [hz1]; simpa using h6) holds ⟨b, o, none⟩ 1 c (fr5 (R 1) ay cy au cu av cv) hl hC.news (by decide) (by decide) (by rw [hz2]; decide)
      have hcap : 1 + 1 ≤ grownCap w (1 + 1) 1 26 := grownCap_ge w _ 1 26
      have hb : Below w.heap.size w (w.drew.alloc (.cells (cur.toList.toArray ++ (fr5 (R 1) ay cy au cu av cv).toArray ++ Builtin.zeroCells zf.cells (grownCap w (1 + 1) 1 26 - (1 + 1))) 26)) := ((Below.refl _ w).drew).alloc (by simp) _
      have hh := (MapKept.heap_alloc w.drew (.cells (cur.toList.toArray ++ (fr5 (R 1) ay cy au cu av cv).toArray ++ Builtin.zeroCells zf.cells (grownCap w (1 + 1) 1 26 - (1 + 1))) 26)).1
      refine ⟨_, _, hr, Or.inr ⟨w.heap.size, grownCap w (1 + 1) 1 26, _, rfl, by decide, hB, hh, hcap, grownCap_le_maxLen w _ 1 26 (by decide), ?_, ?_, ?_⟩, hb.mono hB⟩
      · have e1 : cur.toList.toArray.size = 5 := by simpa using h6
        have e2 : (fr5 (R 1) ay cy au cu av cv).toArray.size = 5 := rfl
        rw [Array.size_append, Array.size_append, zeros_size, e1, e2]; omega
      · intro u hu q
        simp only [Array.toList_append, List.mem_append] at hu
        rcases hu with (hu | hu) | hu
        · exact h7 u (by simpa using hu) q
        · exact fr5_plain u hu q
        · exact zeros_plain _ u hu q
      · intro i hi'
        by_cases e : i = 0
        · subst e
          refine ⟨ay0, cy0, au0, cu0, av0, cv0, C5.pre h3 hh (fr5 (R 1) ay cy au cu av cv ++ (Builtin.zeroCells zf.cells (grownCap w (1 + 1) 1 26 - (1 + 1))).toList) ?_ (by omega) hC0, hF0.below hb⟩
          simp
          rw [List.take_of_length_le (by simp; omega)]
        · obtain rfl : i = 1 := by omega
          exact ⟨ay, cy, au, cu, av, cv, C5.of_list hh cur.toList (Builtin.zeroCells zf.cells (grownCap w (1 + 1) 1 26 - (1 + 1))).toList (by simp) (by simpa using h6), hF.below hb⟩

/-- 'append' of one frame, at the operation. -/
theorem wpList_appF (w : World) {ops : Array Oper} {rest : List Oper} {op : Oper} {a : Act} {Q : Exit → Act → World → Prop} (hg : op.guard = none) (s x : Operand)
    (hop : op.op = .call { callee := .builtin .append, args := #[s, x], argTypes := #[99, 99] }) (hty : op.type = 99) (B : Nat) (v : Value) (k : Nat) (R : Nat → Fr) (hs : a.eval s = v) (h : RF w B v k R) (hk : k ≤ 1) (hB : B ≤ w.heap.size)
    (b o c : Nat) (hx : a.eval x = .slice (some ⟨b, o, none⟩) 1 c) (ay : Option Addr) (cy : Nat) (au : Option Addr) (cu : Nat) (av : Option Addr) (cv : Nat)
    (hC : C5 w b o (.int .i64 (R k).W) (.int .i64 (R k).H) (.slice ay (R k).nY cy) (.slice au (R k).nU cu) (.slice av (R k).nV cv))
    (hF : FA w (.agg #[.int .i64 (R k).W, .int .i64 (R k).H, .slice ay (R k).nY cy, .slice au (R k).nU cu, .slice av (R k).nV cv]) (R k))
    (hK : ∀ v' w', RF w' B v' (k + 1) R → Below B w w' → wpList Try.prog ops Q rest (a.put op.dst v') w') : wpList Try.prog ops Q (op :: rest) a w := by
  refine wpList_plain hg fun K hK' => ?_
  obtain ⟨v', w', hrun, r1, r2⟩ := append_fr w B v k R h hk hB b o c ay cy au cu av cv hC hF
  unfold Oper.wp
  simp [execOp, hop, resolve, invoke, builtin, hs, hx, hty, hrun, Result.andThen]
  exact hK' _ _ (hK v' w' r1 r2)

end Go.Proofs.Ytnnobdcbmagbaaa
