/- Rows.EditsUndoSaid is proved here, for every input; the walk is law_undo. -/
import Derived.Test.YtnmkcpgcdjhdjaaRows
import Derived.WalkKit
import Derived.ProofKit
import Derived.OpenShut
import Derived.Test.YtnmkcpgcdjhdjaaEx12
import Derived.Test.YtnmkcpgcdjhdjaaNo00
set_option linter.unusedVariables false
set_option linter.unusedSimpArgs false

/- The edit that undoes, and the edit that this returns. -/
namespace Go.Proofs.Ytnmkcpgcdjhdjaa
open Go.RowKit
set_option linter.unusedVariables false
set_option linter.unusedSimpArgs false
structure UndoH (t U : List Trk.Clip) (a b uk : Int) : Prop where
  u : Trk.UndoOf t U a b uk
  v : VT bigM U
  n : Trk.Norm U
  l : U.length ≤ 40
  t2 : uk = 2 → max a (Trk.total t) + (b - a) ≤ 2147483647
  b3 : uk ≠ 2 → b ≤ 1000
  t1 : uk = 1 → Trk.total U ≤ 1000
/-- What is needed to apply the edit that undoes, and the one after it. -/
structure UndoD (t U : List Trk.Clip) (B F : Trk.Ed) : Prop where
  x1 : ExV bigM B
  e1 : (if B.k = 1 then max B.p (Trk.total U) else B.p) + B.T ≤ 2147483647
  r1 : Trk.nf (B.exl U) = t
  f : F = Trk.backOf U B.p (B.p + B.T) (Trk.undoK B.k)
  x2 : ExV bigM F
  e2 : (if F.k = 1 then max F.p (Trk.total t) else F.p) + F.T ≤ 2147483647
  r2 : Trk.nf (F.exl t) = U
theorem back_exv {n : List Trk.Clip} {L a b uk : Int} (gn : Trk.GoodL n) (hV : Trk.VL L n) {l : List Trk.Clip} (hu : Trk.UndoOf n l a b uk) (hl : n.length ≤ 60) (hb : b ≤ 2147483647) : ExV L (Trk.backOf n a b uk) := by
  have a0 := hu.a0
  have ab := hu.ab
  have hT := Trk.backOf_T gn a0 (Int.le_of_lt ab) hu.k
  have hc := Trk.cut_of gn a0 (Int.le_of_lt ab)
  refine ⟨Trk.backOf_ex gn hu, ⟨?_, ?_, ?_⟩, fun hk => ?_, by show a ≤ _; omega, by rw [hT]; omega, rfl, rfl, rfl, rfl⟩
  · show Trk.VL L (if uk = 2 then [] else Trk.cut n a b)
    split
    · exact Trk.VL.nil
    · exact Trk.cut_vl hV a0 (Int.le_of_lt ab) (by omega)
  · show (if uk = 2 then [] else Trk.cut n a b).length ≤ 64
    split
    · simp
    · have := Trk.cut_length gn a0 (Int.le_of_lt ab); omega
  · show Trk.total (if uk = 2 then [] else Trk.cut n a b) ≤ 2147483647
    split
    · show (0 : Int) ≤ _; decide
    · rw [hc.t]; omega
  · show (if uk = 2 then b - a else 0) = 0
    have hk' : uk = 1 ∨ uk = 3 := hk
    rw [if_neg (by omega)]
theorem undo_data {t U : List Trk.Clip} {a b uk : Int} (h : Made t) (k : UndoH t U a b uk) :
    UndoD t U (Trk.backOf t a b uk) (Trk.backOf U a b (Trk.undoK uk)) := by
  obtain ⟨hu, hv, hn, hl, t2, b3, t1⟩ := k
  have gt := h.v.good
  have gU := hv.v.good
  have a0 := hu.a0
  have ab := hu.ab
  have hT := Trk.backOf_T gt a0 (Int.le_of_lt ab) hu.k
  have ttl := h.tt
  have tt0 := Trk.total_nonneg gt
  have hb : b ≤ 2147483647 := by
    by_cases h2 : uk = 2
    · have := t2 h2; omega
    · have := b3 h2; omega
  have x1 : ExV bigM (Trk.backOf t a b uk) := back_exv gt (h.v.mono (by unfold bigM; decide)) hu (by have := h.l; omega) hb
  have hu2 : Trk.UndoOf U ((Trk.backOf t a b uk).exl U) a b (Trk.undoK uk) := by
    have h2 := x1.x.undo gU
    rw [hT] at h2
    have e1 : (Trk.backOf t a b uk).p = a := rfl
    have e2 : (Trk.backOf t a b uk).k = uk := rfl
    rw [e1, e2, show a + (b - a) = b by omega] at h2
    exact h2
  have gx : Trk.GoodL ((Trk.backOf t a b uk).exl U) := (x1.x.of gU).g
  have r1 : Trk.nf ((Trk.backOf t a b uk).exl U) = t := by
    refine (Trk.nf_norm gx).eq h.n fun i i0 => ?_
    rw [Trk.nf_fr gx i0]
    have h3 := Trk.back_fr gt gU hu i0
    rw [hn.nf] at h3
    exact h3
  have x2 : ExV bigM (Trk.backOf U a b (Trk.undoK uk)) := back_exv gU hv.v hu2 (by omega) hb
  have hT2 := Trk.backOf_T gU a0 (Int.le_of_lt ab) hu2.k
  have g2 : Trk.GoodL ((Trk.backOf U a b (Trk.undoK uk)).exl t) := (x2.x.of gt).g
  refine ⟨x1, ?_, r1, ?_, x2, ?_, ?_⟩
  · show (if uk = 1 then max a (Trk.total U) else a) + (Trk.backOf t a b uk).T ≤ _
    rw [hT]
    split
    · rename_i h1
      have := t1 h1
      have := b3 (by omega)
      omega
    · omega
  · rw [hT]
    show _ = Trk.backOf U a (a + (b - a)) (Trk.undoK uk)
    rw [show a + (b - a) = b by omega]
  · show (if Trk.undoK uk = 1 then max a (Trk.total t) else a) + (Trk.backOf U a b (Trk.undoK uk)).T ≤ _
    rw [hT2]
    split
    · rename_i h1
      have h2 : uk = 2 := by
        unfold Trk.undoK at h1
        split at h1
        · omega
        · split at h1 <;> omega
      exact t2 h2
    · omega
  · refine (Trk.nf_norm g2).eq hn fun i i0 => ?_
    rw [Trk.nf_fr g2 i0]
    have h3 := Trk.back_fr gU gx hu2 i0
    rw [r1] at h3
    exact h3
/-- An edit of the tape, as the law turns it. -/
inductive TU (n : Nat) : Trk.Ed → Prop where
  | ins (k a : Int) (cl : List Trk.Clip) (hk : k = 1 ∨ k = 3) (a0 : 0 ≤ a) (a1 : a ≤ 255) (h : ClipsOK cl 7) : TU n ⟨k, a, 0, 0, 0, 0, 0, cl⟩
  | rem (k a m : Int) (hk : k = 2 ∨ k = 4) (a0 : 0 ≤ a) (a1 : a ≤ 255) (m0 : 1 ≤ m) (m1 : m ≤ 20) : TU n ⟨k, a, m, 0, 0, 0, 0, []⟩
  | clip (k d : Int) (c : Nat) (hk : 5 ≤ k ∧ k ≤ 9) (hc : c ≤ n) (d0 : d ≠ 0) (d1 : -2147483647 ≤ d ∧ d ≤ 2147483647) : TU n ⟨k, 0, 0, (c : Int), d, 0, 0, []⟩
  | speed (sn sd : Int) (c : Nat) (hc : c ≤ n) (h : Trk.SpeedOK sn sd) : TU n ⟨10, 0, 0, (c : Int), 0, sn, sd, []⟩
theorem tu_ex {n : Nat} {t : List Trk.Clip} (h : Made t) {e : Trk.Ed} (he : TU n e) (hk : e.k ≤ 4) : ExV 1000000 e ∧ e.put.length ≤ 7 ∧ e.T ≤ 63 ∧ e.p ≤ 255 := by
  cases he with
  | ins k a cl hk' a0 a1 hc =>
    obtain ⟨hE, eT, eP⟩ := insert_v hc (by decide) k a hk' a0 (by omega)
    refine ⟨hE, by rw [eP]; exact hc.n, by rw [eT]; have := hc.t2; omega, a1⟩
  | rem k a m hk' a0 a1 m0 m1 =>
    rcases hk' with rfl | rfl
    · exact ⟨extract_v a m a0 (by omega) m0 (by omega), by show 0 ≤ 7; decide, by show m ≤ 63; omega, a1⟩
    · exact ⟨lift_v a m a0 (by omega) m0 (by omega), by show 1 ≤ 7; decide, by show m ≤ 63; omega, a1⟩
  | clip k d c hk' hc d0 d1 => exact absurd hk (by show ¬ k ≤ 4; omega)
  | speed sn sd c hc h => exact absurd hk (by show ¬ (10 : Int) ≤ 4; decide)
theorem hee_ofU {t : List Trk.Clip} (h : Made t) {e : Trk.Ed} (hT : e.T ≤ 63) (hp : e.p ≤ 255) : (if e.k = 1 then max e.p (Trk.total t) else e.p) + e.T ≤ 2147483647 := by
  have := h.tt
  split <;> omega
theorem apply_outU (v V : Value) (t : List Trk.Clip) (e : Trk.Ed) (n : Nat) (w : World) (h : Tk w v t) (hu : Tk w V e.ins) (hM : Made t) (he : TU n e) (hn : n ≤ 1000) :
    Calls Try.prog 20 #[v, EdV e V] w (OutPost w (outOf t e)) := by
  have hl := hM.l
  have hnf := hM.n.nf
  have hV := hM.vt
  by_cases hk : e.k ≤ 4
  · obtain ⟨hE, hpl, hT, hp⟩ := tu_ex hM he hk
    have hx := exch_of hM.vt hE (by omega) (hee_ofU hM hT hp)
    have h1 := apply_x (L := 1000000) v V t e w h hu hV hE (by decide) (by rw [hnf]; omega) (by rw [hnf]; exact hee_ofU hM hT hp) (by rw [hnf]; have := hx.l; omega)
    rw [hnf] at h1
    refine h1.mono fun ev w' hp => ?_
    unfold outOf
    rw [if_pos hk]
    exact out_of_ed hp
  · cases he with
    | ins k a cl hk' a0 a1 hc => exact absurd (show k ≤ 4 by omega) hk
    | rem k a m hk' a0 a1 m0 m1 => exact absurd (show k ≤ 4 by omega) hk
    | clip k d c hk' hc d0 d1 =>
      obtain ⟨ao, cap, rfl, _, hcap, -⟩ := hu
      have h1 := apply_c (L := 1000000) v t k c d cap ao w h hV (by decide) (by rw [hnf]; omega) hk' (by omega) hcap (by omega)
      rw [hnf, decide_eq_true (show d ≠ 0 ∧ -2147483647 ≤ d ∧ d ≤ 2147483647 from ⟨d0, d1.1, d1.2⟩)] at h1
      refine h1.mono fun ev w' hp => ?_
      unfold outOf
      rw [if_neg hk]
      simp only [Int.toNat_natCast]
      rcases hp with ⟨-, h0, hp⟩ | ⟨ho, rfl, hb⟩
      · rw [if_pos h0]
        exact out_of_ed hp
      · have hne : Trk.adjCode t k c d 0 0 ≠ 0 := ho.resolve_left (by decide)
        rw [if_neg hne]
        exact out_of_no hb
    | speed sn sd c hc hs =>
      obtain ⟨ao, cap, rfl, _, hcap, -⟩ := hu
      have h1 := apply_r (L := 1000000) v t c sn sd cap ao w h hV (by decide) (by rw [hnf]; omega) (by omega) hcap hs
      rw [hnf] at h1
      refine h1.mono fun ev w' hp => ?_
      unfold outOf
      rw [if_neg hk]
      simp only [Int.toNat_natCast]
      rcases hp with ⟨-, h0, hp⟩ | ⟨ho, rfl, hb⟩
      · rw [if_pos h0]
        exact out_of_ed hp
      · have hne : Trk.adjCode t 10 c 0 sn sd ≠ 0 := ho.resolve_left (by decide)
        rw [if_neg hne]
        exact out_of_no hb
theorem total_upd {l : List Trk.Clip} {c : Nat} {x : Trk.Clip} (hx : l[c]? = some x) (f : Trk.Clip → Trk.Clip) : Trk.total (Trk.upd l c f) = Trk.total l - x.len + (f x).len := by
  obtain ⟨P, Q, rfl, rfl⟩ := Trk.split_at hx
  rw [Trk.upd_at, Trk.total_split, Trk.total_split]
  omega
/-- What stands behind an edit that is not refused. -/
theorem out_undo {n : Nat} {t : List Trk.Clip} (h : Made t) {e : Trk.Ed} (he : TU n e) (hc : (outOf t e).code = 0) :
    ∃ a b uk, (outOf t e).b = Trk.backOf t a b uk ∧ UndoH t (outOf t e).u a b uk := by
  have htt := h.tt
  have hl := h.l
  unfold outOf at hc ⊢
  by_cases hk : e.k ≤ 4
  · rw [if_pos hk]
    obtain ⟨hE, hpl, hT, hp⟩ := tu_ex h he hk
    have hx := exch_of h.vt hE (by omega) (hee_ofU h hT hp)
    have gx := (hE.x.of h.v.good).g
    have hu := nf_undo gx (hE.x.undo h.v.good)
    have pt := hE.x.put_total
    have t1 := hE.x.t
    have p0 := hE.x.p
    refine ⟨_, _, _, rfl, hu, hx.v.mono (by unfold bigM; decide), hx.n, ?_, fun _ => by omega, fun _ => by omega, fun _ => ?_⟩
    · exact Nat.le_trans hx.l (by omega)
    · have h3 := hx.tt
      have h4 : Trk.total e.put ≤ e.T := by rw [pt]; split <;> omega
      show Trk.total (Trk.nf (e.exl t)) ≤ 1000
      omega
  · rw [if_neg hk] at hc ⊢
    have key : ∀ (k : Int) (c : Nat) (d sn sd : Int), (5 ≤ k ∧ k ≤ 10) → (k ≤ 9 → d ≠ 0) → d.natAbs ≤ 2147483647 → (k = 10 → Trk.SpeedOK sn sd) → Trk.adjCode t k c d sn sd = 0 → UndoH t (Trk.nf (Trk.adjL t k c d sn sd)) (Trk.fromL t k c d) (Trk.toL t k c d) (Trk.undK k d) := by
      intro k c d sn sd h1 h2 h3 h4 h5
      obtain ⟨ha, hcl, -, -, hV, hTT⟩ := adj_of h h1 h2 h3 h4 h5
      have hln : (Trk.nf (Trk.adjL t k c d sn sd)).length ≤ t.length := Nat.le_trans (Trk.nf_length hV.good) (Nat.le_of_eq (Trk.adjL_length _ _ _ _ _ _))
      obtain ⟨x, hx⟩ : ∃ x, t[c]? = some x := ⟨_, List.getElem?_eq_getElem hcl⟩
      have hlm := len_of_made h hx
      have hnt := Trk.nf_total hV.good
      refine ⟨ha.u, ha.v, Trk.nf_norm hV.good, by omega, fun hu2 => ?_, fun hu2 => by have := ha.b hu2; omega, fun hu1 => ?_⟩
      · unfold Trk.undK at hu2
        split at hu2
        · rename_i k5
          subst k5
          have d0 : 0 < d := by
            rcases Int.lt_or_le 0 d with h | h
            · exact h
            · rw [if_neg (by omega)] at hu2; omega
          have hf : Trk.fromL t 5 c d = min (Trk.total (t.take (c + 1))) (Trk.total (t.take (c + 1)) + d) := by simp [Trk.fromL, Trk.endL]
          have ht : Trk.toL t 5 c d = max (Trk.total (t.take (c + 1))) (Trk.total (t.take (c + 1)) + d) := by simp [Trk.toL, Trk.endL]
          have e : Trk.adjL t 5 c d sn sd = Trk.upd t c (Trk.lenBy d) := by simp only [Trk.adjL]; rw [if_pos trivial]
          rw [e, total_upd hx, Trk.lenBy_len] at hTT
          rw [hf, ht]
          omega
        · split at hu2
          · rename_i k6
            subst k6
            have d0 : d < 0 := by
              rcases Int.lt_or_le d 0 with h | h
              · exact h
              · rw [if_neg (by omega)] at hu2; omega
            have hf : Trk.fromL t 6 c d = Trk.total (t.take c) := by simp [Trk.fromL, Trk.begL]
            have ht : Trk.toL t 6 c d = Trk.total (t.take c) + max d (-d) := by simp [Trk.toL, Trk.begL]
            have e : Trk.adjL t 6 c d sn sd = Trk.upd t c (Trk.later d) := by simp only [Trk.adjL]; rw [if_neg (by decide), if_pos trivial]
            rw [e, total_upd hx, Trk.later_len] at hTT
            rw [hf, ht]
            omega
          · omega
      · unfold Trk.undK at hu1
        split at hu1
        · rename_i k5
          subst k5
          have d0 : d ≤ 0 := by
            rcases Int.lt_or_le 0 d with h | h
            · rw [if_pos h] at hu1; omega
            · exact h
          have e : Trk.adjL t 5 c d sn sd = Trk.upd t c (Trk.lenBy d) := by simp only [Trk.adjL]; rw [if_pos trivial]
          have e2 := total_upd hx (Trk.lenBy d)
          rw [Trk.lenBy_len] at e2
          rw [e] at hnt ⊢
          omega
        · split at hu1
          · rename_i k6
            subst k6
            have d0 : 0 ≤ d := by
              rcases Int.lt_or_le d 0 with h | h
              · rw [if_pos h] at hu1; omega
              · exact h
            have e : Trk.adjL t 6 c d sn sd = Trk.upd t c (Trk.later d) := by simp only [Trk.adjL]; rw [if_neg (by decide), if_pos trivial]
            have e2 := total_upd hx (Trk.later d)
            rw [Trk.later_len] at e2
            rw [e] at hnt ⊢
            omega
          · omega
    cases he with
    | ins k a cl hk' a0 a1 hc' => exact absurd (show k ≤ 4 by omega) hk
    | rem k a m hk' a0 a1 m0 m1 => exact absurd (show k ≤ 4 by omega) hk
    | clip k d c hk' hc' d0 d1 =>
      simp only [Int.toNat_natCast] at hc ⊢
      by_cases h0 : Trk.adjCode t k c d 0 0 = 0
      · rw [if_pos h0]
        exact ⟨_, _, _, rfl, key k c d 0 0 (by omega) (fun _ => d0) (by omega) (fun h => by omega) h0⟩
      · rw [if_neg h0] at hc
        exact absurd hc h0
    | speed sn sd c hc' hs =>
      simp only [Int.toNat_natCast] at hc ⊢
      by_cases h0 : Trk.adjCode t 10 c 0 sn sd = 0
      · rw [if_pos h0]
        exact ⟨_, _, _, rfl, key 10 c 0 sn sd (by decide) (fun h => by omega) (by decide) (fun _ => hs) h0⟩
      · rw [if_neg h0] at hc
        exact absurd hc h0
theorem out_bad {t : List Trk.Clip} {e : Trk.Ed} (hc : (outOf t e).code ≠ 0) : (outOf t e).u = [] := by
  unfold outOf at hc ⊢
  split
  · rename_i hk
    rw [if_pos hk] at hc
    exact absurd rfl hc
  · rename_i hk
    rw [if_neg hk] at hc
    split
    · rename_i h0
      rw [if_pos h0] at hc
      exact absurd rfl hc
    · rfl
end Go.Proofs.Ytnmkcpgcdjhdjaa

/- The contract of the tape's Edit, once more: an edit without clips holds nil. -/
namespace Go.Proofs.Ytnmkcpgcdjhdjaa
open Go.RowKit
set_option linter.unusedVariables false
set_option linter.unusedSimpArgs false
def TEPost2 (w : World) (B p k j n : Nat) (e : Ending) (w' : World) : Prop := (∃ ed ao l cp, e = .returned (EdV ed (.slice ao l cp)) ∧ TE n ed ∧ OT w' w.heap.size (.slice ao l cp) ed.ins ∧ (ed.ins = [] → ao = none ∧ l = 0 ∧ cp = 0)) ∧ TQ w B p k j w'
set_option maxRecDepth 100000 in
set_option maxHeartbeats 16000000 in
theorem tedit_any2 (B p k n : Nat) (w : World) (ht : TP w B p k) (hk : k < 400000) (hn : n ≤ 1000) :
    Calls Try.prog 15 #[.pointer (some ⟨p, 0, none⟩), .int .i64 (n : Int)] w (TEPost2 w B p k 200 n) := by
  have hp := ht.2.1
  have hB := ht.1
  have HTP := Lib.hid ht
  clear ht
  go_enter Try.func15, Try.ntmps15
  go_upto_region 1 with fail
  obtain ⟨w1, hw1⟩ : ∃ y, y = w.alloc (.cells #[.int .i64 0, .int .i64 0, .int .i64 0, .int .i64 0, .int .i64 0, .int .i64 0, .int .i64 0, .slice none 0 0] 26) := ⟨_, rfl⟩
  rw [← hw1]
  have HZ := Lib.hid (show ED w1 w.heap.size 0 0 0 0 0 0 0 (.slice none 0 0) by rw [hw1]; exact ED.box w 0 0 0 0 0 0 0 (.slice none 0 0) rfl 26)
  have hb : Below w.heap.size w w1 := by rw [hw1]; exact below_box _ _
  have HT := Lib.hid (HTP.out.below (by omega) hb)
  have HU := Lib.hid (Turn.of (g := p) (Nat.le_of_lt hp) hb)
  obtain ⟨g4, hg4⟩ : ∃ y, y = w.heap.size := ⟨_, rfl⟩
  rw [← hg4] at HZ ⊢
  have HG4 := Lib.hid hg4
  clear hw1 hg4 hb
  go_wp2_with fail
  refine (next_any B p k 10 _ HT.out (by omega) (by omega) (by omega)).mono ?_
  rintro e w2 ⟨r, rfl, r0, r1, hT_, hg_⟩
  have ht := Turn.grown hg_ HT.out.2.1
  replace HU := Lib.hid (HU.out.trans ht)
  replace HZ := Lib.hid (ht.ed (show g4 ≠ p by have := HG4.out; omega) HZ.out)
  replace HT := Lib.hid hT_
  clear hT_ hg_ ht
  try dsimp only
  iterate 10 go_step
  have hv : ED (w2.alloc (.cells (edC 0 0 0 0 0 0 0 (.slice none 0 0)) 26)) w2.heap.size 0 0 0 0 0 0 0 (.slice none 0 0) := ED.box w2 0 0 0 0 0 0 0 (.slice none 0 0) rfl 26
  have hb0 : Below w2.heap.size w2 (w2.alloc (.cells (edC 0 0 0 0 0 0 0 (.slice none 0 0)) 26)) := below_box _ _
  refine wpl_storeE (1 + r) 0 0 0 0 0 0 none 0 0 hv rfl rfl rfl rfl ?_
  intro w3 q1 q2 q3 q4 q5
  have hb : Below w2.heap.size w2 w3 := q4 _ _ (Nat.le_refl _) hb0
  have hp2 : p < w2.heap.size := HT.out.2.1
  have hEV : EV w w3 B p (k + 1) g4 w2.heap.size (1 + r) 0 0 0 0 0 0 (.slice none 0 0) := by
    have h4 := HZ.out.lt
    have h5 := HU.out.s
    have h6 := HG4.out
    exact ⟨HT.out.low (n := w2.heap.size) (by omega) hp2 hb, HU.out.trans (Turn.of (g := p) (by omega) hb), q1, HZ.out.below hb, hp, by omega, by omega, by omega⟩
  have H := Lib.hid hEV
  have HS0 := Lib.hid (show w.heap.size ≤ w3.heap.size from hEV.u.s)
  obtain ⟨g5, hg5⟩ : ∃ g, g = w2.heap.size := ⟨_, rfl⟩
  rw [← hg5] at H ⊢
  clear hg5 q1 q2 q3 q4 q5 hb0 hb hv hp2 hEV HT HU HZ HTP HG4
  simp only [Act.put, List.setIfInBounds_toArray, List.set_cons_succ, List.set_cons_zero]
  obtain ⟨K, hK⟩ : ∃ K, K = 1 + r := ⟨_, rfl⟩
  rw [← hK] at H ⊢
  have K0 : 1 ≤ K := by omega
  have K1 : K ≤ 10 := by omega
  clear hK r0 r1
  have e0 := H.out.e.k0
  rcases (show K = 1 ∨ K = 2 ∨ K = 3 ∨ K = 4 ∨ K = 5 ∨ K = 6 ∨ K = 7 ∨ K = 8 ∨ K = 9 ∨ K = 10 by omega) with rfl | rfl | rfl | rfl | rfl | rfl | rfl | rfl | rfl | rfl
  · clear K0 K1
    go_wp2_with fail
    refine (next_any B p (k + 1) 60 _ H.out.t (by omega) (by omega) (by omega)).mono ?_
    rintro e wn ⟨a, rfl, a0, a1, hT_, hg_⟩
    have ht := Turn.grown hg_ H.out.t.2.1
    replace H := Lib.hid (H.out.turn ht hT_)
    clear hT_ hg_ ht
    have y1 := H.out.e.k1
    have f1 := H.out.e.fz 1
    go_upto_region 9 with fail
    obtain ⟨wq, hw⟩ : ∃ q, q = wn.setCell ⟨g5, 1, none⟩ (.int .i64 a) := ⟨_, rfl⟩
    rw [← hw]
    have ht : Turn g5 wn wq := by rw [hw]; exact (Turn.refl _ _).trans (Turn.cell g5 1 (.int .i64 a) _)
    replace H := Lib.hid (H.out.set ht (by rw [hw]; exact H.out.e.set1 a))
    clear hw ht
    clear y1 f1
    have HL4 := Lib.hid H.out.z.lt
    have HL5 := Lib.hid H.out.e.lt
    have HPW := Lib.hid H.out.t.2.1
    have HSQ := Lib.hid H.out.u.s
    clear e0
    go_wp2_with fail
    refine (track_any B p (k + 1 + 1) 3 wq H.out.t (by omega) (by omega)).mono ?_
    rintro e v2 ⟨⟨vl, l, rfl, ho, hs, hl⟩, ⟨k2, hk2, hT_⟩, ht⟩
    have HL := Lib.hid ho
    have HS := Lib.hid hs
    have HLL := Lib.hid hl
    have HS1 := Lib.hid (show wq.heap.size ≤ v2.heap.size from ht.s)
    replace H := Lib.hid (H.out.turn ht hT_)
    have HK2 := Lib.hid hk2
    clear ho hs hl hT_ ht hk2
    go_wp2_with fail
    refine (clip_any B p k2 _ H.out.t (by have := HK2.out; omega)).mono ?_
    rintro e v3 ⟨⟨z, rfl, hz⟩, ⟨k3, hk3, hT_⟩, ht⟩
    replace H := Lib.hid (H.out.turn ht hT_)
    replace HL := Lib.hid (HL.out.turn ht HPW.out)
    have HSZ := Lib.hid (Nat.le_trans HS1.out ht.s)
    have HK3 := Lib.hid hk3
    have HZ := Lib.hid hz
    clear hz hT_ ht hk3
    unfold clipV
    obtain ⟨C, hC⟩ : ∃ C, C = (clipC z).toArray := ⟨_, rfl⟩
    rw [← hC]
    have HCC := Lib.hid hC
    clear hC
    dsimp only
    iterate 1 go_step
    refine Great.wpList_buildSliceTo rfl 35 53 1 #[(0, .tmp 34)] rfl v3.heap.size rfl _ rfl Try.underlying35 C ?_ ?_
    · simp only [List.map_toArray, List.map_cons, List.map_nil, List.toList_toArray]
      rw [HCC.out]
      exact built_clip z
    have hbx : CA (v3.alloc (.cells C 53)) v3.heap.size 0 z := by rw [HCC.out]; exact CA.box v3 z 53
    have hb : Below v3.heap.size v3 (v3.alloc (.cells C 53)) := below_box _ _
    have hsz : wq.heap.size ≤ (v3.alloc (.cells C 53)).heap.size := Nat.le_trans HSZ.out hb.size
    replace HL := Lib.hid (HL.out.below hb)
    have HBX := Lib.hid hb
    clear hb
    simp only [Act.put, List.setIfInBounds_toArray, List.set_cons_succ, List.set_cons_zero]
    refine wpList_appT 35 Try.underlying35 _ rfl (.tmp 32) (.tmp 35) rfl rfl wq.heap.size vl l rfl HL.out hsz v3.heap.size 1 z rfl hbx (by have := HLL.out; omega) ?_
    intro vn v5 q1 q2 q3 q4
    simp only [Act.put, List.setIfInBounds_toArray, List.set_cons_succ, List.set_cons_zero]
    have hbl : Below wq.heap.size v3 v5 := (HBX.out.mono HSZ.out).trans q2
    have HC := Lib.hid q1
    replace H := Lib.hid (H.out.low hbl HL4.out HL5.out)
    have HCO := Lib.hid (clipsOK_snoc HS.out HLL.out HZ.out (by omega))
    obtain ⟨cl, hcl⟩ : ∃ cl, cl = l ++ [z] := ⟨_, rfl⟩
    rw [← hcl] at HC HCO
    clear q1 q2 q3 q4 hbl hbx hsz hcl HBX HCC HZ HS HLL HL HSZ
    obtain ⟨ca, cc, rfl, hcc⟩ := HC.out.tk
    clear hcc
    obtain ⟨J, hJ⟩ : ∃ J, J = cl.length := ⟨_, rfl⟩
    rw [← hJ] at HC ⊢
    clear hJ
    have y7 := H.out.e.k7
    have f7 := H.out.e.fz 7
    go_upto_region 15 with fail
    obtain ⟨w6, hw⟩ : ∃ q, q = v5.setCell ⟨g5, 7, none⟩ (.slice ca J cc) := ⟨_, rfl⟩
    rw [← hw]
    have ht : Turn g5 v5 w6 := by rw [hw]; exact (Turn.refl _ _).trans (Turn.cell g5 7 (.slice ca J cc) _)
    replace H := Lib.hid (H.out.set ht (by rw [hw]; exact H.out.e.set7 (.slice ca J cc)))
    replace HC := Lib.hid (show OT w6 wq.heap.size (.slice ca J cc) cl by rw [hw]; exact HC.out.far (p := ⟨g5, 7, none⟩) HL5.out _)
    clear hw ht
    clear y7 f7
    apply wp_region_lit
    refine wpl_loadE H.out.e rfl rfl rfl ?_
    refine wpl_storeE (1) (a) (0) (0) (0) (0) (0) ca J cc H.out.z rfl rfl rfl rfl ?_
    intro wz q1 q2 q3 q4 q5
    have hfin := H.out.fin (Turn.ofStore q2 q3 q4)
    have HOT := Lib.hid ((HC.out.blocks (fun g kk cap e => q2 g (by have h1 := (HC.out.blk e).1; have h2 := HL4.out; omega))).lower HSQ.out)
    have HQ1 := Lib.hid q1
    have HFI := Lib.hid hfin
    clear q1 q2 q3 q4 q5 hfin
    simp only [Act.put, List.setIfInBounds_toArray, List.set_cons_succ, List.set_cons_zero]
    iterate 4 go_step
    exact bodyPost_ret (results_ed1 Try.results15 rfl HQ1.out ⟨_, _, _, rfl⟩) rfl ⟨⟨⟨1, a, 0, 0, 0, 0, 0, cl⟩, ca, J, cc, rfl, TE.ins 1 a cl (by decide) a0 (by omega) HCO.out, HOT.out, fun h => by have h1 := HCO.out.t1; rw [show cl = [] from h] at h1; exact absurd h1 (by decide)⟩, TQ.of (k' := k3) (by have := HK2.out; have := HK3.out; omega) HFI.out.1 HFI.out.2⟩
  · clear K0 K1
    go_wp2_with fail
    refine (next_any B p (k + 1) 60 _ H.out.t (by omega) (by omega) (by omega)).mono ?_
    rintro e wn ⟨a, rfl, a0, a1, hT_, hg_⟩
    have ht := Turn.grown hg_ H.out.t.2.1
    replace H := Lib.hid (H.out.turn ht hT_)
    clear hT_ hg_ ht
    go_wp2_with fail
    refine (next_any B p (k + 1 + 1) 20 _ H.out.t (by omega) (by omega) (by omega)).mono ?_
    rintro e wm ⟨m, rfl, m0, m1, hT_, hg_⟩
    have ht := Turn.grown hg_ H.out.t.2.1
    replace H := Lib.hid (H.out.turn ht hT_)
    clear hT_ hg_ ht
    have y1 := H.out.e.k1
    have f1 := H.out.e.fz 1
    have y2 := H.out.e.k2
    have f2 := H.out.e.fz 2
    go_upto_region 15 with fail
    obtain ⟨w6, hw⟩ : ∃ q, q = (wm.setCell ⟨g5, 1, none⟩ (.int .i64 a)).setCell ⟨g5, 2, none⟩ (.int .i64 (1 + m)) := ⟨_, rfl⟩
    rw [← hw]
    have ht : Turn g5 wm w6 := by rw [hw]; exact ((Turn.refl _ _).trans (Turn.cell g5 1 (.int .i64 a) _)).trans (Turn.cell g5 2 (.int .i64 (1 + m)) _)
    replace H := Lib.hid (H.out.set ht (by rw [hw]; exact (H.out.e.set1 a).set2 (1 + m)))
    clear hw ht
    clear y1 f1 y2 f2
    apply wp_region_lit
    refine wpl_loadE H.out.e rfl rfl rfl ?_
    refine wpl_storeE (2) (a) (1 + m) (0) (0) (0) (0) none 0 0 H.out.z rfl rfl rfl rfl ?_
    intro wz q1 q2 q3 q4 q5
    have hfin := H.out.fin (Turn.ofStore q2 q3 q4)
    have HOT := Lib.hid (OT.nil wz w.heap.size)
    have HQ1 := Lib.hid q1
    have HFI := Lib.hid hfin
    clear q1 q2 q3 q4 q5 hfin
    simp only [Act.put, List.setIfInBounds_toArray, List.set_cons_succ, List.set_cons_zero]
    iterate 4 go_step
    exact bodyPost_ret (results_ed1 Try.results15 rfl HQ1.out ⟨_, _, _, rfl⟩) rfl ⟨⟨⟨2, a, 1 + m, 0, 0, 0, 0, []⟩, none, 0, 0, rfl, TE.rem 2 a (1 + m) (by decide) a0 (by omega) (by omega) (by omega), HOT.out, fun _ => ⟨rfl, rfl, rfl⟩⟩, TQ.of (k' := k + 1 + 1 + 1) (by omega) HFI.out.1 HFI.out.2⟩
  · clear K0 K1
    go_wp2_with fail
    refine (next_any B p (k + 1) 60 _ H.out.t (by omega) (by omega) (by omega)).mono ?_
    rintro e wn ⟨a, rfl, a0, a1, hT_, hg_⟩
    have ht := Turn.grown hg_ H.out.t.2.1
    replace H := Lib.hid (H.out.turn ht hT_)
    clear hT_ hg_ ht
    have y1 := H.out.e.k1
    have f1 := H.out.e.fz 1
    go_upto_region 9 with fail
    obtain ⟨wq, hw⟩ : ∃ q, q = wn.setCell ⟨g5, 1, none⟩ (.int .i64 a) := ⟨_, rfl⟩
    rw [← hw]
    have ht : Turn g5 wn wq := by rw [hw]; exact (Turn.refl _ _).trans (Turn.cell g5 1 (.int .i64 a) _)
    replace H := Lib.hid (H.out.set ht (by rw [hw]; exact H.out.e.set1 a))
    clear hw ht
    clear y1 f1
    have HL4 := Lib.hid H.out.z.lt
    have HL5 := Lib.hid H.out.e.lt
    have HPW := Lib.hid H.out.t.2.1
    have HSQ := Lib.hid H.out.u.s
    clear e0
    go_wp2_with fail
    refine (track_any B p (k + 1 + 1) 3 wq H.out.t (by omega) (by omega)).mono ?_
    rintro e v2 ⟨⟨vl, l, rfl, ho, hs, hl⟩, ⟨k2, hk2, hT_⟩, ht⟩
    have HL := Lib.hid ho
    have HS := Lib.hid hs
    have HLL := Lib.hid hl
    have HS1 := Lib.hid (show wq.heap.size ≤ v2.heap.size from ht.s)
    replace H := Lib.hid (H.out.turn ht hT_)
    have HK2 := Lib.hid hk2
    clear ho hs hl hT_ ht hk2
    go_wp2_with fail
    refine (clip_any B p k2 _ H.out.t (by have := HK2.out; omega)).mono ?_
    rintro e v3 ⟨⟨z, rfl, hz⟩, ⟨k3, hk3, hT_⟩, ht⟩
    replace H := Lib.hid (H.out.turn ht hT_)
    replace HL := Lib.hid (HL.out.turn ht HPW.out)
    have HSZ := Lib.hid (Nat.le_trans HS1.out ht.s)
    have HK3 := Lib.hid hk3
    have HZ := Lib.hid hz
    clear hz hT_ ht hk3
    unfold clipV
    obtain ⟨C, hC⟩ : ∃ C, C = (clipC z).toArray := ⟨_, rfl⟩
    rw [← hC]
    have HCC := Lib.hid hC
    clear hC
    dsimp only
    iterate 1 go_step
    refine Great.wpList_buildSliceTo rfl 35 53 1 #[(0, .tmp 34)] rfl v3.heap.size rfl _ rfl Try.underlying35 C ?_ ?_
    · simp only [List.map_toArray, List.map_cons, List.map_nil, List.toList_toArray]
      rw [HCC.out]
      exact built_clip z
    have hbx : CA (v3.alloc (.cells C 53)) v3.heap.size 0 z := by rw [HCC.out]; exact CA.box v3 z 53
    have hb : Below v3.heap.size v3 (v3.alloc (.cells C 53)) := below_box _ _
    have hsz : wq.heap.size ≤ (v3.alloc (.cells C 53)).heap.size := Nat.le_trans HSZ.out hb.size
    replace HL := Lib.hid (HL.out.below hb)
    have HBX := Lib.hid hb
    clear hb
    simp only [Act.put, List.setIfInBounds_toArray, List.set_cons_succ, List.set_cons_zero]
    refine wpList_appT 35 Try.underlying35 _ rfl (.tmp 32) (.tmp 35) rfl rfl wq.heap.size vl l rfl HL.out hsz v3.heap.size 1 z rfl hbx (by have := HLL.out; omega) ?_
    intro vn v5 q1 q2 q3 q4
    simp only [Act.put, List.setIfInBounds_toArray, List.set_cons_succ, List.set_cons_zero]
    have hbl : Below wq.heap.size v3 v5 := (HBX.out.mono HSZ.out).trans q2
    have HC := Lib.hid q1
    replace H := Lib.hid (H.out.low hbl HL4.out HL5.out)
    have HCO := Lib.hid (clipsOK_snoc HS.out HLL.out HZ.out (by omega))
    obtain ⟨cl, hcl⟩ : ∃ cl, cl = l ++ [z] := ⟨_, rfl⟩
    rw [← hcl] at HC HCO
    clear q1 q2 q3 q4 hbl hbx hsz hcl HBX HCC HZ HS HLL HL HSZ
    obtain ⟨ca, cc, rfl, hcc⟩ := HC.out.tk
    clear hcc
    obtain ⟨J, hJ⟩ : ∃ J, J = cl.length := ⟨_, rfl⟩
    rw [← hJ] at HC ⊢
    clear hJ
    have y7 := H.out.e.k7
    have f7 := H.out.e.fz 7
    go_upto_region 15 with fail
    obtain ⟨w6, hw⟩ : ∃ q, q = v5.setCell ⟨g5, 7, none⟩ (.slice ca J cc) := ⟨_, rfl⟩
    rw [← hw]
    have ht : Turn g5 v5 w6 := by rw [hw]; exact (Turn.refl _ _).trans (Turn.cell g5 7 (.slice ca J cc) _)
    replace H := Lib.hid (H.out.set ht (by rw [hw]; exact H.out.e.set7 (.slice ca J cc)))
    replace HC := Lib.hid (show OT w6 wq.heap.size (.slice ca J cc) cl by rw [hw]; exact HC.out.far (p := ⟨g5, 7, none⟩) HL5.out _)
    clear hw ht
    clear y7 f7
    apply wp_region_lit
    refine wpl_loadE H.out.e rfl rfl rfl ?_
    refine wpl_storeE (3) (a) (0) (0) (0) (0) (0) ca J cc H.out.z rfl rfl rfl rfl ?_
    intro wz q1 q2 q3 q4 q5
    have hfin := H.out.fin (Turn.ofStore q2 q3 q4)
    have HOT := Lib.hid ((HC.out.blocks (fun g kk cap e => q2 g (by have h1 := (HC.out.blk e).1; have h2 := HL4.out; omega))).lower HSQ.out)
    have HQ1 := Lib.hid q1
    have HFI := Lib.hid hfin
    clear q1 q2 q3 q4 q5 hfin
    simp only [Act.put, List.setIfInBounds_toArray, List.set_cons_succ, List.set_cons_zero]
    iterate 4 go_step
    exact bodyPost_ret (results_ed1 Try.results15 rfl HQ1.out ⟨_, _, _, rfl⟩) rfl ⟨⟨⟨3, a, 0, 0, 0, 0, 0, cl⟩, ca, J, cc, rfl, TE.ins 3 a cl (by decide) a0 (by omega) HCO.out, HOT.out, fun h => by have h1 := HCO.out.t1; rw [show cl = [] from h] at h1; exact absurd h1 (by decide)⟩, TQ.of (k' := k3) (by have := HK2.out; have := HK3.out; omega) HFI.out.1 HFI.out.2⟩
  · clear K0 K1
    go_wp2_with fail
    refine (next_any B p (k + 1) 60 _ H.out.t (by omega) (by omega) (by omega)).mono ?_
    rintro e wn ⟨a, rfl, a0, a1, hT_, hg_⟩
    have ht := Turn.grown hg_ H.out.t.2.1
    replace H := Lib.hid (H.out.turn ht hT_)
    clear hT_ hg_ ht
    go_wp2_with fail
    refine (next_any B p (k + 1 + 1) 20 _ H.out.t (by omega) (by omega) (by omega)).mono ?_
    rintro e wm ⟨m, rfl, m0, m1, hT_, hg_⟩
    have ht := Turn.grown hg_ H.out.t.2.1
    replace H := Lib.hid (H.out.turn ht hT_)
    clear hT_ hg_ ht
    have y1 := H.out.e.k1
    have f1 := H.out.e.fz 1
    have y2 := H.out.e.k2
    have f2 := H.out.e.fz 2
    go_upto_region 15 with fail
    obtain ⟨w6, hw⟩ : ∃ q, q = (wm.setCell ⟨g5, 1, none⟩ (.int .i64 a)).setCell ⟨g5, 2, none⟩ (.int .i64 (1 + m)) := ⟨_, rfl⟩
    rw [← hw]
    have ht : Turn g5 wm w6 := by rw [hw]; exact ((Turn.refl _ _).trans (Turn.cell g5 1 (.int .i64 a) _)).trans (Turn.cell g5 2 (.int .i64 (1 + m)) _)
    replace H := Lib.hid (H.out.set ht (by rw [hw]; exact (H.out.e.set1 a).set2 (1 + m)))
    clear hw ht
    clear y1 f1 y2 f2
    apply wp_region_lit
    refine wpl_loadE H.out.e rfl rfl rfl ?_
    refine wpl_storeE (4) (a) (1 + m) (0) (0) (0) (0) none 0 0 H.out.z rfl rfl rfl rfl ?_
    intro wz q1 q2 q3 q4 q5
    have hfin := H.out.fin (Turn.ofStore q2 q3 q4)
    have HOT := Lib.hid (OT.nil wz w.heap.size)
    have HQ1 := Lib.hid q1
    have HFI := Lib.hid hfin
    clear q1 q2 q3 q4 q5 hfin
    simp only [Act.put, List.setIfInBounds_toArray, List.set_cons_succ, List.set_cons_zero]
    iterate 4 go_step
    exact bodyPost_ret (results_ed1 Try.results15 rfl HQ1.out ⟨_, _, _, rfl⟩) rfl ⟨⟨⟨4, a, 1 + m, 0, 0, 0, 0, []⟩, none, 0, 0, rfl, TE.rem 4 a (1 + m) (by decide) a0 (by omega) (by omega) (by omega), HOT.out, fun _ => ⟨rfl, rfl, rfl⟩⟩, TQ.of (k' := k + 1 + 1 + 1) (by omega) HFI.out.1 HFI.out.2⟩
  · clear K0 K1
    have hn1 : (1 : Int) ≤ (n : Int) + 1 := by omega
    go_wp2_with fail
    refine (next_any B p (k + 1) ((n : Int) + 1) _ H.out.t (by omega) (by omega) (by omega)).mono ?_
    rintro e wn ⟨c, rfl, c0, c1, hT_, hg_⟩
    have ht := Turn.grown hg_ H.out.t.2.1
    replace H := Lib.hid (H.out.turn ht hT_)
    clear hT_ hg_ ht
    go_wp2_with fail
    refine (next_any B p (k + 1 + 1) 11 _ H.out.t (by omega) (by omega) (by omega)).mono ?_
    rintro e wm ⟨d, rfl, d0, d1, hT_, hg_⟩
    have ht := Turn.grown hg_ H.out.t.2.1
    replace H := Lib.hid (H.out.turn ht hT_)
    clear hT_ hg_ ht
    obtain ⟨cn, hcn⟩ : ∃ cn : Nat, c = (cn : Int) := ⟨c.toNat, by omega⟩
    subst hcn
    have y3 := H.out.e.k3
    have f3 := H.out.e.fz 3
    have y4 := H.out.e.k4
    have f4 := H.out.e.fz 4
    by_cases hd5 : d = 5
    · subst hd5
      go_upto_region 15 with fail
      obtain ⟨w6, hw⟩ : ∃ q, q = ((wm.setCell ⟨g5, 3, none⟩ (.int .i64 (cn : Int))).setCell ⟨g5, 4, none⟩ (.int .i64 0)).setCell ⟨g5, 4, none⟩ (.int .i64 6) := ⟨_, rfl⟩
      rw [← hw]
      have ht : Turn g5 wm w6 := by rw [hw]; exact (((Turn.refl _ _).trans (Turn.cell g5 3 (.int .i64 (cn : Int)) _)).trans (Turn.cell g5 4 (.int .i64 0) _)).trans (Turn.cell g5 4 (.int .i64 6) _)
      replace H := Lib.hid (H.out.set ht (by rw [hw]; exact ((H.out.e.set3 (cn : Int)).set4 0).set4 6))
      clear hw ht
      clear y3 f3 y4 f4
      apply wp_region_lit
      refine wpl_loadE H.out.e rfl rfl rfl ?_
      refine wpl_storeE (5) (0) (0) ((cn : Int)) (6) (0) (0) none 0 0 H.out.z rfl rfl rfl rfl ?_
      intro wz q1 q2 q3 q4 q5
      have hfin := H.out.fin (Turn.ofStore q2 q3 q4)
      have HOT := Lib.hid (OT.nil wz w.heap.size)
      have HQ1 := Lib.hid q1
      have HFI := Lib.hid hfin
      clear q1 q2 q3 q4 q5 hfin
      simp only [Act.put, List.setIfInBounds_toArray, List.set_cons_succ, List.set_cons_zero]
      iterate 4 go_step
      exact bodyPost_ret (results_ed1 Try.results15 rfl HQ1.out ⟨_, _, _, rfl⟩) rfl ⟨⟨⟨5, 0, 0, (cn : Int), 6, 0, 0, []⟩, none, 0, 0, rfl, TE.clip 5 6 cn (by decide) (by omega) (by decide) (by decide), HOT.out, fun _ => ⟨rfl, rfl, rfl⟩⟩, TQ.of (k' := k + 1 + 1 + 1) (by omega) HFI.out.1 HFI.out.2⟩
    · have hd6 : (d - 5 == 0) = false := by simp; omega
      go_upto_region 15 with fail
      obtain ⟨w6, hw⟩ : ∃ q, q = (wm.setCell ⟨g5, 3, none⟩ (.int .i64 (cn : Int))).setCell ⟨g5, 4, none⟩ (.int .i64 (d - 5)) := ⟨_, rfl⟩
      rw [← hw]
      have ht : Turn g5 wm w6 := by rw [hw]; exact ((Turn.refl _ _).trans (Turn.cell g5 3 (.int .i64 (cn : Int)) _)).trans (Turn.cell g5 4 (.int .i64 (d - 5)) _)
      replace H := Lib.hid (H.out.set ht (by rw [hw]; exact (H.out.e.set3 (cn : Int)).set4 (d - 5)))
      clear hw ht
      clear y3 f3 y4 f4
      apply wp_region_lit
      refine wpl_loadE H.out.e rfl rfl rfl ?_
      refine wpl_storeE (5) (0) (0) ((cn : Int)) (d - 5) (0) (0) none 0 0 H.out.z rfl rfl rfl rfl ?_
      intro wz q1 q2 q3 q4 q5
      have hfin := H.out.fin (Turn.ofStore q2 q3 q4)
      have HOT := Lib.hid (OT.nil wz w.heap.size)
      have HQ1 := Lib.hid q1
      have HFI := Lib.hid hfin
      clear q1 q2 q3 q4 q5 hfin
      simp only [Act.put, List.setIfInBounds_toArray, List.set_cons_succ, List.set_cons_zero]
      iterate 4 go_step
      exact bodyPost_ret (results_ed1 Try.results15 rfl HQ1.out ⟨_, _, _, rfl⟩) rfl ⟨⟨⟨5, 0, 0, (cn : Int), d - 5, 0, 0, []⟩, none, 0, 0, rfl, TE.clip 5 (d - 5) cn (by decide) (by omega) (by omega) (by omega), HOT.out, fun _ => ⟨rfl, rfl, rfl⟩⟩, TQ.of (k' := k + 1 + 1 + 1) (by omega) HFI.out.1 HFI.out.2⟩
  · clear K0 K1
    have hn1 : (1 : Int) ≤ (n : Int) + 1 := by omega
    go_wp2_with fail
    refine (next_any B p (k + 1) ((n : Int) + 1) _ H.out.t (by omega) (by omega) (by omega)).mono ?_
    rintro e wn ⟨c, rfl, c0, c1, hT_, hg_⟩
    have ht := Turn.grown hg_ H.out.t.2.1
    replace H := Lib.hid (H.out.turn ht hT_)
    clear hT_ hg_ ht
    go_wp2_with fail
    refine (next_any B p (k + 1 + 1) 11 _ H.out.t (by omega) (by omega) (by omega)).mono ?_
    rintro e wm ⟨d, rfl, d0, d1, hT_, hg_⟩
    have ht := Turn.grown hg_ H.out.t.2.1
    replace H := Lib.hid (H.out.turn ht hT_)
    clear hT_ hg_ ht
    obtain ⟨cn, hcn⟩ : ∃ cn : Nat, c = (cn : Int) := ⟨c.toNat, by omega⟩
    subst hcn
    have y3 := H.out.e.k3
    have f3 := H.out.e.fz 3
    have y4 := H.out.e.k4
    have f4 := H.out.e.fz 4
    by_cases hd5 : d = 5
    · subst hd5
      go_upto_region 15 with fail
      obtain ⟨w6, hw⟩ : ∃ q, q = ((wm.setCell ⟨g5, 3, none⟩ (.int .i64 (cn : Int))).setCell ⟨g5, 4, none⟩ (.int .i64 0)).setCell ⟨g5, 4, none⟩ (.int .i64 6) := ⟨_, rfl⟩
      rw [← hw]
      have ht : Turn g5 wm w6 := by rw [hw]; exact (((Turn.refl _ _).trans (Turn.cell g5 3 (.int .i64 (cn : Int)) _)).trans (Turn.cell g5 4 (.int .i64 0) _)).trans (Turn.cell g5 4 (.int .i64 6) _)
      replace H := Lib.hid (H.out.set ht (by rw [hw]; exact ((H.out.e.set3 (cn : Int)).set4 0).set4 6))
      clear hw ht
      clear y3 f3 y4 f4
      apply wp_region_lit
      refine wpl_loadE H.out.e rfl rfl rfl ?_
      refine wpl_storeE (6) (0) (0) ((cn : Int)) (6) (0) (0) none 0 0 H.out.z rfl rfl rfl rfl ?_
      intro wz q1 q2 q3 q4 q5
      have hfin := H.out.fin (Turn.ofStore q2 q3 q4)
      have HOT := Lib.hid (OT.nil wz w.heap.size)
      have HQ1 := Lib.hid q1
      have HFI := Lib.hid hfin
      clear q1 q2 q3 q4 q5 hfin
      simp only [Act.put, List.setIfInBounds_toArray, List.set_cons_succ, List.set_cons_zero]
      iterate 4 go_step
      exact bodyPost_ret (results_ed1 Try.results15 rfl HQ1.out ⟨_, _, _, rfl⟩) rfl ⟨⟨⟨6, 0, 0, (cn : Int), 6, 0, 0, []⟩, none, 0, 0, rfl, TE.clip 6 6 cn (by decide) (by omega) (by decide) (by decide), HOT.out, fun _ => ⟨rfl, rfl, rfl⟩⟩, TQ.of (k' := k + 1 + 1 + 1) (by omega) HFI.out.1 HFI.out.2⟩
    · have hd6 : (d - 5 == 0) = false := by simp; omega
      go_upto_region 15 with fail
      obtain ⟨w6, hw⟩ : ∃ q, q = (wm.setCell ⟨g5, 3, none⟩ (.int .i64 (cn : Int))).setCell ⟨g5, 4, none⟩ (.int .i64 (d - 5)) := ⟨_, rfl⟩
      rw [← hw]
      have ht : Turn g5 wm w6 := by rw [hw]; exact ((Turn.refl _ _).trans (Turn.cell g5 3 (.int .i64 (cn : Int)) _)).trans (Turn.cell g5 4 (.int .i64 (d - 5)) _)
      replace H := Lib.hid (H.out.set ht (by rw [hw]; exact (H.out.e.set3 (cn : Int)).set4 (d - 5)))
      clear hw ht
      clear y3 f3 y4 f4
      apply wp_region_lit
      refine wpl_loadE H.out.e rfl rfl rfl ?_
      refine wpl_storeE (6) (0) (0) ((cn : Int)) (d - 5) (0) (0) none 0 0 H.out.z rfl rfl rfl rfl ?_
      intro wz q1 q2 q3 q4 q5
      have hfin := H.out.fin (Turn.ofStore q2 q3 q4)
      have HOT := Lib.hid (OT.nil wz w.heap.size)
      have HQ1 := Lib.hid q1
      have HFI := Lib.hid hfin
      clear q1 q2 q3 q4 q5 hfin
      simp only [Act.put, List.setIfInBounds_toArray, List.set_cons_succ, List.set_cons_zero]
      iterate 4 go_step
      exact bodyPost_ret (results_ed1 Try.results15 rfl HQ1.out ⟨_, _, _, rfl⟩) rfl ⟨⟨⟨6, 0, 0, (cn : Int), d - 5, 0, 0, []⟩, none, 0, 0, rfl, TE.clip 6 (d - 5) cn (by decide) (by omega) (by omega) (by omega), HOT.out, fun _ => ⟨rfl, rfl, rfl⟩⟩, TQ.of (k' := k + 1 + 1 + 1) (by omega) HFI.out.1 HFI.out.2⟩
  · clear K0 K1
    have hn1 : (1 : Int) ≤ (n : Int) + 1 := by omega
    go_wp2_with fail
    refine (next_any B p (k + 1) ((n : Int) + 1) _ H.out.t (by omega) (by omega) (by omega)).mono ?_
    rintro e wn ⟨c, rfl, c0, c1, hT_, hg_⟩
    have ht := Turn.grown hg_ H.out.t.2.1
    replace H := Lib.hid (H.out.turn ht hT_)
    clear hT_ hg_ ht
    go_wp2_with fail
    refine (next_any B p (k + 1 + 1) 11 _ H.out.t (by omega) (by omega) (by omega)).mono ?_
    rintro e wm ⟨d, rfl, d0, d1, hT_, hg_⟩
    have ht := Turn.grown hg_ H.out.t.2.1
    replace H := Lib.hid (H.out.turn ht hT_)
    clear hT_ hg_ ht
    obtain ⟨cn, hcn⟩ : ∃ cn : Nat, c = (cn : Int) := ⟨c.toNat, by omega⟩
    subst hcn
    have y3 := H.out.e.k3
    have f3 := H.out.e.fz 3
    have y4 := H.out.e.k4
    have f4 := H.out.e.fz 4
    by_cases hd5 : d = 5
    · subst hd5
      go_upto_region 15 with fail
      obtain ⟨w6, hw⟩ : ∃ q, q = ((wm.setCell ⟨g5, 3, none⟩ (.int .i64 (cn : Int))).setCell ⟨g5, 4, none⟩ (.int .i64 0)).setCell ⟨g5, 4, none⟩ (.int .i64 6) := ⟨_, rfl⟩
      rw [← hw]
      have ht : Turn g5 wm w6 := by rw [hw]; exact (((Turn.refl _ _).trans (Turn.cell g5 3 (.int .i64 (cn : Int)) _)).trans (Turn.cell g5 4 (.int .i64 0) _)).trans (Turn.cell g5 4 (.int .i64 6) _)
      replace H := Lib.hid (H.out.set ht (by rw [hw]; exact ((H.out.e.set3 (cn : Int)).set4 0).set4 6))
      clear hw ht
      clear y3 f3 y4 f4
      apply wp_region_lit
      refine wpl_loadE H.out.e rfl rfl rfl ?_
      refine wpl_storeE (7) (0) (0) ((cn : Int)) (6) (0) (0) none 0 0 H.out.z rfl rfl rfl rfl ?_
      intro wz q1 q2 q3 q4 q5
      have hfin := H.out.fin (Turn.ofStore q2 q3 q4)
      have HOT := Lib.hid (OT.nil wz w.heap.size)
      have HQ1 := Lib.hid q1
      have HFI := Lib.hid hfin
      clear q1 q2 q3 q4 q5 hfin
      simp only [Act.put, List.setIfInBounds_toArray, List.set_cons_succ, List.set_cons_zero]
      iterate 4 go_step
      exact bodyPost_ret (results_ed1 Try.results15 rfl HQ1.out ⟨_, _, _, rfl⟩) rfl ⟨⟨⟨7, 0, 0, (cn : Int), 6, 0, 0, []⟩, none, 0, 0, rfl, TE.clip 7 6 cn (by decide) (by omega) (by decide) (by decide), HOT.out, fun _ => ⟨rfl, rfl, rfl⟩⟩, TQ.of (k' := k + 1 + 1 + 1) (by omega) HFI.out.1 HFI.out.2⟩
    · have hd6 : (d - 5 == 0) = false := by simp; omega
      go_upto_region 15 with fail
      obtain ⟨w6, hw⟩ : ∃ q, q = (wm.setCell ⟨g5, 3, none⟩ (.int .i64 (cn : Int))).setCell ⟨g5, 4, none⟩ (.int .i64 (d - 5)) := ⟨_, rfl⟩
      rw [← hw]
      have ht : Turn g5 wm w6 := by rw [hw]; exact ((Turn.refl _ _).trans (Turn.cell g5 3 (.int .i64 (cn : Int)) _)).trans (Turn.cell g5 4 (.int .i64 (d - 5)) _)
      replace H := Lib.hid (H.out.set ht (by rw [hw]; exact (H.out.e.set3 (cn : Int)).set4 (d - 5)))
      clear hw ht
      clear y3 f3 y4 f4
      apply wp_region_lit
      refine wpl_loadE H.out.e rfl rfl rfl ?_
      refine wpl_storeE (7) (0) (0) ((cn : Int)) (d - 5) (0) (0) none 0 0 H.out.z rfl rfl rfl rfl ?_
      intro wz q1 q2 q3 q4 q5
      have hfin := H.out.fin (Turn.ofStore q2 q3 q4)
      have HOT := Lib.hid (OT.nil wz w.heap.size)
      have HQ1 := Lib.hid q1
      have HFI := Lib.hid hfin
      clear q1 q2 q3 q4 q5 hfin
      simp only [Act.put, List.setIfInBounds_toArray, List.set_cons_succ, List.set_cons_zero]
      iterate 4 go_step
      exact bodyPost_ret (results_ed1 Try.results15 rfl HQ1.out ⟨_, _, _, rfl⟩) rfl ⟨⟨⟨7, 0, 0, (cn : Int), d - 5, 0, 0, []⟩, none, 0, 0, rfl, TE.clip 7 (d - 5) cn (by decide) (by omega) (by omega) (by omega), HOT.out, fun _ => ⟨rfl, rfl, rfl⟩⟩, TQ.of (k' := k + 1 + 1 + 1) (by omega) HFI.out.1 HFI.out.2⟩
  · clear K0 K1
    have hn1 : (1 : Int) ≤ (n : Int) + 1 := by omega
    go_wp2_with fail
    refine (next_any B p (k + 1) ((n : Int) + 1) _ H.out.t (by omega) (by omega) (by omega)).mono ?_
    rintro e wn ⟨c, rfl, c0, c1, hT_, hg_⟩
    have ht := Turn.grown hg_ H.out.t.2.1
    replace H := Lib.hid (H.out.turn ht hT_)
    clear hT_ hg_ ht
    go_wp2_with fail
    refine (next_any B p (k + 1 + 1) 11 _ H.out.t (by omega) (by omega) (by omega)).mono ?_
    rintro e wm ⟨d, rfl, d0, d1, hT_, hg_⟩
    have ht := Turn.grown hg_ H.out.t.2.1
    replace H := Lib.hid (H.out.turn ht hT_)
    clear hT_ hg_ ht
    obtain ⟨cn, hcn⟩ : ∃ cn : Nat, c = (cn : Int) := ⟨c.toNat, by omega⟩
    subst hcn
    have y3 := H.out.e.k3
    have f3 := H.out.e.fz 3
    have y4 := H.out.e.k4
    have f4 := H.out.e.fz 4
    by_cases hd5 : d = 5
    · subst hd5
      go_upto_region 15 with fail
      obtain ⟨w6, hw⟩ : ∃ q, q = ((wm.setCell ⟨g5, 3, none⟩ (.int .i64 (cn : Int))).setCell ⟨g5, 4, none⟩ (.int .i64 0)).setCell ⟨g5, 4, none⟩ (.int .i64 6) := ⟨_, rfl⟩
      rw [← hw]
      have ht : Turn g5 wm w6 := by rw [hw]; exact (((Turn.refl _ _).trans (Turn.cell g5 3 (.int .i64 (cn : Int)) _)).trans (Turn.cell g5 4 (.int .i64 0) _)).trans (Turn.cell g5 4 (.int .i64 6) _)
      replace H := Lib.hid (H.out.set ht (by rw [hw]; exact ((H.out.e.set3 (cn : Int)).set4 0).set4 6))
      clear hw ht
      clear y3 f3 y4 f4
      apply wp_region_lit
      refine wpl_loadE H.out.e rfl rfl rfl ?_
      refine wpl_storeE (8) (0) (0) ((cn : Int)) (6) (0) (0) none 0 0 H.out.z rfl rfl rfl rfl ?_
      intro wz q1 q2 q3 q4 q5
      have hfin := H.out.fin (Turn.ofStore q2 q3 q4)
      have HOT := Lib.hid (OT.nil wz w.heap.size)
      have HQ1 := Lib.hid q1
      have HFI := Lib.hid hfin
      clear q1 q2 q3 q4 q5 hfin
      simp only [Act.put, List.setIfInBounds_toArray, List.set_cons_succ, List.set_cons_zero]
      iterate 4 go_step
      exact bodyPost_ret (results_ed1 Try.results15 rfl HQ1.out ⟨_, _, _, rfl⟩) rfl ⟨⟨⟨8, 0, 0, (cn : Int), 6, 0, 0, []⟩, none, 0, 0, rfl, TE.clip 8 6 cn (by decide) (by omega) (by decide) (by decide), HOT.out, fun _ => ⟨rfl, rfl, rfl⟩⟩, TQ.of (k' := k + 1 + 1 + 1) (by omega) HFI.out.1 HFI.out.2⟩
    · have hd6 : (d - 5 == 0) = false := by simp; omega
      go_upto_region 15 with fail
      obtain ⟨w6, hw⟩ : ∃ q, q = (wm.setCell ⟨g5, 3, none⟩ (.int .i64 (cn : Int))).setCell ⟨g5, 4, none⟩ (.int .i64 (d - 5)) := ⟨_, rfl⟩
      rw [← hw]
      have ht : Turn g5 wm w6 := by rw [hw]; exact ((Turn.refl _ _).trans (Turn.cell g5 3 (.int .i64 (cn : Int)) _)).trans (Turn.cell g5 4 (.int .i64 (d - 5)) _)
      replace H := Lib.hid (H.out.set ht (by rw [hw]; exact (H.out.e.set3 (cn : Int)).set4 (d - 5)))
      clear hw ht
      clear y3 f3 y4 f4
      apply wp_region_lit
      refine wpl_loadE H.out.e rfl rfl rfl ?_
      refine wpl_storeE (8) (0) (0) ((cn : Int)) (d - 5) (0) (0) none 0 0 H.out.z rfl rfl rfl rfl ?_
      intro wz q1 q2 q3 q4 q5
      have hfin := H.out.fin (Turn.ofStore q2 q3 q4)
      have HOT := Lib.hid (OT.nil wz w.heap.size)
      have HQ1 := Lib.hid q1
      have HFI := Lib.hid hfin
      clear q1 q2 q3 q4 q5 hfin
      simp only [Act.put, List.setIfInBounds_toArray, List.set_cons_succ, List.set_cons_zero]
      iterate 4 go_step
      exact bodyPost_ret (results_ed1 Try.results15 rfl HQ1.out ⟨_, _, _, rfl⟩) rfl ⟨⟨⟨8, 0, 0, (cn : Int), d - 5, 0, 0, []⟩, none, 0, 0, rfl, TE.clip 8 (d - 5) cn (by decide) (by omega) (by omega) (by omega), HOT.out, fun _ => ⟨rfl, rfl, rfl⟩⟩, TQ.of (k' := k + 1 + 1 + 1) (by omega) HFI.out.1 HFI.out.2⟩
  · clear K0 K1
    have hn1 : (1 : Int) ≤ (n : Int) + 1 := by omega
    go_wp2_with fail
    refine (next_any B p (k + 1) ((n : Int) + 1) _ H.out.t (by omega) (by omega) (by omega)).mono ?_
    rintro e wn ⟨c, rfl, c0, c1, hT_, hg_⟩
    have ht := Turn.grown hg_ H.out.t.2.1
    replace H := Lib.hid (H.out.turn ht hT_)
    clear hT_ hg_ ht
    go_wp2_with fail
    refine (next_any B p (k + 1 + 1) 11 _ H.out.t (by omega) (by omega) (by omega)).mono ?_
    rintro e wm ⟨d, rfl, d0, d1, hT_, hg_⟩
    have ht := Turn.grown hg_ H.out.t.2.1
    replace H := Lib.hid (H.out.turn ht hT_)
    clear hT_ hg_ ht
    obtain ⟨cn, hcn⟩ : ∃ cn : Nat, c = (cn : Int) := ⟨c.toNat, by omega⟩
    subst hcn
    have y3 := H.out.e.k3
    have f3 := H.out.e.fz 3
    have y4 := H.out.e.k4
    have f4 := H.out.e.fz 4
    by_cases hd5 : d = 5
    · subst hd5
      go_upto_region 15 with fail
      obtain ⟨w6, hw⟩ : ∃ q, q = ((wm.setCell ⟨g5, 3, none⟩ (.int .i64 (cn : Int))).setCell ⟨g5, 4, none⟩ (.int .i64 0)).setCell ⟨g5, 4, none⟩ (.int .i64 6) := ⟨_, rfl⟩
      rw [← hw]
      have ht : Turn g5 wm w6 := by rw [hw]; exact (((Turn.refl _ _).trans (Turn.cell g5 3 (.int .i64 (cn : Int)) _)).trans (Turn.cell g5 4 (.int .i64 0) _)).trans (Turn.cell g5 4 (.int .i64 6) _)
      replace H := Lib.hid (H.out.set ht (by rw [hw]; exact ((H.out.e.set3 (cn : Int)).set4 0).set4 6))
      clear hw ht
      clear y3 f3 y4 f4
      apply wp_region_lit
      refine wpl_loadE H.out.e rfl rfl rfl ?_
      refine wpl_storeE (9) (0) (0) ((cn : Int)) (6) (0) (0) none 0 0 H.out.z rfl rfl rfl rfl ?_
      intro wz q1 q2 q3 q4 q5
      have hfin := H.out.fin (Turn.ofStore q2 q3 q4)
      have HOT := Lib.hid (OT.nil wz w.heap.size)
      have HQ1 := Lib.hid q1
      have HFI := Lib.hid hfin
      clear q1 q2 q3 q4 q5 hfin
      simp only [Act.put, List.setIfInBounds_toArray, List.set_cons_succ, List.set_cons_zero]
      iterate 4 go_step
      exact bodyPost_ret (results_ed1 Try.results15 rfl HQ1.out ⟨_, _, _, rfl⟩) rfl ⟨⟨⟨9, 0, 0, (cn : Int), 6, 0, 0, []⟩, none, 0, 0, rfl, TE.clip 9 6 cn (by decide) (by omega) (by decide) (by decide), HOT.out, fun _ => ⟨rfl, rfl, rfl⟩⟩, TQ.of (k' := k + 1 + 1 + 1) (by omega) HFI.out.1 HFI.out.2⟩
    · have hd6 : (d - 5 == 0) = false := by simp; omega
      go_upto_region 15 with fail
      obtain ⟨w6, hw⟩ : ∃ q, q = (wm.setCell ⟨g5, 3, none⟩ (.int .i64 (cn : Int))).setCell ⟨g5, 4, none⟩ (.int .i64 (d - 5)) := ⟨_, rfl⟩
      rw [← hw]
      have ht : Turn g5 wm w6 := by rw [hw]; exact ((Turn.refl _ _).trans (Turn.cell g5 3 (.int .i64 (cn : Int)) _)).trans (Turn.cell g5 4 (.int .i64 (d - 5)) _)
      replace H := Lib.hid (H.out.set ht (by rw [hw]; exact (H.out.e.set3 (cn : Int)).set4 (d - 5)))
      clear hw ht
      clear y3 f3 y4 f4
      apply wp_region_lit
      refine wpl_loadE H.out.e rfl rfl rfl ?_
      refine wpl_storeE (9) (0) (0) ((cn : Int)) (d - 5) (0) (0) none 0 0 H.out.z rfl rfl rfl rfl ?_
      intro wz q1 q2 q3 q4 q5
      have hfin := H.out.fin (Turn.ofStore q2 q3 q4)
      have HOT := Lib.hid (OT.nil wz w.heap.size)
      have HQ1 := Lib.hid q1
      have HFI := Lib.hid hfin
      clear q1 q2 q3 q4 q5 hfin
      simp only [Act.put, List.setIfInBounds_toArray, List.set_cons_succ, List.set_cons_zero]
      iterate 4 go_step
      exact bodyPost_ret (results_ed1 Try.results15 rfl HQ1.out ⟨_, _, _, rfl⟩) rfl ⟨⟨⟨9, 0, 0, (cn : Int), d - 5, 0, 0, []⟩, none, 0, 0, rfl, TE.clip 9 (d - 5) cn (by decide) (by omega) (by omega) (by omega), HOT.out, fun _ => ⟨rfl, rfl, rfl⟩⟩, TQ.of (k' := k + 1 + 1 + 1) (by omega) HFI.out.1 HFI.out.2⟩
  · clear K0 K1
    have hn1 : (1 : Int) ≤ (n : Int) + 1 := by omega
    go_wp2_with fail
    refine (next_any B p (k + 1) ((n : Int) + 1) _ H.out.t (by omega) (by omega) (by omega)).mono ?_
    rintro e wn ⟨c, rfl, c0, c1, hT_, hg_⟩
    have ht := Turn.grown hg_ H.out.t.2.1
    replace H := Lib.hid (H.out.turn ht hT_)
    clear hT_ hg_ ht
    go_wp2_with fail
    refine (speed_any B p (k + 1 + 1) _ H.out.t (by omega)).mono ?_
    rintro e wm ⟨⟨sn, sd, rfl, hsp⟩, ⟨k3, hk3, hT_⟩, ht⟩
    replace H := Lib.hid (H.out.turn ht hT_)
    have HSP := Lib.hid hsp
    have HK3 := Lib.hid hk3
    clear hsp hT_ ht hk3
    obtain ⟨cn, hcn⟩ : ∃ cn : Nat, c = (cn : Int) := ⟨c.toNat, by omega⟩
    subst hcn
    have y3 := H.out.e.k3
    have f3 := H.out.e.fz 3
    have y5 := H.out.e.k5
    have f5 := H.out.e.fz 5
    have y6 := H.out.e.k6
    have f6 := H.out.e.fz 6
    go_upto_region 15 with fail
    obtain ⟨w6, hw⟩ : ∃ q, q = ((wm.setCell ⟨g5, 3, none⟩ (.int .i64 (cn : Int))).setCell ⟨g5, 5, none⟩ (.int .i64 sn)).setCell ⟨g5, 6, none⟩ (.int .i64 sd) := ⟨_, rfl⟩
    rw [← hw]
    have ht : Turn g5 wm w6 := by rw [hw]; exact (((Turn.refl _ _).trans (Turn.cell g5 3 (.int .i64 (cn : Int)) _)).trans (Turn.cell g5 5 (.int .i64 sn) _)).trans (Turn.cell g5 6 (.int .i64 sd) _)
    replace H := Lib.hid (H.out.set ht (by rw [hw]; exact (H.out.e.set3 (cn : Int)).set56 sn sd))
    clear hw ht
    clear y3 f3 y5 f5 y6 f6
    apply wp_region_lit
    refine wpl_loadE H.out.e rfl rfl rfl ?_
    refine wpl_storeE (10) (0) (0) ((cn : Int)) (0) (sn) (sd) none 0 0 H.out.z rfl rfl rfl rfl ?_
    intro wz q1 q2 q3 q4 q5
    have hfin := H.out.fin (Turn.ofStore q2 q3 q4)
    have HOT := Lib.hid (OT.nil wz w.heap.size)
    have HQ1 := Lib.hid q1
    have HFI := Lib.hid hfin
    clear q1 q2 q3 q4 q5 hfin
    simp only [Act.put, List.setIfInBounds_toArray, List.set_cons_succ, List.set_cons_zero]
    iterate 4 go_step
    exact bodyPost_ret (results_ed1 Try.results15 rfl HQ1.out ⟨_, _, _, rfl⟩) rfl ⟨⟨⟨10, 0, 0, (cn : Int), 0, sn, sd, []⟩, none, 0, 0, rfl, TE.speed sn sd cn (by omega) HSP.out, HOT.out, fun _ => ⟨rfl, rfl, rfl⟩⟩, TQ.of (k' := k3) (by have := HK3.out; omega) HFI.out.1 HFI.out.2⟩
end Go.Proofs.Ytnmkcpgcdjhdjaa

/- The law of undoing. -/
namespace Go.Proofs.Ytnmkcpgcdjhdjaa
open Go.RowKit
set_option linter.unusedVariables false
set_option linter.unusedSimpArgs false
theorem te_tu {n : Nat} {k p m c d sn sd p' d' b q : Int} {ins : List Trk.Clip} {ao : Option Addr} (h : TE n ⟨k, p, m, c, d, sn, sd, ins⟩) (hn : ins = [] → ao = none) (hb : -2147483648 ≤ b ∧ b ≤ 2147483647) (hq : 0 ≤ q ∧ q ≤ 255)
    (hd : d' = d ∨ (d' = b ∧ d ≠ 0 ∧ b ≠ 0 ∧ b.tmod 3 = 0)) (hp : p' = p ∨ (p' = q ∧ (ao ≠ none ∨ 0 < m))) : TU n ⟨k, p', m, c, d', sn, sd, ins⟩ := by
  have hb2 : b.tmod 3 = 0 → -2147483647 ≤ b := fun h3 => by
    rcases Int.lt_or_le b (-2147483647) with h4 | h4
    · have : b = -2147483648 := by omega
      subst this
      exact absurd h3 (by decide)
    · exact h4
  generalize he : (⟨k, p, m, c, d, sn, sd, ins⟩ : Trk.Ed) = e at h
  cases h with
  | ins k1 a1 cl hk a0 a2 hc =>
    simp only [Trk.Ed.mk.injEq] at he
    obtain ⟨rfl, rfl, rfl, rfl, rfl, rfl, rfl, rfl⟩ := he
    have e1 : d' = 0 := by rcases hd with h | h; exact h; exact absurd rfl h.2.1
    subst e1
    exact .ins _ _ _ hk (by omega) (by omega) hc
  | rem k1 a1 m1 hk a0 a2 m2 m3 =>
    simp only [Trk.Ed.mk.injEq] at he
    obtain ⟨rfl, rfl, rfl, rfl, rfl, rfl, rfl, rfl⟩ := he
    have e1 : d' = 0 := by rcases hd with h | h; exact h; exact absurd rfl h.2.1
    subst e1
    exact .rem _ _ _ hk (by omega) (by omega) m2 m3
  | clip k1 d1 c1 hk hc d0 d2 =>
    simp only [Trk.Ed.mk.injEq] at he
    obtain ⟨rfl, rfl, rfl, rfl, rfl, rfl, rfl, rfl⟩ := he
    have e1 : p' = 0 := by
      rcases hp with h | ⟨_, h | h⟩
      · exact h
      · exact absurd (hn rfl) h
      · exact absurd h (by decide)
    subst e1
    exact .clip _ _ _ hk hc (by rcases hd with h | h; omega; omega) (by rcases hd with h | h; omega; exact ⟨by have := hb2 h.2.2.2; omega, by omega⟩)
  | speed s1 s2 c1 hc hs =>
    simp only [Trk.Ed.mk.injEq] at he
    obtain ⟨rfl, rfl, rfl, rfl, rfl, rfl, rfl, rfl⟩ := he
    have e1 : p' = 0 := by
      rcases hp with h | ⟨_, h | h⟩
      · exact h
      · exact absurd (hn rfl) h
      · exact absurd h (by decide)
    have e2 : d' = 0 := by rcases hd with h | h; exact h; exact absurd rfl h.2.1
    subst e1
    subst e2
    exact .speed _ _ _ hc hs
set_option maxRecDepth 100000 in
set_option maxHeartbeats 16000000 in
theorem law_undo (v : Value) (b q : Int) (w : World) (h : Ints w v) (hb : -2147483648 ≤ b ∧ b ≤ 2147483647) (hq : 0 ≤ q ∧ q ≤ 255) :
    Calls Try.prog 4 #[v, .int .i32 b, .int .u8 q] w fun e w' => e = .returned (.bool true) ∧ Below w.heap.size w w' := by
  have HBQ := Lib.hid (And.intro hb hq)
  clear hb hq
  have HMA := Lib.hid (made_any v w h)
  clear h
  go_enter Try.func4, Try.ntmps4
  go_wp2_with fail
  refine HMA.out.mono ?_
  rintro e w1 ⟨vt, t, p, k', rfl, ho, hmd, htp, hk', hb⟩
  have HO := Lib.hid ho
  have HM := Lib.hid hmd
  have HB := Lib.hid hb
  have HT := Lib.hid htp
  have HK := Lib.hid hk'
  have HPB := Lib.hid htp.1
  have HP1 := Lib.hid htp.2.1
  clear ho hmd htp hk' hb HMA
  obtain ⟨ta, tc, rfl, htc⟩ := HO.out.tk
  clear htc
  obtain ⟨N, hN⟩ : ∃ N, N = t.length := ⟨_, rfl⟩
  have hN2 : N ≤ 13 := by rw [hN]; exact HM.out.l
  rw [← hN] at HO ⊢
  have HN := Lib.hid hN
  clear hN
  have HTE0 := Lib.hid (tedit_any2 w.heap.size p k' N w1 HT.out (by have := HK.out; omega) (by omega))
  go_wp2_with fail
  refine HTE0.out.mono ?_
  rintro e w2 ⟨⟨⟨k, p0, m, c, d, sn, sd, ins⟩, ao, l, cp, rfl, hte, hcl, hnil⟩, ⟨k2, hk2, hT_⟩, ht⟩
  replace HO := Lib.hid (HO.out.tape HM.out.ne HT.out ht)
  replace HB := Lib.hid (ht.b _ _ HPB.out HB.out)
  have HTE := Lib.hid hte
  have HCL := Lib.hid hcl
  have HNI := Lib.hid (fun h => (hnil h).1)
  clear hte hcl hk2 hT_ ht HTE0 HT HK HPB HP1 hnil
  unfold EdV edV
  try dsimp only
  iterate 4 go_step
  have hv : ED (w2.alloc (.cells (edC 0 0 0 0 0 0 0 (.slice none 0 0)) 26)) w2.heap.size 0 0 0 0 0 0 0 (.slice none 0 0) := ED.box w2 0 0 0 0 0 0 0 (.slice none 0 0) rfl 26
  have hb0 : Below w2.heap.size w2 (w2.alloc (.cells (edC 0 0 0 0 0 0 0 (.slice none 0 0)) 26)) := below_box _ _
  refine wpl_storeE k p0 m c d sn sd ao l cp hv rfl rfl rfl rfl ?_
  intro w2' q1 q2 q3 q4 q5
  have hb : Below w2.heap.size w2 w2' := q4 _ _ (Nat.le_refl _) hb0
  have HE := Lib.hid q1
  obtain ⟨g9, hgE⟩ : ∃ g, g = w2.heap.size := ⟨_, rfl⟩
  rw [← hgE] at HE ⊢
  have HGg9 := Lib.hid (Nat.le_of_eq hgE.symm)
  clear q1 q2 q3 q4 q5 hb0 hv hgE
  have HW := Lib.hid hb
  clear hb
  simp only [Act.put, List.setIfInBounds_toArray, List.set_cons_succ, List.set_cons_zero]
  have e4 := HE.out.k4
  have hb0 := HBQ.out.1.1
  have hb1 := HBQ.out.1.2
  go_upto_region 3 with fail
  go_cut [39] from 28 (fun v39 wx => ∃ r : Bool, v39 = .bool r ∧ (r = true → d ≠ 0 ∧ b ≠ 0 ∧ b.tmod 3 = 0) ∧ wx = w2')
  case first J K' h1' h2' =>
    by_cases hd0 : d = 0
    · have h1 : (d != 0) = false := by simp [hd0]
      clear hd0
      go_wp2_with fail
      refine Met.intro (h1' _ _ ?_)
      (repeat apply Exists.intro)
      exact ⟨⟨false, rfl, fun h => absurd h (by decide), rfl⟩, rfl⟩
    have h1 : (d != 0) = true := by simp [hd0]
    by_cases hb3 : b.tmod 3 = 0
    · have h2 : (b.tmod 3 == 0) = true := by simp [hb3]
      by_cases hbz : b = 0
      · have h3 : (b != 0) = false := by simp [hbz]
        clear hb3 hbz hd0
        go_wp2_with fail
        refine Met.intro (h1' _ _ ?_)
        (repeat apply Exists.intro)
        exact ⟨⟨false, rfl, fun h => absurd h (by decide), rfl⟩, rfl⟩
      · have h3 : (b != 0) = true := by simp [hbz]
        have hr := And.intro hd0 (And.intro hbz hb3)
        have HRR := Lib.hid hr
        clear hb3 hbz hd0 hr
        go_wp2_with fail
        refine Met.intro (h1' _ _ ?_)
        (repeat apply Exists.intro)
        exact ⟨⟨true, rfl, fun _ => HRR.out, rfl⟩, rfl⟩
    · have h2 : (b.tmod 3 == 0) = false := by simp [hb3]
      clear hb3 hd0
      go_wp2_with fail
      refine Met.intro (h1' _ _ ?_)
      (repeat apply Exists.intro)
      exact ⟨⟨false, rfl, fun h => absurd h (by decide), rfl⟩, rfl⟩
  obtain ⟨r, rfl, hr, rfl⟩ := hcut
  have HR := Lib.hid hr
  clear hr
  have y4 := HE.out.k4
  have f4 := HE.out.fz 4
  iterate 1 go_step
  go_cut [41] from 40 (fun v41 wx => ∃ d', (d' = d ∨ (d' = b ∧ d ≠ 0 ∧ b ≠ 0 ∧ b.tmod 3 = 0)) ∧ ED wx g9 k p0 m c d' sn sd (.slice ao l cp) ∧ Below w2.heap.size w2 wx)
  case first J K' h1' h2' =>
    cases r with
    | false =>
      go_wp2_with fail
      refine Met.intro (h1' _ _ ?_)
      (repeat apply Exists.intro)
      exact ⟨⟨d, .inl rfl, HE.out, HW.out⟩, rfl⟩
    | true =>
      go_wp2_with fail
      refine Met.intro (h1' _ _ ?_)
      (repeat apply Exists.intro)
      exact ⟨⟨b, .inr ⟨rfl, by first | exact HR.out trivial | exact HR.out rfl⟩, HE.out.set4 b, HW.out.setCell (p := ⟨g9, 4, none⟩) HGg9.out _⟩, rfl⟩
  obtain ⟨d', hd', he', hw'⟩ := hcut
  have HD := Lib.hid hd'
  replace HE := Lib.hid he'
  replace HW := Lib.hid hw'
  clear hd' he' hw' e4 y4 f4 HR
  have y2 := HE.out.k2
  have y7 := HE.out.k7
  go_upto_region 5 with fail
  go_cut [50] from 43 (fun v50 wx => ∃ r : Bool, v50 = .bool r ∧ (r = true → ao ≠ none ∨ 0 < m) ∧ wx = wc)
  case first J K' h1' h2' =>
    cases ao with
    | some x =>
      go_wp2_with fail
      refine Met.intro (h1' _ _ ?_)
      (repeat apply Exists.intro)
      exact ⟨⟨true, rfl, fun _ => .inl (by simp), rfl⟩, rfl⟩
    | none =>
      by_cases hm0 : 0 < m
      · have hm1 : decide (m > 0) = true := decide_eq_true hm0
        go_wp2_with fail
        refine Met.intro (h1' _ _ ?_)
        (repeat apply Exists.intro)
        exact ⟨⟨true, rfl, fun _ => .inr hm0, rfl⟩, rfl⟩
      · have hm1 : decide (m > 0) = false := decide_eq_false hm0
        go_wp2_with fail
        refine Met.intro (h1' _ _ ?_)
        (repeat apply Exists.intro)
        exact ⟨⟨false, rfl, fun h => absurd h (by decide), rfl⟩, rfl⟩
  obtain ⟨r, rfl, hr, rfl⟩ := hcut
  have HR := Lib.hid hr
  clear hr y2 y7
  have y1 := HE.out.k1
  have f1 := HE.out.fz 1
  iterate 1 go_step
  go_cut [52] from 51 (fun v52 wx => ∃ p', (p' = p0 ∨ (p' = q ∧ (ao ≠ none ∨ 0 < m))) ∧ ED wx g9 k p' m c d' sn sd (.slice ao l cp) ∧ Below w2.heap.size w2 wx)
  case first J K' h1' h2' =>
    cases r with
    | false =>
      go_wp2_with fail
      refine Met.intro (h1' _ _ ?_)
      (repeat apply Exists.intro)
      exact ⟨⟨p0, .inl rfl, HE.out, HW.out⟩, rfl⟩
    | true =>
      have hq0 := HBQ.out.2.1
      have hq1 := HBQ.out.2.2
      go_wp2_with fail
      refine Met.intro (h1' _ _ ?_)
      (repeat apply Exists.intro)
      exact ⟨⟨q, .inr ⟨rfl, by first | exact HR.out trivial | exact HR.out rfl⟩, HE.out.set1 q, HW.out.setCell (p := ⟨g9, 1, none⟩) HGg9.out _⟩, rfl⟩
  obtain ⟨p', hp', he', hw'⟩ := hcut
  have HTU := Lib.hid (te_tu HTE.out HNI.out HBQ.out.1 HBQ.out.2 HD.out hp')
  replace HE := Lib.hid he'
  have hb := hw'
  clear hp' he' hw' y1 f1 HR HD HTE HNI HW HBQ HGg9 hb0 hb1
  replace HO := Lib.hid (HO.out.below hb)
  replace HCL := Lib.hid (HCL.out.below hb)
  replace HB := Lib.hid (HB.out.trans (hb.mono HB.out.size))
  clear hb
  obtain ⟨E, hE⟩ : ∃ E : Trk.Ed, E = ⟨k, p', m, c, d', sn, sd, ins⟩ := ⟨_, rfl⟩
  rw [← hE] at HTU
  have HAP := Lib.hid (fun w (h : Tk w (.slice ta N tc) t) (hu : Tk w (.slice ao l cp) ins) => apply_outU (.slice ta N tc) (.slice ao l cp) t E N w h (by rw [hE]; exact hu) HM.out HTU.out (by omega))
  have HUN := Lib.hid (fun (hc : (outOf t E).code = 0) => out_undo HM.out HTU.out hc)
  have HBA := Lib.hid (fun (hc : (outOf t E).code ≠ 0) => out_bad hc)
  obtain ⟨O, hO⟩ : ∃ O, O = outOf t E := ⟨_, rfl⟩
  rw [← hO] at HAP HUN HBA
  rw [hE] at HAP
  clear hO hE HTU
  go_upto_region 7 with fail
  apply wp_region_lit
  iterate 3 go_step
  refine wpl_loadE HE.out rfl rfl rfl ?_
  iterate 2 go_step
  refine (HAP.out _ HO.out.tk HCL.out.tk).mono ?_
  rintro e w4 ⟨vu, ra, rl, rc, rfl, hou, hor, hb⟩
  have HU := Lib.hid hou
  have HR := Lib.hid hor
  replace HO := Lib.hid (HO.out.below hb)
  replace HB := Lib.hid (HB.out.trans (hb.mono HB.out.size))
  clear hb
  clear hou hor HAP HE HCL
  unfold EdV edV
  try dsimp only
  iterate 19 go_step
  have hv : ED (w4.alloc (.cells (edC 0 0 0 0 0 0 0 (.slice none 0 0)) 26)) w4.heap.size 0 0 0 0 0 0 0 (.slice none 0 0) := ED.box w4 0 0 0 0 0 0 0 (.slice none 0 0) rfl 26
  have hb0 : Below w4.heap.size w4 (w4.alloc (.cells (edC 0 0 0 0 0 0 0 (.slice none 0 0)) 26)) := below_box _ _
  refine wpl_storeE O.b.k O.b.p O.b.m O.b.c O.b.d O.b.sn O.b.sd ra rl rc hv rfl rfl rfl rfl ?_
  intro w4' q1 q2 q3 q4 q5
  have hb : Below w4.heap.size w4 w4' := q4 _ _ (Nat.le_refl _) hb0
  have HE1 := Lib.hid q1
  obtain ⟨g11, hgE⟩ : ∃ g, g = w4.heap.size := ⟨_, rfl⟩
  rw [← hgE] at HE1 ⊢
  have HGg11 := Lib.hid (Nat.le_of_eq hgE.symm)
  clear q1 q2 q3 q4 q5 hb0 hv hgE
  replace HO := Lib.hid (HO.out.below hb)
  replace HU := Lib.hid (HU.out.below hb)
  replace HR := Lib.hid (HR.out.below hb)
  replace HB := Lib.hid (HB.out.trans (hb.mono HB.out.size))
  clear hb
  simp only [Act.put, List.setIfInBounds_toArray, List.set_cons_succ, List.set_cons_zero]
  by_cases hcd : O.code = 0
  rotate_left
  · have hu0 := HBA.out hcd
    have hbd : (O.code == 0) = false := by simp [hcd]
    have hbd2 : (O.code != 0) = true := by simp [hcd]
    obtain ⟨uo, uc, rfl, -⟩ := HU.out.tk
    rw [hu0]
    clear hcd HU HR HE1 HUN HBA
    go_wp2_with fail
    refine (awake_any _).mono ?_
    rintro e w8 ⟨rfl, hb⟩
    replace HB := Lib.hid (HB.out.trans (hb.mono HB.out.size))
    clear hb
    go_wp2_with fail
    go_ret
    exact ⟨rfl, HB.out⟩
  obtain ⟨a, e, uk, hB, hUH⟩ := HUN.out hcd
  rw [hcd]
  have HUD := Lib.hid (undo_data HM.out hUH)
  have HH := Lib.hid (And.intro hUH.v (And.intro hUH.n hUH.l))
  rw [← hB] at HUD
  clear hUH hB HBA HUN
  obtain ⟨F, hF⟩ : ∃ q, q = Trk.backOf O.u a e (Trk.undoK uk) := ⟨_, rfl⟩
  rw [← hF] at HUD
  clear hF
  obtain ⟨U, hU⟩ : ∃ q, q = O.u := ⟨_, rfl⟩
  obtain ⟨B, hBB⟩ : ∃ q, q = O.b := ⟨_, rfl⟩
  rw [← hU] at HUD HH HU
  rw [← hBB] at HUD HR HE1 ⊢
  clear hU hBB hcd
  have HAP2 := Lib.hid (fun w (h : Tk w vu U) (hu : Tk w (.slice ra rl rc) B.ins) => (show Calls Try.prog 20 #[vu, EdV B (.slice ra rl rc)] w (OutPost w ⟨0, t, F⟩) from by
    have h1 := apply_x (L := bigM) vu (.slice ra rl rc) U B w h hu HH.out.1 HUD.out.x1 bigM_le (by rw [HH.out.2.1.nf]; have := HH.out.2.2; omega) (by rw [HH.out.2.1.nf]; exact HUD.out.e1) (by rw [HH.out.2.1.nf, HUD.out.r1]; have := HM.out.l; omega)
    rw [HH.out.2.1.nf, HUD.out.r1] at h1
    refine h1.mono fun ev w' hp => ?_
    have h2 := out_of_ed hp
    rw [← HUD.out.f] at h2
    exact h2))
  have HAP3 := Lib.hid (fun v V w (h : Tk w v t) (hu : Tk w V F.ins) => (show Calls Try.prog 20 #[v, EdV F V] w (OutPost w ⟨0, U, Trk.backOf t F.p (F.p + F.T) (Trk.undoK F.k)⟩) from by
    have h1 := apply_x (L := bigM) v V t F w h hu HM.out.big HUD.out.x2 bigM_le (by rw [HM.out.n.nf]; have := HM.out.l; omega) (by rw [HM.out.n.nf]; exact HUD.out.e2) (by rw [HM.out.n.nf, HUD.out.r2]; have := HH.out.2.2; omega)
    rw [HM.out.n.nf, HUD.out.r2] at h1
    exact h1.mono fun ev w' hp => out_of_ed hp))
  obtain ⟨G, hG⟩ : ∃ q, q = Trk.backOf t F.p (F.p + F.T) (Trk.undoK F.k) := ⟨_, rfl⟩
  rw [← hG] at HAP3
  clear hG
  have HV1 := Lib.hid (fun w (h : Tk w (.slice ra rl rc) B.ins) => valid_ex (L := bigM) (.slice ra rl rc) B w h HUD.out.x1 bigM_le)
  have HV2 := Lib.hid (fun V w (h : Tk w V F.ins) => valid_ex (L := bigM) V F w h HUD.out.x2 bigM_le)
  go_upto_region 10 with fail
  apply wp_region_lit
  iterate 3 go_step
  refine wpl_loadE HE1.out rfl rfl rfl ?_
  iterate 2 go_step
  refine (HAP2.out _ HU.out.tk HR.out.tk).mono ?_
  rintro e' w5 ⟨vv, fa, fl, fc, rfl, hou, hor, hb⟩
  have HVV := Lib.hid hou
  have HF := Lib.hid hor
  replace HO := Lib.hid (HO.out.below hb)
  replace HU := Lib.hid (HU.out.below hb)
  replace HR := Lib.hid (HR.out.below hb)
  replace HE1 := Lib.hid (HE1.out.below hb)
  replace HB := Lib.hid (HB.out.trans (hb.mono HB.out.size))
  clear hb
  clear hou hor HAP2
  unfold EdV edV
  try dsimp only
  iterate 19 go_step
  have hv : ED (w5.alloc (.cells (edC 0 0 0 0 0 0 0 (.slice none 0 0)) 26)) w5.heap.size 0 0 0 0 0 0 0 (.slice none 0 0) := ED.box w5 0 0 0 0 0 0 0 (.slice none 0 0) rfl 26
  have hb0 : Below w5.heap.size w5 (w5.alloc (.cells (edC 0 0 0 0 0 0 0 (.slice none 0 0)) 26)) := below_box _ _
  refine wpl_storeE F.k F.p F.m F.c F.d F.sn F.sd fa fl fc hv rfl rfl rfl rfl ?_
  intro w5' q1 q2 q3 q4 q5
  have hb : Below w5.heap.size w5 w5' := q4 _ _ (Nat.le_refl _) hb0
  have HE2 := Lib.hid q1
  obtain ⟨g14, hgE⟩ : ∃ g, g = w5.heap.size := ⟨_, rfl⟩
  rw [← hgE] at HE2 ⊢
  have HGg14 := Lib.hid (Nat.le_of_eq hgE.symm)
  clear q1 q2 q3 q4 q5 hb0 hv hgE
  replace HO := Lib.hid (HO.out.below hb)
  replace HU := Lib.hid (HU.out.below hb)
  replace HR := Lib.hid (HR.out.below hb)
  replace HE1 := Lib.hid (HE1.out.below hb)
  replace HVV := Lib.hid (HVV.out.below hb)
  replace HF := Lib.hid (HF.out.below hb)
  replace HB := Lib.hid (HB.out.trans (hb.mono HB.out.size))
  clear hb
  simp only [Act.put, List.setIfInBounds_toArray, List.set_cons_succ, List.set_cons_zero]
  go_upto_region 11 with fail
  apply wp_region_lit
  iterate 3 go_step
  refine wpl_loadE HE2.out rfl rfl rfl ?_
  iterate 2 go_step
  refine (HAP3.out _ _ _ HVV.out.tk HF.out.tk).mono ?_
  rintro e' w6 ⟨vw, ga, gl, gc, rfl, hou, hor, hb⟩
  have HWW := Lib.hid hou
  replace HO := Lib.hid (HO.out.below hb)
  replace HU := Lib.hid (HU.out.below hb)
  replace HR := Lib.hid (HR.out.below hb)
  replace HE1 := Lib.hid (HE1.out.below hb)
  replace HE2 := Lib.hid (HE2.out.below hb)
  replace HVV := Lib.hid (HVV.out.below hb)
  replace HF := Lib.hid (HF.out.below hb)
  replace HB := Lib.hid (HB.out.trans (hb.mono HB.out.size))
  clear hb
  clear hou hor HAP3
  unfold EdV edV
  try dsimp only
  iterate 19 go_step
  have hv : ED (w6.alloc (.cells (edC 0 0 0 0 0 0 0 (.slice none 0 0)) 26)) w6.heap.size 0 0 0 0 0 0 0 (.slice none 0 0) := ED.box w6 0 0 0 0 0 0 0 (.slice none 0 0) rfl 26
  have hb0 : Below w6.heap.size w6 (w6.alloc (.cells (edC 0 0 0 0 0 0 0 (.slice none 0 0)) 26)) := below_box _ _
  refine wpl_storeE G.k G.p G.m G.c G.d G.sn G.sd ga gl gc hv rfl rfl rfl rfl ?_
  intro w6' q1 q2 q3 q4 q5
  have hb : Below w6.heap.size w6 w6' := q4 _ _ (Nat.le_refl _) hb0
  have HE3 := Lib.hid q1
  obtain ⟨g17, hgE⟩ : ∃ g, g = w6.heap.size := ⟨_, rfl⟩
  rw [← hgE] at HE3 ⊢
  have HGg17 := Lib.hid (Nat.le_of_eq hgE.symm)
  clear q1 q2 q3 q4 q5 hb0 hv hgE
  replace HO := Lib.hid (HO.out.below hb)
  replace HU := Lib.hid (HU.out.below hb)
  replace HR := Lib.hid (HR.out.below hb)
  replace HE1 := Lib.hid (HE1.out.below hb)
  replace HE2 := Lib.hid (HE2.out.below hb)
  replace HVV := Lib.hid (HVV.out.below hb)
  replace HF := Lib.hid (HF.out.below hb)
  replace HWW := Lib.hid (HWW.out.below hb)
  replace HB := Lib.hid (HB.out.trans (hb.mono HB.out.size))
  clear hb
  simp only [Act.put, List.setIfInBounds_toArray, List.set_cons_succ, List.set_cons_zero]
  clear HE3
  have HV1' := HV1
  clear HV1
  obtain ⟨bk, bp, bm, bc, bd, bsn, bsd, bi⟩ := B
  obtain ⟨fk, fp, fm, fcc, fd, fsn, fsd, fi⟩ := F
  simp only at HE1 HE2 HR HF
  obtain ⟨x0, x1, x2, x3, x4, x5, x6, x7, -⟩ := HE1.out
  obtain ⟨y0, y1, y2, y3, y4, y5, y6, y7, -⟩ := HE2.out
  go_wp2_with fail
  refine (HV1'.out _ HR.out.tk).mono ?_
  rintro e' w7 ⟨rfl, hb⟩
  replace HO := Lib.hid (HO.out.below hb)
  replace HU := Lib.hid (HU.out.below hb)
  replace HE2 := Lib.hid (HE2.out.below hb)
  replace HVV := Lib.hid (HVV.out.below hb)
  replace HF := Lib.hid (HF.out.below hb)
  replace HWW := Lib.hid (HWW.out.below hb)
  replace HB := Lib.hid (HB.out.trans (hb.mono HB.out.size))
  clear hb
  clear x0 x1 x2 x3 x4 x5 x6 x7 y0 y1 y2 y3 y4 y5 y6 y7 HE1 HR HV1'
  obtain ⟨y0, y1, y2, y3, y4, y5, y6, y7, -⟩ := HE2.out
  go_wp2_with fail
  refine (HV2.out _ _ HF.out.tk).mono ?_
  rintro e' w8 ⟨rfl, hb⟩
  replace HO := Lib.hid (HO.out.below hb)
  replace HU := Lib.hid (HU.out.below hb)
  replace HVV := Lib.hid (HVV.out.below hb)
  replace HWW := Lib.hid (HWW.out.below hb)
  replace HB := Lib.hid (HB.out.trans (hb.mono HB.out.size))
  clear hb
  clear y0 y1 y2 y3 y4 y5 y6 y7 HE2 HF HV2
  go_wp2_with fail
  refine (equal_self _ _ t _ HVV.out.tk HO.out.tk).mono ?_
  rintro e' w9 ⟨rfl, hb⟩
  replace HU := Lib.hid (HU.out.below hb)
  replace HWW := Lib.hid (HWW.out.below hb)
  replace HB := Lib.hid (HB.out.trans (hb.mono HB.out.size))
  clear hb
  go_wp2_with fail
  refine (equal_self _ _ U _ HWW.out.tk HU.out.tk).mono ?_
  rintro e' w10 ⟨rfl, hb⟩
  replace HB := Lib.hid (HB.out.trans (hb.mono HB.out.size))
  clear hb
  go_wp2_with fail
  refine (awake_any _).mono ?_
  rintro e w8 ⟨rfl, hb⟩
  replace HB := Lib.hid (HB.out.trans (hb.mono HB.out.size))
  clear hb
  go_wp2_with fail
  go_ret
  exact ⟨rfl, HB.out⟩
end Go.Proofs.Ytnmkcpgcdjhdjaa


namespace Go.Proofs.Ytnmkcpgcdjhdjaa.editsUndo
open Go.ChangeShapes Go.WideShapes Go.ChangeAt Go.RowKit
set_option linter.unusedVariables false

theorem own : ownKnob Try.prog.godebug = none := by kernel_rfl

set_option maxRecDepth 100000 in
theorem lifted (os : Os) (started : os.Started) (H : Type) (enc : TypeId × Value → H) :
    ReturnsInHanded {} Try.checked os 4 .any (Rows.editsUndoSpec.pre6 enc Try.prog Try.f4 Rows.editsUndoRow.domain false) (Rows.editsUndoSpec.post enc Try.prog Try.f4 false true false false) := by
  refine returnsInHanded_of_change (C := Try.checked) own started (by kernel_rfl) Try.func4
    (ChangeSpec.witness6 (enc := enc) (C := Try.checked) false ⟨#[], #[.slice none 0 0, .int .i32 0, .int .u8 0], []⟩ 8 (by kernel_rfl) (by kernel_rfl) (by kernel_rfl) (by kernel_rfl)) ?_
  intro W base args ds gs before hval0 hW hcnd _
  have hval : ∀ (j : Nat) t v, Try.f4.params[j]? = some t → args[j]? = some v → Value.okWide Try.prog W .any base t v := hval0
  have hW' := hW
  obtain ⟨p, q, hA0, hV, rfl, hfz, hnd⟩ := hW
  have hA : DataW.TrodAll enc Try.prog W 0 (fun _ => true) true Try.f4.params.toList args.toList ds p := hA0
  have hAk := hA
  rw [Try.params4] at hA hval
  obtain ⟨v0, vs0, d0, ds0, p0, q0, hargs, rfl, rfl, h0, r0⟩ := trodAll_cons hA
  obtain ⟨v1, vs1, d1, ds1, p1, q1, rfl, rfl, rfl, h1, r1⟩ := trodAll_cons r0
  obtain ⟨v2, vs2, d2, ds2, p2, q2, rfl, rfl, rfl, h2, r2⟩ := trodAll_cons r1
  obtain ⟨rfl, rfl, rfl⟩ := trodAll_nil r2
  obtain rfl : args = #[v0, v1, v2] := by cases args; simp_all
  obtain ⟨rfl, rfl⟩ := trodVars_none hV
  have hr0 := open_tape (hval 0 27 v0 rfl rfl) h0
  obtain ⟨a1, rfl, rfl, rfl, w1⟩ := open_int Try.underlying21 (hval 1 21 v1 rfl rfl) h1
  obtain ⟨a2, rfl, rfl, rfl, w2⟩ := open_int Try.underlying5 (hval 2 5 v2 rfl rfl) h2
  have x1 : -2147483648 ≤ a1 ∧ a1 ≤ 2147483647 := by simpa [Lit.wf, IntKind.min, IntKind.max, IntKind.signed, IntKind.bits] using w1
  have x2 : 0 ≤ a2 ∧ a2 ≤ 255 := by simpa [Lit.wf, IntKind.min, IntKind.max, IntKind.signed, IntKind.bits] using w2
  simp only [List.append_nil] at hW' hAk
  refine (law_undo v0 a1 a2 W hr0 x1 x2).mono fun e W' ⟨he, hg⟩ => ?_
  subst he
  exact ⟨_, rfl, post_of_below (pv := []) hW' (fun _ _ _ => (trodAll_cons_mk (shut_bool Try.underlying4 _) trodAll_mk0)) (fun sp hsp => trodAll_stays laid_out hg (by kernel_rfl) hAk (fun x hx => hW'.lt x (by simpa using hx)) (fun x hx => hsp x (by simpa using hx))) (fun _ _ => rfl) (by simp)
    hg (ok_one (by kernel_rfl) rfl (okWide_bool_mk Try.underlying4 _))⟩

theorem over : Rows.editsUndoRow.holds Try.pinned (OpenSpec.ofChange Rows.editsUndoSpec) :=
  OpenClaim.holds_of_wide 4 Try.f4 rfl rfl rfl rfl rfl rfl rfl ⟨rfl, rfl, rfl, rfl, rfl⟩ rfl rfl rfl rfl rfl (by kernel_rfl) Try.func4 (by kernel_rfl)
    (of_decide_eq_true (by kernel_rfl)) (by unfold Func.isWrapper; first | (rw [if_pos (by decide +kernel)]; kernel_rfl) | (rw [if_neg (by decide +kernel)]; exact ⟨rfl, rfl⟩))
    (fun os started H enc _ => lifted os started H enc)

/-- The statement. -/
theorem proved : Rows.EditsUndoSaid :=
  over
end Go.Proofs.Ytnmkcpgcdjhdjaa.editsUndo
