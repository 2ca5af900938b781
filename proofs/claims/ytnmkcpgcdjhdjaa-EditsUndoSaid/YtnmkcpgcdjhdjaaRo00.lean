/- Rows.EditsRollsSaid is proved here, for every input; the walk is law_rolls. -/
import Derived.BigQuiet
import Derived.Test.YtnmkcpgcdjhdjaaRows
import Derived.WalkKit
import Derived.ProofKit
import Derived.OpenShut
import Derived.Test.YtnmkcpgcdjhdjaaEx12
set_option linter.unusedVariables false
set_option linter.unusedSimpArgs false

/- The first frame of a clip (starts). -/
namespace Go.Proofs.Ytnmkcpgcdjhdjaa
open Go.RowKit
set_option linter.unusedVariables false
set_option linter.unusedSimpArgs false
set_option maxRecDepth 100000 in
set_option maxHeartbeats 8000000 in
theorem starts_any (v : Value) (l : List Trk.Clip) (K : Nat) (w : World) (h : Tk w v l) (hG : Trk.GoodL l) (ht : Trk.total l ≤ 4611686018427387904) (hl : l.length ≤ 1048576) (hK : K ≤ l.length) :
    Calls Try.prog 29 #[v, .int .i64 (K : Int)] w fun e w' => e = .returned (.int .i64 (Trk.total (l.take K))) ∧ Below w.heap.size w w' := by
  obtain ⟨ao, cap, rfl, hc1, hc2, hT⟩ := h
  have HT := Lib.hid (show Tk w (.slice ao l.length cap) l from ⟨ao, cap, rfl, hc1, hc2, hT⟩)
  clear hT
  have HG := Lib.hid hG
  have HTT := Lib.hid ht
  obtain ⟨L, hL⟩ : ∃ L, L = l.length := ⟨_, rfl⟩
  rw [← hL] at hl hc1 hK
  have HLe := Lib.hid hL
  rw [← hL]
  clear hG ht hL hc2
  go_enter Try.func29, Try.ntmps29
  go_wp2_with fail
  go_loopw [5, 6] (fun v5 v6 wr => ∃ k : Nat, k ≤ K ∧ v6 = .int .i64 (k : Int) ∧ v5 = .int .i64 (Trk.total (l.take k)) ∧ Below w.heap.size w wr) (fun _ i _ => K - (intOf i).toNat)
  case atStart => exact ⟨0, Nat.zero_le _, rfl, rfl, Below.refl _ _⟩
  case round =>
    obtain ⟨k, hk, rfl, rfl, hb⟩ := hrel
    by_cases hlt : k < K
    · have hlt' : (k : Int) < (K : Int) := by omega
      have hltL : (k : Int) < (L : Int) := by omega
      have hkl : k < l.length := by rw [← HLe.out]; omega
      obtain ⟨c, hc⟩ : ∃ c, l[k]? = some c := ⟨_, List.getElem?_eq_getElem hkl⟩
      obtain ⟨ao', cap', e, _, _, hT⟩ := HT.out.below hb
      simp only [Value.slice.injEq, true_and] at e
      obtain ⟨rfl, rfl⟩ := e
      obtain ⟨b, o, rfl, hA⟩ := hT k c hc
      clear hT
      have x0 := hA.k0
      have hn : Trk.total (l.take (k + 1)) = Trk.total (l.take k) + c.len := by
        rw [List.take_add_one, hc]
        show Trk.total (l.take k ++ [c]) = _
        rw [Trk.total_append]
        show _ + (c.len + 0) = _
        omega
      have h1 := total_take l HG.out (k + 1)
      have h2 := Trk.total_nonneg (l := l.take k) (fun x hx => HG.out x (List.mem_of_mem_take hx))
      have h3 := (HG.out c (List.mem_of_getElem? hc)).l
      have h4 := HTT.out
      obtain ⟨s, hs⟩ : ∃ s, s = Trk.total (l.take k) := ⟨_, rfl⟩
      rw [← hs] at hn h2 ⊢
      have h5 : s + c.len ≤ 4611686018427387904 := by omega
      have HN := Lib.hid hn
      have HB := Lib.hid hb
      have HC := Lib.hid hc
      clear hA hb hc hkl hn h1 h4 hs
      go_wp2_with fail
      go_roundw
      case rel => exact ⟨k + 1, by omega, by simp, by rw [HN.out], HB.out⟩
      case measure =>
        show K - (intOf (.int .i64 ((k : Int) + 1))).toNat < K - (intOf (.int .i64 (k : Int))).toNat
        simp [intOf]
        omega
    · have hkl : k = K := by omega
      subst hkl
      have HB := Lib.hid hb
      clear hb
      go_wp2_with fail
      go_ret
      exact ⟨rfl, HB.out⟩
end Go.Proofs.Ytnmkcpgcdjhdjaa

/- What an edit that names a clip makes of a made track. -/
namespace Go.Proofs.Ytnmkcpgcdjhdjaa
open Go.RowKit
set_option linter.unusedVariables false
set_option linter.unusedSimpArgs false
/-- The bound of the positions after such an edit. -/
def bigM : Int := 1000000 + 2147483648 * 18018 + 2147483648 * 18018 + 2147483647 * 18018
theorem bigM_le : bigM ≤ 140737488355328 := by unfold bigM; decide
structure AdjOf (t u : List Trk.Clip) (a b uk : Int) : Prop where
  v : VT bigM u
  u : Trk.UndoOf t u a b uk
  b : uk ≠ 2 → b ≤ Trk.total t
theorem nf_undo {n l : List Trk.Clip} {a b uk : Int} (gl : Trk.GoodL l) (h : Trk.UndoOf n l a b uk) : Trk.UndoOf n (Trk.nf l) a b uk :=
  ⟨fun i i0 ia => by rw [Trk.nf_fr gl i0]; exact h.lo i i0 ia, fun e i ib => by rw [Trk.nf_fr gl (by have := h.a0; have := h.ab; omega)]; exact h.two e i ib,
    fun e i ib => by rw [Trk.nf_fr gl (by have := h.a0; omega)]; exact h.one e i ib, fun e i ib => by rw [Trk.nf_fr gl (by have := h.a0; have := h.ab; omega)]; exact h.three e i ib, h.k, h.a0, h.ab⟩
theorem adj_of {t : List Trk.Clip} (h : Made t) {k : Int} {c : Nat} {d sn sd : Int} (hk : 5 ≤ k ∧ k ≤ 10) (hd : k ≤ 9 → d ≠ 0) (hd2 : d.natAbs ≤ 2147483647) (hs : k = 10 → Trk.SpeedOK sn sd) (h0 : Trk.adjCode t k c d sn sd = 0) :
    AdjOf t (Trk.nf (Trk.adjL t k c d sn sd)) (Trk.fromL t k c d) (Trk.toL t k c d) (Trk.undK k d) ∧ c < t.length ∧ (k = 9 → 0 < c) ∧ (k = 7 ∨ k = 9 → c + 1 < t.length) ∧ Trk.VL bigM (Trk.adjL t k c d sn sd) ∧ Trk.total (Trk.adjL t k c d sn sd) ≤ 2147483647 := by
  have ha := adj_ok h.vt (by omega) hs hk h0
  obtain ⟨a1, a2, a3⟩ := ha
  have a1' : Trk.VL bigM (Trk.adjL t k c d sn sd) := a1
  clear a1
  simp only [Trk.missingL, Bool.or_eq_false_iff, Bool.and_eq_false_iff, decide_eq_false_iff_not, Bool.or_eq_true, decide_eq_true_eq] at a3
  have hc : c < t.length := by omega
  have h9 : k = 9 → 0 < c := by omega
  have h7 : k = 7 ∨ k = 9 → c + 1 < t.length := by omega
  have hu := Trk.adj_undo h.v.good hk hc h9 h7 hd a1'.good
  have hl : (Trk.adjL t k c d sn sd).length = t.length := Trk.adjL_length _ _ _ _ _ _
  have hln := Nat.le_trans (Trk.nf_length a1'.good) (Nat.le_of_eq hl)
  have := h.l
  exact ⟨⟨⟨Trk.nf_vl a1' (by omega), by omega, Int.le_trans (Trk.nf_total a1'.good) a2⟩, nf_undo a1'.good hu.1, hu.2⟩, hc, h9, h7, a1', a2⟩
end Go.Proofs.Ytnmkcpgcdjhdjaa

/- When an edit that names one clip of a made track is refused. -/
namespace Go.Proofs.Ytnmkcpgcdjhdjaa
open Go.RowKit
set_option linter.unusedVariables false
set_option linter.unusedSimpArgs false
theorem code_one {P Q : List Trk.Clip} {x : Trk.Clip} (h : Made (P ++ x :: Q)) {k d : Int} {f : Trk.Clip → Trk.Clip} (hk : k = 5 ∨ k = 6) (he : Trk.adjL (P ++ x :: Q) k P.length d 0 0 = P ++ f x :: Q) (hf : (f x).len ≤ x.len + 100) :
    Trk.adjCode (P ++ x :: Q) k P.length d 0 0 = if Trk.okLen (f x) then 0 else 2 := by
  have hT := h.tt
  have hV := h.v
  have hm : Trk.missingL (P ++ x :: Q) k P.length = false := by
    have e1 : decide ((P ++ x :: Q).length ≤ P.length) = false := by simp
    have e2 : decide (k = 9) = false := by simp; omega
    have e3 : decide (k = 7) = false := by simp; omega
    unfold Trk.missingL
    rw [e1, e2, e3]
    rfl
  unfold Trk.adjCode
  rw [hm, he, if_neg (by decide), if_neg (by omega), Trk.total_split]
  rw [Trk.total_split] at hT
  by_cases ho : Trk.okLen (f x)
  · rw [if_neg, if_pos ho]
    intro hc
    rcases hc with hc | hc
    · omega
    · refine hc fun y hy => ?_
      rcases List.mem_append.1 hy with hy | hy
      · exact (hV y (List.mem_append_left _ hy)).l
      · rcases List.mem_cons.1 hy with rfl | hy
        · exact ho
        · exact (hV y (by simp [hy])).l
  · rw [if_pos, if_neg ho]
    exact .inr fun hc => ho (hc _ (by simp))
theorem code5 {t : List Trk.Clip} (h : Made t) {c : Nat} {x : Trk.Clip} (hx : t[c]? = some x) {d : Int} (hd : d ≤ 100) : Trk.adjCode t 5 c d 0 0 = if Trk.okLen (Trk.lenBy d x) then 0 else 2 := by
  obtain ⟨P, Q, rfl, rfl⟩ := Trk.split_at hx
  refine code_one h (.inl rfl) ?_ (by rw [Trk.lenBy_len]; omega)
  simp only [Trk.adjL]
  rw [if_pos trivial, Trk.upd_at]
theorem code6 {t : List Trk.Clip} (h : Made t) {c : Nat} {x : Trk.Clip} (hx : t[c]? = some x) {d : Int} (hd : -100 ≤ d) : Trk.adjCode t 6 c d 0 0 = if Trk.okLen (Trk.later d x) then 0 else 2 := by
  obtain ⟨P, Q, rfl, rfl⟩ := Trk.split_at hx
  refine code_one h (.inr rfl) ?_ (by rw [Trk.later_len]; omega)
  simp only [Trk.adjL]
  rw [if_neg (by decide), if_pos trivial, Trk.upd_at]
theorem len_of_made {t : List Trk.Clip} (h : Made t) {c : Nat} {x : Trk.Clip} (hx : t[c]? = some x) : 1 ≤ x.len ∧ x.len ≤ 117 ∧ 0 ≤ Trk.total (t.take c) ∧ Trk.total (t.take c) + x.len ≤ Trk.total t ∧ Trk.total (t.take (c + 1)) = Trk.total (t.take c) + x.len := by
  have hT := h.tt
  have hl := (h.v x (List.mem_of_getElem? hx)).l.1
  obtain ⟨P, Q, rfl, rfl⟩ := Trk.split_at hx
  obtain ⟨gP, gx, gQ⟩ := Trk.good_mid h.v.good
  have a := Trk.total_nonneg gP
  have b := Trk.total_nonneg gQ
  have e1 : Trk.total ((P ++ x :: Q).take P.length) = Trk.total P := Trk.take_total _ _
  have e2 : Trk.total ((P ++ x :: Q).take (P.length + 1)) = Trk.total P + x.len := Trk.end_of P Q x
  rw [Trk.total_split] at hT ⊢
  rw [e1, e2]
  omega
theorem ok5 {L : Int} {x : Trk.Clip} (h : Trk.VC L x) {d : Int} (hl : x.len + d ≤ 2147483647) : Trk.okLen (Trk.lenBy d x) ↔ ¬ (x.len + d < 1 ∨ ((x.kind = 2 ∨ x.kind = 3) ∧ x.total < x.off + x.len + d)) := by
  have hs : Trk.shares x.kind = true ↔ x.kind = 2 ∨ x.kind = 3 := by simp [Trk.shares]
  obtain ⟨h1, h2, h3⟩ := h.l
  show (1 ≤ x.len + d ∧ x.len + d ≤ _ ∧ (Trk.shares x.kind = true → 0 ≤ x.off ∧ x.len + d ≤ x.total ∧ x.total ≤ _ ∧ x.off ≤ x.total - (x.len + d))) ↔ _
  rw [hs] at h3 ⊢
  by_cases hk : x.kind = 2 ∨ x.kind = 3
  · have := h3 hk
    simp only [hk, true_and, true_imp_iff]
    omega
  · simp only [hk, false_and, or_false, false_imp_iff, and_true]
    omega
theorem ok6 {L : Int} {x : Trk.Clip} (h : Trk.VC L x) {d : Int} (hl : x.len - d ≤ 2147483647) : Trk.okLen (Trk.later d x) ↔ ¬ (x.len ≤ d ∨ ((x.kind = 2 ∨ x.kind = 3) ∧ x.off + d < 0)) := by
  have hs : Trk.shares x.kind = true ↔ x.kind = 2 ∨ x.kind = 3 := by simp [Trk.shares]
  obtain ⟨h1, h2, h3⟩ := h.l
  have e : (Trk.later d x).off = if Trk.shares x.kind = true then x.off + d else x.off := rfl
  have e2 : (Trk.later d x).total = x.total := rfl
  have e3 : (Trk.later d x).kind = x.kind := rfl
  unfold Trk.okLen
  rw [Trk.later_len, e, e2, e3]
  simp only [hs] at h3 ⊢
  by_cases hk : x.kind = 2 ∨ x.kind = 3
  · have := h3 hk
    simp only [hk, true_and, true_imp_iff, if_true]
    omega
  · simp only [hk, false_and, or_false, false_imp_iff, and_true]
    omega
end Go.Proofs.Ytnmkcpgcdjhdjaa

/- Aid for the laws of edits that name a clip: the answers of Apply, and what is known of the frames. -/
namespace Go.Proofs.Ytnmkcpgcdjhdjaa
open Go.RowKit
set_option linter.unusedVariables false
set_option linter.unusedSimpArgs false
theorem wrap_in (n : Int) (h : -9223372036854775808 ≤ n ∧ n ≤ 9223372036854775807) : wrap64 n = n := by unfold wrap64; omega
/-- What is known of the track and the code that Apply answers at an edit that names a clip of a made track. -/
def CR (w : World) (B : Nat) (t : List Trk.Clip) (k : Int) (c : Nat) (d : Int) (vu : Value) (code : Int) : Prop :=
  (code = 0 ∧ d ≠ 0 ∧ Trk.adjCode t k c d 0 0 = 0 ∧ OT w B vu (Trk.nf (Trk.adjL t k c d 0 0)) ∧ AdjOf t (Trk.nf (Trk.adjL t k c d 0 0)) (Trk.fromL t k c d) (Trk.toL t k c d) (Trk.undK k d)) ∨
  (code ≠ 0 ∧ -1000 ≤ code ∧ code ≤ 1000 ∧ (d = 0 ∨ Trk.adjCode t k c d 0 0 ≠ 0) ∧ vu = .slice none 0 0)
theorem CR.below {w w' : World} {B : Nat} {t : List Trk.Clip} {k : Int} {c : Nat} {d : Int} {vu : Value} {code : Int} (h : CR w B t k c d vu code) (hb : Below w.heap.size w w') : CR w' B t k c d vu code := by
  rcases h with ⟨r1, r2, r3, r4, r5⟩ | h
  · exact .inl ⟨r1, r2, r3, r4.below hb, r5⟩
  · exact .inr h
theorem CR.good {w : World} {B : Nat} {t : List Trk.Clip} {k : Int} {c : Nat} {d : Int} {vu : Value} {code : Int} (h : CR w B t k c d vu code) (hg : d ≠ 0 ∧ Trk.adjCode t k c d 0 0 = 0) : code = 0 ∧ OT w B vu (Trk.nf (Trk.adjL t k c d 0 0)) := by
  rcases h with ⟨r1, r2, r3, r4, r5⟩ | ⟨_, _, _, h, _⟩
  · exact ⟨r1, r4⟩
  · rcases h with h | h
    · exact absurd h hg.1
    · exact absurd hg.2 h
theorem CR.bad {w : World} {B : Nat} {t : List Trk.Clip} {k : Int} {c : Nat} {d : Int} {vu : Value} {code : Int} (h : CR w B t k c d vu code) (hg : d = 0 ∨ Trk.adjCode t k c d 0 0 ≠ 0) : code ≠ 0 := by
  rcases h with ⟨r1, r2, r3, r4, r5⟩ | h
  · rcases hg with hg | hg
    · exact absurd hg r2
    · exact absurd r3 hg
  · exact h.1
theorem CR.bd {w : World} {B : Nat} {t : List Trk.Clip} {k : Int} {c : Nat} {d : Int} {vu : Value} {code : Int} (h : CR w B t k c d vu code) : -1000 ≤ code ∧ code ≤ 1000 := by
  rcases h with ⟨r1, _⟩ | ⟨_, h1, h2, _⟩
  · omega
  · exact ⟨h1, h2⟩
/-- What Apply answers at an edit that names a clip of a made track. -/
def ClipRes (w : World) (t : List Trk.Clip) (k : Int) (c : Nat) (d : Int) (e : Ending) (w' : World) : Prop :=
  ∃ vu x1 x2 x3 ra rl rc code, e = .returned (.tuple #[vu, .agg (edC x1 x2 x3 0 0 0 0 (.slice ra rl rc)), .int .i64 code]) ∧ Below w.heap.size w w' ∧ CR w' w.heap.size t k c d vu code
theorem VT.mono {L M : Int} {l : List Trk.Clip} (h : VT L l) (hl : L ≤ M) : VT M l := ⟨h.v.mono hl, h.n, h.t⟩
theorem Made.big {t : List Trk.Clip} (h : Made t) : VT bigM t := h.vt.mono (by unfold bigM; decide)
theorem starts_next (v : Value) (l : List Trk.Clip) (K : Nat) (w : World) (h : Tk w v l) (hM : Made l) (hK : K + 1 ≤ l.length) :
    Calls Try.prog 29 #[v, .int .i64 ((K : Int) + 1)] w fun e w' => e = .returned (.int .i64 (Trk.total (l.take (K + 1)))) ∧ Below w.heap.size w w' :=
  starts_any v l (K + 1) w h hM.v.good (by have := hM.tt; omega) (by have := hM.l; omega) hK
theorem starts_at (v : Value) (l : List Trk.Clip) (K : Nat) (w : World) (h : Tk w v l) (hM : Made l) (hK : K ≤ l.length) :
    Calls Try.prog 29 #[v, .int .i64 (K : Int)] w fun e w' => e = .returned (.int .i64 (Trk.total (l.take K))) ∧ Below w.heap.size w w' :=
  starts_any v l K w h hM.v.good (by have := hM.tt; omega) (by have := hM.l; omega) hK
theorem apply_made (v : Value) (t : List Trk.Clip) (k : Int) (c : Nat) (d : Int) (w : World) (h : Tk w v t) (hM : Made t) (hk : 5 ≤ k ∧ k ≤ 9) (hc : c ≤ 1048576) (hd : -1000 ≤ d ∧ d ≤ 1000) :
    Calls Try.prog 20 #[v, edV k 0 0 (c : Int) d 0 0 (.slice none 0 0)] w (ClipRes w t k c d) := by
  have h1 := apply_c (L := 1000000) v t k c d 0 none w h hM.vt (by decide) (by rw [hM.nf]; have := hM.l; omega) hk hc (by decide) (by omega)
  rw [hM.nf] at h1
  refine h1.mono ?_
  rintro e w' (⟨ho, h0, v', vr, rfl, hou, hor, hb⟩ | ⟨ho, rfl, hb⟩)
  · have ho2 := of_decide_eq_true ho
    obtain ⟨ra, rc, rfl, -⟩ := hor.tk
    exact ⟨_, _, _, _, _, _, _, _, rfl, hb, .inl ⟨rfl, ho2.1, h0, hou, (adj_of hM (by omega) (fun _ => ho2.1) (by omega) (fun h => by omega) h0).1⟩⟩
  · have hcb := code_bd t k c d 0 0
    refine ⟨_, _, _, _, _, _, _, _, rfl, hb, .inr ⟨?_, ?_, ?_, ?_, rfl⟩⟩
    · split
      · rename_i h2
        rcases ho with ho | ho
        · rw [h2] at ho; cases ho
        · exact ho
      · decide
    · split
      · exact hcb.1
      · decide
    · split
      · exact hcb.2
      · decide
    · rcases ho with ho | ho
      · have := of_decide_eq_false ho
        exact .inl (by omega)
      · exact .inr ho
theorem index_of (a : Int) (N : Nat) (h1 : 1 ≤ N) (h2 : N ≤ 1000) : ∃ c : Nat, (wrap64 (a.tmod (N : Int) + (N : Int))).tmod (N : Int) = (c : Int) ∧ c < N := by
  have b := Int.tmod_lt_of_pos a (show (0 : Int) < (N : Int) by omega)
  have b2 := Int.lt_tmod_of_pos a (show (0 : Int) < (N : Int) by omega)
  obtain ⟨r, hr⟩ : ∃ r, r = a.tmod (N : Int) := ⟨_, rfl⟩
  rw [← hr] at b b2 ⊢
  rw [wrap_in _ (by omega)]
  obtain ⟨q, hq⟩ : ∃ q : Nat, r + (N : Int) = (q : Int) := ⟨(r + N).toNat, by omega⟩
  rw [hq]
  exact ⟨q % N, (Int.ofNat_tmod q N).symm, Nat.mod_lt _ (by omega)⟩
theorem tmod12 (m : Int) : -11 ≤ m.tmod 12 ∧ m.tmod 12 ≤ 11 := by
  have b := Int.tmod_lt_of_pos m (show (0 : Int) < 12 by decide)
  have b2 := Int.lt_tmod_of_pos m (show (0 : Int) < 12 by decide)
  omega
theorem beg_ge {t : List Trk.Clip} (h : Trk.GoodL t) (c : Nat) : 0 ≤ Trk.total (t.take c) := Trk.total_nonneg (fun x hx => h x (List.mem_of_mem_take hx))
/-- A ripple of a made track. -/
structure RipOf (t u : List Trk.Clip) (s e d n : Int) (y : Trk.Clip) : Prop where
  v : VT bigM u
  lo : ∀ i, 0 ≤ i → i < e + min 0 d → Trk.fr u (0 + i) = Trk.fr t (0 + i)
  hi : ∀ i, 0 ≤ i → Trk.fr u (e + d + i) = Trk.fr t (e + i)
  own : ∀ i, 0 ≤ i → i < n → Trk.fr u (s + i) = Trk.fr [y] (0 + i)
  y : VT bigM [y]
theorem rip_of {t : List Trk.Clip} (h : Made t) {c : Nat} {x : Trk.Clip} {d : Int} (hx : t[c]? = some x) (hd : d ≠ 0) (hd2 : -100 ≤ d ∧ d ≤ 100) (h0 : Trk.adjCode t 5 c d 0 0 = 0) :
    RipOf t (Trk.nf (Trk.adjL t 5 c d 0 0)) (Trk.total (t.take c)) (Trk.total (t.take (c + 1))) d (x.len + d) (Trk.lenBy d x) := by
  obtain ⟨ha, -, -, -, hV, hT⟩ := adj_of h (k := 5) (by decide) (fun _ => hd) (by omega) (fun h => by omega) h0
  have hl := len_of_made h hx
  have hg := h.v.good
  have hf : Trk.fromL t 5 c d = min (Trk.total (t.take (c + 1))) (Trk.total (t.take (c + 1)) + d) := by simp [Trk.fromL, Trk.endL]
  have ht : Trk.toL t 5 c d = max (Trk.total (t.take (c + 1))) (Trk.total (t.take (c + 1)) + d) := by simp [Trk.toL, Trk.endL]
  rw [hf, ht] at ha
  obtain ⟨v, u, b⟩ := ha
  have h2 := beg_ge hg c
  refine ⟨v, fun i i0 i1 => u.lo (0 + i) (by omega) (by omega), fun i i0 => ?_, fun i i0 i1 => ?_, ?_⟩
  · have a0 := u.a0
    by_cases d0 : 0 < d
    · rw [u.two (by simp [Trk.undK, d0]) _ (by omega)]; congr 1; omega
    · rw [u.one (by simp [Trk.undK, d0]) _ (by omega)]; congr 1; omega
  · rw [Trk.nf_fr hV.good (by omega)]
    obtain ⟨P, Q, rfl, rfl⟩ := Trk.split_at hx
    have e1 : Trk.adjL (P ++ x :: Q) 5 P.length d 0 0 = P ++ Trk.lenBy d x :: Q := by
      simp only [Trk.adjL]
      rw [if_pos trivial, Trk.upd_at]
    obtain ⟨gP, gx, gQ⟩ := Trk.good_mid hg
    rw [e1, Trk.take_total, Trk.fr_append_ge _ gP (by omega), Trk.fr_lt (by rw [Trk.lenBy_len]; omega), Trk.fr_lt (by rw [Trk.lenBy_len]; omega)]
    congr 1; omega
  · have hm : Trk.lenBy d x ∈ Trk.adjL t 5 c d 0 0 := by
      obtain ⟨P, Q, rfl, rfl⟩ := Trk.split_at hx
      simp only [Trk.adjL]
      rw [if_pos trivial, Trk.upd_at]
      simp
    have hy := hV _ hm
    have hy2 := hy.l.2.1
    exact ⟨Trk.VL.cons hy Trk.VL.nil, by simp, by rw [Trk.total_one]; omega⟩
/-- A change of a clip's beginning. -/
structure HeadOf (t u : List Trk.Clip) (s d : Int) : Prop where
  v : VT bigM u
  lo : ∀ i, 0 ≤ i → i < s → Trk.fr u (0 + i) = Trk.fr t (0 + i)
  hi : ∀ i, 0 ≤ i → Trk.fr u (s + max 0 (-d) + i) = Trk.fr t (s + max 0 d + i)
theorem head_of {t : List Trk.Clip} (h : Made t) {c : Nat} {x : Trk.Clip} {d : Int} (hx : t[c]? = some x) (hd : d ≠ 0) (hd2 : -100 ≤ d ∧ d ≤ 100) (h0 : Trk.adjCode t 6 c d 0 0 = 0) :
    HeadOf t (Trk.nf (Trk.adjL t 6 c d 0 0)) (Trk.total (t.take c)) d := by
  obtain ⟨ha, -, -, -, hV, hT⟩ := adj_of h (k := 6) (by decide) (fun _ => hd) (by omega) (fun h => by omega) h0
  have hl := len_of_made h hx
  have hf : Trk.fromL t 6 c d = Trk.total (t.take c) := by simp [Trk.fromL, Trk.begL]
  have ht : Trk.toL t 6 c d = Trk.total (t.take c) + max d (-d) := by simp [Trk.toL, Trk.begL]
  rw [hf, ht] at ha
  obtain ⟨v, u, b⟩ := ha
  refine ⟨v, fun i i0 i1 => u.lo (0 + i) (by omega) (by omega), fun i i0 => ?_⟩
  by_cases d0 : d < 0
  · rw [u.two (by simp [Trk.undK, d0]) _ (by omega)]; congr 1; omega
  · rw [u.one (by simp [Trk.undK, d0]) _ (by omega)]; congr 1; omega
/-- A roll. -/
structure RollOf (t u : List Trk.Clip) (b d n m : Int) : Prop where
  v : VT bigM u
  lo : ∀ i, 0 ≤ i → i < min b (b + d) → Trk.fr u (0 + i) = Trk.fr t (0 + i)
  hi : ∀ i, 0 ≤ i → Trk.fr u (max b (b + d) + i) = Trk.fr t (max b (b + d) + i)
  n : 1 ≤ n + d
  m : 1 ≤ m - d
theorem roll_of {t : List Trk.Clip} (h : Made t) {c : Nat} {x y : Trk.Clip} {d : Int} (hx : t[c]? = some x) (hy : t[c + 1]? = some y) (hd : d ≠ 0) (hd2 : -100 ≤ d ∧ d ≤ 100) (h0 : Trk.adjCode t 7 c d 0 0 = 0) :
    RollOf t (Trk.nf (Trk.adjL t 7 c d 0 0)) (Trk.total (t.take (c + 1))) d x.len y.len := by
  obtain ⟨ha, -, -, -, hV, hT⟩ := adj_of h (k := 7) (by decide) (fun _ => hd) (by omega) (fun h => by omega) h0
  have hf : Trk.fromL t 7 c d = min (Trk.total (t.take (c + 1))) (Trk.total (t.take (c + 1)) + d) := by simp [Trk.fromL, Trk.endL]
  have ht : Trk.toL t 7 c d = max (Trk.total (t.take (c + 1))) (Trk.total (t.take (c + 1)) + d) := by simp [Trk.toL, Trk.endL]
  rw [hf, ht] at ha
  obtain ⟨v, u, b⟩ := ha
  obtain ⟨P, Q, rfl, rfl⟩ := Trk.split_two hx hy
  have e : Trk.adjL (P ++ x :: y :: Q) 7 P.length d 0 0 = P ++ [Trk.lenBy d x, Trk.later d y] ++ Q := by
    simp only [Trk.adjL]
    rw [if_neg (by decide), if_neg (by decide), if_pos trivial, Trk.upd_next]
  have h1 := (hV (Trk.lenBy d x) (by rw [e]; simp)).l.1
  have h2 := (hV (Trk.later d y) (by rw [e]; simp)).l.1
  rw [Trk.lenBy_len] at h1
  rw [Trk.later_len] at h2
  have a0 := u.a0
  exact ⟨v, fun i i0 i1 => u.lo (0 + i) (by omega) (by omega), fun i i0 => u.three rfl _ (by omega), h1, h2⟩
/-- A slide. -/
structure SlideOf (t u : List Trk.Clip) (s e d n : Int) : Prop where
  v : VT bigM u
  lo : ∀ i, 0 ≤ i → i < min s (s + d) → Trk.fr u (0 + i) = Trk.fr t (0 + i)
  hi : ∀ i, 0 ≤ i → Trk.fr u (max e (e + d) + i) = Trk.fr t (max e (e + d) + i)
  own : ∀ i, 0 ≤ i → i < n → Trk.fr u (s + d + i) = Trk.fr t (s + i)
  sd : 0 ≤ s + d
theorem slide_of {t : List Trk.Clip} (h : Made t) {c : Nat} {x : Trk.Clip} {d : Int} (hx : t[c]? = some x) (hc : 0 < c) (hc2 : c + 1 < t.length) (hd : d ≠ 0) (hd2 : -100 ≤ d ∧ d ≤ 100) (h0 : Trk.adjCode t 9 c d 0 0 = 0) :
    SlideOf t (Trk.nf (Trk.adjL t 9 c d 0 0)) (Trk.total (t.take c)) (Trk.total (t.take (c + 1))) d x.len := by
  obtain ⟨ha, -, -, -, hV, hT⟩ := adj_of h (k := 9) (by decide) (fun _ => hd) (by omega) (fun h => by omega) h0
  have hf : Trk.fromL t 9 c d = min (Trk.total (t.take c)) (Trk.total (t.take c) + d) := by simp [Trk.fromL, Trk.begL]
  have ht : Trk.toL t 9 c d = max (Trk.total (t.take (c + 1))) (Trk.total (t.take (c + 1)) + d) := by simp [Trk.toL, Trk.endL]
  rw [hf, ht] at ha
  obtain ⟨v, u, b⟩ := ha
  have a0 := u.a0
  have hl := len_of_made h hx
  obtain ⟨j, rfl⟩ : ∃ j, c = j + 1 := ⟨c - 1, by omega⟩
  obtain ⟨q, hq⟩ : ∃ q, t[j]? = some q := ⟨_, List.getElem?_eq_getElem (by omega)⟩
  obtain ⟨y, hy⟩ : ∃ y, t[j + 2]? = some y := ⟨_, List.getElem?_eq_getElem (by omega)⟩
  refine ⟨v, fun i i0 i1 => u.lo (0 + i) (by omega) (by omega), fun i i0 => u.three rfl _ (by omega), fun i i0 i1 => ?_, by omega⟩
  rw [Trk.nf_fr hV.good (by omega)]
  obtain ⟨P, Q, rfl, rfl⟩ := Trk.split_three hq hx hy
  have e : Trk.adjL (P ++ q :: x :: y :: Q) 9 (P.length + 1) d 0 0 = P ++ [Trk.lenBy d q, x, Trk.later d y] ++ Q := by
    simp only [Trk.adjL]
    rw [if_neg (by decide), if_neg (by decide), if_neg (by decide), if_neg (by decide), if_pos trivial, Nat.add_sub_cancel, Trk.upd_two]
  have es : Trk.total ((P ++ q :: x :: y :: Q).take (P.length + 1)) = Trk.total P + q.len := Trk.end_of P _ q
  have hg := h.v.good
  obtain ⟨gP, gq, gR⟩ := Trk.good_mid hg
  have gV := hV.good
  rw [e] at gV
  have gq' := gV (Trk.lenBy d q) (by simp)
  have lq := gq'.l
  rw [Trk.lenBy_len] at lq
  have nP := Trk.total_nonneg gP
  have lq2 := gq.l
  have lq3 : (Trk.lenBy d q).len = q.len + d := rfl
  rw [e, es, List.append_assoc, Trk.fr_append_ge _ gP (by omega), Trk.fr_append_ge (l := P) _ gP (by omega)]
  show Trk.fr (Trk.lenBy d q :: x :: Trk.later d y :: Q) _ = Trk.fr (q :: x :: y :: Q) _
  rw [Trk.fr_ge (c := Trk.lenBy d q) (by omega), Trk.fr_ge (c := q) (by omega), Trk.fr_lt (c := x) (l := Trk.later d y :: Q) (by omega), Trk.fr_lt (c := x) (l := y :: Q) (by omega), lq3]
  congr 1; omega
end Go.Proofs.Ytnmkcpgcdjhdjaa

/- Aid for the laws of rolls and slides: the clip that they name. -/
namespace Go.Proofs.Ytnmkcpgcdjhdjaa
open Go.RowKit
set_option linter.unusedVariables false
set_option linter.unusedSimpArgs false
theorem index_of1 (a : Int) (N : Nat) (h1 : 2 ≤ N) (h2 : N ≤ 1000) : ∃ c : Nat, (wrap64 (wrap64 (a.tmod ((N : Int) - 1) + (N : Int)) - 1)).tmod ((N : Int) - 1) = (c : Int) ∧ c + 1 < N := by
  have b := Int.tmod_lt_of_pos a (show (0 : Int) < (N : Int) - 1 by omega)
  have b2 := Int.lt_tmod_of_pos a (show (0 : Int) < (N : Int) - 1 by omega)
  obtain ⟨r, hr⟩ : ∃ r, r = a.tmod ((N : Int) - 1) := ⟨_, rfl⟩
  rw [← hr] at b b2 ⊢
  rw [wrap_in (r + N) (by omega), wrap_in _ (by omega)]
  obtain ⟨q, hq⟩ : ∃ q : Nat, r + (N : Int) - 1 = (q : Int) := ⟨(r + N - 1).toNat, by omega⟩
  obtain ⟨M, hM⟩ : ∃ M : Nat, (N : Int) - 1 = (M : Int) := ⟨N - 1, by omega⟩
  rw [hq, hM]
  refine ⟨q % M, (Int.ofNat_tmod q M).symm, ?_⟩
  have := Nat.mod_lt q (show 0 < M by omega)
  omega
theorem index_of2 (a : Int) (N : Nat) (h1 : 3 ≤ N) (h2 : N ≤ 1000) : ∃ c : Nat, 1 + (wrap64 (wrap64 (a.tmod ((N : Int) - 2) + (N : Int)) - 2)).tmod ((N : Int) - 2) = (c : Int) ∧ c + 1 < N ∧ 0 < c := by
  have b := Int.tmod_lt_of_pos a (show (0 : Int) < (N : Int) - 2 by omega)
  have b2 := Int.lt_tmod_of_pos a (show (0 : Int) < (N : Int) - 2 by omega)
  obtain ⟨r, hr⟩ : ∃ r, r = a.tmod ((N : Int) - 2) := ⟨_, rfl⟩
  rw [← hr] at b b2 ⊢
  rw [wrap_in (r + N) (by omega), wrap_in _ (by omega)]
  obtain ⟨q, hq⟩ : ∃ q : Nat, r + (N : Int) - 2 = (q : Int) := ⟨(r + N - 2).toNat, by omega⟩
  obtain ⟨M, hM⟩ : ∃ M : Nat, (N : Int) - 2 = (M : Int) := ⟨N - 2, by omega⟩
  rw [hq, hM, ← Int.ofNat_tmod q M]
  have := Nat.mod_lt q (show 0 < M by omega)
  exact ⟨1 + q % M, by omega, by omega, by omega⟩
theorem tmod9 (m : Int) : -8 ≤ m.tmod 9 ∧ m.tmod 9 ≤ 8 := by
  have b := Int.tmod_lt_of_pos m (show (0 : Int) < 9 by decide)
  have b2 := Int.lt_tmod_of_pos m (show (0 : Int) < 9 by decide)
  omega
end Go.Proofs.Ytnmkcpgcdjhdjaa

/- The law of the rolls. -/
namespace Go.Proofs.Ytnmkcpgcdjhdjaa
open Go.RowKit
set_option linter.unusedVariables false
set_option linter.unusedSimpArgs false
set_option maxRecDepth 100000 in
set_option maxHeartbeats 16000000 in
theorem law_rolls (v : Value) (a m : Int) (w : World) (h : Ints w v) (ha : -9223372036854775808 ≤ a ∧ a ≤ 9223372036854775807) (hm : -128 ≤ m ∧ m ≤ 127) :
    Calls Try.prog 11 #[v, .int .i64 a, .int .i8 m] w fun e w' => e = .returned (.bool true) ∧ Below w.heap.size w w' := by
  obtain ⟨ha0, ha1⟩ := ha
  obtain ⟨hm0, hm1⟩ := hm
  have HMA := Lib.hid (made_any v w h)
  clear h
  go_enter Try.func11, Try.ntmps11
  go_wp2_with fail
  refine HMA.out.mono ?_
  rintro e w1 ⟨vt, t, p, k', rfl, ho, hmd, htp, hk', hb⟩
  have HO := Lib.hid ho
  have HM := Lib.hid hmd
  have HB := Lib.hid hb
  clear ho hmd htp hk' hb HMA
  obtain ⟨ta, tc, rfl, htc⟩ := HO.out.tk
  obtain ⟨N, hN⟩ : ∃ N, N = t.length := ⟨_, rfl⟩
  have hN1 : 1 ≤ N := by
    rw [hN]
    have := HM.out.ne
    cases t with
    | nil => exact absurd rfl this
    | cons => simp
  have hN2 : N ≤ 13 := by rw [hN]; exact HM.out.l
  rw [← hN] at HO ⊢
  have HN := Lib.hid hN
  clear hN htc
  have hN0 : ¬ (N : Int) = 0 := by omega
  by_cases hN3 : N < 2
  · have hN3' : decide ((N : Int) < 2) = true := decide_eq_true (by omega)
    go_wp2_with fail
    refine (awake_any _).mono ?_
    rintro e w8 ⟨rfl, hb⟩
    replace HB := Lib.hid (HB.out.trans (hb.mono HB.out.size))
    clear hb
    go_wp2_with fail
    go_ret
    exact ⟨rfl, HB.out⟩
  have hN3' : decide ((N : Int) < 2) = false := decide_eq_false (by omega)
  by_cases hm2 : m = 0
  · subst hm2
    go_wp2_with fail
    refine (awake_any _).mono ?_
    rintro e w8 ⟨rfl, hb⟩
    replace HB := Lib.hid (HB.out.trans (hb.mono HB.out.size))
    clear hb
    go_wp2_with fail
    go_ret
    exact ⟨rfl, HB.out⟩
  have hm2' : (m == 0) = false := by simp [hm2]
  clear hm2
  go_upto_region 5 with fail
  obtain ⟨c, hc, hcN⟩ := index_of1 a N (by omega) (by omega)
  rw [hc]
  clear hc
  go_upto_region 6 with fail
  obtain ⟨d, hd⟩ : ∃ d, d = m.tmod 12 := ⟨_, rfl⟩
  have d0 := tmod12 m
  rw [← hd] at d0 ⊢
  rw [wrap_in d (by omega)]
  clear hd hm0 hm1 ha0 ha1 hm2' hN3' hN3
  have HAP := Lib.hid (fun w (h : Tk w (.slice ta N tc) t) => apply_made (.slice ta N tc) t 7 c d w h HM.out (by decide) (by omega) (by omega))
  go_wp2_with fail
  refine (HAP.out _ HO.out.tk).mono ?_
  rintro e w2 ⟨vu, x1, x2, x3, ra, rl, rc, code, rfl, hb, hres⟩
  have HR := Lib.hid hres
  replace HO := Lib.hid (HO.out.below hb)
  replace HB := Lib.hid (HB.out.trans (hb.mono HB.out.size))
  clear hb hres HAP
  try dsimp only
  iterate 19 go_step
  have hv : ED (w2.alloc (.cells (edC 0 0 0 0 0 0 0 (.slice none 0 0)) 26)) w2.heap.size 0 0 0 0 0 0 0 (.slice none 0 0) := ED.box w2 0 0 0 0 0 0 0 (.slice none 0 0) rfl 26
  have hb0 : Below w2.heap.size w2 (w2.alloc (.cells (edC 0 0 0 0 0 0 0 (.slice none 0 0)) 26)) := below_box _ _
  refine wpl_storeE x1 x2 x3 0 0 0 0 ra rl rc hv rfl rfl rfl rfl ?_
  intro w3 q1 q2 q3 q4 q5
  have hb : Below w2.heap.size w2 w3 := q4 _ _ (Nat.le_refl _) hb0
  replace HR := Lib.hid (HR.out.below hb)
  replace HO := Lib.hid (HO.out.below hb)
  replace HB := Lib.hid (HB.out.trans (hb.mono HB.out.size))
  obtain ⟨gE, hgE⟩ : ∃ g, g = w2.heap.size := ⟨_, rfl⟩
  rw [← hgE]
  clear q1 q2 q3 q4 q5 hb hb0 hv hgE
  simp only [Act.put, List.setIfInBounds_toArray, List.set_cons_succ, List.set_cons_zero]
  rcases HR.out with ⟨rfl, hd0, h0, hou, -⟩ | ⟨hne, hc1, hc2, -, rfl⟩
  rotate_left
  · have hne' : (code == 0) = false := by simp [hne]
    clear HR
    go_wp2_with fail
    refine (awake_any _).mono ?_
    rintro e w8 ⟨rfl, hb⟩
    replace HB := Lib.hid (HB.out.trans (hb.mono HB.out.size))
    clear hb
    go_wp2_with fail
    go_ret
    exact ⟨rfl, HB.out⟩
  obtain ⟨x, hx⟩ : ∃ x, t[c]? = some x := ⟨_, List.getElem?_eq_getElem (by rw [← HN.out]; omega)⟩
  obtain ⟨y, hy⟩ : ∃ y, t[c + 1]? = some y := ⟨_, List.getElem?_eq_getElem (by rw [← HN.out]; omega)⟩
  obtain ⟨ta', tc', e, _, _, hT⟩ := HO.out.tk
  simp only [Value.slice.injEq] at e
  obtain ⟨rfl, -, rfl⟩ := e
  obtain ⟨b, o, rfl, hA⟩ := hT c x hx
  obtain ⟨b', o', e, hA2⟩ := hT (c + 1) y hy
  simp only [Option.some.injEq, Addr.mk.injEq, and_true] at e
  obtain ⟨rfl, rfl⟩ := e
  clear hT
  have HRIP := Lib.hid (roll_of HM.out hx hy hd0 (by omega) h0)
  obtain ⟨U, hU⟩ : ∃ U, U = Trk.nf (Trk.adjL t 7 c d 0 0) := ⟨_, rfl⟩
  rw [← hU] at hou HRIP
  have HU := Lib.hid hou
  have HLX := Lib.hid (len_of_made HM.out hx)
  have HLM := Lib.hid (len_of_made HM.out hy)
  obtain ⟨e, he⟩ : ∃ e, e = Trk.total (t.take (c + 1)) := ⟨_, rfl⟩
  obtain ⟨T, hT⟩ : ∃ T, T = Trk.total t := ⟨_, rfl⟩
  have hln := Lib.hid (fun w (h : Tk w (.slice (some ⟨b, o, none⟩) N tc) t) => length_any (.slice (some ⟨b, o, none⟩) N tc) t w h HM.out.vt (by decide))
  have hst := Lib.hid (fun w (h : Tk w (.slice (some ⟨b, o, none⟩) N tc) t) => starts_next (.slice (some ⟨b, o, none⟩) N tc) t c w h HM.out (by rw [← HN.out]; omega))
  have hT1 := HM.out.tt
  rw [← he] at HRIP HLM HLX
  rw [← hT] at hln HLM HLX hT1
  rw [← he] at hst
  obtain ⟨l0, l1, l2, l3, l4⟩ := HLM.out
  obtain ⟨k0, k1, k2, k3, k4⟩ := HLX.out
  have hci : (c : Int) < (N : Int) := by omega
  have hci2 : (c : Int) + 1 < (N : Int) := by omega
  have HA := Lib.hid hA
  have HA2 := Lib.hid hA2
  have n1 := HRIP.out.n
  have n2 := HRIP.out.m
  clear hou hU he hT h0 HR HLM HLX l4 k4 hx hy hA hA2
  go_wp2_with fail
  refine (hst.out _ HO.out.tk).mono ?_
  rintro e' w5 ⟨rfl, hb⟩
  replace HU := Lib.hid (HU.out.below hb)
  replace HO := Lib.hid (HO.out.below hb)
  replace HA := Lib.hid (HA.out.below hb)
  replace HA2 := Lib.hid (HA2.out.below hb)
  replace HB := Lib.hid (HB.out.trans (hb.mono HB.out.size))
  clear hb
  have x0 := HA.out.k0
  have y0 := HA2.out.k0
  have g1 : decide (x.len + d ≥ 1) = true := decide_eq_true (by omega)
  have g2 : decide (y.len - d ≥ 1) = true := decide_eq_true (by omega)
  clear hd0 HA HA2
  go_wp2_with fail
  refine (lequal_any (L := bigM) vu (.slice (some ⟨b, o, none⟩) N tc) U t 0 0 (min e (e + d)) _ HU.out.tk HO.out.tk HRIP.out.v HM.out.big bigM_le (by omega) (by omega) (by omega) (by omega) (by omega) (by omega) HRIP.out.lo).mono ?_
  rintro e' w6 ⟨rfl, hb⟩
  replace HU := Lib.hid (HU.out.below hb)
  replace HO := Lib.hid (HO.out.below hb)
  replace HB := Lib.hid (HB.out.trans (hb.mono HB.out.size))
  clear hb
  go_wp2_with fail
  refine (hln.out _ HO.out.tk).mono ?_
  rintro e' w7 ⟨rfl, hb⟩
  replace HU := Lib.hid (HU.out.below hb)
  replace HO := Lib.hid (HO.out.below hb)
  replace HB := Lib.hid (HB.out.trans (hb.mono HB.out.size))
  clear hb
  go_wp2_with fail
  refine (lequal_any (L := bigM) vu (.slice (some ⟨b, o, none⟩) N tc) U t (max e (e + d)) (max e (e + d)) (T - max e (e + d) + 2) _ HU.out.tk HO.out.tk HRIP.out.v HM.out.big bigM_le (by omega) (by omega) (by omega) (by omega) (by omega) (by omega) (fun i i0 _ => HRIP.out.hi i i0)).mono ?_
  rintro e' w9 ⟨rfl, hb⟩
  replace HU := Lib.hid (HU.out.below hb)
  replace HO := Lib.hid (HO.out.below hb)
  replace HB := Lib.hid (HB.out.trans (hb.mono HB.out.size))
  clear hb
  go_wp2_with fail
  refine (awake_any _).mono ?_
  rintro e w8 ⟨rfl, hb⟩
  replace HB := Lib.hid (HB.out.trans (hb.mono HB.out.size))
  clear hb
  go_wp2_with fail
  go_ret
  exact ⟨rfl, HB.out⟩
end Go.Proofs.Ytnmkcpgcdjhdjaa


namespace Go.Proofs.Ytnmkcpgcdjhdjaa.editsRolls
open Go.ChangeShapes Go.WideShapes Go.ChangeAt Go.RowKit
set_option linter.unusedVariables false

theorem own : ownKnob Try.prog.godebug = none := by kernel_rfl

set_option maxRecDepth 100000 in
theorem lifted (os : Os) (started : os.Started) (H : Type) (enc : TypeId × Value → H) :
    ReturnsInHanded {} Try.checked os 11 .any (Rows.editsRollsSpec.pre6 enc Try.prog Try.f11 Rows.editsRollsRow.domain false) (Rows.editsRollsSpec.post enc Try.prog Try.f11 false true false false) := by
  refine returnsInHanded_of_change (C := Try.checked) own started (by kernel_rfl) Try.func11
    (ChangeSpec.witness6 (enc := enc) (C := Try.checked) false ⟨#[], #[.slice none 0 0, .int .i64 0, .int .i8 0], []⟩ 8 (by kernel_rfl) (by kernel_rfl) (by kernel_rfl) (by kernel_rfl)) ?_
  intro W base args ds gs before hval0 hW hcnd _
  have hval : ∀ (j : Nat) t v, Try.f11.params[j]? = some t → args[j]? = some v → Value.okWide Try.prog W .any base t v := hval0
  have hW' := hW
  obtain ⟨p, q, hA0, hV, rfl, hfz, hnd⟩ := hW
  have hA : DataW.TrodAll enc Try.prog W 0 (fun _ => true) true Try.f11.params.toList args.toList ds p := hA0
  have hAk := hA
  rw [Try.params11] at hA hval
  obtain ⟨v0, vs0, d0, ds0, p0, q0, hargs, rfl, rfl, h0, r0⟩ := trodAll_cons hA
  obtain ⟨v1, vs1, d1, ds1, p1, q1, rfl, rfl, rfl, h1, r1⟩ := trodAll_cons r0
  obtain ⟨v2, vs2, d2, ds2, p2, q2, rfl, rfl, rfl, h2, r2⟩ := trodAll_cons r1
  obtain ⟨rfl, rfl, rfl⟩ := trodAll_nil r2
  obtain rfl : args = #[v0, v1, v2] := by cases args; simp_all
  obtain ⟨rfl, rfl⟩ := trodVars_none hV
  have hr0 := open_tape (hval 0 27 v0 rfl rfl) h0
  obtain ⟨a1, rfl, rfl, rfl, w1⟩ := open_int Try.underlying3 (hval 1 3 v1 rfl rfl) h1
  obtain ⟨a2, rfl, rfl, rfl, w2⟩ := open_int Try.underlying58 (hval 2 58 v2 rfl rfl) h2
  have x1 : -9223372036854775808 ≤ a1 ∧ a1 ≤ 9223372036854775807 := by simpa [Lit.wf, IntKind.min, IntKind.max, IntKind.signed, IntKind.bits] using w1
  have x2 : -128 ≤ a2 ∧ a2 ≤ 127 := by simpa [Lit.wf, IntKind.min, IntKind.max, IntKind.signed, IntKind.bits] using w2
  simp only [List.append_nil] at hW' hAk
  refine (law_rolls v0 a1 a2 W hr0 x1 x2).mono fun e W' ⟨he, hg⟩ => ?_
  subst he
  exact ⟨_, rfl, post_of_below (pv := []) hW' (fun _ _ _ => (trodAll_cons_mk (shut_bool Try.underlying4 _) trodAll_mk0)) (fun sp hsp => trodAll_stays laid_out hg (by kernel_rfl) hAk (fun x hx => hW'.lt x (by simpa using hx)) (fun x hx => hsp x (by simpa using hx))) (fun _ _ => rfl) (by simp)
    hg (ok_one (by kernel_rfl) rfl (okWide_bool_mk Try.underlying4 _))⟩

theorem over : Rows.editsRollsRow.holds Try.pinned (OpenSpec.ofChange Rows.editsRollsSpec) :=
  OpenClaim.holds_of_wide 11 Try.f11 rfl rfl rfl rfl rfl rfl rfl ⟨rfl, rfl, rfl, rfl, rfl⟩ rfl rfl rfl rfl rfl (by kernel_rfl) Try.func11 (by kernel_rfl)
    (of_decide_eq_true (by kernel_rfl)) (by unfold Func.isWrapper; first | (rw [if_pos (by decide +kernel)]; kernel_rfl) | (rw [if_neg (by decide +kernel)]; exact ⟨rfl, rfl⟩))
    (fun os started H enc _ => lifted os started H enc)

/-- The statement. -/
theorem proved : Rows.EditsRollsSaid :=
  over
end Go.Proofs.Ytnmkcpgcdjhdjaa.editsRolls
