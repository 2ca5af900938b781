/- Texts of this claim joined: XF XG XH. -/
import Derived.Test.YtnnobdcbmagbaaaEv19
set_option linter.unusedVariables false
set_option linter.unusedSimpArgs false

/- The contract of denote.validFields (all operations). -/
namespace Go.Proofs.Ytnnobdcbmagbaaa
open Go.RowKit
set_option linter.unusedVariables false

set_option maxRecDepth 100000 in
set_option maxHeartbeats 8000000 in
theorem fields_2 (f : Fld) (ao : Option Addr) (c : Nat) (w : World) (hf : f.fit) (ho : f.op = 2) :
    Calls Try.prog 71 #[f.val (.slice ao f.n c)] w fun e w' => e = .returned (.bool (okFld f)) ∧ Below w.heap.size w w' := by
  obtain ⟨op, media, frame, num, den, par, text, n⟩ := f
  obtain ⟨hm, ht, hn⟩ := hf
  simp only at ho hm ht hn
  subst ho
  show Calls Try.prog 71 #[.agg #[.int .i64 2, .string media, .int .i64 frame, .int .i64 num, .int .i64 den, .int .i64 par, .string text, .slice ao n c]] w _
  go_enter Try.func71, Try.ntmps71
  go_wp2
  all_goals go_quiet (fail)
  all_goals go_wp2_with (first | (go_at_call 78; refine (share_any _ _ _ _ _ _ _ _ _).mono ?_; rintro e w1 ⟨rfl, hb⟩; have c5 : w1.cell? ⟨w.heap.size, 5, none⟩ = some (.int .i64 par) := (hb.cell (by simp)).trans (by simp [go_sem]); have c7 : w1.cell? ⟨w.heap.size, 7, none⟩ = some (.slice ao n c) := (hb.cell (by simp)).trans (by simp [go_sem])) | fail)
  all_goals go_ret
  all_goals refine ⟨ret_bool ?_, by first | exact below_drewN (below_box w _) _ | exact (below_drewN (below_box w _) _).trans (hb.mono (by simp [go_sem]))⟩
  all_goals clear hm ht hn
  all_goals (rw [Bool.eq_iff_iff]; simp [okFld, be_nil, *])
  all_goals (first | omega | trace_state)

set_option maxRecDepth 100000 in
set_option maxHeartbeats 8000000 in
theorem fields_3 (f : Fld) (ao : Option Addr) (c : Nat) (w : World) (hf : f.fit) (ho : f.op = 3) :
    Calls Try.prog 71 #[f.val (.slice ao f.n c)] w fun e w' => e = .returned (.bool (okFld f)) ∧ Below w.heap.size w w' := by
  obtain ⟨op, media, frame, num, den, par, text, n⟩ := f
  obtain ⟨hm, ht, hn⟩ := hf
  simp only at ho hm ht hn
  subst ho
  show Calls Try.prog 71 #[.agg #[.int .i64 3, .string media, .int .i64 frame, .int .i64 num, .int .i64 den, .int .i64 par, .string text, .slice ao n c]] w _
  go_enter Try.func71, Try.ntmps71
  go_wp2
  all_goals go_quiet (fail)
  all_goals go_wp2_with (first | (go_at_call 78; refine (share_any _ _ _ _ _ _ _ _ _).mono ?_; rintro e w1 ⟨rfl, hb⟩; have c5 : w1.cell? ⟨w.heap.size, 5, none⟩ = some (.int .i64 par) := (hb.cell (by simp)).trans (by simp [go_sem]); have c7 : w1.cell? ⟨w.heap.size, 7, none⟩ = some (.slice ao n c) := (hb.cell (by simp)).trans (by simp [go_sem])) | fail)
  all_goals go_ret
  all_goals refine ⟨ret_bool ?_, by first | exact below_drewN (below_box w _) _ | exact (below_drewN (below_box w _) _).trans (hb.mono (by simp [go_sem]))⟩
  all_goals clear hm ht hn
  all_goals (rw [Bool.eq_iff_iff]; simp [okFld, be_nil, *])
  all_goals (first | omega | trace_state)

set_option maxRecDepth 100000 in
set_option maxHeartbeats 8000000 in
theorem fields_5 (f : Fld) (ao : Option Addr) (c : Nat) (w : World) (hf : f.fit) (ho : f.op = 5) :
    Calls Try.prog 71 #[f.val (.slice ao f.n c)] w fun e w' => e = .returned (.bool (okFld f)) ∧ Below w.heap.size w w' := by
  obtain ⟨op, media, frame, num, den, par, text, n⟩ := f
  obtain ⟨hm, ht, hn⟩ := hf
  simp only at ho hm ht hn
  subst ho
  show Calls Try.prog 71 #[.agg #[.int .i64 5, .string media, .int .i64 frame, .int .i64 num, .int .i64 den, .int .i64 par, .string text, .slice ao n c]] w _
  go_enter Try.func71, Try.ntmps71
  go_wp2
  all_goals go_quiet (fail)
  all_goals go_wp2_with (first | (go_at_call 79; refine (dvalidText_any _ _ ht).mono ?_; rintro e w1 ⟨rfl, rfl⟩) | fail)
  all_goals go_ret
  all_goals refine ⟨ret_bool ?_, by first | exact below_drewN (below_box w _) _ | exact (below_drewN (below_box w _) _).trans (hb.mono (by simp [go_sem]))⟩
  all_goals clear hm ht hn
  all_goals (rw [Bool.eq_iff_iff]; simp [okFld, be_nil, *])
  all_goals (first | omega | trace_state)

set_option maxRecDepth 100000 in
set_option maxHeartbeats 8000000 in
theorem fields_6 (f : Fld) (ao : Option Addr) (c : Nat) (w : World) (hf : f.fit) (h0 : f.op ≠ 0) (h1 : f.op ≠ 1) (h2 : f.op ≠ 2) (h3 : f.op ≠ 3) (h4 : f.op ≠ 4) (h5 : f.op ≠ 5) :
    Calls Try.prog 71 #[f.val (.slice ao f.n c)] w fun e w' => e = .returned (.bool (okFld f)) ∧ Below w.heap.size w w' := by
  obtain ⟨op, media, frame, num, den, par, text, n⟩ := f
  obtain ⟨hm, ht, hn⟩ := hf
  simp only at h0 h1 h2 h3 h4 h5 hm ht hn
  have b0 : (op == 0) = false := by rw [beq_eq_false_iff_ne]; exact h0
  have b1 : (op == 1) = false := by rw [beq_eq_false_iff_ne]; exact h1
  have b2 : (op == 2) = false := by rw [beq_eq_false_iff_ne]; exact h2
  have b3 : (op == 3) = false := by rw [beq_eq_false_iff_ne]; exact h3
  have b4 : (op == 4) = false := by rw [beq_eq_false_iff_ne]; exact h4
  have b5 : (op == 5) = false := by rw [beq_eq_false_iff_ne]; exact h5
  show Calls Try.prog 71 #[.agg #[.int .i64 op, .string media, .int .i64 frame, .int .i64 num, .int .i64 den, .int .i64 par, .string text, .slice ao n c]] w _
  go_enter Try.func71, Try.ntmps71
  go_wp2
  all_goals go_quiet (fail)
  all_goals go_wp2_with fail
  all_goals go_ret
  all_goals refine ⟨ret_bool ?_, by first | exact below_drewN (below_box w _) _ | exact (below_drewN (below_box w _) _).trans (hb.mono (by simp [go_sem]))⟩
  all_goals clear hm ht hn
  all_goals (rw [Bool.eq_iff_iff]; simp [okFld, be_nil, *])
  all_goals (first | omega | trace_state)

theorem fields_any (f : Fld) (ao : Option Addr) (c : Nat) (w : World) (hf : f.fit) :
    Calls Try.prog 71 #[f.val (.slice ao f.n c)] w fun e w' => e = .returned (.bool (okFld f)) ∧ Below w.heap.size w w' := by
  by_cases h0 : f.op = 0
  · exact fields_0 f ao c w hf h0
  by_cases h1 : f.op = 1
  · exact fields_1 f ao c w hf h1
  by_cases h2 : f.op = 2
  · exact fields_2 f ao c w hf h2
  by_cases h3 : f.op = 3
  · exact fields_3 f ao c w hf h3
  by_cases h4 : f.op = 4
  · exact fields_4 f ao c w hf h4
  by_cases h5 : f.op = 5
  · exact fields_5 f ao c w hf h5
  exact fields_6 f ao c w hf h0 h1 h2 h3 h4 h5

end Go.Proofs.Ytnnobdcbmagbaaa

/- Cells of expressions; the contract of denote.Valid. -/
namespace Go.Proofs.Ytnnobdcbmagbaaa
open Go.RowKit
set_option linter.unusedVariables false

/-- Eight cells of a list of expressions. -/
structure C8 (w : World) (b p : Nat) (f : Fld) (s : Value) : Prop where
  k0 : w.cell? ⟨b, p, none⟩ = some (.int .i64 f.op)
  k1 : w.cell? ⟨b, p + 1, none⟩ = some (.string f.media)
  k2 : w.cell? ⟨b, p + 2, none⟩ = some (.int .i64 f.frame)
  k3 : w.cell? ⟨b, p + 3, none⟩ = some (.int .i64 f.num)
  k4 : w.cell? ⟨b, p + 4, none⟩ = some (.int .i64 f.den)
  k5 : w.cell? ⟨b, p + 5, none⟩ = some (.int .i64 f.par)
  k6 : w.cell? ⟨b, p + 6, none⟩ = some (.string f.text)
  k7 : w.cell? ⟨b, p + 7, none⟩ = some s
theorem C8.lt {w : World} {b p : Nat} {f : Fld} {s : Value} (h : C8 w b p f s) : b < w.heap.size := block_lt_of_cell h.k0
theorem C8.below {w w' : World} {b p : Nat} {f : Fld} {s : Value} (h : C8 w b p f s) (hb : Below w.heap.size w w') : C8 w' b p f s :=
  ⟨(hb.cell h.lt).trans h.k0, (hb.cell h.lt).trans h.k1, (hb.cell h.lt).trans h.k2, (hb.cell h.lt).trans h.k3, (hb.cell h.lt).trans h.k4, (hb.cell h.lt).trans h.k5, (hb.cell h.lt).trans h.k6, (hb.cell h.lt).trans h.k7⟩
theorem C8.of {w : World} {b o i : Nat} {f : Fld} {s : Value} (h : ∀ j, j < 8 → w.cell? ⟨b, o + i * 8 + j, none⟩ = cells8 f s j) : C8 w b (o + i * 8) f s :=
  ⟨h 0 (by decide), h 1 (by decide), h 2 (by decide), h 3 (by decide), h 4 (by decide), h 5 (by decide), h 6 (by decide), h 7 (by decide)⟩
theorem C8.to {w : World} {b p : Nat} {f : Fld} {s : Value} (h : C8 w b p f s) : ∀ j, j < 8 → w.cell? ⟨b, p + j, none⟩ = cells8 f s j := by
  intro j hj
  match j, hj with
  | 0, _ => exact h.k0
  | 1, _ => exact h.k1
  | 2, _ => exact h.k2
  | 3, _ => exact h.k3
  | 4, _ => exact h.k4
  | 5, _ => exact h.k5
  | 6, _ => exact h.k6
  | 7, _ => exact h.k7
/-- A block of the call's own that holds an expression. -/
structure B8 (w : World) (b : Nat) (f : Fld) (s : Value) : Prop where
  k0 : w.cell? ⟨b, 0, none⟩ = some (.int .i64 f.op)
  k1 : w.cell? ⟨b, 1, none⟩ = some (.string f.media)
  k2 : w.cell? ⟨b, 2, none⟩ = some (.int .i64 f.frame)
  k3 : w.cell? ⟨b, 3, none⟩ = some (.int .i64 f.num)
  k4 : w.cell? ⟨b, 4, none⟩ = some (.int .i64 f.den)
  k5 : w.cell? ⟨b, 5, none⟩ = some (.int .i64 f.par)
  k6 : w.cell? ⟨b, 6, none⟩ = some (.string f.text)
  k7 : w.cell? ⟨b, 7, none⟩ = some s
theorem B8.lt {w : World} {b : Nat} {f : Fld} {s : Value} (h : B8 w b f s) : b < w.heap.size := block_lt_of_cell h.k0
theorem B8.below {w w' : World} {b : Nat} {f : Fld} {s : Value} (h : B8 w b f s) (hb : Below w.heap.size w w') : B8 w' b f s :=
  ⟨(hb.cell h.lt).trans h.k0, (hb.cell h.lt).trans h.k1, (hb.cell h.lt).trans h.k2, (hb.cell h.lt).trans h.k3, (hb.cell h.lt).trans h.k4, (hb.cell h.lt).trans h.k5, (hb.cell h.lt).trans h.k6, (hb.cell h.lt).trans h.k7⟩
theorem B8.of_alloc (w : World) (b : Nat) (f : Fld) (s : Value) (t : TypeId) (h : b = w.heap.size) :
    B8 (w.alloc (.cells #[.int .i64 f.op, .string f.media, .int .i64 f.frame, .int .i64 f.num, .int .i64 f.den, .int .i64 f.par, .string f.text, s] t)) b f s := by
  subst h; constructor <;> simp [go_sem]

theorem XA.slice {w : World} {s : Value} {e : Ex} (h : XA w (e.f.val s) e) : ∃ ao c, s = .slice ao e.f.n c := by
  generalize hv : e.f.val s = v at h
  cases h with
  | mk f' a ao c g hf hc hcell hsub =>
    simp only [Fld.val, Value.agg.injEq, Array.mk.injEq, List.cons.injEq, and_true, Ex.f, true_and] at hv
    exact ⟨ao, c, hv⟩

theorem okX_no {f : Fld} {a : Nat → Ex} {k : Nat} (h : k < f.n) (hk : okX (a k) = false) : okX (.mk f a) = false := by
  simp only [okX, Bool.and_eq_false_iff, List.all_eq_false]
  exact Or.inr ⟨k, List.mem_range.2 h, by rw [hk]; decide⟩
theorem okX_fld {f : Fld} {a : Nat → Ex} (h : okFld f = false) : okX (.mk f a) = false := by simp only [okX, h, Bool.false_and]
theorem okX_yes {f : Fld} {a : Nat → Ex} (h : okFld f = true) (hk : ∀ i, i < f.n → okX (a i) = true) : okX (.mk f a) = true := by
  simp only [okX, h, Bool.true_and, List.all_eq_true, List.mem_range]
  exact hk

set_option maxRecDepth 100000 in
set_option maxHeartbeats 4000000 in
theorem dvalid_any {w0 : World} {v : Value} {e : Ex} (h : XA w0 v e) : ∀ w, Below w0.heap.size w0 w →
    Calls Try.prog 63 #[v] w fun r w' => r = .returned (.bool (okX e)) ∧ Below w.heap.size w w' := by
  induction h with
  | mk f a ao c g hf hc hcell hsub ih =>
    intro w hw
    have FA := fields_any f ao c
    unfold Fld.val at FA ⊢
    go_enter Try.func63, Try.ntmps63
    go_wp2_with fail
    refine (FA _ hf).mono ?_
    rintro r w1 ⟨rfl, hb⟩
    have b1 := (B8.of_alloc w w.heap.size f (.slice ao f.n c) 58 rfl).below hb
    have W1 : Below w.heap.size w w1 := (below_box w _).trans (hb.mono (by simp))
    have hs1 : w.heap.size < w1.heap.size := b1.lt
    clear hb FA
    by_cases hok : okFld f = true
    rotate_left
    · have hok' : okFld f = false := by simpa using hok
      have HN := Lib.hid (okX_fld (a := a) hok')
      go_wp2
      go_ret
      exact ⟨ret_bool HN.out.symm, W1⟩
    have HK := Lib.hid hok
    rw [hok]
    clear hok
    have hn := hf.n
    have k7 := b1.k7
    clear b1
    go_wp2_with fail
    go_loopw [11] (fun i wr => ∃ k : Nat, k ≤ f.n ∧ i = .int .i64 (k : Int) ∧ Below w1.heap.size w1 wr ∧ Hid (∀ i, i < k → okX (a i) = true)) (fun i _ => f.n - (intOf i).toNat)
    case atStart => exact ⟨0, Nat.zero_le _, rfl, Below.refl _ _, Lib.hid (fun i hi => absurd hi (Nat.not_lt_zero i))⟩
    case round =>
      obtain ⟨k, hk, rfl, hb, HA⟩ := hrel
      have hbw : Below w.heap.size w wr := W1.trans (hb.mono W1.size)
      by_cases hlt : k < f.n
      · obtain ⟨b, o, rfl, hC⟩ := hcell k hlt
        have hw0 := hw.trans (hbw.mono hw.size)
        obtain ⟨c0, c1, c2, c3, c4, c5, c6, c7⟩ := (C8.of hC).below hw0
        obtain ⟨sa, sc, hg⟩ := (hsub k hlt).slice
        rw [hg] at c7
        have HI := ih k hlt
        rw [hg] at HI
        unfold Fld.val at HI
        clear hC
        obtain ⟨E, hE⟩ : ∃ E, E = a k := ⟨_, rfl⟩
        rw [← hE] at c0 c1 c2 c3 c4 c5 c6 c7 HI
        have HNo := Lib.hid (fun (h : okX E = false) => okX_no (f := f) (a := a) (k := k) hlt (by rw [← hE]; exact h))
        have HYs := Lib.hid (fun (h : okX E = true) => (show ∀ i, i < k + 1 → okX (a i) = true from fun i hi => by
          by_cases e : i = k
          · subst e; rw [← hE]; exact h
          · exact HA.out i (by omega)))
        clear hE hg
        go_wp2_with fail
        refine (HI _ ?_).mono ?_
        · exact hw0.alloc hw0.size _
        rintro r w2 ⟨rfl, hb2⟩
        have hbB : Below w1.heap.size w1 w2 := (hb.alloc hb.size _).trans (hb2.mono (by simp; have := hb.size; omega))
        have hbw2 : Below w.heap.size w w2 := W1.trans (hbB.mono W1.size)
        clear HI hb2
        by_cases hx : okX E = true
        · have HC := Lib.hid (HYs.out hx)
          rw [hx]
          clear hx
          go_wp2
          go_round
          case rel => exact ⟨k + 1, by omega, by go_num, hbB, HC⟩
          case measure => simp [intOf]; omega
        · have hx' : okX E = false := by simpa using hx
          have HN := Lib.hid (HNo.out hx')
          rw [hx']
          clear hx
          go_wp2
          go_ret
          exact ⟨ret_bool HN.out.symm, hbw2⟩
      · obtain rfl : k = f.n := by omega
        have HY := Lib.hid (okX_yes HK.out HA.out)
        go_wp2
        go_ret
        exact ⟨ret_bool HY.out.symm, hbw⟩

end Go.Proofs.Ytnnobdcbmagbaaa

/- The contract of cutroomref25.bare. -/
namespace Go.Proofs.Ytnnobdcbmagbaaa
open Go.RowKit
set_option linter.unusedVariables false

/-- The fields that an operation does not use are zero. -/
def okBare (f : Fld) : Bool := (f.op == 1 || decide (f.media.size = 0 ∧ f.frame = 0)) && (f.op == 2 || f.op == 3 || decide (f.num = 0 ∧ f.den = 0)) && (f.op == 3 || f.op == 4 || decide (f.par = 0)) && (f.op == 5 || decide (f.text.size = 0))

set_option maxRecDepth 100000 in
set_option maxHeartbeats 8000000 in
theorem bare_0 (f : Fld) (s : Value) (w : World) (ho : f.op = 0) :
    Calls Try.prog 74 #[f.val s] w fun e w' => e = .returned (.bool (okBare f)) ∧ Below w.heap.size w w' := by
  obtain ⟨op, media, frame, num, den, par, text, n⟩ := f
  simp only at ho
  subst ho
  show Calls Try.prog 74 #[.agg #[.int .i64 0, .string media, .int .i64 frame, .int .i64 num, .int .i64 den, .int .i64 par, .string text, s]] w _
  go_enter Try.func74, Try.ntmps74
  go_wp2
  all_goals go_quiet (fail)
  all_goals go_wp2
  all_goals go_ret
  all_goals refine ⟨ret_bool ?_, below_drewN (below_box w _) _⟩
  all_goals try simp only [bne_iff_ne, ne_eq, bne_eq_false_iff_eq] at *
  all_goals (rw [Bool.eq_iff_iff]; simp [okBare, be_nil, *])

set_option maxRecDepth 100000 in
set_option maxHeartbeats 8000000 in
theorem bare_1 (f : Fld) (s : Value) (w : World) (ho : f.op = 1) :
    Calls Try.prog 74 #[f.val s] w fun e w' => e = .returned (.bool (okBare f)) ∧ Below w.heap.size w w' := by
  obtain ⟨op, media, frame, num, den, par, text, n⟩ := f
  simp only at ho
  subst ho
  show Calls Try.prog 74 #[.agg #[.int .i64 1, .string media, .int .i64 frame, .int .i64 num, .int .i64 den, .int .i64 par, .string text, s]] w _
  go_enter Try.func74, Try.ntmps74
  go_wp2
  all_goals go_quiet (fail)
  all_goals go_wp2
  all_goals go_ret
  all_goals refine ⟨ret_bool ?_, below_drewN (below_box w _) _⟩
  all_goals try simp only [bne_iff_ne, ne_eq, bne_eq_false_iff_eq] at *
  all_goals (rw [Bool.eq_iff_iff]; simp [okBare, be_nil, *])

set_option maxRecDepth 100000 in
set_option maxHeartbeats 8000000 in
theorem bare_2 (f : Fld) (s : Value) (w : World) (ho : f.op = 2) :
    Calls Try.prog 74 #[f.val s] w fun e w' => e = .returned (.bool (okBare f)) ∧ Below w.heap.size w w' := by
  obtain ⟨op, media, frame, num, den, par, text, n⟩ := f
  simp only at ho
  subst ho
  show Calls Try.prog 74 #[.agg #[.int .i64 2, .string media, .int .i64 frame, .int .i64 num, .int .i64 den, .int .i64 par, .string text, s]] w _
  go_enter Try.func74, Try.ntmps74
  go_wp2
  all_goals go_quiet (fail)
  all_goals go_wp2
  all_goals go_ret
  all_goals refine ⟨ret_bool ?_, below_drewN (below_box w _) _⟩
  all_goals try simp only [bne_iff_ne, ne_eq, bne_eq_false_iff_eq] at *
  all_goals (rw [Bool.eq_iff_iff]; simp [okBare, be_nil, *])

set_option maxRecDepth 100000 in
set_option maxHeartbeats 8000000 in
theorem bare_3 (f : Fld) (s : Value) (w : World) (ho : f.op = 3) :
    Calls Try.prog 74 #[f.val s] w fun e w' => e = .returned (.bool (okBare f)) ∧ Below w.heap.size w w' := by
  obtain ⟨op, media, frame, num, den, par, text, n⟩ := f
  simp only at ho
  subst ho
  show Calls Try.prog 74 #[.agg #[.int .i64 3, .string media, .int .i64 frame, .int .i64 num, .int .i64 den, .int .i64 par, .string text, s]] w _
  go_enter Try.func74, Try.ntmps74
  go_wp2
  all_goals go_quiet (fail)
  all_goals go_wp2
  all_goals go_ret
  all_goals refine ⟨ret_bool ?_, below_drewN (below_box w _) _⟩
  all_goals try simp only [bne_iff_ne, ne_eq, bne_eq_false_iff_eq] at *
  all_goals (rw [Bool.eq_iff_iff]; simp [okBare, be_nil, *])

set_option maxRecDepth 100000 in
set_option maxHeartbeats 8000000 in
theorem bare_4 (f : Fld) (s : Value) (w : World) (ho : f.op = 4) :
    Calls Try.prog 74 #[f.val s] w fun e w' => e = .returned (.bool (okBare f)) ∧ Below w.heap.size w w' := by
  obtain ⟨op, media, frame, num, den, par, text, n⟩ := f
  simp only at ho
  subst ho
  show Calls Try.prog 74 #[.agg #[.int .i64 4, .string media, .int .i64 frame, .int .i64 num, .int .i64 den, .int .i64 par, .string text, s]] w _
  go_enter Try.func74, Try.ntmps74
  go_wp2
  all_goals go_quiet (fail)
  all_goals go_wp2
  all_goals go_ret
  all_goals refine ⟨ret_bool ?_, below_drewN (below_box w _) _⟩
  all_goals try simp only [bne_iff_ne, ne_eq, bne_eq_false_iff_eq] at *
  all_goals (rw [Bool.eq_iff_iff]; simp [okBare, be_nil, *])

set_option maxRecDepth 100000 in
set_option maxHeartbeats 8000000 in
theorem bare_5 (f : Fld) (s : Value) (w : World) (ho : f.op = 5) :
    Calls Try.prog 74 #[f.val s] w fun e w' => e = .returned (.bool (okBare f)) ∧ Below w.heap.size w w' := by
  obtain ⟨op, media, frame, num, den, par, text, n⟩ := f
  simp only at ho
  subst ho
  show Calls Try.prog 74 #[.agg #[.int .i64 5, .string media, .int .i64 frame, .int .i64 num, .int .i64 den, .int .i64 par, .string text, s]] w _
  go_enter Try.func74, Try.ntmps74
  go_wp2
  all_goals go_quiet (fail)
  all_goals go_wp2
  all_goals go_ret
  all_goals refine ⟨ret_bool ?_, below_drewN (below_box w _) _⟩
  all_goals try simp only [bne_iff_ne, ne_eq, bne_eq_false_iff_eq] at *
  all_goals (rw [Bool.eq_iff_iff]; simp [okBare, be_nil, *])

theorem bare_any (f : Fld) (s : Value) (w : World) (ho : 0 ≤ f.op ∧ f.op ≤ 5) :
    Calls Try.prog 74 #[f.val s] w fun e w' => e = .returned (.bool (okBare f)) ∧ Below w.heap.size w w' := by
  by_cases h0 : f.op = 0
  · exact bare_0 f s w h0
  by_cases h1 : f.op = 1
  · exact bare_1 f s w h1
  by_cases h2 : f.op = 2
  · exact bare_2 f s w h2
  by_cases h3 : f.op = 3
  · exact bare_3 f s w h3
  by_cases h4 : f.op = 4
  · exact bare_4 f s w h4
  exact bare_5 f s w (by omega)

end Go.Proofs.Ytnnobdcbmagbaaa
