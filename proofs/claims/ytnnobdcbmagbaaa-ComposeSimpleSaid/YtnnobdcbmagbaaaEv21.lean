/- Texts of this claim joined: XI XK. -/
import Derived.Test.YtnnobdcbmagbaaaEv18
import Derived.Test.YtnnobdcbmagbaaaEv20
set_option linter.unusedVariables false
set_option linter.unusedSimpArgs false

/- The contract of cutroomref25.Valid (all operations). -/
namespace Go.Proofs.Ytnnobdcbmagbaaa
open Go.RowKit
set_option linter.unusedVariables false

theorem okF0 {f : Fld} (h : f.op = 0) : okFld f = (okBare f && decide (f.n = 0)) := by
  rw [Bool.eq_iff_iff]; simp [okFld, okBare, h]; constructor <;> (intros; simp_all)
theorem okF1 {f : Fld} (h : f.op = 1) : okFld f = (okName f.media && decide (0 ≤ f.frame ∧ f.frame ≤ 2147483646) && okBare f && decide (f.n = 0)) := by
  rw [Bool.eq_iff_iff]; simp [okFld, okBare, h]; constructor <;> (intros; simp_all)
theorem okF2 {f : Fld} (h : f.op = 2) : okFld f = (okRatio f.num f.den && decide (0 ≤ f.par ∧ f.par ≤ 3) && okBare f && decide (f.n = 2)) := by
  rw [Bool.eq_iff_iff]; simp [okFld, okBare, h]; constructor <;> (intros; simp_all)
theorem okF3 {f : Fld} (h : f.op = 3) : okFld f = (okRatio f.num f.den && decide (0 ≤ f.par ∧ f.par ≤ 3) && okBare f && decide (f.n = 2)) := by
  rw [Bool.eq_iff_iff]; simp [okFld, okBare, h]; constructor <;> (intros; simp_all)
theorem okF4 {f : Fld} (h : f.op = 4) : okFld f = (decide (0 ≤ f.par ∧ f.par ≤ 255) && okBare f && decide (f.n = 2)) := by
  rw [Bool.eq_iff_iff]; simp [okFld, okBare, h]; constructor <;> (intros; simp_all)
theorem okF5 {f : Fld} (h : f.op = 5) : okFld f = (okText f.text && okBare f && decide (f.n = 1)) := by
  rw [Bool.eq_iff_iff]; simp [okFld, okBare, h]; constructor <;> (intros; simp_all)

set_option maxRecDepth 100000 in
set_option maxHeartbeats 8000000 in
theorem rv_0 (f : Fld) (a : Nat → Ex) (ao : Option Addr) (c : Nat) (g : Nat → Value) (w : World) (hf : f.fit) (hc : f.n ≤ c) (ho : f.op = 0)
    (hcell : ∀ i, i < f.n → ∃ b o, ao = some ⟨b, o, none⟩ ∧ ∀ j, j < 8 → w.cell? ⟨b, o + i * 8 + j, none⟩ = cells8 (a i).f (g i) j)
    (hsl : ∀ i, i < f.n → ∃ sa sc, g i = .slice sa (a i).f.n sc)
    (ih : ∀ i, i < f.n → ∀ w', Below w.heap.size w w' → Calls Try.prog 65 #[(a i).f.val (g i)] w' fun r w'' => r = .returned (.bool (okX (a i))) ∧ Below w'.heap.size w' w'') :
    Calls Try.prog 65 #[f.val (.slice ao f.n c)] w fun r w' => r = .returned (.bool (okX (.mk f a))) ∧ Below w.heap.size w w' := by
  obtain ⟨op, media, frame, num, den, par, text, n⟩ := f
  obtain ⟨hm, ht, hn⟩ := hf
  simp only at ho hm ht hn hcell hsl ih hc
  subst ho
  have BA := bare_any (⟨0, media, frame, num, den, par, text, n⟩ : Fld) (.slice ao n c)
  unfold Fld.val at BA ⊢
  simp only at BA
  go_enter Try.func65, Try.ntmps65
  go_wp2_with fail
  refine (BA _ (by decide)).mono ?_
  rintro r w2 ⟨rfl, hb2⟩
  have W2 : Below w.heap.size w w2 := (below_box w _).trans (hb2.mono (by simp))
  have k7 := ((B8.of_alloc w w.heap.size (⟨0, media, frame, num, den, par, text, n⟩ : Fld) (.slice ao n c) 58 rfl).below hb2).k7
  clear BA
  have hs2 : w.heap.size < w2.heap.size := block_lt_of_cell k7
  clear hb2
  by_cases hy : okBare (⟨0, media, frame, num, den, par, text, n⟩ : Fld) = true
  rotate_left
  · have hy' : okBare (⟨0, media, frame, num, den, par, text, n⟩ : Fld) = false := by simpa using hy
    have HN := Lib.hid (okX_fld (a := a) (show okFld (⟨0, media, frame, num, den, par, text, n⟩ : Fld) = false by rw [okF0 rfl]; rw [hy']; simp))
    rw [hy']
    go_wp2
    all_goals go_ret
    all_goals exact ⟨ret_bool HN.out.symm, W2⟩
  have HYB := Lib.hid hy
  rw [hy]
  clear hy
  by_cases hnn : n = 0
  rotate_left
  · have HN := Lib.hid (okX_fld (a := a) (show okFld (⟨0, media, frame, num, den, par, text, n⟩ : Fld) = false by rw [okF0 rfl]; simp [hnn]))
    have hnn' : (((n : Nat) : Int) != 0) = true := by rw [bne_iff_ne]; omega
    go_wp2
    all_goals go_ret
    all_goals exact ⟨ret_bool HN.out.symm, W2⟩
  subst hnn
  have HK := Lib.hid (show okFld (⟨0, media, frame, num, den, par, text, 0⟩ : Fld) = true by rw [okF0 rfl]; rw [HYB.out]; simp)
  go_wp2_with fail
  refine wp_loop_rounds 1 ?_
  rw [rounds_succ]
  go_wp2_with fail
  have HY := Lib.hid (okX_yes (a := a) HK.out (fun i hi => absurd hi (Nat.not_lt_zero i)))
  go_ret
  exact ⟨ret_bool HY.out.symm, W2⟩

set_option maxRecDepth 100000 in
set_option maxHeartbeats 8000000 in
theorem rv_1 (f : Fld) (a : Nat → Ex) (ao : Option Addr) (c : Nat) (g : Nat → Value) (w : World) (hf : f.fit) (hc : f.n ≤ c) (ho : f.op = 1)
    (hcell : ∀ i, i < f.n → ∃ b o, ao = some ⟨b, o, none⟩ ∧ ∀ j, j < 8 → w.cell? ⟨b, o + i * 8 + j, none⟩ = cells8 (a i).f (g i) j)
    (hsl : ∀ i, i < f.n → ∃ sa sc, g i = .slice sa (a i).f.n sc)
    (ih : ∀ i, i < f.n → ∀ w', Below w.heap.size w w' → Calls Try.prog 65 #[(a i).f.val (g i)] w' fun r w'' => r = .returned (.bool (okX (a i))) ∧ Below w'.heap.size w' w'') :
    Calls Try.prog 65 #[f.val (.slice ao f.n c)] w fun r w' => r = .returned (.bool (okX (.mk f a))) ∧ Below w.heap.size w w' := by
  obtain ⟨op, media, frame, num, den, par, text, n⟩ := f
  obtain ⟨hm, ht, hn⟩ := hf
  simp only at ho hm ht hn hcell hsl ih hc
  subst ho
  have BA := bare_any (⟨1, media, frame, num, den, par, text, n⟩ : Fld) (.slice ao n c)
  unfold Fld.val at BA ⊢
  simp only at BA
  go_enter Try.func65, Try.ntmps65
  go_wp2_with fail
  refine (rvalidName_any media _ hm).mono ?_
  rintro r w1 ⟨rfl, rfl⟩
  by_cases hx : okName media = true
  rotate_left
  · have hx' : okName media = false := by simpa using hx
    have HN := Lib.hid (okX_fld (a := a) (show okFld (⟨1, media, frame, num, den, par, text, n⟩ : Fld) = false by rw [okF1 rfl]; simp [hx']))
    rw [hx']
    go_wp2
    all_goals go_ret
    all_goals exact ⟨ret_bool HN.out.symm, below_box w _⟩
  have HX := Lib.hid hx
  rw [hx]
  clear hx
  by_cases q1 : frame < 0
  · have HN := Lib.hid (okX_fld (a := a) (show okFld (⟨1, media, frame, num, den, par, text, n⟩ : Fld) = false by rw [okF1 rfl]; simp; omega))
    go_wp2
    all_goals go_ret
    all_goals exact ⟨ret_bool HN.out.symm, below_box w _⟩
  by_cases q2 : 2147483647 ≤ frame
  · have HN := Lib.hid (okX_fld (a := a) (show okFld (⟨1, media, frame, num, den, par, text, n⟩ : Fld) = false by rw [okF1 rfl]; simp; omega))
    go_wp2
    all_goals go_ret
    all_goals exact ⟨ret_bool HN.out.symm, below_box w _⟩
  go_wp2_with fail
  refine (BA _ (by decide)).mono ?_
  rintro r w2 ⟨rfl, hb2⟩
  have W2 : Below w.heap.size w w2 := (below_box w _).trans (hb2.mono (by simp))
  have k7 := ((B8.of_alloc w w.heap.size (⟨1, media, frame, num, den, par, text, n⟩ : Fld) (.slice ao n c) 58 rfl).below hb2).k7
  clear BA
  have hs2 : w.heap.size < w2.heap.size := block_lt_of_cell k7
  clear hb2
  by_cases hy : okBare (⟨1, media, frame, num, den, par, text, n⟩ : Fld) = true
  rotate_left
  · have hy' : okBare (⟨1, media, frame, num, den, par, text, n⟩ : Fld) = false := by simpa using hy
    have HN := Lib.hid (okX_fld (a := a) (show okFld (⟨1, media, frame, num, den, par, text, n⟩ : Fld) = false by rw [okF1 rfl]; rw [hy']; simp))
    rw [hy']
    go_wp2
    all_goals go_ret
    all_goals exact ⟨ret_bool HN.out.symm, W2⟩
  have HYB := Lib.hid hy
  rw [hy]
  clear hy
  by_cases hnn : n = 0
  rotate_left
  · have HN := Lib.hid (okX_fld (a := a) (show okFld (⟨1, media, frame, num, den, par, text, n⟩ : Fld) = false by rw [okF1 rfl]; simp [hnn]))
    have hnn' : (((n : Nat) : Int) != 0) = true := by rw [bne_iff_ne]; omega
    go_wp2
    all_goals go_ret
    all_goals exact ⟨ret_bool HN.out.symm, W2⟩
  subst hnn
  have HK := Lib.hid (show okFld (⟨1, media, frame, num, den, par, text, 0⟩ : Fld) = true by rw [okF1 rfl]; rw [HX.out, HYB.out]; simp; omega)
  go_wp2_with fail
  refine wp_loop_rounds 1 ?_
  rw [rounds_succ]
  go_wp2_with fail
  have HY := Lib.hid (okX_yes (a := a) HK.out (fun i hi => absurd hi (Nat.not_lt_zero i)))
  go_ret
  exact ⟨ret_bool HY.out.symm, W2⟩

set_option maxRecDepth 100000 in
set_option maxHeartbeats 8000000 in
theorem rv_2 (f : Fld) (a : Nat → Ex) (ao : Option Addr) (c : Nat) (g : Nat → Value) (w : World) (hf : f.fit) (hc : f.n ≤ c) (ho : f.op = 2)
    (hcell : ∀ i, i < f.n → ∃ b o, ao = some ⟨b, o, none⟩ ∧ ∀ j, j < 8 → w.cell? ⟨b, o + i * 8 + j, none⟩ = cells8 (a i).f (g i) j)
    (hsl : ∀ i, i < f.n → ∃ sa sc, g i = .slice sa (a i).f.n sc)
    (ih : ∀ i, i < f.n → ∀ w', Below w.heap.size w w' → Calls Try.prog 65 #[(a i).f.val (g i)] w' fun r w'' => r = .returned (.bool (okX (a i))) ∧ Below w'.heap.size w' w'') :
    Calls Try.prog 65 #[f.val (.slice ao f.n c)] w fun r w' => r = .returned (.bool (okX (.mk f a))) ∧ Below w.heap.size w w' := by
  obtain ⟨op, media, frame, num, den, par, text, n⟩ := f
  obtain ⟨hm, ht, hn⟩ := hf
  simp only at ho hm ht hn hcell hsl ih hc
  subst ho
  have BA := bare_any (⟨2, media, frame, num, den, par, text, n⟩ : Fld) (.slice ao n c)
  unfold Fld.val at BA ⊢
  simp only at BA
  go_enter Try.func65, Try.ntmps65
  go_wp2_with fail
  refine (rshare_any _ _ _ _ _ _ _ _ _).mono ?_
  rintro r w1 ⟨rfl, hb⟩
  have b1 := (B8.of_alloc w w.heap.size (⟨2, media, frame, num, den, par, text, n⟩ : Fld) (.slice ao n c) 58 rfl).below hb
  obtain ⟨c0, c1, c2, c3, c4, c5, c6, c7⟩ := b1
  simp only at c0 c1 c2 c3 c4 c5 c6 c7
  have W1 : Below w.heap.size w w1 := (below_box w _).trans (hb.mono (by simp))
  clear hb
  by_cases hx : okRatio num den = true
  rotate_left
  · have hx' : okRatio num den = false := by simpa using hx
    have HN := Lib.hid (okX_fld (a := a) (show okFld (⟨2, media, frame, num, den, par, text, n⟩ : Fld) = false by rw [okF2 rfl]; simp [hx']))
    rw [hx']
    go_wp2
    all_goals go_ret
    all_goals exact ⟨ret_bool HN.out.symm, W1⟩
  have HX := Lib.hid hx
  rw [hx]
  clear hx
  by_cases q1 : par < 0
  · have HN := Lib.hid (okX_fld (a := a) (show okFld (⟨2, media, frame, num, den, par, text, n⟩ : Fld) = false by rw [okF2 rfl]; simp; omega))
    go_wp2
    all_goals go_ret
    all_goals exact ⟨ret_bool HN.out.symm, W1⟩
  by_cases q2 : 3 < par
  · have HN := Lib.hid (okX_fld (a := a) (show okFld (⟨2, media, frame, num, den, par, text, n⟩ : Fld) = false by rw [okF2 rfl]; simp; omega))
    go_wp2
    all_goals go_ret
    all_goals exact ⟨ret_bool HN.out.symm, W1⟩
  go_wp2_with fail
  refine (BA _ (by decide)).mono ?_
  rintro r w2 ⟨rfl, hb2⟩
  have W2 : Below w.heap.size w w2 := W1.trans (hb2.mono W1.size)
  have k7 := (hb2.cell (p := ⟨w.heap.size, 7, none⟩) (block_lt_of_cell c7)).trans c7
  clear c0 c1 c2 c3 c4 c5 c6 c7 BA
  have hs2 : w.heap.size < w2.heap.size := block_lt_of_cell k7
  clear hb2
  by_cases hy : okBare (⟨2, media, frame, num, den, par, text, n⟩ : Fld) = true
  rotate_left
  · have hy' : okBare (⟨2, media, frame, num, den, par, text, n⟩ : Fld) = false := by simpa using hy
    have HN := Lib.hid (okX_fld (a := a) (show okFld (⟨2, media, frame, num, den, par, text, n⟩ : Fld) = false by rw [okF2 rfl]; rw [hy']; simp))
    rw [hy']
    go_wp2
    all_goals go_ret
    all_goals exact ⟨ret_bool HN.out.symm, W2⟩
  have HYB := Lib.hid hy
  rw [hy]
  clear hy
  by_cases hnn : n = 2
  rotate_left
  · have HN := Lib.hid (okX_fld (a := a) (show okFld (⟨2, media, frame, num, den, par, text, n⟩ : Fld) = false by rw [okF2 rfl]; simp [hnn]))
    have hnn' : (((n : Nat) : Int) != 2) = true := by rw [bne_iff_ne]; omega
    go_wp2
    all_goals go_ret
    all_goals exact ⟨ret_bool HN.out.symm, W2⟩
  subst hnn
  have HK := Lib.hid (show okFld (⟨2, media, frame, num, den, par, text, 2⟩ : Fld) = true by rw [okF2 rfl]; rw [HX.out, HYB.out]; simp; omega)
  go_wp2_with fail
  go_loopw [4] (fun i wr => ∃ k : Nat, k ≤ 2 ∧ i = .int .i64 (k : Int) ∧ Below w2.heap.size w2 wr ∧ Hid (∀ i, i < k → okX (a i) = true)) (fun i _ => 2 - (intOf i).toNat)
  case atStart => exact ⟨0, Nat.zero_le _, rfl, Below.refl _ _, Lib.hid (fun i hi => absurd hi (Nat.not_lt_zero i))⟩
  case round =>
    obtain ⟨k, hk, rfl, hb, HA⟩ := hrel
    have hbw : Below w.heap.size w wr := W2.trans (hb.mono W2.size)
    have z7 := (hb.cell (p := ⟨w.heap.size, 7, none⟩) hs2).trans k7
    by_cases hlt : k < 2
    · obtain ⟨b, o, rfl, hC⟩ := hcell k hlt
      obtain ⟨c0, c1, c2, c3, c4, c5, c6, c7⟩ := (C8.of hC).below hbw
      obtain ⟨sa, sc, hg⟩ := hsl k hlt
      rw [hg] at c7
      have HI := ih k hlt
      rw [hg] at HI
      unfold Fld.val at HI
      clear hC
      obtain ⟨E, hE⟩ : ∃ E, E = a k := ⟨_, rfl⟩
      rw [← hE] at c0 c1 c2 c3 c4 c5 c6 c7 HI
      have HNo := Lib.hid (fun (h : okX E = false) => okX_no (f := (⟨2, media, frame, num, den, par, text, 2⟩ : Fld)) (a := a) (k := k) hlt (by rw [← hE]; exact h))
      have HYs := Lib.hid (fun (h : okX E = true) => (show ∀ i, i < k + 1 → okX (a i) = true from fun i hi => by
        by_cases e : i = k
        · subst e; rw [← hE]; exact h
        · exact HA.out i (by omega)))
      clear hE hg
      go_wp2_with fail
      refine (HI _ hbw).mono ?_
      rintro r w3 ⟨rfl, hb3⟩
      have hbB : Below w2.heap.size w2 w3 := hb.trans (hb3.mono hb.size)
      have hbw2 : Below w.heap.size w w3 := W2.trans (hbB.mono W2.size)
      clear HI hb3
      by_cases hx : okX E = true
      · have HC := Lib.hid (HYs.out hx)
        rw [hx]
        clear hx
        go_wp2
        go_round
        case rel => exact ⟨k + 1, by omega, by go_num, hbB, HC⟩
        case measure => simp [intOf]; omega
      · have hx' : okX E = false := by simpa using hx
        have HN := Lib.hid (HNo.out hx')
        rw [hx']
        clear hx
        go_wp2
        go_ret
        exact ⟨ret_bool HN.out.symm, hbw2⟩
    · obtain rfl : k = 2 := by omega
      have HY := Lib.hid (okX_yes HK.out HA.out)
      go_wp2
      go_ret
      exact ⟨ret_bool HY.out.symm, hbw⟩

set_option maxRecDepth 100000 in
set_option maxHeartbeats 8000000 in
theorem rv_3 (f : Fld) (a : Nat → Ex) (ao : Option Addr) (c : Nat) (g : Nat → Value) (w : World) (hf : f.fit) (hc : f.n ≤ c) (ho : f.op = 3)
    (hcell : ∀ i, i < f.n → ∃ b o, ao = some ⟨b, o, none⟩ ∧ ∀ j, j < 8 → w.cell? ⟨b, o + i * 8 + j, none⟩ = cells8 (a i).f (g i) j)
    (hsl : ∀ i, i < f.n → ∃ sa sc, g i = .slice sa (a i).f.n sc)
    (ih : ∀ i, i < f.n → ∀ w', Below w.heap.size w w' → Calls Try.prog 65 #[(a i).f.val (g i)] w' fun r w'' => r = .returned (.bool (okX (a i))) ∧ Below w'.heap.size w' w'') :
    Calls Try.prog 65 #[f.val (.slice ao f.n c)] w fun r w' => r = .returned (.bool (okX (.mk f a))) ∧ Below w.heap.size w w' := by
  obtain ⟨op, media, frame, num, den, par, text, n⟩ := f
  obtain ⟨hm, ht, hn⟩ := hf
  simp only at ho hm ht hn hcell hsl ih hc
  subst ho
  have BA := bare_any (⟨3, media, frame, num, den, par, text, n⟩ : Fld) (.slice ao n c)
  unfold Fld.val at BA ⊢
  simp only at BA
  go_enter Try.func65, Try.ntmps65
  go_wp2_with fail
  refine (rshare_any _ _ _ _ _ _ _ _ _).mono ?_
  rintro r w1 ⟨rfl, hb⟩
  have b1 := (B8.of_alloc w w.heap.size (⟨3, media, frame, num, den, par, text, n⟩ : Fld) (.slice ao n c) 58 rfl).below hb
  obtain ⟨c0, c1, c2, c3, c4, c5, c6, c7⟩ := b1
  simp only at c0 c1 c2 c3 c4 c5 c6 c7
  have W1 : Below w.heap.size w w1 := (below_box w _).trans (hb.mono (by simp))
  clear hb
  by_cases hx : okRatio num den = true
  rotate_left
  · have hx' : okRatio num den = false := by simpa using hx
    have HN := Lib.hid (okX_fld (a := a) (show okFld (⟨3, media, frame, num, den, par, text, n⟩ : Fld) = false by rw [okF3 rfl]; simp [hx']))
    rw [hx']
    go_wp2
    all_goals go_ret
    all_goals exact ⟨ret_bool HN.out.symm, W1⟩
  have HX := Lib.hid hx
  rw [hx]
  clear hx
  by_cases q1 : par < 0
  · have HN := Lib.hid (okX_fld (a := a) (show okFld (⟨3, media, frame, num, den, par, text, n⟩ : Fld) = false by rw [okF3 rfl]; simp; omega))
    go_wp2
    all_goals go_ret
    all_goals exact ⟨ret_bool HN.out.symm, W1⟩
  by_cases q2 : 3 < par
  · have HN := Lib.hid (okX_fld (a := a) (show okFld (⟨3, media, frame, num, den, par, text, n⟩ : Fld) = false by rw [okF3 rfl]; simp; omega))
    go_wp2
    all_goals go_ret
    all_goals exact ⟨ret_bool HN.out.symm, W1⟩
  go_wp2_with fail
  refine (BA _ (by decide)).mono ?_
  rintro r w2 ⟨rfl, hb2⟩
  have W2 : Below w.heap.size w w2 := W1.trans (hb2.mono W1.size)
  have k7 := (hb2.cell (p := ⟨w.heap.size, 7, none⟩) (block_lt_of_cell c7)).trans c7
  clear c0 c1 c2 c3 c4 c5 c6 c7 BA
  have hs2 : w.heap.size < w2.heap.size := block_lt_of_cell k7
  clear hb2
  by_cases hy : okBare (⟨3, media, frame, num, den, par, text, n⟩ : Fld) = true
  rotate_left
  · have hy' : okBare (⟨3, media, frame, num, den, par, text, n⟩ : Fld) = false := by simpa using hy
    have HN := Lib.hid (okX_fld (a := a) (show okFld (⟨3, media, frame, num, den, par, text, n⟩ : Fld) = false by rw [okF3 rfl]; rw [hy']; simp))
    rw [hy']
    go_wp2
    all_goals go_ret
    all_goals exact ⟨ret_bool HN.out.symm, W2⟩
  have HYB := Lib.hid hy
  rw [hy]
  clear hy
  by_cases hnn : n = 2
  rotate_left
  · have HN := Lib.hid (okX_fld (a := a) (show okFld (⟨3, media, frame, num, den, par, text, n⟩ : Fld) = false by rw [okF3 rfl]; simp [hnn]))
    have hnn' : (((n : Nat) : Int) != 2) = true := by rw [bne_iff_ne]; omega
    go_wp2
    all_goals go_ret
    all_goals exact ⟨ret_bool HN.out.symm, W2⟩
  subst hnn
  have HK := Lib.hid (show okFld (⟨3, media, frame, num, den, par, text, 2⟩ : Fld) = true by rw [okF3 rfl]; rw [HX.out, HYB.out]; simp; omega)
  go_wp2_with fail
  go_loopw [4] (fun i wr => ∃ k : Nat, k ≤ 2 ∧ i = .int .i64 (k : Int) ∧ Below w2.heap.size w2 wr ∧ Hid (∀ i, i < k → okX (a i) = true)) (fun i _ => 2 - (intOf i).toNat)
  case atStart => exact ⟨0, Nat.zero_le _, rfl, Below.refl _ _, Lib.hid (fun i hi => absurd hi (Nat.not_lt_zero i))⟩
  case round =>
    obtain ⟨k, hk, rfl, hb, HA⟩ := hrel
    have hbw : Below w.heap.size w wr := W2.trans (hb.mono W2.size)
    have z7 := (hb.cell (p := ⟨w.heap.size, 7, none⟩) hs2).trans k7
    by_cases hlt : k < 2
    · obtain ⟨b, o, rfl, hC⟩ := hcell k hlt
      obtain ⟨c0, c1, c2, c3, c4, c5, c6, c7⟩ := (C8.of hC).below hbw
      obtain ⟨sa, sc, hg⟩ := hsl k hlt
      rw [hg] at c7
      have HI := ih k hlt
      rw [hg] at HI
      unfold Fld.val at HI
      clear hC
      obtain ⟨E, hE⟩ : ∃ E, E = a k := ⟨_, rfl⟩
      rw [← hE] at c0 c1 c2 c3 c4 c5 c6 c7 HI
      have HNo := Lib.hid (fun (h : okX E = false) => okX_no (f := (⟨3, media, frame, num, den, par, text, 2⟩ : Fld)) (a := a) (k := k) hlt (by rw [← hE]; exact h))
      have HYs := Lib.hid (fun (h : okX E = true) => (show ∀ i, i < k + 1 → okX (a i) = true from fun i hi => by
        by_cases e : i = k
        · subst e; rw [← hE]; exact h
        · exact HA.out i (by omega)))
      clear hE hg
      go_wp2_with fail
      refine (HI _ hbw).mono ?_
      rintro r w3 ⟨rfl, hb3⟩
      have hbB : Below w2.heap.size w2 w3 := hb.trans (hb3.mono hb.size)
      have hbw2 : Below w.heap.size w w3 := W2.trans (hbB.mono W2.size)
      clear HI hb3
      by_cases hx : okX E = true
      · have HC := Lib.hid (HYs.out hx)
        rw [hx]
        clear hx
        go_wp2
        go_round
        case rel => exact ⟨k + 1, by omega, by go_num, hbB, HC⟩
        case measure => simp [intOf]; omega
      · have hx' : okX E = false := by simpa using hx
        have HN := Lib.hid (HNo.out hx')
        rw [hx']
        clear hx
        go_wp2
        go_ret
        exact ⟨ret_bool HN.out.symm, hbw2⟩
    · obtain rfl : k = 2 := by omega
      have HY := Lib.hid (okX_yes HK.out HA.out)
      go_wp2
      go_ret
      exact ⟨ret_bool HY.out.symm, hbw⟩

set_option maxRecDepth 100000 in
set_option maxHeartbeats 8000000 in
theorem rv_4 (f : Fld) (a : Nat → Ex) (ao : Option Addr) (c : Nat) (g : Nat → Value) (w : World) (hf : f.fit) (hc : f.n ≤ c) (ho : f.op = 4)
    (hcell : ∀ i, i < f.n → ∃ b o, ao = some ⟨b, o, none⟩ ∧ ∀ j, j < 8 → w.cell? ⟨b, o + i * 8 + j, none⟩ = cells8 (a i).f (g i) j)
    (hsl : ∀ i, i < f.n → ∃ sa sc, g i = .slice sa (a i).f.n sc)
    (ih : ∀ i, i < f.n → ∀ w', Below w.heap.size w w' → Calls Try.prog 65 #[(a i).f.val (g i)] w' fun r w'' => r = .returned (.bool (okX (a i))) ∧ Below w'.heap.size w' w'') :
    Calls Try.prog 65 #[f.val (.slice ao f.n c)] w fun r w' => r = .returned (.bool (okX (.mk f a))) ∧ Below w.heap.size w w' := by
  obtain ⟨op, media, frame, num, den, par, text, n⟩ := f
  obtain ⟨hm, ht, hn⟩ := hf
  simp only at ho hm ht hn hcell hsl ih hc
  subst ho
  have BA := bare_any (⟨4, media, frame, num, den, par, text, n⟩ : Fld) (.slice ao n c)
  unfold Fld.val at BA ⊢
  simp only at BA
  go_enter Try.func65, Try.ntmps65
  by_cases q1 : par < 0
  · have HN := Lib.hid (okX_fld (a := a) (show okFld (⟨4, media, frame, num, den, par, text, n⟩ : Fld) = false by rw [okF4 rfl]; simp; omega))
    go_wp2
    all_goals go_ret
    all_goals exact ⟨ret_bool HN.out.symm, below_box w _⟩
  by_cases q2 : 255 < par
  · have HN := Lib.hid (okX_fld (a := a) (show okFld (⟨4, media, frame, num, den, par, text, n⟩ : Fld) = false by rw [okF4 rfl]; simp; omega))
    go_wp2
    all_goals go_ret
    all_goals exact ⟨ret_bool HN.out.symm, below_box w _⟩
  go_wp2_with fail
  refine (BA _ (by decide)).mono ?_
  rintro r w2 ⟨rfl, hb2⟩
  have W2 : Below w.heap.size w w2 := (below_box w _).trans (hb2.mono (by simp))
  have k7 := ((B8.of_alloc w w.heap.size (⟨4, media, frame, num, den, par, text, n⟩ : Fld) (.slice ao n c) 58 rfl).below hb2).k7
  clear BA
  have hs2 : w.heap.size < w2.heap.size := block_lt_of_cell k7
  clear hb2
  by_cases hy : okBare (⟨4, media, frame, num, den, par, text, n⟩ : Fld) = true
  rotate_left
  · have hy' : okBare (⟨4, media, frame, num, den, par, text, n⟩ : Fld) = false := by simpa using hy
    have HN := Lib.hid (okX_fld (a := a) (show okFld (⟨4, media, frame, num, den, par, text, n⟩ : Fld) = false by rw [okF4 rfl]; rw [hy']; simp))
    rw [hy']
    go_wp2
    all_goals go_ret
    all_goals exact ⟨ret_bool HN.out.symm, W2⟩
  have HYB := Lib.hid hy
  rw [hy]
  clear hy
  by_cases hnn : n = 2
  rotate_left
  · have HN := Lib.hid (okX_fld (a := a) (show okFld (⟨4, media, frame, num, den, par, text, n⟩ : Fld) = false by rw [okF4 rfl]; simp [hnn]))
    have hnn' : (((n : Nat) : Int) != 2) = true := by rw [bne_iff_ne]; omega
    go_wp2
    all_goals go_ret
    all_goals exact ⟨ret_bool HN.out.symm, W2⟩
  subst hnn
  have HK := Lib.hid (show okFld (⟨4, media, frame, num, den, par, text, 2⟩ : Fld) = true by rw [okF4 rfl]; rw [HYB.out]; simp; omega)
  go_wp2_with fail
  go_loopw [4] (fun i wr => ∃ k : Nat, k ≤ 2 ∧ i = .int .i64 (k : Int) ∧ Below w2.heap.size w2 wr ∧ Hid (∀ i, i < k → okX (a i) = true)) (fun i _ => 2 - (intOf i).toNat)
  case atStart => exact ⟨0, Nat.zero_le _, rfl, Below.refl _ _, Lib.hid (fun i hi => absurd hi (Nat.not_lt_zero i))⟩
  case round =>
    obtain ⟨k, hk, rfl, hb, HA⟩ := hrel
    have hbw : Below w.heap.size w wr := W2.trans (hb.mono W2.size)
    have z7 := (hb.cell (p := ⟨w.heap.size, 7, none⟩) hs2).trans k7
    by_cases hlt : k < 2
    · obtain ⟨b, o, rfl, hC⟩ := hcell k hlt
      obtain ⟨c0, c1, c2, c3, c4, c5, c6, c7⟩ := (C8.of hC).below hbw
      obtain ⟨sa, sc, hg⟩ := hsl k hlt
      rw [hg] at c7
      have HI := ih k hlt
      rw [hg] at HI
      unfold Fld.val at HI
      clear hC
      obtain ⟨E, hE⟩ : ∃ E, E = a k := ⟨_, rfl⟩
      rw [← hE] at c0 c1 c2 c3 c4 c5 c6 c7 HI
      have HNo := Lib.hid (fun (h : okX E = false) => okX_no (f := (⟨4, media, frame, num, den, par, text, 2⟩ : Fld)) (a := a) (k := k) hlt (by rw [← hE]; exact h))
      have HYs := Lib.hid (fun (h : okX E = true) => (show ∀ i, i < k + 1 → okX (a i) = true from fun i hi => by
        by_cases e : i = k
        · subst e; rw [← hE]; exact h
        · exact HA.out i (by omega)))
      clear hE hg
      go_wp2_with fail
      refine (HI _ hbw).mono ?_
      rintro r w3 ⟨rfl, hb3⟩
      have hbB : Below w2.heap.size w2 w3 := hb.trans (hb3.mono hb.size)
      have hbw2 : Below w.heap.size w w3 := W2.trans (hbB.mono W2.size)
      clear HI hb3
      by_cases hx : okX E = true
      · have HC := Lib.hid (HYs.out hx)
        rw [hx]
        clear hx
        go_wp2
        go_round
        case rel => exact ⟨k + 1, by omega, by go_num, hbB, HC⟩
        case measure => simp [intOf]; omega
      · have hx' : okX E = false := by simpa using hx
        have HN := Lib.hid (HNo.out hx')
        rw [hx']
        clear hx
        go_wp2
        go_ret
        exact ⟨ret_bool HN.out.symm, hbw2⟩
    · obtain rfl : k = 2 := by omega
      have HY := Lib.hid (okX_yes HK.out HA.out)
      go_wp2
      go_ret
      exact ⟨ret_bool HY.out.symm, hbw⟩

set_option maxRecDepth 100000 in
set_option maxHeartbeats 8000000 in
theorem rv_5 (f : Fld) (a : Nat → Ex) (ao : Option Addr) (c : Nat) (g : Nat → Value) (w : World) (hf : f.fit) (hc : f.n ≤ c) (ho : f.op = 5)
    (hcell : ∀ i, i < f.n → ∃ b o, ao = some ⟨b, o, none⟩ ∧ ∀ j, j < 8 → w.cell? ⟨b, o + i * 8 + j, none⟩ = cells8 (a i).f (g i) j)
    (hsl : ∀ i, i < f.n → ∃ sa sc, g i = .slice sa (a i).f.n sc)
    (ih : ∀ i, i < f.n → ∀ w', Below w.heap.size w w' → Calls Try.prog 65 #[(a i).f.val (g i)] w' fun r w'' => r = .returned (.bool (okX (a i))) ∧ Below w'.heap.size w' w'') :
    Calls Try.prog 65 #[f.val (.slice ao f.n c)] w fun r w' => r = .returned (.bool (okX (.mk f a))) ∧ Below w.heap.size w w' := by
  obtain ⟨op, media, frame, num, den, par, text, n⟩ := f
  obtain ⟨hm, ht, hn⟩ := hf
  simp only at ho hm ht hn hcell hsl ih hc
  subst ho
  have BA := bare_any (⟨5, media, frame, num, den, par, text, n⟩ : Fld) (.slice ao n c)
  unfold Fld.val at BA ⊢
  simp only at BA
  go_enter Try.func65, Try.ntmps65
  go_wp2_with fail
  refine (validLine_any text _ ht).mono ?_
  rintro r w1 ⟨rfl, rfl⟩
  by_cases hx : okText text = true
  rotate_left
  · have hx' : okText text = false := by simpa using hx
    have HN := Lib.hid (okX_fld (a := a) (show okFld (⟨5, media, frame, num, den, par, text, n⟩ : Fld) = false by rw [okF5 rfl]; simp [hx']))
    rw [hx']
    go_wp2
    all_goals go_ret
    all_goals exact ⟨ret_bool HN.out.symm, below_box w _⟩
  have HX := Lib.hid hx
  rw [hx]
  clear hx
  go_wp2_with fail
  refine (BA _ (by decide)).mono ?_
  rintro r w2 ⟨rfl, hb2⟩
  have W2 : Below w.heap.size w w2 := (below_box w _).trans (hb2.mono (by simp))
  have k7 := ((B8.of_alloc w w.heap.size (⟨5, media, frame, num, den, par, text, n⟩ : Fld) (.slice ao n c) 58 rfl).below hb2).k7
  clear BA
  have hs2 : w.heap.size < w2.heap.size := block_lt_of_cell k7
  clear hb2
  by_cases hy : okBare (⟨5, media, frame, num, den, par, text, n⟩ : Fld) = true
  rotate_left
  · have hy' : okBare (⟨5, media, frame, num, den, par, text, n⟩ : Fld) = false := by simpa using hy
    have HN := Lib.hid (okX_fld (a := a) (show okFld (⟨5, media, frame, num, den, par, text, n⟩ : Fld) = false by rw [okF5 rfl]; rw [hy']; simp))
    rw [hy']
    go_wp2
    all_goals go_ret
    all_goals exact ⟨ret_bool HN.out.symm, W2⟩
  have HYB := Lib.hid hy
  rw [hy]
  clear hy
  by_cases hnn : n = 1
  rotate_left
  · have HN := Lib.hid (okX_fld (a := a) (show okFld (⟨5, media, frame, num, den, par, text, n⟩ : Fld) = false by rw [okF5 rfl]; simp [hnn]))
    have hnn' : (((n : Nat) : Int) != 1) = true := by rw [bne_iff_ne]; omega
    go_wp2
    all_goals go_ret
    all_goals exact ⟨ret_bool HN.out.symm, W2⟩
  subst hnn
  have HK := Lib.hid (show okFld (⟨5, media, frame, num, den, par, text, 1⟩ : Fld) = true by rw [okF5 rfl]; rw [HX.out, HYB.out]; simp)
  go_wp2_with fail
  go_loopw [4] (fun i wr => ∃ k : Nat, k ≤ 1 ∧ i = .int .i64 (k : Int) ∧ Below w2.heap.size w2 wr ∧ Hid (∀ i, i < k → okX (a i) = true)) (fun i _ => 1 - (intOf i).toNat)
  case atStart => exact ⟨0, Nat.zero_le _, rfl, Below.refl _ _, Lib.hid (fun i hi => absurd hi (Nat.not_lt_zero i))⟩
  case round =>
    obtain ⟨k, hk, rfl, hb, HA⟩ := hrel
    have hbw : Below w.heap.size w wr := W2.trans (hb.mono W2.size)
    have z7 := (hb.cell (p := ⟨w.heap.size, 7, none⟩) hs2).trans k7
    by_cases hlt : k < 1
    · obtain ⟨b, o, rfl, hC⟩ := hcell k hlt
      obtain ⟨c0, c1, c2, c3, c4, c5, c6, c7⟩ := (C8.of hC).below hbw
      obtain ⟨sa, sc, hg⟩ := hsl k hlt
      rw [hg] at c7
      have HI := ih k hlt
      rw [hg] at HI
      unfold Fld.val at HI
      clear hC
      obtain ⟨E, hE⟩ : ∃ E, E = a k := ⟨_, rfl⟩
      rw [← hE] at c0 c1 c2 c3 c4 c5 c6 c7 HI
      have HNo := Lib.hid (fun (h : okX E = false) => okX_no (f := (⟨5, media, frame, num, den, par, text, 1⟩ : Fld)) (a := a) (k := k) hlt (by rw [← hE]; exact h))
      have HYs := Lib.hid (fun (h : okX E = true) => (show ∀ i, i < k + 1 → okX (a i) = true from fun i hi => by
        by_cases e : i = k
        · subst e; rw [← hE]; exact h
        · exact HA.out i (by omega)))
      clear hE hg
      go_wp2_with fail
      refine (HI _ hbw).mono ?_
      rintro r w3 ⟨rfl, hb3⟩
      have hbB : Below w2.heap.size w2 w3 := hb.trans (hb3.mono hb.size)
      have hbw2 : Below w.heap.size w w3 := W2.trans (hbB.mono W2.size)
      clear HI hb3
      by_cases hx : okX E = true
      · have HC := Lib.hid (HYs.out hx)
        rw [hx]
        clear hx
        go_wp2
        go_round
        case rel => exact ⟨k + 1, by omega, by go_num, hbB, HC⟩
        case measure => simp [intOf]; omega
      · have hx' : okX E = false := by simpa using hx
        have HN := Lib.hid (HNo.out hx')
        rw [hx']
        clear hx
        go_wp2
        go_ret
        exact ⟨ret_bool HN.out.symm, hbw2⟩
    · obtain rfl : k = 1 := by omega
      have HY := Lib.hid (okX_yes HK.out HA.out)
      go_wp2
      go_ret
      exact ⟨ret_bool HY.out.symm, hbw⟩

set_option maxRecDepth 100000 in
set_option maxHeartbeats 8000000 in
theorem rv_6 (f : Fld) (a : Nat → Ex) (ao : Option Addr) (c : Nat) (w : World) (h0 : f.op ≠ 0) (h1 : f.op ≠ 1) (h2 : f.op ≠ 2) (h3 : f.op ≠ 3) (h4 : f.op ≠ 4) (h5 : f.op ≠ 5) :
    Calls Try.prog 65 #[f.val (.slice ao f.n c)] w fun r w' => r = .returned (.bool (okX (.mk f a))) ∧ Below w.heap.size w w' := by
  have HN := Lib.hid (okX_fld (a := a) (show okFld f = false by simp [okFld, *]))
  have b0 : (f.op == 0) = false := by rw [beq_eq_false_iff_ne]; exact h0
  have b1 : (f.op == 1) = false := by rw [beq_eq_false_iff_ne]; exact h1
  have b2 : (f.op == 2) = false := by rw [beq_eq_false_iff_ne]; exact h2
  have b3 : (f.op == 3) = false := by rw [beq_eq_false_iff_ne]; exact h3
  have b4 : (f.op == 4) = false := by rw [beq_eq_false_iff_ne]; exact h4
  have b5 : (f.op == 5) = false := by rw [beq_eq_false_iff_ne]; exact h5
  unfold Fld.val
  go_enter Try.func65, Try.ntmps65
  go_wp2
  go_ret
  exact ⟨ret_bool HN.out.symm, below_box w _⟩

theorem rvalid_any {w0 : World} {v : Value} {e : Ex} (h : XA w0 v e) : ∀ w, Below w0.heap.size w0 w →
    Calls Try.prog 65 #[v] w fun r w' => r = .returned (.bool (okX e)) ∧ Below w.heap.size w w' := by
  induction h with
  | mk f a ao c g hf hc hcell hsub ih =>
    intro w hw
    have hcell' : ∀ i, i < f.n → ∃ b o, ao = some ⟨b, o, none⟩ ∧ ∀ j, j < 8 → w.cell? ⟨b, o + i * 8 + j, none⟩ = cells8 (a i).f (g i) j := fun i hi => by
      obtain ⟨b, o, e, h⟩ := hcell i hi
      exact ⟨b, o, e, ((C8.of h).below hw).to⟩
    have hsl : ∀ i, i < f.n → ∃ sa sc, g i = .slice sa (a i).f.n sc := fun i hi => (hsub i hi).slice
    have hih : ∀ i, i < f.n → ∀ w', Below w.heap.size w w' → Calls Try.prog 65 #[(a i).f.val (g i)] w' fun r w'' => r = .returned (.bool (okX (a i))) ∧ Below w'.heap.size w' w'' :=
      fun i hi w' hb => ih i hi w' (hw.trans (hb.mono hw.size))
    by_cases h0 : f.op = 0
    · exact rv_0 f a ao c g w hf hc h0 hcell' hsl hih
    by_cases h1 : f.op = 1
    · exact rv_1 f a ao c g w hf hc h1 hcell' hsl hih
    by_cases h2 : f.op = 2
    · exact rv_2 f a ao c g w hf hc h2 hcell' hsl hih
    by_cases h3 : f.op = 3
    · exact rv_3 f a ao c g w hf hc h3 hcell' hsl hih
    by_cases h4 : f.op = 4
    · exact rv_4 f a ao c g w hf hc h4 hcell' hsl hih
    by_cases h5 : f.op = 5
    · exact rv_5 f a ao c g w hf hc h5 hcell' hsl hih
    exact rv_6 f a ao c w h0 h1 h2 h3 h4 h5

end Go.Proofs.Ytnnobdcbmagbaaa

/- Frames in a list of the call's own; what an expression denotes. -/
namespace Go.Proofs.Ytnnobdcbmagbaaa
open Go.RowKit
set_option linter.unusedVariables false

/-- Five cells of a block. -/
structure C5 (w : World) (g p : Nat) (c0 c1 c2 c3 c4 : Value) : Prop where
  k0 : w.cell? ⟨g, p, none⟩ = some c0
  k1 : w.cell? ⟨g, p + 1, none⟩ = some c1
  k2 : w.cell? ⟨g, p + 2, none⟩ = some c2
  k3 : w.cell? ⟨g, p + 3, none⟩ = some c3
  k4 : w.cell? ⟨g, p + 4, none⟩ = some c4
theorem C5.lt {w : World} {g p : Nat} {c0 c1 c2 c3 c4 : Value} (h : C5 w g p c0 c1 c2 c3 c4) : g < w.heap.size := block_lt_of_cell h.k0
theorem C5.below {w w' : World} {g p : Nat} {c0 c1 c2 c3 c4 : Value} (h : C5 w g p c0 c1 c2 c3 c4) (hb : Below w.heap.size w w') : C5 w' g p c0 c1 c2 c3 c4 :=
  ⟨(hb.cell h.lt).trans h.k0, (hb.cell h.lt).trans h.k1, (hb.cell h.lt).trans h.k2, (hb.cell h.lt).trans h.k3, (hb.cell h.lt).trans h.k4⟩
def pat5 (w : World) (g p : Nat) (c0 c1 c2 c3 c4 : Value) : World := ((((w.setCell ⟨g, p, none⟩ c0).setCell ⟨g, p + 1, none⟩ c1).setCell ⟨g, p + 2, none⟩ c2).setCell ⟨g, p + 3, none⟩ c3).setCell ⟨g, p + 4, none⟩ c4
theorem pat5_other (w : World) {g p : Nat} (c0 c1 c2 c3 c4 : Value) {q : Addr} (h : q.block ≠ g ∨ q.off < p ∨ p + 5 ≤ q.off) : (pat5 w g p c0 c1 c2 c3 c4).cell? q = w.cell? q := by
  have hn : ∀ j, j < 5 → (⟨g, p + j, none⟩ : Addr) ≠ q := by
    rintro j hj rfl
    simp at h
    omega
  unfold pat5
  rw [World.cell?_setCell_other _ _ _ _ (hn 4 (by decide)), World.cell?_setCell_other _ _ _ _ (hn 3 (by decide)), World.cell?_setCell_other _ _ _ _ (hn 2 (by decide)), World.cell?_setCell_other _ _ _ _ (hn 1 (by decide))]
  exact World.cell?_setCell_other _ _ _ _ (hn 0 (by decide))
theorem C5.put {w : World} {g p : Nat} {x0 x1 x2 x3 x4 : Value} (h : C5 w g p x0 x1 x2 x3 x4) (c0 c1 c2 c3 c4 : Value) : C5 (pat5 w g p c0 c1 c2 c3 c4) g p c0 c1 c2 c3 c4 := by
  obtain ⟨h0, h1, h2, h3, h4⟩ := h
  unfold pat5
  exact ⟨by simp [go_sem, h0], by simp [go_sem, h1], by simp [go_sem, h2], by simp [go_sem, h3], by simp [go_sem, h4]⟩
theorem C5.off {w : World} {g q p : Nat} {x0 x1 x2 x3 x4 : Value} (h : C5 w g q x0 x1 x2 x3 x4) (hd : q + 5 ≤ p ∨ p + 5 ≤ q) (c0 c1 c2 c3 c4 : Value) : C5 (pat5 w g p c0 c1 c2 c3 c4) g q x0 x1 x2 x3 x4 := by
  obtain ⟨h0, h1, h2, h3, h4⟩ := h
  refine ⟨?_, ?_, ?_, ?_, ?_⟩
  · rw [pat5_other _ _ _ _ _ _ (Or.inr (by simp; omega))]; exact h0
  · rw [pat5_other _ _ _ _ _ _ (Or.inr (by simp; omega))]; exact h1
  · rw [pat5_other _ _ _ _ _ _ (Or.inr (by simp; omega))]; exact h2
  · rw [pat5_other _ _ _ _ _ _ (Or.inr (by simp; omega))]; exact h3
  · rw [pat5_other _ _ _ _ _ _ (Or.inr (by simp; omega))]; exact h4
theorem FA.put5at {w : World} {v : Value} {F : Fr} (h : FA w v F) {g p : Nat} {a0 a1 : Int} {s2 s3 s4 : Option Addr} {l2 k2 l3 k3 l4 k4 : Nat} (hC : C5 w g p (.int .i64 a0) (.int .i64 a1) (.slice s2 l2 k2) (.slice s3 l3 k3) (.slice s4 l4 k4)) (c0 c1 c2 c3 c4 : Value) :
    FA (pat5 w g p c0 c1 c2 c3 c4) v F := by
  obtain ⟨h0, h1, h2, h3, h4⟩ := hC
  unfold pat5
  refine FA.put (FA.put (FA.put (FA.put (FA.put h h0 (by simp) c0) (u := .int .i64 a1) ?_ (by simp) c1) (u := .slice s2 l2 k2) ?_ (by simp) c2) (u := .slice s3 l3 k3) ?_ (by simp) c3) (u := .slice s4 l4 k4) ?_ (by simp) c4
  · simp [go_sem, h1]
  · simp [go_sem, h2]
  · simp [go_sem, h3]
  · simp [go_sem, h4]

/-- Block g is a list of n frames, of which the first k are R 0, .., the others zero. -/
def ArgsA (w : World) (g n k : Nat) (R : Nat → Fr) : Prop :=
  (∀ i, i < k → ∃ ay cy au cu av cv, C5 w g (i * 5) (.int .i64 (R i).W) (.int .i64 (R i).H) (.slice ay (R i).nY cy) (.slice au (R i).nU cu) (.slice av (R i).nV cv) ∧
    FA w (.agg #[.int .i64 (R i).W, .int .i64 (R i).H, .slice ay (R i).nY cy, .slice au (R i).nU cu, .slice av (R i).nV cv]) (R i)) ∧
  (∀ i, k ≤ i → i < n → C5 w g (i * 5) (.int .i64 0) (.int .i64 0) (.slice none 0 0) (.slice none 0 0) (.slice none 0 0))
theorem ArgsA.below {w w' : World} {g n k : Nat} {R : Nat → Fr} (h : ArgsA w g n k R) (hb : Below w.heap.size w w') : ArgsA w' g n k R := by
  refine ⟨fun i hi => ?_, fun i h1 h2 => (h.2 i h1 h2).below hb⟩
  obtain ⟨ay, cy, au, cu, av, cv, hC, hF⟩ := h.1 i hi
  exact ⟨ay, cy, au, cu, av, cv, hC.below hb, hF.below hb⟩
theorem ArgsA.store {w : World} {g n k : Nat} {R : Nat → Fr} (h : ArgsA w g n k R) (hk : k < n) {ay au av : Option Addr} {cy cu cv : Nat}
    (hF : FA w (.agg #[.int .i64 (R k).W, .int .i64 (R k).H, .slice ay (R k).nY cy, .slice au (R k).nU cu, .slice av (R k).nV cv]) (R k)) :
    ArgsA (pat5 w g (k * 5) (.int .i64 (R k).W) (.int .i64 (R k).H) (.slice ay (R k).nY cy) (.slice au (R k).nU cu) (.slice av (R k).nV cv)) g n (k + 1) R := by
  have hz := h.2 k (Nat.le_refl _) hk
  refine ⟨fun i hi => ?_, fun i h1 h2 => (h.2 i (by omega) h2).off (by omega) _ _ _ _ _⟩
  by_cases e : i = k
  · subst e
    exact ⟨ay, cy, au, cu, av, cv, hz.put _ _ _ _ _, hF.put5at hz _ _ _ _ _⟩
  · obtain ⟨ay', cy', au', cu', av', cv', hC, hF'⟩ := h.1 i (by omega)
    exact ⟨ay', cy', au', cu', av', cv', hC.off (by omega) _ _ _ _ _, hF'.put5at hz _ _ _ _ _⟩
theorem args_made {w1 : World} {base g n : Nat} {R : Nat → Fr} (hn : n ≤ 2) (h : w1.ownsRow base 26 5 (.slice (some ⟨g, 0, none⟩) n n) n (madeCells zeroV.cells (n * 5)).toList) : ArgsA w1 g n 0 R ∧ ∀ o, w1.frozen? ⟨g, o, none⟩ = false := by
  obtain ⟨hl, ⟨hv, _⟩ | ⟨g', cap, cur, hv, hb, hg, h1, h2, h3, h4⟩⟩ := h
  · simp at hv
  · simp only [Value.slice.injEq, Option.some.injEq, Addr.mk.injEq, and_true, true_and] at hv
    obtain ⟨rfl, rfl⟩ := hv
    have hcur : cur.toList = (madeCells zeroV.cells (n * 5)).toList := by
      rw [← h4, List.take_of_length_le (by simp; omega)]
    have hc : ∀ j, w1.cell? ⟨g, j, none⟩ = (madeCells zeroV.cells (n * 5)).toList[j]? := fun j => by
      rw [← hcur]
      simp [World.cell?, hg]
    refine ⟨⟨fun i hi => absurd hi (Nat.not_lt_zero i), fun i _ hi => ?_⟩, fun o => by simp [World.frozen?, hg]⟩
    have : n = 1 ∨ n = 2 := by omega
    rcases this with rfl | rfl
    · obtain rfl : i = 0 := by omega
      exact ⟨(hc _).trans (by kernel_rfl), (hc _).trans (by kernel_rfl), (hc _).trans (by kernel_rfl), (hc _).trans (by kernel_rfl), (hc _).trans (by kernel_rfl)⟩
    · have : i = 0 ∨ i = 1 := by omega
      rcases this with rfl | rfl
      · exact ⟨(hc _).trans (by kernel_rfl), (hc _).trans (by kernel_rfl), (hc _).trans (by kernel_rfl), (hc _).trans (by kernel_rfl), (hc _).trans (by kernel_rfl)⟩
      · exact ⟨(hc _).trans (by kernel_rfl), (hc _).trans (by kernel_rfl), (hc _).trans (by kernel_rfl), (hc _).trans (by kernel_rfl), (hc _).trans (by kernel_rfl)⟩

theorem okFld_n {f : Fld} (h : okFld f = true) : 0 ≤ f.op ∧ f.op ≤ 5 ∧ f.n = if f.op = 0 ∨ f.op = 1 then 0 else if f.op = 5 then 1 else 2 := by
  by_cases h0 : f.op = 0
  · rw [okF0 h0] at h; simp at h; simp [h0, h]
  by_cases h1 : f.op = 1
  · rw [okF1 h1] at h; simp at h; simp [h1, h]
  by_cases h2 : f.op = 2
  · rw [okF2 h2] at h; simp at h; simp [h2, h]
  by_cases h3 : f.op = 3
  · rw [okF3 h3] at h; simp at h; simp [h3, h]
  by_cases h4 : f.op = 4
  · rw [okF4 h4] at h; simp at h; simp [h4, h]
  by_cases h5 : f.op = 5
  · rw [okF5 h5] at h; simp at h; simp [h5, h]
  simp [okFld, h0, h1, h2, h3, h4, h5] at h
theorem okX_f {f : Fld} {a : Nat → Ex} (h : okX (.mk f a) = true) : okFld f = true ∧ ∀ i, i < f.n → okX (a i) = true := by
  simp only [okX, Bool.and_eq_true, List.all_eq_true, List.mem_range] at h
  exact h
/-- The first argument that is an error decides. -/
theorem evX_err {P : Nat → Pic} {m : Nat} {W H : Int} {f : Fld} {a : Nat → Ex} (hf : okFld f = true) {k : Nat} (hk : k < f.n) (h0 : ∀ i, i < k → (evX P m W H (a i)).1 = 0) (h1 : (evX P m W H (a k)).1 ≠ 0) :
    evX P m W H (.mk f a) = ((evX P m W H (a k)).1, Fr.zero) := by
  obtain ⟨l, u, hn⟩ := okFld_n hf
  have hc : f.op = 0 ∨ f.op = 1 ∨ f.op = 2 ∨ f.op = 3 ∨ f.op = 4 ∨ f.op = 5 := by omega
  rcases hc with e | e | e | e | e | e <;> rw [e] at hn <;> simp at hn <;> rw [hn] at hk
  · omega
  · omega
  all_goals
    have hk2 : k = 0 ∨ k = 1 := by omega
    rcases hk2 with rfl | rfl
    · rw [evX]; simp [e, h1]
    · first
        | omega
        | (have := h0 0 (by omega); rw [evX]; simp [e, h1, this])

theorem FA.bd1 {w : World} {v : Value} {F : Fr} (h : FA w v F) : ∀ i, i < F.nY → 0 ≤ F.Y i ∧ F.Y i < 256 := by
  obtain ⟨y, u, z, rfl, h1, h2, h3⟩ := h; exact h1.bd
theorem FA.bd2 {w : World} {v : Value} {F : Fr} (h : FA w v F) : ∀ i, i < F.nU → 0 ≤ F.U i ∧ F.U i < 256 := by
  obtain ⟨y, u, z, rfl, h1, h2, h3⟩ := h; exact h2.bd
theorem FA.bd3 {w : World} {v : Value} {F : Fr} (h : FA w v F) : ∀ i, i < F.nV → 0 ≤ F.V i ∧ F.V i < 256 := by
  obtain ⟨y, u, z, rfl, h1, h2, h3⟩ := h; exact h3.bd

end Go.Proofs.Ytnnobdcbmagbaaa
