/- Texts of this claim joined: XV. -/
import Derived.Test.YtnnobdcbmagbaaaEv25
set_option linter.unusedVariables false
set_option linter.unusedSimpArgs false

/- The contract of the tape's Expr. -/
namespace Go.Proofs.Ytnnobdcbmagbaaa
open Go.RowKit
set_option linter.unusedVariables false

theorem okB_name (d : Nat) (h : d < 3) : okName (mName d) = true := by
  rcases (show d = 0 ∨ d = 1 ∨ d = 2 by omega) with rfl | rfl | rfl <;> decide +kernel
theorem okX_src (d n : Nat) (h : d < 3) (hn : n < 8) : okX (.mk ⟨1, mName d, (n : Int), 0, 0, 0, (⟨#[]⟩ : ByteArray), 0⟩ (fun _ => .nil)) = true := by
  refine okX_yes ?_ (fun i hi => absurd hi (Nat.not_lt_zero i))
  rw [okF1 rfl, okB_name d h]
  have e : okBare ⟨1, mName d, (n : Int), 0, 0, 0, (⟨#[]⟩ : ByteArray), 0⟩ = true := by
    have e0 : (⟨#[]⟩ : ByteArray).size = 0 := rfl
    unfold okBare
    rw [e0]
    rfl
  have e1 : decide (0 ≤ (n : Int) ∧ (n : Int) ≤ 2147483646) = true := decide_eq_true (by omega)
  rw [e, e1]
  rfl
theorem good_src (d n : Nat) (h : d < 3) (hn : n < 8) : GoodX (.mk ⟨1, mName d, (n : Int), 0, 0, 0, (⟨#[]⟩ : ByteArray), 0⟩ (fun _ => .nil)) :=
  ⟨fun _ => ⟨d, n, h, hn, rfl, rfl⟩, fun i hi => absurd hi (Nat.not_lt_zero i)⟩
def blackX : Ex := .mk ⟨0, (⟨#[]⟩ : ByteArray), 0, 0, 0, 0, (⟨#[]⟩ : ByteArray), 0⟩ (fun _ => .nil)
theorem okX_black : okX blackX = true := okX_yes (by decide +kernel) (fun i hi => absurd hi (Nat.not_lt_zero i))
theorem good_black : GoodX blackX := ⟨fun h => absurd h (by decide), fun i hi => absurd hi (Nat.not_lt_zero i)⟩

theorem fit_4 (pr : Int) : Fld.fit ⟨4, (⟨#[]⟩ : ByteArray), 0, 0, 0, pr, (⟨#[]⟩ : ByteArray), 2⟩ := ⟨by show ByteArray.size (⟨#[]⟩ : ByteArray) ≤ _; decide, by show ByteArray.size (⟨#[]⟩ : ByteArray) ≤ _; decide, by show (2 : Nat) ≤ _; omega⟩
theorem okF_4 (pr : Int) (h0 : 0 ≤ pr) (h1 : pr < 256) : okFld ⟨4, (⟨#[]⟩ : ByteArray), 0, 0, 0, pr, (⟨#[]⟩ : ByteArray), 2⟩ = true := by
  rw [okF4 rfl]
  have e0 : ((⟨#[]⟩ : ByteArray)).size = 0 := rfl
  have e1 : decide (0 ≤ pr ∧ pr ≤ 255) = true := decide_eq_true (by omega)
  have e : okBare ⟨4, (⟨#[]⟩ : ByteArray), 0, 0, 0, pr, (⟨#[]⟩ : ByteArray), 2⟩ = true := by
    unfold okBare
    rw [e0]
    rfl
  rw [e, e1]
  rfl

def sT (q : Nat) : ByteArray := if q = 0 then (⟨#[65]⟩ : ByteArray) else (⟨#[69, 78, 68, 32, 50]⟩ : ByteArray)
theorem sT_ok (q : Nat) : okText (sT q) = true ∧ (sT q).size ≤ 9223372036854775807 := by
  unfold sT
  split
  · exact ⟨by decide +kernel, by show (1 : Nat) ≤ _; omega⟩
  · exact ⟨by decide +kernel, by show (5 : Nat) ≤ _; omega⟩
theorem okF_5 (q : Nat) : okFld ⟨5, (⟨#[]⟩ : ByteArray), 0, 0, 0, 0, sT q, 1⟩ = true := by
  rw [okF5 rfl]
  have e0 : ((⟨#[]⟩ : ByteArray)).size = 0 := rfl
  have e : okBare ⟨5, (⟨#[]⟩ : ByteArray), 0, 0, 0, 0, sT q, 1⟩ = true := by
    unfold okBare
    rw [e0]
    rfl
  have e1 : okText (⟨5, (⟨#[]⟩ : ByteArray), 0, 0, 0, 0, sT q, 1⟩ : Fld).text = true := (sT_ok q).1
  rw [e, e1]
  rfl
theorem fit_5 (q : Nat) : Fld.fit ⟨5, (⟨#[]⟩ : ByteArray), 0, 0, 0, 0, sT q, 1⟩ := ⟨by show ByteArray.size (⟨#[]⟩ : ByteArray) ≤ _; decide, (sT_ok q).2, by show (1 : Nat) ≤ _; omega⟩
theorem str_at {w : World} {bl q : Nat} (h : w.cell? ⟨bl, 0, none⟩ = some (.string (⟨#[65]⟩ : ByteArray)) ∧ w.cell? ⟨bl, 1, none⟩ = some (.string (⟨#[69, 78, 68, 32, 50]⟩ : ByteArray))) (hq : q < 2) : w.cell? ⟨bl, q, none⟩ = some (.string (sT q)) := by
  rcases (show q = 0 ∨ q = 1 by omega) with rfl | rfl
  · exact h.1
  · exact h.2

def At7 (b g : Nat) (w : World) : Prop := w.cell? ⟨b, 7, none⟩ = some (.slice (some ⟨g, 0, none⟩) 2 2)
theorem okF_2 (op num den par : Int) (n : Nat) (h : op = 2 ∧ par = 0 ∨ op = 3 ∧ 0 ≤ par ∧ par < 4) (hn : num = 1 ∨ num = 3) (hd : den = 4 ∨ den = 5 ∨ den = 7) : okFld ⟨op, (⟨#[]⟩ : ByteArray), 0, num, den, par, (⟨#[]⟩ : ByteArray), 2⟩ = true := by
  have e0 : ((⟨#[]⟩ : ByteArray)).size = 0 := rfl
  have er : okRatio num den = true := by
    rcases hn with rfl | rfl <;> rcases hd with rfl | rfl | rfl <;> decide +kernel
  rcases h with ⟨rfl, rfl⟩ | ⟨rfl, h1, h2⟩
  · rw [okF2 rfl]
    have e : okBare ⟨2, (⟨#[]⟩ : ByteArray), 0, num, den, 0, (⟨#[]⟩ : ByteArray), 2⟩ = true := by
      unfold okBare
      rw [e0]
      rfl
    rw [e]
    show (okRatio num den && _ && _ && _) = true
    rw [er]
    rfl
  · rw [okF3 rfl]
    have e : okBare ⟨3, (⟨#[]⟩ : ByteArray), 0, num, den, par, (⟨#[]⟩ : ByteArray), 2⟩ = true := by
      unfold okBare
      rw [e0]
      rfl
    have e1 : decide (0 ≤ par ∧ par ≤ 3) = true := decide_eq_true (by omega)
    rw [e]
    show (okRatio num den && decide (0 ≤ par ∧ par ≤ 3) && _ && _) = true
    rw [er, e1]
    rfl
theorem fit_2 (op num den par : Int) : Fld.fit ⟨op, (⟨#[]⟩ : ByteArray), 0, num, den, par, (⟨#[]⟩ : ByteArray), 2⟩ := ⟨by show ByteArray.size (⟨#[]⟩ : ByteArray) ≤ _; decide, by show ByteArray.size (⟨#[]⟩ : ByteArray) ≤ _; decide, by show (2 : Nat) ≤ _; omega⟩
set_option maxRecDepth 100000 in
set_option maxHeartbeats 16000000 in
theorem expr_any : ∀ (d : Nat) (B p kk : Nat) (w : World), TP w B p kk → kk + cost d ≤ 900000 → d ≤ 10 → Calls Try.prog 33 #[.pointer (some ⟨p, 0, none⟩), .int .i64 (d : Int)] w (ExprPost w B p kk (cost d)) := by
  intro d
  induction d with
  | zero =>
    intro B p kk w ht hkk hd
    have hpw : p < w.heap.size := ht.2.1
    have hBp : B ≤ p := ht.1
    go_enter Try.func33, Try.ntmps33
    go_upto_region 1 with fail
    obtain ⟨w1, hw⟩ : ∃ x, x = w.alloc (.cells #[.int .i64 0, .string (⟨#[]⟩ : ByteArray), .int .i64 0, .int .i64 0, .int .i64 0, .int .i64 0, .string (⟨#[]⟩ : ByteArray), .slice none 0 0] 58) := ⟨_, rfl⟩
    rw [← hw]
    have HT1 := Lib.hid (show TP w1 B p kk by rw [hw]; exact ht.below (below_box _ _))
    have HG1 := Lib.hid (show w.grownBy w1 (some p) by rw [hw]; exact only_of_below (below_box _ _))
    have HZ1 := Lib.hid (show Z8 w1 w.heap.size by rw [hw]; constructor <;> simp [go_sem])
    clear hw ht
    go_wp2_with fail
    refine (next_any B p _ 8 _ HT1.out (by omega) (by omega) (by omega)).mono ?_
    rintro e w2 ⟨r, rfl, r0, r1, hT_, hg_⟩
    have HT2 := Lib.hid hT_
    have HG2 := Lib.hid (only_trans HG1.out hg_)
    have HZ2 := Lib.hid (HZ1.out.only hpw hg_)
    clear hT_ hg_
    by_cases h3 : r ≤ 3
    · by_cases h0 : r = 0
      · subst h0
        obtain ⟨z0, z1, z2, z3, z4, z5, z6, z7, zf⟩ := HZ2.out
        have hsz2 := HG2.out.size
        go_wp2_with fail
        have HB8 := Lib.hid (HZ2.out.put ⟨0, (⟨#[]⟩ : ByteArray), 0, 0, 0, 0, (⟨#[]⟩ : ByteArray), 0⟩ (.slice none 0 0))
        refine bodyPost_ret (results_cell Try.results33 _ _ _ rfl (load_x HB8.out)) rfl ?_
        refine ⟨_, blackX, _, rfl, .mk _ _ _ _ (fun _ => .slice none 0 0) ⟨by show ByteArray.size (⟨#[]⟩ : ByteArray) ≤ _; decide, by show ByteArray.size (⟨#[]⟩ : ByteArray) ≤ _; decide, by show (0 : Nat) ≤ _; omega⟩ (Nat.le_refl _) (fun i hi => absurd hi (Nat.not_lt_zero i)) (fun i hi => absurd hi (Nat.not_lt_zero i)), okX_black, good_black, HT2.out.put8 (by omega) (by omega) _ _ _ _ _ _ _ _, by have : cost 0 = 4 := rfl; omega, only_low HG2.out (put8_below _ _ _ _ _ _ _ _ _ (Nat.le_refl _)) (Nat.le_refl _)⟩
      · have hgt : ¬ (3 : Int) < r := by omega
        have hcost : cost 0 = 4 := rfl
        have hd1 : decide (r = 0) = false := by simp; omega
        have hd4 : decide (r = 4) = false := by simp; omega
        have hb0 : (r == 0) = false := by rw [beq_eq_false_iff_ne]; omega
        have hb4 : (r == 4) = false := by rw [beq_eq_false_iff_ne]; omega
        have hb5 : (r == 5) = false := by rw [beq_eq_false_iff_ne]; omega
        have hb6 : (r == 6) = false := by rw [beq_eq_false_iff_ne]; omega
        have hb7 : (r == 7) = false := by rw [beq_eq_false_iff_ne]; omega
        go_wp2_with fail
        refine (next_any B p _ 3 _ HT2.out (by omega) (by omega) (by omega)).mono ?_
        rintro e w4 ⟨dd, rfl, dd0, dd1, hT_, hg_⟩
        have HT4 := Lib.hid hT_
        have HG4 := Lib.hid (only_trans HG2.out hg_)
        have HZ4 := Lib.hid (HZ2.out.only hpw hg_)
        clear hT_ hg_
        obtain ⟨dn, rfl⟩ : ∃ n : Nat, dd = n := ⟨dd.toNat, by omega⟩
        have hdn : dn < 3 := by omega
        go_wp2_with fail
        refine (name_any dn _ hdn).mono ?_
        rintro e wn ⟨rfl, rfl⟩
        go_wp2_with fail
        refine (next_any B p _ 8 _ HT4.out (by omega) (by omega) (by omega)).mono ?_
        rintro e w5 ⟨n8, rfl, n80, n81, hT_, hg_⟩
        have HT5 := Lib.hid hT_
        have HG5 := Lib.hid (only_trans HG4.out hg_)
        have HZ5 := Lib.hid (HZ4.out.only hpw hg_)
        clear hT_ hg_
        obtain ⟨nn, rfl⟩ : ∃ n : Nat, n8 = n := ⟨n8.toNat, by omega⟩
        have hnn : nn < 8 := by omega
        obtain ⟨z0, z1, z2, z3, z4, z5, z6, z7, zf⟩ := HZ5.out
        have hsz5 := HG5.out.size
        go_wp2_with fail
        have HB8 := Lib.hid (HZ5.out.put ⟨1, mName dn, (nn : Int), 0, 0, 0, (⟨#[]⟩ : ByteArray), 0⟩ (.slice none 0 0))
        refine bodyPost_ret (results_cell Try.results33 _ _ _ rfl (load_x HB8.out)) rfl ?_
        refine ⟨_, .mk ⟨1, mName dn, (nn : Int), 0, 0, 0, (⟨#[]⟩ : ByteArray), 0⟩ (fun _ => .nil), _, rfl, .mk _ _ _ _ (fun _ => .slice none 0 0) ⟨by show (mName dn).size ≤ _; have : (mName dn).size = 2 := rfl; omega, by show ByteArray.size (⟨#[]⟩ : ByteArray) ≤ _; decide, by show (0 : Nat) ≤ _; omega⟩ (Nat.le_refl _) (fun i hi => absurd hi (Nat.not_lt_zero i)) (fun i hi => absurd hi (Nat.not_lt_zero i)), okX_src dn nn hdn hnn, good_src dn nn hdn hnn, HT5.out.put8 (by omega) (by omega) _ _ _ _ _ _ _ _, by omega, only_low HG5.out (put8_below _ _ _ _ _ _ _ _ _ (Nat.le_refl _)) (Nat.le_refl _)⟩
    · have hgt : (3 : Int) < r := by omega
      have hcost : cost 0 = 4 := rfl
      go_wp2_with fail
      refine (next_any B p _ 3 _ HT2.out (by omega) (by omega) (by omega)).mono ?_
      rintro e w3 ⟨ra, rfl, ra0, ra1, hT_, hg_⟩
      have HT3 := Lib.hid hT_
      have HG3 := Lib.hid (only_trans HG2.out hg_)
      have HZ3 := Lib.hid (HZ2.out.only hpw hg_)
      clear hT_ hg_
      go_upto_region 4 with fail
      obtain ⟨rr, hrr⟩ : ∃ x : Int, x = 1 + ra := ⟨_, rfl⟩
      try rw [← hrr]
      have hrr1 : 1 ≤ rr ∧ rr ≤ 3 := by omega
      clear hrr
      have hd1 : decide (rr = 0) = false := by simp; omega
      have hd4 : decide (rr = 4) = false := by simp; omega
      have hb0 : (rr == 0) = false := by rw [beq_eq_false_iff_ne]; omega
      have hb4 : (rr == 4) = false := by rw [beq_eq_false_iff_ne]; omega
      have hb5 : (rr == 5) = false := by rw [beq_eq_false_iff_ne]; omega
      have hb6 : (rr == 6) = false := by rw [beq_eq_false_iff_ne]; omega
      have hb7 : (rr == 7) = false := by rw [beq_eq_false_iff_ne]; omega
      go_wp2_with fail
      refine (next_any B p _ 3 _ HT3.out (by omega) (by omega) (by omega)).mono ?_
      rintro e w4 ⟨dd, rfl, dd0, dd1, hT_, hg_⟩
      have HT4 := Lib.hid hT_
      have HG4 := Lib.hid (only_trans HG3.out hg_)
      have HZ4 := Lib.hid (HZ3.out.only hpw hg_)
      clear hT_ hg_
      obtain ⟨dn, rfl⟩ : ∃ n : Nat, dd = n := ⟨dd.toNat, by omega⟩
      have hdn : dn < 3 := by omega
      go_wp2_with fail
      refine (name_any dn _ hdn).mono ?_
      rintro e wn ⟨rfl, rfl⟩
      go_wp2_with fail
      refine (next_any B p _ 8 _ HT4.out (by omega) (by omega) (by omega)).mono ?_
      rintro e w5 ⟨n8, rfl, n80, n81, hT_, hg_⟩
      have HT5 := Lib.hid hT_
      have HG5 := Lib.hid (only_trans HG4.out hg_)
      have HZ5 := Lib.hid (HZ4.out.only hpw hg_)
      clear hT_ hg_
      obtain ⟨nn, rfl⟩ : ∃ n : Nat, n8 = n := ⟨n8.toNat, by omega⟩
      have hnn : nn < 8 := by omega
      obtain ⟨z0, z1, z2, z3, z4, z5, z6, z7, zf⟩ := HZ5.out
      have hsz5 := HG5.out.size
      go_wp2_with fail
      have HB8 := Lib.hid (HZ5.out.put ⟨1, mName dn, (nn : Int), 0, 0, 0, (⟨#[]⟩ : ByteArray), 0⟩ (.slice none 0 0))
      refine bodyPost_ret (results_cell Try.results33 _ _ _ rfl (load_x HB8.out)) rfl ?_
      refine ⟨_, .mk ⟨1, mName dn, (nn : Int), 0, 0, 0, (⟨#[]⟩ : ByteArray), 0⟩ (fun _ => .nil), _, rfl, .mk _ _ _ _ (fun _ => .slice none 0 0) ⟨by show (mName dn).size ≤ _; have : (mName dn).size = 2 := rfl; omega, by show ByteArray.size (⟨#[]⟩ : ByteArray) ≤ _; decide, by show (0 : Nat) ≤ _; omega⟩ (Nat.le_refl _) (fun i hi => absurd hi (Nat.not_lt_zero i)) (fun i hi => absurd hi (Nat.not_lt_zero i)), okX_src dn nn hdn hnn, good_src dn nn hdn hnn, HT5.out.put8 (by omega) (by omega) _ _ _ _ _ _ _ _, by omega, only_low HG5.out (put8_below _ _ _ _ _ _ _ _ _ (Nat.le_refl _)) (Nat.le_refl _)⟩
  | succ d ih =>
    intro B p kk w ht hkk hd
    have hcost : cost (d + 1) = 5 + 2 * cost d := rfl
    have hdp : ¬ ((d + 1 : Nat) : Int) < 1 := by omega
    have hpw : p < w.heap.size := ht.2.1
    have hBp : B ≤ p := ht.1
    go_enter Try.func33, Try.ntmps33
    go_upto_region 1 with fail
    obtain ⟨w1, hw⟩ : ∃ x, x = w.alloc (.cells #[.int .i64 0, .string (⟨#[]⟩ : ByteArray), .int .i64 0, .int .i64 0, .int .i64 0, .int .i64 0, .string (⟨#[]⟩ : ByteArray), .slice none 0 0] 58) := ⟨_, rfl⟩
    rw [← hw]
    have HT1 := Lib.hid (show TP w1 B p kk by rw [hw]; exact ht.below (below_box _ _))
    have HG1 := Lib.hid (show w.grownBy w1 (some p) by rw [hw]; exact only_of_below (below_box _ _))
    have HZ1 := Lib.hid (show Z8 w1 w.heap.size by rw [hw]; constructor <;> simp [go_sem])
    clear hw ht
    go_wp2_with fail
    refine (next_any B p _ 8 _ HT1.out (by omega) (by omega) (by omega)).mono ?_
    rintro e w2 ⟨r, rfl, r0, r1, hT_, hg_⟩
    have HT2 := Lib.hid hT_
    have HG2 := Lib.hid (only_trans HG1.out hg_)
    have HZ2 := Lib.hid (HZ1.out.only hpw hg_)
    clear hT_ hg_
    by_cases h0 : r = 0
    · subst h0
      obtain ⟨z0, z1, z2, z3, z4, z5, z6, z7, zf⟩ := HZ2.out
      have hsz2 := HG2.out.size
      go_wp2_with fail
      have HB8 := Lib.hid (HZ2.out.put ⟨0, (⟨#[]⟩ : ByteArray), 0, 0, 0, 0, (⟨#[]⟩ : ByteArray), 0⟩ (.slice none 0 0))
      refine bodyPost_ret (results_cell Try.results33 _ _ _ rfl (load_x HB8.out)) rfl ?_
      refine ⟨_, blackX, _, rfl, .mk _ _ _ _ (fun _ => .slice none 0 0) ⟨by show ByteArray.size (⟨#[]⟩ : ByteArray) ≤ _; decide, by show ByteArray.size (⟨#[]⟩ : ByteArray) ≤ _; decide, by show (0 : Nat) ≤ _; omega⟩ (Nat.le_refl _) (fun i hi => absurd hi (Nat.not_lt_zero i)) (fun i hi => absurd hi (Nat.not_lt_zero i)), okX_black, good_black, HT2.out.put8 (by omega) (by omega) _ _ _ _ _ _ _ _, by have : cost 0 = 4 := rfl; omega, only_low HG2.out (put8_below _ _ _ _ _ _ _ _ _ (Nat.le_refl _)) (Nat.le_refl _)⟩
    by_cases h3 : r ≤ 3
    · skip
      have hd1 : decide (r = 0) = false := by simp; omega
      have hd4 : decide (r = 4) = false := by simp; omega
      have hb0 : (r == 0) = false := by rw [beq_eq_false_iff_ne]; omega
      have hb4 : (r == 4) = false := by rw [beq_eq_false_iff_ne]; omega
      have hb5 : (r == 5) = false := by rw [beq_eq_false_iff_ne]; omega
      have hb6 : (r == 6) = false := by rw [beq_eq_false_iff_ne]; omega
      have hb7 : (r == 7) = false := by rw [beq_eq_false_iff_ne]; omega
      go_wp2_with fail
      refine (next_any B p _ 3 _ HT2.out (by omega) (by omega) (by omega)).mono ?_
      rintro e w4 ⟨dd, rfl, dd0, dd1, hT_, hg_⟩
      have HT4 := Lib.hid hT_
      have HG4 := Lib.hid (only_trans HG2.out hg_)
      have HZ4 := Lib.hid (HZ2.out.only hpw hg_)
      clear hT_ hg_
      obtain ⟨dn, rfl⟩ : ∃ n : Nat, dd = n := ⟨dd.toNat, by omega⟩
      have hdn : dn < 3 := by omega
      go_wp2_with fail
      refine (name_any dn _ hdn).mono ?_
      rintro e wn ⟨rfl, rfl⟩
      go_wp2_with fail
      refine (next_any B p _ 8 _ HT4.out (by omega) (by omega) (by omega)).mono ?_
      rintro e w5 ⟨n8, rfl, n80, n81, hT_, hg_⟩
      have HT5 := Lib.hid hT_
      have HG5 := Lib.hid (only_trans HG4.out hg_)
      have HZ5 := Lib.hid (HZ4.out.only hpw hg_)
      clear hT_ hg_
      obtain ⟨nn, rfl⟩ : ∃ n : Nat, n8 = n := ⟨n8.toNat, by omega⟩
      have hnn : nn < 8 := by omega
      obtain ⟨z0, z1, z2, z3, z4, z5, z6, z7, zf⟩ := HZ5.out
      have hsz5 := HG5.out.size
      go_wp2_with fail
      have HB8 := Lib.hid (HZ5.out.put ⟨1, mName dn, (nn : Int), 0, 0, 0, (⟨#[]⟩ : ByteArray), 0⟩ (.slice none 0 0))
      refine bodyPost_ret (results_cell Try.results33 _ _ _ rfl (load_x HB8.out)) rfl ?_
      refine ⟨_, .mk ⟨1, mName dn, (nn : Int), 0, 0, 0, (⟨#[]⟩ : ByteArray), 0⟩ (fun _ => .nil), _, rfl, .mk _ _ _ _ (fun _ => .slice none 0 0) ⟨by show (mName dn).size ≤ _; have : (mName dn).size = 2 := rfl; omega, by show ByteArray.size (⟨#[]⟩ : ByteArray) ≤ _; decide, by show (0 : Nat) ≤ _; omega⟩ (Nat.le_refl _) (fun i hi => absurd hi (Nat.not_lt_zero i)) (fun i hi => absurd hi (Nat.not_lt_zero i)), okX_src dn nn hdn hnn, good_src dn nn hdn hnn, HT5.out.put8 (by omega) (by omega) _ _ _ _ _ _ _ _, by omega, only_low HG5.out (put8_below _ _ _ _ _ _ _ _ _ (Nat.le_refl _)) (Nat.le_refl _)⟩
    clear h0
    have hr : r = 4 ∨ r = 5 ∨ r = 6 ∨ r = 7 := by omega
    clear h3 r0 r1
    rcases hr with rfl | rfl | rfl | rfl
    · skip
      go_wp2_with fail
      refine (next_any B p _ 3 _ HT2.out (by omega) (by omega) (by omega)).mono ?_
      rintro e w3 ⟨na, rfl, na0, na1, hT_, hg_⟩
      have HT3 := Lib.hid hT_
      have HG3 := Lib.hid (only_trans HG2.out hg_)
      have HZ3 := Lib.hid (HZ2.out.only hpw hg_)
      clear hT_ hg_
      go_wp2_with fail
      refine (next_any B p _ 3 _ (HT3.out.below (below_box w3 _)) (by omega) (by omega) (by omega)).mono ?_
      rintro e w4 ⟨nb, rfl, nb0, nb1, hT_, hg_⟩
      obtain ⟨q, rfl⟩ : ∃ n : Nat, nb = n := ⟨nb.toNat, by omega⟩
      have hsl : p < w3.heap.size := by have := HZ3.out.lt; omega
      have hL : ∃ den : Int, w4.cell? ⟨w3.heap.size, q, none⟩ = some (.int .i64 den) ∧ (den = 4 ∨ den = 5 ∨ den = 7) := by
        rcases (show q = 0 ∨ q = 1 ∨ q = 2 by omega) with rfl | rfl | rfl
        · exact ⟨4, only_cell hg_ (by simp [go_sem]) (by omega), by simp⟩
        · exact ⟨5, only_cell hg_ (by simp [go_sem]) (by omega), by simp⟩
        · exact ⟨7, only_cell hg_ (by simp [go_sem]) (by omega), by simp⟩
      obtain ⟨den, hden7, hden⟩ := hL
      have HT4 := Lib.hid hT_
      have HG4 := Lib.hid (only_trans (only_low (L := w3.heap.size) HG3.out (below_box w3 _) (by have := HZ3.out.lt; omega)) hg_)
      have HZ4 := Lib.hid ((HZ3.out.below (below_box w3 _)).only hpw hg_)
      clear hT_ hg_ hsl
      go_upto_region 10 with fail
      obtain ⟨num, hnum⟩ : ∃ x : Int, x = 1 + na := ⟨_, rfl⟩
      try rw [← hnum]
      have hnum2 : 1 ≤ num ∧ num ≤ 3 := by omega
      clear hnum
      obtain ⟨w5, hw_⟩ : ∃ x, x = w4.alloc (.cells #[.int .i64 2, .string (⟨#[]⟩ : ByteArray), .int .i64 0, .int .i64 num, .int .i64 den, .int .i64 0, .string (⟨#[]⟩ : ByteArray), .slice none 0 0] 58) := ⟨_, rfl⟩
      rw [← hw_]
      obtain ⟨bx, hbx_⟩ : ∃ b, b = w4.heap.size := ⟨_, rfl⟩
      have hbx1 : w.heap.size < bx := by have := HZ4.out.lt; omega
      have hB_ : Below w4.heap.size w4 w5 := by rw [hw_]; exact below_box _ _
      have HB5 := Lib.hid (show B8 w5 bx ⟨2, (⟨#[]⟩ : ByteArray), 0, num, den, 0, (⟨#[]⟩ : ByteArray), 0⟩ (.slice none 0 0) by rw [hw_]; exact B8.of_alloc w4 bx ⟨2, (⟨#[]⟩ : ByteArray), 0, num, den, 0, (⟨#[]⟩ : ByteArray), 0⟩ _ _ hbx_)
      have HF5 := Lib.hid (show ∀ o, w5.frozen? ⟨bx, o, none⟩ = false from fun o => by rw [hw_, hbx_]; simp [go_sem])
      try rw [← hbx_]
      have HT5 := Lib.hid (HT4.out.below hB_)
      have HG5 := Lib.hid (only_low HG4.out hB_ (Nat.le_of_lt HZ4.out.lt))
      have HZ5 := Lib.hid (HZ4.out.below hB_)
      clear hw_ hbx_ hB_ hden7 HT3 HG3 HZ3 HT4 HG4 HZ4
      by_cases hn2 : num = 2
      · subst hn2
        obtain ⟨b0, b1, b2, b3, b4, b5, b6, b7⟩ := HB5.out
        have bf := HF5.out
        simp only at b0 b1 b2 b3 b4 b5 b6 b7
        clear b0 b1 b2 b4 b5 b6 b7
        go_upto_region 14 with fail
        obtain ⟨w8, hw_⟩ : ∃ x, x = w5.setCell ⟨bx, 3, none⟩ (.int .i64 3) := ⟨_, rfl⟩
        rw [← hw_]
        have HT8 := Lib.hid (show TP w8 B p _ by rw [hw_]; exact HT5.out.far (by simp; omega) (by simp; omega) _)
        have HG8 := Lib.hid (show w.grownBy w8 (some p) by rw [hw_]; exact only_far HG5.out (by simp; omega) _)
        have HZ8 := Lib.hid (show Z8 w8 w.heap.size by rw [hw_]; exact HZ5.out.far (by simp; omega) _)
        have HB8 := Lib.hid (show B8 w8 bx ⟨2, (⟨#[]⟩ : ByteArray), 0, 3, den, 0, (⟨#[]⟩ : ByteArray), 0⟩ (.slice none 0 0) by rw [hw_]; exact HB5.out.set3 3)
        have HF8 := Lib.hid (show ∀ o, w8.frozen? ⟨bx, o, none⟩ = false from fun o => by rw [hw_, World.frozen?_setCell]; exact HF5.out o)
        clear hw_ b3 bf HT5 HG5 HZ5 HB5 HF5
        go_wp2_with fail
        refine (ih B p _ _ HT8.out (by omega) (by omega)).mono ?_
        rintro e wa ⟨va, Xa, ka, rfl, hX_, hokXa, hgoodXa, hT_, hkXa, hg_⟩
        have hL_ : w.heap.size + 1 ≤ _ := HZ8.out.lt
        obtain ⟨la, hla_⟩ : ∃ b, b = w8.heap.size := ⟨_, rfl⟩
        have hla1 : w.heap.size + 1 ≤ la := by omega
        have hla2 : bx < la := by have := HB8.out.lt; omega
        have HXa0 := Lib.hid (show XL wa la _ Xa by rw [hla_]; exact hX_)
        obtain ⟨aoa, ca, hv_⟩ := hX_.open
        unfold Fld.val at hv_
        subst hv_
        have HTa := Lib.hid hT_
        have HGa := Lib.hid (only_trans HG8.out hg_)
        have HZa := Lib.hid (HZ8.out.only hpw hg_)
        have HBa := Lib.hid (HB8.out.only (by omega) hg_)
        have HFa := Lib.hid (fun o => only_frozen hg_ HB8.out.lt (HF8.out o) (by omega))
        clear hX_ hT_ hL_ hg_ hla_
        go_upto_region 15 with fail
        obtain ⟨wb, hw_⟩ : ∃ x, x = wa.alloc (.cells #[.int .i64 Xa.f.op, .string Xa.f.media, .int .i64 Xa.f.frame, .int .i64 Xa.f.num, .int .i64 Xa.f.den, .int .i64 Xa.f.par, .string Xa.f.text, .slice aoa Xa.f.n ca] 58) := ⟨_, rfl⟩
        rw [← hw_]
        obtain ⟨ba, hba_⟩ : ∃ b, b = wa.heap.size := ⟨_, rfl⟩
        have hB_ : Below wa.heap.size wa wb := by rw [hw_]; exact below_box _ _
        have HAb := Lib.hid (show B8 wb ba Xa.f (.slice aoa Xa.f.n ca) by rw [hw_]; exact B8.of_alloc _ _ _ _ _ hba_)
        try rw [← hba_]
        have HTb := Lib.hid (HTa.out.below hB_)
        have HGb := Lib.hid (only_low HGa.out hB_ (Nat.le_of_lt HZa.out.lt))
        have HZb := Lib.hid (HZa.out.below hB_)
        have HBb := Lib.hid (HBa.out.below hB_)
        have HFb := Lib.hid (fun o => (hB_.frozen HBa.out.lt).trans (HFa.out o))
        have HQb := Lib.hid (show ∀ q : Addr, q.block < wa.heap.size → la ≤ q.block → wb.cell? q = wa.cell? q from fun q h1 _ => hB_.cell h1)
        have sab := hB_.size
        clear hw_ hba_ hB_
        obtain ⟨a0, a1, a2, a3, a4, a5, a6, a7⟩ := HAb.out
        have bz7 : ∀ o, (wb.alloc o).cell? ⟨bx, 7, none⟩ = some (.slice none 0 0) := fun o => ((below_box wb o).cell HBb.out.lt).trans HBb.out.k7
        have bzf : ∀ o q, (wb.alloc o).frozen? ⟨bx, q, none⟩ = false := fun o q => ((below_box wb o).frozen HBb.out.lt).trans (HFb.out q)
        go_upto_region 16 with fail
        obtain ⟨wc, hw_⟩ : ∃ x, x = (wb.alloc (.cells #[.int .i64 Xa.f.op, .string Xa.f.media, .int .i64 Xa.f.frame, .int .i64 Xa.f.num, .int .i64 Xa.f.den, .int .i64 Xa.f.par, .string Xa.f.text, .slice aoa Xa.f.n ca, .int .i64 Xa.f.op, .string Xa.f.media, .int .i64 Xa.f.frame, .int .i64 Xa.f.num, .int .i64 Xa.f.den, .int .i64 Xa.f.par, .string Xa.f.text, .slice aoa Xa.f.n ca] 58)).setCell ⟨bx, 7, none⟩ (.slice (some ⟨wb.heap.size, 0, none⟩) 2 2) := ⟨_, rfl⟩
        rw [← hw_]
        obtain ⟨ga, hga_⟩ : ∃ b, b = wb.heap.size := ⟨_, rfl⟩
        have hgab : ga = wb.heap.size := hga_
        have hg1 : bx < ga := by have := HBb.out.lt; omega
        have hg2 : w.heap.size < ga := by have := HZb.out.lt; omega
        have hg3 : wa.heap.size ≤ ga := by omega
        have hB_ : Below bx wb wc := by rw [hw_]; exact ((below_box wb _).mono (show bx ≤ wb.heap.size by omega)).setCell (Nat.le_refl bx) _
        have HC0 := Lib.hid (show C8 wc ga 0 Xa.f (.slice aoa Xa.f.n ca) by rw [hw_, hga_]; exact C8.far (by constructor <;> simp [go_sem]) (by simp; omega) _)
        have HC1 := Lib.hid (show C8 wc ga 8 Xa.f (.slice aoa Xa.f.n ca) by rw [hw_, hga_]; exact C8.far (by constructor <;> simp [go_sem]) (by simp; omega) _)
        have HFg := Lib.hid (show ∀ o, wc.frozen? ⟨ga, o, none⟩ = false from fun o => by rw [hw_, hga_, World.frozen?_setCell]; simp [go_sem])
        rw [← hga_] at hw_
        try rw [← hga_]
        have HTc := Lib.hid (show TP wc B p _ by rw [hw_]; exact (HTb.out.below (below_box _ _)).far (by simp; omega) (by simp; omega) _)
        have HGc := Lib.hid (show w.grownBy wc (some p) from only_low HGb.out hB_ (by omega))
        have HZc := Lib.hid (show Z8 wc w.heap.size by rw [hw_]; exact (HZb.out.below (below_box _ _)).far (by simp; omega) _)
        have HBc := Lib.hid (show B8 wc bx ⟨2, (⟨#[]⟩ : ByteArray), 0, 3, den, 0, (⟨#[]⟩ : ByteArray), 2⟩ (.slice (some ⟨ga, 0, none⟩) 2 2) by rw [hw_]; exact (HBb.out.below (below_box _ _)).set7 2 _)
        have HQc := Lib.hid (show ∀ q : Addr, q.block < wa.heap.size → la ≤ q.block → wc.cell? q = wa.cell? q from fun q h1 h2 => by rw [hw_, World.cell?_setCell_far _ _ _ _ (by simp; omega)]; exact ((below_box wb _).cell (by omega)).trans (HQb.out q h1 h2))
        have HFc := Lib.hid (show ∀ o, wc.frozen? ⟨bx, o, none⟩ = false from fun o => by rw [hw_, World.frozen?_setCell]; exact ((below_box wb _).frozen HBb.out.lt).trans (HFb.out o))
        have hsc : ga < wc.heap.size := HC0.out.lt
        clear hw_ hga_ hB_ a0 a1 a2 a3 a4 a5 a6 a7 bz7 bzf
        clear HQb HAb HBb HFb HZb HGb HTb hgab sab
        go_wp2_with fail
        refine (next_any B p _ 4 _ HTc.out (by omega) (by omega) (by omega)).mono ?_
        rintro e wd ⟨nd, rfl, nd0, nd1, hT_, hg_⟩
        have HTd := Lib.hid hT_
        have HGd := Lib.hid (only_trans HGc.out hg_)
        have HZd := Lib.hid (HZc.out.only hpw hg_)
        have HBd := Lib.hid (HBc.out.only (by omega) hg_)
        have HC0d := Lib.hid (HC0.out.only (by omega) hg_)
        have HC1d := Lib.hid (HC1.out.only (by omega) hg_)
        have HFgd := Lib.hid (fun o => only_frozen hg_ hsc (HFg.out o) (by omega))
        have HQd := Lib.hid (show ∀ q : Addr, q.block < wa.heap.size → la ≤ q.block → wd.cell? q = wa.cell? q from fun q h1 h2 => (World.cell?_of_block (hg_.block q.block (by omega) (by simp; omega))).trans (HQc.out q h1 h2))
        have hsd := hg_.size
        clear hT_ hg_ HTc HGc HZc HBc HC0 HC1 HFg HFc HQc
        by_cases hnd : 0 < nd
        rotate_left
        · have HXf := Lib.hid ((HXa0.out.cells HQd.out).mono hla1)
          clear HXa0 HQd
          obtain ⟨z0, z1, z2, z3, z4, z5, z6, z7, zf⟩ := HZd.out
          obtain ⟨b0, b1, b2, b3, b4, b5, b6, b7⟩ := HBd.out
          simp only at b0 b1 b2 b3 b4 b5 b6 b7
          go_wp2_with fail
          obtain ⟨wo, ho_⟩ : ∃ x, x = put8 wd w.heap.size (.int .i64 2) (.string (⟨#[]⟩ : ByteArray)) (.int .i64 0) (.int .i64 3) (.int .i64 den) (.int .i64 0) (.string (⟨#[]⟩ : ByteArray)) (.slice (some ⟨ga, 0, none⟩) 2 2) := ⟨_, rfl⟩
          have ho2_ := ho_
          unfold put8 at ho2_
          rw [← ho2_]
          clear ho2_ z0 z1 z2 z3 z4 z5 z6 z7 zf b0 b1 b2 b3 b4 b5 b6 b7
          have hok8 : okFld ⟨2, (⟨#[]⟩ : ByteArray), 0, 3, den, 0, (⟨#[]⟩ : ByteArray), 2⟩ = true := okF_2 2 3 den 0 0 (by omega) (by omega) hden
          have HB8 : B8 wo w.heap.size ⟨2, (⟨#[]⟩ : ByteArray), 0, 3, den, 0, (⟨#[]⟩ : ByteArray), 2⟩ (.slice (some ⟨ga, 0, none⟩) 2 2) := by rw [ho_]; exact HZd.out.put ⟨2, (⟨#[]⟩ : ByteArray), 0, 3, den, 0, (⟨#[]⟩ : ByteArray), 2⟩ _
          have hc0 : C8 wo ga 0 Xa.f (.slice aoa Xa.f.n ca) := by rw [ho_]; exact HC0d.out.put8 (by omega) _ _ _ _ _ _ _ _
          have hc1 : C8 wo ga 8 Xa.f (.slice aoa Xa.f.n ca) := by rw [ho_]; exact HC1d.out.put8 (by omega) _ _ _ _ _ _ _ _
          have hxa : XL wo (w.heap.size + 1) (Xa.f.val (.slice aoa Xa.f.n ca)) Xa := by rw [ho_]; exact XL.put8 HXf.out (by omega) _ _ _ _ _ _ _ _
          have hxb : XL wo (w.heap.size + 1) (Xa.f.val (.slice aoa Xa.f.n ca)) Xa := by rw [ho_]; exact XL.put8 HXf.out (by omega) _ _ _ _ _ _ _ _
          have hto : TP wo B p (ka + 1) := by rw [ho_]; exact HTd.out.put8 (by omega) (by omega) _ _ _ _ _ _ _ _
          have hgo : w.grownBy wo (some p) := only_low HGd.out (by rw [ho_]; exact put8_below _ _ _ _ _ _ _ _ _ (Nat.le_refl _)) (Nat.le_refl _)
          clear ho_
          have hxo : XL wo (w.heap.size + 1) (Fld.val ⟨2, (⟨#[]⟩ : ByteArray), 0, 3, den, 0, (⟨#[]⟩ : ByteArray), 2⟩ (.slice (some ⟨ga, 0, none⟩) 2 2)) (.mk ⟨2, (⟨#[]⟩ : ByteArray), 0, 3, den, 0, (⟨#[]⟩ : ByteArray), 2⟩ (pair2 Xa Xa)) := node2 hc0 hc1 hxa hxb (by omega) (fit_2 2 3 den 0) rfl (Nat.le_refl _)
          refine bodyPost_ret (results_cell Try.results33 _ _ _ rfl (load_x HB8)) rfl ?_
          exact ⟨_, _, _, rfl, hxo.mono (by omega), ok_node2 hok8 rfl hokXa hokXa, good_node2 (show (2 : Int) ≠ 1 by decide) hgoodXa hgoodXa, hto, by omega, hgo⟩
        obtain ⟨b0, b1, b2, b3, b4, b5, b6, b7⟩ := HBd.out
        clear b0 b1 b2 b3 b4 b5 b6
        go_wp2_with fail
        refine Plan.wp_region_plan (At7 bx ga) ([0, 1, 2, 3, 4].map (·, true) ++ ([5].map (·, false) ++ ([6].map (·, true) ++ [7].map (·, false)))) (by kernel_rfl) (by kernel_rfl) (by kernel_rfl) b7 ?_
        refine' Plan.plan_seg _ [0, 1, 2, 3, 4] ([5].map (·, false) ++ ([6].map (·, true) ++ [7].map (·, false))) (by kernel_rfl) (by kernel_rfl) rfl (by exact b7) (fun wx hS => ?_) ?_
        rotate_left
        · have y7 : wx.cell? ⟨bx, 7, none⟩ = some (.slice (some ⟨ga, 0, none⟩) 2 2) := hS
          clear hS
          go_light
          iterate 5 (apply Plan.seg_pick; rfl; intro K hK; go_wp)
          exact Plan.seg_nil
        refine Plan.plan_of_effect rfl (fun K hK => ?_)
        go_wp2_with fail
        refine (ih B p _ _ HTd.out.drew (by omega) (by omega)).mono ?_
        rintro e we ⟨vb, Xb, kb, rfl, hX_, hokXb, hgoodXb, hT_, hkXb, hg_⟩
        replace hg_ : wd.grownBy we (some p) := only_trans (only_of_below (Below.refl _ _).drew) hg_
        obtain ⟨lb, hlb_⟩ : ∃ b, b = wd.heap.size := ⟨_, rfl⟩
        have hlb1 : ga < lb := by omega
        have HXb := Lib.hid (show XL we lb _ Xb by rw [hlb_]; exact hX_)
        obtain ⟨aob, cb, hv_⟩ := hX_.open
        unfold Fld.val at hv_
        subst hv_
        have HTe := Lib.hid hT_
        have HGe := Lib.hid (only_trans HGd.out hg_)
        have HZe := Lib.hid (HZd.out.only hpw hg_)
        have HBe := Lib.hid (HBd.out.only (by omega) hg_)
        have HC0e := Lib.hid (HC0d.out.only (by omega) hg_)
        have HC1e := Lib.hid (HC1d.out.only (by omega) hg_)
        have HFge := Lib.hid (fun o => only_frozen hg_ (by omega) (HFgd.out o) (by omega))
        have HQe := Lib.hid (show ∀ q : Addr, q.block < wa.heap.size → la ≤ q.block → we.cell? q = wa.cell? q from fun q h1 h2 => (World.cell?_of_block (hg_.block q.block (by omega) (by simp; omega))).trans (HQd.out q h1 h2))
        clear hX_ hT_ hg_ hlb_
        go_wp2_with fail
        refine ⟨HBe.out.k7, ?_⟩
        refine' Plan.plan_seg _ [6] ([7].map (·, false)) (by kernel_rfl) (by kernel_rfl) rfl (by exact HBe.out.k7) (fun wx hS => ?_) ?_
        rotate_left
        · clear hS
          go_light
          iterate 1 (apply Plan.seg_pick; rfl; intro K hK; go_wp)
          exact Plan.seg_nil
        refine Plan.plan_of_effect rfl (fun K hK => ?_)
        refine wpList_store8 we rfl (.tmp 62) (.tmp 61) rfl ga Xa.f Xb.f (.slice aoa Xa.f.n ca) aob Xb.f.n cb rfl rfl HC1e.out HFge.out ?_
        refine wpList_nil (hK _ _ ?_)
        obtain ⟨wf, hw_⟩ : ∃ x, x = putB we ga (.int .i64 Xb.f.op) (.string Xb.f.media) (.int .i64 Xb.f.frame) (.int .i64 Xb.f.num) (.int .i64 Xb.f.den) (.int .i64 Xb.f.par) (.string Xb.f.text) (.slice aob Xb.f.n cb) := ⟨_, rfl⟩
        rw [← hw_]
        have HTf := Lib.hid (show TP wf B p kb by rw [hw_]; exact HTe.out.putB (by omega) (by omega) _ _ _ _ _ _ _ _)
        have HGf := Lib.hid (show w.grownBy wf (some p) from only_low (L := ga) HGe.out (by rw [hw_]; exact putB_below _ _ _ _ _ _ _ _ _ (Nat.le_refl _)) (by omega))
        have HZf := Lib.hid (show Z8 wf w.heap.size by rw [hw_]; exact HZe.out.putB (by omega) _ _ _ _ _ _ _ _)
        have HBf := Lib.hid (show B8 wf bx ⟨2, (⟨#[]⟩ : ByteArray), 0, 3, den, 0, (⟨#[]⟩ : ByteArray), 2⟩ (.slice (some ⟨ga, 0, none⟩) 2 2) by rw [hw_]; exact HBe.out.putB (by omega) _ _ _ _ _ _ _ _)
        have HC0f := Lib.hid (show C8 wf ga 0 Xa.f (.slice aoa Xa.f.n ca) by rw [hw_]; exact HC0e.out.putB0 _ _ _ _ _ _ _ _)
        have HC1f := Lib.hid (show C8 wf ga 8 Xb.f (.slice aob Xb.f.n cb) by rw [hw_]; exact HC1e.out.putB8 _ _)
        have HXaf := Lib.hid (show XL wf (w.heap.size + 1) _ Xa from (HXa0.out.cells (fun q h1 h2 => by rw [hw_, putB_cell _ _ _ _ _ _ _ _ _ (by omega)]; exact HQe.out q h1 h2)).mono hla1)
        have HXbf := Lib.hid (show XL wf (w.heap.size + 1) _ Xb from (HXb.out.cells (fun q h1 h2 => by rw [hw_, putB_cell _ _ _ _ _ _ _ _ _ (by omega)])).mono (by omega))
        clear hw_ HTe HGe HZe HBe HC0e HC1e HFge HQe HXb HXa0 HTd HGd HZd HBd HC0d HC1d HFgd HQd
        refine ⟨HBf.out.k7, ?_⟩
        refine Plan.plan_done ?_
        obtain ⟨z0, z1, z2, z3, z4, z5, z6, z7, zf⟩ := HZf.out
        obtain ⟨b0, b1, b2, b3, b4, b5, b6, b7⟩ := HBf.out
        simp only at b0 b1 b2 b3 b4 b5 b6 b7
        go_wp2_with fail
        obtain ⟨wo, ho_⟩ : ∃ x, x = put8 wf w.heap.size (.int .i64 2) (.string (⟨#[]⟩ : ByteArray)) (.int .i64 0) (.int .i64 3) (.int .i64 den) (.int .i64 0) (.string (⟨#[]⟩ : ByteArray)) (.slice (some ⟨ga, 0, none⟩) 2 2) := ⟨_, rfl⟩
        have ho2_ := ho_
        unfold put8 at ho2_
        rw [← ho2_]
        clear ho2_ z0 z1 z2 z3 z4 z5 z6 z7 zf b0 b1 b2 b3 b4 b5 b6 b7
        have hok8 : okFld ⟨2, (⟨#[]⟩ : ByteArray), 0, 3, den, 0, (⟨#[]⟩ : ByteArray), 2⟩ = true := okF_2 2 3 den 0 0 (by omega) (by omega) hden
        have HB8 : B8 wo w.heap.size ⟨2, (⟨#[]⟩ : ByteArray), 0, 3, den, 0, (⟨#[]⟩ : ByteArray), 2⟩ (.slice (some ⟨ga, 0, none⟩) 2 2) := by rw [ho_]; exact HZf.out.put ⟨2, (⟨#[]⟩ : ByteArray), 0, 3, den, 0, (⟨#[]⟩ : ByteArray), 2⟩ _
        have hc0 : C8 wo ga 0 Xa.f (.slice aoa Xa.f.n ca) := by rw [ho_]; exact HC0f.out.put8 (by omega) _ _ _ _ _ _ _ _
        have hc1 : C8 wo ga 8 Xb.f (.slice aob Xb.f.n cb) := by rw [ho_]; exact HC1f.out.put8 (by omega) _ _ _ _ _ _ _ _
        have hxa : XL wo (w.heap.size + 1) (Xa.f.val (.slice aoa Xa.f.n ca)) Xa := by rw [ho_]; exact XL.put8 HXaf.out (by omega) _ _ _ _ _ _ _ _
        have hxb : XL wo (w.heap.size + 1) (Xb.f.val (.slice aob Xb.f.n cb)) Xb := by rw [ho_]; exact XL.put8 HXbf.out (by omega) _ _ _ _ _ _ _ _
        have hto : TP wo B p (kb) := by rw [ho_]; exact HTf.out.put8 (by omega) (by omega) _ _ _ _ _ _ _ _
        have hgo : w.grownBy wo (some p) := only_low HGf.out (by rw [ho_]; exact put8_below _ _ _ _ _ _ _ _ _ (Nat.le_refl _)) (Nat.le_refl _)
        clear ho_
        have hxo : XL wo (w.heap.size + 1) (Fld.val ⟨2, (⟨#[]⟩ : ByteArray), 0, 3, den, 0, (⟨#[]⟩ : ByteArray), 2⟩ (.slice (some ⟨ga, 0, none⟩) 2 2)) (.mk ⟨2, (⟨#[]⟩ : ByteArray), 0, 3, den, 0, (⟨#[]⟩ : ByteArray), 2⟩ (pair2 Xa Xb)) := node2 hc0 hc1 hxa hxb (by omega) (fit_2 2 3 den 0) rfl (Nat.le_refl _)
        refine bodyPost_ret (results_cell Try.results33 _ _ _ rfl (load_x HB8)) rfl ?_
        exact ⟨_, _, _, rfl, hxo.mono (by omega), ok_node2 hok8 rfl hokXa hokXb, good_node2 (show (2 : Int) ≠ 1 by decide) hgoodXa hgoodXb, hto, by omega, hgo⟩
      have hn13 : num = 1 ∨ num = 3 := by omega
      obtain ⟨b0, b1, b2, b3, b4, b5, b6, b7⟩ := HB5.out
      simp only at b0 b1 b2 b3 b4 b5 b6 b7
      have hnb : (num == 2) = false := by rw [beq_eq_false_iff_ne]; exact hn2
      clear b0 b1 b2 b4 b5 b6 b7
      go_upto_region 14 with fail
      clear b3
      go_wp2_with fail
      refine (ih B p _ _ HT5.out (by omega) (by omega)).mono ?_
      rintro e wa ⟨va, Xa, ka, rfl, hX_, hokXa, hgoodXa, hT_, hkXa, hg_⟩
      have hL_ : w.heap.size + 1 ≤ _ := HZ5.out.lt
      obtain ⟨la, hla_⟩ : ∃ b, b = w5.heap.size := ⟨_, rfl⟩
      have hla1 : w.heap.size + 1 ≤ la := by omega
      have hla2 : bx < la := by have := HB5.out.lt; omega
      have HXa0 := Lib.hid (show XL wa la _ Xa by rw [hla_]; exact hX_)
      obtain ⟨aoa, ca, hv_⟩ := hX_.open
      unfold Fld.val at hv_
      subst hv_
      have HTa := Lib.hid hT_
      have HGa := Lib.hid (only_trans HG5.out hg_)
      have HZa := Lib.hid (HZ5.out.only hpw hg_)
      have HBa := Lib.hid (HB5.out.only (by omega) hg_)
      have HFa := Lib.hid (fun o => only_frozen hg_ HB5.out.lt (HF5.out o) (by omega))
      clear hX_ hT_ hL_ hg_ hla_
      go_upto_region 15 with fail
      obtain ⟨wb, hw_⟩ : ∃ x, x = wa.alloc (.cells #[.int .i64 Xa.f.op, .string Xa.f.media, .int .i64 Xa.f.frame, .int .i64 Xa.f.num, .int .i64 Xa.f.den, .int .i64 Xa.f.par, .string Xa.f.text, .slice aoa Xa.f.n ca] 58) := ⟨_, rfl⟩
      rw [← hw_]
      obtain ⟨ba, hba_⟩ : ∃ b, b = wa.heap.size := ⟨_, rfl⟩
      have hB_ : Below wa.heap.size wa wb := by rw [hw_]; exact below_box _ _
      have HAb := Lib.hid (show B8 wb ba Xa.f (.slice aoa Xa.f.n ca) by rw [hw_]; exact B8.of_alloc _ _ _ _ _ hba_)
      try rw [← hba_]
      have HTb := Lib.hid (HTa.out.below hB_)
      have HGb := Lib.hid (only_low HGa.out hB_ (Nat.le_of_lt HZa.out.lt))
      have HZb := Lib.hid (HZa.out.below hB_)
      have HBb := Lib.hid (HBa.out.below hB_)
      have HFb := Lib.hid (fun o => (hB_.frozen HBa.out.lt).trans (HFa.out o))
      have HQb := Lib.hid (show ∀ q : Addr, q.block < wa.heap.size → la ≤ q.block → wb.cell? q = wa.cell? q from fun q h1 _ => hB_.cell h1)
      have sab := hB_.size
      clear hw_ hba_ hB_
      obtain ⟨a0, a1, a2, a3, a4, a5, a6, a7⟩ := HAb.out
      have bz7 : ∀ o, (wb.alloc o).cell? ⟨bx, 7, none⟩ = some (.slice none 0 0) := fun o => ((below_box wb o).cell HBb.out.lt).trans HBb.out.k7
      have bzf : ∀ o q, (wb.alloc o).frozen? ⟨bx, q, none⟩ = false := fun o q => ((below_box wb o).frozen HBb.out.lt).trans (HFb.out q)
      go_upto_region 16 with fail
      obtain ⟨wc, hw_⟩ : ∃ x, x = (wb.alloc (.cells #[.int .i64 Xa.f.op, .string Xa.f.media, .int .i64 Xa.f.frame, .int .i64 Xa.f.num, .int .i64 Xa.f.den, .int .i64 Xa.f.par, .string Xa.f.text, .slice aoa Xa.f.n ca, .int .i64 Xa.f.op, .string Xa.f.media, .int .i64 Xa.f.frame, .int .i64 Xa.f.num, .int .i64 Xa.f.den, .int .i64 Xa.f.par, .string Xa.f.text, .slice aoa Xa.f.n ca] 58)).setCell ⟨bx, 7, none⟩ (.slice (some ⟨wb.heap.size, 0, none⟩) 2 2) := ⟨_, rfl⟩
      rw [← hw_]
      obtain ⟨ga, hga_⟩ : ∃ b, b = wb.heap.size := ⟨_, rfl⟩
      have hgab : ga = wb.heap.size := hga_
      have hg1 : bx < ga := by have := HBb.out.lt; omega
      have hg2 : w.heap.size < ga := by have := HZb.out.lt; omega
      have hg3 : wa.heap.size ≤ ga := by omega
      have hB_ : Below bx wb wc := by rw [hw_]; exact ((below_box wb _).mono (show bx ≤ wb.heap.size by omega)).setCell (Nat.le_refl bx) _
      have HC0 := Lib.hid (show C8 wc ga 0 Xa.f (.slice aoa Xa.f.n ca) by rw [hw_, hga_]; exact C8.far (by constructor <;> simp [go_sem]) (by simp; omega) _)
      have HC1 := Lib.hid (show C8 wc ga 8 Xa.f (.slice aoa Xa.f.n ca) by rw [hw_, hga_]; exact C8.far (by constructor <;> simp [go_sem]) (by simp; omega) _)
      have HFg := Lib.hid (show ∀ o, wc.frozen? ⟨ga, o, none⟩ = false from fun o => by rw [hw_, hga_, World.frozen?_setCell]; simp [go_sem])
      rw [← hga_] at hw_
      try rw [← hga_]
      have HTc := Lib.hid (show TP wc B p _ by rw [hw_]; exact (HTb.out.below (below_box _ _)).far (by simp; omega) (by simp; omega) _)
      have HGc := Lib.hid (show w.grownBy wc (some p) from only_low HGb.out hB_ (by omega))
      have HZc := Lib.hid (show Z8 wc w.heap.size by rw [hw_]; exact (HZb.out.below (below_box _ _)).far (by simp; omega) _)
      have HBc := Lib.hid (show B8 wc bx ⟨2, (⟨#[]⟩ : ByteArray), 0, num, den, 0, (⟨#[]⟩ : ByteArray), 2⟩ (.slice (some ⟨ga, 0, none⟩) 2 2) by rw [hw_]; exact (HBb.out.below (below_box _ _)).set7 2 _)
      have HQc := Lib.hid (show ∀ q : Addr, q.block < wa.heap.size → la ≤ q.block → wc.cell? q = wa.cell? q from fun q h1 h2 => by rw [hw_, World.cell?_setCell_far _ _ _ _ (by simp; omega)]; exact ((below_box wb _).cell (by omega)).trans (HQb.out q h1 h2))
      have HFc := Lib.hid (show ∀ o, wc.frozen? ⟨bx, o, none⟩ = false from fun o => by rw [hw_, World.frozen?_setCell]; exact ((below_box wb _).frozen HBb.out.lt).trans (HFb.out o))
      have hsc : ga < wc.heap.size := HC0.out.lt
      clear hw_ hga_ hB_ a0 a1 a2 a3 a4 a5 a6 a7 bz7 bzf
      clear HQb HAb HBb HFb HZb HGb HTb hgab sab
      go_wp2_with fail
      refine (next_any B p _ 4 _ HTc.out (by omega) (by omega) (by omega)).mono ?_
      rintro e wd ⟨nd, rfl, nd0, nd1, hT_, hg_⟩
      have HTd := Lib.hid hT_
      have HGd := Lib.hid (only_trans HGc.out hg_)
      have HZd := Lib.hid (HZc.out.only hpw hg_)
      have HBd := Lib.hid (HBc.out.only (by omega) hg_)
      have HC0d := Lib.hid (HC0.out.only (by omega) hg_)
      have HC1d := Lib.hid (HC1.out.only (by omega) hg_)
      have HFgd := Lib.hid (fun o => only_frozen hg_ hsc (HFg.out o) (by omega))
      have HQd := Lib.hid (show ∀ q : Addr, q.block < wa.heap.size → la ≤ q.block → wd.cell? q = wa.cell? q from fun q h1 h2 => (World.cell?_of_block (hg_.block q.block (by omega) (by simp; omega))).trans (HQc.out q h1 h2))
      have hsd := hg_.size
      clear hT_ hg_ HTc HGc HZc HBc HC0 HC1 HFg HFc HQc
      by_cases hnd : 0 < nd
      rotate_left
      · have HXf := Lib.hid ((HXa0.out.cells HQd.out).mono hla1)
        clear HXa0 HQd
        obtain ⟨z0, z1, z2, z3, z4, z5, z6, z7, zf⟩ := HZd.out
        obtain ⟨b0, b1, b2, b3, b4, b5, b6, b7⟩ := HBd.out
        simp only at b0 b1 b2 b3 b4 b5 b6 b7
        go_wp2_with fail
        obtain ⟨wo, ho_⟩ : ∃ x, x = put8 wd w.heap.size (.int .i64 2) (.string (⟨#[]⟩ : ByteArray)) (.int .i64 0) (.int .i64 num) (.int .i64 den) (.int .i64 0) (.string (⟨#[]⟩ : ByteArray)) (.slice (some ⟨ga, 0, none⟩) 2 2) := ⟨_, rfl⟩
        have ho2_ := ho_
        unfold put8 at ho2_
        rw [← ho2_]
        clear ho2_ z0 z1 z2 z3 z4 z5 z6 z7 zf b0 b1 b2 b3 b4 b5 b6 b7
        have hok8 : okFld ⟨2, (⟨#[]⟩ : ByteArray), 0, num, den, 0, (⟨#[]⟩ : ByteArray), 2⟩ = true := okF_2 2 num den 0 0 (by omega) (by omega) hden
        have HB8 : B8 wo w.heap.size ⟨2, (⟨#[]⟩ : ByteArray), 0, num, den, 0, (⟨#[]⟩ : ByteArray), 2⟩ (.slice (some ⟨ga, 0, none⟩) 2 2) := by rw [ho_]; exact HZd.out.put ⟨2, (⟨#[]⟩ : ByteArray), 0, num, den, 0, (⟨#[]⟩ : ByteArray), 2⟩ _
        have hc0 : C8 wo ga 0 Xa.f (.slice aoa Xa.f.n ca) := by rw [ho_]; exact HC0d.out.put8 (by omega) _ _ _ _ _ _ _ _
        have hc1 : C8 wo ga 8 Xa.f (.slice aoa Xa.f.n ca) := by rw [ho_]; exact HC1d.out.put8 (by omega) _ _ _ _ _ _ _ _
        have hxa : XL wo (w.heap.size + 1) (Xa.f.val (.slice aoa Xa.f.n ca)) Xa := by rw [ho_]; exact XL.put8 HXf.out (by omega) _ _ _ _ _ _ _ _
        have hxb : XL wo (w.heap.size + 1) (Xa.f.val (.slice aoa Xa.f.n ca)) Xa := by rw [ho_]; exact XL.put8 HXf.out (by omega) _ _ _ _ _ _ _ _
        have hto : TP wo B p (ka + 1) := by rw [ho_]; exact HTd.out.put8 (by omega) (by omega) _ _ _ _ _ _ _ _
        have hgo : w.grownBy wo (some p) := only_low HGd.out (by rw [ho_]; exact put8_below _ _ _ _ _ _ _ _ _ (Nat.le_refl _)) (Nat.le_refl _)
        clear ho_
        have hxo : XL wo (w.heap.size + 1) (Fld.val ⟨2, (⟨#[]⟩ : ByteArray), 0, num, den, 0, (⟨#[]⟩ : ByteArray), 2⟩ (.slice (some ⟨ga, 0, none⟩) 2 2)) (.mk ⟨2, (⟨#[]⟩ : ByteArray), 0, num, den, 0, (⟨#[]⟩ : ByteArray), 2⟩ (pair2 Xa Xa)) := node2 hc0 hc1 hxa hxb (by omega) (fit_2 2 num den 0) rfl (Nat.le_refl _)
        refine bodyPost_ret (results_cell Try.results33 _ _ _ rfl (load_x HB8)) rfl ?_
        exact ⟨_, _, _, rfl, hxo.mono (by omega), ok_node2 hok8 rfl hokXa hokXa, good_node2 (show (2 : Int) ≠ 1 by decide) hgoodXa hgoodXa, hto, by omega, hgo⟩
      obtain ⟨b0, b1, b2, b3, b4, b5, b6, b7⟩ := HBd.out
      clear b0 b1 b2 b3 b4 b5 b6
      go_wp2_with fail
      refine Plan.wp_region_plan (At7 bx ga) ([0, 1, 2, 3, 4].map (·, true) ++ ([5].map (·, false) ++ ([6].map (·, true) ++ [7].map (·, false)))) (by kernel_rfl) (by kernel_rfl) (by kernel_rfl) b7 ?_
      refine' Plan.plan_seg _ [0, 1, 2, 3, 4] ([5].map (·, false) ++ ([6].map (·, true) ++ [7].map (·, false))) (by kernel_rfl) (by kernel_rfl) rfl (by exact b7) (fun wx hS => ?_) ?_
      rotate_left
      · have y7 : wx.cell? ⟨bx, 7, none⟩ = some (.slice (some ⟨ga, 0, none⟩) 2 2) := hS
        clear hS
        go_light
        iterate 5 (apply Plan.seg_pick; rfl; intro K hK; go_wp)
        exact Plan.seg_nil
      refine Plan.plan_of_effect rfl (fun K hK => ?_)
      go_wp2_with fail
      refine (ih B p _ _ HTd.out.drew (by omega) (by omega)).mono ?_
      rintro e we ⟨vb, Xb, kb, rfl, hX_, hokXb, hgoodXb, hT_, hkXb, hg_⟩
      replace hg_ : wd.grownBy we (some p) := only_trans (only_of_below (Below.refl _ _).drew) hg_
      obtain ⟨lb, hlb_⟩ : ∃ b, b = wd.heap.size := ⟨_, rfl⟩
      have hlb1 : ga < lb := by omega
      have HXb := Lib.hid (show XL we lb _ Xb by rw [hlb_]; exact hX_)
      obtain ⟨aob, cb, hv_⟩ := hX_.open
      unfold Fld.val at hv_
      subst hv_
      have HTe := Lib.hid hT_
      have HGe := Lib.hid (only_trans HGd.out hg_)
      have HZe := Lib.hid (HZd.out.only hpw hg_)
      have HBe := Lib.hid (HBd.out.only (by omega) hg_)
      have HC0e := Lib.hid (HC0d.out.only (by omega) hg_)
      have HC1e := Lib.hid (HC1d.out.only (by omega) hg_)
      have HFge := Lib.hid (fun o => only_frozen hg_ (by omega) (HFgd.out o) (by omega))
      have HQe := Lib.hid (show ∀ q : Addr, q.block < wa.heap.size → la ≤ q.block → we.cell? q = wa.cell? q from fun q h1 h2 => (World.cell?_of_block (hg_.block q.block (by omega) (by simp; omega))).trans (HQd.out q h1 h2))
      clear hX_ hT_ hg_ hlb_
      go_wp2_with fail
      refine ⟨HBe.out.k7, ?_⟩
      refine' Plan.plan_seg _ [6] ([7].map (·, false)) (by kernel_rfl) (by kernel_rfl) rfl (by exact HBe.out.k7) (fun wx hS => ?_) ?_
      rotate_left
      · clear hS
        go_light
        iterate 1 (apply Plan.seg_pick; rfl; intro K hK; go_wp)
        exact Plan.seg_nil
      refine Plan.plan_of_effect rfl (fun K hK => ?_)
      refine wpList_store8 we rfl (.tmp 62) (.tmp 61) rfl ga Xa.f Xb.f (.slice aoa Xa.f.n ca) aob Xb.f.n cb rfl rfl HC1e.out HFge.out ?_
      refine wpList_nil (hK _ _ ?_)
      obtain ⟨wf, hw_⟩ : ∃ x, x = putB we ga (.int .i64 Xb.f.op) (.string Xb.f.media) (.int .i64 Xb.f.frame) (.int .i64 Xb.f.num) (.int .i64 Xb.f.den) (.int .i64 Xb.f.par) (.string Xb.f.text) (.slice aob Xb.f.n cb) := ⟨_, rfl⟩
      rw [← hw_]
      have HTf := Lib.hid (show TP wf B p kb by rw [hw_]; exact HTe.out.putB (by omega) (by omega) _ _ _ _ _ _ _ _)
      have HGf := Lib.hid (show w.grownBy wf (some p) from only_low (L := ga) HGe.out (by rw [hw_]; exact putB_below _ _ _ _ _ _ _ _ _ (Nat.le_refl _)) (by omega))
      have HZf := Lib.hid (show Z8 wf w.heap.size by rw [hw_]; exact HZe.out.putB (by omega) _ _ _ _ _ _ _ _)
      have HBf := Lib.hid (show B8 wf bx ⟨2, (⟨#[]⟩ : ByteArray), 0, num, den, 0, (⟨#[]⟩ : ByteArray), 2⟩ (.slice (some ⟨ga, 0, none⟩) 2 2) by rw [hw_]; exact HBe.out.putB (by omega) _ _ _ _ _ _ _ _)
      have HC0f := Lib.hid (show C8 wf ga 0 Xa.f (.slice aoa Xa.f.n ca) by rw [hw_]; exact HC0e.out.putB0 _ _ _ _ _ _ _ _)
      have HC1f := Lib.hid (show C8 wf ga 8 Xb.f (.slice aob Xb.f.n cb) by rw [hw_]; exact HC1e.out.putB8 _ _)
      have HXaf := Lib.hid (show XL wf (w.heap.size + 1) _ Xa from (HXa0.out.cells (fun q h1 h2 => by rw [hw_, putB_cell _ _ _ _ _ _ _ _ _ (by omega)]; exact HQe.out q h1 h2)).mono hla1)
      have HXbf := Lib.hid (show XL wf (w.heap.size + 1) _ Xb from (HXb.out.cells (fun q h1 h2 => by rw [hw_, putB_cell _ _ _ _ _ _ _ _ _ (by omega)])).mono (by omega))
      clear hw_ HTe HGe HZe HBe HC0e HC1e HFge HQe HXb HXa0 HTd HGd HZd HBd HC0d HC1d HFgd HQd
      refine ⟨HBf.out.k7, ?_⟩
      refine Plan.plan_done ?_
      obtain ⟨z0, z1, z2, z3, z4, z5, z6, z7, zf⟩ := HZf.out
      obtain ⟨b0, b1, b2, b3, b4, b5, b6, b7⟩ := HBf.out
      simp only at b0 b1 b2 b3 b4 b5 b6 b7
      go_wp2_with fail
      obtain ⟨wo, ho_⟩ : ∃ x, x = put8 wf w.heap.size (.int .i64 2) (.string (⟨#[]⟩ : ByteArray)) (.int .i64 0) (.int .i64 num) (.int .i64 den) (.int .i64 0) (.string (⟨#[]⟩ : ByteArray)) (.slice (some ⟨ga, 0, none⟩) 2 2) := ⟨_, rfl⟩
      have ho2_ := ho_
      unfold put8 at ho2_
      rw [← ho2_]
      clear ho2_ z0 z1 z2 z3 z4 z5 z6 z7 zf b0 b1 b2 b3 b4 b5 b6 b7
      have hok8 : okFld ⟨2, (⟨#[]⟩ : ByteArray), 0, num, den, 0, (⟨#[]⟩ : ByteArray), 2⟩ = true := okF_2 2 num den 0 0 (by omega) (by omega) hden
      have HB8 : B8 wo w.heap.size ⟨2, (⟨#[]⟩ : ByteArray), 0, num, den, 0, (⟨#[]⟩ : ByteArray), 2⟩ (.slice (some ⟨ga, 0, none⟩) 2 2) := by rw [ho_]; exact HZf.out.put ⟨2, (⟨#[]⟩ : ByteArray), 0, num, den, 0, (⟨#[]⟩ : ByteArray), 2⟩ _
      have hc0 : C8 wo ga 0 Xa.f (.slice aoa Xa.f.n ca) := by rw [ho_]; exact HC0f.out.put8 (by omega) _ _ _ _ _ _ _ _
      have hc1 : C8 wo ga 8 Xb.f (.slice aob Xb.f.n cb) := by rw [ho_]; exact HC1f.out.put8 (by omega) _ _ _ _ _ _ _ _
      have hxa : XL wo (w.heap.size + 1) (Xa.f.val (.slice aoa Xa.f.n ca)) Xa := by rw [ho_]; exact XL.put8 HXaf.out (by omega) _ _ _ _ _ _ _ _
      have hxb : XL wo (w.heap.size + 1) (Xb.f.val (.slice aob Xb.f.n cb)) Xb := by rw [ho_]; exact XL.put8 HXbf.out (by omega) _ _ _ _ _ _ _ _
      have hto : TP wo B p (kb) := by rw [ho_]; exact HTf.out.put8 (by omega) (by omega) _ _ _ _ _ _ _ _
      have hgo : w.grownBy wo (some p) := only_low HGf.out (by rw [ho_]; exact put8_below _ _ _ _ _ _ _ _ _ (Nat.le_refl _)) (Nat.le_refl _)
      clear ho_
      have hxo : XL wo (w.heap.size + 1) (Fld.val ⟨2, (⟨#[]⟩ : ByteArray), 0, num, den, 0, (⟨#[]⟩ : ByteArray), 2⟩ (.slice (some ⟨ga, 0, none⟩) 2 2)) (.mk ⟨2, (⟨#[]⟩ : ByteArray), 0, num, den, 0, (⟨#[]⟩ : ByteArray), 2⟩ (pair2 Xa Xb)) := node2 hc0 hc1 hxa hxb (by omega) (fit_2 2 num den 0) rfl (Nat.le_refl _)
      refine bodyPost_ret (results_cell Try.results33 _ _ _ rfl (load_x HB8)) rfl ?_
      exact ⟨_, _, _, rfl, hxo.mono (by omega), ok_node2 hok8 rfl hokXa hokXb, good_node2 (show (2 : Int) ≠ 1 by decide) hgoodXa hgoodXb, hto, by omega, hgo⟩
    · skip
      go_wp2_with fail
      refine (next_any B p _ 3 _ HT2.out (by omega) (by omega) (by omega)).mono ?_
      rintro e w3 ⟨na, rfl, na0, na1, hT_, hg_⟩
      have HT3 := Lib.hid hT_
      have HG3 := Lib.hid (only_trans HG2.out hg_)
      have HZ3 := Lib.hid (HZ2.out.only hpw hg_)
      clear hT_ hg_
      go_wp2_with fail
      refine (next_any B p _ 3 _ (HT3.out.below (below_box w3 _)) (by omega) (by omega) (by omega)).mono ?_
      rintro e w4 ⟨nb, rfl, nb0, nb1, hT_, hg_⟩
      obtain ⟨q, rfl⟩ : ∃ n : Nat, nb = n := ⟨nb.toNat, by omega⟩
      have hsl : p < w3.heap.size := by have := HZ3.out.lt; omega
      have hL : ∃ den : Int, w4.cell? ⟨w3.heap.size, q, none⟩ = some (.int .i64 den) ∧ (den = 4 ∨ den = 5 ∨ den = 7) := by
        rcases (show q = 0 ∨ q = 1 ∨ q = 2 by omega) with rfl | rfl | rfl
        · exact ⟨4, only_cell hg_ (by simp [go_sem]) (by omega), by simp⟩
        · exact ⟨5, only_cell hg_ (by simp [go_sem]) (by omega), by simp⟩
        · exact ⟨7, only_cell hg_ (by simp [go_sem]) (by omega), by simp⟩
      obtain ⟨den, hden7, hden⟩ := hL
      have HT4 := Lib.hid hT_
      have HG4 := Lib.hid (only_trans (only_low (L := w3.heap.size) HG3.out (below_box w3 _) (by have := HZ3.out.lt; omega)) hg_)
      have HZ4 := Lib.hid ((HZ3.out.below (below_box w3 _)).only hpw hg_)
      clear hT_ hg_ hsl
      go_upto_region 10 with fail
      obtain ⟨num, hnum⟩ : ∃ x : Int, x = 1 + na := ⟨_, rfl⟩
      try rw [← hnum]
      have hnum2 : 1 ≤ num ∧ num ≤ 3 := by omega
      clear hnum
      obtain ⟨w5, hw_⟩ : ∃ x, x = w4.alloc (.cells #[.int .i64 2, .string (⟨#[]⟩ : ByteArray), .int .i64 0, .int .i64 num, .int .i64 den, .int .i64 0, .string (⟨#[]⟩ : ByteArray), .slice none 0 0] 58) := ⟨_, rfl⟩
      rw [← hw_]
      obtain ⟨bx, hbx_⟩ : ∃ b, b = w4.heap.size := ⟨_, rfl⟩
      have hbx1 : w.heap.size < bx := by have := HZ4.out.lt; omega
      have hB_ : Below w4.heap.size w4 w5 := by rw [hw_]; exact below_box _ _
      have HB5 := Lib.hid (show B8 w5 bx ⟨2, (⟨#[]⟩ : ByteArray), 0, num, den, 0, (⟨#[]⟩ : ByteArray), 0⟩ (.slice none 0 0) by rw [hw_]; exact B8.of_alloc w4 bx ⟨2, (⟨#[]⟩ : ByteArray), 0, num, den, 0, (⟨#[]⟩ : ByteArray), 0⟩ _ _ hbx_)
      have HF5 := Lib.hid (show ∀ o, w5.frozen? ⟨bx, o, none⟩ = false from fun o => by rw [hw_, hbx_]; simp [go_sem])
      try rw [← hbx_]
      have HT5 := Lib.hid (HT4.out.below hB_)
      have HG5 := Lib.hid (only_low HG4.out hB_ (Nat.le_of_lt HZ4.out.lt))
      have HZ5 := Lib.hid (HZ4.out.below hB_)
      clear hw_ hbx_ hB_ hden7 HT3 HG3 HZ3 HT4 HG4 HZ4
      go_wp2_with fail
      refine (next_any B p _ 4 _ HT5.out (by omega) (by omega) (by omega)).mono ?_
      rintro e w6 ⟨pa, rfl, pa0, pa1, hT_, hg_⟩
      have HT6 := Lib.hid hT_
      have HG6 := Lib.hid (only_trans HG5.out hg_)
      have HZ6 := Lib.hid (HZ5.out.only hpw hg_)
      have HB6 := Lib.hid (HB5.out.only (by omega) hg_)
      have HF6 := Lib.hid (fun o => only_frozen hg_ HB5.out.lt (HF5.out o) (by omega))
      clear hT_ hg_ HT5 HG5 HZ5 HB5 HF5
      obtain ⟨b0, b1, b2, b3, b4, b5, b6, b7⟩ := HB6.out
      have bf := HF6.out
      simp only at b0 b1 b2 b3 b4 b5 b6 b7
      clear b1 b2 b3 b4 b6 b7
      go_upto_region 12 with fail
      obtain ⟨w7, hw_⟩ : ∃ x, x = (w6.setCell ⟨bx, 0, none⟩ (.int .i64 3)).setCell ⟨bx, 5, none⟩ (.int .i64 pa) := ⟨_, rfl⟩
      rw [← hw_]
      have HT7 := Lib.hid (show TP w7 B p _ by rw [hw_]; exact (HT6.out.far (by simp; omega) (by simp; omega) _).far (by simp; omega) (by simp; omega) _)
      have HG7 := Lib.hid (show w.grownBy w7 (some p) by rw [hw_]; exact only_far (only_far HG6.out (by simp; omega) _) (by simp; omega) _)
      have HZ7 := Lib.hid (show Z8 w7 w.heap.size by rw [hw_]; exact (HZ6.out.far (by simp; omega) _).far (by simp; omega) _)
      have HB7 := Lib.hid (show B8 w7 bx ⟨3, (⟨#[]⟩ : ByteArray), 0, num, den, pa, (⟨#[]⟩ : ByteArray), 0⟩ (.slice none 0 0) by rw [hw_]; exact (HB6.out.set0 3).set5 pa)
      have HF7 := Lib.hid (show ∀ o, w7.frozen? ⟨bx, o, none⟩ = false from fun o => by rw [hw_, World.frozen?_setCell, World.frozen?_setCell]; exact HF6.out o)
      clear hw_ b0 b5 bf HT6 HG6 HZ6 HB6 HF6
      by_cases hn2 : num = 2
      · subst hn2
        obtain ⟨b0, b1, b2, b3, b4, b5, b6, b7⟩ := HB7.out
        have bf := HF7.out
        simp only at b0 b1 b2 b3 b4 b5 b6 b7
        clear b0 b1 b2 b4 b5 b6 b7
        go_upto_region 14 with fail
        obtain ⟨w8, hw_⟩ : ∃ x, x = w7.setCell ⟨bx, 3, none⟩ (.int .i64 3) := ⟨_, rfl⟩
        rw [← hw_]
        have HT8 := Lib.hid (show TP w8 B p _ by rw [hw_]; exact HT7.out.far (by simp; omega) (by simp; omega) _)
        have HG8 := Lib.hid (show w.grownBy w8 (some p) by rw [hw_]; exact only_far HG7.out (by simp; omega) _)
        have HZ8 := Lib.hid (show Z8 w8 w.heap.size by rw [hw_]; exact HZ7.out.far (by simp; omega) _)
        have HB8 := Lib.hid (show B8 w8 bx ⟨3, (⟨#[]⟩ : ByteArray), 0, 3, den, pa, (⟨#[]⟩ : ByteArray), 0⟩ (.slice none 0 0) by rw [hw_]; exact HB7.out.set3 3)
        have HF8 := Lib.hid (show ∀ o, w8.frozen? ⟨bx, o, none⟩ = false from fun o => by rw [hw_, World.frozen?_setCell]; exact HF7.out o)
        clear hw_ b3 bf HT7 HG7 HZ7 HB7 HF7
        go_wp2_with fail
        refine (ih B p _ _ HT8.out (by omega) (by omega)).mono ?_
        rintro e wa ⟨va, Xa, ka, rfl, hX_, hokXa, hgoodXa, hT_, hkXa, hg_⟩
        have hL_ : w.heap.size + 1 ≤ _ := HZ8.out.lt
        obtain ⟨la, hla_⟩ : ∃ b, b = w8.heap.size := ⟨_, rfl⟩
        have hla1 : w.heap.size + 1 ≤ la := by omega
        have hla2 : bx < la := by have := HB8.out.lt; omega
        have HXa0 := Lib.hid (show XL wa la _ Xa by rw [hla_]; exact hX_)
        obtain ⟨aoa, ca, hv_⟩ := hX_.open
        unfold Fld.val at hv_
        subst hv_
        have HTa := Lib.hid hT_
        have HGa := Lib.hid (only_trans HG8.out hg_)
        have HZa := Lib.hid (HZ8.out.only hpw hg_)
        have HBa := Lib.hid (HB8.out.only (by omega) hg_)
        have HFa := Lib.hid (fun o => only_frozen hg_ HB8.out.lt (HF8.out o) (by omega))
        clear hX_ hT_ hL_ hg_ hla_
        go_upto_region 15 with fail
        obtain ⟨wb, hw_⟩ : ∃ x, x = wa.alloc (.cells #[.int .i64 Xa.f.op, .string Xa.f.media, .int .i64 Xa.f.frame, .int .i64 Xa.f.num, .int .i64 Xa.f.den, .int .i64 Xa.f.par, .string Xa.f.text, .slice aoa Xa.f.n ca] 58) := ⟨_, rfl⟩
        rw [← hw_]
        obtain ⟨ba, hba_⟩ : ∃ b, b = wa.heap.size := ⟨_, rfl⟩
        have hB_ : Below wa.heap.size wa wb := by rw [hw_]; exact below_box _ _
        have HAb := Lib.hid (show B8 wb ba Xa.f (.slice aoa Xa.f.n ca) by rw [hw_]; exact B8.of_alloc _ _ _ _ _ hba_)
        try rw [← hba_]
        have HTb := Lib.hid (HTa.out.below hB_)
        have HGb := Lib.hid (only_low HGa.out hB_ (Nat.le_of_lt HZa.out.lt))
        have HZb := Lib.hid (HZa.out.below hB_)
        have HBb := Lib.hid (HBa.out.below hB_)
        have HFb := Lib.hid (fun o => (hB_.frozen HBa.out.lt).trans (HFa.out o))
        have HQb := Lib.hid (show ∀ q : Addr, q.block < wa.heap.size → la ≤ q.block → wb.cell? q = wa.cell? q from fun q h1 _ => hB_.cell h1)
        have sab := hB_.size
        clear hw_ hba_ hB_
        obtain ⟨a0, a1, a2, a3, a4, a5, a6, a7⟩ := HAb.out
        have bz7 : ∀ o, (wb.alloc o).cell? ⟨bx, 7, none⟩ = some (.slice none 0 0) := fun o => ((below_box wb o).cell HBb.out.lt).trans HBb.out.k7
        have bzf : ∀ o q, (wb.alloc o).frozen? ⟨bx, q, none⟩ = false := fun o q => ((below_box wb o).frozen HBb.out.lt).trans (HFb.out q)
        go_upto_region 16 with fail
        obtain ⟨wc, hw_⟩ : ∃ x, x = (wb.alloc (.cells #[.int .i64 Xa.f.op, .string Xa.f.media, .int .i64 Xa.f.frame, .int .i64 Xa.f.num, .int .i64 Xa.f.den, .int .i64 Xa.f.par, .string Xa.f.text, .slice aoa Xa.f.n ca, .int .i64 Xa.f.op, .string Xa.f.media, .int .i64 Xa.f.frame, .int .i64 Xa.f.num, .int .i64 Xa.f.den, .int .i64 Xa.f.par, .string Xa.f.text, .slice aoa Xa.f.n ca] 58)).setCell ⟨bx, 7, none⟩ (.slice (some ⟨wb.heap.size, 0, none⟩) 2 2) := ⟨_, rfl⟩
        rw [← hw_]
        obtain ⟨ga, hga_⟩ : ∃ b, b = wb.heap.size := ⟨_, rfl⟩
        have hgab : ga = wb.heap.size := hga_
        have hg1 : bx < ga := by have := HBb.out.lt; omega
        have hg2 : w.heap.size < ga := by have := HZb.out.lt; omega
        have hg3 : wa.heap.size ≤ ga := by omega
        have hB_ : Below bx wb wc := by rw [hw_]; exact ((below_box wb _).mono (show bx ≤ wb.heap.size by omega)).setCell (Nat.le_refl bx) _
        have HC0 := Lib.hid (show C8 wc ga 0 Xa.f (.slice aoa Xa.f.n ca) by rw [hw_, hga_]; exact C8.far (by constructor <;> simp [go_sem]) (by simp; omega) _)
        have HC1 := Lib.hid (show C8 wc ga 8 Xa.f (.slice aoa Xa.f.n ca) by rw [hw_, hga_]; exact C8.far (by constructor <;> simp [go_sem]) (by simp; omega) _)
        have HFg := Lib.hid (show ∀ o, wc.frozen? ⟨ga, o, none⟩ = false from fun o => by rw [hw_, hga_, World.frozen?_setCell]; simp [go_sem])
        rw [← hga_] at hw_
        try rw [← hga_]
        have HTc := Lib.hid (show TP wc B p _ by rw [hw_]; exact (HTb.out.below (below_box _ _)).far (by simp; omega) (by simp; omega) _)
        have HGc := Lib.hid (show w.grownBy wc (some p) from only_low HGb.out hB_ (by omega))
        have HZc := Lib.hid (show Z8 wc w.heap.size by rw [hw_]; exact (HZb.out.below (below_box _ _)).far (by simp; omega) _)
        have HBc := Lib.hid (show B8 wc bx ⟨3, (⟨#[]⟩ : ByteArray), 0, 3, den, pa, (⟨#[]⟩ : ByteArray), 2⟩ (.slice (some ⟨ga, 0, none⟩) 2 2) by rw [hw_]; exact (HBb.out.below (below_box _ _)).set7 2 _)
        have HQc := Lib.hid (show ∀ q : Addr, q.block < wa.heap.size → la ≤ q.block → wc.cell? q = wa.cell? q from fun q h1 h2 => by rw [hw_, World.cell?_setCell_far _ _ _ _ (by simp; omega)]; exact ((below_box wb _).cell (by omega)).trans (HQb.out q h1 h2))
        have HFc := Lib.hid (show ∀ o, wc.frozen? ⟨bx, o, none⟩ = false from fun o => by rw [hw_, World.frozen?_setCell]; exact ((below_box wb _).frozen HBb.out.lt).trans (HFb.out o))
        have hsc : ga < wc.heap.size := HC0.out.lt
        clear hw_ hga_ hB_ a0 a1 a2 a3 a4 a5 a6 a7 bz7 bzf
        clear HQb HAb HBb HFb HZb HGb HTb hgab sab
        go_wp2_with fail
        refine (next_any B p _ 4 _ HTc.out (by omega) (by omega) (by omega)).mono ?_
        rintro e wd ⟨nd, rfl, nd0, nd1, hT_, hg_⟩
        have HTd := Lib.hid hT_
        have HGd := Lib.hid (only_trans HGc.out hg_)
        have HZd := Lib.hid (HZc.out.only hpw hg_)
        have HBd := Lib.hid (HBc.out.only (by omega) hg_)
        have HC0d := Lib.hid (HC0.out.only (by omega) hg_)
        have HC1d := Lib.hid (HC1.out.only (by omega) hg_)
        have HFgd := Lib.hid (fun o => only_frozen hg_ hsc (HFg.out o) (by omega))
        have HQd := Lib.hid (show ∀ q : Addr, q.block < wa.heap.size → la ≤ q.block → wd.cell? q = wa.cell? q from fun q h1 h2 => (World.cell?_of_block (hg_.block q.block (by omega) (by simp; omega))).trans (HQc.out q h1 h2))
        have hsd := hg_.size
        clear hT_ hg_ HTc HGc HZc HBc HC0 HC1 HFg HFc HQc
        by_cases hnd : 0 < nd
        rotate_left
        · have HXf := Lib.hid ((HXa0.out.cells HQd.out).mono hla1)
          clear HXa0 HQd
          obtain ⟨z0, z1, z2, z3, z4, z5, z6, z7, zf⟩ := HZd.out
          obtain ⟨b0, b1, b2, b3, b4, b5, b6, b7⟩ := HBd.out
          simp only at b0 b1 b2 b3 b4 b5 b6 b7
          go_wp2_with fail
          obtain ⟨wo, ho_⟩ : ∃ x, x = put8 wd w.heap.size (.int .i64 3) (.string (⟨#[]⟩ : ByteArray)) (.int .i64 0) (.int .i64 3) (.int .i64 den) (.int .i64 pa) (.string (⟨#[]⟩ : ByteArray)) (.slice (some ⟨ga, 0, none⟩) 2 2) := ⟨_, rfl⟩
          have ho2_ := ho_
          unfold put8 at ho2_
          rw [← ho2_]
          clear ho2_ z0 z1 z2 z3 z4 z5 z6 z7 zf b0 b1 b2 b3 b4 b5 b6 b7
          have hok8 : okFld ⟨3, (⟨#[]⟩ : ByteArray), 0, 3, den, pa, (⟨#[]⟩ : ByteArray), 2⟩ = true := okF_2 3 3 den pa 0 (by omega) (by omega) hden
          have HB8 : B8 wo w.heap.size ⟨3, (⟨#[]⟩ : ByteArray), 0, 3, den, pa, (⟨#[]⟩ : ByteArray), 2⟩ (.slice (some ⟨ga, 0, none⟩) 2 2) := by rw [ho_]; exact HZd.out.put ⟨3, (⟨#[]⟩ : ByteArray), 0, 3, den, pa, (⟨#[]⟩ : ByteArray), 2⟩ _
          have hc0 : C8 wo ga 0 Xa.f (.slice aoa Xa.f.n ca) := by rw [ho_]; exact HC0d.out.put8 (by omega) _ _ _ _ _ _ _ _
          have hc1 : C8 wo ga 8 Xa.f (.slice aoa Xa.f.n ca) := by rw [ho_]; exact HC1d.out.put8 (by omega) _ _ _ _ _ _ _ _
          have hxa : XL wo (w.heap.size + 1) (Xa.f.val (.slice aoa Xa.f.n ca)) Xa := by rw [ho_]; exact XL.put8 HXf.out (by omega) _ _ _ _ _ _ _ _
          have hxb : XL wo (w.heap.size + 1) (Xa.f.val (.slice aoa Xa.f.n ca)) Xa := by rw [ho_]; exact XL.put8 HXf.out (by omega) _ _ _ _ _ _ _ _
          have hto : TP wo B p (ka + 1) := by rw [ho_]; exact HTd.out.put8 (by omega) (by omega) _ _ _ _ _ _ _ _
          have hgo : w.grownBy wo (some p) := only_low HGd.out (by rw [ho_]; exact put8_below _ _ _ _ _ _ _ _ _ (Nat.le_refl _)) (Nat.le_refl _)
          clear ho_
          have hxo : XL wo (w.heap.size + 1) (Fld.val ⟨3, (⟨#[]⟩ : ByteArray), 0, 3, den, pa, (⟨#[]⟩ : ByteArray), 2⟩ (.slice (some ⟨ga, 0, none⟩) 2 2)) (.mk ⟨3, (⟨#[]⟩ : ByteArray), 0, 3, den, pa, (⟨#[]⟩ : ByteArray), 2⟩ (pair2 Xa Xa)) := node2 hc0 hc1 hxa hxb (by omega) (fit_2 3 3 den pa) rfl (Nat.le_refl _)
          refine bodyPost_ret (results_cell Try.results33 _ _ _ rfl (load_x HB8)) rfl ?_
          exact ⟨_, _, _, rfl, hxo.mono (by omega), ok_node2 hok8 rfl hokXa hokXa, good_node2 (show (3 : Int) ≠ 1 by decide) hgoodXa hgoodXa, hto, by omega, hgo⟩
        obtain ⟨b0, b1, b2, b3, b4, b5, b6, b7⟩ := HBd.out
        clear b0 b1 b2 b3 b4 b5 b6
        go_wp2_with fail
        refine Plan.wp_region_plan (At7 bx ga) ([0, 1, 2, 3, 4].map (·, true) ++ ([5].map (·, false) ++ ([6].map (·, true) ++ [7].map (·, false)))) (by kernel_rfl) (by kernel_rfl) (by kernel_rfl) b7 ?_
        refine' Plan.plan_seg _ [0, 1, 2, 3, 4] ([5].map (·, false) ++ ([6].map (·, true) ++ [7].map (·, false))) (by kernel_rfl) (by kernel_rfl) rfl (by exact b7) (fun wx hS => ?_) ?_
        rotate_left
        · have y7 : wx.cell? ⟨bx, 7, none⟩ = some (.slice (some ⟨ga, 0, none⟩) 2 2) := hS
          clear hS
          go_light
          iterate 5 (apply Plan.seg_pick; rfl; intro K hK; go_wp)
          exact Plan.seg_nil
        refine Plan.plan_of_effect rfl (fun K hK => ?_)
        go_wp2_with fail
        refine (ih B p _ _ HTd.out.drew (by omega) (by omega)).mono ?_
        rintro e we ⟨vb, Xb, kb, rfl, hX_, hokXb, hgoodXb, hT_, hkXb, hg_⟩
        replace hg_ : wd.grownBy we (some p) := only_trans (only_of_below (Below.refl _ _).drew) hg_
        obtain ⟨lb, hlb_⟩ : ∃ b, b = wd.heap.size := ⟨_, rfl⟩
        have hlb1 : ga < lb := by omega
        have HXb := Lib.hid (show XL we lb _ Xb by rw [hlb_]; exact hX_)
        obtain ⟨aob, cb, hv_⟩ := hX_.open
        unfold Fld.val at hv_
        subst hv_
        have HTe := Lib.hid hT_
        have HGe := Lib.hid (only_trans HGd.out hg_)
        have HZe := Lib.hid (HZd.out.only hpw hg_)
        have HBe := Lib.hid (HBd.out.only (by omega) hg_)
        have HC0e := Lib.hid (HC0d.out.only (by omega) hg_)
        have HC1e := Lib.hid (HC1d.out.only (by omega) hg_)
        have HFge := Lib.hid (fun o => only_frozen hg_ (by omega) (HFgd.out o) (by omega))
        have HQe := Lib.hid (show ∀ q : Addr, q.block < wa.heap.size → la ≤ q.block → we.cell? q = wa.cell? q from fun q h1 h2 => (World.cell?_of_block (hg_.block q.block (by omega) (by simp; omega))).trans (HQd.out q h1 h2))
        clear hX_ hT_ hg_ hlb_
        go_wp2_with fail
        refine ⟨HBe.out.k7, ?_⟩
        refine' Plan.plan_seg _ [6] ([7].map (·, false)) (by kernel_rfl) (by kernel_rfl) rfl (by exact HBe.out.k7) (fun wx hS => ?_) ?_
        rotate_left
        · clear hS
          go_light
          iterate 1 (apply Plan.seg_pick; rfl; intro K hK; go_wp)
          exact Plan.seg_nil
        refine Plan.plan_of_effect rfl (fun K hK => ?_)
        refine wpList_store8 we rfl (.tmp 62) (.tmp 61) rfl ga Xa.f Xb.f (.slice aoa Xa.f.n ca) aob Xb.f.n cb rfl rfl HC1e.out HFge.out ?_
        refine wpList_nil (hK _ _ ?_)
        obtain ⟨wf, hw_⟩ : ∃ x, x = putB we ga (.int .i64 Xb.f.op) (.string Xb.f.media) (.int .i64 Xb.f.frame) (.int .i64 Xb.f.num) (.int .i64 Xb.f.den) (.int .i64 Xb.f.par) (.string Xb.f.text) (.slice aob Xb.f.n cb) := ⟨_, rfl⟩
        rw [← hw_]
        have HTf := Lib.hid (show TP wf B p kb by rw [hw_]; exact HTe.out.putB (by omega) (by omega) _ _ _ _ _ _ _ _)
        have HGf := Lib.hid (show w.grownBy wf (some p) from only_low (L := ga) HGe.out (by rw [hw_]; exact putB_below _ _ _ _ _ _ _ _ _ (Nat.le_refl _)) (by omega))
        have HZf := Lib.hid (show Z8 wf w.heap.size by rw [hw_]; exact HZe.out.putB (by omega) _ _ _ _ _ _ _ _)
        have HBf := Lib.hid (show B8 wf bx ⟨3, (⟨#[]⟩ : ByteArray), 0, 3, den, pa, (⟨#[]⟩ : ByteArray), 2⟩ (.slice (some ⟨ga, 0, none⟩) 2 2) by rw [hw_]; exact HBe.out.putB (by omega) _ _ _ _ _ _ _ _)
        have HC0f := Lib.hid (show C8 wf ga 0 Xa.f (.slice aoa Xa.f.n ca) by rw [hw_]; exact HC0e.out.putB0 _ _ _ _ _ _ _ _)
        have HC1f := Lib.hid (show C8 wf ga 8 Xb.f (.slice aob Xb.f.n cb) by rw [hw_]; exact HC1e.out.putB8 _ _)
        have HXaf := Lib.hid (show XL wf (w.heap.size + 1) _ Xa from (HXa0.out.cells (fun q h1 h2 => by rw [hw_, putB_cell _ _ _ _ _ _ _ _ _ (by omega)]; exact HQe.out q h1 h2)).mono hla1)
        have HXbf := Lib.hid (show XL wf (w.heap.size + 1) _ Xb from (HXb.out.cells (fun q h1 h2 => by rw [hw_, putB_cell _ _ _ _ _ _ _ _ _ (by omega)])).mono (by omega))
        clear hw_ HTe HGe HZe HBe HC0e HC1e HFge HQe HXb HXa0 HTd HGd HZd HBd HC0d HC1d HFgd HQd
        refine ⟨HBf.out.k7, ?_⟩
        refine Plan.plan_done ?_
        obtain ⟨z0, z1, z2, z3, z4, z5, z6, z7, zf⟩ := HZf.out
        obtain ⟨b0, b1, b2, b3, b4, b5, b6, b7⟩ := HBf.out
        simp only at b0 b1 b2 b3 b4 b5 b6 b7
        go_wp2_with fail
        obtain ⟨wo, ho_⟩ : ∃ x, x = put8 wf w.heap.size (.int .i64 3) (.string (⟨#[]⟩ : ByteArray)) (.int .i64 0) (.int .i64 3) (.int .i64 den) (.int .i64 pa) (.string (⟨#[]⟩ : ByteArray)) (.slice (some ⟨ga, 0, none⟩) 2 2) := ⟨_, rfl⟩
        have ho2_ := ho_
        unfold put8 at ho2_
        rw [← ho2_]
        clear ho2_ z0 z1 z2 z3 z4 z5 z6 z7 zf b0 b1 b2 b3 b4 b5 b6 b7
        have hok8 : okFld ⟨3, (⟨#[]⟩ : ByteArray), 0, 3, den, pa, (⟨#[]⟩ : ByteArray), 2⟩ = true := okF_2 3 3 den pa 0 (by omega) (by omega) hden
        have HB8 : B8 wo w.heap.size ⟨3, (⟨#[]⟩ : ByteArray), 0, 3, den, pa, (⟨#[]⟩ : ByteArray), 2⟩ (.slice (some ⟨ga, 0, none⟩) 2 2) := by rw [ho_]; exact HZf.out.put ⟨3, (⟨#[]⟩ : ByteArray), 0, 3, den, pa, (⟨#[]⟩ : ByteArray), 2⟩ _
        have hc0 : C8 wo ga 0 Xa.f (.slice aoa Xa.f.n ca) := by rw [ho_]; exact HC0f.out.put8 (by omega) _ _ _ _ _ _ _ _
        have hc1 : C8 wo ga 8 Xb.f (.slice aob Xb.f.n cb) := by rw [ho_]; exact HC1f.out.put8 (by omega) _ _ _ _ _ _ _ _
        have hxa : XL wo (w.heap.size + 1) (Xa.f.val (.slice aoa Xa.f.n ca)) Xa := by rw [ho_]; exact XL.put8 HXaf.out (by omega) _ _ _ _ _ _ _ _
        have hxb : XL wo (w.heap.size + 1) (Xb.f.val (.slice aob Xb.f.n cb)) Xb := by rw [ho_]; exact XL.put8 HXbf.out (by omega) _ _ _ _ _ _ _ _
        have hto : TP wo B p (kb) := by rw [ho_]; exact HTf.out.put8 (by omega) (by omega) _ _ _ _ _ _ _ _
        have hgo : w.grownBy wo (some p) := only_low HGf.out (by rw [ho_]; exact put8_below _ _ _ _ _ _ _ _ _ (Nat.le_refl _)) (Nat.le_refl _)
        clear ho_
        have hxo : XL wo (w.heap.size + 1) (Fld.val ⟨3, (⟨#[]⟩ : ByteArray), 0, 3, den, pa, (⟨#[]⟩ : ByteArray), 2⟩ (.slice (some ⟨ga, 0, none⟩) 2 2)) (.mk ⟨3, (⟨#[]⟩ : ByteArray), 0, 3, den, pa, (⟨#[]⟩ : ByteArray), 2⟩ (pair2 Xa Xb)) := node2 hc0 hc1 hxa hxb (by omega) (fit_2 3 3 den pa) rfl (Nat.le_refl _)
        refine bodyPost_ret (results_cell Try.results33 _ _ _ rfl (load_x HB8)) rfl ?_
        exact ⟨_, _, _, rfl, hxo.mono (by omega), ok_node2 hok8 rfl hokXa hokXb, good_node2 (show (3 : Int) ≠ 1 by decide) hgoodXa hgoodXb, hto, by omega, hgo⟩
      have hn13 : num = 1 ∨ num = 3 := by omega
      obtain ⟨b0, b1, b2, b3, b4, b5, b6, b7⟩ := HB7.out
      simp only at b0 b1 b2 b3 b4 b5 b6 b7
      have hnb : (num == 2) = false := by rw [beq_eq_false_iff_ne]; exact hn2
      clear b0 b1 b2 b4 b5 b6 b7
      go_upto_region 14 with fail
      clear b3
      go_wp2_with fail
      refine (ih B p _ _ HT7.out (by omega) (by omega)).mono ?_
      rintro e wa ⟨va, Xa, ka, rfl, hX_, hokXa, hgoodXa, hT_, hkXa, hg_⟩
      have hL_ : w.heap.size + 1 ≤ _ := HZ7.out.lt
      obtain ⟨la, hla_⟩ : ∃ b, b = w7.heap.size := ⟨_, rfl⟩
      have hla1 : w.heap.size + 1 ≤ la := by omega
      have hla2 : bx < la := by have := HB7.out.lt; omega
      have HXa0 := Lib.hid (show XL wa la _ Xa by rw [hla_]; exact hX_)
      obtain ⟨aoa, ca, hv_⟩ := hX_.open
      unfold Fld.val at hv_
      subst hv_
      have HTa := Lib.hid hT_
      have HGa := Lib.hid (only_trans HG7.out hg_)
      have HZa := Lib.hid (HZ7.out.only hpw hg_)
      have HBa := Lib.hid (HB7.out.only (by omega) hg_)
      have HFa := Lib.hid (fun o => only_frozen hg_ HB7.out.lt (HF7.out o) (by omega))
      clear hX_ hT_ hL_ hg_ hla_
      go_upto_region 15 with fail
      obtain ⟨wb, hw_⟩ : ∃ x, x = wa.alloc (.cells #[.int .i64 Xa.f.op, .string Xa.f.media, .int .i64 Xa.f.frame, .int .i64 Xa.f.num, .int .i64 Xa.f.den, .int .i64 Xa.f.par, .string Xa.f.text, .slice aoa Xa.f.n ca] 58) := ⟨_, rfl⟩
      rw [← hw_]
      obtain ⟨ba, hba_⟩ : ∃ b, b = wa.heap.size := ⟨_, rfl⟩
      have hB_ : Below wa.heap.size wa wb := by rw [hw_]; exact below_box _ _
      have HAb := Lib.hid (show B8 wb ba Xa.f (.slice aoa Xa.f.n ca) by rw [hw_]; exact B8.of_alloc _ _ _ _ _ hba_)
      try rw [← hba_]
      have HTb := Lib.hid (HTa.out.below hB_)
      have HGb := Lib.hid (only_low HGa.out hB_ (Nat.le_of_lt HZa.out.lt))
      have HZb := Lib.hid (HZa.out.below hB_)
      have HBb := Lib.hid (HBa.out.below hB_)
      have HFb := Lib.hid (fun o => (hB_.frozen HBa.out.lt).trans (HFa.out o))
      have HQb := Lib.hid (show ∀ q : Addr, q.block < wa.heap.size → la ≤ q.block → wb.cell? q = wa.cell? q from fun q h1 _ => hB_.cell h1)
      have sab := hB_.size
      clear hw_ hba_ hB_
      obtain ⟨a0, a1, a2, a3, a4, a5, a6, a7⟩ := HAb.out
      have bz7 : ∀ o, (wb.alloc o).cell? ⟨bx, 7, none⟩ = some (.slice none 0 0) := fun o => ((below_box wb o).cell HBb.out.lt).trans HBb.out.k7
      have bzf : ∀ o q, (wb.alloc o).frozen? ⟨bx, q, none⟩ = false := fun o q => ((below_box wb o).frozen HBb.out.lt).trans (HFb.out q)
      go_upto_region 16 with fail
      obtain ⟨wc, hw_⟩ : ∃ x, x = (wb.alloc (.cells #[.int .i64 Xa.f.op, .string Xa.f.media, .int .i64 Xa.f.frame, .int .i64 Xa.f.num, .int .i64 Xa.f.den, .int .i64 Xa.f.par, .string Xa.f.text, .slice aoa Xa.f.n ca, .int .i64 Xa.f.op, .string Xa.f.media, .int .i64 Xa.f.frame, .int .i64 Xa.f.num, .int .i64 Xa.f.den, .int .i64 Xa.f.par, .string Xa.f.text, .slice aoa Xa.f.n ca] 58)).setCell ⟨bx, 7, none⟩ (.slice (some ⟨wb.heap.size, 0, none⟩) 2 2) := ⟨_, rfl⟩
      rw [← hw_]
      obtain ⟨ga, hga_⟩ : ∃ b, b = wb.heap.size := ⟨_, rfl⟩
      have hgab : ga = wb.heap.size := hga_
      have hg1 : bx < ga := by have := HBb.out.lt; omega
      have hg2 : w.heap.size < ga := by have := HZb.out.lt; omega
      have hg3 : wa.heap.size ≤ ga := by omega
      have hB_ : Below bx wb wc := by rw [hw_]; exact ((below_box wb _).mono (show bx ≤ wb.heap.size by omega)).setCell (Nat.le_refl bx) _
      have HC0 := Lib.hid (show C8 wc ga 0 Xa.f (.slice aoa Xa.f.n ca) by rw [hw_, hga_]; exact C8.far (by constructor <;> simp [go_sem]) (by simp; omega) _)
      have HC1 := Lib.hid (show C8 wc ga 8 Xa.f (.slice aoa Xa.f.n ca) by rw [hw_, hga_]; exact C8.far (by constructor <;> simp [go_sem]) (by simp; omega) _)
      have HFg := Lib.hid (show ∀ o, wc.frozen? ⟨ga, o, none⟩ = false from fun o => by rw [hw_, hga_, World.frozen?_setCell]; simp [go_sem])
      rw [← hga_] at hw_
      try rw [← hga_]
      have HTc := Lib.hid (show TP wc B p _ by rw [hw_]; exact (HTb.out.below (below_box _ _)).far (by simp; omega) (by simp; omega) _)
      have HGc := Lib.hid (show w.grownBy wc (some p) from only_low HGb.out hB_ (by omega))
      have HZc := Lib.hid (show Z8 wc w.heap.size by rw [hw_]; exact (HZb.out.below (below_box _ _)).far (by simp; omega) _)
      have HBc := Lib.hid (show B8 wc bx ⟨3, (⟨#[]⟩ : ByteArray), 0, num, den, pa, (⟨#[]⟩ : ByteArray), 2⟩ (.slice (some ⟨ga, 0, none⟩) 2 2) by rw [hw_]; exact (HBb.out.below (below_box _ _)).set7 2 _)
      have HQc := Lib.hid (show ∀ q : Addr, q.block < wa.heap.size → la ≤ q.block → wc.cell? q = wa.cell? q from fun q h1 h2 => by rw [hw_, World.cell?_setCell_far _ _ _ _ (by simp; omega)]; exact ((below_box wb _).cell (by omega)).trans (HQb.out q h1 h2))
      have HFc := Lib.hid (show ∀ o, wc.frozen? ⟨bx, o, none⟩ = false from fun o => by rw [hw_, World.frozen?_setCell]; exact ((below_box wb _).frozen HBb.out.lt).trans (HFb.out o))
      have hsc : ga < wc.heap.size := HC0.out.lt
      clear hw_ hga_ hB_ a0 a1 a2 a3 a4 a5 a6 a7 bz7 bzf
      clear HQb HAb HBb HFb HZb HGb HTb hgab sab
      go_wp2_with fail
      refine (next_any B p _ 4 _ HTc.out (by omega) (by omega) (by omega)).mono ?_
      rintro e wd ⟨nd, rfl, nd0, nd1, hT_, hg_⟩
      have HTd := Lib.hid hT_
      have HGd := Lib.hid (only_trans HGc.out hg_)
      have HZd := Lib.hid (HZc.out.only hpw hg_)
      have HBd := Lib.hid (HBc.out.only (by omega) hg_)
      have HC0d := Lib.hid (HC0.out.only (by omega) hg_)
      have HC1d := Lib.hid (HC1.out.only (by omega) hg_)
      have HFgd := Lib.hid (fun o => only_frozen hg_ hsc (HFg.out o) (by omega))
      have HQd := Lib.hid (show ∀ q : Addr, q.block < wa.heap.size → la ≤ q.block → wd.cell? q = wa.cell? q from fun q h1 h2 => (World.cell?_of_block (hg_.block q.block (by omega) (by simp; omega))).trans (HQc.out q h1 h2))
      have hsd := hg_.size
      clear hT_ hg_ HTc HGc HZc HBc HC0 HC1 HFg HFc HQc
      by_cases hnd : 0 < nd
      rotate_left
      · have HXf := Lib.hid ((HXa0.out.cells HQd.out).mono hla1)
        clear HXa0 HQd
        obtain ⟨z0, z1, z2, z3, z4, z5, z6, z7, zf⟩ := HZd.out
        obtain ⟨b0, b1, b2, b3, b4, b5, b6, b7⟩ := HBd.out
        simp only at b0 b1 b2 b3 b4 b5 b6 b7
        go_wp2_with fail
        obtain ⟨wo, ho_⟩ : ∃ x, x = put8 wd w.heap.size (.int .i64 3) (.string (⟨#[]⟩ : ByteArray)) (.int .i64 0) (.int .i64 num) (.int .i64 den) (.int .i64 pa) (.string (⟨#[]⟩ : ByteArray)) (.slice (some ⟨ga, 0, none⟩) 2 2) := ⟨_, rfl⟩
        have ho2_ := ho_
        unfold put8 at ho2_
        rw [← ho2_]
        clear ho2_ z0 z1 z2 z3 z4 z5 z6 z7 zf b0 b1 b2 b3 b4 b5 b6 b7
        have hok8 : okFld ⟨3, (⟨#[]⟩ : ByteArray), 0, num, den, pa, (⟨#[]⟩ : ByteArray), 2⟩ = true := okF_2 3 num den pa 0 (by omega) (by omega) hden
        have HB8 : B8 wo w.heap.size ⟨3, (⟨#[]⟩ : ByteArray), 0, num, den, pa, (⟨#[]⟩ : ByteArray), 2⟩ (.slice (some ⟨ga, 0, none⟩) 2 2) := by rw [ho_]; exact HZd.out.put ⟨3, (⟨#[]⟩ : ByteArray), 0, num, den, pa, (⟨#[]⟩ : ByteArray), 2⟩ _
        have hc0 : C8 wo ga 0 Xa.f (.slice aoa Xa.f.n ca) := by rw [ho_]; exact HC0d.out.put8 (by omega) _ _ _ _ _ _ _ _
        have hc1 : C8 wo ga 8 Xa.f (.slice aoa Xa.f.n ca) := by rw [ho_]; exact HC1d.out.put8 (by omega) _ _ _ _ _ _ _ _
        have hxa : XL wo (w.heap.size + 1) (Xa.f.val (.slice aoa Xa.f.n ca)) Xa := by rw [ho_]; exact XL.put8 HXf.out (by omega) _ _ _ _ _ _ _ _
        have hxb : XL wo (w.heap.size + 1) (Xa.f.val (.slice aoa Xa.f.n ca)) Xa := by rw [ho_]; exact XL.put8 HXf.out (by omega) _ _ _ _ _ _ _ _
        have hto : TP wo B p (ka + 1) := by rw [ho_]; exact HTd.out.put8 (by omega) (by omega) _ _ _ _ _ _ _ _
        have hgo : w.grownBy wo (some p) := only_low HGd.out (by rw [ho_]; exact put8_below _ _ _ _ _ _ _ _ _ (Nat.le_refl _)) (Nat.le_refl _)
        clear ho_
        have hxo : XL wo (w.heap.size + 1) (Fld.val ⟨3, (⟨#[]⟩ : ByteArray), 0, num, den, pa, (⟨#[]⟩ : ByteArray), 2⟩ (.slice (some ⟨ga, 0, none⟩) 2 2)) (.mk ⟨3, (⟨#[]⟩ : ByteArray), 0, num, den, pa, (⟨#[]⟩ : ByteArray), 2⟩ (pair2 Xa Xa)) := node2 hc0 hc1 hxa hxb (by omega) (fit_2 3 num den pa) rfl (Nat.le_refl _)
        refine bodyPost_ret (results_cell Try.results33 _ _ _ rfl (load_x HB8)) rfl ?_
        exact ⟨_, _, _, rfl, hxo.mono (by omega), ok_node2 hok8 rfl hokXa hokXa, good_node2 (show (3 : Int) ≠ 1 by decide) hgoodXa hgoodXa, hto, by omega, hgo⟩
      obtain ⟨b0, b1, b2, b3, b4, b5, b6, b7⟩ := HBd.out
      clear b0 b1 b2 b3 b4 b5 b6
      go_wp2_with fail
      refine Plan.wp_region_plan (At7 bx ga) ([0, 1, 2, 3, 4].map (·, true) ++ ([5].map (·, false) ++ ([6].map (·, true) ++ [7].map (·, false)))) (by kernel_rfl) (by kernel_rfl) (by kernel_rfl) b7 ?_
      refine' Plan.plan_seg _ [0, 1, 2, 3, 4] ([5].map (·, false) ++ ([6].map (·, true) ++ [7].map (·, false))) (by kernel_rfl) (by kernel_rfl) rfl (by exact b7) (fun wx hS => ?_) ?_
      rotate_left
      · have y7 : wx.cell? ⟨bx, 7, none⟩ = some (.slice (some ⟨ga, 0, none⟩) 2 2) := hS
        clear hS
        go_light
        iterate 5 (apply Plan.seg_pick; rfl; intro K hK; go_wp)
        exact Plan.seg_nil
      refine Plan.plan_of_effect rfl (fun K hK => ?_)
      go_wp2_with fail
      refine (ih B p _ _ HTd.out.drew (by omega) (by omega)).mono ?_
      rintro e we ⟨vb, Xb, kb, rfl, hX_, hokXb, hgoodXb, hT_, hkXb, hg_⟩
      replace hg_ : wd.grownBy we (some p) := only_trans (only_of_below (Below.refl _ _).drew) hg_
      obtain ⟨lb, hlb_⟩ : ∃ b, b = wd.heap.size := ⟨_, rfl⟩
      have hlb1 : ga < lb := by omega
      have HXb := Lib.hid (show XL we lb _ Xb by rw [hlb_]; exact hX_)
      obtain ⟨aob, cb, hv_⟩ := hX_.open
      unfold Fld.val at hv_
      subst hv_
      have HTe := Lib.hid hT_
      have HGe := Lib.hid (only_trans HGd.out hg_)
      have HZe := Lib.hid (HZd.out.only hpw hg_)
      have HBe := Lib.hid (HBd.out.only (by omega) hg_)
      have HC0e := Lib.hid (HC0d.out.only (by omega) hg_)
      have HC1e := Lib.hid (HC1d.out.only (by omega) hg_)
      have HFge := Lib.hid (fun o => only_frozen hg_ (by omega) (HFgd.out o) (by omega))
      have HQe := Lib.hid (show ∀ q : Addr, q.block < wa.heap.size → la ≤ q.block → we.cell? q = wa.cell? q from fun q h1 h2 => (World.cell?_of_block (hg_.block q.block (by omega) (by simp; omega))).trans (HQd.out q h1 h2))
      clear hX_ hT_ hg_ hlb_
      go_wp2_with fail
      refine ⟨HBe.out.k7, ?_⟩
      refine' Plan.plan_seg _ [6] ([7].map (·, false)) (by kernel_rfl) (by kernel_rfl) rfl (by exact HBe.out.k7) (fun wx hS => ?_) ?_
      rotate_left
      · clear hS
        go_light
        iterate 1 (apply Plan.seg_pick; rfl; intro K hK; go_wp)
        exact Plan.seg_nil
      refine Plan.plan_of_effect rfl (fun K hK => ?_)
      refine wpList_store8 we rfl (.tmp 62) (.tmp 61) rfl ga Xa.f Xb.f (.slice aoa Xa.f.n ca) aob Xb.f.n cb rfl rfl HC1e.out HFge.out ?_
      refine wpList_nil (hK _ _ ?_)
      obtain ⟨wf, hw_⟩ : ∃ x, x = putB we ga (.int .i64 Xb.f.op) (.string Xb.f.media) (.int .i64 Xb.f.frame) (.int .i64 Xb.f.num) (.int .i64 Xb.f.den) (.int .i64 Xb.f.par) (.string Xb.f.text) (.slice aob Xb.f.n cb) := ⟨_, rfl⟩
      rw [← hw_]
      have HTf := Lib.hid (show TP wf B p kb by rw [hw_]; exact HTe.out.putB (by omega) (by omega) _ _ _ _ _ _ _ _)
      have HGf := Lib.hid (show w.grownBy wf (some p) from only_low (L := ga) HGe.out (by rw [hw_]; exact putB_below _ _ _ _ _ _ _ _ _ (Nat.le_refl _)) (by omega))
      have HZf := Lib.hid (show Z8 wf w.heap.size by rw [hw_]; exact HZe.out.putB (by omega) _ _ _ _ _ _ _ _)
      have HBf := Lib.hid (show B8 wf bx ⟨3, (⟨#[]⟩ : ByteArray), 0, num, den, pa, (⟨#[]⟩ : ByteArray), 2⟩ (.slice (some ⟨ga, 0, none⟩) 2 2) by rw [hw_]; exact HBe.out.putB (by omega) _ _ _ _ _ _ _ _)
      have HC0f := Lib.hid (show C8 wf ga 0 Xa.f (.slice aoa Xa.f.n ca) by rw [hw_]; exact HC0e.out.putB0 _ _ _ _ _ _ _ _)
      have HC1f := Lib.hid (show C8 wf ga 8 Xb.f (.slice aob Xb.f.n cb) by rw [hw_]; exact HC1e.out.putB8 _ _)
      have HXaf := Lib.hid (show XL wf (w.heap.size + 1) _ Xa from (HXa0.out.cells (fun q h1 h2 => by rw [hw_, putB_cell _ _ _ _ _ _ _ _ _ (by omega)]; exact HQe.out q h1 h2)).mono hla1)
      have HXbf := Lib.hid (show XL wf (w.heap.size + 1) _ Xb from (HXb.out.cells (fun q h1 h2 => by rw [hw_, putB_cell _ _ _ _ _ _ _ _ _ (by omega)])).mono (by omega))
      clear hw_ HTe HGe HZe HBe HC0e HC1e HFge HQe HXb HXa0 HTd HGd HZd HBd HC0d HC1d HFgd HQd
      refine ⟨HBf.out.k7, ?_⟩
      refine Plan.plan_done ?_
      obtain ⟨z0, z1, z2, z3, z4, z5, z6, z7, zf⟩ := HZf.out
      obtain ⟨b0, b1, b2, b3, b4, b5, b6, b7⟩ := HBf.out
      simp only at b0 b1 b2 b3 b4 b5 b6 b7
      go_wp2_with fail
      obtain ⟨wo, ho_⟩ : ∃ x, x = put8 wf w.heap.size (.int .i64 3) (.string (⟨#[]⟩ : ByteArray)) (.int .i64 0) (.int .i64 num) (.int .i64 den) (.int .i64 pa) (.string (⟨#[]⟩ : ByteArray)) (.slice (some ⟨ga, 0, none⟩) 2 2) := ⟨_, rfl⟩
      have ho2_ := ho_
      unfold put8 at ho2_
      rw [← ho2_]
      clear ho2_ z0 z1 z2 z3 z4 z5 z6 z7 zf b0 b1 b2 b3 b4 b5 b6 b7
      have hok8 : okFld ⟨3, (⟨#[]⟩ : ByteArray), 0, num, den, pa, (⟨#[]⟩ : ByteArray), 2⟩ = true := okF_2 3 num den pa 0 (by omega) (by omega) hden
      have HB8 : B8 wo w.heap.size ⟨3, (⟨#[]⟩ : ByteArray), 0, num, den, pa, (⟨#[]⟩ : ByteArray), 2⟩ (.slice (some ⟨ga, 0, none⟩) 2 2) := by rw [ho_]; exact HZf.out.put ⟨3, (⟨#[]⟩ : ByteArray), 0, num, den, pa, (⟨#[]⟩ : ByteArray), 2⟩ _
      have hc0 : C8 wo ga 0 Xa.f (.slice aoa Xa.f.n ca) := by rw [ho_]; exact HC0f.out.put8 (by omega) _ _ _ _ _ _ _ _
      have hc1 : C8 wo ga 8 Xb.f (.slice aob Xb.f.n cb) := by rw [ho_]; exact HC1f.out.put8 (by omega) _ _ _ _ _ _ _ _
      have hxa : XL wo (w.heap.size + 1) (Xa.f.val (.slice aoa Xa.f.n ca)) Xa := by rw [ho_]; exact XL.put8 HXaf.out (by omega) _ _ _ _ _ _ _ _
      have hxb : XL wo (w.heap.size + 1) (Xb.f.val (.slice aob Xb.f.n cb)) Xb := by rw [ho_]; exact XL.put8 HXbf.out (by omega) _ _ _ _ _ _ _ _
      have hto : TP wo B p (kb) := by rw [ho_]; exact HTf.out.put8 (by omega) (by omega) _ _ _ _ _ _ _ _
      have hgo : w.grownBy wo (some p) := only_low HGf.out (by rw [ho_]; exact put8_below _ _ _ _ _ _ _ _ _ (Nat.le_refl _)) (Nat.le_refl _)
      clear ho_
      have hxo : XL wo (w.heap.size + 1) (Fld.val ⟨3, (⟨#[]⟩ : ByteArray), 0, num, den, pa, (⟨#[]⟩ : ByteArray), 2⟩ (.slice (some ⟨ga, 0, none⟩) 2 2)) (.mk ⟨3, (⟨#[]⟩ : ByteArray), 0, num, den, pa, (⟨#[]⟩ : ByteArray), 2⟩ (pair2 Xa Xb)) := node2 hc0 hc1 hxa hxb (by omega) (fit_2 3 num den pa) rfl (Nat.le_refl _)
      refine bodyPost_ret (results_cell Try.results33 _ _ _ rfl (load_x HB8)) rfl ?_
      exact ⟨_, _, _, rfl, hxo.mono (by omega), ok_node2 hok8 rfl hokXa hokXb, good_node2 (show (3 : Int) ≠ 1 by decide) hgoodXa hgoodXb, hto, by omega, hgo⟩
    · skip
      go_wp2_with fail
      refine (next_any B p _ 256 _ HT2.out (by omega) (by omega) (by omega)).mono ?_
      rintro e w3 ⟨pr, rfl, pr0, pr1, hT_, hg_⟩
      have HT3 := Lib.hid hT_
      have HG3 := Lib.hid (only_trans HG2.out hg_)
      have HZ3 := Lib.hid (HZ2.out.only hpw hg_)
      clear hT_ hg_
      go_wp2_with fail
      refine (ih B p _ _ HT3.out (by omega) (by omega)).mono ?_
      rintro e w4 ⟨va, Xa, ka, rfl, hX_, hokXa, hgoodXa, hT_, hkXa, hg_⟩
      have hL_ : w.heap.size + 1 ≤ _ := HZ3.out.lt
      have HXa := Lib.hid (hX_.mono hL_)
      obtain ⟨aoa, ca, hv_⟩ := hX_.open
      unfold Fld.val at hv_
      subst hv_
      have HT4 := Lib.hid hT_
      have HG4 := Lib.hid (only_trans HG3.out hg_)
      have HZ4 := Lib.hid (HZ3.out.only hpw hg_)
      clear hX_ hT_ hL_
      clear hg_
      go_wp2_with fail
      refine (ih B p _ _ HT4.out (by omega) (by omega)).mono ?_
      rintro e w5 ⟨vb, Xb, kb, rfl, hX_, hokXb, hgoodXb, hT_, hkXb, hg_⟩
      have hL_ : w.heap.size + 1 ≤ _ := HZ4.out.lt
      have HXb := Lib.hid (hX_.mono hL_)
      obtain ⟨aob, cb, hv_⟩ := hX_.open
      unfold Fld.val at hv_
      subst hv_
      have HT5 := Lib.hid hT_
      have HG5 := Lib.hid (only_trans HG4.out hg_)
      have HZ5 := Lib.hid (HZ4.out.only hpw hg_)
      replace HXa := Lib.hid (HXa.out.only (by omega) hg_)
      clear hX_ hT_ hL_
      clear hg_
      have z0 : ∀ o, (w5.alloc o).cell? ⟨w.heap.size, 0, none⟩ = some (.int .i64 0) := fun o => ((below_box w5 o).cell HZ5.out.lt).trans HZ5.out.k0
      have z1 : ∀ o, (w5.alloc o).cell? ⟨w.heap.size, 1, none⟩ = some (.string (⟨#[]⟩ : ByteArray)) := fun o => ((below_box w5 o).cell HZ5.out.lt).trans HZ5.out.k1
      have z2 : ∀ o, (w5.alloc o).cell? ⟨w.heap.size, 2, none⟩ = some (.int .i64 0) := fun o => ((below_box w5 o).cell HZ5.out.lt).trans HZ5.out.k2
      have z3 : ∀ o, (w5.alloc o).cell? ⟨w.heap.size, 3, none⟩ = some (.int .i64 0) := fun o => ((below_box w5 o).cell HZ5.out.lt).trans HZ5.out.k3
      have z4 : ∀ o, (w5.alloc o).cell? ⟨w.heap.size, 4, none⟩ = some (.int .i64 0) := fun o => ((below_box w5 o).cell HZ5.out.lt).trans HZ5.out.k4
      have z5 : ∀ o, (w5.alloc o).cell? ⟨w.heap.size, 5, none⟩ = some (.int .i64 0) := fun o => ((below_box w5 o).cell HZ5.out.lt).trans HZ5.out.k5
      have z6 : ∀ o, (w5.alloc o).cell? ⟨w.heap.size, 6, none⟩ = some (.string (⟨#[]⟩ : ByteArray)) := fun o => ((below_box w5 o).cell HZ5.out.lt).trans HZ5.out.k6
      have z7 : ∀ o, (w5.alloc o).cell? ⟨w.heap.size, 7, none⟩ = some (.slice none 0 0) := fun o => ((below_box w5 o).cell HZ5.out.lt).trans HZ5.out.k7
      have zf : ∀ o q, (w5.alloc o).frozen? ⟨w.heap.size, q, none⟩ = false := fun o q => ((below_box w5 o).frozen HZ5.out.lt).trans (HZ5.out.zf q)
      go_wp2_with fail
      have s5 := HZ5.out.lt
      have HB8 := Lib.hid ((HZ5.out.below (below_box w5 (.cells #[.int .i64 Xa.f.op, .string Xa.f.media, .int .i64 Xa.f.frame, .int .i64 Xa.f.num, .int .i64 Xa.f.den, .int .i64 Xa.f.par, .string Xa.f.text, .slice aoa Xa.f.n ca, .int .i64 Xb.f.op, .string Xb.f.media, .int .i64 Xb.f.frame, .int .i64 Xb.f.num, .int .i64 Xb.f.den, .int .i64 Xb.f.par, .string Xb.f.text, .slice aob Xb.f.n cb] 58))).put ⟨4, (⟨#[]⟩ : ByteArray), 0, 0, 0, pr, (⟨#[]⟩ : ByteArray), 2⟩ (.slice (some ⟨w5.heap.size, 0, none⟩) 2 2))
      refine bodyPost_ret (results_cell Try.results33 _ _ _ rfl (load_x HB8.out)) rfl ?_
      refine ⟨_, .mk ⟨4, (⟨#[]⟩ : ByteArray), 0, 0, 0, pr, (⟨#[]⟩ : ByteArray), 2⟩ (pair2 Xa Xb), kb, rfl, (node2 (sa := .slice aoa Xa.f.n ca) (sb := .slice aob Xb.f.n cb) (C8.put8 (by constructor <;> simp [go_sem]) (by omega) _ _ _ _ _ _ _ _) (C8.put8 (by constructor <;> simp [go_sem]) (by omega) _ _ _ _ _ _ _ _) (XL.put8 (HXa.out.bel (below_box _ _)) (by omega) _ _ _ _ _ _ _ _) (XL.put8 (HXb.out.bel (below_box _ _)) (by omega) _ _ _ _ _ _ _ _) (by omega) (fit_4 pr) rfl (Nat.le_refl _)).mono (by omega), ok_node2 (okF_4 pr pr0 pr1) rfl hokXa hokXb, good_node2 (by show (4 : Int) ≠ 1; decide) hgoodXa hgoodXb, (HT5.out.below (below_box _ _)).put8 (by omega) (by omega) _ _ _ _ _ _ _ _, by omega, only_low HG5.out (((below_box w5 _).mono (Nat.le_of_lt s5)).trans (put8_below _ _ _ _ _ _ _ _ _ (Nat.le_refl _))) (Nat.le_refl _)⟩
    · skip
      go_wp2_with fail
      refine Plan.wp_region_tree (fun _ => True) (.run ([1, 5, 6, 7].map (·, true)) (.fork 0 (.dyn (.run (([2].map (·, false)) ++ (([3, 4].map (·, true)) ++ (([8, 9].map (·, false)) ++ (([10].map (·, true)) ++ (([11].map (·, false))))))) .leaf)) 2 (.fork 0 (.dyn (.run (([3, 4].map (·, true)) ++ (([8, 9].map (·, false)) ++ (([10].map (·, true)) ++ (([11].map (·, false)))))) .leaf)) 8 (.fork 0 (.dyn (.run (([3, 4].map (·, true)) ++ (([9].map (·, false)) ++ (([10].map (·, true)) ++ (([11].map (·, false)))))) .leaf)) 9 (.run ([0].map (·, false)) (.dyn (.run (([3, 4, 10].map (·, true)) ++ (([11].map (·, false)))) .leaf))))))) (by kernel_rfl) (by kernel_rfl) (by kernel_rfl) trivial ?_
      obtain ⟨y0, hy⟩ : ∃ x, x = w2.drew := ⟨_, rfl⟩
      rw [← hy]
      have hB_ : Below w2.heap.size w2 y0 := by rw [hy]; exact (Below.refl _ _).drew
      have HTy := Lib.hid (HT2.out.below hB_)
      have HGy := Lib.hid (only_low HG2.out hB_ (Nat.le_of_lt HZ2.out.lt))
      have HZy := Lib.hid (HZ2.out.below hB_)
      clear hy hB_
      refine Plan.tree_run ?_
      refine' Plan.plan_seg _ [1, 5, 6, 7] ([]) (by kernel_rfl) (by kernel_rfl) rfl (by exact trivial) (fun wx hS => ?_) ?_
      rotate_left
      · skip
        clear hS
        go_light
        iterate 4 (apply Plan.seg_pick; rfl; intro K hK; go_wp)
        exact Plan.seg_nil
      refine Plan.plan_nil ?_
      refine Plan.tree_fork ?_ ?_
      · skip
        refine Plan.op_of_list rfl (fun K hK => ?_)
        go_wp2_with fail
        obtain ⟨y1, hw_⟩ : ∃ x, x = y0.alloc (.cells #[.string (⟨#[65]⟩ : ByteArray), .string (⟨#[69, 78, 68, 32, 50]⟩ : ByteArray)] 9) := ⟨_, rfl⟩
        rw [← hw_]
        obtain ⟨bl, hbl_⟩ : ∃ b, b = y0.heap.size := ⟨_, rfl⟩
        have hbl : w.heap.size + 1 ≤ bl := by have := HZy.out.lt; omega
        have hB_ : Below y0.heap.size y0 y1 := by rw [hw_]; exact below_box _ _
        have HSt := Lib.hid (show y1.cell? ⟨bl, 0, none⟩ = some (.string (⟨#[65]⟩ : ByteArray)) ∧ y1.cell? ⟨bl, 1, none⟩ = some (.string (⟨#[69, 78, 68, 32, 50]⟩ : ByteArray)) by rw [hw_, hbl_]; exact ⟨by simp [go_sem], by simp [go_sem]⟩)
        rw [← hbl_]
        have Ty1 := Lib.hid (HTy.out.below hB_)
        have Gy1 := Lib.hid (only_low HGy.out hB_ (Nat.le_of_lt HZy.out.lt))
        have Zy1 := Lib.hid (HZy.out.below hB_)
        clear hw_ hbl_ hB_
        refine ⟨trivial, ?_⟩
        refine Plan.tree_dyn (fun w' => w'.cell? ⟨bl, 0, none⟩ = some (.string (⟨#[65]⟩ : ByteArray)) ∧ w'.cell? ⟨bl, 1, none⟩ = some (.string (⟨#[69, 78, 68, 32, 50]⟩ : ByteArray))) (fun _ _ => trivial) HSt.out ?_
        refine Plan.tree_run ?_
        refine Plan.plan_of_effect rfl (fun K hK => ?_)
        go_wp2_with fail
        refine (next_any B p _ 2 _ Ty1.out (by omega) (by omega) (by omega)).mono ?_
        rintro e y2 ⟨qi, rfl, qi0, qi1, hT_, hg_⟩
        obtain ⟨q, rfl⟩ : ∃ n : Nat, qi = n := ⟨qi.toNat, by omega⟩
        have hq : q < 2 := by omega
        have Ty2 := Lib.hid hT_
        have Gy2 := Lib.hid (only_trans Gy1.out hg_)
        have Zy2 := Lib.hid (Zy1.out.only hpw hg_)
        replace HSt := Lib.hid (And.intro (only_cell hg_ HSt.out.1 (by omega)) (only_cell hg_ HSt.out.2 (by omega)))
        clear hT_ hg_ qi0 qi1
        go_wp2_with fail
        refine ⟨HSt.out, ?_⟩
        refine' Plan.plan_seg _ [3, 4] (([8, 9].map (·, false)) ++ (([10].map (·, true)) ++ (([11].map (·, false))))) (by kernel_rfl) (by kernel_rfl) rfl (by exact HSt.out) (fun wx hS => ?_) ?_
        rotate_left
        · skip
          have hq_ := str_at hS hq
          clear hS
          go_light
          iterate 2 (apply Plan.seg_pick; rfl; intro K hK; go_wp)
          exact Plan.seg_nil
        refine Plan.plan_of_effect rfl (fun K hK => ?_)
        go_wp2_with fail
        refine (ih B p _ _ Ty2.out (by omega) (by omega)).mono ?_
        rintro e y3 ⟨va, Xa, ka, rfl, hX_, hokXa, hgoodXa, hT_, hkXa, hg_⟩
        have hL_ : w.heap.size + 1 ≤ _ := Zy2.out.lt
        have Ty3 := Lib.hid hT_
        have Gy3 := Lib.hid (only_trans Gy2.out hg_)
        have Zy3 := Lib.hid (Zy2.out.only hpw hg_)
        replace HSt := Lib.hid (And.intro (only_cell hg_ HSt.out.1 (by omega)) (only_cell hg_ HSt.out.2 (by omega)))
        have HXa := Lib.hid (hX_.mono hL_)
        obtain ⟨aoa, ca, hv_⟩ := hX_.open
        unfold Fld.val at hv_
        subst hv_
        clear hX_ hT_ hL_ hg_
        go_wp2_with fail
        refine ⟨HSt.out, ?_⟩
        refine Plan.plan_of_effect rfl (fun K hK => ?_)
        go_wp2_with fail
        obtain ⟨y4, hw_⟩ : ∃ x, x = y3.alloc (.cells #[.int .i64 Xa.f.op, .string Xa.f.media, .int .i64 Xa.f.frame, .int .i64 Xa.f.num, .int .i64 Xa.f.den, .int .i64 Xa.f.par, .string Xa.f.text, .slice aoa Xa.f.n ca] 58) := ⟨_, rfl⟩
        rw [← hw_]
        obtain ⟨ga, hga_⟩ : ∃ b, b = y3.heap.size := ⟨_, rfl⟩
        have hga : w.heap.size + 1 ≤ ga := by have := Zy3.out.lt; omega
        have hB_ : Below y3.heap.size y3 y4 := by rw [hw_]; exact below_box _ _
        have HCa := Lib.hid (show C8 y4 ga 0 Xa.f (.slice aoa Xa.f.n ca) by rw [hw_, hga_]; constructor <;> simp [go_sem])
        rw [← hga_]
        have Ty4 := Lib.hid (Ty3.out.below hB_)
        have Gy4 := Lib.hid (only_low Gy3.out hB_ (Nat.le_of_lt Zy3.out.lt))
        have Zy4 := Lib.hid (Zy3.out.below hB_)
        replace HSt := Lib.hid (And.intro ((hB_.cell (block_lt_of_cell HSt.out.1)).trans HSt.out.1) ((hB_.cell (block_lt_of_cell HSt.out.2)).trans HSt.out.2))
        replace HXa := Lib.hid (HXa.out.bel hB_)
        clear hw_ hga_ hB_
        refine ⟨HSt.out, ?_⟩
        refine' Plan.plan_seg _ [10] (([11].map (·, false))) (by kernel_rfl) (by kernel_rfl) rfl (by exact HSt.out) (fun wx hS => ?_) ?_
        rotate_left
        · skip
          clear hS
          go_light
          iterate 1 (apply Plan.seg_pick; rfl; intro K hK; go_wp)
          exact Plan.seg_nil
        refine Plan.plan_of_effect rfl (fun K hK => ?_)
        obtain ⟨z0, z1, z2, z3, z4, z5, z6, z7, zf⟩ := Zy4.out
        go_wp2_with fail
        clear z0 z1 z2 z3 z4 z5 z6 z7 zf
        refine ⟨⟨(put8_cell y4 _ _ _ _ _ _ _ _ (show bl ≠ w.heap.size by omega)).trans HSt.out.1, (put8_cell y4 _ _ _ _ _ _ _ _ (show bl ≠ w.heap.size by omega)).trans HSt.out.2⟩, ?_⟩
        refine Plan.plan_nil ?_
        refine Plan.tree_leaf ?_
        go_wp2_with fail
        have sN := Zy4.out.lt
        have HB8 := Lib.hid (Zy4.out.put ⟨5, (⟨#[]⟩ : ByteArray), 0, 0, 0, 0, sT q, 1⟩ (.slice (some ⟨ga, 0, none⟩) 1 1))
        refine bodyPost_ret (results_cell Try.results33 _ _ _ rfl (load_x HB8.out)) rfl ?_
        refine ⟨_, .mk ⟨5, (⟨#[]⟩ : ByteArray), 0, 0, 0, 0, sT q, 1⟩ (fun _ => Xa), _, rfl, (node1 (sa := .slice aoa Xa.f.n ca) (HCa.out.put8 (by omega) _ _ _ _ _ _ _ _) (XL.put8 HXa.out (by omega) _ _ _ _ _ _ _ _) (by omega) (fit_5 q) rfl (Nat.le_refl _)).mono (by omega), okX_yes (okF_5 q) (fun i _ => hokXa), ⟨fun h => absurd h (show ¬ (5 : Int) = 1 by decide), fun i _ => hgoodXa⟩, Ty4.out.put8 (by omega) (by omega) _ _ _ _ _ _ _ _, by omega, only_low Gy4.out (put8_below _ _ _ _ _ _ _ _ _ (Nat.le_refl _)) (Nat.le_refl _)⟩
      · skip
        refine Plan.op_of_list rfl (fun K hK => ?_)
        go_wp2_with fail
        refine (next_any B p _ 2 _ HTy.out (by omega) (by omega) (by omega)).mono ?_
        rintro e y1 ⟨qi, rfl, qi0, qi1, hT_, hg_⟩
        obtain ⟨q, rfl⟩ : ∃ n : Nat, qi = n := ⟨qi.toNat, by omega⟩
        have hq : q < 2 := by omega
        have Ty1 := Lib.hid hT_
        have Gy1 := Lib.hid (only_trans HGy.out hg_)
        have Zy1 := Lib.hid (HZy.out.only hpw hg_)
        clear hT_ hg_ qi0 qi1
        go_wp2_with fail
        refine ⟨trivial, ?_⟩
        refine Plan.tree_fork ?_ ?_
        · skip
          refine Plan.op_of_list rfl (fun K hK => ?_)
          go_wp2_with fail
          obtain ⟨y2, hw_⟩ : ∃ x, x = y1.alloc (.cells #[.string (⟨#[65]⟩ : ByteArray), .string (⟨#[69, 78, 68, 32, 50]⟩ : ByteArray)] 9) := ⟨_, rfl⟩
          rw [← hw_]
          obtain ⟨bl, hbl_⟩ : ∃ b, b = y1.heap.size := ⟨_, rfl⟩
          have hbl : w.heap.size + 1 ≤ bl := by have := Zy1.out.lt; omega
          have hB_ : Below y1.heap.size y1 y2 := by rw [hw_]; exact below_box _ _
          have HSt := Lib.hid (show y2.cell? ⟨bl, 0, none⟩ = some (.string (⟨#[65]⟩ : ByteArray)) ∧ y2.cell? ⟨bl, 1, none⟩ = some (.string (⟨#[69, 78, 68, 32, 50]⟩ : ByteArray)) by rw [hw_, hbl_]; exact ⟨by simp [go_sem], by simp [go_sem]⟩)
          rw [← hbl_]
          have Ty2 := Lib.hid (Ty1.out.below hB_)
          have Gy2 := Lib.hid (only_low Gy1.out hB_ (Nat.le_of_lt Zy1.out.lt))
          have Zy2 := Lib.hid (Zy1.out.below hB_)
          clear hw_ hbl_ hB_
          refine ⟨trivial, ?_⟩
          refine Plan.tree_dyn (fun w' => w'.cell? ⟨bl, 0, none⟩ = some (.string (⟨#[65]⟩ : ByteArray)) ∧ w'.cell? ⟨bl, 1, none⟩ = some (.string (⟨#[69, 78, 68, 32, 50]⟩ : ByteArray))) (fun _ _ => trivial) HSt.out ?_
          refine Plan.tree_run ?_
          refine' Plan.plan_seg _ [3, 4] (([8, 9].map (·, false)) ++ (([10].map (·, true)) ++ (([11].map (·, false))))) (by kernel_rfl) (by kernel_rfl) rfl (by exact HSt.out) (fun wx hS => ?_) ?_
          rotate_left
          · skip
            have hq_ := str_at hS hq
            clear hS
            go_light
            iterate 2 (apply Plan.seg_pick; rfl; intro K hK; go_wp)
            exact Plan.seg_nil
          refine Plan.plan_of_effect rfl (fun K hK => ?_)
          go_wp2_with fail
          refine (ih B p _ _ Ty2.out (by omega) (by omega)).mono ?_
          rintro e y3 ⟨va, Xa, ka, rfl, hX_, hokXa, hgoodXa, hT_, hkXa, hg_⟩
          have hL_ : w.heap.size + 1 ≤ _ := Zy2.out.lt
          have Ty3 := Lib.hid hT_
          have Gy3 := Lib.hid (only_trans Gy2.out hg_)
          have Zy3 := Lib.hid (Zy2.out.only hpw hg_)
          replace HSt := Lib.hid (And.intro (only_cell hg_ HSt.out.1 (by omega)) (only_cell hg_ HSt.out.2 (by omega)))
          have HXa := Lib.hid (hX_.mono hL_)
          obtain ⟨aoa, ca, hv_⟩ := hX_.open
          unfold Fld.val at hv_
          subst hv_
          clear hX_ hT_ hL_ hg_
          go_wp2_with fail
          refine ⟨HSt.out, ?_⟩
          refine Plan.plan_of_effect rfl (fun K hK => ?_)
          go_wp2_with fail
          obtain ⟨y4, hw_⟩ : ∃ x, x = y3.alloc (.cells #[.int .i64 Xa.f.op, .string Xa.f.media, .int .i64 Xa.f.frame, .int .i64 Xa.f.num, .int .i64 Xa.f.den, .int .i64 Xa.f.par, .string Xa.f.text, .slice aoa Xa.f.n ca] 58) := ⟨_, rfl⟩
          rw [← hw_]
          obtain ⟨ga, hga_⟩ : ∃ b, b = y3.heap.size := ⟨_, rfl⟩
          have hga : w.heap.size + 1 ≤ ga := by have := Zy3.out.lt; omega
          have hB_ : Below y3.heap.size y3 y4 := by rw [hw_]; exact below_box _ _
          have HCa := Lib.hid (show C8 y4 ga 0 Xa.f (.slice aoa Xa.f.n ca) by rw [hw_, hga_]; constructor <;> simp [go_sem])
          rw [← hga_]
          have Ty4 := Lib.hid (Ty3.out.below hB_)
          have Gy4 := Lib.hid (only_low Gy3.out hB_ (Nat.le_of_lt Zy3.out.lt))
          have Zy4 := Lib.hid (Zy3.out.below hB_)
          replace HSt := Lib.hid (And.intro ((hB_.cell (block_lt_of_cell HSt.out.1)).trans HSt.out.1) ((hB_.cell (block_lt_of_cell HSt.out.2)).trans HSt.out.2))
          replace HXa := Lib.hid (HXa.out.bel hB_)
          clear hw_ hga_ hB_
          refine ⟨HSt.out, ?_⟩
          refine' Plan.plan_seg _ [10] (([11].map (·, false))) (by kernel_rfl) (by kernel_rfl) rfl (by exact HSt.out) (fun wx hS => ?_) ?_
          rotate_left
          · skip
            clear hS
            go_light
            iterate 1 (apply Plan.seg_pick; rfl; intro K hK; go_wp)
            exact Plan.seg_nil
          refine Plan.plan_of_effect rfl (fun K hK => ?_)
          obtain ⟨z0, z1, z2, z3, z4, z5, z6, z7, zf⟩ := Zy4.out
          go_wp2_with fail
          clear z0 z1 z2 z3 z4 z5 z6 z7 zf
          refine ⟨⟨(put8_cell y4 _ _ _ _ _ _ _ _ (show bl ≠ w.heap.size by omega)).trans HSt.out.1, (put8_cell y4 _ _ _ _ _ _ _ _ (show bl ≠ w.heap.size by omega)).trans HSt.out.2⟩, ?_⟩
          refine Plan.plan_nil ?_
          refine Plan.tree_leaf ?_
          go_wp2_with fail
          have sN := Zy4.out.lt
          have HB8 := Lib.hid (Zy4.out.put ⟨5, (⟨#[]⟩ : ByteArray), 0, 0, 0, 0, sT q, 1⟩ (.slice (some ⟨ga, 0, none⟩) 1 1))
          refine bodyPost_ret (results_cell Try.results33 _ _ _ rfl (load_x HB8.out)) rfl ?_
          refine ⟨_, .mk ⟨5, (⟨#[]⟩ : ByteArray), 0, 0, 0, 0, sT q, 1⟩ (fun _ => Xa), _, rfl, (node1 (sa := .slice aoa Xa.f.n ca) (HCa.out.put8 (by omega) _ _ _ _ _ _ _ _) (XL.put8 HXa.out (by omega) _ _ _ _ _ _ _ _) (by omega) (fit_5 q) rfl (Nat.le_refl _)).mono (by omega), okX_yes (okF_5 q) (fun i _ => hokXa), ⟨fun h => absurd h (show ¬ (5 : Int) = 1 by decide), fun i _ => hgoodXa⟩, Ty4.out.put8 (by omega) (by omega) _ _ _ _ _ _ _ _, by omega, only_low Gy4.out (put8_below _ _ _ _ _ _ _ _ _ (Nat.le_refl _)) (Nat.le_refl _)⟩
        · skip
          refine Plan.op_of_list rfl (fun K hK => ?_)
          go_wp2_with fail
          refine (ih B p _ _ Ty1.out (by omega) (by omega)).mono ?_
          rintro e y2 ⟨va, Xa, ka, rfl, hX_, hokXa, hgoodXa, hT_, hkXa, hg_⟩
          have hL_ : w.heap.size + 1 ≤ _ := Zy1.out.lt
          have Ty2 := Lib.hid hT_
          have Gy2 := Lib.hid (only_trans Gy1.out hg_)
          have Zy2 := Lib.hid (Zy1.out.only hpw hg_)
          have HXa := Lib.hid (hX_.mono hL_)
          obtain ⟨aoa, ca, hv_⟩ := hX_.open
          unfold Fld.val at hv_
          subst hv_
          clear hX_ hT_ hL_ hg_
          go_wp2_with fail
          refine ⟨trivial, ?_⟩
          refine Plan.tree_fork ?_ ?_
          · skip
            refine Plan.op_of_list rfl (fun K hK => ?_)
            go_wp2_with fail
            obtain ⟨y3, hw_⟩ : ∃ x, x = y2.alloc (.cells #[.string (⟨#[65]⟩ : ByteArray), .string (⟨#[69, 78, 68, 32, 50]⟩ : ByteArray)] 9) := ⟨_, rfl⟩
            rw [← hw_]
            obtain ⟨bl, hbl_⟩ : ∃ b, b = y2.heap.size := ⟨_, rfl⟩
            have hbl : w.heap.size + 1 ≤ bl := by have := Zy2.out.lt; omega
            have hB_ : Below y2.heap.size y2 y3 := by rw [hw_]; exact below_box _ _
            have HSt := Lib.hid (show y3.cell? ⟨bl, 0, none⟩ = some (.string (⟨#[65]⟩ : ByteArray)) ∧ y3.cell? ⟨bl, 1, none⟩ = some (.string (⟨#[69, 78, 68, 32, 50]⟩ : ByteArray)) by rw [hw_, hbl_]; exact ⟨by simp [go_sem], by simp [go_sem]⟩)
            rw [← hbl_]
            have Ty3 := Lib.hid (Ty2.out.below hB_)
            have Gy3 := Lib.hid (only_low Gy2.out hB_ (Nat.le_of_lt Zy2.out.lt))
            have Zy3 := Lib.hid (Zy2.out.below hB_)
            replace HXa := Lib.hid (HXa.out.bel hB_)
            clear hw_ hbl_ hB_
            refine ⟨trivial, ?_⟩
            refine Plan.tree_dyn (fun w' => w'.cell? ⟨bl, 0, none⟩ = some (.string (⟨#[65]⟩ : ByteArray)) ∧ w'.cell? ⟨bl, 1, none⟩ = some (.string (⟨#[69, 78, 68, 32, 50]⟩ : ByteArray))) (fun _ _ => trivial) HSt.out ?_
            refine Plan.tree_run ?_
            refine' Plan.plan_seg _ [3, 4] (([9].map (·, false)) ++ (([10].map (·, true)) ++ (([11].map (·, false))))) (by kernel_rfl) (by kernel_rfl) rfl (by exact HSt.out) (fun wx hS => ?_) ?_
            rotate_left
            · skip
              have hq_ := str_at hS hq
              clear hS
              go_light
              iterate 2 (apply Plan.seg_pick; rfl; intro K hK; go_wp)
              exact Plan.seg_nil
            refine Plan.plan_of_effect rfl (fun K hK => ?_)
            go_wp2_with fail
            obtain ⟨y4, hw_⟩ : ∃ x, x = y3.alloc (.cells #[.int .i64 Xa.f.op, .string Xa.f.media, .int .i64 Xa.f.frame, .int .i64 Xa.f.num, .int .i64 Xa.f.den, .int .i64 Xa.f.par, .string Xa.f.text, .slice aoa Xa.f.n ca] 58) := ⟨_, rfl⟩
            rw [← hw_]
            obtain ⟨ga, hga_⟩ : ∃ b, b = y3.heap.size := ⟨_, rfl⟩
            have hga : w.heap.size + 1 ≤ ga := by have := Zy3.out.lt; omega
            have hB_ : Below y3.heap.size y3 y4 := by rw [hw_]; exact below_box _ _
            have HCa := Lib.hid (show C8 y4 ga 0 Xa.f (.slice aoa Xa.f.n ca) by rw [hw_, hga_]; constructor <;> simp [go_sem])
            rw [← hga_]
            have Ty4 := Lib.hid (Ty3.out.below hB_)
            have Gy4 := Lib.hid (only_low Gy3.out hB_ (Nat.le_of_lt Zy3.out.lt))
            have Zy4 := Lib.hid (Zy3.out.below hB_)
            replace HSt := Lib.hid (And.intro ((hB_.cell (block_lt_of_cell HSt.out.1)).trans HSt.out.1) ((hB_.cell (block_lt_of_cell HSt.out.2)).trans HSt.out.2))
            replace HXa := Lib.hid (HXa.out.bel hB_)
            clear hw_ hga_ hB_
            refine ⟨HSt.out, ?_⟩
            refine' Plan.plan_seg _ [10] (([11].map (·, false))) (by kernel_rfl) (by kernel_rfl) rfl (by exact HSt.out) (fun wx hS => ?_) ?_
            rotate_left
            · skip
              clear hS
              go_light
              iterate 1 (apply Plan.seg_pick; rfl; intro K hK; go_wp)
              exact Plan.seg_nil
            refine Plan.plan_of_effect rfl (fun K hK => ?_)
            obtain ⟨z0, z1, z2, z3, z4, z5, z6, z7, zf⟩ := Zy4.out
            go_wp2_with fail
            clear z0 z1 z2 z3 z4 z5 z6 z7 zf
            refine ⟨⟨(put8_cell y4 _ _ _ _ _ _ _ _ (show bl ≠ w.heap.size by omega)).trans HSt.out.1, (put8_cell y4 _ _ _ _ _ _ _ _ (show bl ≠ w.heap.size by omega)).trans HSt.out.2⟩, ?_⟩
            refine Plan.plan_nil ?_
            refine Plan.tree_leaf ?_
            go_wp2_with fail
            have sN := Zy4.out.lt
            have HB8 := Lib.hid (Zy4.out.put ⟨5, (⟨#[]⟩ : ByteArray), 0, 0, 0, 0, sT q, 1⟩ (.slice (some ⟨ga, 0, none⟩) 1 1))
            refine bodyPost_ret (results_cell Try.results33 _ _ _ rfl (load_x HB8.out)) rfl ?_
            refine ⟨_, .mk ⟨5, (⟨#[]⟩ : ByteArray), 0, 0, 0, 0, sT q, 1⟩ (fun _ => Xa), _, rfl, (node1 (sa := .slice aoa Xa.f.n ca) (HCa.out.put8 (by omega) _ _ _ _ _ _ _ _) (XL.put8 HXa.out (by omega) _ _ _ _ _ _ _ _) (by omega) (fit_5 q) rfl (Nat.le_refl _)).mono (by omega), okX_yes (okF_5 q) (fun i _ => hokXa), ⟨fun h => absurd h (show ¬ (5 : Int) = 1 by decide), fun i _ => hgoodXa⟩, Ty4.out.put8 (by omega) (by omega) _ _ _ _ _ _ _ _, by omega, only_low Gy4.out (put8_below _ _ _ _ _ _ _ _ _ (Nat.le_refl _)) (Nat.le_refl _)⟩
          · skip
            refine Plan.op_of_list rfl (fun K hK => ?_)
            go_wp2_with fail
            obtain ⟨y3, hw_⟩ : ∃ x, x = y2.alloc (.cells #[.int .i64 Xa.f.op, .string Xa.f.media, .int .i64 Xa.f.frame, .int .i64 Xa.f.num, .int .i64 Xa.f.den, .int .i64 Xa.f.par, .string Xa.f.text, .slice aoa Xa.f.n ca] 58) := ⟨_, rfl⟩
            rw [← hw_]
            obtain ⟨ga, hga_⟩ : ∃ b, b = y2.heap.size := ⟨_, rfl⟩
            have hga : w.heap.size + 1 ≤ ga := by have := Zy2.out.lt; omega
            have hB_ : Below y2.heap.size y2 y3 := by rw [hw_]; exact below_box _ _
            have HCa := Lib.hid (show C8 y3 ga 0 Xa.f (.slice aoa Xa.f.n ca) by rw [hw_, hga_]; constructor <;> simp [go_sem])
            rw [← hga_]
            have Ty3 := Lib.hid (Ty2.out.below hB_)
            have Gy3 := Lib.hid (only_low Gy2.out hB_ (Nat.le_of_lt Zy2.out.lt))
            have Zy3 := Lib.hid (Zy2.out.below hB_)
            replace HXa := Lib.hid (HXa.out.bel hB_)
            clear hw_ hga_ hB_
            refine ⟨trivial, ?_⟩
            refine Plan.tree_run ?_
            refine Plan.plan_of_effect rfl (fun K hK => ?_)
            go_wp2_with fail
            obtain ⟨y4, hw_⟩ : ∃ x, x = y3.alloc (.cells #[.string (⟨#[65]⟩ : ByteArray), .string (⟨#[69, 78, 68, 32, 50]⟩ : ByteArray)] 9) := ⟨_, rfl⟩
            rw [← hw_]
            obtain ⟨bl, hbl_⟩ : ∃ b, b = y3.heap.size := ⟨_, rfl⟩
            have hbl : w.heap.size + 1 ≤ bl := by have := Zy3.out.lt; omega
            have hB_ : Below y3.heap.size y3 y4 := by rw [hw_]; exact below_box _ _
            have HSt := Lib.hid (show y4.cell? ⟨bl, 0, none⟩ = some (.string (⟨#[65]⟩ : ByteArray)) ∧ y4.cell? ⟨bl, 1, none⟩ = some (.string (⟨#[69, 78, 68, 32, 50]⟩ : ByteArray)) by rw [hw_, hbl_]; exact ⟨by simp [go_sem], by simp [go_sem]⟩)
            rw [← hbl_]
            have Ty4 := Lib.hid (Ty3.out.below hB_)
            have Gy4 := Lib.hid (only_low Gy3.out hB_ (Nat.le_of_lt Zy3.out.lt))
            have Zy4 := Lib.hid (Zy3.out.below hB_)
            replace HXa := Lib.hid (HXa.out.bel hB_)
            replace HCa := Lib.hid (HCa.out.below hB_)
            clear hw_ hbl_ hB_
            refine ⟨trivial, ?_⟩
            refine Plan.plan_nil ?_
            refine Plan.tree_dyn (fun w' => w'.cell? ⟨bl, 0, none⟩ = some (.string (⟨#[65]⟩ : ByteArray)) ∧ w'.cell? ⟨bl, 1, none⟩ = some (.string (⟨#[69, 78, 68, 32, 50]⟩ : ByteArray))) (fun _ _ => trivial) HSt.out ?_
            refine Plan.tree_run ?_
            refine' Plan.plan_seg _ [3, 4, 10] (([11].map (·, false))) (by kernel_rfl) (by kernel_rfl) rfl (by exact HSt.out) (fun wx hS => ?_) ?_
            rotate_left
            · skip
              have hq_ := str_at hS hq
              clear hS
              go_light
              iterate 3 (apply Plan.seg_pick; rfl; intro K hK; go_wp)
              exact Plan.seg_nil
            refine Plan.plan_of_effect rfl (fun K hK => ?_)
            obtain ⟨z0, z1, z2, z3, z4, z5, z6, z7, zf⟩ := Zy4.out
            go_wp2_with fail
            clear z0 z1 z2 z3 z4 z5 z6 z7 zf
            refine ⟨⟨(put8_cell y4 _ _ _ _ _ _ _ _ (show bl ≠ w.heap.size by omega)).trans HSt.out.1, (put8_cell y4 _ _ _ _ _ _ _ _ (show bl ≠ w.heap.size by omega)).trans HSt.out.2⟩, ?_⟩
            refine Plan.plan_nil ?_
            refine Plan.tree_leaf ?_
            go_wp2_with fail
            have sN := Zy4.out.lt
            have HB8 := Lib.hid (Zy4.out.put ⟨5, (⟨#[]⟩ : ByteArray), 0, 0, 0, 0, sT q, 1⟩ (.slice (some ⟨ga, 0, none⟩) 1 1))
            refine bodyPost_ret (results_cell Try.results33 _ _ _ rfl (load_x HB8.out)) rfl ?_
            refine ⟨_, .mk ⟨5, (⟨#[]⟩ : ByteArray), 0, 0, 0, 0, sT q, 1⟩ (fun _ => Xa), _, rfl, (node1 (sa := .slice aoa Xa.f.n ca) (HCa.out.put8 (by omega) _ _ _ _ _ _ _ _) (XL.put8 HXa.out (by omega) _ _ _ _ _ _ _ _) (by omega) (fit_5 q) rfl (Nat.le_refl _)).mono (by omega), okX_yes (okF_5 q) (fun i _ => hokXa), ⟨fun h => absurd h (show ¬ (5 : Int) = 1 by decide), fun i _ => hgoodXa⟩, Ty4.out.put8 (by omega) (by omega) _ _ _ _ _ _ _ _, by omega, only_low Gy4.out (put8_below _ _ _ _ _ _ _ _ _ (Nat.le_refl _)) (Nat.le_refl _)⟩


end Go.Proofs.Ytnnobdcbmagbaaa
