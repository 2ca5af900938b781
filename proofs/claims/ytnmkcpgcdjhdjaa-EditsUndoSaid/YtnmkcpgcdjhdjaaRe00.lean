/- Texts of this claim joined: YA YB YC YD. -/
import Derived.BigQuiet
import Derived.Test.YtnmkcpgcdjhdjaaIn00
set_option linter.unusedVariables false
set_option linter.unusedSimpArgs false

/- The contracts of the reference's Gcd, Black, Base, within. -/
namespace Go.Proofs.Ytnmkcpgcdjhdjaa
open Go.RowKit
set_option linter.unusedVariables false
set_option linter.unusedSimpArgs false
set_option maxHeartbeats 2000000 in
theorem rgcd_nat (x y : Nat) (w : World) (hx : x < 9223372036854775808) (hy : y < 9223372036854775808) :
    Calls Try.prog 57 #[.int .i64 (x : Int), .int .i64 (y : Int)] w fun e w' => e = .returned (.int .i64 ((Nat.gcd x y : Nat) : Int)) ∧ ∃ m, w' = w.drewN m := by
  obtain ⟨g, hg⟩ : ∃ g, g = Nat.gcd x y := ⟨_, rfl⟩
  rw [← hg]
  replace hg := Lib.hid hg
  go_enter Try.func57, Try.ntmps57
  go_wp2
  go_loopw [0, 1] (fun i j wr => ∃ a b : Nat, i = .int .i64 (a : Int) ∧ j = .int .i64 (b : Int) ∧ a < 9223372036854775808 ∧ b < 9223372036854775808 ∧ Hid (g = Nat.gcd a b) ∧ ∃ m, wr = w.drewN m) (fun i j _ => (intOf j).toNat)
  case atStart => exact ⟨x, y, rfl, rfl, hx, hy, hg, 0, rfl⟩
  case round =>
    obtain ⟨a, b, rfl, rfl, ha, hb, hG, m, rfl⟩ := hrel
    by_cases h0 : b = 0
    · subst h0
      go_wp2
      go_ret
      exact ⟨by rw [hG.out]; simp, m, rfl⟩
    · have e1 : ¬ (b : Int) = 0 := by omega
      have hm := Nat.mod_lt a (Nat.pos_of_ne_zero h0)
      go_wp2
      go_quiet (fail)
      go_wp2
      go_round
      case rel => exact ⟨b, a % b, rfl, by simp, hb, by omega, Lib.hid (by rw [hG.out, gcd_step h0]), m + _, World.drewN_drewN _ _ _⟩
      case measure => simp [intOf]; omega
set_option maxHeartbeats 2000000 in
theorem rgcd_any (x : Int) (y : Nat) (w : World) (h0 : -9223372036854775808 < x) (h1 : x < 9223372036854775808) (hy : y < 9223372036854775808) :
    Calls Try.prog 57 #[.int .i64 x, .int .i64 (y : Int)] w fun e w' => e = .returned (.int .i64 ((Nat.gcd x.natAbs y : Nat) : Int)) ∧ ∃ m, w' = w.drewN m := by
  by_cases hn : x < 0
  · obtain ⟨n, hn2⟩ : ∃ n : Nat, n = x.natAbs := ⟨_, rfl⟩
    have hx : x = -(n : Int) := by omega
    rw [← hn2]
    have hn3 : n < 9223372036854775808 := by omega
    subst hx
    have hn4 : 0 < n := by omega
    clear hn2 h0 h1 hn
    obtain ⟨g, hg⟩ : ∃ g, g = Nat.gcd n y := ⟨_, rfl⟩
    rw [← hg]
    replace hg := Lib.hid hg
    go_enter Try.func57, Try.ntmps57
    go_wp2
    go_loopw [0, 1] (fun i j wr => ∃ a b : Nat, i = .int .i64 (a : Int) ∧ j = .int .i64 (b : Int) ∧ a < 9223372036854775808 ∧ b < 9223372036854775808 ∧ Hid (g = Nat.gcd a b) ∧ ∃ m, wr = w.drewN m) (fun i j _ => (intOf j).toNat)
    case atStart => exact ⟨n, y, rfl, rfl, hn3, hy, hg, 0, rfl⟩
    case round =>
      obtain ⟨a, b, rfl, rfl, ha, hb, hG, m, rfl⟩ := hrel
      by_cases h0 : b = 0
      · subst h0
        go_wp2
        go_ret
        exact ⟨by rw [hG.out]; simp, m, rfl⟩
      · have e1 : ¬ (b : Int) = 0 := by omega
        have hm := Nat.mod_lt a (Nat.pos_of_ne_zero h0)
        go_wp2
        go_quiet (fail)
        go_wp2
        go_round
        case rel => exact ⟨b, a % b, rfl, by simp, hb, by omega, Lib.hid (by rw [hG.out, gcd_step h0]), m + _, World.drewN_drewN _ _ _⟩
        case measure => simp [intOf]; omega
  · obtain ⟨n, rfl⟩ : ∃ n : Nat, x = n := ⟨x.toNat, by omega⟩
    rw [Int.natAbs_natCast]
    exact rgcd_nat n y w (by omega) hy
/-- The common base of two denominators, as the reference computes it. -/
def baseN (a b : Nat) : Nat := if 4294967296 < a ∨ 4294967296 < b then 0 else if 4294967296 / b < a / Nat.gcd a b then 0 else a / Nat.gcd a b * b
set_option maxRecDepth 100000 in
set_option maxHeartbeats 4000000 in
theorem base_any (k : Int) (nm : ByteArray) (an sn : Int) (a b : Nat) (sm : Bool) (w : World) (a0 : 1 ≤ a) (b0 : 1 ≤ b) (a1 : a < 9223372036854775808) (b1 : b < 9223372036854775808) :
    Calls Try.prog 56 #[.agg #[.int .i64 k, .string nm, .int .i64 an, .int .i64 (a : Int), .int .i64 sn, .int .i64 (b : Int), .bool sm]] w fun e w' => e = .returned (.int .i64 (baseN a b : Int)) ∧ Below w.heap.size w w' := by
  obtain ⟨B, hB⟩ : ∃ B, B = baseN a b := ⟨_, rfl⟩
  rw [← hB]
  have HBB := Lib.hid hB
  clear hB
  go_enter Try.func56, Try.ntmps56
  by_cases h1 : 4294967296 < a
  · have g1 : decide ((a : Int) > 4294967296) = true := decide_eq_true (by omega)
    go_wp2_with fail
    go_ret
    refine ⟨?_, below_box w _⟩
    rw [HBB.out]
    simp [baseN, h1]
  have g1 : decide ((a : Int) > 4294967296) = false := decide_eq_false (by omega)
  by_cases h2 : 4294967296 < b
  · have g2 : decide ((b : Int) > 4294967296) = true := decide_eq_true (by omega)
    go_wp2_with fail
    go_ret
    refine ⟨?_, below_box w _⟩
    rw [HBB.out]
    simp [baseN, h2]
  have g2 : decide ((b : Int) > 4294967296) = false := decide_eq_false (by omega)
  have HG := Lib.hid (fun w => rgcd_any (a : Int) b w (by omega) (by omega) (by omega))
  rw [Int.natAbs_natCast] at HG
  obtain ⟨g, hg⟩ : ∃ g, g = Nat.gcd a b := ⟨_, rfl⟩
  rw [← hg] at HG
  have hg0 : 0 < g := by rw [hg]; exact Nat.gcd_pos_of_pos_left _ a0
  have hg1 : g ≤ a := by rw [hg]; exact Nat.gcd_le_left _ a0
  have hgi : ¬ (g : Int) = 0 := by omega
  have hbi : ¬ (b : Int) = 0 := by omega
  have HGG := Lib.hid hg
  clear hg
  go_upto_region 3 with fail
  go_quiet (first | (go_at_call 57; exact Calls.quiet_of (HG.out _)))
  go_upto_region 4 with fail
  obtain ⟨q, hq⟩ : ∃ q, q = a / g := ⟨_, rfl⟩
  have hqi : (a : Int) / (g : Int) = (q : Int) := by rw [hq]; exact (Int.natCast_ediv a g).symm
  have hq1 : q ≤ 4294967296 := by rw [hq]; exact Nat.le_trans (Nat.div_le_self _ _) (by omega)
  rw [hqi, show wrap64 (q : Int) = (q : Int) from wrap_in _ (by omega)]
  obtain ⟨r, hr⟩ : ∃ r, r = 4294967296 / b := ⟨_, rfl⟩
  have hri : (4294967296 : Int) / (b : Int) = (r : Int) := by rw [hr]; exact (Int.natCast_ediv 4294967296 b).symm
  have hrt : (4294967296 : Int).tdiv (b : Int) = (r : Int) := by rw [Int.tdiv_eq_ediv_of_nonneg (by decide)]; exact hri
  have hrb : r * b ≤ 4294967296 := by rw [hr]; exact Nat.div_mul_le_self _ _
  have HQ := Lib.hid hq
  have HR := Lib.hid hr
  have HB2 : B = if r < q then 0 else q * b := by
    rw [HBB.out]
    unfold baseN
    rw [if_neg (by omega), ← HGG.out, ← HQ.out, ← HR.out]
  have HBB2 := Lib.hid HB2
  clear hq hqi hr HB2
  have hrw : wrap64 (r : Int) = (r : Int) := wrap_in _ (by have : r ≤ 4294967296 := Nat.le_trans (Nat.le_mul_of_pos_right r b0) hrb; omega)
  by_cases h3 : r < q
  · have g3 : decide ((q : Int) > (r : Int)) = true := decide_eq_true (by omega)
    go_wp2_with fail
    go_ret
    refine ⟨?_, below_drewN (below_box w _) _⟩
    rw [HBB2.out, if_pos h3]
    rfl
  · have g3 : decide ((q : Int) > (r : Int)) = false := decide_eq_false (by omega)
    have hm : q * b ≤ 4294967296 := Nat.le_trans (Nat.mul_le_mul_right b (by omega)) hrb
    have g4 : decide ((4294967296 : Int) / (b : Int) < (q : Int)) = false := by rw [hri]; exact g3
    have HM := Lib.hid hm
    clear hm hrb hrw hri hrt g3
    go_wp2_with fail
    go_ret
    refine ⟨?_, below_drewN (below_box w _) _⟩
    rw [HBB2.out, if_neg h3]
    have hm := HM.out
    rw [← Int.natCast_mul, show wrap64 ((q * b : Nat) : Int) = ((q * b : Nat) : Int) from wrap_in _ (by omega)]
    rfl
/-- The reference's within: the magnitude n / d is at most m. -/
def withinN (n d m : Nat) : Bool := decide (n / d < m) || (decide (n / d = m) && decide (n % d = 0))
set_option maxRecDepth 100000 in
set_option maxHeartbeats 4000000 in
theorem rwithin_any (x : Int) (d m : Nat) (w : World) (h0 : -9223372036854775808 < x) (h1 : x < 9223372036854775808) (d0 : 1 ≤ d) (d1 : d < 9223372036854775808) (m1 : m < 9223372036854775808) :
    Calls Try.prog 58 #[.agg #[.int .i64 x, .int .i64 (d : Int)], .int .i64 (m : Int)] w fun e w' => e = .returned (.bool (withinN x.natAbs d m)) ∧ Below w.heap.size w w' := by
  obtain ⟨n, hn⟩ : ∃ n : Nat, n = x.natAbs := ⟨_, rfl⟩
  rw [← hn]
  have hn1 : n < 9223372036854775808 := by omega
  have hx : x = n ∨ x = -(n : Int) ∧ 0 < n := by omega
  obtain ⟨r, hr⟩ : ∃ r, r = withinN n d m := ⟨_, rfl⟩
  rw [← hr]
  have HR := Lib.hid hr
  have HX := Lib.hid hx
  obtain ⟨q, hq⟩ : ∃ q, q = n / d := ⟨_, rfl⟩
  have hqi : (n : Int) / (d : Int) = (q : Int) := by rw [hq]; exact (Int.natCast_ediv n d).symm
  have hq1 : q ≤ n := by rw [hq]; exact Nat.div_le_self _ _
  obtain ⟨t, ht⟩ : ∃ t, t = n % d := ⟨_, rfl⟩
  have hti : (n : Int) % (d : Int) = (t : Int) := by rw [ht]; rfl
  have ht1 : t ≤ n := by rw [ht]; exact Nat.mod_le _ _
  have HRV : Hid (r = (decide (q < m) || (decide (q = m) && decide (t = 0)))) := Lib.hid (by rw [hr, hq, ht]; rfl)
  have hdi : ¬ (d : Int) = 0 := by omega
  clear hn hr hx hq ht HR
  rcases HX.out with rfl | ⟨rfl, hp⟩
  all_goals
    clear HX h0 h1
    by_cases c1 : q < m
    · have g1 : decide ((q : Int) < (m : Int)) = true := decide_eq_true (by omega)
      have hr2 : r = true := by rw [HRV.out]; simp [c1]
      rw [hr2]
      go_enter Try.func58, Try.ntmps58
      go_wp2_with fail
      go_ret
      exact ⟨rfl, below_box w _⟩
    have g1 : decide ((q : Int) < (m : Int)) = false := decide_eq_false (by omega)
    by_cases c2 : q = m
    · have g2 : ((q : Int) == (m : Int)) = true := by simp [c2]
      have hr2 : r = ((t : Int) == 0) := by rw [HRV.out, Bool.eq_iff_iff]; simp [c2]
      rw [hr2]
      clear c2
      go_enter Try.func58, Try.ntmps58
      go_wp2_with fail
      go_ret
      exact ⟨rfl, below_box w _⟩
    · have g2 : ((q : Int) == (m : Int)) = false := by simp; omega
      have hr2 : r = false := by rw [HRV.out]; simp [c1, c2]
      rw [hr2]
      go_enter Try.func58, Try.ntmps58
      go_wp2_with fail
      go_ret
      exact ⟨rfl, below_box w _⟩
end Go.Proofs.Ytnmkcpgcdjhdjaa

/- What the reference's Moved computes. -/
namespace Go.Trk
set_option linter.unusedVariables false
theorem mk_base {n d : Int} {b : Nat} (hb : 1 ≤ b) (h0 : 1 ≤ d) (hd : d ∣ (b : Int)) : mkRat n d.toNat = ((n * ((b : Int) / d) : Int) : Rat) / (b : Nat) := by
  obtain ⟨k, hk⟩ := hd
  have hk0 : 0 < k := by
    rcases Int.lt_or_le 0 k with h | h
    · exact h
    · have := Int.mul_nonpos_of_nonneg_of_nonpos (show 0 ≤ d by omega) h; omega
  have e : (b : Int) / d = k := by rw [hk]; exact Int.mul_ediv_cancel_left _ (by omega)
  rw [e]
  obtain ⟨D, rfl⟩ := Int.eq_ofNat_of_zero_le (show 0 ≤ d by omega)
  obtain ⟨K, rfl⟩ := Int.eq_ofNat_of_zero_le (show 0 ≤ k by omega)
  have hN : D * K = b := by exact_mod_cast hk.symm
  have h1 : mkRat n D = mkRat (n * K) (D * K) := (Rat.mkRat_mul_right (by omega)).symm
  rw [Int.toNat_natCast, h1, hN, Rat.mkRat_eq_div]
/-- The numerator over the common base. -/
def numB (s : Src) (n : Int) (b : Nat) : Int := s.an * ((b : Int) / s.ad) + n * s.sn * ((b : Int) / s.sd)
theorem moved_by {s : Src} (h : Good s) (n : Int) {b : Nat} (hb : 1 ≤ b) (ha : s.ad ∣ (b : Int)) (hs : s.sd ∣ (b : Int)) :
    moved s n = { s with an := numB s n b / ((Nat.gcd b (numB s n b).natAbs : Nat) : Int), ad := ((b / Nat.gcd b (numB s n b).natAbs : Nat) : Int) } := by
  have ea : s.at' = ((s.an * ((b : Int) / s.ad) : Int) : Rat) / (b : Nat) := mk_base hb h.a0 ha
  have es : s.sp = ((s.sn * ((b : Int) / s.sd) : Int) : Rat) / (b : Nat) := mk_base hb h.s0 hs
  have er : s.at' + n * s.sp = mkRat (numB s n b) b := by
    rw [ea, es, Rat.mkRat_eq_div]
    unfold numB
    rw [Rat.intCast_add, show n * s.sn * ((b : Int) / s.sd) = n * (s.sn * ((b : Int) / s.sd)) from Int.mul_assoc _ _ _, Rat.intCast_mul n, Rat.div_def, Rat.div_def, Rat.div_def, Rat.add_mul, Rat.mul_assoc]
  unfold moved
  rw [if_neg h.ne, er, Rat.num_mkRat, Rat.den_mkRat, if_neg (by omega), if_neg (by omega)]
theorem dvd_base {a d : Nat} (ha : 1 ≤ a) (hd : 1 ≤ d) : a ∣ a / Nat.gcd a d * d ∧ d ∣ a / Nat.gcd a d * d := by
  refine ⟨?_, Nat.dvd_mul_left _ _⟩
  obtain ⟨k, hk⟩ := Nat.gcd_dvd_right a d
  have h1 : a / Nat.gcd a d * Nat.gcd a d = a := Nat.div_mul_cancel (Nat.gcd_dvd_left a d)
  refine ⟨k, ?_⟩
  calc a / Nat.gcd a d * d = a / Nat.gcd a d * (Nat.gcd a d * k) := by rw [← hk]
    _ = a / Nat.gcd a d * Nat.gcd a d * k := (Nat.mul_assoc _ _ _).symm
    _ = a * k := by rw [h1]
end Go.Trk

/- The contracts of the reference's Black and Moved. -/
namespace Go.Proofs.Ytnmkcpgcdjhdjaa
open Go.RowKit
set_option linter.unusedVariables false
set_option linter.unusedSimpArgs false
set_option maxRecDepth 100000 in
set_option maxHeartbeats 4000000 in
theorem rblack_any (s : Trk.Src) (w : World) : Calls Try.prog 30 #[srcV s] w fun e w' => e = .returned (.bool (decide (s = Trk.black))) ∧ Below w.heap.size w w' := by
  have HQ := fun w => run_eq_src s Trk.black w
  obtain ⟨r, hr⟩ : ∃ r, r = decide (s = Trk.black) := ⟨_, rfl⟩
  rw [← hr] at HQ ⊢
  clear hr
  simp only [Trk.black, show (ByteArray.empty : ByteArray) = ⟨#[]⟩ from rfl] at HQ
  show Calls Try.prog 30 #[.agg #[.int .i64 s.kind, .string s.name, .int .i64 s.an, .int .i64 s.ad, .int .i64 s.sn, .int .i64 s.sd, .bool s.smooth]] w _
  go_enter Try.func30, Try.ntmps30
  go_wp2_with fail
  go_ret
  exact ⟨rfl, below_box w _⟩
theorem SVar.below {w w' : World} {g : Nat} {s : Trk.Src} (h : SVar w g s) (hb : Below w.heap.size w w') : SVar w' g s :=
  ⟨fun j v hj => (hb.cell h.lt).trans (h.c j v hj), fun o => (hb.frozen (p := ⟨g, o, none⟩) h.lt).trans (h.f o)⟩
theorem SVar.setAt {w : World} {g : Nat} {s : Trk.Src} (h : SVar w g s) (n d : Int) : SVar ((w.setCell ⟨g, 2, none⟩ (.int .i64 n)).setCell ⟨g, 3, none⟩ (.int .i64 d)) g { s with an := n, ad := d } := by
  obtain ⟨x0, x1, x2, x3, x4, x5, x6⟩ := h.at0
  refine SVar.of ?_ ?_ ?_ ?_ ?_ ?_ ?_ (fun o => by rw [World.frozen?_setCell, World.frozen?_setCell]; exact h.f o) <;> simp [go_sem, x0, x1, x2, x3, x4, x5, x6]
theorem SVar.far {w : World} {g : Nat} {s : Trk.Src} (h : SVar w g s) {g2 : Nat} (hn : g ≠ g2) (o : Nat) (v : Value) : SVar (w.setCell ⟨g2, o, none⟩ v) g s := by
  have hs : (w.setCell ⟨g2, o, none⟩ v).heap[g]? = w.heap[g]? := by simp [World.setCell, Array.getElem?_modify, hn.symm]
  exact ⟨fun j v hj => (World.cell?_of_block (a := ⟨g, 0 + j, none⟩) hs).trans (h.c j v hj), fun o => (World.frozen?_of_block (a := ⟨g, o, none⟩) hs).trans (h.f o)⟩
theorem results_src2 {fn : Func} {tmps : Array Value} {w : World} {t r : Tmp} {g : Nat} {s : Trk.Src} {x : Value} (hr : fn.results = #[.cell t 51, .tmp r]) (ht : tmps.getD t undef = .pointer (some ⟨g, 0, none⟩)) (hx : tmps.getD r undef = x) (hc : SVar w g s) :
    (results fn tmps).run Try.prog w = .ok (.tuple #[srcV s, x]) w := by
  have h := run_loadVar_mid (P := Try.prog) w g 0 51 (srcC s) _ hc.c Try.underlying51 rfl (by kernel_rfl)
  obtain ⟨C, hC⟩ : ∃ C, C = (srcC s).toArray := ⟨_, rfl⟩
  unfold srcV
  rw [← hC] at h ⊢
  unfold results
  rw [hr]
  have ht2 : tmps[t]?.getD undef = .pointer (some ⟨g, 0, none⟩) := by rw [← Array.getD_eq_getD_getElem?]; exact ht
  have hx2 : tmps[r]?.getD undef = x := by rw [← Array.getD_eq_getD_getElem?]; exact hx
  simp [ht2, hx2, asAddr, h]
set_option maxRecDepth 100000 in
set_option maxHeartbeats 8000000 in
theorem rmoved_core (k : Int) (nm : ByteArray) (an sn : Int) (a d : Nat) (sm : Bool) (n : Int) (w : World) (hne : (⟨k, nm, an, (a : Int), sn, (d : Int), sm⟩ : Trk.Src) ≠ Trk.black) (a0 : 1 ≤ a) (d0 : 1 ≤ d) (a1 : a ≤ 6006) (d1 : d ≤ 6006) (b : Nat) (hb : b = baseN a d) (b0 : 1 ≤ b) (b1 : b ≤ 40000000)
    (e1 e2 : Nat) (he1 : (b : Int) / (a : Int) = (e1 : Int)) (he2 : (b : Int) / (d : Int) = (e2 : Int)) (X1 X2 X3 : Int) (h1 : an * (e1 : Int) = X1) (h2 : n * sn = X2) (h3 : X2 * (e2 : Int) = X3)
    (b3 : -1000000000000000 ≤ X1 ∧ X1 ≤ 1000000000000000) (b4 : -1000000000 ≤ X2 ∧ X2 ≤ 1000000000) (b5 : -1000000000000000 ≤ X3 ∧ X3 ≤ 1000000000000000) (b6 : an.natAbs ≤ 1000000000000) (b7 : n.natAbs ≤ 100000) (b8 : sn.natAbs ≤ 100000) (b9 : e1 ≤ 40000000) (b10 : e2 ≤ 40000000)
    (g : Nat) (hg : g = Nat.gcd (X1 + X3).natAbs b) (g0 : 1 ≤ g) (g1 : g ≤ b) (N' : Int) (D' : Nat) (hN : (X1 + X3).tdiv (g : Int) = N') (hD : (b : Int) / (g : Int) = (D' : Int)) (D0 : 1 ≤ D') (D1 : D' ≤ 40000000) (N0 : N'.natAbs ≤ 4000000000000000) (hw : withinN N'.natAbs D' 1099511627776 = true) :
    Calls Try.prog 32 #[srcV ⟨k, nm, an, (a : Int), sn, (d : Int), sm⟩, .int .i64 n] w fun e w' => e = .returned (.tuple #[srcV ⟨k, nm, N', (D' : Int), sn, (d : Int), sm⟩, .bool true]) ∧ Below w.heap.size w w' := by
  obtain ⟨s, hs⟩ : ∃ s : Trk.Src, s = ⟨k, nm, an, (a : Int), sn, (d : Int), sm⟩ := ⟨_, rfl⟩
  have HBL := Lib.hid (fun w => rblack_any ⟨k, nm, an, (a : Int), sn, (d : Int), sm⟩ w)
  rw [decide_eq_false hne] at HBL
  have HBA := Lib.hid (fun w => base_any k nm an sn a d sm w a0 d0 (by omega) (by omega))
  rw [← hb] at HBA
  have HGC := Lib.hid (fun w => rgcd_any (X1 + X3) b w (by omega) (by omega) (by omega))
  rw [← hg] at HGC
  have HWI := Lib.hid (fun w => rwithin_any N' D' 1099511627776 w (by omega) (by omega) D0 (by omega) (by decide))
  rw [hw] at HWI
  replace HBL : Hid (∀ w, Calls Try.prog 30 #[.agg #[.int .i64 k, .string nm, .int .i64 an, .int .i64 (a : Int), .int .i64 sn, .int .i64 (d : Int), .bool sm]] w fun e w' => e = .returned (.bool false) ∧ Below w.heap.size w w') := HBL
  show Calls Try.prog 32 #[.agg #[.int .i64 k, .string nm, .int .i64 an, .int .i64 (a : Int), .int .i64 sn, .int .i64 (d : Int), .bool sm], .int .i64 n] w _
  clear hb hg hw hne hs
  go_enter Try.func32, Try.ntmps32
  go_upto_region 1 with fail
  obtain ⟨w1, hw1⟩ : ∃ y, y = (w.alloc (.cells #[.int .i64 k, .string nm, .int .i64 an, .int .i64 (a : Int), .int .i64 sn, .int .i64 (d : Int), .bool sm] 51)).alloc (.cells #[.int .i64 0, .string ⟨#[]⟩, .int .i64 0, .int .i64 0, .int .i64 0, .int .i64 0, .bool false] 51) := ⟨_, rfl⟩
  rw [← hw1]
  have HS := Lib.hid (show SVar w1 w.heap.size ⟨k, nm, an, (a : Int), sn, (d : Int), sm⟩ by
    rw [hw1]
    exact (SVar.box w ⟨k, nm, an, (a : Int), sn, (d : Int), sm⟩ 51).below (below_box _ _))
  have HZ := Lib.hid (show SVar w1 (w.heap.size + 1) Trk.black by
    have h2 := SVar.box (w.alloc (.cells #[.int .i64 k, .string nm, .int .i64 an, .int .i64 (a : Int), .int .i64 sn, .int .i64 (d : Int), .bool sm] 51)) Trk.black 51
    rw [show (w.alloc (.cells #[.int .i64 k, .string nm, .int .i64 an, .int .i64 (a : Int), .int .i64 sn, .int .i64 (d : Int), .bool sm] 51)).heap.size = w.heap.size + 1 by simp] at h2
    rw [hw1]
    exact h2)
  have HB := Lib.hid (show Below w.heap.size w w1 by rw [hw1]; exact ((Below.refl _ _).alloc (Nat.le_refl _) _).alloc (by simp) _)
  obtain ⟨g1, hg1⟩ : ∃ g, g = w.heap.size := ⟨_, rfl⟩
  obtain ⟨g2, hg2⟩ : ∃ g, g = w.heap.size + 1 := ⟨_, rfl⟩
  rw [← hg2] at HZ ⊢
  rw [← hg1] at HS ⊢
  have HG := Lib.hid (show w.heap.size ≤ g1 ∧ w.heap.size ≤ g2 ∧ g1 ≠ g2 by omega)
  clear hw1 hg1 hg2
  obtain ⟨x0, x1, x2, x3, x4, x5, x6⟩ := HS.out.at0
  go_wp2_with fail
  refine (HBL.out _).mono ?_
  rintro e w2 ⟨rfl, hb⟩
  replace HS := Lib.hid (HS.out.below hb)
  replace HZ := Lib.hid (HZ.out.below hb)
  replace HB := Lib.hid (HB.out.trans (hb.mono HB.out.size))
  clear hb x0 x1 x2 x3 x4 x5 x6
  obtain ⟨x0, x1, x2, x3, x4, x5, x6⟩ := HS.out.at0
  go_wp2_with fail
  refine (HBA.out _).mono ?_
  rintro e w3 ⟨rfl, hb⟩
  replace HS := Lib.hid (HS.out.below hb)
  replace HZ := Lib.hid (HZ.out.below hb)
  replace HB := Lib.hid (HB.out.trans (hb.mono HB.out.size))
  clear hb x0 x1 x2 x3 x4 x5 x6
  obtain ⟨x0, x1, x2, x3, x4, x5, x6⟩ := HS.out.at0
  have hai : ¬ (a : Int) = 0 := by omega
  have hdi : ¬ (d : Int) = 0 := by omega
  go_upto_region 4 with fail
  go_quiet (fail)
  go_upto_region 5 with fail
  obtain ⟨w4, hw4⟩ : ∃ q, q = w3.drewN nq := ⟨_, rfl⟩
  rw [← hw4]
  have hb : Below w3.heap.size w3 w4 := by rw [hw4]; exact below_drewN (Below.refl _ _) _
  replace HS := Lib.hid (HS.out.below hb)
  replace HZ := Lib.hid (HZ.out.below hb)
  replace HB := Lib.hid (HB.out.trans (hb.mono HB.out.size))
  clear hb hw4 x0 x1 x2 x3 x4 x5 x6 h1 h2 h3 he1 he2
  go_wp2_with fail
  refine (HGC.out _).mono ?_
  rintro e w5 ⟨rfl, nn, hnn⟩
  have hb : Below w4.heap.size w4 w5 := by rw [hnn]; exact below_drewN (Below.refl _ _) _
  replace HS := Lib.hid (HS.out.below hb)
  replace HZ := Lib.hid (HZ.out.below hb)
  replace HB := Lib.hid (HB.out.trans (hb.mono HB.out.size))
  clear hb hnn
  have hgi : ¬ (g : Int) = 0 := by omega
  go_upto_region 6 with fail
  refine Plan.wp_region_plan (fun w' => SVar w' g2 Trk.black) (([0, 1, 2, 3, 4, 5, 6, 7].map (·, true)) ++ ([8].map (·, false))) (by kernel_rfl) (by kernel_rfl) (by kernel_rfl) (HZ.out.below (Below.refl _ _).drew) ?_
  refine' Plan.plan_seg _ [0, 1, 2, 3, 4, 5, 6, 7] ([8].map (·, false)) (by kernel_rfl) (by kernel_rfl) rfl (by exact HZ.out.below (Below.refl _ _).drew) (fun wx hS => ?_) ?_
  rotate_left
  · clear hS
    go_light
    iterate 8 (apply Plan.seg_pick; rfl; intro K hK; go_wp)
    exact Plan.seg_nil
  obtain ⟨w6, hw6⟩ : ∃ q, q = w5.drew := ⟨_, rfl⟩
  rw [← hw6]
  have hb : Below w5.heap.size w5 w6 := by rw [hw6]; exact (Below.refl _ _).drew
  replace HS := Lib.hid (HS.out.below hb)
  replace HZ := Lib.hid (HZ.out.below hb)
  replace HB := Lib.hid (HB.out.trans (hb.mono HB.out.size))
  clear hb hw6
  obtain ⟨x0, x1, x2, x3, x4, x5, x6⟩ := HS.out.at0
  have f2 := HS.out.f 2
  have f3 := HS.out.f 3
  refine Plan.plan_of_effect rfl (fun K hK => ?_)
  go_wp2_with fail
  refine ⟨(HZ.out.far HG.out.2.2.symm 2 (.int .i64 N')).far HG.out.2.2.symm 3 (.int .i64 (D' : Int)), ?_⟩
  refine Plan.plan_done ?_
  replace HS := Lib.hid (HS.out.setAt N' (D' : Int))
  replace HZ := Lib.hid ((HZ.out.far HG.out.2.2.symm 2 (.int .i64 N')).far HG.out.2.2.symm 3 (.int .i64 (D' : Int)))
  replace HB := Lib.hid ((HB.out.setCell (p := ⟨g1, 2, none⟩) HG.out.1 (.int .i64 N')).setCell (p := ⟨g1, 3, none⟩) HG.out.1 (.int .i64 (D' : Int)))
  obtain ⟨w7, hw7⟩ : ∃ q, q = (w6.setCell ⟨g1, 2, none⟩ (.int .i64 N')).setCell ⟨g1, 3, none⟩ (.int .i64 (D' : Int)) := ⟨_, rfl⟩
  rw [← hw7] at HS HZ HB ⊢
  clear hw7 x0 x1 x2 x3 x4 x5 x6 f2 f3
  go_upto_region 7 with fail
  refine Plan.wp_region_plan (fun w' => SVar w' g1 ⟨k, nm, N', (D' : Int), sn, (d : Int), sm⟩) (([0, 1, 2].map (·, true)) ++ (([3, 4].map (·, false)) ++ ([5].map (·, true)))) (by kernel_rfl) (by kernel_rfl) (by kernel_rfl) (HS.out.below (Below.refl _ _).drew) ?_
  refine' Plan.plan_seg _ [0, 1, 2] (([3, 4].map (·, false)) ++ ([5].map (·, true))) (by kernel_rfl) (by kernel_rfl) rfl (by exact HS.out.below (Below.refl _ _).drew) (fun wx hS => ?_) ?_
  rotate_left
  · have HS2 := Lib.hid hS
    obtain ⟨x0, x1, x2, x3, x4, x5, x6⟩ := hS.at0
    clear hS
    go_light
    (apply Plan.seg_pick; rfl; intro K hK)
    refine wpl_loadS _ rfl HS2.out.c rfl rfl rfl ?_
    go_wp
    iterate 2 (apply Plan.seg_pick; rfl; intro K hK; go_wp)
    exact Plan.seg_nil
  obtain ⟨w8, hw8⟩ : ∃ q, q = w7.drew := ⟨_, rfl⟩
  rw [← hw8]
  have hb : Below w7.heap.size w7 w8 := by rw [hw8]; exact (Below.refl _ _).drew
  replace HS := Lib.hid (HS.out.below hb)
  replace HZ := Lib.hid (HZ.out.below hb)
  replace HB := Lib.hid (HB.out.trans (hb.mono HB.out.size))
  clear hb hw8
  refine Plan.plan_of_effect rfl (fun K hK => ?_)
  go_wp2_with fail
  refine (HWI.out _).mono ?_
  rintro e w9 ⟨rfl, hb⟩
  replace HS := Lib.hid (HS.out.below hb)
  replace HZ := Lib.hid (HZ.out.below hb)
  replace HB := Lib.hid (HB.out.trans (hb.mono HB.out.size))
  clear hb
  go_wp2_with fail
  refine ⟨HS.out, ?_⟩
  refine Plan.plan_of_effect rfl (fun K hK => ?_)
  refine wpl_storeS ⟨k, nm, N', (D' : Int), sn, (d : Int), sm⟩ none rfl HZ.out.there rfl rfl rfl rfl ?_
  have hput := HZ.out.put ⟨k, nm, N', (D' : Int), sn, (d : Int), sm⟩
  have hsta : SVar (w9.setCells g2 0 (srcC ⟨k, nm, N', (D' : Int), sn, (d : Int), sm⟩)) g1 ⟨k, nm, N', (D' : Int), sn, (d : Int), sm⟩ := by
    have hs : (w9.setCells g2 0 (srcC ⟨k, nm, N', (D' : Int), sn, (d : Int), sm⟩)).heap[g1]? = w9.heap[g1]? := setCells_other g2 g1 HG.out.2.2 _ _ _
    exact ⟨fun j v hj => (World.cell?_of_block (a := ⟨g1, 0 + j, none⟩) hs).trans (HS.out.c j v hj), fun o => (World.frozen?_of_block (a := ⟨g1, o, none⟩) hs).trans (HS.out.f o)⟩
  have hbel := below_setCells g2 HG.out.2.1 (srcC ⟨k, nm, N', (D' : Int), sn, (d : Int), sm⟩) 0 _ HB.out
  have HP := Lib.hid (And.intro hput hbel)
  have HT := Lib.hid hsta
  obtain ⟨w10, hw10⟩ : ∃ q, q = w9.setCells g2 0 (srcC ⟨k, nm, N', (D' : Int), sn, (d : Int), sm⟩) := ⟨_, rfl⟩
  rw [← hw10] at HP HT ⊢
  clear hw10 hput hbel hsta
  go_wp2_with fail
  refine ⟨HT.out, ?_⟩
  refine' Plan.plan_seg _ [5] [] (by kernel_rfl) (by kernel_rfl) rfl (by exact HT.out) (fun wx hS => ?_) ?_
  rotate_left
  · clear hS
    go_light
    iterate 1 (apply Plan.seg_pick; rfl; intro K hK; go_wp)
    exact Plan.seg_nil
  refine Plan.plan_done ?_
  iterate 3 go_step
  refine bodyPost_ret (v := .tuple #[srcV ⟨k, nm, N', (D' : Int), sn, (d : Int), sm⟩, .bool true]) (results_src2 Try.results32 rfl rfl HP.out.1) rfl ⟨rfl, HP.out.2⟩
theorem baseN_of {a d : Nat} (a0 : 1 ≤ a) (a1 : a ≤ 6006) (d0 : 1 ≤ d) (d1 : d ≤ 6006) : baseN a d = a / Nat.gcd a d * d := by
  unfold baseN
  have h1 : 715112 ≤ 4294967296 / d := (Nat.le_div_iff_mul_le d0).2 (by omega)
  have h2 : a / Nat.gcd a d ≤ a := Nat.div_le_self _ _
  rw [if_neg (by omega), if_neg (by omega)]
theorem rmoved_any (s : Trk.Src) (n : Int) (w : World) (h : Trk.Lat s) (ha : s.an.natAbs ≤ 1000000) (hs : s.sn.natAbs ≤ 18018) (hn : n.natAbs ≤ 1000) :
    Calls Try.prog 32 #[srcV s, .int .i64 n] w fun e w' => e = .returned (.tuple #[srcV (Trk.moved s n), .bool true]) ∧ Below w.heap.size w w' := by
  obtain ⟨hg, hda, hds⟩ := h
  have hne := hg.ne
  have hmv := fun b h1 h2 h3 => Trk.moved_by hg n (b := b) h1 h2 h3
  obtain ⟨k, nm, an, ad, sn, sd, sm⟩ := s
  have hA0 : 1 ≤ ad := hg.a0
  have hD0 : 1 ≤ sd := hg.s0
  have hA1 : ad ≤ 6006 := Int.le_of_dvd (by decide) hda
  have hD1 : sd ≤ 6006 := Int.le_of_dvd (by decide) hds
  obtain ⟨a, rfl⟩ := Int.eq_ofNat_of_zero_le (show 0 ≤ ad by omega)
  obtain ⟨d, rfl⟩ := Int.eq_ofNat_of_zero_le (show 0 ≤ sd by omega)
  clear hg hda hds
  simp only at ha hs
  have a0 : 1 ≤ a := by omega
  have d0 : 1 ≤ d := by omega
  have a1 : a ≤ 6006 := by omega
  have d1 : d ≤ 6006 := by omega
  obtain ⟨b, hb⟩ : ∃ b, b = baseN a d := ⟨_, rfl⟩
  have hb2 := hb
  rw [baseN_of a0 a1 d0 d1] at hb2
  have hdv := Trk.dvd_base a0 d0
  rw [← hb2] at hdv
  have hq0 : 1 ≤ a / Nat.gcd a d := Nat.div_pos (Nat.gcd_le_left _ a0) (Nat.gcd_pos_of_pos_left _ a0)
  have hq1 : a / Nat.gcd a d ≤ 6006 := Nat.le_trans (Nat.div_le_self _ _) a1
  have b0 : 1 ≤ b := by rw [hb2]; exact Nat.mul_pos hq0 d0
  have b1 : b ≤ 6006 * 6006 := by rw [hb2]; exact Nat.mul_le_mul hq1 d1
  obtain ⟨e1, he1⟩ : ∃ e, e = b / a := ⟨_, rfl⟩
  obtain ⟨e2, he2⟩ : ∃ e, e = b / d := ⟨_, rfl⟩
  have e10 : e1 ≤ b := by rw [he1]; exact Nat.div_le_self _ _
  have e20 : e2 ≤ b := by rw [he2]; exact Nat.div_le_self _ _
  have i1 : (b : Int) / (a : Int) = (e1 : Int) := by rw [he1]; exact (Int.natCast_ediv b a).symm
  have i2 : (b : Int) / (d : Int) = (e2 : Int) := by rw [he2]; exact (Int.natCast_ediv b d).symm
  have hm := hmv b b0 (Int.ofNat_dvd.2 hdv.1) (Int.ofNat_dvd.2 hdv.2)
  unfold Trk.numB at hm
  simp only [i1, i2] at hm
  obtain ⟨X1, hX1⟩ : ∃ X, X = an * (e1 : Int) := ⟨_, rfl⟩
  obtain ⟨X2, hX2⟩ : ∃ X, X = n * sn := ⟨_, rfl⟩
  obtain ⟨X3, hX3⟩ : ∃ X, X = X2 * (e2 : Int) := ⟨_, rfl⟩
  rw [← hX2, ← hX1, ← hX3] at hm
  have m1 : X1.natAbs ≤ 1000000 * b := by rw [hX1, Int.natAbs_mul, Int.natAbs_natCast]; exact Nat.mul_le_mul ha e10
  have m2 : X2.natAbs ≤ 18018000 := by rw [hX2, Int.natAbs_mul]; exact Nat.mul_le_mul hn hs
  have m3 : X3.natAbs ≤ 18018000 * b := by rw [hX3, Int.natAbs_mul, Int.natAbs_natCast]; exact Nat.mul_le_mul m2 e20
  obtain ⟨N, hN⟩ : ∃ N, N = X1 + X3 := ⟨_, rfl⟩
  have m4 : N.natAbs ≤ 20000000 * b := by omega
  rw [← hN] at hm
  obtain ⟨g, hg⟩ : ∃ g, g = Nat.gcd N.natAbs b := ⟨_, rfl⟩
  rw [Nat.gcd_comm b, ← hg] at hm
  have g0 : 1 ≤ g := by rw [hg]; exact Nat.gcd_pos_of_pos_right _ b0
  have g1 : g ≤ b := by rw [hg]; exact Nat.gcd_le_right _ b0
  have gN : (g : Int) ∣ N := Int.ofNat_dvd_left.2 (by rw [hg]; exact Nat.gcd_dvd_left _ _)
  have gb : g ∣ b := by rw [hg]; exact Nat.gcd_dvd_right _ _
  obtain ⟨D, hD⟩ : ∃ D, D = b / g := ⟨_, rfl⟩
  obtain ⟨M, hM⟩ : ∃ M, M = N / (g : Int) := ⟨_, rfl⟩
  rw [← hD, ← hM] at hm
  have hDg : D * g = b := by rw [hD]; exact Nat.div_mul_cancel gb
  have hMg : M * (g : Int) = N := by rw [hM]; exact Int.ediv_mul_cancel gN
  have D0 : 1 ≤ D := by rw [hD]; exact Nat.div_pos g1 g0
  have D1 : D ≤ b := by rw [hD]; exact Nat.div_le_self _ _
  have hM1 : M.natAbs * g = N.natAbs := by rw [← hMg, Int.natAbs_mul, Int.natAbs_natCast]
  have hM2 : M.natAbs ≤ 20000000 * D := by
    refine Nat.le_of_mul_le_mul_right (c := g) ?_ g0
    rw [hM1, Nat.mul_assoc, hDg]
    exact m4
  have hw : withinN M.natAbs D 1099511627776 = true := by
    have h1 : M.natAbs / D < 1099511627776 := by
      refine Nat.lt_of_le_of_lt (Nat.div_le_of_le_mul (k := D) (n := 20000000) (by rw [Nat.mul_comm]; exact hM2)) (by decide)
    simp [withinN, h1]
  have ht : N.tdiv (g : Int) = M := by rw [hM]; exact Int.tdiv_eq_ediv_of_dvd gN
  have hDi : (b : Int) / (g : Int) = (D : Int) := by rw [hD]; exact (Int.natCast_ediv b g).symm
  rw [hm]
  exact rmoved_core k nm an sn a d sm n w hne a0 d0 a1 d1 b hb b0 (by omega) e1 e2 i1 i2 X1 X2 X3 hX1.symm hX2.symm hX3.symm (by omega) (by omega) (by omega) (by omega) (by omega) (by omega) (by omega) (by omega) g (by rw [← hN]; exact hg) g0 g1 M D (by rw [← hN]; exact ht) hDi D0 (by omega) (by omega) hw
end Go.Proofs.Ytnmkcpgcdjhdjaa

/- The law of the changes of speed. -/
namespace Go.Proofs.Ytnmkcpgcdjhdjaa
open Go.RowKit
set_option linter.unusedVariables false
set_option linter.unusedSimpArgs false
/-- What Apply answers at a change of speed of a made track. -/
def RR (w : World) (B : Nat) (t : List Trk.Clip) (c : Nat) (sn sd : Int) (vu : Value) (code : Int) : Prop :=
  (code = 0 ∧ Trk.adjCode t 10 c 0 sn sd = 0 ∧ OT w B vu (Trk.nf (Trk.adjL t 10 c 0 sn sd))) ∨ (code ≠ 0 ∧ code = Trk.adjCode t 10 c 0 sn sd ∧ vu = .slice none 0 0)
theorem RR.below {w w' : World} {B : Nat} {t : List Trk.Clip} {c : Nat} {sn sd : Int} {vu : Value} {code : Int} (h : RR w B t c sn sd vu code) (hb : Below w.heap.size w w') : RR w' B t c sn sd vu code := by
  rcases h with ⟨r1, r2, r3⟩ | h
  · exact .inl ⟨r1, r2, r3.below hb⟩
  · exact .inr h
theorem RR.code {w : World} {B : Nat} {t : List Trk.Clip} {c : Nat} {sn sd : Int} {vu : Value} {code : Int} (h : RR w B t c sn sd vu code) : code = Trk.adjCode t 10 c 0 sn sd := by
  rcases h with ⟨r1, r2, r3⟩ | h
  · rw [r1, r2]
  · exact h.2.1
theorem RR.good {w : World} {B : Nat} {t : List Trk.Clip} {c : Nat} {sn sd : Int} {vu : Value} {code : Int} (h : RR w B t c sn sd vu code) (h0 : code = 0) : OT w B vu (Trk.nf (Trk.adjL t 10 c 0 sn sd)) := by
  rcases h with ⟨r1, r2, r3⟩ | h
  · exact r3
  · exact absurd h0 h.1
def RetRes (w : World) (t : List Trk.Clip) (c : Nat) (sn sd : Int) (e : Ending) (w' : World) : Prop :=
  ∃ vu x1 x2 x3 ra rl rc code, e = .returned (.tuple #[vu, .agg (edC x1 x2 x3 0 0 0 0 (.slice ra rl rc)), .int .i64 code]) ∧ Below w.heap.size w w' ∧ RR w' w.heap.size t c sn sd vu code
theorem apply_ret (v : Value) (t : List Trk.Clip) (c : Nat) (sn sd : Int) (w : World) (h : Tk w v t) (hM : Made t) (hc : c ≤ 1048576) (hs : Trk.SpeedOK sn sd) :
    Calls Try.prog 20 #[v, edV 10 0 0 (c : Int) 0 sn sd (.slice none 0 0)] w (RetRes w t c sn sd) := by
  have h1 := apply_r (L := 1000000) v t c sn sd 0 none w h hM.vt (by decide) (by rw [hM.nf]; have := hM.l; omega) hc (by decide) hs
  rw [hM.nf] at h1
  refine h1.mono ?_
  rintro e w' (⟨-, h0, v', vr, rfl, hou, hor, hb⟩ | ⟨ho, rfl, hb⟩)
  · obtain ⟨ra, rc, rfl, -⟩ := hor.tk
    exact ⟨_, _, _, _, _, _, _, _, rfl, hb, .inl ⟨rfl, h0, hou⟩⟩
  · have hne : Trk.adjCode t 10 c 0 sn sd ≠ 0 := by
      rcases ho with ho | ho
      · cases ho
      · exact ho
    exact ⟨_, _, _, _, _, _, _, _, rfl, hb, .inr ⟨hne, rfl, rfl⟩⟩
theorem code10 {t : List Trk.Clip} (h : Made t) {c : Nat} {x : Trk.Clip} (hx : t[c]? = some x) (sn sd : Int) : Trk.adjCode t 10 c 0 sn sd = if x.a = Trk.black then 13 else 0 := by
  have hT := h.tt
  have hV := h.v
  have hc := (List.getElem?_eq_some_iff.1 hx).1
  have hm : Trk.missingL t 10 c = false := by
    have e1 : decide (t.length ≤ c) = false := decide_eq_false (by omega)
    unfold Trk.missingL
    rw [e1]
    rfl
  unfold Trk.adjCode
  rw [hm, if_neg (by decide), hx]
  by_cases hb : x.a = Trk.black
  · rw [if_pos ⟨rfl, by simp [hb]⟩, if_pos hb]
  · rw [if_neg (fun hh => hb (by simpa using hh.2)), if_neg hb, if_neg]
    intro hcx
    obtain ⟨P, Q, rfl, rfl⟩ := Trk.split_at hx
    have e : Trk.adjL (P ++ x :: Q) 10 P.length 0 sn sd = P ++ Trk.speedy sn sd x :: Q := by
      simp only [Trk.adjL]
      rw [if_neg (by decide), if_neg (by decide), if_neg (by decide), if_neg (by decide), if_neg (by decide), Trk.upd_at]
    rw [e, Trk.total_split] at hcx
    rw [Trk.total_split] at hT
    have el : (Trk.speedy sn sd x).len = x.len := rfl
    rcases hcx with hcx | hcx
    · omega
    · refine hcx fun y hy => ?_
      rcases List.mem_append.1 hy with hy | hy
      · exact (hV y (by simp [hy])).l
      · rcases List.mem_cons.1 hy with rfl | hy
        · exact (hV x (by simp)).l
        · exact (hV y (by simp [hy])).l
theorem SVar.setSp {w : World} {g : Nat} {s : Trk.Src} (h : SVar w g s) (n d : Int) : SVar ((w.setCell ⟨g, 4, none⟩ (.int .i64 n)).setCell ⟨g, 5, none⟩ (.int .i64 d)) g { s with sn := n, sd := d } := by
  obtain ⟨x0, x1, x2, x3, x4, x5, x6⟩ := h.at0
  refine SVar.of ?_ ?_ ?_ ?_ ?_ ?_ ?_ (fun o => by rw [World.frozen?_setCell, World.frozen?_setCell]; exact h.f o) <;> simp [go_sem, x0, x1, x2, x3, x4, x5, x6]
theorem abs_le_mul {a k B : Int} (k1 : 1 ≤ k) (h0 : -B ≤ a * k) (h1 : a * k ≤ B) : a.natAbs ≤ B.natAbs := by
  rcases Int.le_total 0 a with h | h
  · have := Int.mul_le_mul_of_nonneg_left k1 h
    omega
  · have := Int.mul_le_mul_of_nonpos_left h k1
    omega
theorem ret_src {t : List Trk.Clip} (h : Made t) {c : Nat} {x : Trk.Clip} {sn sd : Int} (hx : t[c]? = some x) (hb : x.a ≠ Trk.black) (hs : Trk.SpeedOK sn sd) :
    Trk.Lat { x.a with sn := sn, sd := sd } ∧ x.a.an.natAbs ≤ 1000000 ∧ sn.natAbs ≤ 18018 := by
  have hc := (h.v x (List.mem_of_getElem? hx)).c
  rcases hc.a with e | k
  · exact absurd e hb
  have g := k.lat.g
  have dq : ∀ d : Int, 1 ≤ d → d ∣ 6006 → 1 ≤ 6006 / d := fun d d0 hd => by
    have h3 := Int.ediv_mul_cancel hd
    rcases Int.lt_or_le 0 (6006 / d) with h4 | h4
    · omega
    · have := Int.mul_nonpos_of_nonpos_of_nonneg h4 (show 0 ≤ d by omega); omega
  refine ⟨⟨⟨g.k, g.a0, g.a1, hs.d0, hs.g⟩, k.lat.a, hs.d⟩, ?_, ?_⟩
  · exact abs_le_mul (B := 1000000) (dq _ g.a0 k.lat.a) k.p0 k.p1
  · exact abs_le_mul (B := 18018) (dq _ hs.d0 hs.d) hs.v0 hs.v1
/-- A change of speed. -/
structure RetOf (t u : List Trk.Clip) (s e n : Int) (y : Trk.Clip) : Prop where
  v : VT bigM u
  lo : ∀ i, 0 ≤ i → i < s → Trk.fr u (0 + i) = Trk.fr t (0 + i)
  hi : ∀ i, 0 ≤ i → Trk.fr u (e + i) = Trk.fr t (e + i)
  own : ∀ i, 0 ≤ i → i < n → Trk.fr u (s + i) = Trk.one y i
theorem ret_of {t : List Trk.Clip} (h : Made t) {c : Nat} {x : Trk.Clip} {sn sd : Int} (hs : Trk.SpeedOK sn sd) (hx : t[c]? = some x) (hb : x.a ≠ Trk.black) :
    RetOf t (Trk.nf (Trk.adjL t 10 c 0 sn sd)) (Trk.total (t.take c)) (Trk.total (t.take (c + 1))) x.len (Trk.speedy sn sd x) := by
  have h0 : Trk.adjCode t 10 c 0 sn sd = 0 := by rw [code10 h hx, if_neg hb]
  obtain ⟨ha, -, -, -, hV, hT⟩ := adj_of h (k := 10) (d := 0) (by decide) (fun h => by omega) (by decide) (fun _ => hs) h0
  have hl := len_of_made h hx
  have hf : Trk.fromL t 10 c 0 = Trk.total (t.take c) := by simp [Trk.fromL, Trk.begL]
  have ht : Trk.toL t 10 c 0 = Trk.total (t.take (c + 1)) := by simp [Trk.toL, Trk.endL]
  rw [hf, ht] at ha
  obtain ⟨v, u, b⟩ := ha
  refine ⟨v, fun i i0 i1 => u.lo (0 + i) (by omega) (by omega), fun i i0 => u.three rfl _ (by omega), fun i i0 i1 => ?_⟩
  rw [Trk.nf_fr hV.good (by omega)]
  obtain ⟨P, Q, rfl, rfl⟩ := Trk.split_at hx
  have e1 : Trk.adjL (P ++ x :: Q) 10 P.length 0 sn sd = P ++ Trk.speedy sn sd x :: Q := by
    simp only [Trk.adjL]
    rw [if_neg (by decide), if_neg (by decide), if_neg (by decide), if_neg (by decide), if_neg (by decide), Trk.upd_at]
  obtain ⟨gP, gx, gQ⟩ := Trk.good_mid h.v.good
  have el : (Trk.speedy sn sd x).len = x.len := rfl
  rw [e1, Trk.take_total, Trk.fr_append_ge _ gP (by omega), Trk.fr_lt (by rw [el]; omega)]
  congr 1; omega
set_option maxRecDepth 100000 in
set_option maxHeartbeats 16000000 in
theorem law_retimes (v : Value) (a : Int) (fast : Bool) (w : World) (h : Ints w v) (ha : -9223372036854775808 ≤ a ∧ a ≤ 9223372036854775807) :
    Calls Try.prog 13 #[v, .int .i64 a, .bool fast] w fun e w' => e = .returned (.bool true) ∧ Below w.heap.size w w' := by
  obtain ⟨ha0, ha1⟩ := ha
  have HMA := Lib.hid (made_any v w h)
  clear h
  go_enter Try.func13, Try.ntmps13
  go_wp2_with fail
  refine HMA.out.mono ?_
  rintro e w1 ⟨vt, t, p, k', rfl, ho, hmd, htp, hk', hb⟩
  have HO := Lib.hid ho
  have HM := Lib.hid hmd
  have HB := Lib.hid hb
  clear ho hmd htp hk' hb HMA
  obtain ⟨ta, tc, rfl, htc⟩ := HO.out.tk
  obtain ⟨N, hN⟩ : ∃ N, N = t.length := ⟨_, rfl⟩
  have hN1 : 1 ≤ N := by
    rw [hN]
    have := HM.out.ne
    cases t with
    | nil => exact absurd rfl this
    | cons => simp
  have hN2 : N ≤ 13 := by rw [hN]; exact HM.out.l
  rw [← hN] at HO ⊢
  have HN := Lib.hid hN
  clear hN htc
  have hN0 : ¬ (N : Int) = 0 := by omega
  have hN00 : ((N : Int) == 0) = false := by simp; omega
  go_upto_region 5 with fail
  obtain ⟨c, hc, hcN⟩ := index_of a N hN1 (by omega)
  rw [hc]
  clear hc ha0 ha1
  go_upto_region 6 with fail
  apply wp_region_lit
  iterate 6 go_step
  go_cut [39] from 39 (fun v39 wr => (∃ q, v39 = .bool q) ∧ ∃ sn sd, Trk.SpeedOK sn sd ∧ wr.cell? ⟨w1.heap.size, 0, none⟩ = some (.int .i64 sn) ∧ wr.cell? ⟨w1.heap.size, 1, none⟩ = some (.int .i64 sd) ∧ Below w1.heap.size w1 wr)
  case first J K' h1' h2' =>
    have hbx := below_box w1 (.cells #[.int .i64 1, .int .i64 2] 23)
    cases fast with
    | false =>
      go_wp2_with fail
      refine Met.intro (h1' _ _ ?_)
      (repeat apply Exists.intro)
      exact ⟨⟨⟨_, rfl⟩, 1, 2, ⟨by decide, by decide, by decide, by decide, by decide⟩, by simp [go_sem], by simp [go_sem], hbx⟩, rfl⟩
    | true =>
      go_wp2_with fail
      refine Met.intro (h1' _ _ ?_)
      (repeat apply Exists.intro)
      exact ⟨⟨⟨_, rfl⟩, 3, 1, ⟨by decide, by decide, by decide, by decide, by decide⟩, by simp [go_sem], by simp [go_sem], below_box _ _⟩, rfl⟩
  obtain ⟨⟨q39, rfl⟩, sn, sd, hsp, hk0, hk1, hb⟩ := hcut
  obtain ⟨g10, hg10⟩ : ∃ g, g = w1.heap.size := ⟨_, rfl⟩
  rw [← hg10] at hk0 hk1 ⊢
  have HSP := Lib.hid hsp
  have HG0 := Lib.hid (show w.heap.size ≤ g10 by have := HB.out.size; omega)
  replace HO := Lib.hid (HO.out.below hb)
  replace HB := Lib.hid (HB.out.trans (hb.mono HB.out.size))
  clear hsp hg10 hb
  have HAP := Lib.hid (fun w (h : Tk w (.slice ta N tc) t) => apply_ret (.slice ta N tc) t c sn sd w h HM.out (by omega) HSP.out)
  go_wp2_with fail
  refine (HAP.out _ HO.out.tk).mono ?_
  rintro e w2 ⟨vu, x1, x2, x3, ra, rl, rc, code, rfl, hb, hres⟩
  have HR := Lib.hid hres
  have HK := Lib.hid (And.intro ((hb.cell (block_lt_of_cell hk0)).trans hk0) ((hb.cell (block_lt_of_cell hk1)).trans hk1))
  replace HO := Lib.hid (HO.out.below hb)
  replace HB := Lib.hid (HB.out.trans (hb.mono HB.out.size))
  clear hb hres HAP hk0 hk1
  try dsimp only
  iterate 19 go_step
  have hv : ED (w2.alloc (.cells (edC 0 0 0 0 0 0 0 (.slice none 0 0)) 26)) w2.heap.size 0 0 0 0 0 0 0 (.slice none 0 0) := ED.box w2 0 0 0 0 0 0 0 (.slice none 0 0) rfl 26
  have hb0 : Below w2.heap.size w2 (w2.alloc (.cells (edC 0 0 0 0 0 0 0 (.slice none 0 0)) 26)) := below_box _ _
  refine wpl_storeE x1 x2 x3 0 0 0 0 ra rl rc hv rfl rfl rfl rfl ?_
  intro w3 q1 q2 q3 q4 q5
  have hb : Below w2.heap.size w2 w3 := q4 _ _ (Nat.le_refl _) hb0
  replace HK := Lib.hid (And.intro ((hb.cell (block_lt_of_cell HK.out.1)).trans HK.out.1) ((hb.cell (block_lt_of_cell HK.out.2)).trans HK.out.2))
  replace HR := Lib.hid (HR.out.below hb)
  replace HO := Lib.hid (HO.out.below hb)
  replace HB := Lib.hid (HB.out.trans (hb.mono HB.out.size))
  obtain ⟨gE, hgE⟩ : ∃ g, g = w2.heap.size := ⟨_, rfl⟩
  rw [← hgE]
  clear q1 q2 q3 q4 q5 hb hb0 hv hgE
  simp only [Act.put, List.setIfInBounds_toArray, List.set_cons_succ, List.set_cons_zero]
  obtain ⟨x, hx⟩ : ∃ x, t[c]? = some x := ⟨_, List.getElem?_eq_getElem (by rw [← HN.out]; exact hcN)⟩
  obtain ⟨ta', tc', e, _, _, hT⟩ := HO.out.tk
  simp only [Value.slice.injEq] at e
  obtain ⟨rfl, -, rfl⟩ := e
  obtain ⟨b, o, rfl, hA⟩ := hT c x hx
  clear hT
  have hlm := len_of_made HM.out hx
  have hxl := (HM.out.v x (List.mem_of_getElem? hx)).l
  have hxo : (x.kind = 2 ∨ x.kind = 3) → 0 ≤ x.off ∧ x.off ≤ 2147483647 := by
    intro hk
    have := hxl.2.2 (by simp [Trk.shares]; omega)
    omega
  have HC := Lib.hid (HR.out.code.trans (code10 HM.out hx sn sd))
  have HX := Lib.hid hx
  have HA := Lib.hid hA
  have HLM := Lib.hid hlm
  have hci : (c : Int) < (N : Int) := by omega
  clear hxo hxl hlm hx hA
  go_upto_region 9 with fail
  apply wp_region_lit
  iterate 12 go_step
  refine wpl_loadS _ rfl HA.out.src_a rfl rfl rfl ?_
  iterate 2 go_step
  refine (rblack_any x.a _).mono ?_
  rintro e w4 ⟨rfl, hb⟩
  replace HR := Lib.hid (HR.out.below hb)
  replace HO := Lib.hid (HO.out.below hb)
  replace HA := Lib.hid (HA.out.below hb)
  replace HB := Lib.hid (HB.out.trans (hb.mono HB.out.size))
  replace HK := Lib.hid (And.intro ((hb.cell (block_lt_of_cell HK.out.1)).trans HK.out.1) ((hb.cell (block_lt_of_cell HK.out.2)).trans HK.out.2))
  clear hb
  try dsimp only
  by_cases hbl : x.a = Trk.black
  · rw [decide_eq_true hbl]
    have hcd := HC.out
    rw [if_pos hbl] at hcd
    subst hcd
    clear HC HR
    go_wp2_with fail
    refine (awake_any _).mono ?_
    rintro e w8 ⟨rfl, hb⟩
    replace HB := Lib.hid (HB.out.trans (hb.mono HB.out.size))
    clear hb
    go_wp2_with fail
    go_ret
    exact ⟨rfl, HB.out⟩
  rw [decide_eq_false hbl]
  have hcd := HC.out
  rw [if_neg hbl] at hcd
  have hou := HR.out.good hcd
  subst hcd
  have HRIP := Lib.hid (ret_of HM.out HSP.out HX.out hbl)
  obtain ⟨U, hU⟩ : ∃ U, U = Trk.nf (Trk.adjL t 10 c 0 sn sd) := ⟨_, rfl⟩
  rw [← hU] at hou HRIP
  have HU := Lib.hid hou
  obtain ⟨s, hs⟩ : ∃ s, s = Trk.total (t.take c) := ⟨_, rfl⟩
  obtain ⟨e, he⟩ : ∃ e, e = Trk.total (t.take (c + 1)) := ⟨_, rfl⟩
  obtain ⟨T, hT⟩ : ∃ T, T = Trk.total t := ⟨_, rfl⟩
  have hln := Lib.hid (fun w (h : Tk w (.slice (some ⟨b, o, none⟩) N tc) t) => length_any (.slice (some ⟨b, o, none⟩) N tc) t w h HM.out.vt (by decide))
  have hst := Lib.hid (fun w (h : Tk w (.slice (some ⟨b, o, none⟩) N tc) t) => starts_next (.slice (some ⟨b, o, none⟩) N tc) t c w h HM.out (by rw [← HN.out]; omega))
  have hst0 := Lib.hid (fun w (h : Tk w (.slice (some ⟨b, o, none⟩) N tc) t) => starts_at (.slice (some ⟨b, o, none⟩) N tc) t c w h HM.out (by rw [← HN.out]; omega))
  have hT1 := HM.out.tt
  rw [← hs, ← he] at HRIP HLM
  rw [← hT] at hln HLM hT1
  rw [← he] at hst
  rw [← hs] at hst0
  obtain ⟨l0, l1, l2, l3, l4⟩ := HLM.out
  have l5 : e ≤ T := by omega
  have l6 : 0 ≤ e := by omega
  have HBL := Lib.hid hbl
  clear hou hU hs he hT HR HC HLM hbl l4
  go_wp2_with fail
  refine (hst0.out _ HO.out.tk).mono ?_
  rintro e' w5 ⟨rfl, hb⟩
  replace HU := Lib.hid (HU.out.below hb)
  replace HO := Lib.hid (HO.out.below hb)
  replace HA := Lib.hid (HA.out.below hb)
  replace HB := Lib.hid (HB.out.trans (hb.mono HB.out.size))
  replace HK := Lib.hid (And.intro ((hb.cell (block_lt_of_cell HK.out.1)).trans HK.out.1) ((hb.cell (block_lt_of_cell HK.out.2)).trans HK.out.2))
  clear hb
  go_wp2_with fail
  refine (hst.out _ HO.out.tk).mono ?_
  rintro e' w6 ⟨rfl, hb⟩
  replace HU := Lib.hid (HU.out.below hb)
  replace HO := Lib.hid (HO.out.below hb)
  replace HA := Lib.hid (HA.out.below hb)
  replace HB := Lib.hid (HB.out.trans (hb.mono HB.out.size))
  replace HK := Lib.hid (And.intro ((hb.cell (block_lt_of_cell HK.out.1)).trans HK.out.1) ((hb.cell (block_lt_of_cell HK.out.2)).trans HK.out.2))
  clear hb
  go_wp2_with fail
  refine (lequal_any (L := bigM) vu (.slice (some ⟨b, o, none⟩) N tc) U t 0 0 s _ HU.out.tk HO.out.tk HRIP.out.v HM.out.big bigM_le (by omega) (by omega) (by omega) (by omega) (by omega) (by omega) HRIP.out.lo).mono ?_
  rintro e' w7 ⟨rfl, hb⟩
  replace HU := Lib.hid (HU.out.below hb)
  replace HO := Lib.hid (HO.out.below hb)
  replace HA := Lib.hid (HA.out.below hb)
  replace HB := Lib.hid (HB.out.trans (hb.mono HB.out.size))
  replace HK := Lib.hid (And.intro ((hb.cell (block_lt_of_cell HK.out.1)).trans HK.out.1) ((hb.cell (block_lt_of_cell HK.out.2)).trans HK.out.2))
  clear hb
  go_wp2_with fail
  refine (hln.out _ HO.out.tk).mono ?_
  rintro e' w8 ⟨rfl, hb⟩
  replace HU := Lib.hid (HU.out.below hb)
  replace HO := Lib.hid (HO.out.below hb)
  replace HA := Lib.hid (HA.out.below hb)
  replace HB := Lib.hid (HB.out.trans (hb.mono HB.out.size))
  replace HK := Lib.hid (And.intro ((hb.cell (block_lt_of_cell HK.out.1)).trans HK.out.1) ((hb.cell (block_lt_of_cell HK.out.2)).trans HK.out.2))
  clear hb
  go_wp2_with fail
  refine (lequal_any (L := bigM) vu (.slice (some ⟨b, o, none⟩) N tc) U t e e (T - e + 1) _ HU.out.tk HO.out.tk HRIP.out.v HM.out.big bigM_le (by omega) (by omega) (by omega) (by omega) (by omega) (by omega) (fun i i0 _ => HRIP.out.hi i i0)).mono ?_
  rintro e' w9 ⟨rfl, hb⟩
  replace HU := Lib.hid (HU.out.below hb)
  replace HO := Lib.hid (HO.out.below hb)
  replace HA := Lib.hid (HA.out.below hb)
  replace HB := Lib.hid (HB.out.trans (hb.mono HB.out.size))
  replace HK := Lib.hid (And.intro ((hb.cell (block_lt_of_cell HK.out.1)).trans HK.out.1) ((hb.cell (block_lt_of_cell HK.out.2)).trans HK.out.2))
  clear hb
  have HSI := Lib.hid (show 0 ≤ s ∧ s + x.len ≤ 117 by omega)
  obtain ⟨y, hy⟩ : ∃ y, y = Trk.speedy sn sd x := ⟨_, rfl⟩
  have HY := Lib.hid hy
  rw [← hy] at HRIP
  clear hy hln hst hst0 l5 l6 l2 l3 hT1
  go_wp2_with fail
  go_loopw [16] (fun v16 wr => ∃ i : Nat, (i : Int) ≤ x.len ∧ v16 = .int .i64 (i : Int) ∧ Below w9.heap.size w9 wr) (fun v _ => x.len.toNat - (intOf v).toNat)
  case atStart => exact ⟨0, by omega, rfl, Below.refl _ _⟩
  case round =>
    obtain ⟨i, hi, rfl, hb⟩ := hrel
    have HBW := Lib.hid hb
    clear hb
    have x0 := (HA.out.below HBW.out).k0
    by_cases hlt : (i : Int) < x.len
    · have hlt' : decide ((i : Int) < x.len) = true := decide_eq_true hlt
      have si0 : 0 ≤ s := HSI.out.1
      have si1 : s + x.len ≤ 117 := HSI.out.2
      go_upto_region 17 with fail
      have HUW := Lib.hid (HU.out.below HBW.out)
      have HAW := Lib.hid (HA.out.below HBW.out)
      have HFR := Lib.hid (fun w (h : Tk w vu U) => frame_any (L := bigM) vu U (s + (i : Int)) w h HRIP.out.v bigM_le (by omega) (by omega))
      go_cut [17, 18] from 99 to 131 (fun v17 v18 wx => ∃ g18, v18 = .pointer (some ⟨g18, 0, none⟩) ∧ OT wx w9.heap.size v17 [Trk.fr U (s + (i : Int))] ∧ SVar wx g18 x.a ∧ w9.heap.size ≤ g18 ∧ (∀ g kk cp, v17 = .slice (some ⟨g, 0, none⟩) kk cp → g ≠ g18) ∧ Below w9.heap.size w9 wx)
      case first J K' h1' h2' =>
        refine Plan.wp_region_tree (fun w' => CA w' b (o + c * 22) x) (.run ([0, 1, 2, 3, 5, 6, 7, 8, 9].map (·, true)) (.fork 4 (.run (([10].map (·, false)) ++ (([11].map (·, true)) ++ ([12].map (·, false)))) .leaf) 10 (.run (([4].map (·, false)) ++ (([11].map (·, true)) ++ ([12].map (·, false)))) .leaf))) (by kernel_rfl) (by kernel_rfl) (by kernel_rfl) (HAW.out.below (Below.refl _ _).drew) ?_
        obtain ⟨wa, hwa⟩ : ∃ q, q = wr.drew := ⟨_, rfl⟩
        rw [← hwa]
        have hb : Below wr.heap.size wr wa := by rw [hwa]; exact (Below.refl _ _).drew
        replace HUW := Lib.hid (HUW.out.below hb)
        replace HAW := Lib.hid (HAW.out.below hb)
        replace HBW := Lib.hid (HBW.out.trans (hb.mono HBW.out.size))
        clear hb hwa x0
        refine Plan.tree_run ?_
        refine' Plan.plan_seg _ [0, 1, 2, 3, 5, 6, 7, 8, 9] ([]) (by kernel_rfl) (by kernel_rfl) rfl (by exact HAW.out) (fun wx hS => ?_) ?_
        rotate_left
        · have HS := Lib.hid hS
          clear hS
          go_light
          iterate 8 (apply Plan.seg_pick; rfl; intro K hK; go_wp)
          (apply Plan.seg_pick; rfl; intro K hK)
          refine wpl_loadS _ rfl HS.out.src_a rfl rfl rfl ?_
          go_wp
          exact Plan.seg_nil
        refine Plan.plan_nil ?_
        refine Plan.tree_fork ?_ ?_
        · refine Plan.op_of_list rfl (fun K hK => ?_)
          go_wp2_with fail
          refine (HFR.out _ HUW.out.tk).mono ?_
          rintro e' wb ⟨vf, rfl, hof, hb⟩
          have HF := Lib.hid (hof.lower HBW.out.size)
          replace HAW := Lib.hid (HAW.out.below hb)
          replace HBW := Lib.hid (HBW.out.trans (hb.mono HBW.out.size))
          clear hof hb
          have HFL := Lib.hid (fun g kk cp (e : vf = .slice (some ⟨g, 0, none⟩) kk cp) => (HF.out.blk e).2)
          go_wp2_with fail
          refine ⟨HAW.out, ?_⟩
          refine Plan.tree_run ?_
          refine Plan.plan_of_effect rfl (fun K hK => ?_)
          go_wp2_with fail
          have hbx : Below wb.heap.size wb (wb.alloc (.cells (srcC Trk.black).toArray 51)) := below_box _ _
          have HZ := Lib.hid (SVar.box wb Trk.black 51)
          obtain ⟨wc1, hwn⟩ : ∃ q, q = wb.alloc (.cells (srcC Trk.black).toArray 51) := ⟨_, rfl⟩
          have hwn' := hwn
          simp only [srcC, Trk.black, show (ByteArray.empty : ByteArray) = ⟨#[]⟩ from rfl] at hwn'
          rw [← hwn'] 
          clear hwn'
          rw [← hwn] at hbx HZ
          obtain ⟨g18, hg18⟩ : ∃ q, q = wb.heap.size := ⟨_, rfl⟩
          rw [← hg18] at HZ ⊢
          have HG18 := Lib.hid hg18
          clear hwn hg18
          have HGE := Lib.hid (show w9.heap.size ≤ g18 by rw [HG18.out]; exact HBW.out.size)
          have HNB := Lib.hid (show b ≠ g18 by have := HAW.out.lt; have := HG18.out; omega)
          have HNF := Lib.hid (fun g kk cp (e : vf = .slice (some ⟨g, 0, none⟩) kk cp) => (show g ≠ g18 by have := HFL.out g kk cp e; have := HG18.out; omega))
          replace HF := Lib.hid (HF.out.below hbx)
          replace HAW := Lib.hid (HAW.out.below hbx)
          replace HBW := Lib.hid (HBW.out.trans (hbx.mono HBW.out.size))
          clear hbx HFL
          refine ⟨HAW.out, ?_⟩
          refine' Plan.plan_seg _ [11] ([12].map (·, false)) (by kernel_rfl) (by kernel_rfl) rfl (by exact HAW.out) (fun wx hS => ?_) ?_
          rotate_left
          · clear hS
            go_light
            iterate 1 (apply Plan.seg_pick; rfl; intro K hK; go_wp)
            exact Plan.seg_nil
          refine Plan.plan_of_effect rfl (fun K hK => ?_)
          refine wpl_storeS x.a none rfl HZ.out.there rfl rfl rfl rfl ?_
          have hput := HZ.out.put x.a
          have hoth : ∀ b2, b2 ≠ g18 → (wc1.setCells g18 0 (srcC x.a)).heap[b2]? = wc1.heap[b2]? := fun b2 hn => setCells_other g18 b2 hn _ _ _
          have hbel := below_setCells g18 HGE.out (srcC x.a) 0 _ HBW.out
          have hca : CA (wc1.setCells g18 0 (srcC x.a)) b (o + c * 22) x := HAW.out.same (hoth b HNB.out)
          have hot : OT (wc1.setCells g18 0 (srcC x.a)) w9.heap.size vf [Trk.fr U (s + (i : Int))] := HF.out.blocks (fun g kk cap e => hoth g (HNF.out g kk cap e))
          obtain ⟨wd1, hwn⟩ : ∃ q, q = wc1.setCells g18 0 (srcC x.a) := ⟨_, rfl⟩
          rw [← hwn] at hput hbel hca hot ⊢
          have HP := Lib.hid (And.intro hput (And.intro hbel (And.intro hca hot)))
          clear hwn hput hbel hca hot hoth
          go_wp2_with fail
          refine ⟨HP.out.2.2.1, ?_⟩
          refine Plan.plan_nil ?_
          refine Plan.tree_leaf ?_
          refine h2' _ _ (Met.intro (h1' _ _ ?_))
          (repeat apply Exists.intro)
          exact ⟨⟨g18, rfl, HP.out.2.2.2, HP.out.1, HGE.out, HNF.out, HP.out.2.1⟩, rfl⟩
        · refine Plan.op_of_list rfl (fun K hK => ?_)
          go_wp2_with fail
          have hbx : Below wa.heap.size wa (wa.alloc (.cells (srcC Trk.black).toArray 51)) := below_box _ _
          have HZ := Lib.hid (SVar.box wa Trk.black 51)
          obtain ⟨wb, hwn⟩ : ∃ q, q = wa.alloc (.cells (srcC Trk.black).toArray 51) := ⟨_, rfl⟩
          have hwn' := hwn
          simp only [srcC, Trk.black, show (ByteArray.empty : ByteArray) = ⟨#[]⟩ from rfl] at hwn'
          rw [← hwn'] 
          clear hwn'
          rw [← hwn] at hbx HZ
          obtain ⟨g18, hg18⟩ : ∃ q, q = wa.heap.size := ⟨_, rfl⟩
          rw [← hg18] at HZ ⊢
          have HG18 := Lib.hid hg18
          clear hwn hg18
          have HGE := Lib.hid (show w9.heap.size ≤ g18 by rw [HG18.out]; exact HBW.out.size)
          have HNB := Lib.hid (show b ≠ g18 by have := HAW.out.lt; have := HG18.out; omega)
          replace HUW := Lib.hid (HUW.out.below hbx)
          replace HAW := Lib.hid (HAW.out.below hbx)
          replace HBW := Lib.hid (HBW.out.trans (hbx.mono HBW.out.size))
          clear hbx
          refine ⟨HAW.out, ?_⟩
          refine Plan.tree_run ?_
          refine Plan.plan_of_effect rfl (fun K hK => ?_)
          go_wp2_with fail
          refine (HFR.out _ HUW.out.tk).mono ?_
          rintro e' wc1 ⟨vf, rfl, hof, hb⟩
          have HNF := Lib.hid (fun g kk cp (e : vf = .slice (some ⟨g, 0, none⟩) kk cp) => (show g ≠ g18 by have h1 := (hof.blk e).1; have h2 := HZ.out.lt; omega))
          have HF := Lib.hid (hof.lower HBW.out.size)
          replace HZ := Lib.hid (HZ.out.below hb)
          replace HAW := Lib.hid (HAW.out.below hb)
          replace HBW := Lib.hid (HBW.out.trans (hb.mono HBW.out.size))
          clear hof hb
          go_wp2_with fail
          refine ⟨HAW.out, ?_⟩
          refine' Plan.plan_seg _ [11] ([12].map (·, false)) (by kernel_rfl) (by kernel_rfl) rfl (by exact HAW.out) (fun wx hS => ?_) ?_
          rotate_left
          · clear hS
            go_light
            iterate 1 (apply Plan.seg_pick; rfl; intro K hK; go_wp)
            exact Plan.seg_nil
          refine Plan.plan_of_effect rfl (fun K hK => ?_)
          refine wpl_storeS x.a none rfl HZ.out.there rfl rfl rfl rfl ?_
          have hput := HZ.out.put x.a
          have hoth : ∀ b2, b2 ≠ g18 → (wc1.setCells g18 0 (srcC x.a)).heap[b2]? = wc1.heap[b2]? := fun b2 hn => setCells_other g18 b2 hn _ _ _
          have hbel := below_setCells g18 HGE.out (srcC x.a) 0 _ HBW.out
          have hca : CA (wc1.setCells g18 0 (srcC x.a)) b (o + c * 22) x := HAW.out.same (hoth b HNB.out)
          have hot : OT (wc1.setCells g18 0 (srcC x.a)) w9.heap.size vf [Trk.fr U (s + (i : Int))] := HF.out.blocks (fun g kk cap e => hoth g (HNF.out g kk cap e))
          obtain ⟨wd1, hwn⟩ : ∃ q, q = wc1.setCells g18 0 (srcC x.a) := ⟨_, rfl⟩
          rw [← hwn] at hput hbel hca hot ⊢
          have HP := Lib.hid (And.intro hput (And.intro hbel (And.intro hca hot)))
          clear hwn hput hbel hca hot hoth
          go_wp2_with fail
          refine ⟨HP.out.2.2.1, ?_⟩
          refine Plan.plan_nil ?_
          refine Plan.tree_leaf ?_
          refine h2' _ _ (Met.intro (h1' _ _ ?_))
          (repeat apply Exists.intro)
          exact ⟨⟨g18, rfl, HP.out.2.2.2, HP.out.1, HGE.out, HNF.out, HP.out.2.1⟩, rfl⟩
      obtain ⟨g18, rfl, hvf, hsv, hge, hnf, hb⟩ := hcut
      obtain ⟨gf, capf, rfl, _, hcf, hcs⟩ := hvf.first (by simp)
      have HF := Lib.hid (hcs 0 _ rfl)
      have HNF := Lib.hid (hnf gf _ _ rfl)
      have HS := Lib.hid hsv
      have HGE := Lib.hid hge
      replace HBW := Lib.hid hb
      have hk0 := (hb.cell (block_lt_of_cell HK.out.1)).trans HK.out.1
      have hk1 := (hb.cell (block_lt_of_cell HK.out.2)).trans HK.out.2
      obtain ⟨z0, z1, z2, z3, z4, z5, z6⟩ := hsv.at0
      have f4 := hsv.f 4
      have f5 := hsv.f 5
      simp only [List.length_cons, List.length_nil, Nat.zero_add, Nat.zero_mul] at HF hcf ⊢
      clear hnf hsv hge hb hvf hcs HFR HUW HAW x0
      go_upto_region 19 with fail
      obtain ⟨q0, hq0⟩ : ∃ q, q = ({ x.a with sn := sn, sd := sd } : Trk.Src) := ⟨_, rfl⟩
      obtain ⟨wd, hwd⟩ : ∃ q, q = (wc.setCell ⟨g18, 4, none⟩ (.int .i64 sn)).setCell ⟨g18, 5, none⟩ (.int .i64 sd) := ⟨_, rfl⟩
      have hs2 : SVar wd g18 q0 := by rw [hwd, hq0]; exact HS.out.setSp sn sd
      have hb2 : Below w9.heap.size w9 wd := by rw [hwd]; exact (HBW.out.setCell (p := ⟨g18, 4, none⟩) HGE.out _).setCell (p := ⟨g18, 5, none⟩) HGE.out _
      have hf2 : CA wd gf 0 (Trk.fr U (s + (i : Int))) := by
        refine HF.out.same ?_
        rw [hwd]
        simp [World.setCell, Array.getElem?_modify, HNF.out.symm]
      rw [← hwd]
      replace HS := Lib.hid hs2
      replace HBW := Lib.hid hb2
      replace HF := Lib.hid hf2
      have HQ0 := Lib.hid hq0
      have HMV := Lib.hid (fun w => rmoved_any q0 (i : Int) w (by rw [hq0]; exact (ret_src HM.out HX.out HBL.out HSP.out).1) (by rw [hq0]; exact (ret_src HM.out HX.out HBL.out HSP.out).2.1) (by rw [hq0]; exact (ret_src HM.out HX.out HBL.out HSP.out).2.2) (by omega))
      clear hs2 hb2 hf2 hwd hq0 z0 z1 z2 z3 z4 z5 z6 f4 f5 hk0 hk1
      apply wp_region_lit
      refine wpl_loadS _ rfl HS.out.c rfl rfl rfl ?_
      iterate 5 go_step
      refine (HMV.out _).mono ?_
      rintro e' we ⟨rfl, hb⟩
      replace HS := Lib.hid (HS.out.below hb)
      replace HF := Lib.hid (HF.out.below hb)
      replace HBW := Lib.hid (HBW.out.trans (hb.mono HBW.out.size))
      clear hb HMV
      try dsimp only
      iterate 10 go_step
      obtain ⟨q, hq⟩ : ∃ q, q = Trk.moved q0 (i : Int) := ⟨_, rfl⟩
      rw [← hq]
      have hfa : (Trk.fr U (s + (i : Int))).a = q := by
        rw [HRIP.out.own i (by omega) hlt, hq, HQ0.out, HY.out]
        rfl
      refine wpl_storeS q none rfl HS.out.there rfl rfl rfl rfl ?_
      have hput := HS.out.put q
      have hbel := below_setCells g18 HGE.out (srcC q) 0 _ HBW.out
      have hca : CA (we.setCells g18 0 (srcC q)) gf 0 (Trk.fr U (s + (i : Int))) := HF.out.same (setCells_other g18 gf HNF.out _ _ _)
      obtain ⟨wf, hwf⟩ : ∃ r, r = we.setCells g18 0 (srcC q) := ⟨_, rfl⟩
      rw [← hwf] at hput hbel hca ⊢
      replace HBW := Lib.hid hbel
      obtain ⟨y0, y1, y2, y3, y4, y5, y6⟩ := hput.at0
      obtain ⟨-, -, z0, z1, z2, z3, z4, z5, z6, -⟩ := hca.at0
      rw [hfa] at z0 z1 z2 z3 z4 z5 z6
      have HQQ := run_eq_src q q wf
      rw [decide_eq_true rfl] at HQQ
      clear hwf hput hbel hca hfa hq HS HF HQ0
      simp only [Act.put, List.setIfInBounds_toArray, List.set_cons_succ, List.set_cons_zero]
      go_upto_region 20 with fail
      go_quiet (fail)
      clear HQQ y0 y1 y2 y3 y4 y5 y6 z0 z1 z2 z3 z4 z5 z6
      go_wp2_with fail
      go_roundw
      case rel => exact ⟨i + 1, by omega, by simp, below_drewN HBW.out _⟩
      case measure =>
        show x.len.toNat - (intOf (.int .i64 ((i : Int) + 1))).toNat < x.len.toNat - (intOf (.int .i64 (i : Int))).toNat
        simp [intOf]
        omega
    · have hlt' : decide ((i : Int) < x.len) = false := decide_eq_false hlt
      replace HB := Lib.hid (HB.out.trans (HBW.out.mono HB.out.size))
      go_wp2_with fail
      refine (awake_any _).mono ?_
      rintro e w8 ⟨rfl, hb⟩
      replace HB := Lib.hid (HB.out.trans (hb.mono HB.out.size))
      clear hb
      go_wp2_with fail
      go_ret
      exact ⟨rfl, HB.out⟩
end Go.Proofs.Ytnmkcpgcdjhdjaa
