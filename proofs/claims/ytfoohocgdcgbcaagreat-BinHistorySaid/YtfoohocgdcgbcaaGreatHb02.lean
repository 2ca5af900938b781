/- Texts of this claim joined: A B C D E F. -/
import Derived.Test.YtfoohocgdcgbcaaGreatRows
import Derived.WalkKit
import Derived.WalkSpells
import Derived.WalkLawsBesides
import Derived.Deep.LoopGhost
import Derived.Deep.Cut
import Derived.Deep.CutRange
import Derived.Deep.Light
import Derived.Lib.Hide
import Derived.BigRegion
import Derived.BigQuiet
import Derived.Deep.RegionHeld3
import Derived.Handy
import Derived.Defers
import Derived.Recover
import Derived.Lib.Mul64
import Derived.Shelf.Bits.Mul64
import Derived.Test.YtfoohocgdcgbcaaGreatHb01
set_option linter.unusedVariables false
set_option linter.unusedSimpArgs false
namespace Go.Proofs.YtfoohocgdcgbcaaGreat
open Go.RowKit
theorem below_box (w : World) (o : Obj) : Below w.heap.size w (w.alloc o) := (Below.refl _ _).alloc (Nat.le_refl _) _
theorem ret_bool {a b : Bool} (h : a = b) : Ending.returned (.bool a) = Ending.returned (.bool b) := by rw [h]
theorem ret_int {k : IntKind} {a b : Int} (h : a = b) : Ending.returned (.int k a) = Ending.returned (.int k b) := by rw [h]
theorem below_drewN {B : Nat} {w w' : World} (h : Below B w w') (m : Nat) : Below B w (w'.drewN m) := by
 induction m with
 | zero => exact h
 | succ m ih => exact ⟨h.os, h.tape, h.output, h.size, fun k hk => h.block k hk⟩
theorem gcd_step {a b : Nat} (hb : b ≠ 0) : Nat.gcd b (a % b) = Nat.gcd a b := by
 rw [Nat.gcd_comm a b, Nat.gcd_rec b a, Nat.gcd_comm]
set_option maxHeartbeats 2000000 in
theorem gcd_any (x y : Nat) (w : World) (hx : x < 18446744073709551616) (hy : y < 18446744073709551616) :
  Calls Tryz.prog 155 #[.int .u64 (x : Int), .int .u64 (y : Int)] w fun e w' => e = .returned (.int .u64 ((Nat.gcd x y : Nat) : Int)) ∧ ∃ m, w' = w.drewN m := by
 obtain ⟨g, hg⟩ : ∃ g, g = Nat.gcd x y := ⟨_, rfl⟩
 rw [← hg]
 replace hg := Lib.hid hg
 go_enter Tryz.func155, Tryz.ntmps155
 go_wp2
 go_loopw [0, 1] (fun i j wr => ∃ a b : Nat, i = .int .u64 (a : Int) ∧ j = .int .u64 (b : Int) ∧ a < 18446744073709551616 ∧ b < 18446744073709551616 ∧ Hid (g = Nat.gcd a b) ∧ ∃ m, wr = w.drewN m) (fun i j _ => (intOf j).toNat)
 case atStart => exact ⟨x, y, rfl, rfl, hx, hy, hg, 0, rfl⟩
 case round =>
  obtain ⟨a, b, rfl, rfl, ha, hb, hG, m, rfl⟩ := hrel
  by_cases h0 : b = 0
  ·subst h0
   go_wp2
   go_ret
   exact ⟨by rw [hG.out]; simp, m, rfl⟩
  ·have e1 : ¬ (b : Int) = 0 := by omega
   have hm := Nat.mod_lt a (Nat.pos_of_ne_zero h0)
   go_wp2
   go_quiet (fail)
   go_wp2
   go_round
   case rel => exact ⟨b, a % b, rfl, by simp, hb, by omega, Lib.hid (by rw [hG.out, gcd_step h0]), m + _, World.drewN_drewN _ _ _⟩
   case measure => simp [intOf]; omega
set_option maxHeartbeats 2000000 in
theorem magnitude_any (x : Int) (w : World) (h0 : -9223372036854775808 ≤ x) (h1 : x ≤ 9223372036854775807) :
  Calls Tryz.prog 156 #[.int .i64 x] w fun e w' => e = .returned (.int .u64 (x.natAbs : Int)) ∧ w = w' := by
 by_cases h : x < 0
 ·go_enter Tryz.func156, Tryz.ntmps156
  go_wp2
  go_ret
  exact ⟨ret_int (by simp only [IntKind.wrap_u64]; omega), rfl⟩
 ·go_enter Tryz.func156, Tryz.ntmps156
  go_wp2
  go_ret
  exact ⟨ret_int (by first | omega | (simp only [IntKind.wrap_u64]; omega)), rfl⟩
def validR (n d : Int) : Bool := decide (1 ≤ d ∧ -9223372036854775808 < n) && (n.natAbs.gcd d.toNat == 1)
theorem validR_yes {n d : Int} (h : 1 ≤ d) (k : -9223372036854775808 < n) : validR n d = (n.natAbs.gcd d.toNat == 1) := by
 unfold validR; rw [decide_eq_true ⟨h, k⟩, Bool.true_and]
theorem validR_no {n d : Int} (h : ¬ (1 ≤ d ∧ -9223372036854775808 < n)) : validR n d = false := by
 unfold validR; rw [decide_eq_false h, Bool.false_and]
set_option maxHeartbeats 2000000 in
theorem valid_any (n d : Int) (w : World) (n0 : -9223372036854775808 ≤ n) (n1 : n ≤ 9223372036854775807) (d0 : -9223372036854775808 ≤ d) (d1 : d ≤ 9223372036854775807) :
  Calls Tryz.prog 121 #[.agg #[.int .i64 n, .int .i64 d]] w fun e w' => e = .returned (.bool (validR n d)) ∧ Below w.heap.size w w' := by
 by_cases h1 : 1 ≤ d
 ·have e1 : decide ((1 : Int) ≤ d) = true := by simpa using h1
  by_cases h2 : -9223372036854775808 < n
  ·have e2 : decide ((-9223372036854775808 : Int) < n) = true := by simpa using h2
   have HO := Lib.hid (validR_yes h1 h2)
   obtain ⟨y, rfl⟩ : ∃ y : Nat, d = y := ⟨d.toNat, by omega⟩
   obtain ⟨m, hm⟩ : ∃ m : Nat, m = n.natAbs := ⟨_, rfl⟩
   have HM := Lib.hid hm
   have hm1 : m < 9223372036854775808 := by omega
   have hy : y < 9223372036854775808 := by omega
   clear hm
   go_enter Tryz.func121, Tryz.ntmps121
   go_wp2
   go_quiet (first
    | (go_at_call 156; exact Calls.quiet_of_same ((magnitude_any n _ n0 n1).mono fun e w' h => ⟨h.1.trans (by rw [← HM.out]), h.2.symm⟩))
    | (go_at_call 155; exact Calls.quiet_of (gcd_any m y _ (by omega) (by omega))))
   go_wp2
   go_ret
   refine ⟨ret_bool ?_, below_drewN (below_box w _) _⟩
   rw [HO.out, ← HM.out, Bool.eq_iff_iff, Int.toNat_natCast]
   simp
   omega
  ·have e2 : decide ((-9223372036854775808 : Int) < n) = false := by simpa using h2
   have HO := Lib.hid (validR_no (n := n) (d := d) (by omega))
   go_enter Tryz.func121, Tryz.ntmps121
   go_wp2
   go_quiet (fail)
   go_wp2
   go_ret
   exact ⟨ret_bool HO.out.symm, below_drewN (below_box w _) _⟩
 ·have e1 : decide ((1 : Int) ≤ d) = false := by simpa using h1
  have HO := Lib.hid (validR_no (n := n) (d := d) (by omega))
  go_enter Tryz.func121, Tryz.ntmps121
  go_wp2
  go_quiet (fail)
  go_wp2
  go_ret
  exact ⟨ret_bool HO.out.symm, below_drewN (below_box w _) _⟩
set_option maxHeartbeats 1000000 in
theorem mul64_any (x y : Nat) (hx : x < 18446744073709551616) (hy : y < 18446744073709551616) (w : World) :
  Calls Tryz.prog 174 #[.int .u64 x, .int .u64 y] w fun e w' => e = .returned (.tuple #[.int .u64 ((x * y / 18446744073709551616 : Nat) : Int), .int .u64 ((x * y % 18446744073709551616 : Nat) : Int)]) ∧ w' = w := by
 obtain ⟨bd, bt, bw, hhi⟩ := Lib.mul64_hi x y hx hy
 have ba := Lib.half_mul_le (a := x / 4294967296) (b := y / 4294967296) (by omega) (by omega)
 have bb := Lib.half_mul_le (a := x / 4294967296) (b := y % 4294967296) (by omega) (by omega)
 have bc := Lib.half_mul_le (a := x % 4294967296) (b := y / 4294967296) (by omega) (by omega)
 have ba' : x / 4294967296 * (y / 4294967296) < 18446744073709551616 := by omega
 have bb' : x / 4294967296 * (y % 4294967296) < 18446744073709551616 := by omega
 have bc' : x % 4294967296 * (y / 4294967296) < 18446744073709551616 := by omega
 have bh1 : x / 4294967296 * (y / 4294967296) + (x / 4294967296 * (y % 4294967296) + x % 4294967296 * (y % 4294967296) / 4294967296) / 4294967296 < 18446744073709551616 := by omega
 have bh : x / 4294967296 * (y / 4294967296) + (x / 4294967296 * (y % 4294967296) + x % 4294967296 * (y % 4294967296) / 4294967296) / 4294967296 + ((x / 4294967296 * (y % 4294967296) + x % 4294967296 * (y % 4294967296) / 4294967296) % 4294967296 + x % 4294967296 * (y / 4294967296)) / 4294967296 < 18446744073709551616 := by omega
 go_enter Tryz.func174, Tryz.ntmps174
 go_wp2
 simp only [Mul64.maskN x hx, Mul64.maskN y hy, Mul64.divN, Mul64.mulN, Mul64.addN, Mul64.wrapN _ bd, Mul64.wrapN _ bb', Mul64.wrapN _ bt, Mul64.maskN _ bt, Mul64.wrapN _ bc', Mul64.wrapN _ bw, Mul64.wrapN _ ba', Mul64.wrapN _ bh1, Mul64.wrapN _ bh, Mul64.wrapM (x * y)]
 rw [hhi]
 go_ret2
 exact ⟨rfl, rfl⟩
theorem run_add64 (x y : Nat) (w : World) : (callFunc 176 #[.int .u64 (x : Int), .int .u64 (y : Int), .int .u64 0]).run Tryz.prog w = .ok (.value (.tuple #[.int .u64 (((x + y) % 18446744073709551616 : Nat) : Int), .int .u64 (((x + y) / 18446744073709551616 : Nat) : Int)])) w := by
 rw [run_callFunc_extern Tryz.func176 (by kernel_rfl) (by kernel_rfl) (by kernel_rfl) (e := (Extern.MathBitsCarry.rows[0]!).2) (by kernel_rfl)]
 have h3 : (Extern.MathBitsCarry.three "Add64" #[.int .u64 (x : Int), .int .u64 (y : Int), .int .u64 0]).run Tryz.prog w = .ok (x, y, 0) w := rfl
 have h4 : ((Extern.MathBitsCarry.rows[0]!).2 #[.int .u64 (x : Int), .int .u64 (y : Int), .int .u64 0]).run Tryz.prog w = .ok (Extern.MathBitsCarry.pair ((x + y + 0) % Extern.MathBitsCarry.m64) ((x + y + 0) / Extern.MathBitsCarry.m64)) w := by
  show (do let p ← Extern.MathBitsCarry.three "Add64" #[.int .u64 (x : Int), .int .u64 (y : Int), .int .u64 0]; pure (Extern.MathBitsCarry.pair ((p.1 + p.2.1 + p.2.2) % Extern.MathBitsCarry.m64) ((p.1 + p.2.1 + p.2.2) / Extern.MathBitsCarry.m64)) : Sem Value).run Tryz.prog w = _
  rw [Sem.run_bind, h3]
  rfl
 rw [h4]
 rfl
theorem run_sub64 (x y : Nat) (h : y ≤ x) (hx : x < 18446744073709551616) (w : World) : (callFunc 177 #[.int .u64 (x : Int), .int .u64 (y : Int), .int .u64 0]).run Tryz.prog w = .ok (.value (.tuple #[.int .u64 ((x - y : Nat) : Int), .int .u64 0])) w := by
 rw [run_callFunc_extern Tryz.func177 (by kernel_rfl) (by kernel_rfl) (by kernel_rfl) (e := (Extern.MathBitsCarry.rows[1]!).2) (by kernel_rfl)]
 have h3 : (Extern.MathBitsCarry.three "Sub64" #[.int .u64 (x : Int), .int .u64 (y : Int), .int .u64 0]).run Tryz.prog w = .ok (x, y, 0) w := rfl
 have h4 : ((Extern.MathBitsCarry.rows[1]!).2 #[.int .u64 (x : Int), .int .u64 (y : Int), .int .u64 0]).run Tryz.prog w = .ok (Extern.MathBitsCarry.pair ((x + Extern.MathBitsCarry.m64 - y - 0) % Extern.MathBitsCarry.m64) (if x < y + 0 then 1 else 0)) w := by
  show (do let p ← Extern.MathBitsCarry.three "Sub64" #[.int .u64 (x : Int), .int .u64 (y : Int), .int .u64 0]; pure (Extern.MathBitsCarry.pair ((p.1 + Extern.MathBitsCarry.m64 - p.2.1 - p.2.2) % Extern.MathBitsCarry.m64) (if p.1 < p.2.1 + p.2.2 then 1 else 0)) : Sem Value).run Tryz.prog w = _
  rw [Sem.run_bind, h3]
  rfl
 rw [h4, if_neg (by omega)]
 have e1 : (x + Extern.MathBitsCarry.m64 - y - 0) % Extern.MathBitsCarry.m64 = x - y := by unfold Extern.MathBitsCarry.m64; omega
 rw [e1]
 rfl
set_option maxHeartbeats 1000000 in
theorem div64_any (x y : Nat) (hx : x < 18446744073709551616) (hy : y < 18446744073709551616) (h0 : 0 < y) (w : World) :
  Calls Tryz.prog 175 #[.int .u64 0, .int .u64 (x : Int), .int .u64 (y : Int)] w fun e w' => e = .returned (.tuple #[.int .u64 ((x / y : Nat) : Int), .int .u64 ((x % y : Nat) : Int)]) ∧ ∃ m, w' = w.drewN m := by
 have e1 : ¬ (y : Int) = 0 := by omega
 have e2 : ((y : Int) == 0) = false := by simp; omega
 have e3 : ¬ (y : Int) ≤ 0 := by omega
 have e4 : decide ((y : Int) ≤ 0) = false := by simp; omega
 have e5 : ¬ y = 0 := by omega
 have e6 : (y == 0) = false := by simp; omega
 go_enter Tryz.func175, Tryz.ntmps175
 go_wp2_with fail
 go_quiet (fail)
 go_wp2
 go_ret2
 refine ⟨?_, _, rfl⟩
 have h1 := Nat.div_le_self x y
 have e7 : IntKind.u64.wrap ((x : Int) / (y : Int)) = (x : Int) / (y : Int) := by rw [IntKind.wrap_u64, ← Int.natCast_ediv]; generalize x / y = q at *; omega
 rw [e7]
 simp
set_option maxHeartbeats 1000000 in
theorem rem64_any (x y : Nat) (hx : x < 18446744073709551616) (hy : y < 18446744073709551616) (h0 : 0 < y) (w : World) :
  Calls Tryz.prog 178 #[.int .u64 0, .int .u64 (x : Int), .int .u64 (y : Int)] w fun e w' => e = .returned (.int .u64 ((x % y : Nat) : Int)) ∧ ∃ m, w' = w.drewN m := by
 have e1 : ¬ (y : Int) = 0 := by omega
 have e3 : (0 : Int) % (y : Int) = 0 := by simp
 go_enter Tryz.func178, Tryz.ntmps178
 go_wp2_with fail
 refine (div64_any x y hx hy h0 _).mono ?_
 rintro e w' ⟨rfl, m, rfl⟩
 go_wp2
 go_ret
 exact ⟨rfl, m, rfl⟩
def wideV (n : Int) : Value := .agg #[.bool (decide (n < 0)), .int .u64 0, .int .u64 (n.natAbs : Int)]
set_option maxHeartbeats 2000000 in
theorem product_any (x y : Int) (w : World) (x0 : -9223372036854775808 ≤ x) (x1 : x ≤ 9223372036854775807) (y0 : -9223372036854775808 ≤ y) (y1 : y ≤ 9223372036854775807) (h : (x * y).natAbs < 9223372036854775808) :
  Calls Tryz.prog 168 #[.int .i64 x, .int .i64 y] w fun e w' => e = .returned (wideV (x * y)) ∧ Below w.heap.size w w' := by
 have hab : x.natAbs * y.natAbs = (x * y).natAbs := (Int.natAbs_mul x y).symm
 have hd : x.natAbs * y.natAbs / 18446744073709551616 = 0 := by omega
 have hm : x.natAbs * y.natAbs % 18446744073709551616 = (x * y).natAbs := by omega
 have HD := Lib.hid hd
 have HM := Lib.hid hm
 obtain ⟨p, hp⟩ : ∃ p, p = (x * y).natAbs := ⟨_, rfl⟩
 have HP := Lib.hid hp
 have hp1 : p < 9223372036854775808 := by omega
 have hneg : decide (x * y < 0) = ((decide (x < 0) != decide (y < 0)) && !(p == 0)) := by
  rcases Int.lt_trichotomy x 0 with a | a | a <;> rcases Int.lt_trichotomy y 0 with b | b | b
  ·have h1 : 0 < x * y := Int.mul_pos_of_neg_of_neg a b
   have h2 : ¬ x * y < 0 := by omega
   simp [a, b, h2]
  ·subst b; simp at hp; simp [hp]
  ·have h1 : x * y < 0 := Int.mul_neg_of_neg_of_pos a b
   have h2 : ¬ y < 0 := by omega
   have h3 : p ≠ 0 := by omega
   simp [a, h2, h1, h3]
  ·subst a; simp at hp; simp [hp]
  ·subst a; simp at hp; simp [hp]
  ·subst a; simp at hp; simp [hp]
  ·have h1 : x * y < 0 := Int.mul_neg_of_pos_of_neg a b
   have h2 : ¬ x < 0 := by omega
   have h3 : p ≠ 0 := by omega
   simp [b, h2, h1, h3]
  ·subst b; simp at hp; simp [hp]
  ·have h1 : 0 < x * y := Int.mul_pos a b
   have h2 : ¬ x * y < 0 := by omega
   have h3 : ¬ x < 0 := by omega
   have h4 : ¬ y < 0 := by omega
   simp [h2, h3, h4]
 have HN := Lib.hid hneg
 have hor : bits BinOp.or IntKind.u64 0 (p : Int) = (p : Int) := by
  have h := bits_or_u64_nat 0 p (by omega) (by omega)
  simpa using h
 clear hab hd hm hp hneg h
 have hb4 : (decide (x < 0) = true ∨ decide (x < 0) = false) ∧ (decide (y < 0) = true ∨ decide (y < 0) = false) := by
  constructor <;> exact (Bool.eq_false_or_eq_true _)
 obtain ⟨hx | hx, hy | hy⟩ := hb4
 all_goals
  go_enter Tryz.func168, Tryz.ntmps168
  go_wp2_with fail
  refine (magnitude_any x _ x0 x1).mono ?_
  rintro e w1 ⟨rfl, rfl⟩
  go_wp2_with fail
  refine (magnitude_any y _ y0 y1).mono ?_
  rintro e w1 ⟨rfl, rfl⟩
  go_wp2_with fail
  refine (mul64_any _ _ (by omega) (by omega) _).mono ?_
  rintro e w1 ⟨rfl, rfl⟩
  rw [HD.out, HM.out, ← HP.out]
  go_wp2_with fail
  refine bodyPost_ret (v := wideV (x * y)) ?_ rfl ⟨rfl, below_box w _⟩
  unfold wideV
  rw [HN.out, ← HP.out, hx, hy]
  simp [results, Tryz.results168, go_sem]
  try (cases hp0 : (p == 0) <;> simp_all)
theorem add_small (m n : Nat) (h : m + n < 18446744073709551616) (w : World) : (callFunc 176 #[.int .u64 (m : Int), .int .u64 (n : Int), .int .u64 0]).run Tryz.prog w = .ok (.value (.tuple #[.int .u64 ((m + n : Nat) : Int), .int .u64 0])) w := by
 rw [run_add64, show (m + n) % 18446744073709551616 = m + n by omega, show (m + n) / 18446744073709551616 = 0 by omega]
 rfl
theorem add_none (w : World) : (callFunc 176 #[.int .u64 0, .int .u64 0, .int .u64 0]).run Tryz.prog w = .ok (.value (.tuple #[.int .u64 0, .int .u64 0])) w := add_small 0 0 (by decide) w
theorem sub_none (w : World) : (callFunc 177 #[.int .u64 0, .int .u64 0, .int .u64 0]).run Tryz.prog w = .ok (.value (.tuple #[.int .u64 0, .int .u64 0])) w := run_sub64 0 0 (by decide) (by decide) w
set_option maxHeartbeats 2000000 in
theorem plus_any (a b : Int) (w : World) (ha : a.natAbs < 4611686018427387904) (hb : b.natAbs < 4611686018427387904) :
  Calls Tryz.prog 171 #[wideV a, wideV b] w fun e w' => e = .returned (wideV (a + b)) ∧ Below w.heap.size w w' := by
 unfold wideV
 obtain ⟨m, hm⟩ : ∃ m, m = a.natAbs := ⟨_, rfl⟩
 obtain ⟨n, hn⟩ : ∃ n, n = b.natAbs := ⟨_, rfl⟩
 obtain ⟨p, hp⟩ : ∃ p, p = (a + b).natAbs := ⟨_, rfl⟩
 rw [← hm] at ha ⊢
 rw [← hn] at hb ⊢
 rw [← hp]
 have hA := add_small m n (by omega)
 have hA0 := add_none
 have hS0 := sub_none
 have hor : bits BinOp.or IntKind.u64 0 (p : Int) = (p : Int) := by
  have h := bits_or_u64_nat 0 p (by omega) (by omega)
  simpa using h
 by_cases h1 : a < 0 <;> by_cases h2 : b < 0
 ·skip
  have e1 : decide (a < 0) = true := by simpa using h1
  have e2 : decide (b < 0) = true := by simpa using h2
  have e3 : decide (a + b < 0) = true := by simp; omega
  have e4 : m + n = p := by omega
  rw [e4] at hA
  rw [e1, e2, e3]
  clear hm hn hp e1 e2 e3 e4
  go_enter Tryz.func171, Tryz.ntmps171
  go_wp2_with fail
  refine bodyPost_ret (v := .agg #[_, .int .u64 0, .int .u64 (p : Int)]) ?_ rfl ⟨rfl, ?_⟩
  ·simp [results, Tryz.results171, go_sem]
  ·go_grown
 ·by_cases h3 : m < n
  ·skip
   have e1 : decide (a < 0) = true := by simpa using h1
   have e2 : decide (b < 0) = false := by simpa using h2
   have hS := run_sub64 n m (by omega) (by omega)
   have e4 : n - m = p := by omega
   rw [e4] at hS
   have e5 : decide ((m : Int) < (n : Int)) = true := by simp; omega
   have e6 : decide (m < n) = true := by simp; omega
   have e3 : decide (a + b < 0) = false := by simp; omega
   rw [e1, e2, e3]
   clear hm hn hp e1 e2 e3 e4
   go_enter Tryz.func171, Tryz.ntmps171
   go_wp2_with fail
   refine bodyPost_ret (v := .agg #[_, .int .u64 0, .int .u64 (p : Int)]) ?_ rfl ⟨rfl, ?_⟩
   ·simp [results, Tryz.results171, go_sem]
   ·go_grown
  ·skip
   have e1 : decide (a < 0) = true := by simpa using h1
   have e2 : decide (b < 0) = false := by simpa using h2
   have hS := run_sub64 m n (by omega) (by omega)
   have e4 : m - n = p := by omega
   rw [e4] at hS
   have e5 : decide ((m : Int) < (n : Int)) = false := by simp; omega
   have e6 : decide (m < n) = false := by simp; omega
   have e3 : decide (a + b < 0) = !(p == 0) := by rw [Bool.eq_iff_iff]; simp; omega
   have e7 : ((p : Int) != 0) = !(p == 0) := by rw [Bool.eq_iff_iff]; simp
   rw [e1, e2, e3]
   clear hm hn hp e1 e2 e3 e4
   go_enter Tryz.func171, Tryz.ntmps171
   go_wp2_with fail
   refine bodyPost_ret (v := .agg #[_, .int .u64 0, .int .u64 (p : Int)]) ?_ rfl ⟨rfl, ?_⟩
   ·simp [results, Tryz.results171, go_sem]
   ·go_grown
 ·by_cases h3 : m < n
  ·skip
   have e1 : decide (a < 0) = false := by simpa using h1
   have e2 : decide (b < 0) = true := by simpa using h2
   have hS := run_sub64 n m (by omega) (by omega)
   have e4 : n - m = p := by omega
   rw [e4] at hS
   have e5 : decide ((m : Int) < (n : Int)) = true := by simp; omega
   have e6 : decide (m < n) = true := by simp; omega
   have e3 : decide (a + b < 0) = true := by simp; omega
   have e7 : ((p : Int) != 0) = true := by simp; omega
   have e8 : (p == 0) = false := by simp; omega
   rw [e1, e2, e3]
   clear hm hn hp e1 e2 e3 e4
   go_enter Tryz.func171, Tryz.ntmps171
   go_wp2_with fail
   refine bodyPost_ret (v := .agg #[_, .int .u64 0, .int .u64 (p : Int)]) ?_ rfl ⟨rfl, ?_⟩
   ·simp [results, Tryz.results171, go_sem]
   ·go_grown
  ·skip
   have e1 : decide (a < 0) = false := by simpa using h1
   have e2 : decide (b < 0) = true := by simpa using h2
   have hS := run_sub64 m n (by omega) (by omega)
   have e4 : m - n = p := by omega
   rw [e4] at hS
   have e5 : decide ((m : Int) < (n : Int)) = false := by simp; omega
   have e6 : decide (m < n) = false := by simp; omega
   have e3 : decide (a + b < 0) = false := by simp; omega
   rw [e1, e2, e3]
   clear hm hn hp e1 e2 e3 e4
   go_enter Tryz.func171, Tryz.ntmps171
   go_wp2_with fail
   refine bodyPost_ret (v := .agg #[_, .int .u64 0, .int .u64 (p : Int)]) ?_ rfl ⟨rfl, ?_⟩
   ·simp [results, Tryz.results171, go_sem]
   ·go_grown
 ·skip
  have e1 : decide (a < 0) = false := by simpa using h1
  have e2 : decide (b < 0) = false := by simpa using h2
  have e3 : decide (a + b < 0) = false := by simp; omega
  have e4 : m + n = p := by omega
  rw [e4] at hA
  rw [e1, e2, e3]
  clear hm hn hp e1 e2 e3 e4
  go_enter Tryz.func171, Tryz.ntmps171
  go_wp2_with fail
  refine bodyPost_ret (v := .agg #[_, .int .u64 0, .int .u64 (p : Int)]) ?_ rfl ⟨rfl, ?_⟩
  ·simp [results, Tryz.results171, go_sem]
  ·go_grown
set_option maxHeartbeats 2000000 in
theorem modulo_any (n : Int) (d : Nat) (w : World) (hn : n.natAbs < 9223372036854775808) (hd : d < 9223372036854775808) (h0 : 0 < d) :
  Calls Tryz.prog 172 #[wideV n, .int .u64 (d : Int)] w fun e w' => e = .returned (.int .u64 ((n.natAbs % d : Nat) : Int)) ∧ Below w.heap.size w w' := by
 unfold wideV
 obtain ⟨m, hm⟩ : ∃ m, m = n.natAbs := ⟨_, rfl⟩
 rw [← hm] at hn ⊢
 clear hm
 go_enter Tryz.func172, Tryz.ntmps172
 go_wp2_with fail
 refine (rem64_any m d (by omega) (by omega) h0 _).mono ?_
 rintro e w' ⟨rfl, k, rfl⟩
 go_wp2_with fail
 go_ret
 exact ⟨rfl, below_drewN (below_box w _) _⟩
set_option maxHeartbeats 2000000 in
theorem divide_any (n : Int) (d : Nat) (w : World) (hn : n.natAbs < 9223372036854775808) (hd : d < 9223372036854775808) (h0 : 0 < d) (hdv : (d : Int) ∣ n) :
  Calls Tryz.prog 169 #[wideV n, .int .u64 (d : Int)] w fun e w' => e = .returned (.tuple #[.int .i64 (n / (d : Int)), .int .u64 0, .bool true]) ∧ Below w.heap.size w w' := by
 unfold wideV
 obtain ⟨k, rfl⟩ := hdv
 have hk : (d : Int) * k / (d : Int) = k := Int.mul_ediv_cancel_left _ (by omega)
 rw [hk]
 have hab : ((d : Int) * k).natAbs = d * k.natAbs := by rw [Int.natAbs_mul]; simp
 rw [hab] at hn ⊢
 obtain ⟨q, hq⟩ : ∃ q, q = k.natAbs := ⟨_, rfl⟩
 rw [← hq] at hn ⊢
 have hqq : d * q / d = q := Nat.mul_div_cancel_left _ h0
 have hqr : d * q % d = 0 := Nat.mul_mod_right _ _
 have hql : q ≤ d * q := Nat.le_mul_of_pos_left _ h0
 have hneg : decide ((d : Int) * k < 0) = decide (k < 0) := by
  rw [Bool.eq_iff_iff]
  simp only [decide_eq_true_eq]
  exact ⟨fun h => Int.not_le.1 fun h' => Int.not_lt.2 (Int.mul_nonneg (show (0 : Int) ≤ (d : Int) by omega) h') h, fun h => Int.mul_neg_of_pos_of_neg (by omega) h⟩
 rw [hneg]
 obtain ⟨m, hm⟩ : ∃ m, m = d * q := ⟨_, rfl⟩
 rw [← hm] at hqq hqr hn hql ⊢
 have HQ := Lib.hid hqq
 have HR := Lib.hid hqr
 have hq1 : q < 9223372036854775808 := by omega
 have t1 : decide ((d : Int) ≤ 0) = false := by simp; omega
 have t2 : ¬ (d : Int) ≤ 0 := by omega
 have t3 : decide ((9223372036854775807 : Int) < (q : Int)) = false := by simp; omega
 have t4 : decide ((9223372036854775808 : Int) < (q : Int)) = false := by simp; omega
 have t5 : ((q : Int) == 9223372036854775808) = false := by simp; omega
 have t6 : ¬ d = 0 := by omega
 by_cases hk0 : k < 0
 ·have e1 : decide (k < 0) = true := by simpa using hk0
  have hv : wrap64 (IntKind.u64.wrap (-(q : Int))) = k := by
   rw [IntKind.wrap_u64]; unfold wrap64; omega
  have HV := Lib.hid hv
  rw [e1]
  clear hk hab hq hqq hqr hql hneg hm e1 hv
  go_enter Tryz.func169, Tryz.ntmps169
  go_wp2_with fail
  refine (div64_any m d (by omega) (by omega) h0 _).mono ?_
  rintro e w' ⟨rfl, j, rfl⟩
  rw [HQ.out, HR.out]
  go_wp2_with fail
  go_ret3
  exact ⟨by rw [HV.out]; rfl, below_drewN (below_box w _) _⟩
 ·have e1 : decide (k < 0) = false := by simpa using hk0
  have hv : (q : Int) = k := by omega
  have HV := Lib.hid hv
  rw [e1]
  clear hk hab hq hqq hqr hql hneg hm e1 hv
  go_enter Tryz.func169, Tryz.ntmps169
  go_wp2_with fail
  refine (div64_any m d (by omega) (by omega) h0 _).mono ?_
  rintro e w' ⟨rfl, j, rfl⟩
  rw [HQ.out, HR.out]
  go_wp2_with fail
  go_ret3
  exact ⟨by rw [HV.out]; rfl, below_drewN (below_box w _) _⟩
set_option maxHeartbeats 2000000 in
theorem fraction_any (num d : Int) (w : World) (h0 : 0 ≤ d) (h1 : d < 9223372036854775808) (hn : -9223372036854775808 < num) :
  Calls Tryz.prog 170 #[.int .i64 num, wideV d] w fun e w' => e = .returned (.tuple #[.agg #[.int .i64 num, .int .i64 d], .int .i64 0]) ∧ Below w.heap.size w w' := by
 have hc : ∀ w : World, Calls Tryz.prog 169 #[.agg #[.bool (decide (d < 0)), .int .u64 0, .int .u64 (d.natAbs : Int)], .int .u64 1] w fun e w' => e = .returned (.tuple #[.int .i64 d, .int .u64 0, .bool true]) ∧ Below w.heap.size w w' := fun w => by
  have h := divide_any d 1 w (by omega) (by decide) (by decide) ⟨d, by simp⟩
  rw [show d / ((1 : Nat) : Int) = d by simp] at h
  exact h
 have e2 : (num == -9223372036854775808) = false := by simp; omega
 have HC := Lib.hid hc
 have HU : Hid (wideV d = .agg #[.bool (decide (d < 0)), .int .u64 0, .int .u64 (d.natAbs : Int)]) := Lib.hid rfl
 rw [HU.out]
 clear hc
 go_enter Tryz.func170, Tryz.ntmps170
 go_wp2_with fail
 obtain ⟨w1, hw1⟩ : ∃ x, x = (w.alloc (.cells #[.bool (decide (d < 0)), .int .u64 0, .int .u64 (d.natAbs : Int)] 208)).alloc (.cells #[.int .i64 0, .int .i64 0] 38) := ⟨_, rfl⟩
 rw [← hw1]
 have hb1 : Below w.heap.size w w1 := by rw [hw1]; go_grown
 have hz1 : w.heap.size + 1 < w1.heap.size := by rw [hw1]; simp
 have hf1 : ∀ o, w1.frozen? ⟨w.heap.size + 1, o, none⟩ = false := fun o => by rw [hw1]; simp [go_sem]
 obtain ⟨g, hg⟩ : ∃ g, g = w.heap.size + 1 := ⟨_, rfl⟩
 rw [← hg] at hz1 hf1 ⊢
 have hk : w1.cell? ⟨g, 0, none⟩ = some (.int .i64 0) ∧ w1.cell? ⟨g, 1, none⟩ = some (.int .i64 0) := by rw [hw1, hg]; constructor <;> simp [go_sem]
 have HB1 := Lib.hid hb1
 have hgw : w.heap.size ≤ g := by omega
 clear hw1 hb1 hg
 refine (HC.out _).mono ?_
 rintro e w2 ⟨rfl, hb⟩
 have hf2 : ∀ o, w2.frozen? ⟨g, o, none⟩ = false := fun o => (hb.frozen (p := ⟨g, o, none⟩) hz1).trans (hf1 o)
 have k0 := (hb.cell (p := ⟨g, 0, none⟩) hz1).trans hk.1
 have k1 := (hb.cell (p := ⟨g, 1, none⟩) hz1).trans hk.2
 have HB := Lib.hid (HB1.out.trans (hb.mono (by omega)))
 clear hb hf1 hk
 go_wp2_with fail
 refine bodyPost_ret (v := .tuple #[.agg #[.int .i64 num, .int .i64 d], .int .i64 0]) (by simp [results, Tryz.results170, go_sem, k0, k1]) rfl ⟨rfl, (HB.out.setCell hgw _).setCell hgw _⟩
structure C2 (w : World) (b : Nat) (c0 c1 : Value) : Prop where
 k0 : w.cell? ⟨b, 0, none⟩ = some c0
 k1 : w.cell? ⟨b, 1, none⟩ = some c1
theorem C2.lt {w : World} {b : Nat} {c0 c1 : Value} (h : C2 w b c0 c1) : b < w.heap.size := block_lt_of_cell h.k0
theorem C2.below {w w' : World} {b : Nat} {c0 c1 : Value} (h : C2 w b c0 c1) (hb : Below w.heap.size w w') : C2 w' b c0 c1 := ⟨(hb.cell h.lt).trans h.k0, (hb.cell h.lt).trans h.k1⟩
structure F2 (w : World) (b : Nat) (c0 c1 : Value) : Prop extends C2 w b c0 c1 where
 fz : ∀ o, w.frozen? ⟨b, o, none⟩ = false
theorem F2.below {w w' : World} {b : Nat} {c0 c1 : Value} (h : F2 w b c0 c1) (hb : Below w.heap.size w w') : F2 w' b c0 c1 := ⟨h.toC2.below hb, fun o => (hb.frozen (p := ⟨b, o, none⟩) h.lt).trans (h.fz o)⟩
structure Three (w w1 : World) (a b g : Nat) (an ad bn bd : Int) : Prop where
 x : C2 w1 a (.int .i64 an) (.int .i64 ad)
 y : C2 w1 b (.int .i64 bn) (.int .i64 bd)
 r : F2 w1 g (.int .i64 0) (.int .i64 0)
 u : Below w.heap.size w w1
 g0 : w.heap.size ≤ g
 ag : a ≠ g
 bg : b ≠ g
theorem C2.set {w : World} {b g o : Nat} {c0 c1 v : Value} (h : C2 w b c0 c1) (hne : b ≠ g) : C2 (w.setCell ⟨g, o, none⟩ v) b c0 c1 := by
 have hne' : ¬ g = b := fun e => hne e.symm
 exact ⟨by simp [go_sem, hne', hne, h.k0], by simp [go_sem, hne', hne, h.k1]⟩
theorem Three.below {w w1 w2 : World} {a b g : Nat} {an ad bn bd : Int} (h : Three w w1 a b g an ad bn bd) (hb : Below w1.heap.size w1 w2) : Three w w2 a b g an ad bn bd :=
 ⟨h.x.below hb, h.y.below hb, h.r.below hb, h.u.trans (hb.mono h.u.size), h.g0, h.ag, h.bg⟩
theorem valid_yes (n d : Int) (w : World) (h0 : 1 ≤ d) (h1 : n.natAbs.gcd d.toNat = 1) (n0 : -9223372036854775808 < n) (n1 : n ≤ 9223372036854775807) (d1 : d ≤ 9223372036854775807) :
  Calls Tryz.prog 121 #[.agg #[.int .i64 n, .int .i64 d]] w fun e w' => e = .returned (.bool true) ∧ Below w.heap.size w w' := by
 have h := valid_any n d w (by omega) n1 (by omega) d1
 rw [validR_yes h0 n0, h1] at h
 exact h
set_option maxRecDepth 100000 in
set_option maxHeartbeats 4000000 in
theorem mul_any (n sn sd : Int) (w : World) (n0 : n.natAbs ≤ 4294967296) (s0 : sn.natAbs ≤ 134217728) (h0 : 1 ≤ sd) (h2 : sd ≤ 4294967296) (h1 : sn.natAbs.gcd sd.toNat = 1) :
  Calls Tryz.prog 151 #[.agg #[.int .i64 n, .int .i64 1], .agg #[.int .i64 sn, .int .i64 sd]] w fun e w' =>
   e = .returned (.tuple #[.agg #[.int .i64 ((n : Rat) * mkRat sn sd.toNat).num, .int .i64 (((n : Rat) * mkRat sn sd.toNat).den : Int)], .int .i64 0]) ∧ Below w.heap.size w w' := by
 obtain ⟨e1, e2⟩ := Trk.mul_num (n := n) h0 h1
 rw [e1, e2]
 clear e1 e2
 obtain ⟨D, rfl⟩ := Int.eq_ofNat_of_zero_le (show 0 ≤ sd by omega)
 rw [Int.toNat_natCast] at h1 ⊢
 obtain ⟨sd, hsd⟩ : ∃ x : Int, x = (D : Int) := ⟨_, rfl⟩
 rw [← hsd] at h0 h2 ⊢
 obtain ⟨g, hg⟩ : ∃ g, g = n.natAbs.gcd D := ⟨_, rfl⟩
 rw [← hg]
 have hg0 : 0 < g := by rw [hg]; exact Nat.gcd_pos_of_pos_right _ (by omega)
 have hgd : (g : Int) ∣ sd := by rw [hg, hsd]; exact Int.natCast_dvd_natCast.2 (Nat.gcd_dvd_right _ _)
 have hgn : (g : Int) ∣ n := by rw [hg]; exact Int.ofNat_dvd_left.2 (Nat.gcd_dvd_left _ _)
 obtain ⟨d', hd'⟩ := hgd
 obtain ⟨n', hn'⟩ := hgn
 have q1 : n / (g : Int) = n' := by rw [hn']; exact Int.mul_ediv_cancel_left _ (by omega)
 have q2 : sd / (g : Int) = d' := by rw [hd']; exact Int.mul_ediv_cancel_left _ (by omega)
 have q3 : n.tdiv (g : Int) = n' := by rw [hn']; exact Int.mul_tdiv_cancel_left _ (by omega)
 have q4 : sd.tdiv (g : Int) = d' := by rw [hd']; exact Int.mul_tdiv_cancel_left _ (by omega)
 rw [q1, q2]
 have hd0 : 0 < d' := by
  rcases Int.lt_or_le 0 d' with h | h
  ·exact h
  ·have := Int.mul_nonpos_of_nonneg_of_nonpos (show (0 : Int) ≤ (g : Int) by omega) h
   omega
 have hd1 : d' ≤ sd := by
  have h3 := Int.mul_le_mul_of_nonneg_right (show (1 : Int) ≤ (g : Int) by omega) (Int.le_of_lt hd0)
  rw [Int.one_mul, ← hd'] at h3
  exact h3
 have hn1 : n'.natAbs ≤ n.natAbs := by
  rw [hn', Int.natAbs_mul]
  exact Nat.le_mul_of_pos_left _ (by simpa using hg0)
 have hgs : g ≤ 4294967296 := by rw [hg]; exact Nat.le_trans (Nat.gcd_le_right _ (by omega)) (by omega)
 have hp : (n' * sn).natAbs < 9223372036854775808 := by
  rw [Int.natAbs_mul]
  exact Nat.lt_of_le_of_lt (Nat.mul_le_mul (Nat.le_trans hn1 n0) s0) (by decide)
 have hgc : ∀ w : World, Calls Tryz.prog 155 #[.int .u64 ((n.natAbs : Nat) : Int), .int .u64 (D : Int)] w fun e w' => e = .returned (.int .u64 (g : Int)) ∧ ∃ m, w' = w.drewN m := fun w => by
  rw [hg]; exact gcd_any _ _ w (by omega) (by omega)
 have hgh : ∀ w : World, Calls Tryz.prog 155 #[.int .u64 ((sn.natAbs : Nat) : Int), .int .u64 1] w fun e w' => e = .returned (.int .u64 1) ∧ ∃ m, w' = w.drewN m := fun w => by
  have h := gcd_any sn.natAbs 1 w (by omega) (by decide)
  rw [Nat.gcd_one_right] at h
  exact h
 have HGC := Lib.hid hgc
 have HGH := Lib.hid hgh
 have HQ := Lib.hid (And.intro q1 (And.intro q2 (And.intro q3 q4)))
 have H1 := Lib.hid (show sn.natAbs.gcd sd.toNat = 1 by rw [hsd, Int.toNat_natCast]; exact h1)
 have hD : (D : Int) ≤ 4294967296 := by omega
 have HSD := Lib.hid hsd
 clear hg hd' hn' q1 q2 q3 q4 h1 hgc hgh
 subst hsd
 clear HSD
 go_enter Tryz.func151, Tryz.ntmps151
 go_upto_region 1 with fail
 obtain ⟨w1, hw1⟩ : ∃ x, x = ((w.alloc (.cells #[.int .i64 n, .int .i64 1] 38)).alloc (.cells #[.int .i64 sn, .int .i64 (D : Int)] 38)).alloc (.cells #[.int .i64 0, .int .i64 0] 38) := ⟨_, rfl⟩
 rw [← hw1]
 have hT : Three w w1 w.heap.size (w.heap.size + 1) (w.heap.size + 1 + 1) n 1 sn (D : Int) := by
  rw [hw1]
  refine ⟨⟨by simp [go_sem], by simp [go_sem]⟩, ⟨by simp [go_sem], by simp [go_sem]⟩, ⟨⟨by simp [go_sem], by simp [go_sem]⟩, fun o => by simp [go_sem]⟩, by go_grown, by omega, by omega, by omega⟩
 obtain ⟨ga, hga⟩ : ∃ g, g = w.heap.size := ⟨_, rfl⟩
 obtain ⟨gb, hgb⟩ : ∃ g, g = w.heap.size + 1 := ⟨_, rfl⟩
 obtain ⟨gr, hgr⟩ : ∃ g, g = w.heap.size + 1 + 1 := ⟨_, rfl⟩
 rw [← hgr, ← hgb, ← hga] at hT ⊢
 have T := Lib.hid hT
 clear hw1 hT hga hgb hgr
 obtain ⟨x0, x1⟩ := T.out.x
 obtain ⟨y0, y1⟩ := T.out.y
 go_wp2_with fail
 refine (valid_yes n 1 w1 (by decide) (by simp) (by omega) (by omega) (by decide)).mono ?_
 rintro e w2 ⟨rfl, hb⟩
 replace T := Lib.hid (T.out.below hb)
 clear x0 x1 y0 y1 hb
 obtain ⟨x0, x1⟩ := T.out.x
 obtain ⟨y0, y1⟩ := T.out.y
 go_wp2_with fail
 refine (valid_yes sn (D : Int) w2 h0 H1.out (by omega) (by omega) (by omega)).mono ?_
 rintro e w3 ⟨rfl, hb⟩
 replace T := Lib.hid (T.out.below hb)
 clear x0 x1 y0 y1 hb
 obtain ⟨x0, x1⟩ := T.out.x
 obtain ⟨y0, y1⟩ := T.out.y
 go_upto_region 3 with fail
 go_quiet (first
  | (go_at_call 156; exact Calls.quiet_of_same ((magnitude_any n _ (by omega) (by omega)).mono fun e w' h => ⟨h.1, h.2.symm⟩))
  | (go_at_call 155; exact Calls.quiet_of (HGC.out _)))
 obtain ⟨w4, hw4⟩ : ∃ x, x = w3.drewN nq := ⟨_, rfl⟩
 rw [← hw4]
 have hb : Below w3.heap.size w3 w4 := by rw [hw4]; exact below_drewN (Below.refl _ _) _
 replace T := Lib.hid (T.out.below hb)
 clear x0 x1 y0 y1 hb hw4
 obtain ⟨x0, x1⟩ := T.out.x
 obtain ⟨y0, y1⟩ := T.out.y
 go_upto_region 4 with fail
 go_quiet (first
  | (go_at_call 156; exact Calls.quiet_of_same ((magnitude_any sn _ (by omega) (by omega)).mono fun e w' h => ⟨h.1, h.2.symm⟩))
  | (go_at_call 155; exact Calls.quiet_of (HGH.out _)))
 obtain ⟨w5, hw5⟩ : ∃ x, x = w4.drewN nq := ⟨_, rfl⟩
 rw [← hw5]
 have hb : Below w4.heap.size w4 w5 := by rw [hw5]; exact below_drewN (Below.refl _ _) _
 replace T := Lib.hid (T.out.below hb)
 clear x0 x1 y0 y1 hb hw5
 obtain ⟨x0, x1⟩ := T.out.x
 obtain ⟨y0, y1⟩ := T.out.y
 go_upto_region 5 with fail
 clear x0 x1 y0 y1
 refine Plan.wp_region_plan (fun w' => C2 w' ga (.int .i64 n) (.int .i64 1) ∧ C2 w' gb (.int .i64 sn) (.int .i64 (D : Int))) (([0, 1, 2, 3, 4, 5, 6, 7].map (·, true)) ++ (([8, 9].map (·, false)) ++ ([10, 11, 12, 13, 14, 15, 16].map (·, true)))) (by kernel_rfl) (by kernel_rfl) (by kernel_rfl) ⟨T.out.x.below (Below.refl _ _).drew, T.out.y.below (Below.refl _ _).drew⟩ ?_
 refine' Plan.plan_seg _ [0, 1, 2, 3, 4, 5, 6, 7] (([8, 9].map (·, false)) ++ ([10, 11, 12, 13, 14, 15, 16].map (·, true))) (by kernel_rfl) (by kernel_rfl) rfl (by exact ⟨T.out.x.below (Below.refl _ _).drew, T.out.y.below (Below.refl _ _).drew⟩) (fun wx hS => ?_) ?_
 rotate_left
 ·have z0 := hS.1.k0
  have z1 := hS.2.k0
  obtain ⟨q1, q2, q3, q4⟩ := HQ.out
  clear hS
  go_light
  iterate 8 (apply Plan.seg_pick; rfl; intro K hK; go_wp)
  exact Plan.seg_nil
 obtain ⟨w6, hw6⟩ : ∃ x, x = w5.drew := ⟨_, rfl⟩
 rw [← hw6]
 have hb : Below w5.heap.size w5 w6 := by rw [hw6]; exact (Below.refl _ _).drew
 replace T := Lib.hid (T.out.below hb)
 clear hb hw6
 refine Plan.plan_of_effect rfl (fun K hK => ?_)
 go_wp2_with fail
 refine (product_any n' sn w6 (by omega) (by omega) (by omega) (by omega) hp).mono ?_
 rintro e w7 ⟨rfl, hb⟩
 replace T := Lib.hid (T.out.below hb)
 clear hb
 go_wp2_with fail
 refine ⟨⟨T.out.x, T.out.y⟩, ?_⟩
 refine Plan.plan_of_effect rfl (fun K hK => ?_)
 go_wp2_with fail
 refine (divide_any (n' * sn) 1 w7 (by omega) (by decide) (by decide) ⟨n' * sn, by simp⟩).mono ?_
 rintro e w8 ⟨rfl, hb⟩
 rw [show n' * sn / ((1 : Nat) : Int) = n' * sn by simp]
 replace T := Lib.hid (T.out.below hb)
 obtain ⟨p, hp'⟩ : ∃ p, p = n' * sn := ⟨_, rfl⟩
 rw [← hp'] at hp ⊢
 have HP := Lib.hid hp'
 clear hb hp'
 go_wp2_with fail
 refine ⟨⟨T.out.x, T.out.y⟩, ?_⟩
 refine' Plan.plan_seg _ [10, 11, 12, 13, 14, 15, 16] [] (by kernel_rfl) (by kernel_rfl) rfl (by exact ⟨T.out.x, T.out.y⟩) (fun wx hS => ?_) ?_
 rotate_left
 ·clear hS
  go_light
  iterate 7 (apply Plan.seg_pick; rfl; intro K hK; go_wp)
  exact Plan.seg_nil
 refine Plan.plan_done ?_
 go_upto_region 8 with fail
 refine Plan.wp_region_plan (fun w' => C2 w' ga (.int .i64 n) (.int .i64 1) ∧ C2 w' gb (.int .i64 sn) (.int .i64 (D : Int))) (([0, 1, 2, 3, 4, 5, 6, 7, 8].map (·, true)) ++ (([9, 10].map (·, false)) ++ (([11, 12].map (·, true)) ++ (([13].map (·, false)) ++ ([14].map (·, true)))))) (by kernel_rfl) (by kernel_rfl) (by kernel_rfl) ⟨T.out.x.below (Below.refl _ _).drew, T.out.y.below (Below.refl _ _).drew⟩ ?_
 refine' Plan.plan_seg _ [0, 1, 2, 3, 4, 5, 6, 7, 8] (([9, 10].map (·, false)) ++ (([11, 12].map (·, true)) ++ (([13].map (·, false)) ++ ([14].map (·, true))))) (by kernel_rfl) (by kernel_rfl) rfl (by exact ⟨T.out.x.below (Below.refl _ _).drew, T.out.y.below (Below.refl _ _).drew⟩) (fun wx hS => ?_) ?_
 rotate_left
 ·have z0 := hS.1.k1
  have z1 := hS.2.k1
  obtain ⟨q1, q2, q3, q4⟩ := HQ.out
  clear hS
  go_light
  iterate 9 (apply Plan.seg_pick; rfl; intro K hK; go_wp)
  exact Plan.seg_nil
 obtain ⟨w9, hw9⟩ : ∃ x, x = w8.drew := ⟨_, rfl⟩
 rw [← hw9]
 have hb : Below w8.heap.size w8 w9 := by rw [hw9]; exact (Below.refl _ _).drew
 replace T := Lib.hid (T.out.below hb)
 clear hb hw9
 refine Plan.plan_of_effect rfl (fun K hK => ?_)
 go_wp2_with fail
 refine (product_any 1 d' w9 (by decide) (by decide) (by omega) (by omega) (by omega)).mono ?_
 rintro e wa ⟨rfl, hb⟩
 rw [show (1 : Int) * d' = d' by omega]
 replace T := Lib.hid (T.out.below hb)
 clear hb
 go_wp2_with fail
 refine ⟨⟨T.out.x, T.out.y⟩, ?_⟩
 refine Plan.plan_of_effect rfl (fun K hK => ?_)
 go_wp2_with fail
 refine (fraction_any p d' wa (by omega) (by omega) (by omega)).mono ?_
 rintro e wb ⟨rfl, hb⟩
 replace T := Lib.hid (T.out.below hb)
 clear hb
 go_wp2_with fail
 refine ⟨⟨T.out.x, T.out.y⟩, ?_⟩
 refine' Plan.plan_seg _ [11, 12] (([13].map (·, false)) ++ ([14].map (·, true))) (by kernel_rfl) (by kernel_rfl) rfl (by exact ⟨T.out.x, T.out.y⟩) (fun wx hS => ?_) ?_
 rotate_left
 ·clear hS
  go_light
  iterate 2 (apply Plan.seg_pick; rfl; intro K hK; go_wp)
  exact Plan.seg_nil
 refine Plan.plan_of_effect rfl (fun K hK => ?_)
 obtain ⟨r0, r1⟩ := T.out.r.toC2
 have rf := T.out.r.fz
 go_wp2_with fail
 refine ⟨⟨(T.out.x.set T.out.ag).set T.out.ag, (T.out.y.set T.out.bg).set T.out.bg⟩, ?_⟩
 refine' Plan.plan_seg _ [14] [] (by kernel_rfl) (by kernel_rfl) rfl (by exact ⟨(T.out.x.set T.out.ag).set T.out.ag, (T.out.y.set T.out.bg).set T.out.bg⟩) (fun wx hS => ?_) ?_
 rotate_left
 ·clear hS
  go_light
  iterate 1 (apply Plan.seg_pick; rfl; intro K hK; go_wp)
  exact Plan.seg_nil
 refine Plan.plan_done ?_
 go_wp2_with fail
 refine bodyPost_ret (v := .tuple #[.agg #[.int .i64 p, .int .i64 d'], .int .i64 0]) (by simp [results, Tryz.results151, go_sem, r0, r1]) rfl ⟨by rw [HP.out], (T.out.u.setCell T.out.g0 _).setCell T.out.g0 _⟩
end Go.Proofs.YtfoohocgdcgbcaaGreat
