/- Texts of this claim joined: MA MB MC MD MF MG HQ HR HS HT HU HV MJ MK. -/
import Derived.Test.YtfoohocgdcgbcaaGreatSy20
set_option linter.unusedVariables false
set_option linter.unusedSimpArgs false
namespace Go.Proofs.YtfoohocgdcgbcaaGreat
open Go.RowKit
theorem gcd_tmod {a b : Int} (h : a ≠ 0) : (b.tmod a).natAbs.gcd a.natAbs = a.natAbs.gcd b.natAbs := by
 rw [Int.natAbs_tmod, Nat.gcd_rec a.natAbs b.natAbs]
theorem tmod_small {a b : Int} (h : a ≠ 0) : (b.tmod a).natAbs < a.natAbs := by
 rw [Int.natAbs_tmod]
 exact Nat.mod_lt _ (by omega)
set_option maxHeartbeats 2000000 in
theorem bdivisor_any (x y : Int) (w : World) (x0 : -4611686018427387904 ≤ x) (x1 : x ≤ 4611686018427387904) (y0 : -4611686018427387904 ≤ y) (y1 : y ≤ 4611686018427387904) :
  Calls Tryz.prog 179 #[.int .i64 x, .int .i64 y] w fun e w' => e = .returned (.int .i64 ((x.natAbs.gcd y.natAbs : Nat) : Int)) ∧ ∃ m, w' = w.drewN m := by
 obtain ⟨g, hg⟩ : ∃ g, g = x.natAbs.gcd y.natAbs := ⟨_, rfl⟩
 rw [← hg]
 replace hg := Lib.hid hg
 go_enter Tryz.func179, Tryz.ntmps179
 go_wp2
 go_loopw [0, 1] (fun i j wr => ∃ a b : Int, i = .int .i64 a ∧ j = .int .i64 b ∧ (-4611686018427387904 ≤ a ∧ a ≤ 4611686018427387904) ∧ (-4611686018427387904 ≤ b ∧ b ≤ 4611686018427387904) ∧ Hid (g = a.natAbs.gcd b.natAbs) ∧ ∃ m, wr = w.drewN m) (fun i j _ => (intOf i).natAbs)
 case atStart => exact ⟨x, y, rfl, rfl, ⟨x0, x1⟩, ⟨y0, y1⟩, hg, 0, rfl⟩
 case round =>
  obtain ⟨a, b, rfl, rfl, ⟨a0, a1⟩, ⟨b0, b1⟩, hG, m, rfl⟩ := hrel
  by_cases h0 : a = 0
  ·subst h0
   go_wp2
   all_goals
    go_ret
    refine ⟨ret_int ?_, m, rfl⟩
    rw [hG.out]
    simp only [Int.natAbs_zero, Nat.gcd_zero_left]
    omega
  ·have hm := tmod_small (b := b) h0
   have hG2 := Lib.hid (show g = (b.tmod a).natAbs.gcd a.natAbs by rw [hG.out, gcd_tmod h0])
   go_wp2
   go_roundw
   case rel => exact ⟨b.tmod a, a, rfl, rfl, ⟨by omega, by omega⟩, ⟨a0, a1⟩, hG2, m, rfl⟩
   case measure => exact hm
theorem results_rat {fn : Func} {tmps : Array Value} {w : World} {t : Tmp} {g : Nat} {n d : Int} (hr : fn.results = #[.cell t 38]) (ht : tmps.getD t undef = .pointer (some ⟨g, 0, none⟩)) (h0 : w.cell? ⟨g, 0, none⟩ = some (.int .i64 n)) (h1 : w.cell? ⟨g, 1, none⟩ = some (.int .i64 d)) :
  (results fn tmps).run Tryz.prog w = .ok (.agg #[.int .i64 n, .int .i64 d]) w := by
 have hc : w.rangeAt g 0 [.int .i64 n, .int .i64 d] := by
  intro j u hj
  have hl : j < 2 := (List.getElem?_eq_some_iff.1 hj).1
  rcases (show j = 0 ∨ j = 1 by omega) with rfl | rfl
  ·simp only [List.getElem?_cons_zero, Option.some.injEq] at hj
   rw [← hj]; exact h0
  ·simp only [List.getElem?_cons_succ, List.getElem?_cons_zero, Option.some.injEq] at hj
   rw [← hj]; exact h1
 have h := run_loadVar_mid (P := Tryz.prog) w g 0 38 [.int .i64 n, .int .i64 d] _ hc Tryz.underlying38 rfl (by kernel_rfl)
 unfold results
 rw [hr]
 have ht2 : tmps[t]?.getD undef = .pointer (some ⟨g, 0, none⟩) := by rw [← Array.getD_eq_getD_getElem?]; exact ht
 simp [ht2, asAddr, h]
set_option maxRecDepth 100000 in
set_option maxHeartbeats 4000000 in
theorem pos_core (kd : Int) (nm : ByteArray) (an ad sn sd : Int) (sm : Bool) (k g a d base num t1 t2 t3 c : Int) (w : World) (hk : (kd == 0) = false)
  (hg : g = ((ad.natAbs.gcd sd.natAbs : Nat) : Int)) (hc : c = ((num.natAbs.gcd base.natAbs : Nat) : Int)) (g1 : 1 ≤ g) (c1 : 1 ≤ c)
  (a1 : 1 ≤ ad) (a2 : ad ≤ 65536) (s1 : 1 ≤ sd) (s2 : sd ≤ 65536) (b1 : 1 ≤ base) (b2 : base ≤ 65536)
  (q1 : ad.tdiv g = a) (p1 : a * sd = base) (q2 : base.tdiv ad = d) (p2 : an * d = t1) (p3 : k * sn = t2) (q3 : base.tdiv sd = a) (p4 : t2 * a = t3) (p5 : t1 + t3 = num)
  (a3 : 0 ≤ a) (a4 : a ≤ 65536) (d3 : 0 ≤ d) (d4 : d ≤ 65536) (x1 : -1152921504606846976 ≤ num.tdiv c) (x2 : num.tdiv c ≤ 1152921504606846976) (y1 : 0 ≤ base.tdiv c) (y2 : base.tdiv c ≤ 65536) (m1 : -1152921504606846976 ≤ t1 ∧ t1 ≤ 1152921504606846976) (m2 : -1152921504606846976 ≤ t2 ∧ t2 ≤ 1152921504606846976) (m3 : -1152921504606846976 ≤ t3 ∧ t3 ≤ 1152921504606846976) :
  Calls Tryz.prog 173 #[.agg #[.int .i64 kd, .string nm, .int .i64 an, .int .i64 ad, .int .i64 sn, .int .i64 sd, .bool sm], .int .i64 k] w fun e w' => e = .returned (.agg #[.int .i64 (num.tdiv c), .int .i64 (base.tdiv c)]) ∧ Below w.heap.size w w' := by
 have D1 := Lib.hid (fun w => hg ▸ bdivisor_any ad sd w (by omega) (by omega) (by omega) (by omega))
 have D2 := Lib.hid (fun w => hc ▸ bdivisor_any num base w (by omega) (by omega) (by omega) (by omega))
 clear hg hc
 go_enter Tryz.func173, Tryz.ntmps173
 go_upto_region 1 with fail
 obtain ⟨w1, hw1⟩ : ∃ z, z = (w.alloc (.cells #[.int .i64 kd, .string nm, .int .i64 an, .int .i64 ad, .int .i64 sn, .int .i64 sd, .bool sm] 46)).alloc (.cells #[.int .i64 0, .int .i64 0] 38) := ⟨_, rfl⟩
 have hb1 : Below w.heap.size w w1 := by rw [hw1]; go_grown
 have u0 : w1.cell? ⟨w.heap.size, 0, none⟩ = some (.int .i64 kd) := by rw [hw1]; simp [go_sem]
 have u2 : w1.cell? ⟨w.heap.size, 2, none⟩ = some (.int .i64 an) := by rw [hw1]; simp [go_sem]
 have u3 : w1.cell? ⟨w.heap.size, 3, none⟩ = some (.int .i64 ad) := by rw [hw1]; simp [go_sem]
 have u4 : w1.cell? ⟨w.heap.size, 4, none⟩ = some (.int .i64 sn) := by rw [hw1]; simp [go_sem]
 have u5 : w1.cell? ⟨w.heap.size, 5, none⟩ = some (.int .i64 sd) := by rw [hw1]; simp [go_sem]
 have v0 : w1.cell? ⟨w.heap.size + 1, 0, none⟩ = some (.int .i64 0) := by rw [hw1]; simp [go_sem]
 have v1 : w1.cell? ⟨w.heap.size + 1, 1, none⟩ = some (.int .i64 0) := by rw [hw1]; simp [go_sem]
 have z0 : w1.frozen? ⟨w.heap.size + 1, 0, none⟩ = false := by rw [hw1]; simp [go_sem]
 have z1 : w1.frozen? ⟨w.heap.size + 1, 1, none⟩ = false := by rw [hw1]; simp [go_sem]
 rw [← hw1]
 have HB := Lib.hid hb1
 obtain ⟨p, hp⟩ : ∃ p, p = w.heap.size := ⟨_, rfl⟩
 obtain ⟨r, hr⟩ : ∃ r, r = w.heap.size + 1 := ⟨_, rfl⟩
 rw [← hr] at v0 v1 z0 z1 ⊢
 rw [← hp] at u0 u2 u3 u4 u5 ⊢
 have HR := Lib.hid (show w.heap.size ≤ r by omega)
 clear hw1 hb1 hp hr
 go_wp2_with fail
 go_quiet (first | (go_at_call 179; refine Calls.quiet_of (D1.out _)))
 have e1 : wrap64 a = a := by simp only [wrap64]; omega
 go_upto_region 4 with fail
 go_quiet (fail)
 go_wp2_with fail
 refine (D2.out _).mono ?_
 rintro e w2 ⟨rfl, m, rfl⟩
 go_upto_region 6 with fail
 go_region
 go_wp2_with fail
 refine bodyPost_ret (results_rat (g := r) Tryz.results173 rfl (by simp [go_sem, v0, z0]) (by simp [go_sem, v1, z1])) rfl ⟨rfl, ?_⟩
 exact ((below_drewN HB.out _).setCell (p := ⟨r, 0, none⟩) HR.out _).setCell (p := ⟨r, 1, none⟩) HR.out _
structure PosB (s : Trk.Src) (k : Int) : Prop where
 a : s.ad ≤ 65536
 d : s.sd ≤ 65536
 b : Trk.baseN s ≤ 65536
 n0 : -(1099511627776 * s.ad) ≤ s.an
 n1 : s.an ≤ 1099511627776 * s.ad
 v0 : -(1024 * s.sd) ≤ s.sn
 v1 : s.sn ≤ 1024 * s.sd
 k0 : -4294967296 ≤ k
 k1 : k ≤ 4294967296
theorem abs_mul {x y X Y : Int} (h0 : -X ≤ x) (h1 : x ≤ X) (k0 : -Y ≤ y) (k1 : y ≤ Y) : -(X * Y) ≤ x * y ∧ x * y ≤ X * Y := by
 have hx : x.natAbs ≤ X.natAbs := by omega
 have hy : y.natAbs ≤ Y.natAbs := by omega
 have h := Nat.mul_le_mul hx hy
 rw [← Int.natAbs_mul, ← Int.natAbs_mul] at h
 have hX : 0 ≤ X := by omega
 have hY : 0 ≤ Y := by omega
 have hp := Int.mul_nonneg hX hY
 omega
theorem position_good (s : Trk.Src) (k : Int) (w : World) (h : Trk.Good s) (hb : PosB s k) :
  Calls Tryz.prog 173 #[.agg (srcC s).toArray, .int .i64 k] w fun e w' => e = .returned (.agg #[.int .i64 (Trk.moved s k).an, .int .i64 (Trk.moved s k).ad]) ∧ Below w.heap.size w w' := by
 obtain ⟨m1, m2⟩ := Trk.moved_num h k
 have hB := Trk.base_pos h
 obtain ⟨A, hA⟩ := Int.eq_ofNat_of_zero_le (show 0 ≤ s.ad by have := h.a0; omega)
 obtain ⟨D, hD⟩ := Int.eq_ofNat_of_zero_le (show 0 ≤ s.sd by have := h.s0; omega)
 have a0 : 0 < A := by have := h.a0; omega
 have d0 : 0 < D := by have := h.s0; omega
 obtain ⟨b1, b2, b3, b4⟩ := Trk.base_nat a0 d0
 have hbase : Trk.baseN s = A / A.gcd D * D := by unfold Trk.baseN; rw [hA, hD, Int.toNat_natCast, Int.toNat_natCast]
 have hpos : Trk.posN s k = s.an * ((D / A.gcd D : Nat) : Int) + k * s.sn * ((A / A.gcd D : Nat) : Int) := by unfold Trk.posN; rw [hA, hD, Int.toNat_natCast, Int.toNat_natCast]
 have g0 : 0 < A.gcd D := Nat.gcd_pos_of_pos_left _ a0
 have la : A / A.gcd D ≤ A := Nat.div_le_self _ _
 have ld : D / A.gcd D ≤ D := Nat.div_le_self _ _
 have ha := hb.a
 have hd := hb.d
 have hbb := hb.b
 rw [hA] at ha
 rw [hD] at hd
 have n0 := hb.n0
 have n1 := hb.n1
 have v0 := hb.v0
 have v1 := hb.v1
 have k0 := hb.k0
 have k1 := hb.k1
 rw [hA] at n0 n1
 rw [hD] at v0 v1
 obtain ⟨B, eB⟩ : ∃ B, B = Trk.baseN s := ⟨_, rfl⟩
 obtain ⟨N, eN⟩ : ∃ N, N = Trk.posN s k := ⟨_, rfl⟩
 rw [← eB] at m1 m2 hB hbase hbb
 rw [← eN] at m1 m2 hpos
 obtain ⟨G, eG⟩ : ∃ G, G = A.gcd D := ⟨_, rfl⟩
 rw [← eG] at b1 b2 b3 b4 hbase hpos g0 la ld
 obtain ⟨a, ea⟩ : ∃ a, a = A / G := ⟨_, rfl⟩
 obtain ⟨d, ed⟩ : ∃ d, d = D / G := ⟨_, rfl⟩
 rw [← ea] at b1 b2 b3 b4 hbase hpos la
 rw [← ed] at b1 b2 hpos ld
 rw [← hbase] at b1 b2 b3 b4
 have c0 : 0 < N.natAbs.gcd B := Nat.gcd_pos_of_pos_right _ hB
 have cN : ((N.natAbs.gcd B : Nat) : Int) ∣ N := Int.ofNat_dvd_left.2 (Nat.gcd_dvd_left _ _)
 have cB : ((N.natAbs.gcd B : Nat) : Int) ∣ (B : Int) := by exact_mod_cast Nat.gcd_dvd_right _ _
 obtain ⟨c, ec⟩ : ∃ c, c = N.natAbs.gcd B := ⟨_, rfl⟩
 rw [← ec] at c0 cN cB m1 m2
 have t1 := abs_mul n0 n1 (show -(d : Int) ≤ (d : Int) by omega) (Int.le_refl _)
 have e1 : 1099511627776 * (A : Int) * (d : Int) = 1099511627776 * (B : Int) := by
  rw [Int.mul_assoc]; congr 1; rw [b1]; simp
 rw [e1] at t1
 have t2 := abs_mul (show -(4294967296 : Int) ≤ k by omega) k1 v0 v1
 have t3 := abs_mul t2.1 t2.2 (show -(a : Int) ≤ (a : Int) by omega) (Int.le_refl _)
 have e3 : 4294967296 * (1024 * (D : Int)) * (a : Int) = 4398046511104 * (B : Int) := by
  rw [← Int.mul_assoc, show (4294967296 * 1024 : Int) = 4398046511104 from rfl, Int.mul_assoc]; congr 1; rw [hbase, Int.mul_comm]; simp
 rw [e3] at t3
 have xN : (N.tdiv (c : Int)).natAbs ≤ N.natAbs := by rw [Int.natAbs_tdiv]; exact Nat.div_le_self _ _
 obtain ⟨q, eq⟩ : ∃ q, q = B / c := ⟨_, rfl⟩
 have xB : ((B : Int).tdiv (c : Int)) = (q : Int) := by rw [eq]; simp
 have lB : q ≤ B := by rw [eq]; exact Nat.div_le_self _ _
 have key := pos_core s.kind s.name s.an (A : Int) s.sn (D : Int) s.smooth k (G : Int) (a : Int) (d : Int) (B : Int) N (s.an * (d : Int)) (k * s.sn) (k * s.sn * (a : Int)) (c : Int) w (by simpa using h.k)
  (by rw [eG]; simp) (by rw [ec]; simp) (by omega) (by omega) (by omega) (by omega) (by omega) (by omega) (by omega) (by omega)
  (by rw [ea]; simp) (by rw [hbase]; simp) (by rw [← b2]; simp) rfl rfl (by rw [← b3]; simp) rfl hpos.symm
  (by omega) (by omega) (by omega) (by omega) (by omega) (by omega) (by rw [xB]; omega) (by rw [xB]; omega) (by omega) (by omega) (by omega)
 rw [m1, m2, ← Int.tdiv_eq_ediv_of_dvd cN, ← Int.tdiv_eq_ediv_of_dvd cB]
 unfold srcC
 rw [hA, hD]
 exact key
set_option maxRecDepth 100000 in
set_option maxHeartbeats 4000000 in
theorem position_black (k : Int) (w : World) :
  Calls Tryz.prog 173 #[.agg (srcC Trk.black).toArray, .int .i64 k] w fun e w' => e = .returned (.agg #[.int .i64 0, .int .i64 0]) ∧ Below w.heap.size w w' := by
 unfold srcC Trk.black
 go_enter Tryz.func173, Tryz.ntmps173
 go_wp2_with fail
 exact bodyPost_ret (results_rat (g := w.heap.size + 1) Tryz.results173 rfl (by simp [go_sem]) (by simp [go_sem])) rfl ⟨rfl, by go_grown⟩
theorem position_any (s : Trk.Src) (k : Int) (w : World) (h : Trk.Okay s) (hb : s = Trk.black ∨ PosB s k) :
  Calls Tryz.prog 173 #[.agg (srcC s).toArray, .int .i64 k] w fun e w' => e = .returned (.agg #[.int .i64 (Trk.moved s k).an, .int .i64 (Trk.moved s k).ad]) ∧ Below w.heap.size w w' := by
 by_cases e : s = Trk.black
 ·subst e
  rw [Trk.moved_black]
  exact position_black k w
 ·exact position_good s k w (h.resolve_left e) (hb.resolve_left e)
def srcN (s : Trk.Src) : Trk.Src := { s with an := 0, ad := 0 }
def ratV (n d : Int) : Value := .agg #[.int .i64 n, .int .i64 d]
def ssG (x y : Value) (i lo hi : Nat) (v : Value) (w : World) : Prop := v = if i = 2 then x else y
theorem ssG.ext {x y : Value} (i lo hi : Nat) (v : Value) (w w' : World) (h : ssG x y i lo hi v w) (hb : Plan.Ext w w') : ssG x y i lo hi v w' := h
def ssS : List (Nat × Tmp) := [(2, 11), (5, 14)]
theorem ratV_eq (n d n' d' : Int) (w : World) : (Op.equalIn 10000 38 (.agg #[.int .i64 n, .int .i64 d]) (.agg #[.int .i64 n', .int .i64 d'])).run Tryz.prog w = .ok (decide (n = n' ∧ d = d')) w := by
 simp [go_sem]
 by_cases h1 : n = n' <;> by_cases h2 : d = d' <;> simp [h1, h2]
theorem srcN_eq (a b : Trk.Src) : srcN a = srcN b ↔ a.kind = b.kind ∧ a.name = b.name ∧ a.sn = b.sn ∧ a.sd = b.sd ∧ a.smooth = b.smooth := by
 constructor
 ·intro h
  have h1 : (srcN a).kind = (srcN b).kind := by rw [h]
  have h2 : (srcN a).name = (srcN b).name := by rw [h]
  have h3 : (srcN a).sn = (srcN b).sn := by rw [h]
  have h4 : (srcN a).sd = (srcN b).sd := by rw [h]
  have h5 : (srcN a).smooth = (srcN b).smooth := by rw [h]
  exact ⟨h1, h2, h3, h4, h5⟩
 ·rintro ⟨h1, h2, h3, h4, h5⟩
  exact Trk.Src.ext2 h1 h2 rfl rfl h3 h4 h5
set_option maxRecDepth 100000 in
set_option maxHeartbeats 8000000 in
theorem samesource_any (a b : Trk.Src) (j k : Int) (w : World) (ha : Trk.Okay a) (hb : Trk.Okay b) (Ba : a = Trk.black ∨ PosB a j) (Bb : b = Trk.black ∨ PosB b k) :
  Calls Tryz.prog 159 #[.agg (srcC a).toArray, .int .i64 j, .agg (srcC b).toArray, .int .i64 k] w fun e w' => e = .returned (.bool (decide (Trk.moved a j = Trk.moved b k))) ∧ Below w.heap.size w w' := by
 have P1 := Lib.hid (fun w => position_any a j w ha Ba)
 have P2 := Lib.hid (fun w => position_any b k w hb Bb)
 have HE := Lib.hid (Trk.moved_eq (a := a) (b := b) j k)
 clear ha hb Ba Bb
 obtain ⟨D, hD⟩ : ∃ D, D = decide (Trk.moved a j = Trk.moved b k) := ⟨_, rfl⟩
 rw [← hD]
 have HD := Lib.hid hD
 clear hD
 obtain ⟨xn, hxn⟩ : ∃ x, x = (Trk.moved a j).an := ⟨_, rfl⟩
 obtain ⟨xd, hxd⟩ : ∃ x, x = (Trk.moved a j).ad := ⟨_, rfl⟩
 obtain ⟨yn, hyn⟩ : ∃ x, x = (Trk.moved b k).an := ⟨_, rfl⟩
 obtain ⟨yd, hyd⟩ : ∃ x, x = (Trk.moved b k).ad := ⟨_, rfl⟩
 rw [← hxn, ← hxd] at P1
 rw [← hyn, ← hyd] at P2
 rw [← hxn, ← hxd, ← hyn, ← hyd] at HE
 clear hxn hxd hyn hyd
 have HQ := Lib.hid (fun w => run_eq_src (srcN a) (srcN b) w)
 obtain ⟨c1, hc1⟩ : ∃ c, c = decide (srcN a = srcN b) := ⟨_, rfl⟩
 have HC1 := Lib.hid hc1
 rw [← hc1] at HQ
 clear hc1
 unfold srcC at P1 P2 ⊢
 go_enter Tryz.func159, Tryz.ntmps159
 go_upto_region 1 with fail
 obtain ⟨w1, hw1⟩ : ∃ z, z = (w.alloc (.cells #[.int .i64 a.kind, .string a.name, .int .i64 a.an, .int .i64 a.ad, .int .i64 a.sn, .int .i64 a.sd, .bool a.smooth] 46)).alloc (.cells #[.int .i64 b.kind, .string b.name, .int .i64 b.an, .int .i64 b.ad, .int .i64 b.sn, .int .i64 b.sd, .bool b.smooth] 46) := ⟨_, rfl⟩
 have hb1 : Below w.heap.size w w1 := by rw [hw1]; go_grown
 obtain ⟨p, hp⟩ : ∃ p, p = w.heap.size := ⟨_, rfl⟩
 obtain ⟨r, hr⟩ : ∃ r, r = w.heap.size + 1 := ⟨_, rfl⟩
 have x : C7 w1 p 0 (.int .i64 a.kind) (.string a.name) (.int .i64 a.an) (.int .i64 a.ad) (.int .i64 a.sn) (.int .i64 a.sd) (.bool a.smooth) := by rw [hw1, hp]; constructor <;> simp [go_sem]
 have y : C7 w1 r 0 (.int .i64 b.kind) (.string b.name) (.int .i64 b.an) (.int .i64 b.ad) (.int .i64 b.sn) (.int .i64 b.sd) (.bool b.smooth) := by rw [hw1, hr]; constructor <;> simp [go_sem]
 have f : (∀ o, w1.frozen? ⟨p, o, none⟩ = false) ∧ ∀ o, w1.frozen? ⟨r, o, none⟩ = false := by rw [hw1, hp, hr]; exact ⟨fun o => by simp [go_sem], fun o => by simp [go_sem]⟩
 rw [← hw1, ← hr, ← hp]
 have HX := Lib.hid x
 have HY := Lib.hid y
 have HF := Lib.hid f
 have HB := Lib.hid hb1
 have HP := Lib.hid (show w.heap.size ≤ p ∧ w.heap.size ≤ r ∧ p ≠ r by omega)
 clear hw1 hp hr hb1 x y f
 refine Plan.wp_region_fresh (fun w' => Below w1.heap.size w1 w') 7 (ssG (ratV xn xd) (ratV yn yd)) ([0, 1, 3, 4].map (·, true)) ssS ([6].map (·, true)) 23 (by kernel_rfl) (by kernel_rfl) (by kernel_rfl) (Below.refl _ _).drew (fun wa wb ha hb => ha.trans (hb.mono ha.size)) ssG.ext ?_
 refine' Plan.plan_seg _ [0, 1, 3, 4] [] (by kernel_rfl) (by kernel_rfl) rfl (by exact (Below.refl _ _).drew) (fun wx hS => ?_) ?_
 rotate_left
 ·obtain ⟨x0, x1, x2, x3, x4, x5, x6⟩ := HX.out.below hS
  obtain ⟨y0, y1, y2, y3, y4, y5, y6⟩ := HY.out.below hS
  simp only [Nat.zero_add] at x1 x2 x3 x4 x5 x6 y1 y2 y3 y4 y5 y6
  clear hS
  go_light
  iterate 4 (apply Plan.seg_pick; rfl; intro K hK; go_wp)
  exact Plan.seg_nil
 refine Plan.plan_nil ?_
 refine Plan.fresh_at_gen (fun A => A.tmps.size = 23 ∧ A.tmps[9]? = some (.agg (srcC a).toArray) ∧ A.tmps[10]? = some (.int .i64 j) ∧ A.tmps[12]? = some (.agg (srcC b).toArray) ∧ A.tmps[13]? = some (.int .i64 k)) ⟨rfl, rfl, rfl, rfl, rfl⟩ rfl (fun Aq hA => ?_) ?_
 ·obtain ⟨hsz, e9, e10, e12, e13⟩ := hA
  intro p' hp o ho vs wx lo hi hS hE hG K hK
  simp only [ssS, List.mem_cons, List.not_mem_nil, or_false] at hp
  rcases hp with rfl | rfl
  all_goals obtain rfl := Option.some.inj ho
  ·have t9 : (Plan.puts vs ssS Aq).eval (.tmp 9) = .agg (srcC a).toArray := by rw [Plan.eval_out (by decide)]; simp [Act.eval, Array.getD_eq_getD_getElem?, e9]
   have t10 : (Plan.puts vs ssS Aq).eval (.tmp 10) = .int .i64 j := by rw [Plan.eval_out (by decide)]; simp [Act.eval, Array.getD_eq_getD_getElem?, e10]
   refine Plan.one_call rfl 173 Tryz.func173 (by kernel_rfl) (by kernel_rfl) #[.tmp 9, .tmp 10] #[46, 2] rfl #[.agg (srcC a).toArray, .int .i64 j] (by simp only [List.map_toArray, List.map_cons, List.map_nil, t9, t10]) (fun r w' => r = ratV xn xd ∧ Below wx.heap.size wx w') ?_ (fun r w' hR => hK _ _ hR.1 hR.2)
   refine (P1.out wx).mono ?_
   rintro e w' ⟨rfl, hb⟩
   exact ⟨_, rfl, rfl, hb⟩
  ·have t9 : (Plan.puts vs ssS Aq).eval (.tmp 12) = .agg (srcC b).toArray := by rw [Plan.eval_out (by decide)]; simp [Act.eval, Array.getD_eq_getD_getElem?, e12]
   have t10 : (Plan.puts vs ssS Aq).eval (.tmp 13) = .int .i64 k := by rw [Plan.eval_out (by decide)]; simp [Act.eval, Array.getD_eq_getD_getElem?, e13]
   refine Plan.one_call rfl 173 Tryz.func173 (by kernel_rfl) (by kernel_rfl) #[.tmp 12, .tmp 13] #[46, 2] rfl #[.agg (srcC b).toArray, .int .i64 k] (by simp only [List.map_toArray, List.map_cons, List.map_nil, t9, t10]) (fun r w' => r = ratV yn yd ∧ Below wx.heap.size wx w') ?_ (fun r w' hR => hK _ _ hR.1 hR.2)
   refine (P2.out wx).mono ?_
   rintro e w' ⟨rfl, hb⟩
   exact ⟨_, rfl, rfl, hb⟩
 ·intro vs lo hi wx hS hE hall hap
  have h2 : vs 2 = ratV xn xd := (hall (2, 11) (by decide)).1
  have h5 : vs 5 = ratV yn yd := (hall (5, 14) (by decide)).1
  have HF2 := Lib.hid (show (∀ o, wx.frozen? ⟨p, o, none⟩ = false) ∧ ∀ o, wx.frozen? ⟨r, o, none⟩ = false from ⟨fun o => (hS.frozen (p := ⟨p, o, none⟩) HX.out.lt).trans (HF.out.1 o), fun o => (hS.frozen (p := ⟨r, o, none⟩) HY.out.lt).trans (HF.out.2 o)⟩)
  replace HX := Lib.hid (HX.out.below hS)
  replace HY := Lib.hid (HY.out.below hS)
  replace HB := Lib.hid (HB.out.trans (hS.mono HB.out.size))
  have hSk := Lib.hid hS
  simp only [ssS, Plan.puts, h2, h5, ratV]
  clear hall hap hE hS h2 h5 HF
  have heq := fun w => ratV_eq xn xd yn yd w
  refine' Plan.plan_seg _ [6] [] (by kernel_rfl) (by kernel_rfl) rfl (by exact hSk.out) (fun wy hS => ?_) ?_
  rotate_left
  ·clear hS
   go_light
   iterate 1 (apply Plan.seg_pick; rfl; intro K hK; go_wp)
   exact Plan.seg_nil
  refine Plan.plan_done ?_
  clear heq
  by_cases hpe : xn = yn ∧ xd = yd
  ·have hpd : (!decide (xn = yn) || !decide (xd = yd)) = false := by simp [hpe.1, hpe.2]
   rw [hpd]
   have HN := Lib.hid hpe
   clear hpe hpd
   obtain ⟨x0, x1, x2, x3, x4, x5, x6⟩ := HX.out
   obtain ⟨y0, y1, y2, y3, y4, y5, y6⟩ := HY.out
   simp only [Nat.zero_add] at x1 x2 x3 x4 x5 x6 y1 y2 y3 y4 y5 y6
   obtain ⟨f, g⟩ := HF2.out
   have hne := HP.out.2.2
   have hne2 := Ne.symm hne
   have hq := HQ.out
   simp only [srcN] at hq
   go_wp2_with fail
   go_ret
   refine ⟨ret_bool ?_, ?_⟩
   ·rw [HC1.out, HD.out]
    have h1 := HE.out
    have h2 := srcN_eq a b
    simp only [HN.out.1, HN.out.2, and_self, true_and] at h1
    exact decide_eq_decide.2 (h2.trans h1.symm)
   ·have hp := HP.out.1
    have hr := HP.out.2.1
    have hbx := HB.out
    exact (((hbx.setCell (p := ⟨p, 2, none⟩) hp _).setCell (p := ⟨p, 3, none⟩) hp _).setCell (p := ⟨r, 2, none⟩) hr _).setCell (p := ⟨r, 3, none⟩) hr _
  ·have hpd : (!decide (xn = yn) || !decide (xd = yd)) = true := by
    by_cases h1 : xn = yn
    ·have h2 : xd ≠ yd := fun h => hpe ⟨h1, h⟩
     simp [h2]
    ·simp [h1]
   rw [hpd]
   have HN := Lib.hid hpe
   clear hpe hpd
   go_wp2_with fail
   go_ret
   refine ⟨ret_bool ?_, HB.out⟩
   rw [HD.out]
   exact (decide_eq_false fun h => HN.out (HE.out.1 h).1).symm
structure FrB (c : Trk.Clip) (k : Int) : Prop where
 a : Trk.Okay c.a
 b : Trk.Okay c.b
 pa : c.a = Trk.black ∨ PosB c.a k
 pb : c.b = Trk.black ∨ PosB c.b k
 z : Trk.shares c.kind = false → c.off = 0
 o0 : 0 ≤ c.off
 o1 : c.off ≤ 2147483647
 k0 : -4294967296 ≤ k
 k1 : k ≤ 4294967296
theorem VT.good {L : Int} {l : List Trk.Clip} (h : VT L l) : Trk.GoodL l := h.v.good
structure D4 (w : World) (g : Nat) (p q : Int) (x : Value) (e : Int) : Prop where
 k0 : w.cell? ⟨g, 0, none⟩ = some (.int .i64 p)
 k1 : w.cell? ⟨g, 1, none⟩ = some (.int .i64 q)
 k2 : w.cell? ⟨g, 2, none⟩ = some x
 k3 : w.cell? ⟨g, 3, none⟩ = some (.int .i64 e)
 f : ∀ o, w.frozen? ⟨g, o, none⟩ = false
theorem D4.lt {w : World} {g : Nat} {p q : Int} {x : Value} {e : Int} (h : D4 w g p q x e) : g < w.heap.size := block_lt_of_cell h.k0
theorem D4.below {w w' : World} {g : Nat} {p q : Int} {x : Value} {e : Int} (h : D4 w g p q x e) (hb : Below w.heap.size w w') : D4 w' g p q x e :=
 ⟨(hb.cell h.lt).trans h.k0, (hb.cell h.lt).trans h.k1, (hb.cell h.lt).trans h.k2, (hb.cell h.lt).trans h.k3, fun o => (hb.frozen (p := ⟨g, o, none⟩) h.lt).trans (h.f o)⟩
theorem results_diff {fn : Func} {tmps : Array Value} {w : World} {t : Tmp} {g : Nat} {p q : Int} {x : Value} {e : Int} (hr : fn.results = #[.cell t 98]) (ht : tmps.getD t undef = .pointer (some ⟨g, 0, none⟩)) (h : D4 w g p q x e) :
  (results fn tmps).run Tryz.prog w = .ok (.agg #[.int .i64 p, .int .i64 q, x, .int .i64 e]) w := by
 have hc : w.rangeAt g 0 [.int .i64 p, .int .i64 q, x, .int .i64 e] := by
  intro j u hj
  have hl : j < 4 := (List.getElem?_eq_some_iff.1 hj).1
  rcases (show j = 0 ∨ j = 1 ∨ j = 2 ∨ j = 3 by omega) with rfl | rfl | rfl | rfl
  all_goals
   simp only [List.getElem?_cons_zero, List.getElem?_cons_succ, Option.some.injEq] at hj
   subst hj
  ·exact h.k0
  ·exact h.k1
  ·exact h.k2
  ·exact h.k3
 have h := run_loadVar_mid (P := Tryz.prog) w g 0 98 [.int .i64 p, .int .i64 q, x, .int .i64 e] _ hc Tryz.underlying98 rfl (by kernel_rfl)
 unfold results
 rw [hr]
 have ht2 : tmps[t]?.getD undef = .pointer (some ⟨g, 0, none⟩) := by rw [← Array.getD_eq_getD_getElem?]; exact ht
 simp [ht2, asAddr, h]
def partL (l : List Trk.Clip) (a b : Int) : List Trk.Clip := if a = b then [] else Trk.cut l a b
theorem idle72 (p q : Addr) (w : World) : CallsD Tryz.prog 72 #[.pointer (some p), .pointer (some q)] .returning w fun e u' w' => e = .returned (.tuple #[]) ∧ u' = .returning ∧ w' = w := by
 refine callsD_of_wpS Tryz.func72 rfl fun c₀ cs hu => ?_
 apply wpS_seq
 apply wpS_region
 simp [wpOpsS, go_sem, recoverD, hu, Tryz.ntmps72, Exit.thenS]
 refine wpS_cond (t := false) (by simp [Act.eval, Array.replicate]) ?_
 simp only [Bool.false_eq_true, if_false]
 refine wpS_of_wp (wp_skip ?_)
 cases c₀
 simp_all [bodyPostS, results, Tryz.results72]
def JoinG (w : World) (a b : List Trk.Clip) (e : Ending) (w' : World) : Prop :=
 ∃ v' code, e = .returned (.tuple #[v', .int .i64 code]) ∧ (((Trk.pk (a ++ b)).length ≤ 64 ∧ code = 0 ∧ OG w' w.heap.size 0 v' (Trk.pk (a ++ b))) ∨ (64 < (Trk.pk (a ++ b)).length ∧ code = 5 ∧ v' = .slice none 0 0)) ∧ Below w.heap.size w w'
set_option maxRecDepth 100000 in
set_option maxHeartbeats 8000000 in
theorem concatg_two (D1 D2 b o c : Nat) (v1 v2 : Value) (l1 l2 : List Trk.Clip) (w : World) (c1 : w.cell? ⟨b, o, none⟩ = some v1) (c2 : w.cell? ⟨b, o + 1, none⟩ = some v2) (h1 : TG w D1 v1 l1) (h2 : TG w D2 v2 l2) (hc : 2 ≤ c) (hl : l1.length + l2.length ≤ 1048576) :
  Calls Tryz.prog 73 #[.slice (some ⟨b, o, none⟩) 2 c] w fun e w' => ∃ v', e = .returned v' ∧ OG w' w.heap.size w.heap.size v' (l1 ++ l2) ∧ Below w.heap.size w w' := by
 replace h1 := h1.base
 replace h2 := h2.base
 obtain ⟨Cc, hCc⟩ : ∃ C, C = w.heap.size := ⟨_, rfl⟩
 have HCC := Lib.hid (Nat.le_of_eq hCc)
 rw [← hCc] at h1 h2
 have HT1 := Lib.hid h1
 have HT2 := Lib.hid h2
 obtain ⟨a1, k1, rfl, _⟩ := h1
 obtain ⟨a2, k2, rfl, _⟩ := h2
 have HG := Lib.hid (fun w => grow_nil (l1.length + l2.length) w hl)
 rw [Int.natCast_add] at HG
 obtain ⟨n1, e1⟩ : ∃ n, n = l1.length := ⟨_, rfl⟩
 obtain ⟨n2, e2⟩ : ∃ n, n = l2.length := ⟨_, rfl⟩
 rw [← e1, ← e2] at hl HG
 rw [← e1] at c1 HT1
 rw [← e2] at c2 HT2
 have HL := Lib.hid (And.intro e1 e2)
 have HC := Lib.hid (And.intro c1 c2)
 clear e1 e2
 go_enter Tryz.func73, Tryz.ntmps73
 go_wp2_with fail
 go_loop [3, 11] (fun v3 v11 => (v11 = .int .i64 0 ∧ v3 = .int .i64 0) ∨ (v11 = .int .i64 1 ∧ v3 = .int .i64 (n1 : Int)) ∨ (v11 = .int .i64 2 ∧ v3 = .int .i64 ((n1 : Int) + (n2 : Int)))) (fun _ i => 2 - (intOf i).toNat)
 case atStart => exact .inl ⟨rfl, rfl⟩
 case round =>
  have hs : (n1 : Int) + (n2 : Int) ≤ 1048576 := by omega
  have hs1 : (n1 : Int) ≤ 1048576 := by omega
  rcases hrel with ⟨rfl, rfl⟩ | ⟨rfl, rfl⟩ | ⟨rfl, rfl⟩
  ·go_wp2_with fail
   exact ⟨.inr (.inl ⟨rfl, by simp⟩), by simp [intOf]⟩
  ·go_wp2_with fail
   exact ⟨.inr (.inr ⟨rfl, rfl⟩), by simp [intOf]⟩
  ·go_wp2_with fail
   refine (HG.out _).mono ?_
   rintro e w1 ⟨v', rfl, ho, hb⟩
   have HO := Lib.hid (show OG w1 w.heap.size Cc v' [] from ⟨[], rfl, ho, fun i c x h => by simp at h⟩)
   have HB := Lib.hid hb
   clear c1 c2 ho hb
   go_wp2_with fail
   go_loopw [6, 27] (fun v6 v27 wr => ((v27 = .int .i64 0 ∧ OG wr w.heap.size Cc v6 []) ∨ (v27 = .int .i64 1 ∧ OG wr w.heap.size Cc v6 l1) ∨ (v27 = .int .i64 2 ∧ OG wr w.heap.size Cc v6 (l1 ++ l2))) ∧ Below w.heap.size w wr ∧ w.heap.size ≤ wr.heap.size) (fun _ i _ => 2 - (intOf i).toNat)
   case atStart => exact ⟨.inl ⟨rfl, HO.out⟩, HB.out, HB.out.size⟩
   case round =>
    clear HO HB
    obtain ⟨hrel, hb, hsz⟩ := hrel
    rcases hrel with ⟨rfl, ho⟩ | ⟨rfl, ho⟩ | ⟨rfl, ho⟩
    ·replace HT1 := Lib.hid (HT1.out.below hb)
     have d1 := (hb.cell (block_lt_of_cell HC.out.1)).trans HC.out.1
     have HO := Lib.hid ho
     have HB := Lib.hid hb
     have HS := Lib.hid hsz
     clear ho hb hsz
     go_upto_region 13 with fail
     apply wp_region_lit
     iterate 6 go_step
     refine wpList_appG _ 23 23 Tryz.underlying23 Tryz.underlying23 rfl (.tmp 31) (.tmp 32) rfl w.heap.size Cc u6 _ [] l1 rfl rfl HO.out HS.out HCC.out HT1.out (by have := HL.out; simp only [List.length_nil]; omega) ?_
     intro v9 w9 q1 q2 q3 q4
     simp only [Act.put, List.setIfInBounds_toArray, List.set_cons_succ, List.set_cons_zero]
     have HQ := Lib.hid q1
     have HB9 := Lib.hid (HB.out.trans q2)
     have HS9 := Lib.hid (Nat.le_trans HS.out q4)
     clear q1 q2 q3 q4
     go_wp2_with fail
     exact ⟨⟨.inr (.inl ⟨rfl, HQ.out⟩), HB9.out, HS9.out⟩, by simp [intOf]⟩
    ·replace HT2 := Lib.hid (HT2.out.below hb)
     have d2 := (hb.cell (block_lt_of_cell HC.out.2)).trans HC.out.2
     have HO := Lib.hid ho
     have HB := Lib.hid hb
     have HS := Lib.hid hsz
     clear ho hb hsz
     go_upto_region 13 with fail
     apply wp_region_lit
     iterate 6 go_step
     refine wpList_appG _ 23 23 Tryz.underlying23 Tryz.underlying23 rfl (.tmp 31) (.tmp 32) rfl w.heap.size Cc u6 _ l1 l2 rfl rfl HO.out HS.out HCC.out HT2.out (by have := HL.out; omega) ?_
     intro v9 w9 q1 q2 q3 q4
     simp only [Act.put, List.setIfInBounds_toArray, List.set_cons_succ, List.set_cons_zero]
     have HQ := Lib.hid q1
     have HB9 := Lib.hid (HB.out.trans q2)
     have HS9 := Lib.hid (Nat.le_trans HS.out q4)
     clear q1 q2 q3 q4
     go_wp2_with fail
     exact ⟨⟨.inr (.inr ⟨rfl, HQ.out⟩), HB9.out, HS9.out⟩, by simp [intOf]⟩
    ·have HO := Lib.hid ho
     have HB := Lib.hid hb
     clear ho hb
     go_wp2_with fail
     go_ret
     exact ⟨_, rfl, HO.out.up HCC.out, HB.out⟩
set_option maxRecDepth 100000 in
set_option maxHeartbeats 8000000 in
theorem joing_any (D1 D2 : Nat) (v u : Value) (a b : List Trk.Clip) (w : World) (h : TG w D1 v a) (h' : TG w D2 u b) (Va : TV a) (Vb : TV b) (ht : Trk.total a + Trk.total b ≤ 2147483647) :
  Calls Tryz.prog 32 #[v, u] w (JoinG w a b) := by
 have HT := Lib.hid h
 have HU := Lib.hid h'
 have V1 := Lib.hid (fun (w : World) (h : TG w D1 v a) => vtrackg_yes D1 v a w h Va)
 have V2 := Lib.hid (fun (w : World) (h : TG w D2 u b) => vtrackg_yes D2 u b w h Vb)
 have T1 := Lib.hid (fun (w : World) (h : TG w D1 v a) => totalg_any D1 v a w h Va.good (by have := Va.t; omega) (by have := Va.n; omega))
 have T2 := Lib.hid (fun (w : World) (h : TG w D2 u b) => totalg_any D2 u b w h Vb.good (by have := Vb.t; omega) (by have := Vb.n; omega))
 have CC := Lib.hid (fun (b' o c : Nat) (w : World) (c1 : w.cell? ⟨b', o, none⟩ = some v) (c2 : w.cell? ⟨b', o + 1, none⟩ = some u) (h1 : TG w D1 v a) (h2 : TG w D2 u b) (hc : 2 ≤ c) => concatg_two D1 D2 b' o c v u a b w c1 c2 h1 h2 hc (by have := Va.n; have := Vb.n; omega))
 have hO : ∀ c ∈ a ++ b, OkG c := fun c hc => ((List.mem_append.1 hc).elim (Va.c c) (Vb.c c)).okg
 have PK := Lib.hid (fun (x : Value) (D : Nat) (w : World) (h : TG w D x (a ++ b)) => packg_any D x (a ++ b) w h hO (by have := Va.n; have := Vb.n; simp; omega) (by rw [Trk.total_append]; omega))
 have t0 := Trk.total_nonneg Va.good
 have t1 := Trk.total_nonneg Vb.good
 have la := Va.n
 have lb := Vb.n
 obtain ⟨ao, ca, rfl, -⟩ := h
 obtain ⟨bo, cb, rfl, -⟩ := h'
 clear Va Vb hO
 obtain ⟨A, hA⟩ : ∃ A, A = Trk.total a := ⟨_, rfl⟩
 obtain ⟨B, hB⟩ : ∃ B, B = Trk.total b := ⟨_, rfl⟩
 rw [← hA] at T1 t0 ht
 rw [← hB] at T2 t1 ht
 obtain ⟨na, hna⟩ : ∃ k, k = a.length := ⟨_, rfl⟩
 obtain ⟨nb, hnb⟩ : ∃ k, k = b.length := ⟨_, rfl⟩
 rw [← hna] at HT V1 T1 CC la ⊢
 rw [← hnb] at HU V2 T2 CC lb ⊢
 clear hA hB hna hnb
 obtain ⟨R, hR⟩ : ∃ R, R = Trk.pk (a ++ b) := ⟨_, rfl⟩
 rw [← hR] at PK
 unfold JoinG
 rw [← hR]
 clear hR
 go_enter_defers Tryz.func32, Tryz.ntmps32
 go_upto_region 2 with fail
 obtain ⟨w1, hw1⟩ : ∃ x, x = (w.alloc (.cells #[.slice none 0 0] 23)).alloc (.cells #[.int .i64 0] 30) := ⟨_, rfl⟩
 rw [← hw1]
 have hE1 : Below w.heap.size w w1 := by rw [hw1]; go_grown
 obtain ⟨g1, hg1⟩ : ∃ g, g = w.heap.size := ⟨_, rfl⟩
 obtain ⟨g2, hg2⟩ : ∃ g, g = w.heap.size + 1 := ⟨_, rfl⟩
 have hr : RG w1 g1 g2 (.slice none 0 0) (.int .i64 0) := by
  rw [hw1, hg1, hg2]
  refine ⟨?_, ?_⟩
  ·rw [(below_box (w.alloc (.cells #[.slice none 0 0] 23)) _).block _ (by simp)]
   exact (MapKept.heap_alloc w _).1
  ·have := (MapKept.heap_alloc (w.alloc (.cells #[.slice none 0 0] 23)) (.cells #[.int .i64 0] 30)).1
   rw [show (w.alloc (.cells #[.slice none 0 0] 23)).heap.size = w.heap.size + 1 by simp] at this
   exact this
 have hz : w1.heap.size = g2 + 1 := by rw [hw1, hg2]; simp [go_sem]
 rw [← hg2, ← hg1]
 have hn1 : w.heap.size ≤ g1 := by omega
 have hn2 : w.heap.size ≤ g2 := by omega
 have h12 : g1 < g2 := by omega
 have HR := Lib.hid hr
 have HB := Lib.hid hE1
 have HS := Lib.hid (Nat.le_of_eq hz.symm)
 clear hw1 hE1 hg1 hg2 hr hz
 go_wp2_with fail
 refine (V1.out _ (HT.out.below HB.out)).mono ?_
 rintro e w2 ⟨rfl, hb⟩
 replace HR := Lib.hid (HR.out.up hb)
 replace HB := Lib.hid (HB.out.trans (hb.mono HB.out.size))
 replace HS := Lib.hid (Nat.le_trans HS.out hb.size)
 clear hb V1
 go_wp2_with fail
 refine (V2.out _ (HU.out.below HB.out)).mono ?_
 rintro e w3 ⟨rfl, hb⟩
 replace HR := Lib.hid (HR.out.up hb)
 replace HB := Lib.hid (HB.out.trans (hb.mono HB.out.size))
 replace HS := Lib.hid (Nat.le_trans HS.out hb.size)
 clear hb V2
 go_wp2_with fail
 refine (T1.out _ (HT.out.below HB.out)).mono ?_
 rintro e w4 ⟨rfl, hb⟩
 replace HR := Lib.hid (HR.out.up hb)
 replace HB := Lib.hid (HB.out.trans (hb.mono HB.out.size))
 replace HS := Lib.hid (Nat.le_trans HS.out hb.size)
 clear hb T1
 go_wp2_with fail
 refine (T2.out _ (HU.out.below HB.out)).mono ?_
 rintro e w5 ⟨rfl, hb⟩
 replace HR := Lib.hid (HR.out.up hb)
 replace HB := Lib.hid (HB.out.trans (hb.mono HB.out.size))
 replace HS := Lib.hid (Nat.le_trans HS.out hb.size)
 clear hb T2
 have hte : ¬ 2147483647 < A + B := by omega
 go_upto_region 6 with fail
 apply wp_region_lit
 iterate 6 go_step
 refine Great.wpList_buildSliceTo rfl 68 23 2 #[(0, .tmp 21), (1, .tmp 22)] rfl w5.heap.size rfl (some 23) rfl Tryz.underlying68 #[.slice ao na ca, .slice bo nb cb] ?_ ?_
 ·simp only [List.map_toArray, List.map_cons, List.map_nil, List.toList_toArray]
  kernel_rfl
 have hb := below_box w5 (.cells #[.slice ao na ca, .slice bo nb cb] 23)
 have hx1 : (w5.alloc (.cells #[.slice ao na ca, .slice bo nb cb] 23)).cell? ⟨w5.heap.size, 0, none⟩ = some (.slice ao na ca) := by simp [go_sem]
 have hx2 : (w5.alloc (.cells #[.slice ao na ca, .slice bo nb cb] 23)).cell? ⟨w5.heap.size, 0 + 1, none⟩ = some (.slice bo nb cb) := by simp [go_sem]
 obtain ⟨w6, hw6⟩ : ∃ x, x = w5.alloc (.cells #[.slice ao na ca, .slice bo nb cb] 23) := ⟨_, rfl⟩
 rw [← hw6] at hb hx1 hx2 ⊢
 obtain ⟨g5, hg5⟩ : ∃ x, x = w5.heap.size := ⟨_, rfl⟩
 rw [← hg5] at hx1 hx2 ⊢
 have HX := Lib.hid (And.intro hx1 hx2)
 replace HR := Lib.hid (HR.out.up hb)
 replace HB := Lib.hid (HB.out.trans (hb.mono HB.out.size))
 replace HS := Lib.hid (Nat.le_trans HS.out hb.size)
 clear hb hx1 hx2 hw6 hg5
 go_wp2_with fail
 refine (CC.out g5 0 2 _ HX.out.1 HX.out.2 (HT.out.below HB.out) (HU.out.below HB.out) (Nat.le_refl _)).mono ?_
 rintro e w7 ⟨x7, rfl, ho, hb⟩
 obtain ⟨xa, xc, hx7, -⟩ := ho.tg
 obtain ⟨nx, hnx⟩ : ∃ k, k = (a ++ b).length := ⟨_, rfl⟩
 rw [← hnx] at hx7
 subst hx7
 clear hnx
 replace HR := Lib.hid (HR.out.up hb)
 replace HB := Lib.hid (HB.out.trans (hb.mono HB.out.size))
 replace HS := Lib.hid (Nat.le_trans HS.out hb.size)
 have HO := Lib.hid ho.tg
 clear hb ho HX CC
 go_wp2_with fail
 refine (PK.out _ _ _ HO.out).mono ?_
 rintro e w8 ⟨x8, rfl, ho, hb⟩
 obtain ⟨ya, yc, hx8, -⟩ := ho.tg
 have HQ := Lib.hid (ho.lower HS.out)
 replace HR := Lib.hid (HR.out.up hb)
 replace HB := Lib.hid (HB.out.trans (hb.mono HB.out.size))
 clear hb ho PK
 obtain ⟨nr, hnr⟩ : ∃ nr, nr = R.length := ⟨_, rfl⟩
 rw [← hnr] at hx8
 subst hx8
 have HNR := Lib.hid hnr
 clear hnr HO
 have r1 := HR.out.c1
 have r2 := HR.out.f1
 have r3 := HR.out.c2
 have r4 := HR.out.f2
 have n12 : g1 ≠ g2 := by omega
 have n21 : g2 ≠ g1 := by omega
 by_cases hle : nr ≤ 64
 ·have hz : ¬ (64 : Int) < (nr : Int) := by omega
  go_wp2_with fail
  refine leaves_cons (f := 72) (args := #[.pointer (some ⟨g1, 0, none⟩), .pointer (some ⟨g2, 0, none⟩)]) (by simp) (by simp [go_sem]) ?_
  refine (idle72 _ _ _).mono ?_
  rintro e u' w'' ⟨rfl, rfl, rfl⟩
  simp [Leaves, settle, results, Tryz.results32, go_sem, r1, r3, n12, n21]
  exact ⟨_, _, ⟨rfl, rfl⟩, .inl ⟨by rw [← HNR.out]; exact hle, rfl, (((HQ.out.var1 HR.out (Nat.zero_le _) (by omega) _).var1 (HR.out.set1 n12 _) (Nat.zero_le _) (by omega) _).var2 ((HR.out.set1 n12 _).set1 n12 _) (Nat.zero_le _) (by omega) _).lower (by omega)⟩,
   ((HB.out.setCell (p := ⟨g1, 0, none⟩) hn1 _).setCell (p := ⟨g1, 0, none⟩) hn1 _).setCell (p := ⟨g2, 0, none⟩) hn2 _⟩
 ·have hz : (64 : Int) < (nr : Int) := by omega
  go_wp2_with fail
  refine leaves_cons (f := 72) (args := #[.pointer (some ⟨g1, 0, none⟩), .pointer (some ⟨g2, 0, none⟩)]) (by simp) (by simp [go_sem]) ?_
  refine (idle72 _ _ _).mono ?_
  rintro e u' w'' ⟨rfl, rfl, rfl⟩
  simp [Leaves, settle, results, Tryz.results32, go_sem, r1, r3, n12, n21]
  exact ⟨_, _, ⟨rfl, rfl⟩, .inr ⟨by rw [← HNR.out]; omega, rfl, rfl⟩,
   ((HB.out.setCell (p := ⟨g1, 0, none⟩) hn1 _).setCell (p := ⟨g1, 0, none⟩) hn1 _).setCell (p := ⟨g2, 0, none⟩) hn2 _⟩
theorem gcells_set : ∀ {l : List Trk.Clip} {xs : List Value} {k : Nat} (y : Value), xs.length = l.length → k < l.length → (gcells l xs).set (k * 22 + 21) y = gcells l (xs.set k y)
 | [], _, k, y, _, hk => by simp at hk
 | c :: l, [], k, y, h, _ => by simp at h
 | c :: l, x :: xs, 0, y, h, _ => by
  show (clipG c x ++ gcells l xs).set (0 * 22 + 21) y = clipG c y ++ gcells l xs
  rw [List.set_append_left _ _ (by rw [clipG_length]; decide)]
  rfl
 | c :: l, x :: xs, k + 1, y, h, hk => by
  show (clipG c x ++ gcells l xs).set ((k + 1) * 22 + 21) y = clipG c x ++ gcells l (xs.set k y)
  rw [List.set_append_right _ _ (by rw [clipG_length]; omega), clipG_length, show (k + 1) * 22 + 21 - 22 = k * 22 + 21 by omega, gcells_set y (by simpa using h) (by simpa using hk)]
def OGm (w : World) (B C : Nat) (v : Value) (l : List Trk.Clip) (k : Nat) : Prop :=
 ∃ xs : List Value, xs.length = l.length ∧ RowX w B 48 22 v l.length (gcells l xs) ∧ ∀ (i : Nat) c x, l[i]? = some c → xs[i]? = some x → Ch w (if i < k then 0 else C) x c.chan
theorem OG.mid {w : World} {B C : Nat} {v : Value} {l : List Trk.Clip} (h : OG w B C v l) : OGm w B C v l 0 := by
 obtain ⟨xs, h1, h2, h3⟩ := h
 exact ⟨xs, h1, h2, fun i c x hi hx => by rw [if_neg (Nat.not_lt_zero i)]; exact h3 i c x hi hx⟩
theorem OGm.all {w : World} {B C k : Nat} {v : Value} {l : List Trk.Clip} (h : OGm w B C v l k) (hk : l.length ≤ k) : OG w B 0 v l := by
 obtain ⟨xs, h1, h2, h3⟩ := h
 refine ⟨xs, h1, h2, fun i c x hi hx => ?_⟩
 have := h3 i c x hi hx
 rw [if_pos (Nat.lt_of_lt_of_le (List.getElem?_eq_some_iff.1 hi).1 hk)] at this
 exact this
theorem OGm.og {w : World} {B C k : Nat} {v : Value} {l : List Trk.Clip} (h : OGm w B C v l k) : OG w B C v l := by
 obtain ⟨xs, h1, h2, h3⟩ := h
 refine ⟨xs, h1, h2, fun i c x hi hx => (h3 i c x hi hx).up ?_⟩
 split <;> omega
theorem OGm.shape {w : World} {B C k : Nat} {v : Value} {l : List Trk.Clip} (h : OGm w B C v l k) : (v = .slice none 0 0 ∧ l = []) ∨ ∃ g cap, v = .slice (some ⟨g, 0, none⟩) l.length cap := h.og.shape
theorem OGm.cell {w : World} {B C k cap g n : Nat} {l : List Trk.Clip} (h : OGm w B C (.slice (some ⟨g, 0, none⟩) n cap) l k) {i : Nat} {c : Trk.Clip} (hi : l[i]? = some c) : ∃ x, GA w g (i * 22) c x ∧ Ch w C x c.chan := h.og.cell hi
theorem OGm.frozen {w : World} {B C k cap g n : Nat} {l : List Trk.Clip} (h : OGm w B C (.slice (some ⟨g, 0, none⟩) n cap) l k) (o : Nat) : w.frozen? ⟨g, o, none⟩ = false := h.og.frozen o
theorem OGm.lo {w : World} {B C k cap g n : Nat} {l : List Trk.Clip} (h : OGm w B C (.slice (some ⟨g, 0, none⟩) n cap) l k) : B ≤ g := h.og.blk.1
theorem OGm.below {w w' : World} {B C k : Nat} {v : Value} {l : List Trk.Clip} (h : OGm w B C v l k) (hb : Below w.heap.size w w') : OGm w' B C v l k := by
 obtain ⟨xs, h1, h2, h3⟩ := h
 exact ⟨xs, h1, h2.below hb, fun i c x hi hx => (h3 i c x hi hx).below hb⟩
theorem OGm.setCh {w : World} {B C k cap g n : Nat} {l : List Trk.Clip} {c : Trk.Clip} {y : Value} (h : OGm w B C (.slice (some ⟨g, 0, none⟩) n cap) l k) (hC : C ≤ B) (hc : l[k]? = some c) (hy : Ch w 0 y c.chan) :
  OGm (w.setCell ⟨g, k * 22 + 21, none⟩ y) B C (.slice (some ⟨g, 0, none⟩) n cap) l (k + 1) := by
 obtain ⟨hB, hkl, _, _, cur0, hg0, _⟩ := h.og.blk
 obtain ⟨xs, h1, h2, h3⟩ := h
 have hk := (List.getElem?_eq_some_iff.1 hc).1
 have hoth : ∀ b, b < w.heap.size → b ≠ g → (w.setCell ⟨g, k * 22 + 21, none⟩ y).heap[b]? = w.heap[b]? := fun b _ hn => setCells_other g b hn [y] _ w
 have hkeep : ∀ (D : Nat) (x : Value) (m : List Int), D ≤ g → Ch w D x m → Ch (w.setCell ⟨g, k * 22 + 21, none⟩ y) D x m := fun D x m hD hx => hx.far (by simp) hg0 (by decide) hD hoth
 subst hkl
 refine ⟨xs.set k y, by rw [List.length_set]; exact h1, ?_, fun i d x hi hx => ?_⟩
 ·rw [← gcells_set y h1 hk]
  exact h2.setCell (by rw [gcells_length h1]; omega) y
 ·rw [List.getElem?_set] at hx
  by_cases hik : k = i
  ·subst hik
   rw [if_pos rfl, if_pos (by omega)] at hx
   obtain rfl := Option.some.inj hx
   rw [hc] at hi
   obtain rfl := Option.some.inj hi
   rw [if_pos (by omega)]
   exact hkeep 0 _ _ (Nat.zero_le _) hy
  ·rw [if_neg hik] at hx
   have h4 := h3 i d x hi hx
   by_cases hlt : i < k
   ·rw [if_pos hlt] at h4
    rw [if_pos (by omega)]
    exact hkeep 0 _ _ (Nat.zero_le _) h4
   ·rw [if_neg hlt] at h4
    rw [if_neg (by omega)]
    exact hkeep C _ _ (by omega) h4
set_option maxRecDepth 100000 in
set_option maxHeartbeats 8000000 in
theorem clonelg_any (D : Nat) (v : Value) (l : List Trk.Clip) (w : World) (h : TG w D v l) (hl : l.length ≤ 1048576) : Calls Tryz.prog 90 #[v] w fun e w' => ∃ v', e = .returned v' ∧ OG w' w.heap.size w.heap.size v' l ∧ Below w.heap.size w w' := by
 replace h := h.base
 obtain ⟨Cc, hCc⟩ : ∃ C, C = w.heap.size := ⟨_, rfl⟩
 have HCC := Lib.hid (Nat.le_of_eq hCc)
 rw [← hCc] at h
 have HT := Lib.hid h
 obtain ⟨ao, cap, rfl, h1, h2, h3⟩ := h
 have hnil := fun w => Go.run_eql_slice_nil (P := Tryz.prog) w 23 48 ao l.length cap Tryz.underlying23
 cases ao with
 | none =>
  have e : l = [] := by
   cases l with
   | nil => rfl
   | cons c l => obtain ⟨b, o, x, e, _⟩ := h3 0 c rfl; cases e
  clear h3
  subst e
  simp only [List.length_nil, Option.isNone_none] at hnil HT ⊢
  go_enter Tryz.func90, Tryz.ntmps90
  go_wp2_with fail
  go_ret
  exact ⟨_, rfl, OG.nil _ _ _, Below.refl _ _⟩
 | some a =>
  clear h3
  simp only [Option.isNone_some] at hnil
  go_enter Tryz.func90, Tryz.ntmps90
  go_upto_region 3 with fail
  apply wp_region_lit
  iterate 3 go_step
  have hb := below_box w (.cells #[] 48)
  have hbo : OG (w.alloc (.cells #[] 48)) w.heap.size Cc (.slice (some ⟨w.heap.size, 0, none⟩) 0 0) [] := ⟨[], rfl, OT.room _ _ _ _ _ (Nat.le_refl _) (MapKept.heap_alloc w _).1 (by simp) (by unfold maxLen; omega), fun i c x h => by simp at h⟩
  obtain ⟨w1, hw1⟩ : ∃ x, x = w.alloc (.cells #[] 48) := ⟨_, rfl⟩
  rw [← hw1] at hb hbo ⊢
  replace HT := Lib.hid (HT.out.below hb)
  have HO := Lib.hid hbo
  have HB := Lib.hid hb
  clear hb hbo hw1 hnil
  iterate 3 go_step
  refine wpList_appG _ 23 23 Tryz.underlying23 Tryz.underlying23 rfl (.tmp 5) (.tmp 6) rfl w.heap.size Cc (.slice (some ⟨w.heap.size, 0, none⟩) 0 0) _ [] l rfl rfl HO.out HB.out.size HCC.out HT.out (by simpa using hl) ?_
  intro v9 w9 q1 q2 q3 q4
  simp only [Act.put, List.setIfInBounds_toArray, List.set_cons_succ, List.set_cons_zero]
  have HQ := Lib.hid (And.intro q1 (HB.out.trans q2))
  clear q1 q2 q3 q4
  go_wp2_with fail
  go_ret
  exact ⟨_, rfl, HQ.out.1.up HCC.out, HQ.out.2⟩
set_option maxRecDepth 100000 in
set_option maxHeartbeats 8000000 in
theorem clonetrackg_any (D : Nat) (v : Value) (l : List Trk.Clip) (w : World) (h : TG w D v l) (hl : l.length ≤ 1048576) (hch : ∀ c ∈ l, c.chan.length ≤ 1048576) : Calls Tryz.prog 48 #[v] w (OGPost w l) := by
 have HCH := Lib.hid hch
 clear hch
 have HT := Lib.hid h
 obtain ⟨ao, cap, rfl, -⟩ := h
 obtain ⟨N, hN⟩ : ∃ N, N = l.length := ⟨_, rfl⟩
 rw [← hN] at HT hl ⊢
 have HN := Lib.hid hN
 clear hN
 go_enter Tryz.func48, Tryz.ntmps48
 go_wp2_with fail
 refine (clonelg_any _ _ l w HT.out (by rw [← HN.out]; exact hl)).mono ?_
 rintro e w1 ⟨r, rfl, ho, hb⟩
 have HO := Lib.hid ho.mid
 have HB := Lib.hid hb
 obtain ⟨ra, rc, rfl, -⟩ := ho.tg
 rw [← HN.out] at HO ⊢
 clear ho hb
 go_upto_region 3 with fail
 go_loopw [9] (fun i wr => ∃ k : Nat, k ≤ N ∧ i = .int .i64 (k : Int) ∧ OGm wr w.heap.size w.heap.size (.slice ra N rc) l k ∧ Below w.heap.size w wr) (fun i _ => N - (intOf i).toNat)
 case atStart => exact ⟨0, Nat.zero_le _, rfl, HO.out, HB.out⟩
 case round =>
  obtain ⟨k, hk, rfl, ho, hb⟩ := hrel
  have HOK := Lib.hid ho
  have HBK := Lib.hid hb
  clear ho hb
  by_cases hlt : k < N
  ·have hlt' : (k : Int) < (N : Int) := by omega
   obtain ⟨c, hc⟩ : ∃ c, l[k]? = some c := ⟨_, List.getElem?_eq_getElem (by have := HN.out; omega)⟩
   rcases HOK.out.shape with ⟨-, e⟩ | ⟨g, cp, e⟩
   ·have := HN.out
    rw [e] at this
    simp only [List.length_nil] at this
    omega
   simp only [Value.slice.injEq] at e
   obtain ⟨rfl, -, rfl⟩ := e
   obtain ⟨x, hA, hX⟩ := HOK.out.cell hc
   obtain ⟨ax, cx, ex⟩ := hX.form
   obtain ⟨nx, hnx⟩ : ∃ n, n = c.chan.length := ⟨_, rfl⟩
   rw [← hnx] at ex
   subst ex
   have HX := Lib.hid hX.it
   have k21 := hA.k21
   clear hA hX hnx
   have kf := HOK.out.frozen (k * 22 + 21)
   have HC := Lib.hid hc
   clear hc
   go_upto_region 5 with fail
   go_wp2_with fail
   refine (clonei_any _ c.chan wr HX.out (HCH.out c (List.mem_of_getElem? HC.out))).mono ?_
   rintro e w2 ⟨y, rfl, hy, hb⟩
   obtain ⟨ay, cy, ey⟩ := hy.form
   obtain ⟨ny, hny⟩ : ∃ n, n = c.chan.length := ⟨_, rfl⟩
   rw [← hny] at ey
   subst ey
   replace HOK := Lib.hid (HOK.out.below hb)
   replace HBK := Lib.hid (HBK.out.trans (hb.mono HBK.out.size))
   have HO2 := Lib.hid (HOK.out.setCh (Nat.le_refl _) HC.out hy)
   have HB2 := Lib.hid (HBK.out.setCell (p := ⟨g, k * 22 + 21, none⟩) HOK.out.lo (.slice ay ny cy))
   obtain ⟨x2, hA, -⟩ := HOK.out.cell HC.out
   have k21' := hA.k21
   have kf' := HOK.out.frozen (k * 22 + 21)
   clear hb hy hny hA k21 kf
   go_wp2_with fail
   go_roundw
   case rel => exact ⟨k + 1, by omega, by simp, HO2.out, HB2.out⟩
   case measure =>
    simp [intOf]
    omega
  ·have hkn : k = N := by omega
   go_wp2_with fail
   go_ret
   exact ⟨_, rfl, HOK.out.all (by have := HN.out; omega), HBK.out⟩
set_option maxRecDepth 100000 in
set_option maxHeartbeats 40000000 in
theorem sameframeg_yes (c d : Trk.Clip) (x y : Value) (j k : Int) (w : World) (hix : IT w x c.chan) (hiy : IT w y d.chan) (hch : c.chan = d.chan) (fc : FrB c j) (fd : FrB d k) :
  Calls Tryz.prog 136 #[clipGV c x, .int .i64 j, clipGV d y, .int .i64 k] w fun e w' => e = .returned (.bool (decide (Trk.one c j = Trk.one d k))) ∧ Below w.heap.size w w' := by
 have HCH := Lib.hid hch
 obtain ⟨ax, cx, ex, -⟩ := id hix
 obtain ⟨ay, cy, ey, -⟩ := id hiy
 have HEI := Lib.hid (fun w1 (hb : Below w.heap.size w w1) => equali_any x y c.chan d.chan w1 (hix.below hb) (hiy.below hb))
 rw [decide_eq_true hch, ex, ey] at HEI
 rw [ex, ey]
 clear hix hiy ex ey hch
 obtain ⟨nx, hnx⟩ : ∃ n, n = c.chan.length := ⟨_, rfl⟩
 obtain ⟨ny, hny⟩ : ∃ n, n = d.chan.length := ⟨_, rfl⟩
 rw [← hnx, ← hny] at HEI ⊢
 clear hnx hny
 have S1 := Lib.hid (fun w => samesource_any c.a d.a j k w fc.a fd.a fc.pa fd.pa)
 have S2 := Lib.hid (fun w => samesource_any c.b d.b j k w fc.b fd.b fc.pb fd.pb)
 have HE := Lib.hid (Trk.one_eq (c := c) (d := d) j k fc.z fd.z)
 have o0 := fc.o0
 have o1 := fc.o1
 have o2 := fd.o0
 have o3 := fd.o1
 have j0 := fc.k0
 have j1 := fc.k1
 have k0 := fd.k0
 have k1 := fd.k1
 clear fc fd
 obtain ⟨D, hD⟩ : ∃ D, D = decide (Trk.one c j = Trk.one d k) := ⟨_, rfl⟩
 rw [← hD]
 have HD := Lib.hid hD
 clear hD
 obtain ⟨sa, hsa⟩ : ∃ s, s = decide (Trk.moved c.a j = Trk.moved d.a k) := ⟨_, rfl⟩
 obtain ⟨sb, hsb⟩ : ∃ s, s = decide (Trk.moved c.b j = Trk.moved d.b k) := ⟨_, rfl⟩
 rw [← hsa] at S1
 rw [← hsb] at S2
 have HSA := Lib.hid hsa
 have HSB := Lib.hid hsb
 clear hsa hsb
 unfold clipGV
 obtain ⟨C, hC⟩ : ∃ C, C = (clipG c (.slice ax nx cx)).toArray := ⟨_, rfl⟩
 obtain ⟨DD, hDD⟩ : ∃ DD, DD = (clipG d (.slice ay ny cy)).toArray := ⟨_, rfl⟩
 rw [← hC, ← hDD]
 have HCC := Lib.hid hC
 have HDD := Lib.hid hDD
 clear hC hDD
 go_enter Tryz.func136, Tryz.ntmps136
 go_upto_region 1 with fail
 obtain ⟨w1, hw1⟩ : ∃ x, x = (w.alloc (.cells C 48)).alloc (.cells DD 48) := ⟨_, rfl⟩
 rw [← hw1]
 rw [HCC.out, HDD.out] at hw1
 obtain ⟨hx, hy, hb1⟩ := boxG2_facts hw1
 obtain ⟨g1, hg1⟩ : ∃ g, g = w.heap.size := ⟨_, rfl⟩
 obtain ⟨g2, hg2⟩ : ∃ g, g = w.heap.size + 1 := ⟨_, rfl⟩
 rw [← hg2] at hy ⊢
 rw [← hg1] at hx ⊢
 have HB := Lib.hid hb1
 have HX := Lib.hid hx
 have HY := Lib.hid hy
 clear hw1 hb1 hg1 hg2
 obtain ⟨x0, x1, x2, x3, x4, x5, x6, x7, x8, x9, x10, x11, x12, x13, x14, x15, x16, x17, x18, x19, x20, x21⟩ := hx.c.at0
 obtain ⟨y0, y1, y2, y3, y4, y5, y6, y7, y8, y9, y10, y11, y12, y13, y14, y15, y16, y17, y18, y19, y20, y21⟩ := hy.c.at0
 clear hx hy x0 y0
 have HNO : ¬ (Trk.one c j = Trk.one d k) → false = D := fun h => by rw [HD.out]; exact (decide_eq_false h).symm
 replace HNO := Lib.hid HNO
 go_upto_region 3 with (go_at_call 107; refine (HEI.out _ HB.out).mono ?_; rintro e w' ⟨rfl, nq, rfl⟩)
 all_goals try
  go_ret
  refine ⟨ret_bool (HNO.out fun h => ?_), (by first | exact HB.out | exact below_drewN HB.out _)⟩
  obtain ⟨⟨h1, h2, h3, h4, h5, h6⟩, h7, h8, h9⟩ := HE.out.1 h
  first
  | contradiction
  | exact absurd (congrArg ByteArray.toList h4) (by assumption)
  | (exfalso; simp_all; done)
 rename_i hk ht hp htx hg K1 a1 K2 a2
 have HEQ := Lib.hid (show (Trk.shares c.kind = true → c.off + j = d.off + k) → D = (sa && sb) from fun hs => by
  have h := HE.out
  rw [HD.out, HSA.out, HSB.out, ← Bool.decide_and]
  exact decide_eq_decide.2 (h.trans ⟨fun h => h.2.2, fun h2 => ⟨⟨hk, ht, hp, bytes_inj2 htx, hg, HCH.out⟩, hs, h2.1, h2.2⟩⟩))
 have hbq : Below w1.heap.size w1 (w1.drewN nq) := below_drewN (Below.refl _ _) _
 replace HX := Lib.hid (HX.out.below hbq)
 replace HY := Lib.hid (HY.out.below hbq)
 replace HB := Lib.hid (HB.out.trans (hbq.mono HB.out.size))
 clear hbq x1 x2 x3 x4 x5 x6 x7 x8 x9 x10 x11 x12 x13 x14 x15 x16 y1 y2 y3 y4 y5 y6 y7 y8 y9 y10 y11 y12 y13 y14 y15 y16
 obtain ⟨w1q, hw1q⟩ : ∃ y, y = w1.drewN nq := ⟨_, rfl⟩
 rw [← hw1q] at HX HY HB ⊢
 clear hw1q
 obtain ⟨_, x1, x2, x3, x4, x5, x6, x7, x8, x9, x10, x11, x12, x13, x14, x15, x16, _⟩ := HX.out.c.at0
 obtain ⟨_, y1, y2, y3, y4, y5, y6, y7, y8, y9, y10, y11, y12, y13, y14, y15, y16, _⟩ := HY.out.c.at0
 clear ht hp htx hg x17 x18 x19 x20 x21 y17 y18 y19 y20 y21
 have HK := Lib.hid hk
 unfold srcC at S1 S2
 go_upto_region 5 with fail
 all_goals try
  go_ret
  refine ⟨ret_bool (HNO.out fun h => ?_), (by first | exact HB.out | exact below_drewN HB.out _)⟩
  obtain ⟨⟨h1, h2, h3, h4, h5, h6⟩, h7, h8, h9⟩ := HE.out.1 h
  first
  | contradiction
  | (exact absurd (h7 (by rw [h1]; simp_all [Trk.shares])) (by assumption))
  | (exfalso; simp_all [Trk.shares]; done)
 all_goals
  have hd : D = (sa && sb) := HEQ.out fun hs => by
   rw [hk] at hs
   first
   | (simp_all [Trk.shares]; done)
   | (have h2 : (c.off + j != d.off + k) = false := by assumption
      simpa using h2)
  have HDS := Lib.hid hd
  clear hd hk
  clear y1 x1 x16 y16
  go_wp2_with fail
  refine (S1.out _).mono ?_
  rintro e w2 ⟨rfl, hb⟩
  replace HX := Lib.hid (HX.out.below hb)
  replace HY := Lib.hid (HY.out.below hb)
  replace HB := Lib.hid (HB.out.trans (hb.mono HB.out.size))
  clear hb x2 x3 x4 x5 x6 x7 x8 x9 x10 x11 x12 x13 x14 x15 y2 y3 y4 y5 y6 y7 y8 y9 y10 y11 y12 y13 y14 y15
  obtain ⟨x0, x1, x2, x3, x4, x5, x6, x7, x8, x9, x10, x11, x12, x13, x14, x15, x16, x17, x18, x19, x20, x21⟩ := HX.out.c.at0
  obtain ⟨y0, y1, y2, y3, y4, y5, y6, y7, y8, y9, y10, y11, y12, y13, y14, y15, y16, y17, y18, y19, y20, y21⟩ := HY.out.c.at0
  cases sa
  ·go_wp2_with fail
   go_ret
   exact ⟨ret_bool (by rw [HDS.out]; rfl), HB.out⟩
  ·go_wp2_with fail
   refine (S2.out _).mono ?_
   rintro e w3 ⟨rfl, hb⟩
   replace HB := Lib.hid (HB.out.trans (hb.mono HB.out.size))
   clear hb
   go_wp2_with fail
   go_ret
   exact ⟨ret_bool (by rw [HDS.out]; rfl), HB.out⟩
set_option maxRecDepth 100000 in
set_option maxHeartbeats 40000000 in
theorem sameframeg_no (c d : Trk.Clip) (x y : Value) (j k : Int) (w : World) (hix : IT w x c.chan) (hiy : IT w y d.chan) (hch : c.chan ≠ d.chan) (fc : FrB c j) (fd : FrB d k) :
  Calls Tryz.prog 136 #[clipGV c x, .int .i64 j, clipGV d y, .int .i64 k] w fun e w' => e = .returned (.bool (decide (Trk.one c j = Trk.one d k))) ∧ Below w.heap.size w w' := by
 have HCH := Lib.hid hch
 obtain ⟨ax, cx, ex, -⟩ := id hix
 obtain ⟨ay, cy, ey, -⟩ := id hiy
 have HEI := Lib.hid (fun w1 (hb : Below w.heap.size w w1) => equali_any x y c.chan d.chan w1 (hix.below hb) (hiy.below hb))
 rw [decide_eq_false hch, ex, ey] at HEI
 rw [ex, ey]
 clear hix hiy ex ey hch
 obtain ⟨nx, hnx⟩ : ∃ n, n = c.chan.length := ⟨_, rfl⟩
 obtain ⟨ny, hny⟩ : ∃ n, n = d.chan.length := ⟨_, rfl⟩
 rw [← hnx, ← hny] at HEI ⊢
 clear hnx hny
 have S1 := Lib.hid (fun w => samesource_any c.a d.a j k w fc.a fd.a fc.pa fd.pa)
 have S2 := Lib.hid (fun w => samesource_any c.b d.b j k w fc.b fd.b fc.pb fd.pb)
 have HE := Lib.hid (Trk.one_eq (c := c) (d := d) j k fc.z fd.z)
 have o0 := fc.o0
 have o1 := fc.o1
 have o2 := fd.o0
 have o3 := fd.o1
 have j0 := fc.k0
 have j1 := fc.k1
 have k0 := fd.k0
 have k1 := fd.k1
 clear fc fd
 obtain ⟨D, hD⟩ : ∃ D, D = decide (Trk.one c j = Trk.one d k) := ⟨_, rfl⟩
 rw [← hD]
 have HD := Lib.hid hD
 clear hD
 obtain ⟨sa, hsa⟩ : ∃ s, s = decide (Trk.moved c.a j = Trk.moved d.a k) := ⟨_, rfl⟩
 obtain ⟨sb, hsb⟩ : ∃ s, s = decide (Trk.moved c.b j = Trk.moved d.b k) := ⟨_, rfl⟩
 rw [← hsa] at S1
 rw [← hsb] at S2
 have HSA := Lib.hid hsa
 have HSB := Lib.hid hsb
 clear hsa hsb
 unfold clipGV
 obtain ⟨C, hC⟩ : ∃ C, C = (clipG c (.slice ax nx cx)).toArray := ⟨_, rfl⟩
 obtain ⟨DD, hDD⟩ : ∃ DD, DD = (clipG d (.slice ay ny cy)).toArray := ⟨_, rfl⟩
 rw [← hC, ← hDD]
 have HCC := Lib.hid hC
 have HDD := Lib.hid hDD
 clear hC hDD
 go_enter Tryz.func136, Tryz.ntmps136
 go_upto_region 1 with fail
 obtain ⟨w1, hw1⟩ : ∃ x, x = (w.alloc (.cells C 48)).alloc (.cells DD 48) := ⟨_, rfl⟩
 rw [← hw1]
 rw [HCC.out, HDD.out] at hw1
 obtain ⟨hx, hy, hb1⟩ := boxG2_facts hw1
 obtain ⟨g1, hg1⟩ : ∃ g, g = w.heap.size := ⟨_, rfl⟩
 obtain ⟨g2, hg2⟩ : ∃ g, g = w.heap.size + 1 := ⟨_, rfl⟩
 rw [← hg2] at hy ⊢
 rw [← hg1] at hx ⊢
 have HB := Lib.hid hb1
 have HX := Lib.hid hx
 have HY := Lib.hid hy
 clear hw1 hb1 hg1 hg2
 obtain ⟨x0, x1, x2, x3, x4, x5, x6, x7, x8, x9, x10, x11, x12, x13, x14, x15, x16, x17, x18, x19, x20, x21⟩ := hx.c.at0
 obtain ⟨y0, y1, y2, y3, y4, y5, y6, y7, y8, y9, y10, y11, y12, y13, y14, y15, y16, y17, y18, y19, y20, y21⟩ := hy.c.at0
 clear hx hy x0 y0
 have HNO : ¬ (Trk.one c j = Trk.one d k) → false = D := fun h => by rw [HD.out]; exact (decide_eq_false h).symm
 replace HNO := Lib.hid HNO
 go_upto_region 3 with (go_at_call 107; refine (HEI.out _ HB.out).mono ?_; rintro e w' ⟨rfl, nq, rfl⟩)
 all_goals try
  go_ret
  refine ⟨ret_bool (HNO.out fun h => ?_), (by first | exact HB.out | exact below_drewN HB.out _)⟩
  obtain ⟨⟨h1, h2, h3, h4, h5, h6⟩, h7, h8, h9⟩ := HE.out.1 h
  first
  | exact absurd h6 HCH.out
  | contradiction
  | exact absurd (congrArg ByteArray.toList h4) (by assumption)
  | (exfalso; simp_all; done)
theorem sameframeg_any (c d : Trk.Clip) (x y : Value) (j k : Int) (w : World) (hix : IT w x c.chan) (hiy : IT w y d.chan) (fc : FrB c j) (fd : FrB d k) :
  Calls Tryz.prog 136 #[clipGV c x, .int .i64 j, clipGV d y, .int .i64 k] w fun e w' => e = .returned (.bool (decide (Trk.one c j = Trk.one d k))) ∧ Below w.heap.size w w' := by
 by_cases h : c.chan = d.chan
 ·exact sameframeg_yes c d x y j k w hix hiy h fc fd
 ·exact sameframeg_no c d x y j k w hix hiy h fc fd
theorem PosB.of {s : Trk.Src} {k : Int} (h : SrcOK s) (k0 : -4294967296 ≤ k) (k1 : k ≤ 4294967296) : PosB s k := by
 have hw := h.wide
 have hb := hw.bounds
 exact ⟨hb.2.1, hb.2.2.2.1, hw.l, h.a0, h.a1, h.s0, h.s1, k0, k1⟩
theorem VG.frb {c : Trk.Clip} (h : VG c) {k : Int} (k0 : -4294967296 ≤ k) (k1 : k ≤ 4294967296) : FrB c k := by
 have ho := h.off
 exact ⟨h.a.okw.okay, h.b.okw.okay, h.a.imp id fun h => PosB.of h k0 k1, h.b.imp id fun h => PosB.of h k0 k1, ho.2.2.1, ho.1, ho.2.1, k0, k1⟩
set_option maxRecDepth 100000 in
set_option maxHeartbeats 32000000 in
theorem prefixg_any (D1 D2 : Nat) (v u : Value) (n m : List Trk.Clip) (w : World) (h : TG w D1 v n) (h' : TG w D2 u m) (Vn : TV n) (Vm : TV m) :
  Calls Tryz.prog 92 #[v, u] w fun e w' => ∃ p, e = .returned (.int .i64 p) ∧ Trk.Pre n m p ∧ Below w.heap.size w w' := by
 have HT := Lib.hid h
 have HU := Lib.hid h'
 obtain ⟨ao, cap, rfl, hc1, hc2, -⟩ := h
 obtain ⟨bo, dap, rfl, hd1, hd2, -⟩ := h'
 have HGN := Lib.hid Vn.good
 have HGM := Lib.hid Vm.good
 have tn := Vn.t
 have tm := Vm.t
 have HSF := Lib.hid (fun (c d : Trk.Clip) (x y : Value) (hc : c ∈ n) (hd : d ∈ m) (j k : Int) (j0 : -4294967296 ≤ j) (j1 : j ≤ 4294967296) (k0 : -4294967296 ≤ k) (k1 : k ≤ 4294967296) (w : World) (hx : IT w x c.chan) (hy : IT w y d.chan) =>
  sameframeg_any c d x y j k w hx hy ((Vn.c c hc).frb j0 j1) ((Vm.c d hd).frb k0 k1))
 have HLN := Lib.hid (fun (c : Trk.Clip) (hc : c ∈ n) => And.intro (Vn.c c hc).l0 (Vn.c c hc).l1)
 have HLM := Lib.hid (fun (c : Trk.Clip) (hc : c ∈ m) => And.intro (Vm.c c hc).l0 (Vm.c c hc).l1)
 have nn := Vn.n
 have nm := Vm.n
 obtain ⟨N, hN⟩ : ∃ N, N = n.length := ⟨_, rfl⟩
 obtain ⟨M, hM⟩ : ∃ M, M = m.length := ⟨_, rfl⟩
 rw [← hN] at HT nn hc1 ⊢
 rw [← hM] at HU nm hd1 ⊢
 have HN := Lib.hid hN
 have HM := Lib.hid hM
 have TT := Lib.hid (And.intro tn tm)
 clear Vn Vm hN hM hc1 hc2 hd1 hd2 tn tm
 go_enter Tryz.func92, Tryz.ntmps92
 go_upto_region 4 with fail
 go_loopw [5, 6, 7, 8, 9] (fun v5 v6 v7 v8 v9 wr => ∃ (i j : Nat) (b s p : Int), v5 = .int .i64 p ∧ v6 = .int .i64 (i : Int) ∧ v7 = .int .i64 (j : Int) ∧ v8 = .int .i64 b ∧ v9 = .int .i64 s ∧ Trk.PreAt n m i j b s p ∧ Below w.heap.size w wr) (fun _ i j _ _ _ => (N - (intOf i).toNat) + (M - (intOf j).toNat))
 case atStart => exact ⟨0, 0, 0, 0, 0, rfl, rfl, rfl, rfl, rfl, Trk.PreAt.zero HGN.out HGM.out, Below.refl _ _⟩
 case round =>
  obtain ⟨i, j, b, s, p, rfl, rfl, rfl, rfl, rfl, hp, hb⟩ := hrel
  have HP := Lib.hid hp
  have HB := Lib.hid hb
  have li : i ≤ N := by have := hp.a.il; have := HN.out; omega
  have lj : j ≤ M := by have := hp.c.il; have := HM.out; omega
  have pb := hp.a.le HGN.out
  have pb2 : 0 ≤ p ∧ p ≤ 2147483647 := ⟨pb.1, Int.le_trans pb.2 TT.out.1⟩
  clear hp hb pb
  by_cases hi : i < N
  rotate_left
  ·have d1 : decide ((i : Int) < (N : Int)) = false := decide_eq_false (by omega)
   have hiN : i = N := by omega
   go_upto_region 4 with fail
   go_quiet (fail)
   go_wp2_with fail
   go_ret
   exact ⟨p, rfl, HP.out.done HGN.out HGM.out (.inl (hiN.trans HN.out)), below_drewN HB.out _⟩
  have d1 : decide ((i : Int) < (N : Int)) = true := decide_eq_true (by omega)
  by_cases hj : j < M
  rotate_left
  ·have d2 : decide ((j : Int) < (M : Int)) = false := decide_eq_false (by omega)
   have hjM : j = M := by omega
   go_upto_region 4 with fail
   go_quiet (fail)
   go_wp2_with fail
   go_ret
   exact ⟨p, rfl, HP.out.done HGN.out HGM.out (.inr (.inl (hjM.trans HM.out))), below_drewN HB.out _⟩
  have d2 : decide ((j : Int) < (M : Int)) = true := decide_eq_true (by omega)
  obtain ⟨c, hc⟩ : ∃ c, n[i]? = some c := ⟨_, List.getElem?_eq_getElem (by have := HN.out; omega)⟩
  obtain ⟨d, hd⟩ : ∃ d, m[j]? = some d := ⟨_, List.getElem?_eq_getElem (by have := HM.out; omega)⟩
  obtain ⟨ao', cap', e, _, _, hT⟩ := HT.out.below HB.out
  have e1 := HN.out
  simp only [Value.slice.injEq] at e
  obtain ⟨rfl, -, rfl⟩ := e
  obtain ⟨b1, o1, xc, rfl, hA, hX⟩ := hT i c hc
  obtain ⟨ax, cx, ex⟩ := hX.form
  obtain ⟨nx, hnx⟩ : ∃ n, n = c.chan.length := ⟨_, rfl⟩
  rw [← hnx] at ex
  subst ex
  have HIX := Lib.hid hX.it
  clear hX hnx
  obtain ⟨bo', dap', e, _, _, hU⟩ := HU.out.below HB.out
  simp only [Value.slice.injEq] at e
  obtain ⟨rfl, -, rfl⟩ := e
  obtain ⟨b2, o2, yc, rfl, hA2, hY⟩ := hU j d hd
  obtain ⟨ay, cy, ey⟩ := hY.form
  obtain ⟨ny, hny⟩ : ∃ n, n = d.chan.length := ⟨_, rfl⟩
  rw [← hny] at ey
  subst ey
  have HIY := Lib.hid hY.it
  clear hY hny
  have HA := Lib.hid hA
  have HA2 := Lib.hid hA2
  have HQ := Lib.hid (And.intro hc hd)
  have cl := HLN.out c (List.mem_of_getElem? hc)
  have dl := HLM.out d (List.mem_of_getElem? hd)
  have b0 := HP.out.a.b0
  have b01 := HP.out.a.b1 c hc
  have s0 := HP.out.c.b0
  have s01 := HP.out.c.b1 d hd
  have HSC := Lib.hid (fun w1 h1 h2 => HSF.out c d (.slice ax nx cx) (.slice ay ny cy) (List.mem_of_getElem? hc) (List.mem_of_getElem? hd) b s (by omega) (by omega) (by omega) (by omega) w1 h1 h2)
  unfold clipGV at HSC
  clear hT hU hA hA2 hc hd e1
  obtain ⟨C, hC⟩ : ∃ C, C = (clipG c (.slice ax nx cx)).toArray := ⟨_, rfl⟩
  obtain ⟨D, hD⟩ : ∃ D, D = (clipG d (.slice ay ny cy)).toArray := ⟨_, rfl⟩
  rw [← hC, ← hD] at HSC
  have HC := Lib.hid hC
  have HD := Lib.hid hD
  clear hC hD
  have i1 : (i : Int) < (N : Int) := by omega
  have j1 : (j : Int) < (M : Int) := by omega
  go_upto_region 4 with fail
  refine Plan.wp_region_plan (fun w' => GA w' b1 (o1 + i * 22) c (.slice ax nx cx) ∧ GA w' b2 (o2 + j * 22) d (.slice ay ny cy)) (([0, 1, 2, 3, 4, 5, 6, 7, 8, 9, 10, 11, 12, 13, 14, 15, 16, 17, 18, 19, 20].map (·, true)) ++ (([21].map (·, false)) ++ ([22].map (·, true)))) (by kernel_rfl) (by kernel_rfl) (by kernel_rfl) ⟨HA.out.below (Below.refl _ _).drew, HA2.out.below (Below.refl _ _).drew⟩ ?_
  refine' Plan.plan_seg _ [0, 1, 2, 3, 4, 5, 6, 7, 8, 9, 10, 11, 12, 13, 14, 15, 16, 17, 18, 19, 20] (([21].map (·, false)) ++ ([22].map (·, true))) (by kernel_rfl) (by kernel_rfl) rfl (by exact ⟨HA.out.below (Below.refl _ _).drew, HA2.out.below (Below.refl _ _).drew⟩) (fun wx hS => ?_) ?_
  rotate_left
  ·obtain ⟨S1, S2⟩ := hS
   have HS1 := Lib.hid S1
   have HS2 := Lib.hid S2
   clear S1 S2
   go_light
   iterate 14 (apply Plan.seg_pick; rfl; intro K hK; go_wp)
   (apply Plan.seg_pick; rfl; intro K hK)
   go_guarded
   refine wp_load_mid 48 _ rfl b1 (o1 + i * 22) rfl (clipG c (.slice ax nx cx)) _ HS1.out.range Tryz.underlying48 rfl (by kernel_rfl) ?_
   rw [← HC.out]
   go_wp
   iterate 4 (apply Plan.seg_pick; rfl; intro K hK; go_wp)
   (apply Plan.seg_pick; rfl; intro K hK)
   go_guarded
   refine wp_load_mid 48 _ rfl b2 (o2 + j * 22) rfl (clipG d (.slice ay ny cy)) _ HS2.out.range Tryz.underlying48 rfl (by kernel_rfl) ?_
   rw [← HD.out]
   go_wp
   iterate 1 (apply Plan.seg_pick; rfl; intro K hK; go_wp)
   exact Plan.seg_nil
  obtain ⟨w4, hw4⟩ : ∃ x, x = wr.drew := ⟨_, rfl⟩
  rw [← hw4]
  have hb : Below wr.heap.size wr w4 := by rw [hw4]; exact (Below.refl _ _).drew
  replace HA := Lib.hid (HA.out.below hb)
  replace HA2 := Lib.hid (HA2.out.below hb)
  replace HIX := Lib.hid (HIX.out.below hb)
  replace HIY := Lib.hid (HIY.out.below hb)
  replace HB := Lib.hid (HB.out.trans (hb.mono HB.out.size))
  clear hb hw4
  obtain ⟨r, hr⟩ : ∃ r, r = decide (Trk.one c b = Trk.one d s) := ⟨_, rfl⟩
  rw [← hr] at HSC
  have HR := Lib.hid hr
  clear hr
  refine Plan.plan_of_effect rfl (fun K hK => ?_)
  go_wp2_with fail
  refine (HSC.out _ HIX.out HIY.out).mono ?_
  rintro e w5 ⟨rfl, hb⟩
  replace HA := Lib.hid (HA.out.below hb)
  replace HA2 := Lib.hid (HA2.out.below hb)
  replace HB := Lib.hid (HB.out.trans (hb.mono HB.out.size))
  clear hb HSC
  go_wp2_with fail
  refine ⟨⟨HA.out, HA2.out⟩, ?_⟩
  refine' Plan.plan_seg _ [22] [] (by kernel_rfl) (by kernel_rfl) rfl (by exact ⟨HA.out, HA2.out⟩) (fun wx hS => ?_) ?_
  rotate_left
  ·clear hS
   go_light
   iterate 1 (apply Plan.seg_pick; rfl; intro K hK; go_wp)
   exact Plan.seg_nil
  refine Plan.plan_done ?_
  cases r with
  | false =>
   go_wp2_with fail
   go_ret
   exact ⟨p, rfl, HP.out.done HGN.out HGM.out (.inr (.inr ⟨c, d, HQ.out.1, HQ.out.2, of_decide_eq_false HR.out.symm⟩)), HB.out⟩
  | true =>
   obtain ⟨t, ht⟩ : ∃ t, t = min (c.len - b) (d.len - s) := ⟨_, rfl⟩
   have HN2 := Lib.hid (HP.out.step HGN.out HGM.out HQ.out.1 HQ.out.2 (of_decide_eq_true HR.out.symm) ht)
   have pt := HN2.out.a.le HGN.out
   have pt2 : p + t ≤ 2147483647 := Int.le_trans pt.2 TT.out.1
   have x0 := HA.out.k0
   have y0 := HA2.out.k0
   have t1 : 1 ≤ t := by omega
   have t2 : t ≤ c.len - b := by omega
   have t3 : t ≤ d.len - s := by omega
   have HBT := Lib.hid (show b + t = c.len ∨ s + t = d.len by omega)
   obtain ⟨x, hx⟩ : ∃ x, x = c.len - b := ⟨_, rfl⟩
   obtain ⟨y, hy⟩ : ∃ y, y = d.len - s := ⟨_, rfl⟩
   have e1 : c.len - b = x := hx.symm
   have e2 : d.len - s = y := hy.symm
   have HM1 := Lib.hid (show (x ≤ y ∧ t = x) ∨ (y < x ∧ t = y) by omega)
   have x1 : x ≤ 2147483647 := by omega
   have y1 : y ≤ 2147483647 := by omega
   have x2 : 1 ≤ x := by omega
   have y2 : 1 ≤ y := by omega
   clear pt ht hx hy
   go_upto_region 5 with fail
   go_cut [10] from 34 to 75 (fun v10 wx => v10 = .int .i64 (min x y) ∧ ∃ k, wx = w5.drewN k)
   case first J K' h1 h2 =>
    go_quiet (fail)
    refine h2 _ _ (Met.intro (h1 _ _ ?_))
    (repeat apply Exists.intro)
    exact ⟨⟨rfl, _, rfl⟩, rfl⟩
   case rest =>
   obtain ⟨rfl, k5, rfl⟩ := hcut
   have hc1 : min x y = t := by have := HM1.out; omega
   rw [hc1]
   clear e1 e2 x1 x2 y1 y2 hc1
   by_cases h1 : b + t = c.len
   ·have z1 : (b + t == c.len) = true := by simpa using h1
    by_cases h2 : s + t = d.len
    ·have z2 : (s + t == d.len) = true := by simpa using h2
     have HN3 := HN2.out
     rw [if_pos h1, if_pos h2, if_pos h1, if_pos h2] at HN3
     replace HN2 := Lib.hid HN3
     clear HN3 h1 h2
     go_wp2_with fail
     go_roundw
     case rel => exact ⟨i + 1, j + 1, 0, 0, p + t, rfl, by simp, by simp, rfl, rfl, HN2.out, below_drewN HB.out _⟩
     case measure => simp [intOf]; omega
    ·have z2 : (s + t == d.len) = false := by simpa using h2
     have HN3 := HN2.out
     rw [if_pos h1, if_neg h2, if_pos h1, if_neg h2] at HN3
     replace HN2 := Lib.hid HN3
     clear HN3 h1 h2
     go_wp2_with fail
     go_roundw
     case rel => exact ⟨i + 1, j, 0, s + t, p + t, rfl, by simp, by simp, rfl, rfl, HN2.out, below_drewN HB.out _⟩
     case measure => simp [intOf]; omega
   ·have z1 : (b + t == c.len) = false := by simpa using h1
    by_cases h2 : s + t = d.len
    ·have z2 : (s + t == d.len) = true := by simpa using h2
     have HN3 := HN2.out
     rw [if_neg h1, if_pos h2, if_neg h1, if_pos h2] at HN3
     replace HN2 := Lib.hid HN3
     clear HN3 h1 h2
     go_wp2_with fail
     go_roundw
     case rel => exact ⟨i, j + 1, b + t, 0, p + t, rfl, by simp, by simp, rfl, rfl, HN2.out, below_drewN HB.out _⟩
     case measure => simp [intOf]; omega
    ·exfalso
     exact HBT.out.elim h1 h2
set_option maxRecDepth 100000 in
set_option maxHeartbeats 32000000 in
theorem suffixg_any (D1 D2 : Nat) (v u : Value) (n m : List Trk.Clip) (lim : Int) (w : World) (h : TG w D1 v n) (h' : TG w D2 u m) (Vn : TV n) (Vm : TV m) (l0 : 0 ≤ lim) (l1 : lim ≤ Trk.total n) (l2 : lim ≤ Trk.total m) :
  Calls Tryz.prog 93 #[v, u, .int .i64 lim] w fun e w' => ∃ s, e = .returned (.int .i64 s) ∧ Trk.Suf n m lim s ∧ Below w.heap.size w w' := by
 have HT := Lib.hid h
 have HU := Lib.hid h'
 obtain ⟨ao, cap, rfl, hc1, hc2, -⟩ := h
 obtain ⟨bo, dap, rfl, hd1, hd2, -⟩ := h'
 have HGN := Lib.hid Vn.good
 have HGM := Lib.hid Vm.good
 have tn := Vn.t
 have tm := Vm.t
 have HSF := Lib.hid (fun (c d : Trk.Clip) (x y : Value) (hc : c ∈ n) (hd : d ∈ m) (j k : Int) (j0 : -4294967296 ≤ j) (j1 : j ≤ 4294967296) (k0 : -4294967296 ≤ k) (k1 : k ≤ 4294967296) (w : World) (hx : IT w x c.chan) (hy : IT w y d.chan) =>
  sameframeg_any c d x y j k w hx hy ((Vn.c c hc).frb j0 j1) ((Vm.c d hd).frb k0 k1))
 have HLN := Lib.hid (fun (c : Trk.Clip) (hc : c ∈ n) => And.intro (Vn.c c hc).l0 (Vn.c c hc).l1)
 have HLM := Lib.hid (fun (c : Trk.Clip) (hc : c ∈ m) => And.intro (Vm.c c hc).l0 (Vm.c c hc).l1)
 have nn := Vn.n
 have nm := Vm.n
 have lb : lim ≤ 2147483647 := by omega
 obtain ⟨N, hN⟩ : ∃ N, N = n.length := ⟨_, rfl⟩
 obtain ⟨M, hM⟩ : ∃ M, M = m.length := ⟨_, rfl⟩
 rw [← hN] at HT nn hc1 ⊢
 rw [← hM] at HU nm hd1 ⊢
 have HN := Lib.hid hN
 have HM := Lib.hid hM
 have TT := Lib.hid (And.intro l1 l2)
 have HL0 := Lib.hid l0
 have HZ := Lib.hid (show Trk.SufAt n m N M 0 0 0 by rw [hN, hM]; exact Trk.SufAt.zero Vn.good Vm.good)
 clear Vn Vm hN hM hc1 hc2 hd1 hd2 tn tm l1 l2
 go_enter Tryz.func93, Tryz.ntmps93
 go_upto_region 4 with fail
 go_loopw [7, 8, 9, 10, 11] (fun v7 v8 v9 v10 v11 wr => ∃ (i j : Nat) (b s p : Int), v7 = .int .i64 p ∧ v8 = .int .i64 ((i : Int) - 1) ∧ v9 = .int .i64 ((j : Int) - 1) ∧ v10 = .int .i64 b ∧ v11 = .int .i64 s ∧ Trk.SufAt n m i j b s p ∧ Below w.heap.size w wr) (fun _ i j _ _ _ => (intOf i + 1).toNat + (intOf j + 1).toNat)
 case atStart => exact ⟨N, M, 0, 0, 0, rfl, rfl, rfl, rfl, rfl, HZ.out, Below.refl _ _⟩
 case round =>
  obtain ⟨i, j, b, s, p, rfl, rfl, rfl, rfl, rfl, hp, hb⟩ := hrel
  have HP := Lib.hid hp
  have HB := Lib.hid hb
  have li : i ≤ N := by have := hp.a.il; have := HN.out; omega
  have lj : j ≤ M := by have := hp.c.il; have := HM.out; omega
  have p0 := hp.a.nonneg HGN.out
  have HDN := Lib.hid (fun hx => hp.done HGN.out HGM.out HL0.out TT.out.1 TT.out.2 hx)
  clear hp hb
  by_cases hpl : p < lim
  rotate_left
  ·have d1 : decide (p < lim) = false := decide_eq_false hpl
   have HD := Lib.hid (HDN.out (.inl (by omega)))
   clear hpl
   go_upto_region 4 with fail
   go_quiet (fail)
   go_wp2_with fail
   all_goals
    go_ret
    exact ⟨min p lim, ret_int (by omega), HD.out, below_drewN HB.out _⟩
  have d1 : decide (p < lim) = true := decide_eq_true hpl
  cases i with
  | zero =>
   have HD := Lib.hid (HDN.out (.inr (.inl rfl)))
   have ei : (((0 : Nat) : Int) - 1) = -1 := by omega
   rw [ei]
   clear ei
   have d2 : decide ((0 : Int) ≤ -1) = false := rfl
   go_upto_region 4 with fail
   go_quiet (fail)
   go_wp2_with fail
   all_goals
    go_ret
    exact ⟨min p lim, ret_int (by omega), HD.out, below_drewN HB.out _⟩
  | succ i =>
  cases j with
  | zero =>
   have HD := Lib.hid (HDN.out (.inr (.inr (.inl rfl))))
   have ei : (((0 : Nat) : Int) - 1) = -1 := by omega
   have ej : (((i + 1 : Nat) : Int) - 1) = (i : Int) := by omega
   rw [ei, ej]
   clear ei ej
   have d2 : decide ((0 : Int) ≤ (i : Int)) = true := decide_eq_true (by omega)
   have d3 : decide ((0 : Int) ≤ -1) = false := rfl
   go_upto_region 4 with fail
   go_quiet (fail)
   go_wp2_with fail
   all_goals
    go_ret
    exact ⟨min p lim, ret_int (by omega), HD.out, below_drewN HB.out _⟩
  | succ j =>
  have ei : (((i + 1 : Nat) : Int) - 1) = (i : Int) := by omega
  have ej : (((j + 1 : Nat) : Int) - 1) = (j : Int) := by omega
  rw [ei, ej]
  clear ei ej
  obtain ⟨c, hc⟩ : ∃ c, n[i]? = some c := ⟨_, List.getElem?_eq_getElem (by have := HN.out; omega)⟩
  obtain ⟨d, hd⟩ : ∃ d, m[j]? = some d := ⟨_, List.getElem?_eq_getElem (by have := HM.out; omega)⟩
  obtain ⟨ao', cap', e, _, _, hT⟩ := HT.out.below HB.out
  have e1 := HN.out
  simp only [Value.slice.injEq] at e
  obtain ⟨rfl, -, rfl⟩ := e
  obtain ⟨b1, o1, xc, rfl, hA, hX⟩ := hT i c hc
  obtain ⟨ax, cx, ex⟩ := hX.form
  obtain ⟨nx, hnx⟩ : ∃ n, n = c.chan.length := ⟨_, rfl⟩
  rw [← hnx] at ex
  subst ex
  have HIX := Lib.hid hX.it
  clear hX hnx
  obtain ⟨bo', dap', e, _, _, hU⟩ := HU.out.below HB.out
  simp only [Value.slice.injEq] at e
  obtain ⟨rfl, -, rfl⟩ := e
  obtain ⟨b2, o2, yc, rfl, hA2, hY⟩ := hU j d hd
  obtain ⟨ay, cy, ey⟩ := hY.form
  obtain ⟨ny, hny⟩ : ∃ n, n = d.chan.length := ⟨_, rfl⟩
  rw [← hny] at ey
  subst ey
  have HIY := Lib.hid hY.it
  clear hY hny
  have HA := Lib.hid hA
  have HA2 := Lib.hid hA2
  have HQ := Lib.hid (And.intro hc hd)
  have cl := HLN.out c (List.mem_of_getElem? hc)
  have dl := HLM.out d (List.mem_of_getElem? hd)
  have b0 := HP.out.a.b0
  have b01 := HP.out.a.b1 i c rfl hc
  have s0 := HP.out.c.b0
  have s01 := HP.out.c.b1 j d rfl hd
  have HSC := Lib.hid (fun w1 h1 h2 => HSF.out c d (.slice ax nx cx) (.slice ay ny cy) (List.mem_of_getElem? hc) (List.mem_of_getElem? hd) (c.len - 1 - b) (d.len - 1 - s) (by omega) (by omega) (by omega) (by omega) w1 h1 h2)
  unfold clipGV at HSC
  clear hT hU hA hA2 hc hd e1
  obtain ⟨C, hC⟩ : ∃ C, C = (clipG c (.slice ax nx cx)).toArray := ⟨_, rfl⟩
  obtain ⟨D, hD⟩ : ∃ D, D = (clipG d (.slice ay ny cy)).toArray := ⟨_, rfl⟩
  rw [← hC, ← hD] at HSC
  have HC := Lib.hid hC
  have HD := Lib.hid hD
  clear hC hD
  have i1 : (i : Int) < (N : Int) := by omega
  have j1 : (j : Int) < (M : Int) := by omega
  have d2 : decide ((0 : Int) ≤ (i : Int)) = true := decide_eq_true (by omega)
  have d3 : decide ((0 : Int) ≤ (j : Int)) = true := decide_eq_true (by omega)
  go_upto_region 4 with fail
  refine Plan.wp_region_plan (fun w' => GA w' b1 (o1 + i * 22) c (.slice ax nx cx) ∧ GA w' b2 (o2 + j * 22) d (.slice ay ny cy)) (([0, 1, 2, 3, 4, 5, 6, 7, 8, 9, 10, 11, 12, 13, 14, 15, 16, 17, 18, 19, 20, 21, 22, 23, 24, 25, 26, 27, 28, 29, 30, 31, 32, 33, 34, 35].map (·, true)) ++ (([36].map (·, false)) ++ ([37].map (·, true)))) (by kernel_rfl) (by kernel_rfl) (by kernel_rfl) ⟨HA.out.below (Below.refl _ _).drew, HA2.out.below (Below.refl _ _).drew⟩ ?_
  refine' Plan.plan_seg _ [0, 1, 2, 3, 4, 5, 6, 7, 8, 9, 10, 11, 12, 13, 14, 15, 16, 17, 18, 19, 20, 21, 22, 23, 24, 25, 26, 27, 28, 29, 30, 31, 32, 33, 34, 35] (([36].map (·, false)) ++ ([37].map (·, true))) (by kernel_rfl) (by kernel_rfl) rfl (by exact ⟨HA.out.below (Below.refl _ _).drew, HA2.out.below (Below.refl _ _).drew⟩) (fun wx hS => ?_) ?_
  rotate_left
  ·obtain ⟨S1, S2⟩ := hS
   have HS1 := Lib.hid S1
   have HS2 := Lib.hid S2
   have x0 := S1.k0
   have y0 := S2.k0
   clear S1 S2
   go_light
   iterate 15 (apply Plan.seg_pick; rfl; intro K hK; go_wp)
   (apply Plan.seg_pick; rfl; intro K hK)
   go_guarded
   refine wp_load_mid 48 _ rfl b1 (o1 + i * 22) rfl (clipG c (.slice ax nx cx)) _ HS1.out.range Tryz.underlying48 rfl (by kernel_rfl) ?_
   rw [← HC.out]
   go_wp
   iterate 11 (apply Plan.seg_pick; rfl; intro K hK; go_wp)
   (apply Plan.seg_pick; rfl; intro K hK)
   go_guarded
   refine wp_load_mid 48 _ rfl b2 (o2 + j * 22) rfl (clipG d (.slice ay ny cy)) _ HS2.out.range Tryz.underlying48 rfl (by kernel_rfl) ?_
   rw [← HD.out]
   go_wp
   iterate 8 (apply Plan.seg_pick; rfl; intro K hK; go_wp)
   exact Plan.seg_nil
  obtain ⟨w4, hw4⟩ : ∃ x, x = wr.drew := ⟨_, rfl⟩
  rw [← hw4]
  have hb : Below wr.heap.size wr w4 := by rw [hw4]; exact (Below.refl _ _).drew
  replace HA := Lib.hid (HA.out.below hb)
  replace HA2 := Lib.hid (HA2.out.below hb)
  replace HIX := Lib.hid (HIX.out.below hb)
  replace HIY := Lib.hid (HIY.out.below hb)
  replace HB := Lib.hid (HB.out.trans (hb.mono HB.out.size))
  clear hb hw4
  obtain ⟨r, hr⟩ : ∃ r, r = decide (Trk.one c (c.len - 1 - b) = Trk.one d (d.len - 1 - s)) := ⟨_, rfl⟩
  rw [← hr] at HSC
  have HR := Lib.hid hr
  clear hr
  refine Plan.plan_of_effect rfl (fun K hK => ?_)
  go_wp2_with fail
  refine (HSC.out _ HIX.out HIY.out).mono ?_
  rintro e w5 ⟨rfl, hb⟩
  replace HA := Lib.hid (HA.out.below hb)
  replace HA2 := Lib.hid (HA2.out.below hb)
  replace HB := Lib.hid (HB.out.trans (hb.mono HB.out.size))
  clear hb HSC
  go_wp2_with fail
  refine ⟨⟨HA.out, HA2.out⟩, ?_⟩
  refine' Plan.plan_seg _ [37] [] (by kernel_rfl) (by kernel_rfl) rfl (by exact ⟨HA.out, HA2.out⟩) (fun wx hS => ?_) ?_
  rotate_left
  ·clear hS
   go_light
   iterate 1 (apply Plan.seg_pick; rfl; intro K hK; go_wp)
   exact Plan.seg_nil
  refine Plan.plan_done ?_
  cases r with
  | false =>
   have HD := Lib.hid (HDN.out (.inr (.inr (.inr ⟨i, j, c, d, rfl, rfl, HQ.out.1, HQ.out.2, of_decide_eq_false HR.out.symm⟩))))
   go_wp2_with fail
   all_goals
    go_ret
    exact ⟨min p lim, ret_int (by omega), HD.out, HB.out⟩
  | true =>
   obtain ⟨t, ht⟩ : ∃ t, t = min (c.len - b) (d.len - s) := ⟨_, rfl⟩
   have HN2 := Lib.hid (HP.out.step HGN.out HGM.out HQ.out.1 HQ.out.2 (of_decide_eq_true HR.out.symm) ht)
   have x0 := HA.out.k0
   have y0 := HA2.out.k0
   have t1 : 1 ≤ t := by omega
   have t2 : t ≤ c.len - b := by omega
   have t3 : t ≤ d.len - s := by omega
   have HBT := Lib.hid (show b + t = c.len ∨ s + t = d.len by omega)
   obtain ⟨x, hx⟩ : ∃ x, x = c.len - b := ⟨_, rfl⟩
   obtain ⟨y, hy⟩ : ∃ y, y = d.len - s := ⟨_, rfl⟩
   have e1 : c.len - b = x := hx.symm
   have e2 : d.len - s = y := hy.symm
   have HM1 := Lib.hid (show (x ≤ y ∧ t = x) ∨ (y < x ∧ t = y) by omega)
   have x1 : x ≤ 2147483647 := by omega
   have y1 : y ≤ 2147483647 := by omega
   have x2 : 1 ≤ x := by omega
   have y2 : 1 ≤ y := by omega
   clear ht hx hy
   go_upto_region 5 with fail
   go_cut [12] from 57 to 98 (fun v12 wx => v12 = .int .i64 (min x y) ∧ ∃ k, wx = w5.drewN k)
   case first J K' h1 h2 =>
    go_quiet (fail)
    refine h2 _ _ (Met.intro (h1 _ _ ?_))
    (repeat apply Exists.intro)
    exact ⟨⟨rfl, _, rfl⟩, rfl⟩
   case rest =>
   obtain ⟨rfl, k5, rfl⟩ := hcut
   have hc1 : min x y = t := by have := HM1.out; omega
   rw [hc1]
   clear e1 e2 x1 x2 y1 y2 hc1
   by_cases h1 : b + t = c.len
   ·have z1 : (b + t == c.len) = true := by simpa using h1
    by_cases h2 : s + t = d.len
    ·have z2 : (s + t == d.len) = true := by simpa using h2
     have HN3 := HN2.out
     rw [if_pos h1, if_pos h2, if_pos h1, if_pos h2] at HN3
     replace HN2 := Lib.hid HN3
     clear HN3 h1 h2
     go_wp2_with fail
     go_roundw
     case rel => exact ⟨i, j, 0, 0, p + t, rfl, rfl, rfl, rfl, rfl, HN2.out, below_drewN HB.out _⟩
     case measure => simp [intOf] <;> omega
    ·have z2 : (s + t == d.len) = false := by simpa using h2
     have HN3 := HN2.out
     rw [if_pos h1, if_neg h2, if_pos h1, if_neg h2] at HN3
     replace HN2 := Lib.hid HN3
     clear HN3 h1 h2
     go_wp2_with fail
     go_roundw
     case rel => exact ⟨i, j + 1, 0, s + t, p + t, rfl, rfl, by simp, rfl, rfl, HN2.out, below_drewN HB.out _⟩
     case measure => simp [intOf] <;> omega
   ·have z1 : (b + t == c.len) = false := by simpa using h1
    by_cases h2 : s + t = d.len
    ·have z2 : (s + t == d.len) = true := by simpa using h2
     have HN3 := HN2.out
     rw [if_neg h1, if_pos h2, if_neg h1, if_pos h2] at HN3
     replace HN2 := Lib.hid HN3
     clear HN3 h1 h2
     go_wp2_with fail
     go_roundw
     case rel => exact ⟨i + 1, j, b + t, 0, p + t, rfl, by simp, rfl, rfl, rfl, HN2.out, below_drewN HB.out _⟩
     case measure => simp [intOf] <;> omega
    ·exfalso
     exact HBT.out.elim h1 h2
def DB (w : World) (g : Nat) : Prop := ∃ cur, w.heap[g]? = some (.cells cur 98 (0, 0))
theorem DB.lt {w : World} {g : Nat} (h : DB w g) : g < w.heap.size := by
 obtain ⟨cur, h⟩ := h
 exact (Array.getElem?_eq_some_iff.1 h).1
theorem DB.below {w w' : World} {g : Nat} (h : DB w g) (hb : Below w.heap.size w w') : DB w' g := by
 have hl := h.lt
 obtain ⟨cur, h⟩ := h
 exact ⟨cur, (hb.block g hl).trans h⟩
theorem DB.set {w : World} {g : Nat} (h : DB w g) {k o : Nat} (u : Value) : DB (w.setCell ⟨k, o, none⟩ u) g := by
 obtain ⟨cur, h⟩ := h
 by_cases e : k = g
 ·subst e
  exact ⟨cur.setIfInBounds o u, by simp [World.setCell, Array.getElem?_modify, h]⟩
 ·exact ⟨cur, by simp [World.setCell, Array.getElem?_modify, h, e]⟩
theorem OG.box {w : World} {B g : Nat} {v : Value} {l : List Trk.Clip} (h : OG w B 0 v l) (hd : DB w g) (hB : g < B) (o : Nat) (u : Value) : OG (w.setCell ⟨g, o, none⟩ u) B 0 v l := by
 obtain ⟨cur, hd⟩ := hd
 exact h.far (by simp) hd (by decide) (Nat.zero_le _) (h.row_ne hB) (fun b _ hn => by simp [World.setCell, Array.getElem?_modify, Ne.symm hn])
open Classical in
noncomputable def partE (l : List Trk.Clip) (a b : Int) : Int := if a = b ∨ okCut l a then 0 else 2
open Classical in
noncomputable def partR (l : List Trk.Clip) (a b : Int) : List Trk.Clip := if a = b ∨ okCut l a then partL l a b else []
set_option maxRecDepth 100000 in
set_option maxHeartbeats 8000000 in
theorem partg_any (D0 : Nat) (v : Value) (l : List Trk.Clip) (a b : Int) (w : World) (h : TG w D0 v l) (hV : TV l) (a0 : 0 ≤ a) (ab : a ≤ b) (b1 : b ≤ Trk.total l) :
  Calls Tryz.prog 94 #[v, .int .i64 a, .int .i64 b] w fun e w' => ∃ v', e = .returned (.tuple #[v', .int .i64 (partE l a b)]) ∧ OG w' w.heap.size 0 v' (partR l a b) ∧ Below w.heap.size w w' := by
 by_cases he : a = b
 ·subst he
  have e1 : partE l a a = 0 := if_pos (Or.inl rfl)
  have e2 : partR l a a = [] := by unfold partR partL; rw [if_pos (Or.inl rfl), if_pos rfl]
  rw [e1, e2]
  obtain ⟨ao, cap, rfl⟩ := h.form
  clear hV h e1 e2
  go_enter Tryz.func94, Tryz.ntmps94
  go_wp2_with fail
  go_ret2
  exact ⟨_, rfl, OG.nil _ _ _, Below.refl _ _⟩
 ·have HC := Lib.hid (cutg_any D0 v l a b w h hV a0 (by omega) (by have := hV.t; omega) (Nat.le_trans (Trk.cut_len hV.good a0 ab b1) hV.n))
  obtain ⟨ao, cap, rfl⟩ := h.form
  clear hV h
  have z : (a == b) = false := by simpa using he
  have HX := Lib.hid he
  clear he
  go_enter Tryz.func94, Tryz.ntmps94
  go_wp2_with fail
  refine HC.out.mono ?_
  rintro e w1 ⟨ho, hb⟩
  have HB := Lib.hid hb
  clear hb
  rcases ho with ⟨hok, v', rfl, ho⟩ | ⟨hok, rfl⟩
  ·have HO := Lib.hid ho
   have HK := Lib.hid hok
   clear ho hok
   go_wp2_with fail
   go_ret2
   refine ⟨v', ?_, ?_, HB.out⟩
   ·unfold partE
    rw [if_pos (Or.inr HK.out)]
    rfl
   ·unfold partR partL
    rw [if_pos (Or.inr HK.out), if_neg HX.out]
    exact HO.out
  ·have HK := Lib.hid hok
   clear hok
   go_wp2_with fail
   go_ret2
   refine ⟨.slice none 0 0, ?_, ?_, HB.out⟩
   ·unfold partE
    rw [if_neg (fun h => h.elim HX.out HK.out)]
    rfl
   ·unfold partR
    rw [if_neg (fun h => h.elim HX.out HK.out)]
    exact OG.nil _ _ _
def CmpG (w : World) (n m : List Trk.Clip) (e : Ending) (w' : World) : Prop :=
 ∃ p q xv, e = .returned (.agg #[.int .i64 p, .int .i64 q, xv, .int .i64 (partE m p (Trk.total m - (Trk.total n - q)))]) ∧ Trk.Diff n m p q (partL m p (Trk.total m - (Trk.total n - q))) ∧ OG w' w.heap.size 0 xv (partR m p (Trk.total m - (Trk.total n - q))) ∧ Below w.heap.size w w'
set_option maxRecDepth 100000 in
set_option maxHeartbeats 16000000 in
theorem compareg_any (D1 D2 : Nat) (v u : Value) (n m : List Trk.Clip) (w : World) (h : TG w D1 v n) (h' : TG w D2 u m) (Vn : TV n) (Vm : TV m) :
  Calls Tryz.prog 49 #[v, u] w (CmpG w n m) := by
 have HT := Lib.hid h
 have HU := Lib.hid h'
 have L1 := Lib.hid (fun (w : World) (h : TG w D1 v n) => lengthg_any D1 v n w h Vn)
 have L2 := Lib.hid (fun (w : World) (h : TG w D2 u m) => lengthg_any D2 u m w h Vm)
 have PX := Lib.hid (fun (w : World) (h : TG w D1 v n) (h' : TG w D2 u m) => prefixg_any D1 D2 v u n m w h h' Vn Vm)
 have SX := Lib.hid (fun (lim : Int) (w : World) (h : TG w D1 v n) (h' : TG w D2 u m) => suffixg_any D1 D2 v u n m lim w h h' Vn Vm)
 have PA := Lib.hid (fun (a b : Int) (w : World) (h' : TG w D2 u m) => partg_any D2 u m a b w h' Vm)
 have tn := Vn.t
 have tm := Vm.t
 have t0 := Trk.total_nonneg Vn.good
 have t1 := Trk.total_nonneg Vm.good
 obtain ⟨ao, cap, rfl, -⟩ := h
 obtain ⟨bo, dap, rfl, -⟩ := h'
 clear Vn Vm
 obtain ⟨N, hN⟩ : ∃ N, N = Trk.total n := ⟨_, rfl⟩
 obtain ⟨M, hM⟩ : ∃ M, M = Trk.total m := ⟨_, rfl⟩
 rw [← hN] at tn t0
 rw [← hM] at tm t1
 have HN := Lib.hid hN
 have HM := Lib.hid hM
 clear hN hM
 obtain ⟨ln, hln⟩ : ∃ k, k = n.length := ⟨_, rfl⟩
 obtain ⟨lm, hlm⟩ : ∃ k, k = m.length := ⟨_, rfl⟩
 rw [← hln] at HT L1 PX SX ⊢
 rw [← hlm] at HU L2 PX SX PA ⊢
 clear hln hlm
 go_enter Tryz.func49, Tryz.ntmps49
 go_upto_region 1 with fail
 obtain ⟨w1, hw1⟩ : ∃ z, z = w.alloc (.cells #[.int .i64 0, .int .i64 0, .slice none 0 0, .int .i64 0] 98) := ⟨_, rfl⟩
 obtain ⟨g, hg⟩ : ∃ g, g = w.heap.size := ⟨_, rfl⟩
 have hb : Below w.heap.size w w1 := by rw [hw1]; exact below_box _ _
 have HD := Lib.hid (show D4 w1 g 0 0 (.slice none 0 0) 0 by rw [hw1, hg]; exact ⟨by simp [go_sem], by simp [go_sem], by simp [go_sem], by simp [go_sem], fun o => by simp [go_sem]⟩)
 have HDB := Lib.hid (show DB w1 g by rw [hw1, hg]; exact ⟨_, (MapKept.heap_alloc w _).1⟩)
 rw [← hw1, ← hg]
 have HB := Lib.hid hb
 have HG := Lib.hid (show w.heap.size ≤ g by omega)
 replace HT := Lib.hid (HT.out.below hb)
 replace HU := Lib.hid (HU.out.below hb)
 clear hb hw1 hg
 go_wp2_with fail
 refine (L1.out _ HT.out).mono ?_
 rintro e w2 ⟨rfl, hb⟩
 replace HB := Lib.hid (HB.out.trans (hb.mono HB.out.size))
 replace HD := Lib.hid (HD.out.below hb)
 replace HDB := Lib.hid (HDB.out.below hb)
 replace HT := Lib.hid (HT.out.below hb)
 replace HU := Lib.hid (HU.out.below hb)
 rw [← HN.out]
 clear hb
 go_wp2_with fail
 refine (L2.out _ HU.out).mono ?_
 rintro e w3 ⟨rfl, hb⟩
 replace HB := Lib.hid (HB.out.trans (hb.mono HB.out.size))
 replace HD := Lib.hid (HD.out.below hb)
 replace HDB := Lib.hid (HDB.out.below hb)
 replace HT := Lib.hid (HT.out.below hb)
 replace HU := Lib.hid (HU.out.below hb)
 rw [← HM.out]
 clear hb
 go_wp2_with fail
 refine (PX.out _ HT.out HU.out).mono ?_
 rintro e w4 ⟨p, rfl, hp, hb⟩
 replace HB := Lib.hid (HB.out.trans (hb.mono HB.out.size))
 replace HD := Lib.hid (HD.out.below hb)
 replace HDB := Lib.hid (HDB.out.below hb)
 replace HT := Lib.hid (HT.out.below hb)
 replace HU := Lib.hid (HU.out.below hb)
 have HP := Lib.hid hp
 have p0 := hp.h0
 have p1 : p ≤ N := by rw [HN.out]; exact hp.h1
 have p2 : p ≤ M := by rw [HM.out]; exact hp.h2
 clear hb hp
 obtain ⟨k, hk⟩ : ∃ k, k = min N M := ⟨_, rfl⟩
 have HK := Lib.hid hk
 have k1 : k ≤ N := by omega
 have k2 : k ≤ M := by omega
 have k3 : p ≤ k := by omega
 clear hk
 go_upto_region 3 with fail
 apply wp_region_lit
 iterate 15 go_step
 rw [← HK.out]
 go_wp2_with fail
 refine (SX.out (k - p) _ HT.out HU.out (by omega) (by have := HN.out; omega) (by have := HM.out; omega)).mono ?_
 rintro e w5 ⟨s, rfl, hs, hb⟩
 replace HB := Lib.hid (HB.out.trans (hb.mono HB.out.size))
 replace HD := Lib.hid (HD.out.below hb)
 replace HDB := Lib.hid (HDB.out.below hb)
 replace HU := Lib.hid (HU.out.below hb)
 have HS := Lib.hid hs
 have s0 := hs.h0
 have s1 := hs.h1
 clear hb hs HT
 obtain ⟨q, hq⟩ : ∃ q, q = N - s := ⟨_, rfl⟩
 obtain ⟨r, hr⟩ : ∃ r, r = M - s := ⟨_, rfl⟩
 have eq1 : N - s = q := hq.symm
 have er1 : M - s = r := hr.symm
 have HQR := Lib.hid (And.intro hq hr)
 have q0 : p ≤ q := by omega
 have q1 : q ≤ 2147483647 := by omega
 have r0 : p ≤ r := by omega
 have r1 : r ≤ 2147483647 := by omega
 have r2 : r ≤ M := by omega
 clear hq hr
 go_upto_region 5 with fail
 obtain ⟨w6, hw6⟩ : ∃ z, z = w5.alloc (.cells #[.int .i64 p, .int .i64 q, .slice none 0 0, .int .i64 0] 98) := ⟨_, rfl⟩
 obtain ⟨g2, hg2⟩ : ∃ g, g = w5.heap.size := ⟨_, rfl⟩
 have hb : Below w5.heap.size w5 w6 := by rw [hw6]; exact below_box _ _
 have HE := Lib.hid (show D4 w6 g2 p q (.slice none 0 0) 0 by rw [hw6, hg2]; exact ⟨by simp [go_sem], by simp [go_sem], by simp [go_sem], by simp [go_sem], fun o => by simp [go_sem]⟩)
 have HEB := Lib.hid (show DB w6 g2 by rw [hw6, hg2]; exact ⟨_, (MapKept.heap_alloc w5 _).1⟩)
 rw [← hw6, ← hg2]
 have HG2 := Lib.hid (show w.heap.size ≤ g2 ∧ g ≠ g2 by have := HB.out.size; have := HD.out.lt; omega)
 replace HB := Lib.hid (HB.out.trans (hb.mono HB.out.size))
 replace HD := Lib.hid (HD.out.below hb)
 replace HDB := Lib.hid (HDB.out.below hb)
 replace HU := Lib.hid (HU.out.below hb)
 clear hb hw6 hg2
 go_wp2_with fail
 refine (PA.out p r _ HU.out p0 r0 (by have := HM.out; omega)).mono ?_
 rintro e w7 ⟨xv, rfl, ho, hb⟩
 obtain ⟨xa, xc, hxv⟩ := ho.tg.form
 have HO := Lib.hid ho
 have HLE := Lib.hid (And.intro HB.out.size (And.intro HD.out.lt HE.out.lt))
 replace HB := Lib.hid (HB.out.trans (hb.mono HB.out.size))
 replace HD := Lib.hid (HD.out.below hb)
 replace HDB := Lib.hid (HDB.out.below hb)
 replace HE := Lib.hid (HE.out.below hb)
 replace HEB := Lib.hid (HEB.out.below hb)
 clear hb ho
 obtain ⟨er, her⟩ : ∃ k, k = partE m p r := ⟨_, rfl⟩
 rw [← her]
 have HER := Lib.hid her
 clear her
 obtain ⟨xn, hxn⟩ : ∃ k, k = (partR m p r).length := ⟨_, rfl⟩
 rw [← hxn] at hxv
 subst hxv
 clear hxn
 obtain ⟨e0, e1, e2, e3, ef⟩ := HE.out
 obtain ⟨d0, d1, d2, d3, df⟩ := HD.out
 have n1 := HG2.out.2
 have n2 : g2 ≠ g := Ne.symm n1
 go_wp2_with fail
 have hr' : r = Trk.total m - (Trk.total n - q) := by
  rw [← HN.out, ← HM.out]
  have := HQR.out
  omega
 have hdf : Trk.Diff n m p q (partL m p (Trk.total m - (Trk.total n - q))) := by
  refine ⟨HP.out, ?_, rfl⟩
  have h1 : Trk.total n - q = s := by rw [← HN.out]; have := HQR.out; omega
  rw [h1, ← HN.out, ← HM.out, ← HK.out]
  exact HS.out
 have hg := HG.out
 have hg2 := HG2.out.1
 refine bodyPost_ret (results_diff (g := g) (p := p) (q := q) (x := .slice xa xn xc) (e := er) Tryz.results49 rfl ?_) rfl ⟨p, q, .slice xa xn xc, ?_, hdf, ?_, ?_⟩
 ·exact ⟨by simp [go_sem, d0, d1, d2, d3, df], by simp [go_sem, d0, d1, d2, d3, df], by simp [go_sem, d0, d1, d2, d3, df], by simp [go_sem, d0, d1, d2, d3, df], fun o => by simp [go_sem, df]⟩
 ·rw [← hr', ← HER.out]
 ·rw [← hr']
  obtain ⟨l1, l2, l3⟩ := HLE.out
  have h := HO.out
  have b1 := HDB.out
  have b2 := HEB.out
  have h1 := h.box b2 l3 2 (.slice xa xn xc)
  have b1 := b1.set (k := g2) (o := 2) (.slice xa xn xc)
  have b2 := b2.set (k := g2) (o := 2) (.slice xa xn xc)
  have h2 := h1.box b2 l3 3 (.int .i64 er)
  have b1 := b1.set (k := g2) (o := 3) (.int .i64 er)
  have h3 := h2.box b1 l2 0 (.int .i64 p)
  have b1 := b1.set (k := g) (o := 0) (.int .i64 p)
  have h4 := h3.box b1 l2 1 (.int .i64 q)
  have b1 := b1.set (k := g) (o := 1) (.int .i64 q)
  have h5 := h4.box b1 l2 2 (.slice xa xn xc)
  have b1 := b1.set (k := g) (o := 2) (.slice xa xn xc)
  have h6 := h5.box b1 l2 3 (.int .i64 er)
  exact h6.lower l1
 ·have h := HB.out
  exact (((((h.setCell (p := ⟨g2, 2, none⟩) hg2 _).setCell (p := ⟨g2, 3, none⟩) hg2 _).setCell (p := ⟨g, 0, none⟩) hg _).setCell (p := ⟨g, 1, none⟩) hg _).setCell (p := ⟨g, 2, none⟩) hg _).setCell (p := ⟨g, 3, none⟩) hg _
theorem TV.cl {l : List Trk.Clip} (h : TV l) : ∀ c ∈ l, c.chan.length ≤ 1048576 := fun c hc => by
 have := (h.c c hc).ch.1
 omega
theorem TV.nil : TV [] := ⟨by simp, fun c hc => (by cases hc), by show (0 : Int) ≤ _; decide⟩
theorem partR_tv {l : List Trk.Clip} (h : TV l) {a b : Int} (a0 : 0 ≤ a) (ab : a ≤ b) (b1 : b ≤ Trk.total l) : TV (partR l a b) := by
 unfold partR partL
 split
 ·rename_i ho
  split
  ·exact TV.nil
  ·rename_i hn
   have ht := h.t
   refine ⟨Nat.le_trans (Trk.cut_len h.good a0 ab b1) h.n, cut_vg h.l a0 ab (by omega) (ho.resolve_left hn), ?_⟩
   rw [(Trk.cut_of h.good a0 ab).t]
   omega
 ·exact TV.nil
theorem partE_or (l : List Trk.Clip) (a b : Int) : partE l a b = 0 ∨ partE l a b = 2 := by
 unfold partE
 split
 ·exact .inl rfl
 ·exact .inr rfl
theorem partR_of {l : List Trk.Clip} {a b : Int} (h : partE l a b = 0) : partR l a b = partL l a b := by
 unfold partE at h
 unfold partR
 split
 ·rfl
 ·rename_i hn
  rw [if_neg hn] at h
  exact absurd h (by decide)
theorem partL_tv {l : List Trk.Clip} (hl : TV l) {a b : Int} (a0 : 0 ≤ a) (ab : a ≤ b) (b1 : b ≤ Trk.total l) (h : partE l a b = 0) : TV (partL l a b) := by
 rw [← partR_of h]
 exact partR_tv hl a0 ab b1
def pieces (n : List Trk.Clip) (p1 q1 : Int) (x1 : List Trk.Clip) (p2 q2 : Int) (x2 : List Trk.Clip) : List (List Trk.Clip) := [partL n 0 p1, x1, partL n q1 p2, x2, partL n q2 (Trk.total n)]
def flatK (P : List (List Trk.Clip)) (k : Nat) : List Trk.Clip := (P.take k).flatten
theorem flatK_succ {P : List (List Trk.Clip)} {k : Nat} {x : List Trk.Clip} (h : P[k]? = some x) : flatK P (k + 1) = flatK P k ++ x := by
 unfold flatK
 rw [List.take_add_one, h]
 simp
theorem flatK_total_le {P : List (List Trk.Clip)} (h : ∀ l ∈ P, Trk.GoodL l) : ∀ k, Trk.total (flatK P k) ≤ Trk.total P.flatten := by
 intro k
 have e : P.flatten = flatK P k ++ (P.drop k).flatten := by unfold flatK; rw [← List.flatten_append, List.take_append_drop]
 rw [e, Trk.total_append]
 have : Trk.GoodL (P.drop k).flatten := fun c hc => by
  obtain ⟨l, hl, hcl⟩ := List.mem_flatten.1 hc
  exact h l (List.mem_of_mem_drop hl) c hcl
 have := Trk.total_nonneg this
 omega
theorem pk_pk_append {u v : List Trk.Clip} (gu : Trk.GoodL u) (gv : Trk.GoodL v) : Trk.pk (Trk.pk u ++ v) = Trk.pk (u ++ v) :=
 Trk.pk_eq ((Trk.pk_of gu).g.append gv) (gu.append gv) (Trk.Same.append (Trk.pk_of gu).g gu (Trk.pk_of gu).s (Trk.Same.refl _))
def GlueR (P : List (List Trk.Clip)) (code : Int) (x : List Trk.Clip) : Prop :=
 (code = 5 ∧ x = [] ∧ ∃ k, k ≤ P.length ∧ 64 < (Trk.pk (flatK P k)).length) ∨ (code = 0 ∧ x = Trk.nf P.flatten ∧ ∀ k, k ≤ P.length → (Trk.pk (flatK P k)).length ≤ 64)
def rpG (x y z : Int) (i lo hi : Nat) (v : Value) (w : World) : Prop := v = if i = 5 then .int .i64 x else if i = 6 then .int .i64 z else .int .i64 y
theorem rpG.ext {x y z : Int} (i lo hi : Nat) (v : Value) (w w' : World) (h : rpG x y z i lo hi v w) (hb : Plan.Ext w w') : rpG x y z i lo hi v w' := h
def rpS : List (Nat × Tmp) := [(5, 80), (6, 81), (9, 84)]
theorem nf_pk {u : List Trk.Clip} (g : Trk.GoodL u) : Trk.nf (Trk.pk u) = Trk.nf u := by
 unfold Trk.nf
 rw [Trk.pk_pk g]
theorem partL_total {l : List Trk.Clip} (h : Trk.GoodL l) {a b : Int} (a0 : 0 ≤ a) (ab : a ≤ b) : Trk.total (partL l a b) = b - a := by
 unfold partL
 split
 ·show (0 : Int) = _; omega
 ·exact (Trk.cut_of h a0 ab).t
def RepR (n : List Trk.Clip) (p1 q1 : Int) (x1 : List Trk.Clip) (p2 q2 : Int) (x2 : List Trk.Clip) (code : Int) (x : List Trk.Clip) : Prop :=
 (2147483647 < Trk.total (pieces n p1 q1 x1 p2 q2 x2).flatten ∧ code = 2 ∧ x = []) ∨ (Trk.total (pieces n p1 q1 x1 p2 q2 x2).flatten ≤ 2147483647 ∧ GlueR (pieces n p1 q1 x1 p2 q2 x2) code x)
def Two (n a b : List Trk.Clip) (p1 q1 : Int) (x1 : List Trk.Clip) (p2 q2 : Int) (x2 : List Trk.Clip) : Prop :=
 (Trk.Diff n a p1 q1 x1 ∧ Trk.Diff n b p2 q2 x2 ∧ ¬ q2 < p1) ∨ (Trk.Diff n b p1 q1 x1 ∧ Trk.Diff n a p2 q2 x2 ∧ q1 < p2)
def shortC (n a b : List Trk.Clip) : Prop := Trk.nf b = Trk.nf n ∨ Trk.nf b = Trk.nf a ∨ Trk.nf a = Trk.nf n
theorem D4.put {w : World} {g : Nat} {p q : Int} {x : Value} {e : Int} (h : D4 w g p q x e) (p' q' : Int) (x' : Value) (e' : Int) :
  D4 ((((w.setCell ⟨g, 0, none⟩ (.int .i64 p')).setCell ⟨g, 1, none⟩ (.int .i64 q')).setCell ⟨g, 2, none⟩ x').setCell ⟨g, 3, none⟩ (.int .i64 e')) g p' q' x' e' := by
 obtain ⟨h0, h1, h2, h3, hf⟩ := h
 exact ⟨by simp [go_sem, h0, h1, h2, h3, hf], by simp [go_sem, h0, h1, h2, h3, hf], by simp [go_sem, h0, h1, h2, h3, hf], by simp [go_sem, h0, h1, h2, h3, hf], fun o => by simp [go_sem, hf]⟩
theorem D4.other {w : World} {g : Nat} {p q : Int} {x : Value} {e : Int} (h : D4 w g p q x e) {g2 : Nat} (hn : g ≠ g2) (o : Nat) (u : Value) : D4 (w.setCell ⟨g2, o, none⟩ u) g p q x e := by
 obtain ⟨h0, h1, h2, h3, hf⟩ := h
 have hn2 := Ne.symm hn
 exact ⟨by simp [go_sem, h0, hn, hn2], by simp [go_sem, h1, hn, hn2], by simp [go_sem, h2, hn, hn2], by simp [go_sem, h3, hn, hn2], fun o => by simp [go_sem, hf]⟩
end Go.Proofs.YtfoohocgdcgbcaaGreat
