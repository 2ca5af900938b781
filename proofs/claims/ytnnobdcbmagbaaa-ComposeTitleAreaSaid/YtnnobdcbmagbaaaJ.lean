/- The contract of Wipe. -/
import Derived.Test.YtnnobdcbmagbaaaI
namespace Go.Proofs.Ytnnobdcbmagbaaa
open Go.RowKit

def okDir (d : Int) : Bool := decide (0 ≤ d ∧ d ≤ 3)
def wipeFr (num den d : Int) (F G : Fr) : Fr := ⟨F.W, F.H, F.nY, F.nU, F.nV, wipeF F.W F.H d num den F.Y G.Y, wipeF (F.W / 2) (F.H / 2) d num den F.U G.U, wipeF (F.W / 2) (F.H / 2) d num den F.V G.V⟩
theorem wipe_bd {W H d num den : Int} {n : Nat} {X Y : Nat → Int} (hX : ∀ i, i < n → 0 ≤ X i ∧ X i < 256) (hY : ∀ i, i < n → 0 ≤ Y i ∧ Y i < 256) (i : Nat) (hi : i < n) : 0 ≤ wipeF W H d num den X Y i ∧ wipeF W H d num den X Y i < 256 := by
  unfold wipeF
  split
  · exact hY i hi
  · exact hX i hi

set_option maxRecDepth 100000 in
set_option maxHeartbeats 2000000 in
theorem wipe_yes (v u : Value) (F G : Fr) (num den d : Int) (w : World) (hv : FA w v F) (hu : FA w u G) (hp : pairOk F G = true) (hs : okShare num den = true) (hd : okDir d = true) :
    Calls Try.prog 24 #[v, u, .int .i64 num, .int .i64 den, .int .i64 d] w fun e w' => ∃ r, e = .returned (.tuple #[r, .int .i64 0]) ∧ FA w' r (wipeFr num den d F G) ∧ Below w.heap.size w w' := by
  have hmf : ∀ (fn : Fn) (first cap : Array Value) (w : World), (Instr.makeFunc fn first cap).run Try.prog w = .ok (.func fn first cap) w := fun _ _ _ _ => rfl
  have hv0 := hv
  have hu0 := hu
  have B0 : ∀ o1 o2 o3 o4 o5 o6 o7, Below w.heap.size w (((((((w.alloc o1).alloc o2).alloc o3).alloc o4).alloc o5).alloc o6).alloc o7) := fun _ _ _ _ _ _ _ => by go_grown
  obtain ⟨y, u1, z, rfl, hy, hu1, hz⟩ := hv
  obtain ⟨y', u', z', rfl, hy', hu', hz'⟩ := hu
  have HP := Lib.hid hp
  have HS := Lib.hid hs
  obtain ⟨f1, f2, f3, f4, f5, f6, f7⟩ := pair_dims hp
  have fb := ok_bd f1
  obtain ⟨fs, fd1, fd2, fd3⟩ := ok_dims f1
  obtain ⟨s1, s2, s3, s4, _⟩ := okSize_bd fs
  rw [f5] at hy'
  rw [f6] at hu'
  rw [f7] at hz'
  simp only [okShare, decide_eq_true_eq] at hs
  simp only [okDir, decide_eq_true_eq] at hd
  obtain ⟨p1, q1, k1, rfl, l1, X1, Z1⟩ := hy.open (by omega)
  obtain ⟨p2, q2, k2, rfl, l2, X2, Z2⟩ := hu1.open (by omega)
  obtain ⟨p3, q3, k3, rfl, l3, X3, Z3⟩ := hz.open (by omega)
  obtain ⟨p4, q4, k4, rfl, l4, X4, Z4⟩ := hy'.open (by omega)
  obtain ⟨p5, q5, k5, rfl, l5, X5, Z5⟩ := hu'.open (by omega)
  obtain ⟨p6, q6, k6, rfl, l6, X6, Z6⟩ := hz'.open (by omega)
  obtain ⟨d1, d2, d3, d4⟩ := hs
  obtain ⟨g1, g2⟩ := hd
  obtain ⟨e1, e2, e3, e4, e5⟩ := fb
  have e6 : F.nV ≤ 1024 := by omega
  have e7 : 64 ≤ F.nV := by omega
  have E1 := Lib.hid fd1
  have E2 := Lib.hid fd2
  have E3 := Lib.hid fd3
  have BB := Lib.hid (And.intro Z1 (And.intro Z2 (And.intro Z3 (And.intro Z4 (And.intro Z5 Z6)))))
  clear e5 fd1 fd2 fd3 fs hp f1 f2 f3 f4 f5 f6 f7 hy hu1 hz hy' hu' hz' Z1 Z2 Z3 Z4 Z5 Z6
  go_enter_defers Try.func24, Try.ntmps24
  go_wp2_with fail
  refine (matching_any _ _ F G _ ?_ ?_).mono ?_
  · exact hv0.below (by go_grown)
  · exact hu0.below (by go_grown)
  rintro e w1 ⟨rfl, hb⟩
  rw [HP.out]
  have hc := fun (p : Addr) (h : p.block < w.heap.size + 7) => hb.cell (p := p) (by simpa using h)
  have hz := fun (p : Addr) (h : p.block < w.heap.size + 7) => hb.frozen (p := p) (by simpa using h)
  have a0 : w1.cell? ⟨w.heap.size, 0, none⟩ = some (.int .i64 F.W) := (hc _ (by simp)).trans (by simp [go_sem])
  have a1 : w1.cell? ⟨w.heap.size, 1, none⟩ = some (.int .i64 F.H) := (hc _ (by simp)).trans (by simp [go_sem])
  have a2 : w1.cell? ⟨w.heap.size, 2, none⟩ = some (.slice (some ⟨p1, q1, none⟩) F.nY k1) := (hc _ (by simp)).trans (by simp [go_sem])
  have a3 : w1.cell? ⟨w.heap.size, 3, none⟩ = some (.slice (some ⟨p2, q2, none⟩) F.nU k2) := (hc _ (by simp)).trans (by simp [go_sem])
  have a4 : w1.cell? ⟨w.heap.size, 4, none⟩ = some (.slice (some ⟨p3, q3, none⟩) F.nV k3) := (hc _ (by simp)).trans (by simp [go_sem])
  have b2 : w1.cell? ⟨w.heap.size + 1, 2, none⟩ = some (.slice (some ⟨p4, q4, none⟩) F.nY k4) := (hc _ (by simp)).trans (by simp [go_sem])
  have b3 : w1.cell? ⟨w.heap.size + 1, 3, none⟩ = some (.slice (some ⟨p5, q5, none⟩) F.nU k5) := (hc _ (by simp)).trans (by simp [go_sem])
  have b4 : w1.cell? ⟨w.heap.size + 1, 4, none⟩ = some (.slice (some ⟨p6, q6, none⟩) F.nV k6) := (hc _ (by simp)).trans (by simp [go_sem])
  have cn : w1.cell? ⟨w.heap.size + 2, 0, none⟩ = some (.int .i64 num) := (hc _ (by simp)).trans (by simp [go_sem])
  have cd : w1.cell? ⟨w.heap.size + 3, 0, none⟩ = some (.int .i64 den) := (hc _ (by simp)).trans (by simp [go_sem])
  have cq : w1.cell? ⟨w.heap.size + 4, 0, none⟩ = some (.int .i64 d) := (hc _ (by simp)).trans (by simp [go_sem])
  have r0 : w1.cell? ⟨w.heap.size + 5, 0, none⟩ = some (.int .i64 0) := (hc _ (by simp)).trans (by simp [go_sem])
  have r1 : w1.cell? ⟨w.heap.size + 5, 1, none⟩ = some (.int .i64 0) := (hc _ (by simp)).trans (by simp [go_sem])
  have r2 : w1.cell? ⟨w.heap.size + 5, 2, none⟩ = some (.slice none 0 0) := (hc _ (by simp)).trans (by simp [go_sem])
  have r3 : w1.cell? ⟨w.heap.size + 5, 3, none⟩ = some (.slice none 0 0) := (hc _ (by simp)).trans (by simp [go_sem])
  have r4 : w1.cell? ⟨w.heap.size + 5, 4, none⟩ = some (.slice none 0 0) := (hc _ (by simp)).trans (by simp [go_sem])
  have s0 : w1.cell? ⟨w.heap.size + 6, 0, none⟩ = some (.int .i64 0) := (hc _ (by simp)).trans (by simp [go_sem])
  have z4 : ∀ o, w1.frozen? ⟨w.heap.size + 5, o, none⟩ = false := fun o => (hz _ (by simp)).trans (by simp [go_sem])
  have z5 : w1.frozen? ⟨w.heap.size + 6, 0, none⟩ = false := (hz _ (by simp)).trans (by simp [go_sem])
  have hN : w.heap.size + 7 ≤ w1.heap.size := by have := hb.size; simpa using this
  have W1 : Below w.heap.size w w1.drew := ((B0 _ _ _ _ _ _ _).trans (hb.mono (by simp; omega))).drew
  clear hb hc hz
  go_wp2_with fail
  refine (validShare_any _ _ _).mono ?_
  rintro e wz ⟨rfl, rfl⟩
  rw [HS.out]
  go_wp2_with fail
  refine Plan.wp_region_plan (fun w' => Below (w.heap.size + 5) w1 w') (([0, 1, 2, 3, 4, 5, 6, 7, 8, 9, 10, 11, 12, 14, 15, 16, 17, 18, 19, 20, 21, 22, 23, 24, 26, 27, 28, 29, 30, 31, 32, 33, 34, 35, 36].map (·, true)) ++ (([13, 25, 37].map (·, false)) ++ (([38].map (·, true)) ++ (([39, 40].map (·, false)))))) (by kernel_rfl) (by kernel_rfl) (by kernel_rfl) (Below.refl _ _).drew ?_
  refine' Plan.plan_seg _ [0, 1, 2, 3, 4, 5, 6, 7, 8, 9, 10, 11, 12, 14, 15, 16, 17, 18, 19, 20, 21, 22, 23, 24, 26, 27, 28, 29, 30, 31, 32, 33, 34, 35, 36] (([13, 25, 37].map (·, false)) ++ (([38].map (·, true)) ++ (([39, 40].map (·, false))))) (by kernel_rfl) (by kernel_rfl) rfl (by exact (Below.refl _ _).drew) (fun wx hS => ?_) ?_
  rotate_left
  · have x0 := (hS.cell (p := ⟨w.heap.size, 0, none⟩) (by simp)).trans a0
    have x1 := (hS.cell (p := ⟨w.heap.size, 1, none⟩) (by simp)).trans a1
    have x2 := (hS.cell (p := ⟨w.heap.size, 2, none⟩) (by simp)).trans a2
    have x3 := (hS.cell (p := ⟨w.heap.size, 3, none⟩) (by simp)).trans a3
    have x4 := (hS.cell (p := ⟨w.heap.size, 4, none⟩) (by simp)).trans a4
    have y2 := (hS.cell (p := ⟨w.heap.size + 1, 2, none⟩) (by simp)).trans b2
    have y3 := (hS.cell (p := ⟨w.heap.size + 1, 3, none⟩) (by simp)).trans b3
    have y4 := (hS.cell (p := ⟨w.heap.size + 1, 4, none⟩) (by simp)).trans b4
    clear hS
    iterate 35 (apply Plan.seg_pick; rfl; intro K hK; go_wp)
    exact Plan.seg_nil
  refine Plan.plan_of_effect rfl (fun K hK => ?_)
  go_wp2_with fail
  refine (cover_any _ F.Y G.Y F.W F.H d num den _ _ _ _ _ _ _ _ _ _ (by omega) (by omega) (by omega) (by omega) (by omega) (by omega) E1.out ?_ l1 ?_ l4 d1 d2 d3 d4 ?_ ?_ ?_).mono ?_
  · intro i hi; rw [W1.cell (block_lt_of_cell (X1 i hi))]; exact X1 i hi
  · intro i hi; rw [W1.cell (block_lt_of_cell (X4 i hi))]; exact X4 i hi
  · exact cq
  · exact cd
  · exact cn
  rintro e w2 ⟨g1, c1, rfl, row1, hb1⟩
  have hN2 : w1.heap.size ≤ w2.heap.size := hb1.size
  have W2 : Below w.heap.size w w2 := W1.trans (hb1.mono (by simp; omega))
  have S2 : Below (w.heap.size + 5) w1 w2 := ((Below.refl _ _).drew).trans (hb1.mono (by simp; omega))
  have cq2 := (hb1.cell (p := ⟨w.heap.size + 4, 0, none⟩) (by simp; omega)).trans cq
  have cd2 := (hb1.cell (p := ⟨w.heap.size + 3, 0, none⟩) (by simp; omega)).trans cd
  have cn2 := (hb1.cell (p := ⟨w.heap.size + 2, 0, none⟩) (by simp; omega)).trans cn
  go_wp2_with fail
  refine ⟨S2, ?_⟩
  refine Plan.plan_of_effect rfl (fun K hK => ?_)
  go_wp2_with fail
  refine (cover_any _ F.U G.U (F.W / 2) (F.H / 2) d num den _ _ _ _ _ _ _ _ _ _ (by omega) (by omega) (by omega) (by omega) (by omega) (by omega) E2.out ?_ l2 ?_ l5 d1 d2 d3 d4 ?_ ?_ ?_).mono ?_
  · intro i hi; rw [W2.cell (block_lt_of_cell (X2 i hi))]; exact X2 i hi
  · intro i hi; rw [W2.cell (block_lt_of_cell (X5 i hi))]; exact X5 i hi
  · exact cq2
  · exact cd2
  · exact cn2
  rintro e w3 ⟨g2, c2, rfl, row2, hb2⟩
  have hN3 : w2.heap.size ≤ w3.heap.size := hb2.size
  have W3 : Below w.heap.size w w3 := W2.trans (hb2.mono (by omega))
  have S3 : Below (w.heap.size + 5) w1 w3 := S2.trans (hb2.mono (by omega))
  have cq3 := (hb2.cell (p := ⟨w.heap.size + 4, 0, none⟩) (by simp; omega)).trans cq2
  have cd3 := (hb2.cell (p := ⟨w.heap.size + 3, 0, none⟩) (by simp; omega)).trans cd2
  have cn3 := (hb2.cell (p := ⟨w.heap.size + 2, 0, none⟩) (by simp; omega)).trans cn2
  go_wp2_with fail
  refine ⟨S3, ?_⟩
  refine Plan.plan_of_effect rfl (fun K hK => ?_)
  go_wp2_with fail
  refine (cover_any _ F.V G.V (F.W / 2) (F.H / 2) d num den _ _ _ _ _ _ _ _ _ _ (by omega) (by omega) (by omega) (by omega) (by omega) (by omega) E3.out ?_ l3 ?_ l6 d1 d2 d3 d4 ?_ ?_ ?_).mono ?_
  · intro i hi; rw [W3.cell (block_lt_of_cell (X3 i hi))]; exact X3 i hi
  · intro i hi; rw [W3.cell (block_lt_of_cell (X6 i hi))]; exact X6 i hi
  · exact cq3
  · exact cd3
  · exact cn3
  rintro e w4 ⟨g3, c3, rfl, row3, hb3⟩
  have hN4 : w3.heap.size ≤ w4.heap.size := hb3.size
  have W4 : Below w.heap.size w w4 := W3.trans (hb3.mono (by omega))
  have S4 : Below (w.heap.size + 5) w1 w4 := S3.trans (hb3.mono (by omega))
  have S46 : Below (w.heap.size + 7) w1.drew w4 := ((hb1.mono (by simp; omega)).trans (hb2.mono (by omega))).trans (hb3.mono (by omega))
  have ry := (row1.below hb2).below hb3
  have ru := row2.below hb3
  have rv := row3
  have gg1 := row1.le
  have gg2 := row2.le
  have gg3 := row3.le
  have HR := Lib.hid (And.intro ry (And.intro ru rv))
  have r0' := (S46.cell (p := ⟨w.heap.size + 5, 0, none⟩) (by simp)).trans r0
  have r1' := (S46.cell (p := ⟨w.heap.size + 5, 1, none⟩) (by simp)).trans r1
  have r2' := (S46.cell (p := ⟨w.heap.size + 5, 2, none⟩) (by simp)).trans r2
  have r3' := (S46.cell (p := ⟨w.heap.size + 5, 3, none⟩) (by simp)).trans r3
  have r4' := (S46.cell (p := ⟨w.heap.size + 5, 4, none⟩) (by simp)).trans r4
  have s0' := (S46.cell (p := ⟨w.heap.size + 6, 0, none⟩) (by simp)).trans s0
  have z4' := fun o => (S46.frozen (p := ⟨w.heap.size + 5, o, none⟩) (by simp)).trans (z4 o)
  have z5' := (S46.frozen (p := ⟨w.heap.size + 6, 0, none⟩) (by simp)).trans z5
  clear row1 row2 row3 hb1 hb2 hb3 W1 W2 W3 S2 S3 cq2 cd2 cn2 cq3 cd3 cn3 S46 ry ru rv r0 r1 r2 r3 r4 s0 z4 z5 X1 X2 X3 X4 X5 X6
  go_wp2_with fail
  refine ⟨S4, ?_⟩
  refine' Plan.plan_seg _ [38] (([39, 40].map (·, false))) (by kernel_rfl) (by kernel_rfl) rfl (by exact S4) (fun wx hS => ?_) ?_
  rotate_left
  · iterate 1 (apply Plan.seg_pick; rfl; intro K hK; go_wp)
    exact Plan.seg_nil
  refine Plan.plan_of_effect rfl (fun K hK => ?_)
  go_wp2_with fail
  refine ⟨by go_grown, ?_⟩
  refine Plan.plan_of_effect rfl (fun K hK => ?_)
  go_wp2_with fail
  refine ⟨by go_grown, ?_⟩
  refine Plan.plan_done ?_
  go_wp2_with fail
  refine leaves_cons (f := 51) (args := #[.pointer (some ⟨w.heap.size + 1 + 1 + 1 + 1 + 1, 0, none⟩), .pointer (some ⟨w.heap.size + 1 + 1 + 1 + 1 + 1 + 1, 0, none⟩)]) (by simp) (by simp [go_sem]) ?_
  refine (idle51 _ _ _).mono ?_
  rintro e u' w'' ⟨rfl, rfl, rfl⟩
  simp [Leaves, settle, results, Try.results24, go_sem, r0', r1', r2', r3', r4', s0']
  simp at gg1
  obtain ⟨h1, h2, h3⟩ := HR.out
  obtain ⟨c1, c2, c3, c4, c5, c6⟩ := BB.out
  refine ⟨⟨_, _, _, rfl, ?_, ?_, ?_⟩, by go_grown⟩
  · refine Row.BA (B := w1.drew.heap.size) ?_ (fun i hi => wipe_bd c1 c4 i hi)
    repeat (refine Row.far ?_ (by simp; omega) _)
    exact h1
  · refine Row.BA (B := w2.heap.size) ?_ (fun i hi => wipe_bd c2 c5 i hi)
    repeat (refine Row.far ?_ (by simp; omega) _)
    exact h2
  · refine Row.BA (B := w3.heap.size) ?_ (fun i hi => wipe_bd c3 c6 i hi)
    repeat (refine Row.far ?_ (by simp; omega) _)
    exact h3

set_option maxRecDepth 100000 in
set_option maxHeartbeats 2000000 in
theorem wipe_no (v u : Value) (F G : Fr) (num den d : Int) (w : World) (hv : FA w v F) (hu : FA w u G) (hp : (pairOk F G && okShare num den && okDir d) = false) :
    Calls Try.prog 24 #[v, u, .int .i64 num, .int .i64 den, .int .i64 d] w fun e w' => e = .returned (.tuple #[zeroV, .int .i64 1]) ∧ Below w.heap.size w w' := by
  have hmf : ∀ (fn : Fn) (first cap : Array Value) (w : World), (Instr.makeFunc fn first cap).run Try.prog w = .ok (.func fn first cap) w := fun _ _ _ _ => rfl
  have hv0 := hv
  have hu0 := hu
  have B0 : ∀ o1 o2 o3 o4 o5 o6 o7, Below w.heap.size w (((((((w.alloc o1).alloc o2).alloc o3).alloc o4).alloc o5).alloc o6).alloc o7) := fun _ _ _ _ _ _ _ => by go_grown
  obtain ⟨y, u1, z, rfl, _, _, _⟩ := hv
  obtain ⟨y', u', z', rfl, _, _, _⟩ := hu
  have HV := Lib.hid hv0
  have HU := Lib.hid hu0
  have HP := Lib.hid hp
  clear hv0 hu0 hp
  go_enter_defers Try.func24, Try.ntmps24
  go_wp2_with fail
  refine (matching_any _ _ F G _ ?_ ?_).mono ?_
  · exact HV.out.below (by go_grown)
  · exact HU.out.below (by go_grown)
  rintro e w1 ⟨rfl, hb⟩
  have hc := fun (p : Addr) (h : p.block < w.heap.size + 7) => hb.cell (p := p) (by simpa using h)
  have hz := fun (p : Addr) (h : p.block < w.heap.size + 7) => hb.frozen (p := p) (by simpa using h)
  have cn : w1.cell? ⟨w.heap.size + 2, 0, none⟩ = some (.int .i64 num) := (hc _ (by simp)).trans (by simp [go_sem])
  have cd : w1.cell? ⟨w.heap.size + 3, 0, none⟩ = some (.int .i64 den) := (hc _ (by simp)).trans (by simp [go_sem])
  have cq : w1.cell? ⟨w.heap.size + 4, 0, none⟩ = some (.int .i64 d) := (hc _ (by simp)).trans (by simp [go_sem])
  have r0 : w1.cell? ⟨w.heap.size + 5, 0, none⟩ = some (.int .i64 0) := (hc _ (by simp)).trans (by simp [go_sem])
  have r1 : w1.cell? ⟨w.heap.size + 5, 1, none⟩ = some (.int .i64 0) := (hc _ (by simp)).trans (by simp [go_sem])
  have r2 : w1.cell? ⟨w.heap.size + 5, 2, none⟩ = some (.slice none 0 0) := (hc _ (by simp)).trans (by simp [go_sem])
  have r3 : w1.cell? ⟨w.heap.size + 5, 3, none⟩ = some (.slice none 0 0) := (hc _ (by simp)).trans (by simp [go_sem])
  have r4 : w1.cell? ⟨w.heap.size + 5, 4, none⟩ = some (.slice none 0 0) := (hc _ (by simp)).trans (by simp [go_sem])
  have s0 : w1.cell? ⟨w.heap.size + 6, 0, none⟩ = some (.int .i64 0) := (hc _ (by simp)).trans (by simp [go_sem])
  have z4 : ∀ o, w1.frozen? ⟨w.heap.size + 5, o, none⟩ = false := fun o => (hz _ (by simp)).trans (by simp [go_sem])
  have z5 : w1.frozen? ⟨w.heap.size + 6, 0, none⟩ = false := (hz _ (by simp)).trans (by simp [go_sem])
  have hN : w.heap.size + 7 ≤ w1.heap.size := by have := hb.size; simpa using this
  have W1 : Below w.heap.size w w1 := (B0 _ _ _ _ _ _ _).trans (hb.mono (by simp; omega))
  clear hb hc hz
  cases hpk : pairOk F G
  · have HK := Lib.hid hpk
    clear hpk
    go_wp2_with fail
    refine leaves_cons (f := 51) (args := #[.pointer (some ⟨w.heap.size + 1 + 1 + 1 + 1 + 1, 0, none⟩), .pointer (some ⟨w.heap.size + 1 + 1 + 1 + 1 + 1 + 1, 0, none⟩)]) (by simp) (by simp [go_sem]) ?_
    refine (idle51 _ _ _).mono ?_
    rintro e u' w'' ⟨rfl, rfl, rfl⟩
    simp [Leaves, settle, results, Try.results24, go_sem, r0, r1, r2, r3, r4, s0, zeroV]
    go_grown
  · cases hs : okShare num den
    · have HK := Lib.hid hpk
      have HS := Lib.hid hs
      clear hpk hs
      go_wp2_with fail
      refine (validShare_any _ _ _).mono ?_
      rintro e w2 ⟨rfl, rfl⟩
      rw [HS.out]
      go_wp2_with fail
      refine leaves_cons (f := 51) (args := #[.pointer (some ⟨w.heap.size + 1 + 1 + 1 + 1 + 1, 0, none⟩), .pointer (some ⟨w.heap.size + 1 + 1 + 1 + 1 + 1 + 1, 0, none⟩)]) (by simp) (by simp [go_sem]) ?_
      refine (idle51 _ _ _).mono ?_
      rintro e u' w'' ⟨rfl, rfl, rfl⟩
      simp [Leaves, settle, results, Try.results24, go_sem, r0, r1, r2, r3, r4, s0, zeroV]
      go_grown
    · have hd : okDir d = false := by have := HP.out; simpa [hpk, hs] using this
      have HK := Lib.hid hpk
      have HS := Lib.hid hs
      simp only [okDir, decide_eq_false_iff_not] at hd
      clear hpk hs
      by_cases hd0 : d < 0
      · clear hd
        go_wp2_with fail
        refine (validShare_any _ _ _).mono ?_
        rintro e w2 ⟨rfl, rfl⟩
        rw [HS.out]
        go_wp2_with fail
        refine leaves_cons (f := 51) (args := #[.pointer (some ⟨w.heap.size + 1 + 1 + 1 + 1 + 1, 0, none⟩), .pointer (some ⟨w.heap.size + 1 + 1 + 1 + 1 + 1 + 1, 0, none⟩)]) (by simp) (by simp [go_sem]) ?_
        refine (idle51 _ _ _).mono ?_
        rintro e u' w'' ⟨rfl, rfl, rfl⟩
        simp [Leaves, settle, results, Try.results24, go_sem, r0, r1, r2, r3, r4, s0, zeroV]
        go_grown
      · have hd3 : 3 < d := by omega
        clear hd
        go_wp2_with fail
        refine (validShare_any _ _ _).mono ?_
        rintro e w2 ⟨rfl, rfl⟩
        rw [HS.out]
        go_wp2_with fail
        refine leaves_cons (f := 51) (args := #[.pointer (some ⟨w.heap.size + 1 + 1 + 1 + 1 + 1, 0, none⟩), .pointer (some ⟨w.heap.size + 1 + 1 + 1 + 1 + 1 + 1, 0, none⟩)]) (by simp) (by simp [go_sem]) ?_
        refine (idle51 _ _ _).mono ?_
        rintro e u' w'' ⟨rfl, rfl, rfl⟩
        simp [Leaves, settle, results, Try.results24, go_sem, r0, r1, r2, r3, r4, s0, zeroV]
        go_grown

end Go.Proofs.Ytnnobdcbmagbaaa
