/- Texts of this claim joined: J K T PA LA. -/
import Derived.DeepKeys
import Derived.Test.YtnnobdcbmagbaaaEv00
import Derived.Test.YtnnobdcbmagbaaaEv02
import Derived.Test.YtnnobdcbmagbaaaEv03
set_option linter.unusedVariables false
set_option linter.unusedSimpArgs false

/- The contract of Wipe. -/
namespace Go.Proofs.Ytnnobdcbmagbaaa
open Go.RowKit

def okDir (d : Int) : Bool := decide (0 ≤ d ∧ d ≤ 3)
def wipeFr (num den d : Int) (F G : Fr) : Fr := ⟨F.W, F.H, F.nY, F.nU, F.nV, wipeF F.W F.H d num den F.Y G.Y, wipeF (F.W / 2) (F.H / 2) d num den F.U G.U, wipeF (F.W / 2) (F.H / 2) d num den F.V G.V⟩
theorem wipe_bd {W H d num den : Int} {n : Nat} {X Y : Nat → Int} (hX : ∀ i, i < n → 0 ≤ X i ∧ X i < 256) (hY : ∀ i, i < n → 0 ≤ Y i ∧ Y i < 256) (i : Nat) (hi : i < n) : 0 ≤ wipeF W H d num den X Y i ∧ wipeF W H d num den X Y i < 256 := by
  unfold wipeF
  split
  · exact hY i hi
  · exact hX i hi

set_option maxRecDepth 100000 in
set_option maxHeartbeats 2000000 in
theorem wipe_yes (v u : Value) (F G : Fr) (num den d : Int) (w : World) (hv : FA w v F) (hu : FA w u G) (hp : pairOk F G = true) (hs : okShare num den = true) (hd : okDir d = true) :
    Calls Try.prog 24 #[v, u, .int .i64 num, .int .i64 den, .int .i64 d] w fun e w' => ∃ r, e = .returned (.tuple #[r, .int .i64 0]) ∧ FA w' r (wipeFr num den d F G) ∧ Below w.heap.size w w' := by
  have hmf : ∀ (fn : Fn) (first cap : Array Value) (w : World), (Instr.makeFunc fn first cap).run Try.prog w = .ok (.func fn first cap) w := fun _ _ _ _ => rfl
  have hv0 := hv
  have hu0 := hu
  have B0 : ∀ o1 o2 o3 o4 o5 o6 o7, Below w.heap.size w (((((((w.alloc o1).alloc o2).alloc o3).alloc o4).alloc o5).alloc o6).alloc o7) := fun _ _ _ _ _ _ _ => by go_grown
  obtain ⟨y, u1, z, rfl, hy, hu1, hz⟩ := hv
  obtain ⟨y', u', z', rfl, hy', hu', hz'⟩ := hu
  have HP := Lib.hid hp
  have HS := Lib.hid hs
  obtain ⟨f1, f2, f3, f4, f5, f6, f7⟩ := pair_dims hp
  have fb := ok_bd f1
  obtain ⟨fs, fd1, fd2, fd3⟩ := ok_dims f1
  obtain ⟨s1, s2, s3, s4, _⟩ := okSize_bd fs
  rw [f5] at hy'
  rw [f6] at hu'
  rw [f7] at hz'
  simp only [okShare, decide_eq_true_eq] at hs
  simp only [okDir, decide_eq_true_eq] at hd
  obtain ⟨p1, q1, k1, rfl, l1, X1, Z1⟩ := hy.open (by omega)
  obtain ⟨p2, q2, k2, rfl, l2, X2, Z2⟩ := hu1.open (by omega)
  obtain ⟨p3, q3, k3, rfl, l3, X3, Z3⟩ := hz.open (by omega)
  obtain ⟨p4, q4, k4, rfl, l4, X4, Z4⟩ := hy'.open (by omega)
  obtain ⟨p5, q5, k5, rfl, l5, X5, Z5⟩ := hu'.open (by omega)
  obtain ⟨p6, q6, k6, rfl, l6, X6, Z6⟩ := hz'.open (by omega)
  obtain ⟨d1, d2, d3, d4⟩ := hs
  obtain ⟨g1, g2⟩ := hd
  obtain ⟨e1, e2, e3, e4, e5⟩ := fb
  have e6 : F.nV ≤ 1024 := by omega
  have e7 : 64 ≤ F.nV := by omega
  have E1 := Lib.hid fd1
  have E2 := Lib.hid fd2
  have E3 := Lib.hid fd3
  have BB := Lib.hid (And.intro Z1 (And.intro Z2 (And.intro Z3 (And.intro Z4 (And.intro Z5 Z6)))))
  clear e5 fd1 fd2 fd3 fs hp f1 f2 f3 f4 f5 f6 f7 hy hu1 hz hy' hu' hz' Z1 Z2 Z3 Z4 Z5 Z6
  go_enter_defers Try.func24, Try.ntmps24
  go_wp2_with fail
  refine (matching_any _ _ F G _ ?_ ?_).mono ?_
  · exact hv0.below (by go_grown)
  · exact hu0.below (by go_grown)
  rintro e w1 ⟨rfl, hb⟩
  rw [HP.out]
  have hc := fun (p : Addr) (h : p.block < w.heap.size + 7) => hb.cell (p := p) (by simpa using h)
  have hz := fun (p : Addr) (h : p.block < w.heap.size + 7) => hb.frozen (p := p) (by simpa using h)
  have a0 : w1.cell? ⟨w.heap.size, 0, none⟩ = some (.int .i64 F.W) := (hc _ (by simp)).trans (by simp [go_sem])
  have a1 : w1.cell? ⟨w.heap.size, 1, none⟩ = some (.int .i64 F.H) := (hc _ (by simp)).trans (by simp [go_sem])
  have a2 : w1.cell? ⟨w.heap.size, 2, none⟩ = some (.slice (some ⟨p1, q1, none⟩) F.nY k1) := (hc _ (by simp)).trans (by simp [go_sem])
  have a3 : w1.cell? ⟨w.heap.size, 3, none⟩ = some (.slice (some ⟨p2, q2, none⟩) F.nU k2) := (hc _ (by simp)).trans (by simp [go_sem])
  have a4 : w1.cell? ⟨w.heap.size, 4, none⟩ = some (.slice (some ⟨p3, q3, none⟩) F.nV k3) := (hc _ (by simp)).trans (by simp [go_sem])
  have b2 : w1.cell? ⟨w.heap.size + 1, 2, none⟩ = some (.slice (some ⟨p4, q4, none⟩) F.nY k4) := (hc _ (by simp)).trans (by simp [go_sem])
  have b3 : w1.cell? ⟨w.heap.size + 1, 3, none⟩ = some (.slice (some ⟨p5, q5, none⟩) F.nU k5) := (hc _ (by simp)).trans (by simp [go_sem])
  have b4 : w1.cell? ⟨w.heap.size + 1, 4, none⟩ = some (.slice (some ⟨p6, q6, none⟩) F.nV k6) := (hc _ (by simp)).trans (by simp [go_sem])
  have cn : w1.cell? ⟨w.heap.size + 2, 0, none⟩ = some (.int .i64 num) := (hc _ (by simp)).trans (by simp [go_sem])
  have cd : w1.cell? ⟨w.heap.size + 3, 0, none⟩ = some (.int .i64 den) := (hc _ (by simp)).trans (by simp [go_sem])
  have cq : w1.cell? ⟨w.heap.size + 4, 0, none⟩ = some (.int .i64 d) := (hc _ (by simp)).trans (by simp [go_sem])
  have r0 : w1.cell? ⟨w.heap.size + 5, 0, none⟩ = some (.int .i64 0) := (hc _ (by simp)).trans (by simp [go_sem])
  have r1 : w1.cell? ⟨w.heap.size + 5, 1, none⟩ = some (.int .i64 0) := (hc _ (by simp)).trans (by simp [go_sem])
  have r2 : w1.cell? ⟨w.heap.size + 5, 2, none⟩ = some (.slice none 0 0) := (hc _ (by simp)).trans (by simp [go_sem])
  have r3 : w1.cell? ⟨w.heap.size + 5, 3, none⟩ = some (.slice none 0 0) := (hc _ (by simp)).trans (by simp [go_sem])
  have r4 : w1.cell? ⟨w.heap.size + 5, 4, none⟩ = some (.slice none 0 0) := (hc _ (by simp)).trans (by simp [go_sem])
  have s0 : w1.cell? ⟨w.heap.size + 6, 0, none⟩ = some (.int .i64 0) := (hc _ (by simp)).trans (by simp [go_sem])
  have z4 : ∀ o, w1.frozen? ⟨w.heap.size + 5, o, none⟩ = false := fun o => (hz _ (by simp)).trans (by simp [go_sem])
  have z5 : w1.frozen? ⟨w.heap.size + 6, 0, none⟩ = false := (hz _ (by simp)).trans (by simp [go_sem])
  have hN : w.heap.size + 7 ≤ w1.heap.size := by have := hb.size; simpa using this
  have W1 : Below w.heap.size w w1.drew := ((B0 _ _ _ _ _ _ _).trans (hb.mono (by simp; omega))).drew
  clear hb hc hz
  go_wp2_with fail
  refine (validShare_any _ _ _).mono ?_
  rintro e wz ⟨rfl, rfl⟩
  rw [HS.out]
  go_wp2_with fail
  refine Plan.wp_region_plan (fun w' => Below (w.heap.size + 5) w1 w') (([0, 1, 2, 3, 4, 5, 6, 7, 8, 9, 10, 11, 12, 14, 15, 16, 17, 18, 19, 20, 21, 22, 23, 24, 26, 27, 28, 29, 30, 31, 32, 33, 34, 35, 36].map (·, true)) ++ (([13, 25, 37].map (·, false)) ++ (([38].map (·, true)) ++ (([39, 40].map (·, false)))))) (by kernel_rfl) (by kernel_rfl) (by kernel_rfl) (Below.refl _ _).drew ?_
  refine' Plan.plan_seg _ [0, 1, 2, 3, 4, 5, 6, 7, 8, 9, 10, 11, 12, 14, 15, 16, 17, 18, 19, 20, 21, 22, 23, 24, 26, 27, 28, 29, 30, 31, 32, 33, 34, 35, 36] (([13, 25, 37].map (·, false)) ++ (([38].map (·, true)) ++ (([39, 40].map (·, false))))) (by kernel_rfl) (by kernel_rfl) rfl (by exact (Below.refl _ _).drew) (fun wx hS => ?_) ?_
  rotate_left
  · have x0 := (hS.cell (p := ⟨w.heap.size, 0, none⟩) (by simp)).trans a0
    have x1 := (hS.cell (p := ⟨w.heap.size, 1, none⟩) (by simp)).trans a1
    have x2 := (hS.cell (p := ⟨w.heap.size, 2, none⟩) (by simp)).trans a2
    have x3 := (hS.cell (p := ⟨w.heap.size, 3, none⟩) (by simp)).trans a3
    have x4 := (hS.cell (p := ⟨w.heap.size, 4, none⟩) (by simp)).trans a4
    have y2 := (hS.cell (p := ⟨w.heap.size + 1, 2, none⟩) (by simp)).trans b2
    have y3 := (hS.cell (p := ⟨w.heap.size + 1, 3, none⟩) (by simp)).trans b3
    have y4 := (hS.cell (p := ⟨w.heap.size + 1, 4, none⟩) (by simp)).trans b4
    clear hS
    iterate 35 (apply Plan.seg_pick; rfl; intro K hK; go_wp)
    exact Plan.seg_nil
  refine Plan.plan_of_effect rfl (fun K hK => ?_)
  go_wp2_with fail
  refine (cover_any _ F.Y G.Y F.W F.H d num den _ _ _ _ _ _ _ _ _ _ (by omega) (by omega) (by omega) (by omega) (by omega) (by omega) E1.out ?_ l1 ?_ l4 d1 d2 d3 d4 ?_ ?_ ?_).mono ?_
  · intro i hi; rw [W1.cell (block_lt_of_cell (X1 i hi))]; exact X1 i hi
  · intro i hi; rw [W1.cell (block_lt_of_cell (X4 i hi))]; exact X4 i hi
  · exact cq
  · exact cd
  · exact cn
  rintro e w2 ⟨g1, c1, rfl, row1, hb1⟩
  have hN2 : w1.heap.size ≤ w2.heap.size := hb1.size
  have W2 : Below w.heap.size w w2 := W1.trans (hb1.mono (by simp; omega))
  have S2 : Below (w.heap.size + 5) w1 w2 := ((Below.refl _ _).drew).trans (hb1.mono (by simp; omega))
  have cq2 := (hb1.cell (p := ⟨w.heap.size + 4, 0, none⟩) (by simp; omega)).trans cq
  have cd2 := (hb1.cell (p := ⟨w.heap.size + 3, 0, none⟩) (by simp; omega)).trans cd
  have cn2 := (hb1.cell (p := ⟨w.heap.size + 2, 0, none⟩) (by simp; omega)).trans cn
  go_wp2_with fail
  refine ⟨S2, ?_⟩
  refine Plan.plan_of_effect rfl (fun K hK => ?_)
  go_wp2_with fail
  refine (cover_any _ F.U G.U (F.W / 2) (F.H / 2) d num den _ _ _ _ _ _ _ _ _ _ (by omega) (by omega) (by omega) (by omega) (by omega) (by omega) E2.out ?_ l2 ?_ l5 d1 d2 d3 d4 ?_ ?_ ?_).mono ?_
  · intro i hi; rw [W2.cell (block_lt_of_cell (X2 i hi))]; exact X2 i hi
  · intro i hi; rw [W2.cell (block_lt_of_cell (X5 i hi))]; exact X5 i hi
  · exact cq2
  · exact cd2
  · exact cn2
  rintro e w3 ⟨g2, c2, rfl, row2, hb2⟩
  have hN3 : w2.heap.size ≤ w3.heap.size := hb2.size
  have W3 : Below w.heap.size w w3 := W2.trans (hb2.mono (by omega))
  have S3 : Below (w.heap.size + 5) w1 w3 := S2.trans (hb2.mono (by omega))
  have cq3 := (hb2.cell (p := ⟨w.heap.size + 4, 0, none⟩) (by simp; omega)).trans cq2
  have cd3 := (hb2.cell (p := ⟨w.heap.size + 3, 0, none⟩) (by simp; omega)).trans cd2
  have cn3 := (hb2.cell (p := ⟨w.heap.size + 2, 0, none⟩) (by simp; omega)).trans cn2
  go_wp2_with fail
  refine ⟨S3, ?_⟩
  refine Plan.plan_of_effect rfl (fun K hK => ?_)
  go_wp2_with fail
  refine (cover_any _ F.V G.V (F.W / 2) (F.H / 2) d num den _ _ _ _ _ _ _ _ _ _ (by omega) (by omega) (by omega) (by omega) (by omega) (by omega) E3.out ?_ l3 ?_ l6 d1 d2 d3 d4 ?_ ?_ ?_).mono ?_
  · intro i hi; rw [W3.cell (block_lt_of_cell (X3 i hi))]; exact X3 i hi
  · intro i hi; rw [W3.cell (block_lt_of_cell (X6 i hi))]; exact X6 i hi
  · exact cq3
  · exact cd3
  · exact cn3
  rintro e w4 ⟨g3, c3, rfl, row3, hb3⟩
  have hN4 : w3.heap.size ≤ w4.heap.size := hb3.size
  have W4 : Below w.heap.size w w4 := W3.trans (hb3.mono (by omega))
  have S4 : Below (w.heap.size + 5) w1 w4 := S3.trans (hb3.mono (by omega))
  have S46 : Below (w.heap.size + 7) w1.drew w4 := ((hb1.mono (by simp; omega)).trans (hb2.mono (by omega))).trans (hb3.mono (by omega))
  have ry := (row1.below hb2).below hb3
  have ru := row2.below hb3
  have rv := row3
  have gg1 := row1.le
  have gg2 := row2.le
  have gg3 := row3.le
  have HR := Lib.hid (And.intro ry (And.intro ru rv))
  have r0' := (S46.cell (p := ⟨w.heap.size + 5, 0, none⟩) (by simp)).trans r0
  have r1' := (S46.cell (p := ⟨w.heap.size + 5, 1, none⟩) (by simp)).trans r1
  have r2' := (S46.cell (p := ⟨w.heap.size + 5, 2, none⟩) (by simp)).trans r2
  have r3' := (S46.cell (p := ⟨w.heap.size + 5, 3, none⟩) (by simp)).trans r3
  have r4' := (S46.cell (p := ⟨w.heap.size + 5, 4, none⟩) (by simp)).trans r4
  have s0' := (S46.cell (p := ⟨w.heap.size + 6, 0, none⟩) (by simp)).trans s0
  have z4' := fun o => (S46.frozen (p := ⟨w.heap.size + 5, o, none⟩) (by simp)).trans (z4 o)
  have z5' := (S46.frozen (p := ⟨w.heap.size + 6, 0, none⟩) (by simp)).trans z5
  clear row1 row2 row3 hb1 hb2 hb3 W1 W2 W3 S2 S3 cq2 cd2 cn2 cq3 cd3 cn3 S46 ry ru rv r0 r1 r2 r3 r4 s0 z4 z5 X1 X2 X3 X4 X5 X6
  go_wp2_with fail
  refine ⟨S4, ?_⟩
  refine' Plan.plan_seg _ [38] (([39, 40].map (·, false))) (by kernel_rfl) (by kernel_rfl) rfl (by exact S4) (fun wx hS => ?_) ?_
  rotate_left
  · iterate 1 (apply Plan.seg_pick; rfl; intro K hK; go_wp)
    exact Plan.seg_nil
  refine Plan.plan_of_effect rfl (fun K hK => ?_)
  go_wp2_with fail
  refine ⟨by go_grown, ?_⟩
  refine Plan.plan_of_effect rfl (fun K hK => ?_)
  go_wp2_with fail
  refine ⟨by go_grown, ?_⟩
  refine Plan.plan_done ?_
  go_wp2_with fail
  refine leaves_cons (f := 51) (args := #[.pointer (some ⟨w.heap.size + 1 + 1 + 1 + 1 + 1, 0, none⟩), .pointer (some ⟨w.heap.size + 1 + 1 + 1 + 1 + 1 + 1, 0, none⟩)]) (by simp) (by simp [go_sem]) ?_
  refine (idle51 _ _ _).mono ?_
  rintro e u' w'' ⟨rfl, rfl, rfl⟩
  simp [Leaves, settle, results, Try.results24, go_sem, r0', r1', r2', r3', r4', s0']
  simp at gg1
  obtain ⟨h1, h2, h3⟩ := HR.out
  obtain ⟨c1, c2, c3, c4, c5, c6⟩ := BB.out
  refine ⟨⟨_, _, _, rfl, ?_, ?_, ?_⟩, by go_grown⟩
  · refine Row.BA (B := w1.drew.heap.size) ?_ (fun i hi => wipe_bd c1 c4 i hi)
    repeat (refine Row.far ?_ (by simp; omega) _)
    exact h1
  · refine Row.BA (B := w2.heap.size) ?_ (fun i hi => wipe_bd c2 c5 i hi)
    repeat (refine Row.far ?_ (by simp; omega) _)
    exact h2
  · refine Row.BA (B := w3.heap.size) ?_ (fun i hi => wipe_bd c3 c6 i hi)
    repeat (refine Row.far ?_ (by simp; omega) _)
    exact h3

set_option maxRecDepth 100000 in
set_option maxHeartbeats 2000000 in
theorem wipe_no (v u : Value) (F G : Fr) (num den d : Int) (w : World) (hv : FA w v F) (hu : FA w u G) (hp : (pairOk F G && okShare num den && okDir d) = false) :
    Calls Try.prog 24 #[v, u, .int .i64 num, .int .i64 den, .int .i64 d] w fun e w' => e = .returned (.tuple #[zeroV, .int .i64 1]) ∧ Below w.heap.size w w' := by
  have hmf : ∀ (fn : Fn) (first cap : Array Value) (w : World), (Instr.makeFunc fn first cap).run Try.prog w = .ok (.func fn first cap) w := fun _ _ _ _ => rfl
  have hv0 := hv
  have hu0 := hu
  have B0 : ∀ o1 o2 o3 o4 o5 o6 o7, Below w.heap.size w (((((((w.alloc o1).alloc o2).alloc o3).alloc o4).alloc o5).alloc o6).alloc o7) := fun _ _ _ _ _ _ _ => by go_grown
  obtain ⟨y, u1, z, rfl, _, _, _⟩ := hv
  obtain ⟨y', u', z', rfl, _, _, _⟩ := hu
  have HV := Lib.hid hv0
  have HU := Lib.hid hu0
  have HP := Lib.hid hp
  clear hv0 hu0 hp
  go_enter_defers Try.func24, Try.ntmps24
  go_wp2_with fail
  refine (matching_any _ _ F G _ ?_ ?_).mono ?_
  · exact HV.out.below (by go_grown)
  · exact HU.out.below (by go_grown)
  rintro e w1 ⟨rfl, hb⟩
  have hc := fun (p : Addr) (h : p.block < w.heap.size + 7) => hb.cell (p := p) (by simpa using h)
  have hz := fun (p : Addr) (h : p.block < w.heap.size + 7) => hb.frozen (p := p) (by simpa using h)
  have cn : w1.cell? ⟨w.heap.size + 2, 0, none⟩ = some (.int .i64 num) := (hc _ (by simp)).trans (by simp [go_sem])
  have cd : w1.cell? ⟨w.heap.size + 3, 0, none⟩ = some (.int .i64 den) := (hc _ (by simp)).trans (by simp [go_sem])
  have cq : w1.cell? ⟨w.heap.size + 4, 0, none⟩ = some (.int .i64 d) := (hc _ (by simp)).trans (by simp [go_sem])
  have r0 : w1.cell? ⟨w.heap.size + 5, 0, none⟩ = some (.int .i64 0) := (hc _ (by simp)).trans (by simp [go_sem])
  have r1 : w1.cell? ⟨w.heap.size + 5, 1, none⟩ = some (.int .i64 0) := (hc _ (by simp)).trans (by simp [go_sem])
  have r2 : w1.cell? ⟨w.heap.size + 5, 2, none⟩ = some (.slice none 0 0) := (hc _ (by simp)).trans (by simp [go_sem])
  have r3 : w1.cell? ⟨w.heap.size + 5, 3, none⟩ = some (.slice none 0 0) := (hc _ (by simp)).trans (by simp [go_sem])
  have r4 : w1.cell? ⟨w.heap.size + 5, 4, none⟩ = some (.slice none 0 0) := (hc _ (by simp)).trans (by simp [go_sem])
  have s0 : w1.cell? ⟨w.heap.size + 6, 0, none⟩ = some (.int .i64 0) := (hc _ (by simp)).trans (by simp [go_sem])
  have z4 : ∀ o, w1.frozen? ⟨w.heap.size + 5, o, none⟩ = false := fun o => (hz _ (by simp)).trans (by simp [go_sem])
  have z5 : w1.frozen? ⟨w.heap.size + 6, 0, none⟩ = false := (hz _ (by simp)).trans (by simp [go_sem])
  have hN : w.heap.size + 7 ≤ w1.heap.size := by have := hb.size; simpa using this
  have W1 : Below w.heap.size w w1 := (B0 _ _ _ _ _ _ _).trans (hb.mono (by simp; omega))
  clear hb hc hz
  cases hpk : pairOk F G
  · have HK := Lib.hid hpk
    clear hpk
    go_wp2_with fail
    refine leaves_cons (f := 51) (args := #[.pointer (some ⟨w.heap.size + 1 + 1 + 1 + 1 + 1, 0, none⟩), .pointer (some ⟨w.heap.size + 1 + 1 + 1 + 1 + 1 + 1, 0, none⟩)]) (by simp) (by simp [go_sem]) ?_
    refine (idle51 _ _ _).mono ?_
    rintro e u' w'' ⟨rfl, rfl, rfl⟩
    simp [Leaves, settle, results, Try.results24, go_sem, r0, r1, r2, r3, r4, s0, zeroV]
    go_grown
  · cases hs : okShare num den
    · have HK := Lib.hid hpk
      have HS := Lib.hid hs
      clear hpk hs
      go_wp2_with fail
      refine (validShare_any _ _ _).mono ?_
      rintro e w2 ⟨rfl, rfl⟩
      rw [HS.out]
      go_wp2_with fail
      refine leaves_cons (f := 51) (args := #[.pointer (some ⟨w.heap.size + 1 + 1 + 1 + 1 + 1, 0, none⟩), .pointer (some ⟨w.heap.size + 1 + 1 + 1 + 1 + 1 + 1, 0, none⟩)]) (by simp) (by simp [go_sem]) ?_
      refine (idle51 _ _ _).mono ?_
      rintro e u' w'' ⟨rfl, rfl, rfl⟩
      simp [Leaves, settle, results, Try.results24, go_sem, r0, r1, r2, r3, r4, s0, zeroV]
      go_grown
    · have hd : okDir d = false := by have := HP.out; simpa [hpk, hs] using this
      have HK := Lib.hid hpk
      have HS := Lib.hid hs
      simp only [okDir, decide_eq_false_iff_not] at hd
      clear hpk hs
      by_cases hd0 : d < 0
      · clear hd
        go_wp2_with fail
        refine (validShare_any _ _ _).mono ?_
        rintro e w2 ⟨rfl, rfl⟩
        rw [HS.out]
        go_wp2_with fail
        refine leaves_cons (f := 51) (args := #[.pointer (some ⟨w.heap.size + 1 + 1 + 1 + 1 + 1, 0, none⟩), .pointer (some ⟨w.heap.size + 1 + 1 + 1 + 1 + 1 + 1, 0, none⟩)]) (by simp) (by simp [go_sem]) ?_
        refine (idle51 _ _ _).mono ?_
        rintro e u' w'' ⟨rfl, rfl, rfl⟩
        simp [Leaves, settle, results, Try.results24, go_sem, r0, r1, r2, r3, r4, s0, zeroV]
        go_grown
      · have hd3 : 3 < d := by omega
        clear hd
        go_wp2_with fail
        refine (validShare_any _ _ _).mono ?_
        rintro e w2 ⟨rfl, rfl⟩
        rw [HS.out]
        go_wp2_with fail
        refine leaves_cons (f := 51) (args := #[.pointer (some ⟨w.heap.size + 1 + 1 + 1 + 1 + 1, 0, none⟩), .pointer (some ⟨w.heap.size + 1 + 1 + 1 + 1 + 1 + 1, 0, none⟩)]) (by simp) (by simp [go_sem]) ?_
        refine (idle51 _ _ _).mono ?_
        rintro e u' w'' ⟨rfl, rfl, rfl⟩
        simp [Leaves, settle, results, Try.results24, go_sem, r0, r1, r2, r3, r4, s0, zeroV]
        go_grown

end Go.Proofs.Ytnnobdcbmagbaaa

/- The contract of cutroomref20.Same. -/
namespace Go.Proofs.Ytnnobdcbmagbaaa
open Go.RowKit

def bstr (n : Nat) (f : Nat → Int) : ByteArray := strOfNums ((List.range n).map f)
def eqB (n : Nat) (f : Nat → Int) (m : Nat) (g : Nat → Int) : Bool := (bstr n f).toList == (bstr m g).toList
def frSame (F G : Fr) : Bool := F.W == G.W && F.H == G.H && eqB F.nY F.Y G.nY G.Y && eqB F.nU F.U G.nU G.U && eqB F.nV F.V G.nV G.V

theorem BA.convert {w : World} {v : Value} {n : Nat} {f : Nat → Int} (h : BA w v n f) : (convert 24 9 v).run Try.prog w = .ok (.string (bstr n f)) w := by
  by_cases hn : 0 < n
  · obtain ⟨b, o, c, rfl, _, hc, _⟩ := h.open hn
    exact run_convert_bytes_arg w 24 5 Try.underlying24 Try.underlying5 b o n c ((List.range n).map f) (by simp) (fun i hi => by rw [hc i hi]; simp [List.getD, hi]) 9 Try.underlying9
  · obtain rfl : n = 0 := by omega
    obtain ⟨ao, c, rfl, _, _⟩ := h
    have e : bstr 0 f = ByteArray.empty := rfl
    rw [e, run_convert_bytes_string w 24 9 5 ao 0 c Try.underlying24 Try.underlying5 Try.underlying9]
    cases ao <;> simp [Conv.bytesToString, loadCells, loadCellsFrom]

theorem below_box2 (w : World) (o1 o2 : Obj) : Below w.heap.size w ((w.alloc o1).alloc o2) := by go_grown

set_option maxHeartbeats 1000000 in
theorem same_w (y u z y' u' z' : Value) (F G : Fr) (w : World) (hv : FA w (.agg #[.int .i64 F.W, .int .i64 F.H, y, u, z]) F) (hu : FA w (.agg #[.int .i64 G.W, .int .i64 G.H, y', u', z']) G) (t0 : (F.W == G.W) = false) :
    Calls Try.prog 19 #[.agg #[.int .i64 F.W, .int .i64 F.H, y, u, z], .agg #[.int .i64 G.W, .int .i64 G.H, y', u', z']] w fun e w' => e = .returned (.bool false) ∧ (w.alloc (.cells #[.int .i64 F.W, .int .i64 F.H, y, u, z] 26)).alloc (.cells #[.int .i64 G.W, .int .i64 G.H, y', u', z'] 26) = w' := by
  obtain ⟨_, _, _, e, hy, hu1, hz⟩ := hv.below (below_box2 w (.cells #[.int .i64 F.W, .int .i64 F.H, y, u, z] 26) (.cells #[.int .i64 G.W, .int .i64 G.H, y', u', z'] 26))
  obtain ⟨_, _, _, e', hy', hu', hz'⟩ := hu.below (below_box2 w (.cells #[.int .i64 F.W, .int .i64 F.H, y, u, z] 26) (.cells #[.int .i64 G.W, .int .i64 G.H, y', u', z'] 26))
  simp only [Value.agg.injEq, Array.mk.injEq, List.cons.injEq, and_true, true_and] at e e'
  obtain ⟨rfl, rfl, rfl⟩ := e
  obtain ⟨rfl, rfl, rfl⟩ := e'
  have c1 := hy.convert
  have c2 := hu1.convert
  have c3 := hz.convert
  have c4 := hy'.convert
  have c5 := hu'.convert
  have c6 := hz'.convert
  clear hv hu hy hu1 hz hy' hu' hz'
  go_enter Try.func19, Try.ntmps19
  go_wp2
  go_ret
  exact ⟨rfl, rfl⟩

set_option maxHeartbeats 1000000 in
theorem same_h (y u z y' u' z' : Value) (F G : Fr) (w : World) (hv : FA w (.agg #[.int .i64 F.W, .int .i64 F.H, y, u, z]) F) (hu : FA w (.agg #[.int .i64 G.W, .int .i64 G.H, y', u', z']) G) (t0 : (F.W == G.W) = true) (t1 : (F.H == G.H) = false) :
    Calls Try.prog 19 #[.agg #[.int .i64 F.W, .int .i64 F.H, y, u, z], .agg #[.int .i64 G.W, .int .i64 G.H, y', u', z']] w fun e w' => e = .returned (.bool false) ∧ (w.alloc (.cells #[.int .i64 F.W, .int .i64 F.H, y, u, z] 26)).alloc (.cells #[.int .i64 G.W, .int .i64 G.H, y', u', z'] 26) = w' := by
  obtain ⟨_, _, _, e, hy, hu1, hz⟩ := hv.below (below_box2 w (.cells #[.int .i64 F.W, .int .i64 F.H, y, u, z] 26) (.cells #[.int .i64 G.W, .int .i64 G.H, y', u', z'] 26))
  obtain ⟨_, _, _, e', hy', hu', hz'⟩ := hu.below (below_box2 w (.cells #[.int .i64 F.W, .int .i64 F.H, y, u, z] 26) (.cells #[.int .i64 G.W, .int .i64 G.H, y', u', z'] 26))
  simp only [Value.agg.injEq, Array.mk.injEq, List.cons.injEq, and_true, true_and] at e e'
  obtain ⟨rfl, rfl, rfl⟩ := e
  obtain ⟨rfl, rfl, rfl⟩ := e'
  have c1 := hy.convert
  have c2 := hu1.convert
  have c3 := hz.convert
  have c4 := hy'.convert
  have c5 := hu'.convert
  have c6 := hz'.convert
  clear hv hu hy hu1 hz hy' hu' hz'
  go_enter Try.func19, Try.ntmps19
  go_wp2
  go_ret
  exact ⟨rfl, rfl⟩

set_option maxHeartbeats 1000000 in
theorem same_y (y u z y' u' z' : Value) (F G : Fr) (w : World) (hv : FA w (.agg #[.int .i64 F.W, .int .i64 F.H, y, u, z]) F) (hu : FA w (.agg #[.int .i64 G.W, .int .i64 G.H, y', u', z']) G) (t0 : (F.W == G.W) = true) (t1 : (F.H == G.H) = true) (t2 : ((bstr F.nY F.Y).toList == (bstr G.nY G.Y).toList) = false) :
    Calls Try.prog 19 #[.agg #[.int .i64 F.W, .int .i64 F.H, y, u, z], .agg #[.int .i64 G.W, .int .i64 G.H, y', u', z']] w fun e w' => e = .returned (.bool false) ∧ (w.alloc (.cells #[.int .i64 F.W, .int .i64 F.H, y, u, z] 26)).alloc (.cells #[.int .i64 G.W, .int .i64 G.H, y', u', z'] 26) = w' := by
  obtain ⟨_, _, _, e, hy, hu1, hz⟩ := hv.below (below_box2 w (.cells #[.int .i64 F.W, .int .i64 F.H, y, u, z] 26) (.cells #[.int .i64 G.W, .int .i64 G.H, y', u', z'] 26))
  obtain ⟨_, _, _, e', hy', hu', hz'⟩ := hu.below (below_box2 w (.cells #[.int .i64 F.W, .int .i64 F.H, y, u, z] 26) (.cells #[.int .i64 G.W, .int .i64 G.H, y', u', z'] 26))
  simp only [Value.agg.injEq, Array.mk.injEq, List.cons.injEq, and_true, true_and] at e e'
  obtain ⟨rfl, rfl, rfl⟩ := e
  obtain ⟨rfl, rfl, rfl⟩ := e'
  have c1 := hy.convert
  have c2 := hu1.convert
  have c3 := hz.convert
  have c4 := hy'.convert
  have c5 := hu'.convert
  have c6 := hz'.convert
  clear hv hu hy hu1 hz hy' hu' hz'
  go_enter Try.func19, Try.ntmps19
  go_wp2
  go_ret
  exact ⟨rfl, rfl⟩

set_option maxHeartbeats 1000000 in
theorem same_u (y u z y' u' z' : Value) (F G : Fr) (w : World) (hv : FA w (.agg #[.int .i64 F.W, .int .i64 F.H, y, u, z]) F) (hu : FA w (.agg #[.int .i64 G.W, .int .i64 G.H, y', u', z']) G) (t0 : (F.W == G.W) = true) (t1 : (F.H == G.H) = true) (t2 : ((bstr F.nY F.Y).toList == (bstr G.nY G.Y).toList) = true) (t3 : ((bstr F.nU F.U).toList == (bstr G.nU G.U).toList) = false) :
    Calls Try.prog 19 #[.agg #[.int .i64 F.W, .int .i64 F.H, y, u, z], .agg #[.int .i64 G.W, .int .i64 G.H, y', u', z']] w fun e w' => e = .returned (.bool false) ∧ (w.alloc (.cells #[.int .i64 F.W, .int .i64 F.H, y, u, z] 26)).alloc (.cells #[.int .i64 G.W, .int .i64 G.H, y', u', z'] 26) = w' := by
  obtain ⟨_, _, _, e, hy, hu1, hz⟩ := hv.below (below_box2 w (.cells #[.int .i64 F.W, .int .i64 F.H, y, u, z] 26) (.cells #[.int .i64 G.W, .int .i64 G.H, y', u', z'] 26))
  obtain ⟨_, _, _, e', hy', hu', hz'⟩ := hu.below (below_box2 w (.cells #[.int .i64 F.W, .int .i64 F.H, y, u, z] 26) (.cells #[.int .i64 G.W, .int .i64 G.H, y', u', z'] 26))
  simp only [Value.agg.injEq, Array.mk.injEq, List.cons.injEq, and_true, true_and] at e e'
  obtain ⟨rfl, rfl, rfl⟩ := e
  obtain ⟨rfl, rfl, rfl⟩ := e'
  have c1 := hy.convert
  have c2 := hu1.convert
  have c3 := hz.convert
  have c4 := hy'.convert
  have c5 := hu'.convert
  have c6 := hz'.convert
  clear hv hu hy hu1 hz hy' hu' hz'
  go_enter Try.func19, Try.ntmps19
  go_wp2
  go_ret
  exact ⟨rfl, rfl⟩

set_option maxHeartbeats 1000000 in
theorem same_v (y u z y' u' z' : Value) (F G : Fr) (w : World) (hv : FA w (.agg #[.int .i64 F.W, .int .i64 F.H, y, u, z]) F) (hu : FA w (.agg #[.int .i64 G.W, .int .i64 G.H, y', u', z']) G) (t0 : (F.W == G.W) = true) (t1 : (F.H == G.H) = true) (t2 : ((bstr F.nY F.Y).toList == (bstr G.nY G.Y).toList) = true) (t3 : ((bstr F.nU F.U).toList == (bstr G.nU G.U).toList) = true) (t4 : ((bstr F.nV F.V).toList == (bstr G.nV G.V).toList) = false) :
    Calls Try.prog 19 #[.agg #[.int .i64 F.W, .int .i64 F.H, y, u, z], .agg #[.int .i64 G.W, .int .i64 G.H, y', u', z']] w fun e w' => e = .returned (.bool false) ∧ (w.alloc (.cells #[.int .i64 F.W, .int .i64 F.H, y, u, z] 26)).alloc (.cells #[.int .i64 G.W, .int .i64 G.H, y', u', z'] 26) = w' := by
  obtain ⟨_, _, _, e, hy, hu1, hz⟩ := hv.below (below_box2 w (.cells #[.int .i64 F.W, .int .i64 F.H, y, u, z] 26) (.cells #[.int .i64 G.W, .int .i64 G.H, y', u', z'] 26))
  obtain ⟨_, _, _, e', hy', hu', hz'⟩ := hu.below (below_box2 w (.cells #[.int .i64 F.W, .int .i64 F.H, y, u, z] 26) (.cells #[.int .i64 G.W, .int .i64 G.H, y', u', z'] 26))
  simp only [Value.agg.injEq, Array.mk.injEq, List.cons.injEq, and_true, true_and] at e e'
  obtain ⟨rfl, rfl, rfl⟩ := e
  obtain ⟨rfl, rfl, rfl⟩ := e'
  have c1 := hy.convert
  have c2 := hu1.convert
  have c3 := hz.convert
  have c4 := hy'.convert
  have c5 := hu'.convert
  have c6 := hz'.convert
  clear hv hu hy hu1 hz hy' hu' hz'
  go_enter Try.func19, Try.ntmps19
  go_wp2
  go_ret
  exact ⟨rfl, rfl⟩

set_option maxHeartbeats 1000000 in
theorem same_all (y u z y' u' z' : Value) (F G : Fr) (w : World) (hv : FA w (.agg #[.int .i64 F.W, .int .i64 F.H, y, u, z]) F) (hu : FA w (.agg #[.int .i64 G.W, .int .i64 G.H, y', u', z']) G) (t0 : (F.W == G.W) = true) (t1 : (F.H == G.H) = true) (t2 : ((bstr F.nY F.Y).toList == (bstr G.nY G.Y).toList) = true) (t3 : ((bstr F.nU F.U).toList == (bstr G.nU G.U).toList) = true) (t4 : ((bstr F.nV F.V).toList == (bstr G.nV G.V).toList) = true) :
    Calls Try.prog 19 #[.agg #[.int .i64 F.W, .int .i64 F.H, y, u, z], .agg #[.int .i64 G.W, .int .i64 G.H, y', u', z']] w fun e w' => e = .returned (.bool true) ∧ (w.alloc (.cells #[.int .i64 F.W, .int .i64 F.H, y, u, z] 26)).alloc (.cells #[.int .i64 G.W, .int .i64 G.H, y', u', z'] 26) = w' := by
  obtain ⟨_, _, _, e, hy, hu1, hz⟩ := hv.below (below_box2 w (.cells #[.int .i64 F.W, .int .i64 F.H, y, u, z] 26) (.cells #[.int .i64 G.W, .int .i64 G.H, y', u', z'] 26))
  obtain ⟨_, _, _, e', hy', hu', hz'⟩ := hu.below (below_box2 w (.cells #[.int .i64 F.W, .int .i64 F.H, y, u, z] 26) (.cells #[.int .i64 G.W, .int .i64 G.H, y', u', z'] 26))
  simp only [Value.agg.injEq, Array.mk.injEq, List.cons.injEq, and_true, true_and] at e e'
  obtain ⟨rfl, rfl, rfl⟩ := e
  obtain ⟨rfl, rfl, rfl⟩ := e'
  have c1 := hy.convert
  have c2 := hu1.convert
  have c3 := hz.convert
  have c4 := hy'.convert
  have c5 := hu'.convert
  have c6 := hz'.convert
  clear hv hu hy hu1 hz hy' hu' hz'
  go_enter Try.func19, Try.ntmps19
  go_wp2
  go_ret
  exact ⟨rfl, rfl⟩


theorem same_any (v u : Value) (F G : Fr) (w : World) (hv : FA w v F) (hu : FA w u G) :
    Calls Try.prog 19 #[v, u] w fun e w' => e = .returned (.bool (frSame F G)) ∧ (w.alloc (.cells v.cells 26)).alloc (.cells u.cells 26) = w' := by
  have hv0 := hv
  have hu0 := hu
  obtain ⟨y, u1, z, rfl, _, _, _⟩ := hv
  obtain ⟨y', u', z', rfl, _, _, _⟩ := hu
  cases t0 : (F.W == G.W)
  · exact (same_w _ _ _ _ _ _ F G w hv0 hu0 t0).mono fun e w' h => ⟨by rw [h.1]; simp [frSame, t0], h.2⟩
  cases t1 : (F.H == G.H)
  · exact (same_h _ _ _ _ _ _ F G w hv0 hu0 t0 t1).mono fun e w' h => ⟨by rw [h.1]; simp [frSame, t1], h.2⟩
  cases t2 : ((bstr F.nY F.Y).toList == (bstr G.nY G.Y).toList)
  · exact (same_y _ _ _ _ _ _ F G w hv0 hu0 t0 t1 t2).mono fun e w' h => ⟨by rw [h.1]; simp [frSame, eqB, t2], h.2⟩
  cases t3 : ((bstr F.nU F.U).toList == (bstr G.nU G.U).toList)
  · exact (same_u _ _ _ _ _ _ F G w hv0 hu0 t0 t1 t2 t3).mono fun e w' h => ⟨by rw [h.1]; simp [frSame, eqB, t3], h.2⟩
  cases t4 : ((bstr F.nV F.V).toList == (bstr G.nV G.V).toList)
  · exact (same_v _ _ _ _ _ _ F G w hv0 hu0 t0 t1 t2 t3 t4).mono fun e w' h => ⟨by rw [h.1]; simp [frSame, eqB, t4], h.2⟩
  · exact (same_all _ _ _ _ _ _ F G w hv0 hu0 t0 t1 t2 t3 t4).mono fun e w' h => ⟨by rw [h.1]; simp [frSame, eqB, t0, t1, t2, t3, t4], h.2⟩

end Go.Proofs.Ytnnobdcbmagbaaa

/- The contract of cutroomlaw26.awake: it answers true. -/
namespace Go.Proofs.Ytnnobdcbmagbaaa
open Go.RowKit

theorem eq_73 (w : World) : (Op.equalIn 10000 49 (.agg #[.int .i64 7, .int .i64 2, .int .i64 2, .int .i64 2, .int .i64 7]) (.agg #[.int .i64 7, .int .i64 2, .int .i64 2, .int .i64 2, .int .i64 7])).run Try.prog w = .ok true w := by
  obtain ⟨la, hl⟩ := Option.isSome_iff_exists.mp (show (Try.prog.keyLits 4 49 [.int .i64 7, .int .i64 2, .int .i64 2, .int .i64 2, .int .i64 7]).isSome = true by kernel_rfl)
  obtain ⟨r, hr, hi⟩ := run_equalIn_deep (P := Try.prog) 9998 2 49 (by kernel_rfl) w 4 4 (.agg #[.int .i64 7, .int .i64 2, .int .i64 2, .int .i64 2, .int .i64 7]) (.agg #[.int .i64 7, .int .i64 2, .int .i64 2, .int .i64 2, .int .i64 7]) la la (by kernel_rfl) (by kernel_rfl) hl hl
  rw [hi.mpr rfl] at hr
  exact hr

def frA : Fr := ⟨16, 16, 256, 64, 64, fun _ => 16, fun _ => 128, fun _ => 128⟩
def frB : Fr := ⟨16, 16, 256, 64, 64, fun i => if i = 7 then 235 else 16, fun _ => 128, fun _ => 128⟩
theorem frA_black : blackFr 16 16 = frA := rfl
theorem eqB_of {n : Nat} {f g : Nat → Int} (h : ∀ i, i < n → f i = g i) : eqB n f n g = true := by
  unfold eqB bstr
  rw [List.map_congr_left (fun i hi => h i (by simpa using hi))]
  simp
theorem frSame_of {F G : Fr} (h1 : F.W = G.W) (h2 : F.H = G.H) (n1 : F.nY = G.nY) (n2 : F.nU = G.nU) (n3 : F.nV = G.nV) (e1 : ∀ i, i < F.nY → F.Y i = G.Y i) (e2 : ∀ i, i < F.nU → F.U i = G.U i) (e3 : ∀ i, i < F.nV → F.V i = G.V i) : frSame F G = true := by
  unfold frSame
  rw [h1, h2, ← n1, ← n2, ← n3, eqB_of e1, eqB_of e2, eqB_of e3]
  simp
theorem same_frA : frSame frA frA = true := frSame_of rfl rfl rfl rfl rfl (fun _ _ => rfl) (fun _ _ => rfl) (fun _ _ => rfl)
theorem wipe_none {W H : Int} {X Y : Nat → Int} (hW : 0 < W) (i : Nat) : wipeF W H 0 0 1 X Y i = X i := by
  unfold wipeF
  rw [if_neg]
  simp [placeF]
  exact Int.emod_nonneg _ (by omega)
theorem same_wipe : frSame (wipeFr 0 1 0 frA frB) frA = true := frSame_of rfl rfl rfl rfl rfl (fun i _ => wipe_none (W := 16) (H := 16) (X := frA.Y) (Y := frB.Y) (by decide) i) (fun i _ => wipe_none (W := 16 / 2) (H := 16 / 2) (X := frA.U) (Y := frB.U) (by decide) i) (fun i _ => wipe_none (W := 16 / 2) (H := 16 / 2) (X := frA.V) (Y := frB.V) (by decide) i)
theorem glyph_73 : glyphV 73 = .agg #[.int .i64 7, .int .i64 2, .int .i64 2, .int .i64 2, .int .i64 7] := by kernel_rfl

/-- What each fresh operation of the region makes: the empty slice, the copied row, the empty frame. -/
def GA (B : Nat) (u z : Value) (i lo hi : Nat) (v : Value) (w : World) : Prop :=
  (i = 0 → ∃ e, v = .slice (some ⟨e, 0, none⟩) 0 0) ∧
  (i = 3 → ∃ g c, v = .slice (some ⟨g, 0, none⟩) 256 c ∧ Row w B g 256 c (fun _ => 16)) ∧
  (i = 8 → ∃ g c, v = .agg #[.int .i64 16, .int .i64 16, .slice (some ⟨g, 0, none⟩) 256 c, u, z] ∧ Row w B g 256 c (fun _ => 16)) ∧
  (i = 9 → v = .pointer (some ⟨lo, 0, none⟩) ∧ lo < w.heap.size ∧ lo < hi ∧ (∀ j, w.cell? ⟨lo, j, none⟩ = (#[Value.int .i64 0, .int .i64 0, .slice none 0 0, .slice none 0 0, .slice none 0 0] : Array Value)[j]?) ∧ ∀ o, w.frozen? ⟨lo, o, none⟩ = false)

theorem GA.ext {B : Nat} {u z : Value} {i lo hi : Nat} {v : Value} {w w' : World} (h : GA B u z i lo hi v w) (e : Plan.Ext w w') : GA B u z i lo hi v w' := by
  obtain ⟨h0, h3, h8, h9⟩ := h
  refine ⟨h0, fun hi => ?_, fun hi => ?_, fun hi => ?_⟩
  · obtain ⟨g, c, rfl, r⟩ := h3 hi
    exact ⟨g, c, rfl, r.below e⟩
  · obtain ⟨g, c, rfl, r⟩ := h8 hi
    exact ⟨g, c, rfl, r.below e⟩
  · obtain ⟨rfl, h1, h2, h3, h4⟩ := h9 hi
    have := e.size
    exact ⟨rfl, by omega, h2, fun j => (e.cell (by simpa using h1)).trans (h3 j), fun o => (e.frozen (by simpa using h1)).trans (h4 o)⟩

set_option maxRecDepth 100000 in
set_option maxHeartbeats 4000000 in
theorem awake_any (w : World) : Calls Try.prog 20 #[] w fun e w' => e = .returned (.bool true) ∧ Below w.heap.size w w' := by
  go_enter Try.func20, Try.ntmps20
  go_wp2_with fail
  refine (black_yes 16 16 _ (by decide)).mono ?_
  rintro e w1 ⟨r, rfl, hf, hb1⟩
  rw [frA_black] at hf
  have hf0 := hf
  obtain ⟨y, u1, z, rfl, hy, hu1, hz⟩ := hf
  obtain ⟨p1, q1, c1, rfl, l1, X1, Z1⟩ := hy.open (by decide)
  obtain ⟨p2, q2, c2, rfl, l2, X2, Z2⟩ := hu1.open (by decide)
  obtain ⟨p3, q3, c3, rfl, l3, X3, Z3⟩ := hz.open (by decide)
  simp only [frA] at X1 X2 X3 Z1 Z2 Z3 l1 l2 l3 ⊢
  have HX := Lib.hid (And.intro X1 (And.intro X2 X3))
  have HF := Lib.hid hf0
  clear X1 X2 X3 Z1 Z2 Z3 hy hu1 hz hf0
  go_wp2_with fail
  generalize hw2 : w1.alloc _ = w2
  have hsz : w2.heap.size = w1.heap.size + 1 := by rw [← hw2]; simp
  have a0 : w2.cell? ⟨w1.heap.size, 0, none⟩ = some (.int .i64 16) := by rw [← hw2]; simp [go_sem]
  have a1 : w2.cell? ⟨w1.heap.size, 1, none⟩ = some (.int .i64 16) := by rw [← hw2]; simp [go_sem]
  have a2 : w2.cell? ⟨w1.heap.size, 2, none⟩ = some (.slice (some ⟨p1, q1, none⟩) 256 c1) := by rw [← hw2]; simp [go_sem]
  have a3 : w2.cell? ⟨w1.heap.size, 3, none⟩ = some (.slice (some ⟨p2, q2, none⟩) 64 c2) := by rw [← hw2]; simp [go_sem]
  have a4 : w2.cell? ⟨w1.heap.size, 4, none⟩ = some (.slice (some ⟨p3, q3, none⟩) 64 c3) := by rw [← hw2]; simp [go_sem]
  have az : ∀ o, w2.frozen? ⟨w1.heap.size, o, none⟩ = false := fun o => by rw [← hw2]; simp [go_sem]
  have hb2 : Below w1.heap.size w1 w2 := by rw [← hw2]; exact below_box _ _
  have HZ := Lib.hid hsz
  have HX2 := Lib.hid (And.intro (fun i (hi : i < 256) => (hb2.cell (p := ⟨p1, q1 + i, none⟩) (block_lt_of_cell (HX.out.1 i hi))).trans (HX.out.1 i hi)) (And.intro (fun i (hi : i < 64) => (hb2.cell (p := ⟨p2, q2 + i, none⟩) (block_lt_of_cell (HX.out.2.1 i hi))).trans (HX.out.2.1 i hi)) (fun i (hi : i < 64) => (hb2.cell (p := ⟨p3, q3 + i, none⟩) (block_lt_of_cell (HX.out.2.2 i hi))).trans (HX.out.2.2 i hi))))
  have W1 := Lib.hid hb1
  have B12 := Lib.hid hb2
  have n1 := Lib.hid hb1.size
  clear hw2 hsz hb1 hb2
  refine Plan.wp_region_fresh (fun w' => Below (w1.heap.size + 1) w2 w') 10 (GA (w1.heap.size + 1) (.slice (some ⟨p2, q2, none⟩) 64 c2) (.slice (some ⟨p3, q3, none⟩) 64 c3)) ([1, 2, 4, 5, 6, 7].map (·, true) ++ []) [(0, 22), (3, 25), (8, 30), (9, 3)] ([10].map (·, false)) 96 (by kernel_rfl) (by kernel_rfl) (by kernel_rfl) (Below.refl _ _).drew ?_ ?_ ?_
  · intro wa wb ha hb
    exact ha.trans (hb.mono (by have := ha.size; rw [HZ.out] at this; exact this))
  · intro i lo hi v wa wb hG hE
    exact hG.ext hE
  refine' Plan.plan_seg _ [1, 2, 4, 5, 6, 7] [] (by kernel_rfl) (by kernel_rfl) rfl (by exact (Below.refl _ _).drew) (fun wx hS => ?_) ?_
  rotate_left
  · have b2 := (hS.cell (p := ⟨w1.heap.size, 2, none⟩) (by simp)).trans a2
    have b3 := (hS.cell (p := ⟨w1.heap.size, 3, none⟩) (by simp)).trans a3
    have b4 := (hS.cell (p := ⟨w1.heap.size, 4, none⟩) (by simp)).trans a4
    clear hS
    iterate 6 (apply Plan.seg_pick; rfl; intro K hK; go_wp)
    exact Plan.seg_nil
  refine Plan.plan_nil (Plan.fresh_at rfl ?_ ?_)
  · intro p hp o ho vs wx lo hi hS hE hG K hK
    have hB : w1.heap.size + 1 ≤ wx.heap.size := by have := hS.size; rw [HZ.out] at this; exact this
    simp only [List.mem_cons, List.not_mem_nil, or_false] at hp
    rcases hp with rfl | rfl | rfl | rfl
    all_goals obtain rfl := Option.some.inj ho
    · clear hG
      go_wp2
      exact hK _ _ ⟨fun _ => ⟨_, rfl⟩, by simp, by simp, by simp⟩ (by go_grown)
    · obtain ⟨e0, he0⟩ := (hG (0, 22) (by simp) (by decide)).1 rfl
      clear hG
      refine wpList_clone2 wx rfl _ _ rfl e0 p1 q1 256 c1 (fun _ => 16) he0 rfl ?_ (by omega) (by omega) (fun g c' w' hr hE' => wpList_nil (hK _ _ ?_ hE'))
      · intro i hi
        have h := HX2.out.1 i hi
        exact (hS.cell (by have := block_lt_of_cell h; rw [HZ.out] at this; simpa using this)).trans h
      · exact ⟨by simp, fun _ => ⟨g, c', rfl, hr.mono hB⟩, by simp, by simp⟩
    · obtain ⟨g, c, he, hr⟩ := (hG (3, 25) (by simp) (by decide)).2.1 rfl
      clear hG
      simp only at he
      simp only [Plan.puts, he] at hK ⊢
      go_wp2
      exact hK _ _ ⟨by simp, by simp, fun _ => ⟨g, c, rfl, hr⟩, by simp⟩ (by go_grown)
    · clear hG
      go_wp2
      exact hK _ _ ⟨by simp, by simp, by simp, fun _ => ⟨rfl, by simp, by simp, by simp [go_sem], by simp [go_sem]⟩⟩ (by go_grown)
  · intro vs lo hi wx hS hE hG hap
    obtain ⟨⟨e0, v0⟩, _⟩ := (show _ ∧ True from ⟨(hG (0, 22) (by simp)).1.1 rfl, trivial⟩)
    obtain ⟨g0, c0, v1, _⟩ := (hG (3, 25) (by simp)).1.2.1 rfl
    obtain ⟨g, c, v2, hr⟩ := (hG (8, 30) (by simp)).1.2.2.1 rfl
    obtain ⟨v3, h1, h2, h3, h4⟩ := (hG (9, 3) (by simp)).1.2.2.2 rfl
    have hq := (hG (9, 3) (by simp)).2.1
    clear hG hap hE
    have hd : w2.drew.heap.size = w1.heap.size + 1 := HZ.out
    rw [hd] at hq
    simp only at v0 v1 v2 v3 h1 h2 h3 h4 hq
    generalize lo 9 = q at v3 h1 h2 h3 h4 hq
    clear h2
    simp only [Plan.puts, v0, v1, v2, v3]
    have hne : q ≠ g := by
      intro e
      have k1 := hr.cell 0 (by omega)
      have k2 := h3 0
      rw [e, k1] at k2
      simp at k2
    have k0 := h3 0
    have k1 := h3 1
    have k2 := h3 2
    have k3 := h3 3
    have k4 := h3 4
    simp at k0 k1 k2 k3 k4
    have ux : ∀ i : Nat, 0 ≤ i → True := fun _ _ => trivial
    clear ux
    have HR := Lib.hid hr
    have HS := Lib.hid hS
    have az' : ∀ o, wx.frozen? ⟨w1.heap.size, o, none⟩ = false := fun o => (hS.frozen (p := ⟨w1.heap.size, o, none⟩) (by simp)).trans (az o)
    clear hr hS v0 v1 v2 v3 h3 az
    refine Plan.plan_of_last rfl (fun K hK => ?_)
    go_wp2_with fail
    refine Plan.plan_done ?_
    have hr := HR.out
    have hl := hr.le
    have B4 : Below (w1.heap.size + 1) w2 (((((wx.setCell ⟨q, 0, none⟩ (.int .i64 16)).setCell ⟨q, 1, none⟩ (.int .i64 16)).setCell ⟨q, 2, none⟩ (.slice (some ⟨g, 0, none⟩) 256 c)).setCell ⟨q, 3, none⟩ (.slice (some ⟨p2, q2, none⟩) 64 c2)).setCell ⟨q, 4, none⟩ (.slice (some ⟨p3, q3, none⟩) 64 c3)) := by
      repeat (refine Below.setCell ?_ (by simpa using hq) _)
      exact HS.out
    have r4 : Row (((((wx.setCell ⟨q, 0, none⟩ (.int .i64 16)).setCell ⟨q, 1, none⟩ (.int .i64 16)).setCell ⟨q, 2, none⟩ (.slice (some ⟨g, 0, none⟩) 256 c)).setCell ⟨q, 3, none⟩ (.slice (some ⟨p2, q2, none⟩) 64 c2)).setCell ⟨q, 4, none⟩ (.slice (some ⟨p3, q3, none⟩) 64 c3)) (w1.heap.size + 1) g 256 c (fun _ => 16) := by
      repeat (refine Row.far ?_ (by simpa using hne) _)
      exact hr
    have m0 : (((((wx.setCell ⟨q, 0, none⟩ (.int .i64 16)).setCell ⟨q, 1, none⟩ (.int .i64 16)).setCell ⟨q, 2, none⟩ (.slice (some ⟨g, 0, none⟩) 256 c)).setCell ⟨q, 3, none⟩ (.slice (some ⟨p2, q2, none⟩) 64 c2)).setCell ⟨q, 4, none⟩ (.slice (some ⟨p3, q3, none⟩) 64 c3)).cell? ⟨q, 0, none⟩ = some (.int .i64 16) := by simp [go_sem, k0]
    have m1 : (((((wx.setCell ⟨q, 0, none⟩ (.int .i64 16)).setCell ⟨q, 1, none⟩ (.int .i64 16)).setCell ⟨q, 2, none⟩ (.slice (some ⟨g, 0, none⟩) 256 c)).setCell ⟨q, 3, none⟩ (.slice (some ⟨p2, q2, none⟩) 64 c2)).setCell ⟨q, 4, none⟩ (.slice (some ⟨p3, q3, none⟩) 64 c3)).cell? ⟨q, 1, none⟩ = some (.int .i64 16) := by simp [go_sem, k1]
    have m2 : (((((wx.setCell ⟨q, 0, none⟩ (.int .i64 16)).setCell ⟨q, 1, none⟩ (.int .i64 16)).setCell ⟨q, 2, none⟩ (.slice (some ⟨g, 0, none⟩) 256 c)).setCell ⟨q, 3, none⟩ (.slice (some ⟨p2, q2, none⟩) 64 c2)).setCell ⟨q, 4, none⟩ (.slice (some ⟨p3, q3, none⟩) 64 c3)).cell? ⟨q, 2, none⟩ = some (.slice (some ⟨g, 0, none⟩) 256 c) := by simp [go_sem, k2]
    have m3 : (((((wx.setCell ⟨q, 0, none⟩ (.int .i64 16)).setCell ⟨q, 1, none⟩ (.int .i64 16)).setCell ⟨q, 2, none⟩ (.slice (some ⟨g, 0, none⟩) 256 c)).setCell ⟨q, 3, none⟩ (.slice (some ⟨p2, q2, none⟩) 64 c2)).setCell ⟨q, 4, none⟩ (.slice (some ⟨p3, q3, none⟩) 64 c3)).cell? ⟨q, 3, none⟩ = some (.slice (some ⟨p2, q2, none⟩) 64 c2) := by simp [go_sem, k3]
    have m4 : (((((wx.setCell ⟨q, 0, none⟩ (.int .i64 16)).setCell ⟨q, 1, none⟩ (.int .i64 16)).setCell ⟨q, 2, none⟩ (.slice (some ⟨g, 0, none⟩) 256 c)).setCell ⟨q, 3, none⟩ (.slice (some ⟨p2, q2, none⟩) 64 c2)).setCell ⟨q, 4, none⟩ (.slice (some ⟨p3, q3, none⟩) 64 c3)).cell? ⟨q, 4, none⟩ = some (.slice (some ⟨p3, q3, none⟩) 64 c3) := by simp [go_sem, k4]
    clear hr k0 k1 k2 k3 k4 HR HS h4 az'
    generalize (((((wx.setCell ⟨q, 0, none⟩ (.int .i64 16)).setCell ⟨q, 1, none⟩ (.int .i64 16)).setCell ⟨q, 2, none⟩ (.slice (some ⟨g, 0, none⟩) 256 c)).setCell ⟨q, 3, none⟩ (.slice (some ⟨p2, q2, none⟩) 64 c2)).setCell ⟨q, 4, none⟩ (.slice (some ⟨p3, q3, none⟩) 64 c3)) = w4 at B4 r4 m0 m1 m2 m3 m4 ⊢
    replace a0 := (B4.cell (p := ⟨w1.heap.size, 0, none⟩) (by simp)).trans a0
    replace a1 := (B4.cell (p := ⟨w1.heap.size, 1, none⟩) (by simp)).trans a1
    replace a2 := (B4.cell (p := ⟨w1.heap.size, 2, none⟩) (by simp)).trans a2
    replace a3 := (B4.cell (p := ⟨w1.heap.size, 3, none⟩) (by simp)).trans a3
    replace a4 := (B4.cell (p := ⟨w1.heap.size, 4, none⟩) (by simp)).trans a4
    have zg : w4.frozen? ⟨g, 7, none⟩ = false := World.ownsRow.frozenAt r4 7
    have z4 := r4.cell 7 (by omega)
    have u1 : ¬ g = w1.heap.size := by have := r4.le; omega
    have u2 : ¬ g = q := by omega
    have u3 := r4.le
    have B5 : Below (w1.heap.size + 1) w2 (w4.setCell ⟨g, 7, none⟩ (.int .u8 235)) := B4.setCell (by simpa using u3.1) _
    have F5 : FA (w4.setCell ⟨g, 7, none⟩ (.int .u8 235)) (.agg #[.int .i64 16, .int .i64 16, .slice (some ⟨p1, q1, none⟩) 256 c1, .slice (some ⟨p2, q2, none⟩) 64 c2, .slice (some ⟨p3, q3, none⟩) 64 c3]) frA :=
      HF.out.below (B12.out.trans (B5.mono (by omega)))
    have r5 : Row (w4.setCell ⟨g, 7, none⟩ (.int .u8 235)) (w1.heap.size + 1) g 256 c (fun i => if i = 7 then 235 else 16) := r4.store 7 (by simp) (fun i _ hi => by simp [hi])
    have G5 : FA (w4.setCell ⟨g, 7, none⟩ (.int .u8 235)) (.agg #[.int .i64 16, .int .i64 16, .slice (some ⟨g, 0, none⟩) 256 c, .slice (some ⟨p2, q2, none⟩) 64 c2, .slice (some ⟨p3, q3, none⟩) 64 c3]) frB := by
      obtain ⟨y, u, z, he, _, hu, hz⟩ := F5
      simp only [Value.agg.injEq] at he
      refine ⟨_, _, _, rfl, r5.BA (fun i _ => by split <;> omega), ?_, ?_⟩
      · have := congrArg (fun a => a[3]?) he; simp at this; rw [this]; exact hu
      · have := congrArg (fun a => a[4]?) he; simp at this; rw [this]; exact hz
    have H5 := Lib.hid (And.intro B5 (And.intro F5 G5))
    have aa0 : (w4.setCell ⟨g, 7, none⟩ (.int .u8 235)).cell? ⟨w1.heap.size, 0, none⟩ = some (.int .i64 16) := by rw [World.cell?_setCell_far _ _ _ _ (by simp; omega)]; exact a0
    have aa1 : (w4.setCell ⟨g, 7, none⟩ (.int .u8 235)).cell? ⟨w1.heap.size, 1, none⟩ = some (.int .i64 16) := by rw [World.cell?_setCell_far _ _ _ _ (by simp; omega)]; exact a1
    have aa2 : (w4.setCell ⟨g, 7, none⟩ (.int .u8 235)).cell? ⟨w1.heap.size, 2, none⟩ = some (.slice (some ⟨p1, q1, none⟩) 256 c1) := by rw [World.cell?_setCell_far _ _ _ _ (by simp; omega)]; exact a2
    have aa3 : (w4.setCell ⟨g, 7, none⟩ (.int .u8 235)).cell? ⟨w1.heap.size, 3, none⟩ = some (.slice (some ⟨p2, q2, none⟩) 64 c2) := by rw [World.cell?_setCell_far _ _ _ _ (by simp; omega)]; exact a3
    have aa4 : (w4.setCell ⟨g, 7, none⟩ (.int .u8 235)).cell? ⟨w1.heap.size, 4, none⟩ = some (.slice (some ⟨p3, q3, none⟩) 64 c3) := by rw [World.cell?_setCell_far _ _ _ _ (by simp; omega)]; exact a4
    have mm0 : (w4.setCell ⟨g, 7, none⟩ (.int .u8 235)).cell? ⟨q, 0, none⟩ = some (.int .i64 16) := by rw [World.cell?_setCell_far _ _ _ _ (by simp; omega)]; exact m0
    have mm1 : (w4.setCell ⟨g, 7, none⟩ (.int .u8 235)).cell? ⟨q, 1, none⟩ = some (.int .i64 16) := by rw [World.cell?_setCell_far _ _ _ _ (by simp; omega)]; exact m1
    have mm2 : (w4.setCell ⟨g, 7, none⟩ (.int .u8 235)).cell? ⟨q, 2, none⟩ = some (.slice (some ⟨g, 0, none⟩) 256 c) := by rw [World.cell?_setCell_far _ _ _ _ (by simp; omega)]; exact m2
    have mm3 : (w4.setCell ⟨g, 7, none⟩ (.int .u8 235)).cell? ⟨q, 3, none⟩ = some (.slice (some ⟨p2, q2, none⟩) 64 c2) := by rw [World.cell?_setCell_far _ _ _ _ (by simp; omega)]; exact m3
    have mm4 : (w4.setCell ⟨g, 7, none⟩ (.int .u8 235)).cell? ⟨q, 4, none⟩ = some (.slice (some ⟨p3, q3, none⟩) 64 c3) := by rw [World.cell?_setCell_far _ _ _ _ (by simp; omega)]; exact m4
    have u4 : q < w4.heap.size := block_lt_of_cell m0
    have s5 : (w4.setCell ⟨g, 7, none⟩ (.int .u8 235)).heap.size = w4.heap.size := World.size_setCell ..
    clear B5 F5 G5 r5 B4
    go_wp2_with fail
    clear a0 a1 a2 a3 a4 m0 m1 m2 m3 m4 r4 zg z4
    have a0 := aa0
    clear aa0
    have a1 := aa1
    clear aa1
    have a2 := aa2
    clear aa2
    have a3 := aa3
    clear aa3
    have a4 := aa4
    clear aa4
    have m0 := mm0
    clear mm0
    have m1 := mm1
    clear mm1
    have m2 := mm2
    clear mm2
    have m3 := mm3
    clear mm3
    have m4 := mm4
    clear mm4
    generalize w4.setCell ⟨g, 7, none⟩ (.int .u8 235) = w5 at H5 a0 a1 a2 a3 a4 m0 m1 m2 m3 m4 s5 ⊢
    have s2 := H5.out.1.size
    have HZ2 := HZ.out
    refine (mix_yes _ _ frA frB 1 2 _ H5.out.2.1 H5.out.2.2 (by decide) (by decide)).mono ?_
    rintro e w6 ⟨r, rfl, hf, hb6⟩
    obtain ⟨y, uu, z, rfl, hy, hu, hz⟩ := hf
    obtain ⟨p4, q4, c4, rfl, l4, X4, _⟩ := hy.open (by decide)
    obtain ⟨p5, q5, c5, rfl, l5, _, _⟩ := hu.open (by decide)
    obtain ⟨p6, q6, c6, rfl, l6, _, _⟩ := hz.open (by decide)
    have y7 : w6.cell? ⟨p4, q4 + 7, none⟩ = some (.int .u8 126) := X4 7 (by decide)
    have y8 : w6.cell? ⟨p4, q4 + 8, none⟩ = some (.int .u8 16) := X4 8 (by decide)
    clear X4 hy hu hz
    have n6 := hb6.size
    replace a0 := (hb6.cell (p := ⟨w1.heap.size, 0, none⟩) (by simp; omega)).trans a0
    replace a1 := (hb6.cell (p := ⟨w1.heap.size, 1, none⟩) (by simp; omega)).trans a1
    replace a2 := (hb6.cell (p := ⟨w1.heap.size, 2, none⟩) (by simp; omega)).trans a2
    replace a3 := (hb6.cell (p := ⟨w1.heap.size, 3, none⟩) (by simp; omega)).trans a3
    replace a4 := (hb6.cell (p := ⟨w1.heap.size, 4, none⟩) (by simp; omega)).trans a4
    replace m0 := (hb6.cell (p := ⟨q, 0, none⟩) (by simp; omega)).trans m0
    replace m1 := (hb6.cell (p := ⟨q, 1, none⟩) (by simp; omega)).trans m1
    replace m2 := (hb6.cell (p := ⟨q, 2, none⟩) (by simp; omega)).trans m2
    replace m3 := (hb6.cell (p := ⟨q, 3, none⟩) (by simp; omega)).trans m3
    replace m4 := (hb6.cell (p := ⟨q, 4, none⟩) (by simp; omega)).trans m4
    have u5 : w1.heap.size < w6.heap.size := by omega
    have u6 : q < w6.heap.size := by omega
    have HB6 := Lib.hid (H5.out.1.trans (hb6.mono (by omega)))
    have HF6 := Lib.hid (And.intro (H5.out.2.1.below hb6) (H5.out.2.2.below hb6))
    clear H5 hb6
    simp only [mixFr, frA] at l4 l5 l6 ⊢
    go_wp2_with fail
    refine (wipe_yes _ _ frA frB 0 1 0 _ (HF6.out.1.below (below_box _ _)) (HF6.out.2.below (below_box _ _)) (by decide) (by decide) (by decide)).mono ?_
    rintro e w7 ⟨r, rfl, hf, hb7⟩
    have HW := Lib.hid hf
    obtain ⟨ay, cy, au, cu, av, cv, rfl⟩ := hf.shape
    clear hf
    simp only [wipeFr, frA] at HW ⊢
    have n7 := hb7.size
    simp only [World.size_alloc] at n7
    have E7 := (below_box w6 _).trans (hb7.mono (by simp))
    replace y7 := (E7.cell (block_lt_of_cell y7)).trans y7
    replace y8 := (E7.cell (block_lt_of_cell y8)).trans y8
    clear m0 m1 m2 m3 m4
    have k0 := (hb7.cell (p := ⟨w6.heap.size, 0, none⟩) (by simp)).trans (show _ = some (.int .i64 16) by simp [go_sem])
    have k1 := (hb7.cell (p := ⟨w6.heap.size, 1, none⟩) (by simp)).trans (show _ = some (.int .i64 16) by simp [go_sem])
    have k2 := (hb7.cell (p := ⟨w6.heap.size, 2, none⟩) (by simp)).trans (show _ = some (.slice (some ⟨p4, q4, none⟩) 256 c4) by simp [go_sem])
    have k3 := (hb7.cell (p := ⟨w6.heap.size, 3, none⟩) (by simp)).trans (show _ = some (.slice (some ⟨p5, q5, none⟩) 64 c5) by simp [go_sem])
    have k4 := (hb7.cell (p := ⟨w6.heap.size, 4, none⟩) (by simp)).trans (show _ = some (.slice (some ⟨p6, q6, none⟩) 64 c6) by simp [go_sem])
    replace a0 := (E7.cell (p := ⟨w1.heap.size, 0, none⟩) (by simp; omega)).trans a0
    replace a1 := (E7.cell (p := ⟨w1.heap.size, 1, none⟩) (by simp; omega)).trans a1
    replace a2 := (E7.cell (p := ⟨w1.heap.size, 2, none⟩) (by simp; omega)).trans a2
    replace a3 := (E7.cell (p := ⟨w1.heap.size, 3, none⟩) (by simp; omega)).trans a3
    replace a4 := (E7.cell (p := ⟨w1.heap.size, 4, none⟩) (by simp; omega)).trans a4
    have HB7 := Lib.hid (HB6.out.trans (E7.mono (by omega)))
    have HF7 := Lib.hid (HF6.out.1.below E7)
    clear hb7 E7 HB6 HF6
    have u7 : w1.heap.size < w7.heap.size := by omega
    have u8 : w6.heap.size < w7.heap.size := by omega
    go_wp2_with fail
    refine (eval_black 16 16 _ (by decide)).mono ?_
    rintro e w8 ⟨r, rfl, hf, hb8⟩
    rw [frA_black] at hf
    have HE := Lib.hid hf
    obtain ⟨ay2, cy2, au2, cu2, av2, cv2, rfl⟩ := hf.shape
    clear hf
    simp only [frA]
    have n8 := hb8.size
    simp only [World.size_alloc] at n8
    have E8 := (below_box w7 _).trans (hb8.mono (by simp))
    replace y7 := (E8.cell (block_lt_of_cell y7)).trans y7
    replace y8 := (E8.cell (block_lt_of_cell y8)).trans y8
    have d0 := (hb8.cell (p := ⟨w7.heap.size, 0, none⟩) (by simp)).trans (show _ = some (.int .i64 16) by simp [go_sem])
    have d1 := (hb8.cell (p := ⟨w7.heap.size, 1, none⟩) (by simp)).trans (show _ = some (.int .i64 16) by simp [go_sem])
    have d2 := (hb8.cell (p := ⟨w7.heap.size, 2, none⟩) (by simp)).trans (show _ = some (.slice ay 256 cy) by simp [go_sem])
    have d3 := (hb8.cell (p := ⟨w7.heap.size, 3, none⟩) (by simp)).trans (show _ = some (.slice au 64 cu) by simp [go_sem])
    have d4 := (hb8.cell (p := ⟨w7.heap.size, 4, none⟩) (by simp)).trans (show _ = some (.slice av 64 cv) by simp [go_sem])
    replace a0 := (E8.cell (p := ⟨w1.heap.size, 0, none⟩) (by simp; omega)).trans a0
    replace a1 := (E8.cell (p := ⟨w1.heap.size, 1, none⟩) (by simp; omega)).trans a1
    replace a2 := (E8.cell (p := ⟨w1.heap.size, 2, none⟩) (by simp; omega)).trans a2
    replace a3 := (E8.cell (p := ⟨w1.heap.size, 3, none⟩) (by simp; omega)).trans a3
    replace a4 := (E8.cell (p := ⟨w1.heap.size, 4, none⟩) (by simp; omega)).trans a4
    replace k0 := (E8.cell (p := ⟨w6.heap.size, 0, none⟩) (by simp; omega)).trans k0
    replace k1 := (E8.cell (p := ⟨w6.heap.size, 1, none⟩) (by simp; omega)).trans k1
    replace k2 := (E8.cell (p := ⟨w6.heap.size, 2, none⟩) (by simp; omega)).trans k2
    replace k3 := (E8.cell (p := ⟨w6.heap.size, 3, none⟩) (by simp; omega)).trans k3
    replace k4 := (E8.cell (p := ⟨w6.heap.size, 4, none⟩) (by simp; omega)).trans k4
    have HB8 := Lib.hid (HB7.out.trans (E8.mono (by omega)))
    have HF8 := Lib.hid (HF7.out.below E8)
    have HW8 := Lib.hid (HW.out.below E8)
    clear hb8 E8 HB7 HF7 HW
    have v7 : w1.heap.size < w8.heap.size := by omega
    have v8 : w6.heap.size < w8.heap.size := by omega
    have v9 : w7.heap.size < w8.heap.size := by omega
    have v7b : w1.heap.size < w8.heap.size + 1 := by omega
    have v7c : w1.heap.size < w8.heap.size + 1 + 1 := by omega
    have v10 := block_lt_of_cell y7
    simp only at v10
    go_wp2_with fail
    refine (same_any _ _ (wipeFr 0 1 0 frA frB) frA _ (HW8.out.below (below_box _ _)) (HF8.out.below (below_box _ _))).mono ?_
    rintro e w9 ⟨rfl, rfl⟩
    rw [same_wipe]
    go_wp2_with fail
    refine (same_any _ _ frA frA _ (HE.out.below (by go_grown)) (HF8.out.below (by go_grown))).mono ?_
    rintro e w9 ⟨rfl, rfl⟩
    rw [same_frA]
    go_wp2_with fail
    refine (glyph_low 73 _ (by decide) (by decide) (by decide)).mono ?_
    rintro e w10 ⟨rfl, hb10⟩
    rw [glyph_73]
    have heq := eq_73
    go_wp2_with fail
    go_ret
    refine ⟨rfl, W1.out.trans (Below.mono (B := w1.heap.size) ?_ n1.out)⟩
    have P5 : ∀ o1 o2 o3 o4 o5, Below w8.heap.size w8 (((((w8.alloc o1).alloc o2).alloc o3).alloc o4).alloc o5) := fun _ _ _ _ _ => by go_grown
    have Z1 : Below w8.heap.size w8 w10 := (P5 _ _ _ _ _).trans (hb10.mono (by simp; omega))
    exact (B12.out.trans (HB8.out.mono (by omega))).trans (Z1.mono (by omega))
end Go.Proofs.Ytnnobdcbmagbaaa

/- Plain laws of the weighted mean and of the wipe: no program in sight. -/
namespace Go.Proofs.Ytnnobdcbmagbaaa
open Go.RowKit
set_option linter.unusedVariables false

theorem mean_id {x den r : Int} (hd : 1 ≤ den) (hr : 0 ≤ r) (hr2 : r < den) : (x * den + r) / den = x := by
  rw [Int.add_comm, Int.add_mul_ediv_right _ _ (by omega), Int.ediv_eq_zero_of_lt hr hr2]; omega

theorem blend_first {x y den : Int} (hd : 1 ≤ den) (h0 : 0 ≤ x) (h1 : x < 256) : blend1 0 den x y = x := by
  unfold blend1
  rw [Int.sub_zero, Int.mul_zero, Int.add_zero, mean_id hd (by omega) (by omega)]; omega

theorem blend_second {x y den : Int} (hd : 1 ≤ den) (h0 : 0 ≤ y) (h1 : y < 256) : blend1 den den x y = y := by
  unfold blend1
  rw [Int.sub_self, Int.mul_zero, Int.zero_add, mean_id hd (by omega) (by omega)]; omega

theorem blend_same {x num den : Int} (hd : 1 ≤ den) (h0 : 0 ≤ x) (h1 : x < 256) : blend1 num den x x = x := by
  unfold blend1
  rw [show x * (den - num) + x * num = x * den by rw [← Int.mul_add]; congr 1; omega, mean_id hd (by omega) (by omega)]; omega

theorem blend_swap (x y num den : Int) : blend1 (den - num) den y x = blend1 num den x y := by
  unfold blend1
  rw [show den - (den - num) = num by omega, Int.add_comm (y * num)]

theorem blend_between {x y num den lo hi : Int} (hd : 1 ≤ den) (hn0 : 0 ≤ num) (hn1 : num ≤ den) (hl0 : 0 ≤ lo) (hh : hi < 256) (hlx : lo ≤ x) (hly : lo ≤ y) (hxh : x ≤ hi) (hyh : y ≤ hi) :
    blend1 num den x y = (x * (den - num) + y * num + den / 2) / den ∧ lo ≤ blend1 num den x y ∧ blend1 num den x y ≤ hi := by
  have a1 : lo * (den - num) ≤ x * (den - num) := Int.mul_le_mul_of_nonneg_right hlx (by omega)
  have a2 : lo * num ≤ y * num := Int.mul_le_mul_of_nonneg_right hly hn0
  have a3 : x * (den - num) ≤ hi * (den - num) := Int.mul_le_mul_of_nonneg_right hxh (by omega)
  have a4 : y * num ≤ hi * num := Int.mul_le_mul_of_nonneg_right hyh hn0
  have e1 : lo * (den - num) + lo * num = lo * den := by rw [← Int.mul_add]; congr 1; omega
  have e2 : hi * (den - num) + hi * num = hi * den := by rw [← Int.mul_add]; congr 1; omega
  have b1 : lo ≤ (x * (den - num) + y * num + den / 2) / den := Int.le_ediv_of_mul_le (by omega) (by omega)
  have b2 : (x * (den - num) + y * num + den / 2) / den < hi + 1 := Int.ediv_lt_of_lt_mul (by omega) (by rw [Int.add_mul]; omega)
  have e : blend1 num den x y = (x * (den - num) + y * num + den / 2) / den := by unfold blend1; exact Int.emod_eq_of_lt (by omega) (by omega)
  rw [e]
  exact ⟨rfl, b1, by omega⟩

theorem blend_up {x y num den : Int} (hd : 1 ≤ den) (hn0 : 0 ≤ num) (hn1 : num + 1 ≤ den) (hx0 : 0 ≤ x) (hy : y < 256) (h : x ≤ y) : blend1 num den x y ≤ blend1 (num + 1) den x y := by
  obtain ⟨e1, _⟩ := blend_between (x := x) (y := y) (num := num) (lo := x) (hi := y) hd hn0 (by omega) hx0 hy (Int.le_refl _) h h (Int.le_refl _)
  obtain ⟨e2, _⟩ := blend_between (x := x) (y := y) (num := num + 1) (lo := x) (hi := y) hd (by omega) hn1 hx0 hy (Int.le_refl _) h h (Int.le_refl _)
  rw [e1, e2]
  refine Int.ediv_le_ediv (by omega) ?_
  have e : x * (den - num) = x * (den - (num + 1)) + x := by rw [show den - num = (den - (num + 1)) + 1 by omega, Int.mul_add, Int.mul_one]
  have e' : y * (num + 1) = y * num + y := by rw [Int.mul_add, Int.mul_one]
  omega

theorem blend_down {x y num den : Int} (hd : 1 ≤ den) (hn0 : 0 ≤ num) (hn1 : num + 1 ≤ den) (hy0 : 0 ≤ y) (hx : x < 256) (h : y ≤ x) : blend1 (num + 1) den x y ≤ blend1 num den x y := by
  obtain ⟨e1, _⟩ := blend_between (x := x) (y := y) (num := num) (lo := y) (hi := x) hd hn0 (by omega) hy0 hx h (Int.le_refl _) (Int.le_refl _) h
  obtain ⟨e2, _⟩ := blend_between (x := x) (y := y) (num := num + 1) (lo := y) (hi := x) hd (by omega) hn1 hy0 hx h (Int.le_refl _) (Int.le_refl _) h
  rw [e1, e2]
  refine Int.ediv_le_ediv (by omega) ?_
  have e : x * (den - num) = x * (den - (num + 1)) + x := by rw [show den - num = (den - (num + 1)) + 1 by omega, Int.mul_add, Int.mul_one]
  have e' : y * (num + 1) = y * num + y := by rw [Int.mul_add, Int.mul_one]
  omega

/-! ### The wipe -/
theorem wipe_first {W H d den : Int} {X Y : Nat → Int} {i : Nat} (hd0 : 0 ≤ d) (hW : 1 ≤ W) (hi : (i : Int) < W * H) (hden : 0 ≤ den) : wipeF W H d 0 den X Y i = X i := by
  obtain ⟨h1, h2, h3, h4⟩ := div_bd hW hi
  unfold wipeF
  rw [if_neg]
  rw [Int.mul_zero]
  have : 0 ≤ (placeF ((i : Int) % W) ((i : Int) / W) W H d).1 := by
    unfold placeF; split
    · exact h1
    · split
      · show 0 ≤ W - 1 - (i : Int) % W; omega
      · split
        · exact h3
        · show 0 ≤ H - 1 - (i : Int) / W; omega
  have := Int.mul_nonneg this hden
  omega

theorem place_lt {W H d : Int} {i : Nat} (hW : 1 ≤ W) (hi : (i : Int) < W * H) : (placeF ((i : Int) % W) ((i : Int) / W) W H d).1 < (placeF ((i : Int) % W) ((i : Int) / W) W H d).2 := by
  obtain ⟨h1, h2, h3, h4⟩ := div_bd hW hi
  unfold placeF; split
  · exact h2
  · split
    · show W - 1 - (i : Int) % W < W; omega
    · split
      · exact h4
      · show H - 1 - (i : Int) / W < H; omega

theorem wipe_second {W H d den : Int} {X Y : Nat → Int} {i : Nat} (hW : 1 ≤ W) (hi : (i : Int) < W * H) (hden : 1 ≤ den) : wipeF W H d den den X Y i = Y i := by
  unfold wipeF
  rw [if_pos]
  exact Int.mul_lt_mul_of_pos_right (place_lt hW hi) (by omega)

theorem wipe_sides {W H num : Int} {X Y : Nat → Int} {i : Nat} (hW : W % 8 = 0) (hW0 : 1 ≤ W) (hi : (i : Int) < W * H) : wipeF W H 0 num 8 X Y i = wipeF W H 1 (8 - num) 8 Y X i := by
  obtain ⟨h1, h2, h3, h4⟩ := div_bd hW0 hi
  obtain ⟨c, rfl⟩ : ∃ c, W = 8 * c := ⟨W / 8, by omega⟩
  unfold wipeF placeF
  simp only [if_true, show ¬ ((1 : Int) = 0) by decide, if_false]
  generalize (i : Int) % (8 * c) = x at h1 h2
  have e1 : 8 * c * num = 8 * (c * num) := Int.mul_assoc _ _ _
  have e2 : 8 * c * (8 - num) = 8 * (8 * c - c * num) := by rw [Int.mul_assoc, Int.mul_sub, Int.mul_comm c 8]
  rw [e1, e2]
  generalize c * num = m
  by_cases h : x * 8 < 8 * m
  · rw [if_pos h, if_neg (by omega)]
  · rw [if_neg h, if_pos (by omega)]

theorem wipe_sides2 {W H num : Int} {X Y : Nat → Int} {i : Nat} (hH : H % 8 = 0) (hW0 : 1 ≤ W) (hi : (i : Int) < W * H) : wipeF W H 2 num 8 X Y i = wipeF W H 3 (8 - num) 8 Y X i := by
  obtain ⟨h1, h2, h3, h4⟩ := div_bd hW0 hi
  obtain ⟨c, rfl⟩ : ∃ c, H = 8 * c := ⟨H / 8, by omega⟩
  unfold wipeF placeF
  simp only [if_true, show ¬ ((2 : Int) = 0) by decide, show ¬ ((2 : Int) = 1) by decide, show ¬ ((3 : Int) = 0) by decide, show ¬ ((3 : Int) = 1) by decide, show ¬ ((3 : Int) = 2) by decide, if_false]
  generalize (i : Int) / W = x at h3 h4
  have e1 : 8 * c * num = 8 * (c * num) := Int.mul_assoc _ _ _
  have e2 : 8 * c * (8 - num) = 8 * (8 * c - c * num) := by rw [Int.mul_assoc, Int.mul_sub, Int.mul_comm c 8]
  rw [e1, e2]
  generalize c * num = m
  by_cases h : x * 8 < 8 * m
  · rw [if_pos h, if_neg (by omega)]
  · rw [if_neg h, if_pos (by omega)]

end Go.Proofs.Ytnnobdcbmagbaaa

/- Aid for the laws' walks: a frame in a box, the same frame twice. -/
namespace Go.Proofs.Ytnnobdcbmagbaaa
open Go.RowKit

/-- Block b holds the five cells of a frame. -/
structure BX (w : World) (b : Nat) (c0 c1 c2 c3 c4 : Value) : Prop where
  k0 : w.cell? ⟨b, 0, none⟩ = some c0
  k1 : w.cell? ⟨b, 1, none⟩ = some c1
  k2 : w.cell? ⟨b, 2, none⟩ = some c2
  k3 : w.cell? ⟨b, 3, none⟩ = some c3
  k4 : w.cell? ⟨b, 4, none⟩ = some c4
theorem BX.lt {w : World} {b : Nat} {c0 c1 c2 c3 c4 : Value} (h : BX w b c0 c1 c2 c3 c4) : b < w.heap.size := block_lt_of_cell h.k0
theorem BX.below {w w' : World} {b : Nat} {c0 c1 c2 c3 c4 : Value} (h : BX w b c0 c1 c2 c3 c4) (hb : Below w.heap.size w w') : BX w' b c0 c1 c2 c3 c4 :=
  ⟨(hb.cell h.lt).trans h.k0, (hb.cell h.lt).trans h.k1, (hb.cell h.lt).trans h.k2, (hb.cell h.lt).trans h.k3, (hb.cell h.lt).trans h.k4⟩
theorem BX.of_alloc (w : World) (c0 c1 c2 c3 c4 : Value) (t : TypeId) : BX (w.alloc (.cells #[c0, c1, c2, c3, c4] t)) w.heap.size c0 c1 c2 c3 c4 :=
  ⟨by simp [go_sem], by simp [go_sem], by simp [go_sem], by simp [go_sem], by simp [go_sem]⟩

/-- X has the size of F. -/
def Dim (X F : Fr) : Prop := X.W = F.W ∧ X.H = F.H ∧ X.nY = F.nY ∧ X.nU = F.nU ∧ X.nV = F.nV
theorem Dim.refl (F : Fr) : Dim F F := ⟨rfl, rfl, rfl, rfl, rfl⟩
theorem Dim.of_pair {F G : Fr} (h : pairOk F G = true) : Dim G F := by
  obtain ⟨_, _, e1, e2, e3, e4, e5⟩ := pair_dims h
  exact ⟨e1.symm, e2.symm, e3, e4, e5⟩
theorem FA.shapeAs {w : World} {v : Value} {X F : Fr} (h : FA w v X) (d : Dim X F) : ∃ ay cy au cu av cv, v = .agg #[.int .i64 F.W, .int .i64 F.H, .slice ay F.nY cy, .slice au F.nU cu, .slice av F.nV cv] := by
  obtain ⟨d1, d2, d3, d4, d5⟩ := d
  rw [← d1, ← d2, ← d3, ← d4, ← d5]
  exact h.shape
theorem BX.of_alloc' (w : World) (b : Nat) (c0 c1 c2 c3 c4 : Value) (t : TypeId) (h : b = w.heap.size) : BX (w.alloc (.cells #[c0, c1, c2, c3, c4] t)) b c0 c1 c2 c3 c4 := h ▸ BX.of_alloc w c0 c1 c2 c3 c4 t

theorem same_yes (v u : Value) (F G : Fr) (w : World) (hv : FA w v F) (hu : FA w u G) (h : frSame F G = true) :
    Calls Try.prog 19 #[v, u] w fun e w' => e = .returned (.bool true) ∧ Below w.heap.size w w' := by
  refine (same_any v u F G w hv hu).mono ?_
  rintro e w' ⟨rfl, rfl⟩
  exact ⟨by rw [h], by go_grown⟩

theorem pairOk_of {F G : Fr} (h1 : F.ok = true) (h2 : G.ok = true) (h3 : F.W = G.W) (h4 : F.H = G.H) : pairOk F G = true := by simp [pairOk, h1, h2, h3, h4]
theorem okShare_of {n d : Int} (h1 : 1 ≤ d) (h2 : d ≤ 2147483648) (h3 : 0 ≤ n) (h4 : n ≤ d) : okShare n d = true := by simp [okShare]; omega
theorem FA.bdY {w : World} {v : Value} {F : Fr} (h : FA w v F) : ∀ i, i < F.nY → 0 ≤ F.Y i ∧ F.Y i < 256 := by obtain ⟨_, _, _, _, a, _, _⟩ := h; exact a.bd
theorem FA.bdU {w : World} {v : Value} {F : Fr} (h : FA w v F) : ∀ i, i < F.nU → 0 ≤ F.U i ∧ F.U i < 256 := by obtain ⟨_, _, _, _, _, a, _⟩ := h; exact a.bd
theorem FA.bdV {w : World} {v : Value} {F : Fr} (h : FA w v F) : ∀ i, i < F.nV → 0 ≤ F.V i ∧ F.V i < 256 := by obtain ⟨_, _, _, _, _, _, a⟩ := h; exact a.bd

theorem mix_zero {F G : Fr} {den : Int} (hd : 1 ≤ den) (h1 : ∀ i, i < F.nY → 0 ≤ F.Y i ∧ F.Y i < 256) (h2 : ∀ i, i < F.nU → 0 ≤ F.U i ∧ F.U i < 256) (h3 : ∀ i, i < F.nV → 0 ≤ F.V i ∧ F.V i < 256) : frSame (mixFr 0 den F G) F = true :=
  frSame_of rfl rfl rfl rfl rfl (fun i hi => blend_first hd (h1 i hi).1 (h1 i hi).2) (fun i hi => blend_first hd (h2 i hi).1 (h2 i hi).2) (fun i hi => blend_first hd (h3 i hi).1 (h3 i hi).2)
theorem mix_one {F G : Fr} {den : Int} (hp : pairOk F G = true) (hd : 1 ≤ den) (h1 : ∀ i, i < G.nY → 0 ≤ G.Y i ∧ G.Y i < 256) (h2 : ∀ i, i < G.nU → 0 ≤ G.U i ∧ G.U i < 256) (h3 : ∀ i, i < G.nV → 0 ≤ G.V i ∧ G.V i < 256) : frSame (mixFr den den F G) G = true := by
  obtain ⟨_, _, e1, e2, e3, e4, e5⟩ := pair_dims hp
  exact frSame_of e1 e2 e3.symm e4.symm e5.symm (fun i (hi : i < F.nY) => blend_second hd (h1 i (by omega)).1 (h1 i (by omega)).2) (fun i (hi : i < F.nU) => blend_second hd (h2 i (by omega)).1 (h2 i (by omega)).2) (fun i (hi : i < F.nV) => blend_second hd (h3 i (by omega)).1 (h3 i (by omega)).2)
theorem mix_self {F : Fr} {num den : Int} (hd : 1 ≤ den) (h1 : ∀ i, i < F.nY → 0 ≤ F.Y i ∧ F.Y i < 256) (h2 : ∀ i, i < F.nU → 0 ≤ F.U i ∧ F.U i < 256) (h3 : ∀ i, i < F.nV → 0 ≤ F.V i ∧ F.V i < 256) : frSame (mixFr num den F F) F = true :=
  frSame_of rfl rfl rfl rfl rfl (fun i hi => blend_same hd (h1 i hi).1 (h1 i hi).2) (fun i hi => blend_same hd (h2 i hi).1 (h2 i hi).2) (fun i hi => blend_same hd (h3 i hi).1 (h3 i hi).2)

/-- A byte of a plane, by its address. -/
theorem FA.plane {w : World} {F : Fr} {W H : Value} {ay au av : Option Addr} {n1 c1 n2 c2 n3 c3 : Nat} (h : FA w (.agg #[W, H, .slice ay n1 c1, .slice au n2 c2, .slice av n3 c3]) F) :
    (0 < F.nY → ∃ b o, ay = some ⟨b, o, none⟩ ∧ ∀ i, i < F.nY → w.cell? ⟨b, o + i, none⟩ = some (.int .u8 (F.Y i))) ∧ (0 < F.nU → ∃ b o, au = some ⟨b, o, none⟩ ∧ ∀ i, i < F.nU → w.cell? ⟨b, o + i, none⟩ = some (.int .u8 (F.U i))) ∧ (0 < F.nV → ∃ b o, av = some ⟨b, o, none⟩ ∧ ∀ i, i < F.nV → w.cell? ⟨b, o + i, none⟩ = some (.int .u8 (F.V i))) ∧ n1 = F.nY ∧ n2 = F.nU ∧ n3 = F.nV ∧ F.nY ≤ c1 ∧ F.nU ≤ c2 ∧ F.nV ≤ c3 := by
  obtain ⟨y, u, z, e, ⟨a1, d1, rfl, l1, H1⟩, ⟨a2, d2, rfl, l2, H2⟩, ⟨a3, d3, rfl, l3, H3⟩⟩ := h
  simp only [Value.agg.injEq, Array.mk.injEq, List.cons.injEq, Value.slice.injEq, and_true] at e
  obtain ⟨_, _, ⟨rfl, rfl, rfl⟩, ⟨rfl, rfl, rfl⟩, rfl, rfl, rfl⟩ := e
  have key : ∀ (a : Option Addr) (n : Nat) (f : Nat → Int), (∀ i, i < n → (∃ b o, a = some ⟨b, o, none⟩ ∧ w.cell? ⟨b, o + i, none⟩ = some (.int .u8 (f i))) ∧ 0 ≤ f i ∧ f i < 256) → 0 < n → ∃ b o, a = some ⟨b, o, none⟩ ∧ ∀ i, i < n → w.cell? ⟨b, o + i, none⟩ = some (.int .u8 (f i)) := by
    intro a n f hh hn
    obtain ⟨⟨b, o, rfl, _⟩, _⟩ := hh 0 hn
    refine ⟨b, o, rfl, fun i hi => ?_⟩
    obtain ⟨⟨b', o', e, hc⟩, _⟩ := hh i hi
    simp only [Option.some.injEq, Addr.mk.injEq, and_true] at e
    obtain ⟨rfl, rfl⟩ := e
    exact hc
  exact ⟨key _ _ _ H1, key _ _ _ H2, key _ _ _ H3, rfl, rfl, rfl, l1, l2, l3⟩

end Go.Proofs.Ytnnobdcbmagbaaa
