/- Texts of this claim joined: M N O TA PlanB. -/
import Derived.Deep.Light
import Derived.Test.YtnnobdcbmagbaaaEv00
set_option linter.unusedVariables false
set_option linter.unusedSimpArgs false

/- The contracts of cutroomref26.blank, planes, Black. -/
namespace Go.Proofs.Ytnnobdcbmagbaaa
open Go.RowKit

def lenAt (n1 n2 : Nat) (i : Nat) : Nat := if i = 5 then n1 else n2
/-- A row of zeros that was made between the blocks lo and hi. -/
def Made (B n lo hi : Nat) (v : Value) (w : World) : Prop := ∃ g, v = .slice (some ⟨g, 0, none⟩) n n ∧ Row w B g n n (fun _ => 0) ∧ lo ≤ g ∧ g < hi
theorem Made.ext {B n lo hi : Nat} {v : Value} {w w' : World} (h : Made B n lo hi v w) (e : Plan.Ext w w') : Made B n lo hi v w' := by
  obtain ⟨g, rfl, r, h1, h2⟩ := h
  exact ⟨g, rfl, r.below e, h1, h2⟩

theorem wpList_made (w : World) {ops : Array Oper} {rest : List Oper} {o : Oper} {a : Act} {Q : Exit → Act → World → Prop} (hgd : o.guard = none) (l c : Operand)
    (ho : o.op = .makeSlice 24 l c) (B : Nat) (m : Int) (h0 : 0 ≤ m) (hm : m ≤ 1048576) (hl : a.eval l = .int .i64 m) (hc : a.eval c = .int .i64 m) (hB : B ≤ w.heap.size)
    (h : ∀ v w', Made B m.toNat w.heap.size w'.heap.size v w' → Plan.Ext w w' → wpList Try.prog ops Q rest (a.put o.dst v) w') : wpList Try.prog ops Q (o :: rest) a w := by
  obtain ⟨i0, hi, hz0, hz1, hz2⟩ := info_parts info5
  obtain ⟨n, rfl⟩ := Int.eq_ofNat_of_zero_le h0
  rw [Int.toNat_natCast] at h
  refine wpList_make_full _ hgd l c 24 ho B 5 i0 (.int .u8 0) 1 Try.underlying24 hi hz0 hz1 _ _ _ _ n hl hc rfl rfl ?_ ?_ hB ?_
  · rw [hz2]; omega
  · unfold maxLen; omega
  · intro w1 hown hg
    rw [Nat.mul_one] at hown
    have hr := Row.of_made hown
    have hb : Below w.heap.size w w1 := (Below.refl _ _).grown hg (Nat.le_refl _) (fun k h => by cases h)
    exact h _ w1 ⟨_, rfl, hr, Nat.le_refl _, hr.le.2.1⟩ hb

set_option maxRecDepth 100000 in
set_option maxHeartbeats 2000000 in
theorem blank_any (W H : Int) (w : World) (hs : okSize W H = true) :
    Calls Try.prog 42 #[.int .i64 W, .int .i64 H] w fun e w' => ∃ g1 g2 g3, e = .returned (.agg #[.int .i64 W, .int .i64 H, .slice (some ⟨g1, 0, none⟩) (W * H).toNat (W * H).toNat, .slice (some ⟨g2, 0, none⟩) (W * H / 4).toNat (W * H / 4).toNat, .slice (some ⟨g3, 0, none⟩) (W * H / 4).toNat (W * H / 4).toNat]) ∧
      Row w' w.heap.size g1 (W * H).toNat (W * H).toNat (fun _ => 0) ∧ Row w' w.heap.size g2 (W * H / 4).toNat (W * H / 4).toNat (fun _ => 0) ∧ Row w' w.heap.size g3 (W * H / 4).toNat (W * H / 4).toNat (fun _ => 0) ∧
      g1 ≠ g2 ∧ g1 ≠ g3 ∧ g2 ≠ g3 ∧ Below w.heap.size w w' := by
  obtain ⟨b1, b2, b3, b4, b5, b6, b7, b8⟩ := okSize_bd hs
  have e1 := IntWalk.i64_in (W * H) (by omega)
  have e2 := IntWalk.i64_in (W * H / 4) (by omega)
  have e3 : 0 ≤ W * H := by omega
  clear hs
  obtain ⟨w0, hw0⟩ : ∃ w0, w0 = w.alloc (.cells #[.int .i64 0, .int .i64 0, .slice none 0 0, .slice none 0 0, .slice none 0 0] 26) := ⟨_, rfl⟩
  have hsz : w0.heap.size = w.heap.size + 1 := by rw [hw0]; simp
  have k0 : w0.cell? ⟨w.heap.size, 0, none⟩ = some (.int .i64 0) := by rw [hw0]; simp [go_sem]
  have k1 : w0.cell? ⟨w.heap.size, 1, none⟩ = some (.int .i64 0) := by rw [hw0]; simp [go_sem]
  have k2 : w0.cell? ⟨w.heap.size, 2, none⟩ = some (.slice none 0 0) := by rw [hw0]; simp [go_sem]
  have k3 : w0.cell? ⟨w.heap.size, 3, none⟩ = some (.slice none 0 0) := by rw [hw0]; simp [go_sem]
  have k4 : w0.cell? ⟨w.heap.size, 4, none⟩ = some (.slice none 0 0) := by rw [hw0]; simp [go_sem]
  have kz : ∀ o, w0.frozen? ⟨w.heap.size, o, none⟩ = false := fun o => by rw [hw0]; simp [go_sem]
  have hb0 : Below w.heap.size w w0 := by rw [hw0]; exact below_box _ _
  have HW := Lib.hid hw0
  have HZ := Lib.hid hsz
  clear hw0 hsz
  go_enter Try.func42, Try.ntmps42
  go_wp2
  rw [← HW.out]
  refine Plan.wp_region_fresh (fun w' => Below (w.heap.size + 1) w0 w') 17 (fun i => Made w.heap.size (lenAt (W * H).toNat (W * H / 4).toNat i)) ([0, 1, 2, 3, 4, 6, 7, 8, 9, 11, 12, 13, 14].map (·, true) ++ []) [(5, 10), (10, 15), (15, 20)] ([16].map (·, true) ++ [17].map (·, false)) 22 (by kernel_rfl) (by kernel_rfl) (by kernel_rfl) (Below.refl _ _).drew ?_ ?_ ?_
  · intro wa wb ha hb
    exact ha.trans (hb.mono (by have := ha.size; rw [HZ.out] at this; exact this))
  · intro i lo hi v wa wb hG hE
    exact hG.ext hE
  refine' Plan.plan_seg _ [0, 1, 2, 3, 4, 6, 7, 8, 9, 11, 12, 13, 14] [] (by kernel_rfl) (by kernel_rfl) rfl (by exact (Below.refl _ _).drew) (fun wx hS => ?_) ?_
  rotate_left
  · clear hS
    iterate 13 (apply Plan.seg_pick; rfl; intro K hK; go_wp)
    exact Plan.seg_nil
  refine Plan.plan_nil (Plan.fresh_at rfl ?_ ?_)
  · intro p hp o ho vs wx lo hi hS hE _ K hK
    have hB : w.heap.size ≤ wx.heap.size := by have := hS.size; rw [HZ.out] at this; omega
    simp only [List.mem_cons, List.not_mem_nil, or_false] at hp
    rcases hp with rfl | rfl | rfl
    all_goals
      obtain rfl := Option.some.inj ho
      refine wpList_made wx rfl _ _ rfl w.heap.size _ ?_ ?_ rfl rfl hB (fun v w' hG hE' => ?_)
    · omega
    · omega
    · exact wpList_nil (hK v w' hG hE')
    · omega
    · omega
    · exact wpList_nil (hK v w' hG hE')
    · omega
    · omega
    · exact wpList_nil (hK v w' hG hE')
  · intro vs lo hi wx hS hE hG hap
    obtain ⟨⟨g1, v1, r1, q1, q2⟩, q7, _⟩ := hG (5, 10) (by simp)
    obtain ⟨⟨g2, v2, r2, q3, q4⟩, q8, _⟩ := hG (10, 15) (by simp)
    obtain ⟨⟨g3, v3, r3, q5, q6⟩, q9, _⟩ := hG (15, 20) (by simp)
    have hd : w0.drew.heap.size = w.heap.size + 1 := HZ.out
    rw [hd] at q7 q8 q9
    have p1 := hap (5, 10) (by simp) (10, 15) (by simp) (by decide)
    have p2 := hap (5, 10) (by simp) (15, 20) (by simp) (by decide)
    have p3 := hap (10, 15) (by simp) (15, 20) (by simp) (by decide)
    simp only [lenAt] at v1 v2 v3 r1 r2 r3 q1 q2 q3 q4 q5 q6 p1 p2 p3
    simp only [if_true, show ¬ (10 = 5) by decide, show ¬ (15 = 5) by decide, if_false] at v1 v2 v3 r1 r2 r3
    simp only [Plan.puts, v1, v2, v3]
    have n12 : g1 ≠ g2 := by omega
    have n13 : g1 ≠ g3 := by omega
    have n23 : g2 ≠ g3 := by omega
    have hsz := hS.size
    rw [HZ.out] at hsz
    have m0 := (hS.cell (p := ⟨w.heap.size, 0, none⟩) (by simp)).trans k0
    have m1 := (hS.cell (p := ⟨w.heap.size, 1, none⟩) (by simp)).trans k1
    have m2 := (hS.cell (p := ⟨w.heap.size, 2, none⟩) (by simp)).trans k2
    have m3 := (hS.cell (p := ⟨w.heap.size, 3, none⟩) (by simp)).trans k3
    have m4 := (hS.cell (p := ⟨w.heap.size, 4, none⟩) (by simp)).trans k4
    have mz := fun o => (hS.frozen (p := ⟨w.heap.size, o, none⟩) (by simp)).trans (kz o)
    have hB := hb0.trans (hS.mono (by omega))
    simp only at q7 q8 q9
    have HR := Lib.hid (And.intro r1 (And.intro r2 r3))
    have u1 : ¬ w.heap.size = g1 := by omega
    have u2 : ¬ w.heap.size = g2 := by omega
    have u3 : ¬ w.heap.size = g3 := by omega
    clear hG hap p1 p2 p3 q1 q2 q3 q4 q5 q6 q7 q8 q9 r1 r2 r3 v1 v2 v3 hd hE hsz k0 k1 k2 k3 k4 kz hb0
    have HS := Lib.hid hS
    clear hS
    refine' Plan.plan_seg _ [16] ([17].map (·, false)) (by kernel_rfl) (by kernel_rfl) rfl (by exact HS.out) (fun wy hS => ?_) ?_
    rotate_left
    · clear hS
      iterate 1 (apply Plan.seg_pick; rfl; intro K hK; go_wp)
      exact Plan.seg_nil
    refine Plan.plan_of_last rfl (fun K hK => ?_)
    go_wp2_with fail
    refine Plan.plan_done ?_
    go_wp2_with fail
    refine bodyPost_ret (v := .agg #[.int .i64 W, .int .i64 H, .slice (some ⟨g1, 0, none⟩) (W * H).toNat (W * H).toNat, .slice (some ⟨g2, 0, none⟩) (W * H / 4).toNat (W * H / 4).toNat, .slice (some ⟨g3, 0, none⟩) (W * H / 4).toNat (W * H / 4).toNat]) (by simp [results, Try.results42, go_sem, m0, m1, m2, m3, m4]) rfl ?_
    obtain ⟨h1, h2, h3⟩ := HR.out
    refine ⟨g1, g2, g3, rfl, ?_, ?_, ?_, n12, n13, n23, by go_grown⟩
    · repeat (refine Row.far ?_ (by simp; omega) _)
      exact h1
    · repeat (refine Row.far ?_ (by simp; omega) _)
      exact h2
    · repeat (refine Row.far ?_ (by simp; omega) _)
      exact h3

end Go.Proofs.Ytnnobdcbmagbaaa

/- The contract of cutroomref26.planes. -/
namespace Go.Proofs.Ytnnobdcbmagbaaa
open Go.RowKit

set_option maxRecDepth 100000 in
set_option maxHeartbeats 2000000 in
theorem planes_any (W H : Int) (y u z : Value) (w : World) (hW : 0 ≤ W) (hW2 : W ≤ 64) (hH : 0 ≤ H) (hH2 : H ≤ 64) (hy : ∃ a n c, y = .slice a n c) (hu : ∃ a n c, u = .slice a n c) (hz : ∃ a n c, z = .slice a n c) :
    Calls Try.prog 43 #[.agg #[.int .i64 W, .int .i64 H, y, u, z]] w fun e w' => e = .returned (.tuple #[.agg #[y, u, z], .agg #[.int .i64 W, .int .i64 (W / 2), .int .i64 (W / 2)], .agg #[.int .i64 H, .int .i64 (H / 2), .int .i64 (H / 2)]]) ∧ Below w.heap.size w w' := by
  obtain ⟨a1, n1, c1, rfl⟩ := hy
  obtain ⟨a2, n2, c2, rfl⟩ := hu
  obtain ⟨a3, n3, c3, rfl⟩ := hz
  go_enter Try.func43, Try.ntmps43
  go_wp2
  refine Plan.wp_region_plan (fun w' => w'.cell? ⟨w.heap.size, 0, none⟩ = some (.int .i64 W) ∧ w'.cell? ⟨w.heap.size, 1, none⟩ = some (.int .i64 H) ∧ w'.cell? ⟨w.heap.size, 2, none⟩ = some (.slice a1 n1 c1) ∧ w'.cell? ⟨w.heap.size, 3, none⟩ = some (.slice a2 n2 c2) ∧ w'.cell? ⟨w.heap.size, 4, none⟩ = some (.slice a3 n3 c3)) (([0, 1, 2, 3, 4, 5, 6, 7, 8, 9, 10, 11, 12, 13, 14, 15, 16, 17, 18, 19, 20, 21, 22, 23, 24].map (·, true)) ++ (([25, 26, 27].map (·, false)))) (by kernel_rfl) (by kernel_rfl) (by kernel_rfl) ⟨by simp [go_sem], by simp [go_sem], by simp [go_sem], by simp [go_sem], by simp [go_sem]⟩ ?_
  refine' Plan.plan_seg _ [0, 1, 2, 3, 4, 5, 6, 7, 8, 9, 10, 11, 12, 13, 14, 15, 16, 17, 18, 19, 20, 21, 22, 23, 24] (([25, 26, 27].map (·, false))) (by kernel_rfl) (by kernel_rfl) rfl (by exact ⟨by simp [go_sem], by simp [go_sem], by simp [go_sem], by simp [go_sem], by simp [go_sem]⟩) (fun wx hS => ?_) ?_
  rotate_left
  · obtain ⟨s0, s1, s2, s3, s4⟩ := hS
    iterate 25 (apply Plan.seg_pick; rfl; intro K hK; go_wp)
    exact Plan.seg_nil
  refine Plan.plan_of_effect rfl (fun K hK => ?_)
  go_wp2_with fail
  refine ⟨⟨by simp [go_sem], by simp [go_sem], by simp [go_sem], by simp [go_sem], by simp [go_sem]⟩, ?_⟩
  refine Plan.plan_of_effect rfl (fun K hK => ?_)
  go_wp2_with fail
  refine ⟨⟨by simp [go_sem], by simp [go_sem], by simp [go_sem], by simp [go_sem], by simp [go_sem]⟩, ?_⟩
  refine Plan.plan_of_effect rfl (fun K hK => ?_)
  go_wp2_with fail
  refine ⟨⟨by simp [go_sem], by simp [go_sem], by simp [go_sem], by simp [go_sem], by simp [go_sem]⟩, ?_⟩
  refine Plan.plan_done ?_
  go_wp2_with fail
  refine bodyPost_ret (v := .tuple #[.agg #[.slice a1 n1 c1, .slice a2 n2 c2, .slice a3 n3 c3], .agg #[.int .i64 W, .int .i64 (W / 2), .int .i64 (W / 2)], .agg #[.int .i64 H, .int .i64 (H / 2), .int .i64 (H / 2)]]) (by simp [results, Try.results43, go_sem]) rfl ⟨rfl, by go_grown⟩

end Go.Proofs.Ytnnobdcbmagbaaa

/- The contract of cutroomref26.Black. -/
namespace Go.Proofs.Ytnnobdcbmagbaaa
open Go.RowKit

/-- Only block g may have been written. -/
theorem only_store {w w' : World} {g : Nat} (h : w.grownBy w' (some g)) (o : Nat) (u : Value) : w.grownBy (w'.setCell ⟨g, o, none⟩ u) (some g) :=
  ⟨h.os, h.tape, h.output, by rw [World.size_setCell]; exact h.size, fun k hk hne => by
    rw [Below.heap_setCell _ _ _ _ (fun e => hne (by rw [e]))]; exact h.block k hk hne⟩
theorem only_refl (w : World) (g : Nat) : w.grownBy w (some g) := World.grownBy.refl w _
theorem only_cell {w w' : World} {g b o : Nat} {v : Value} (h : w.grownBy w' (some g)) (hc : w.cell? ⟨b, o, none⟩ = some v) (hne : b ≠ g) : w'.cell? ⟨b, o, none⟩ = some v :=
  h.cell hc (by simpa using hne)
theorem only_frozen {w w' : World} {g b o : Nat} (h : w.grownBy w' (some g)) (hb : b < w.heap.size) (hf : w.frozen? ⟨b, o, none⟩ = false) (hne : b ≠ g) : w'.frozen? ⟨b, o, none⟩ = false :=
  (World.frozen?_of_block (h.block b hb (by simpa using hne))).trans hf
theorem only_row {w w' : World} {B g g' n c : Nat} {F : Nat → Int} (h : w.grownBy w' (some g')) (r : Row w B g n c F) (hne : g ≠ g') : Row w' B g n c F :=
  World.ownsRow.kept r h (.inr (by simpa [Value.ownBlock] using hne))
theorem only_below {w w' : World} {g B : Nat} (h : w.grownBy w' (some g)) (hB : B ≤ g) (hs : B ≤ w.heap.size) : Below B w w' := (Below.refl _ _).grown h hs (fun k hk => by cases hk; exact hB)

set_option maxRecDepth 100000 in
set_option maxHeartbeats 4000000 in
theorem rblack_yes (W H : Int) (w : World) (hs : okSize W H = true) :
    Calls Try.prog 18 #[.int .i64 W, .int .i64 H] w fun e w' => ∃ r, e = .returned (.tuple #[r, .int .i64 0]) ∧ FA w' r (blackFr W H) ∧ Below w.heap.size w w' := by
  obtain ⟨b1, b2, b3, b4, b5, b6, b7, b8⟩ := okSize_bd hs
  have HS := Lib.hid hs
  have HQ := Lib.hid (quarter hs)
  have q1 : W * H / 4 ≤ 1024 := by omega
  have q0 : 0 ≤ W * H / 4 := by omega
  clear hs
  go_enter Try.func18, Try.ntmps18
  go_wp2_with fail
  refine (size_any _ _ _).mono ?_
  rintro e w0 ⟨rfl, rfl⟩
  rw [HS.out]
  go_wp2_with fail
  refine (blank_any _ _ _ HS.out).mono ?_
  rintro e w1 ⟨g1, g2, g3, rfl, r1, r2, r3, n12, n13, n23, hb1⟩
  obtain ⟨nY, hnY⟩ : ∃ n, n = (W * H).toNat := ⟨_, rfl⟩
  obtain ⟨nU, hnU⟩ : ∃ n, n = (W * H / 4).toNat := ⟨_, rfl⟩
  rw [← hnY] at r1 ⊢
  rw [← hnU] at r2 r3 ⊢
  have HY := Lib.hid hnY
  have HU := Lib.hid hnU
  have iY : nY ≤ 4096 := by omega
  have iU : nU ≤ 1024 := by omega
  clear hnY hnU
  have N1 : w.heap.size + 1 ≤ w1.heap.size := by have := hb1.size; simpa using this
  have l1 := r1.le
  have l2 := r2.le
  have l3 := r3.le
  simp only [World.size_alloc] at l1 l2 l3
  have hb1' : Below (w.heap.size + 1) (w.alloc (.cells #[.int .i64 0, .int .i64 0, .slice none 0 0, .slice none 0 0, .slice none 0 0] 26)) w1 := hb1.mono (by simp)
  have k0 : w1.cell? ⟨w.heap.size, 0, none⟩ = some (.int .i64 0) := (hb1'.cell (by simp)).trans (by simp [go_sem])
  have k1 : w1.cell? ⟨w.heap.size, 1, none⟩ = some (.int .i64 0) := (hb1'.cell (by simp)).trans (by simp [go_sem])
  have k2 : w1.cell? ⟨w.heap.size, 2, none⟩ = some (.slice none 0 0) := (hb1'.cell (by simp)).trans (by simp [go_sem])
  have k3 : w1.cell? ⟨w.heap.size, 3, none⟩ = some (.slice none 0 0) := (hb1'.cell (by simp)).trans (by simp [go_sem])
  have k4 : w1.cell? ⟨w.heap.size, 4, none⟩ = some (.slice none 0 0) := (hb1'.cell (by simp)).trans (by simp [go_sem])
  have kz : ∀ o, w1.frozen? ⟨w.heap.size, o, none⟩ = false := fun o => (hb1'.frozen (by simp)).trans (by simp [go_sem])
  have W1 : Below w.heap.size w w1 := (below_box w _).trans (hb1'.mono (by omega))
  have HR := Lib.hid (And.intro r1 (And.intro r2 r3))
  clear r1 r2 r3 hb1 hb1'
  go_wp2_with fail
  refine (planes_any W H _ _ _ _ (by omega) (by omega) (by omega) (by omega) ⟨_, _, _, rfl⟩ ⟨_, _, _, rfl⟩ ⟨_, _, _, rfl⟩).mono ?_
  rintro e w2 ⟨rfl, hb2⟩
  have N2 : w1.heap.size + 1 ≤ w2.heap.size := by have := hb2.size; simpa using this
  obtain ⟨r1, r2, r3⟩ := HR.out
  have B12 : Below w1.heap.size w1 w2 := (below_box w1 _).trans (hb2.mono (by simp))
  have m0 : w2.cell? ⟨w1.heap.size, 0, none⟩ = some (.int .i64 W) := (hb2.cell (by simp)).trans (by simp [go_sem])
  have m1 : w2.cell? ⟨w1.heap.size, 1, none⟩ = some (.int .i64 H) := (hb2.cell (by simp)).trans (by simp [go_sem])
  have m2 : w2.cell? ⟨w1.heap.size, 2, none⟩ = some (.slice (some ⟨g1, 0, none⟩) nY nY) := (hb2.cell (by simp)).trans (by simp [go_sem])
  have m3 : w2.cell? ⟨w1.heap.size, 3, none⟩ = some (.slice (some ⟨g2, 0, none⟩) nU nU) := (hb2.cell (by simp)).trans (by simp [go_sem])
  have m4 : w2.cell? ⟨w1.heap.size, 4, none⟩ = some (.slice (some ⟨g3, 0, none⟩) nU nU) := (hb2.cell (by simp)).trans (by simp [go_sem])
  have k0' := (B12.cell (p := ⟨w.heap.size, 0, none⟩) (by simp; omega)).trans k0
  have k1' := (B12.cell (p := ⟨w.heap.size, 1, none⟩) (by simp; omega)).trans k1
  have k2' := (B12.cell (p := ⟨w.heap.size, 2, none⟩) (by simp; omega)).trans k2
  have k3' := (B12.cell (p := ⟨w.heap.size, 3, none⟩) (by simp; omega)).trans k3
  have k4' := (B12.cell (p := ⟨w.heap.size, 4, none⟩) (by simp; omega)).trans k4
  have kz' := fun o => (B12.frozen (p := ⟨w.heap.size, o, none⟩) (by simp; omega)).trans (kz o)
  have W2 := W1.trans (B12.mono (by omega))
  have HR2 := Lib.hid (And.intro (r1.below B12) (And.intro (r2.below B12) (r3.below B12)))
  clear r1 r2 r3 HR hb2 B12 k0 k1 k2 k3 k4 kz W1
  go_wp2_with fail
  refine wp_loop_rounds 4 ?_
  rw [rounds_succ]
  go_wp2_with fail
  obtain ⟨w3, hw3⟩ : ∃ x, x = (((w2.alloc (.cells #[.slice (some ⟨g1, 0, none⟩) nY nY, .slice (some ⟨g2, 0, none⟩) nU nU, .slice (some ⟨g3, 0, none⟩) nU nU] 74)).alloc (.cells #[.int .i64 W, .int .i64 (W / 2), .int .i64 (W / 2)] 75)).alloc (.cells #[.int .i64 H, .int .i64 (H / 2), .int .i64 (H / 2)] 75)) := ⟨_, rfl⟩
  rw [← hw3]
  have B23 : Below w2.heap.size w2 w3 := by rw [hw3]; go_grown
  have N3 : w2.heap.size + 3 ≤ w3.heap.size := by rw [hw3]; simp
  have p0 : w3.cell? ⟨w2.heap.size, 0, none⟩ = some (.slice (some ⟨g1, 0, none⟩) nY nY) := by rw [hw3]; simp [go_sem]
  have p1 : w3.cell? ⟨w2.heap.size, 1, none⟩ = some (.slice (some ⟨g2, 0, none⟩) nU nU) := by rw [hw3]; simp [go_sem]
  have p2 : w3.cell? ⟨w2.heap.size, 2, none⟩ = some (.slice (some ⟨g3, 0, none⟩) nU nU) := by rw [hw3]; simp [go_sem]
  have k0 := (B23.cell (p := ⟨w.heap.size, 0, none⟩) (by simp; omega)).trans k0'
  have k1 := (B23.cell (p := ⟨w.heap.size, 1, none⟩) (by simp; omega)).trans k1'
  have k2 := (B23.cell (p := ⟨w.heap.size, 2, none⟩) (by simp; omega)).trans k2'
  have k3 := (B23.cell (p := ⟨w.heap.size, 3, none⟩) (by simp; omega)).trans k3'
  have k4 := (B23.cell (p := ⟨w.heap.size, 4, none⟩) (by simp; omega)).trans k4'
  have m0 := (B23.cell (p := ⟨w1.heap.size, 0, none⟩) (by simp; omega)).trans m0
  have m1 := (B23.cell (p := ⟨w1.heap.size, 1, none⟩) (by simp; omega)).trans m1
  have m2 := (B23.cell (p := ⟨w1.heap.size, 2, none⟩) (by simp; omega)).trans m2
  have m3 := (B23.cell (p := ⟨w1.heap.size, 3, none⟩) (by simp; omega)).trans m3
  have m4 := (B23.cell (p := ⟨w1.heap.size, 4, none⟩) (by simp; omega)).trans m4
  have kz := fun o => (B23.frozen (p := ⟨w.heap.size, o, none⟩) (by simp; omega)).trans (kz' o)
  have W3 := W2.trans (B23.mono (by omega))
  obtain ⟨r1, r2, r3⟩ := HR2.out
  have r1 := r1.below B23
  have r2 := r2.below B23
  have r3 := r3.below B23
  have G1 : g1 < w.heap.size + 1 + w1.heap.size := by omega
  clear HR2 B23 hw3 k0' k1' k2' k3' k4' kz' W2
  have HA := Lib.hid (And.intro r1 (And.intro r2 r3))
  clear r1 r2 r3
  go_loopw [11] (fun i wr => ∃ k : Nat, k ≤ nY ∧ i = .int .i64 k ∧ w3.grownBy wr (some g1) ∧ Row wr (w.heap.size + 1) g1 nY nY (fun j => if j < k then 16 else 0)) (fun i _ => nY - (intOf i).toNat)
  case atStart => exact ⟨0, Nat.zero_le _, rfl, only_refl _ _, by simpa using HA.out.1⟩
  case round =>
    obtain ⟨k, hk, rfl, hgr, ho⟩ := hrel
    have p0' := only_cell hgr p0 (by omega)
    have p1' := only_cell hgr p1 (by omega)
    have p2' := only_cell hgr p2 (by omega)
    by_cases hlt : k < nY
    · have hc := ho.cell k hlt
      rw [if_neg (by omega)] at hc
      have hf := World.ownsRow.frozenAt ho k
      have HO := Lib.hid ho
      have HG := Lib.hid hgr
      clear ho hgr p0 p1 p2 k0 k1 k2 k3 k4 m0 m1 m2 m3 m4 kz
      go_wp2
      go_roundw
      case rel => exact ⟨k + 1, by omega, by go_num, only_store (only_store HG.out _ _) _ _, by
        have h1 := HO.out.store k (F' := fun j => if j = k then 128 else if j < k then 16 else 0) (u := 128) (by simp) (fun i _ hik => by simp [hik])
        exact h1.store k (F' := fun j => if j < k + 1 then 16 else 0) (by simp) (fun i _ hik => by simp only [hik, if_false]; exact ite_iff (by omega))⟩
      case measure => simp [intOf]; omega
    · obtain rfl : nY = k := by omega
      have Nz := hgr.size
      obtain ⟨r1, r2, r3⟩ := HA.out
      have r1 := ho.congr (F' := fun _ => 16) (fun i hi => if_pos hi)
      have r2 := only_row hgr r2 (by omega)
      have r3 := only_row hgr r3 (by omega)
      have k0 := only_cell hgr k0 (by omega)
      have k1 := only_cell hgr k1 (by omega)
      have k2 := only_cell hgr k2 (by omega)
      have k3 := only_cell hgr k3 (by omega)
      have k4 := only_cell hgr k4 (by omega)
      have m0 := only_cell hgr m0 (by omega)
      have m1 := only_cell hgr m1 (by omega)
      have m2 := only_cell hgr m2 (by omega)
      have m3 := only_cell hgr m3 (by omega)
      have m4 := only_cell hgr m4 (by omega)
      have kz := fun o => only_frozen hgr (b := w.heap.size) (by have := W3.size; omega) (kz o) (by omega)
      have W3 := W3.trans (only_below hgr (by omega) (by have := W3.size; omega))
      have p0 := p0'
      have p1 := p1'
      have p2 := p2'
      clear p0' p1' p2' ho hgr HA
      go_wp2_with fail
      rw [rounds_succ]
      go_wp2_with fail
      obtain ⟨w4, hw⟩ : ∃ x, x = wr := ⟨_, rfl⟩
      rw [← hw] at Nz r1 r2 r3 k0 k1 k2 k3 k4 m0 m1 m2 m3 m4 kz W3 p0 p1 p2 ⊢
      clear hw
      have HA := Lib.hid (And.intro r1 (And.intro r2 r3))
      clear r1 r2 r3
      go_loopw [11] (fun i wr => ∃ k : Nat, k ≤ nU ∧ i = .int .i64 k ∧ w4.grownBy wr (some g2) ∧ Row wr (w.heap.size + 1) g2 nU nU (fun j => if j < k then 128 else 0)) (fun i _ => nU - (intOf i).toNat)
      case atStart => exact ⟨0, Nat.zero_le _, rfl, only_refl _ _, by simpa using HA.out.2.1⟩
      case round =>
        obtain ⟨k, hk, rfl, hgr, ho⟩ := hrel
        have p0' := only_cell hgr p0 (by omega)
        have p1' := only_cell hgr p1 (by omega)
        have p2' := only_cell hgr p2 (by omega)
        by_cases hlt : k < nU
        · have hc := ho.cell k hlt
          rw [if_neg (by omega)] at hc
          have hf := World.ownsRow.frozenAt ho k
          have HO := Lib.hid ho
          have HG := Lib.hid hgr
          clear ho hgr p0 p1 p2 k0 k1 k2 k3 k4 m0 m1 m2 m3 m4 kz
          go_wp2
          go_roundw
          case rel => exact ⟨k + 1, by omega, by go_num, only_store HG.out _ _, HO.out.store k (F' := fun j => if j < k + 1 then 128 else 0) (by simp) (fun i _ hik => ite_iff (by omega))⟩
          case measure => simp [intOf]; omega
        · obtain rfl : nU = k := by omega
          have Nz := hgr.size
          obtain ⟨r1, r2, r3⟩ := HA.out
          have r2 := ho.congr (F' := fun _ => 128) (fun i hi => if_pos hi)
          have r1 := only_row hgr r1 (by omega)
          have r3 := only_row hgr r3 (by omega)
          have k0 := only_cell hgr k0 (by omega)
          have k1 := only_cell hgr k1 (by omega)
          have k2 := only_cell hgr k2 (by omega)
          have k3 := only_cell hgr k3 (by omega)
          have k4 := only_cell hgr k4 (by omega)
          have m0 := only_cell hgr m0 (by omega)
          have m1 := only_cell hgr m1 (by omega)
          have m2 := only_cell hgr m2 (by omega)
          have m3 := only_cell hgr m3 (by omega)
          have m4 := only_cell hgr m4 (by omega)
          have kz := fun o => only_frozen hgr (b := w.heap.size) (by have := W3.size; omega) (kz o) (by omega)
          have W3 := W3.trans (only_below hgr (by omega) (by have := W3.size; omega))
          have p0 := p0'
          have p1 := p1'
          have p2 := p2'
          clear p0' p1' p2' ho hgr HA
          go_wp2_with fail
          rw [rounds_succ]
          go_wp2_with fail
          obtain ⟨w5, hw⟩ : ∃ x, x = wr := ⟨_, rfl⟩
          rw [← hw] at Nz r1 r2 r3 k0 k1 k2 k3 k4 m0 m1 m2 m3 m4 kz W3 p0 p1 p2 ⊢
          clear hw
          have HA := Lib.hid (And.intro r1 (And.intro r2 r3))
          clear r1 r2 r3
          go_loopw [11] (fun i wr => ∃ k : Nat, k ≤ nU ∧ i = .int .i64 k ∧ w5.grownBy wr (some g3) ∧ Row wr (w.heap.size + 1) g3 nU nU (fun j => if j < k then 128 else 0)) (fun i _ => nU - (intOf i).toNat)
          case atStart => exact ⟨0, Nat.zero_le _, rfl, only_refl _ _, by simpa using HA.out.2.2⟩
          case round =>
            obtain ⟨k, hk, rfl, hgr, ho⟩ := hrel
            have p0' := only_cell hgr p0 (by omega)
            have p1' := only_cell hgr p1 (by omega)
            have p2' := only_cell hgr p2 (by omega)
            by_cases hlt : k < nU
            · have hc := ho.cell k hlt
              rw [if_neg (by omega)] at hc
              have hf := World.ownsRow.frozenAt ho k
              have HO := Lib.hid ho
              have HG := Lib.hid hgr
              clear ho hgr p0 p1 p2 k0 k1 k2 k3 k4 m0 m1 m2 m3 m4 kz
              go_wp2
              go_roundw
              case rel => exact ⟨k + 1, by omega, by go_num, only_store HG.out _ _, HO.out.store k (F' := fun j => if j < k + 1 then 128 else 0) (by simp) (fun i _ hik => ite_iff (by omega))⟩
              case measure => simp [intOf]; omega
            · obtain rfl : nU = k := by omega
              have Nz := hgr.size
              obtain ⟨r1, r2, r3⟩ := HA.out
              have r3 := ho.congr (F' := fun _ => 128) (fun i hi => if_pos hi)
              have r1 := only_row hgr r1 (by omega)
              have r2 := only_row hgr r2 (by omega)
              have k0 := only_cell hgr k0 (by omega)
              have k1 := only_cell hgr k1 (by omega)
              have k2 := only_cell hgr k2 (by omega)
              have k3 := only_cell hgr k3 (by omega)
              have k4 := only_cell hgr k4 (by omega)
              have m0 := only_cell hgr m0 (by omega)
              have m1 := only_cell hgr m1 (by omega)
              have m2 := only_cell hgr m2 (by omega)
              have m3 := only_cell hgr m3 (by omega)
              have m4 := only_cell hgr m4 (by omega)
              have kz := fun o => only_frozen hgr (b := w.heap.size) (by have := W3.size; omega) (kz o) (by omega)
              have W3 := W3.trans (only_below hgr (by omega) (by have := W3.size; omega))
              have p0 := p0'
              have p1 := p1'
              have p2 := p2'
              clear p0' p1' p2' ho hgr HA
              have HA := Lib.hid (And.intro r1 (And.intro r2 r3))
              have hyY := HY.out
              have hyU := HU.out
              have HN := Lib.hid (And.intro hyY hyU)
              clear r1 r2 r3 hyY hyU
              go_wp2_with fail
              rw [rounds_succ]
              go_wp2_with fail
              refine bodyPost_ret (v := .tuple #[.agg #[.int .i64 W, .int .i64 H, .slice (some ⟨g1, 0, none⟩) nY nY, .slice (some ⟨g2, 0, none⟩) nU nU, .slice (some ⟨g3, 0, none⟩) nU nU], .int .i64 0]) (by simp [results, Try.results18, go_sem, k0, k1, k2, k3, k4]) rfl ?_
              obtain ⟨h1, h2, h3⟩ := HA.out
              have ey := HN.out.1
              have eu := HN.out.2
              rw [HQ.out] at eu
              refine ⟨_, rfl, ⟨.slice (some ⟨g1, 0, none⟩) nY nY, .slice (some ⟨g2, 0, none⟩) nU nU, .slice (some ⟨g3, 0, none⟩) nU nU, rfl, ?_, ?_, ?_⟩, by go_grown⟩
              · show BA _ _ (W * H).toNat _
                rw [← ey]
                refine Row.BA (B := w.heap.size + 1) ?_ (fun i _ => by simp [blackFr])
                repeat (refine Row.far ?_ (by simp; omega) _)
                exact h1
              · show BA _ _ (W / 2 * (H / 2)).toNat _
                rw [← eu]
                refine Row.BA (B := w.heap.size + 1) ?_ (fun i _ => by simp [blackFr])
                repeat (refine Row.far ?_ (by simp; omega) _)
                exact h2
              · show BA _ _ (W / 2 * (H / 2)).toNat _
                rw [← eu]
                refine Row.BA (B := w.heap.size + 1) ?_ (fun i _ => by simp [blackFr])
                repeat (refine Row.far ?_ (by simp; omega) _)
                exact h3

set_option maxRecDepth 100000 in
set_option maxHeartbeats 1000000 in
theorem rblack_no (W H : Int) (w : World) (hs : okSize W H = false) :
    Calls Try.prog 18 #[.int .i64 W, .int .i64 H] w fun e w' => e = .returned (.tuple #[zeroV, .int .i64 1]) ∧ Below w.heap.size w w' := by
  have HS := Lib.hid hs
  clear hs
  go_enter Try.func18, Try.ntmps18
  go_wp2_with fail
  refine (size_any _ _ _).mono ?_
  rintro e w0 ⟨rfl, rfl⟩
  rw [HS.out]
  go_wp2_with fail
  refine bodyPost_ret (v := .tuple #[zeroV, .int .i64 1]) (by simp [results, Try.results18, go_sem, zeroV]) rfl ⟨rfl, by go_grown⟩

end Go.Proofs.Ytnnobdcbmagbaaa

/- The contract of the tape's Next: a number below the limit; the tape's place moves on. -/
namespace Go.Proofs.Ytnnobdcbmagbaaa
open Go.RowKit
set_option linter.unusedVariables false

/-- Block p holds a tape at place k: its list reads in the blocks below B. -/
def TP (w : World) (B p k : Nat) : Prop := B ≤ p ∧ p < w.heap.size ∧ ∃ ao n c, w.cell? ⟨p, 0, none⟩ = some (.slice ao n c) ∧ w.cell? ⟨p, 1, none⟩ = some (.int .i64 (k : Int)) ∧ w.frozen? ⟨p, 1, none⟩ = false ∧ n ≤ c ∧ n ≤ 9223372036854775807 ∧
  ∀ i, i < n → ∃ b o x, ao = some ⟨b, o, none⟩ ∧ b < B ∧ w.cell? ⟨b, o + i, none⟩ = some (.int .i64 x)

theorem only_drew {w w' : World} {r : Option Nat} (h : w.grownBy w' r) : w.grownBy w'.drew r := ⟨h.os, h.tape, h.output, h.size, h.block⟩

theorem tmod_bd (v n : Int) (h : 1 ≤ n) : -n < v.tmod n ∧ v.tmod n < n := by
  rcases Int.le_total 0 v with h0 | h0
  · rw [Int.tmod_eq_emod_of_nonneg h0]
    have := Int.emod_nonneg v (show n ≠ 0 by omega)
    have := Int.emod_lt_of_pos v (show 0 < n by omega)
    omega
  · have e : v.tmod n = -((-v).tmod n) := by rw [Int.neg_tmod]; omega
    rw [e, Int.tmod_eq_emod_of_nonneg (show 0 ≤ -v by omega)]
    have := Int.emod_nonneg (-v) (show n ≠ 0 by omega)
    have := Int.emod_lt_of_pos (-v) (show 0 < n by omega)
    omega

def NextPost (w : World) (B p k : Nat) (n : Int) (e : Ending) (w' : World) : Prop := ∃ r : Int, e = .returned (.int .i64 r) ∧ 0 ≤ r ∧ r < n ∧ TP w' B p (k + 1) ∧ w.grownBy w' (some p)

theorem next_post {w w' : World} {B p k : Nat} {n v r : Int} (hr : r = (v.tmod n + n) % n) (hn : 1 ≤ n) (ht : TP w B p k) (hg : w.grownBy w' (some p)) (h1 : w'.cell? ⟨p, 1, none⟩ = some (.int .i64 ((k : Int) + 1))) (h0 : w'.cell? ⟨p, 0, none⟩ = w.cell? ⟨p, 0, none⟩) (hf : w'.frozen? ⟨p, 1, none⟩ = false) :
    NextPost w B p k n (.returned (.int .i64 r)) w' := by
  subst hr
  refine ⟨_, rfl, Int.emod_nonneg _ (by omega), Int.emod_lt_of_pos _ (by omega), ?_, hg⟩
  obtain ⟨hB, hs, ao, m, c, c0, _, _, hm, hm2, hx⟩ := ht
  refine ⟨hB, Nat.lt_of_lt_of_le hs hg.size, ao, m, c, h0.trans c0, h1, hf, hm, hm2, fun i hi => ?_⟩
  obtain ⟨b, o, x, e, hb, hc⟩ := hx i hi
  exact ⟨b, o, x, e, hb, only_cell hg hc (by omega)⟩

set_option maxRecDepth 100000 in
set_option maxHeartbeats 1000000 in
theorem next_in (B p k m c : Nat) (b o : Nat) (x : Int) (n : Int) (w : World) (ht : TP w B p k) (hk : k < 1000000) (h1 : 1 ≤ n) (h2 : n ≤ 1000000) (hm : m ≤ 9223372036854775807) (hmc : m ≤ c)
    (c0 : w.cell? ⟨p, 0, none⟩ = some (.slice (some ⟨b, o, none⟩) m c)) (c1 : w.cell? ⟨p, 1, none⟩ = some (.int .i64 (k : Int))) (hf : w.frozen? ⟨p, 1, none⟩ = false) (hlt : k < m) (hx : w.cell? ⟨b, o + k, none⟩ = some (.int .i64 x)) :
    Calls Try.prog 30 #[.pointer (some ⟨p, 0, none⟩), .int .i64 n] w (NextPost w B p k n) := by
  have HT := Lib.hid ht
  clear ht
  have t1 := tmod_bd x n h1
  have e1 := IntWalk.i64_in (x.tmod n + n) (by omega)
  have e2 : 0 ≤ x.tmod n + n := by omega
  go_enter Try.func30, Try.ntmps30
  go_wp2_with fail
  refine Plan.wp_region_plan (fun w' => w'.cell? ⟨p, 0, none⟩ = some (.slice (some ⟨b, o, none⟩) m c) ∧ w'.cell? ⟨p, 1, none⟩ = some (.int .i64 (k : Int))) (([0, 1, 2, 3, 4, 5, 6, 7, 8, 9].map (·, true))) (by kernel_rfl) (by kernel_rfl) (by kernel_rfl) ⟨c0, c1⟩ ?_
  refine' Plan.plan_seg _ [0, 1, 2, 3, 4, 5, 6, 7, 8, 9] ([]) (by kernel_rfl) (by kernel_rfl) rfl (by exact ⟨c0, c1⟩) (fun wx hS => ?_) ?_
  rotate_left
  · obtain ⟨s0, s1⟩ := hS
    go_light
    iterate 10 (apply Plan.seg_pick; rfl; intro K hK; go_wp)
    exact Plan.seg_nil
  refine Plan.plan_done ?_
  go_wp2_with fail
  refine Plan.wp_region_plan (fun w' => w'.cell? ⟨p, 0, none⟩ = some (.slice (some ⟨b, o, none⟩) m c) ∧ w'.cell? ⟨p, 1, none⟩ = some (.int .i64 (k : Int)) ∧ w'.cell? ⟨b, o + k, none⟩ = some (.int .i64 x)) (([0, 1, 2, 3, 4, 5, 6, 7, 8, 9, 10].map (·, true))) (by kernel_rfl) (by kernel_rfl) (by kernel_rfl) ⟨c0, c1, hx⟩ ?_
  refine' Plan.plan_seg _ [0, 1, 2, 3, 4, 5, 6, 7, 8, 9, 10] ([]) (by kernel_rfl) (by kernel_rfl) rfl (by exact ⟨c0, c1, hx⟩) (fun wx hS => ?_) ?_
  rotate_left
  · obtain ⟨s0, s1, s2⟩ := hS
    go_light
    iterate 11 (apply Plan.seg_pick; rfl; intro K hK; go_wp)
    exact Plan.seg_nil
  refine Plan.plan_done ?_
  go_wp2_with fail
  go_ret
  refine next_post (v := x) ?_ h1 HT.out ?_ ?_ ?_ ?_
  · rfl
  · exact only_drew (only_drew (only_store (only_refl _ _) _ _))
  · simp [go_sem, c1, World.cell?_drew]
  · simp [go_sem, c0, World.cell?_drew]
  · simp [go_sem, hf]

set_option maxRecDepth 100000 in
set_option maxHeartbeats 1000000 in
theorem next_out (B p k m c : Nat) (ao : Option Addr) (n : Int) (w : World) (ht : TP w B p k) (hk : k < 1000000) (h1 : 1 ≤ n) (h2 : n ≤ 1000000) (hm : m ≤ 9223372036854775807) (hmc : m ≤ c)
    (c0 : w.cell? ⟨p, 0, none⟩ = some (.slice ao m c)) (c1 : w.cell? ⟨p, 1, none⟩ = some (.int .i64 (k : Int))) (hf : w.frozen? ⟨p, 1, none⟩ = false) (hlt : m ≤ k) :
    Calls Try.prog 30 #[.pointer (some ⟨p, 0, none⟩), .int .i64 n] w (NextPost w B p k n) := by
  have HT := Lib.hid ht
  clear ht
  have q0 := Int.emod_nonneg ((k : Int) * 7 + 3) (show n ≠ 0 by omega)
  have q1 := Int.emod_lt_of_pos ((k : Int) * 7 + 3) (show 0 < n by omega)
  go_enter Try.func30, Try.ntmps30
  go_wp2_with fail
  refine Plan.wp_region_plan (fun w' => w'.cell? ⟨p, 0, none⟩ = some (.slice ao m c) ∧ w'.cell? ⟨p, 1, none⟩ = some (.int .i64 (k : Int))) (([0, 1, 2, 3, 4, 5, 6, 7, 8, 9].map (·, true))) (by kernel_rfl) (by kernel_rfl) (by kernel_rfl) ⟨c0, c1⟩ ?_
  refine' Plan.plan_seg _ [0, 1, 2, 3, 4, 5, 6, 7, 8, 9] ([]) (by kernel_rfl) (by kernel_rfl) rfl (by exact ⟨c0, c1⟩) (fun wx hS => ?_) ?_
  rotate_left
  · obtain ⟨s0, s1⟩ := hS
    go_light
    iterate 10 (apply Plan.seg_pick; rfl; intro K hK; go_wp)
    exact Plan.seg_nil
  refine Plan.plan_done ?_
  go_wp2_with fail
  go_ret
  refine next_post (v := ((k : Int) * 7 + 3)) ?_ h1 HT.out ?_ ?_ ?_ ?_
  · rw [Int.tmod_eq_emod_of_nonneg (show (0 : Int) ≤ (k : Int) * 7 + 3 by omega)]
  · exact only_drew (only_store (only_refl _ _) _ _)
  · simp [go_sem, c1, World.cell?_drew]
  · simp [go_sem, c0, World.cell?_drew]
  · simp [go_sem, hf]


theorem next_any (B p k : Nat) (n : Int) (w : World) (ht : TP w B p k) (hk : k < 1000000) (h1 : 1 ≤ n) (h2 : n ≤ 1000000) :
    Calls Try.prog 30 #[.pointer (some ⟨p, 0, none⟩), .int .i64 n] w (NextPost w B p k n) := by
  have ht' := ht
  obtain ⟨hB, hs, ao, m, c, c0, c1, hf, hmc, hm, hx⟩ := ht
  by_cases hlt : k < m
  · obtain ⟨b, o, x, rfl, hb, hc⟩ := hx k hlt
    exact next_in B p k m c b o x n w ht' hk h1 h2 hm hmc c0 c1 hf hlt hc
  · exact next_out B p k m c ao n w ht' hk h1 h2 hm hmc c0 c1 hf (by omega)

end Go.Proofs.Ytnnobdcbmagbaaa

/- The law for fresh operations once more: a step may know that what it looks at lies in blocks apart. -/
namespace Go.Plan
open Go
section
variable {P : Program} {ops : Array Oper} {Q : Exit → Act → World → Prop} {S : World → Prop} {z : Nat} {C : Act → World → Prop}
theorem fresh_phase2 {G : Nat → Nat → Nat → Value → World → Prop} {listed0 : Array Bool} {n : Nat} {T : List Nat} (F : FreshFacts ops listed0 n T) (hP : ∀ c a w, ¬ Q (.panic c) a w) {a0 : Act} (hn : a0.tmps.size = n) {w0 : World}
    (hSm : ∀ w w', S w → Ext w w' → S w') (hGm : ∀ i lo hi v w w', G i lo hi v w → Ext w w' → G i lo hi v w')
    (hstep : ∀ i o, i ∈ T → ops[i]? = some o → ∀ (vs : Nat → Value) (w : World) (lo hi : Nat → Nat), S w → Ext w0 w → (∀ k ∈ T, ∀ e, dstOf ops k = some e → e ∈ o.looksAt ops → G k (lo k) (hi k) (vs k) w) → (∀ x ∈ T, ∀ y ∈ T, x ≠ y → (∃ e, dstOf ops x = some e ∧ e ∈ o.looksAt ops) → (∃ e, dstOf ops y = some e ∧ e ∈ o.looksAt ops) → hi x ≤ lo y ∨ hi y ≤ lo x) → 
      o.wp P (over ops vs T a0) w (fun a' w' => ∃ v, a' = (over ops vs T a0).put o.dst v ∧ G i w.heap.size w'.heap.size v w' ∧ Ext w w') Q ∨ (o.asks P (over ops vs T a0) w ∧ LetsOut Q)) (fuel : Nat)
    (hfin : ∀ (vs : Nat → Value) (lo hi : Nat → Nat) (w : World), S w → Ext w0 w → (∀ k ∈ T, G k (lo k) (hi k) (vs k) w ∧ w0.heap.size ≤ lo k ∧ hi k ≤ w.heap.size) → (∀ i ∈ T, ∀ k ∈ T, i ≠ k → hi i ≤ lo k ∨ hi k ≤ lo i) →
      anyS P ops Q S z fuel (markAll listed0 T) (over ops vs T a0) w) :
    ∀ (m : Nat) (D : List Nat) (vs : Nat → Value) (lo hi : Nat → Nat) (listed : Array Bool) (a : Act) (w : World), D.length + m = T.length →
      FreshInv ops S G listed0 T a0 w0 D vs lo hi listed a w → anyS P ops Q S z (fuel + m) listed a w := by
  have hdist : ∀ t, ∀ i ∈ T, ∀ j ∈ T, dstOf ops i = some t → dstOf ops j = some t → i = j := by
    intro t i hi j hj h1 h2
    by_cases hij : i = j
    · exact hij
    · obtain ⟨o, d, ho, hd, _, _, _, _, _, hk⟩ := F.op j hj
      obtain ⟨e, he, hed, _⟩ := hk i hi hij
      have : dstOf ops j = some d := by simp [dstOf, ho, hd]
      rw [this] at h2
      rw [he] at h1
      cases h1; cases h2
      exact absurd rfl hed
  have hdist' : ∀ i ∈ T, ∀ j ∈ T, i ≠ j → dstOf ops i ≠ dstOf ops j ∨ dstOf ops i = none := by
    intro i hi j hj hij
    cases h : dstOf ops i with
    | none => exact .inr rfl
    | some t => exact .inl fun e => hij (hdist t i hi j hj h e.symm)
  intro m
  induction m with
  | zero =>
    intro D vs lo hi listed a w hlen I
    have hall : ∀ t ∈ T, t ∈ D := by
      intro t ht
      by_cases htD : t ∈ D
      · exact htD
      · exfalso
        have hsub : (t :: D).Nodup := List.nodup_cons.2 ⟨htD, I.nodup⟩
        have := List.Nodup.length_le_of_subset hsub (l₂ := T) (fun x hx => by
          rcases List.mem_cons.1 hx with rfl | hx
          · exact ht
          · exact I.sub x hx)
        simp only [List.length_cons] at this
        omega
    have ea : a = over ops vs T a0 := by
      have h1 : a.tmps = (over ops vs T a0).tmps := by
        apply Array.ext_getElem?
        intro k
        rw [I.slots k, over_get vs k T a0 hdist' F.nodup]
        exact slotBy_agree I.sub (hdist k) (fun x hx _ => hall x hx)
      have h2 : a.defers = (over ops vs T a0).defers := by rw [I.defers, over_defers]
      cases a; cases hov : over ops vs T a0; rw [hov] at h1 h2; simp only at h1 h2; rw [h1, h2]
    have el : listed = markAll listed0 T := by
      apply Array.ext
      · rw [markAll_size, I.size, F.size]
      · intro j h1 h2
        have h3 := I.marks j (by rw [← I.size]; exact h1)
        have h4 := markAll_get (l := listed0) j T (by rw [F.size, ← I.size]; exact h1)
        have h5 : D.contains j = T.contains j := by
          rw [Bool.eq_iff_iff]; simp only [List.contains_eq_mem, decide_eq_true_eq]
          exact ⟨I.sub j, hall j⟩
        rw [h5, ← h4] at h3
        simpa [h1, h2] using h3
    rw [ea, el]
    exact hfin vs lo hi w I.S I.ext (fun k hk => I.held k (hall k hk)) (fun i hi' k hk => I.apart i (hall i hi') k (hall k hk))
  | succ m ih =>
    intro D vs lo hi listed a w hlen I
    have hex : ∃ t ∈ T, t ∉ D := by
      refine Classical.byContradiction fun hno => ?_
      have hall : ∀ t ∈ T, t ∈ D := fun t ht => Classical.byContradiction fun h => hno ⟨t, ht, h⟩
      have := List.Nodup.length_le_of_subset F.nodup (l₂ := D) hall
      omega
    have up : ∀ j, listed0.getD j false = true → listed.getD j false = true := by
      intro j hj
      have hlt : j < ops.size := by
        rw [← F.size]
        exact Classical.byContradiction fun h => by simp [Array.getElem?_eq_none (Nat.le_of_not_lt h)] at hj
      rw [I.marks j hlt, hj]; rfl
    have upD : ∀ j ∈ D, listed.getD j false = true := by
      intro j hj
      obtain ⟨o, _, ho, _⟩ := F.op j (I.sub j hj)
      rw [I.marks j (Array.getElem?_eq_some_iff.1 ho).1]
      simp [hj]
    have undone : ∀ t ∈ T, t ∉ D → listed.getD t true = false := by
      intro t ht htD
      obtain ⟨o, _, ho, _, _, _, _, _, h0, _⟩ := F.op t ht
      have hlt := (Array.getElem?_eq_some_iff.1 ho).1
      have h1 := I.marks t hlt
      have h0' : listed0.getD t false = false := by
        have : t < listed0.size := by rw [F.size]; exact hlt
        simpa [this] using h0
      rw [h0'] at h1
      have : t < listed.size := by rw [I.size]; exact hlt
      simpa [this, htD] using h1
    obtain ⟨t0, ht0, ht0D, o0, ho0, hall0⟩ := topo_next F.topo D listed up upD hex
    have hne : Region.ready .any ops listed ≠ [] := by
      intro h
      have : t0 ∈ Region.ready .any ops listed := mem_ready.2 ⟨undone t0 ht0 ht0D, o0, ho0, hall0⟩
      rw [h] at this
      cases this
    refine ⟨fun h => absurd h hne, fun i hir => ?_⟩
    obtain ⟨hun, o, ho, hafter⟩ := mem_ready.1 hir
    have hlt := (Array.getElem?_eq_some_iff.1 ho).1
    have hiT : i ∈ T := by
      rcases F.rest i hlt with h | h | h
      · exact h
      · exfalso
        have h' : listed0.getD i false = true := by
          have : i < listed0.size := by rw [F.size]; exact hlt
          simpa [this] using h
        have h2 := up i h'
        have : i < listed.size := by rw [I.size]; exact hlt
        simp [this] at h2 hun
        rw [h2] at hun; cases hun
      · exfalso
        have h1 := waits_listed I.closed ops.size i o ho hafter t0 (h t0 ht0)
        have h2 := undone t0 ht0 ht0D
        obtain ⟨_, _, hot, _⟩ := F.op t0 ht0
        have : t0 < listed.size := by rw [I.size]; exact (Array.getElem?_eq_some_iff.1 hot).1
        simp [this] at h1 h2
        rw [h1] at h2; cases h2
    have hiD : i ∉ D := by
      intro h
      have h1 := upD i h
      have : i < listed.size := by rw [I.size]; exact hlt
      simp [this] at h1 hun
      rw [h1] at hun; cases hun
    obtain ⟨o', d, ho', hd, hdn, hdl, hg, hsel, _, hk⟩ := F.op i hiT
    obtain rfl : o = o' := Option.some.inj (ho.symm.trans ho')
    have hid : dstOf ops i = some d := by simp [dstOf, ho, hd]
    -- a slot that o looks at holds what 'over' says
    have same : ∀ t, t ∈ o.looksAt ops → a.tmps[t]? = (over ops vs T a0).tmps[t]? := by
      intro t ht
      rw [I.slots t, over_get vs t T a0 hdist' F.nodup]
      refine slotBy_agree I.sub (hdist t) (fun k hkT hkt => ?_)
      by_cases hki : k = i
      · subst hki
        rw [hid] at hkt; cases hkt
        exact absurd ht hdl
      · obtain ⟨e, he, _, hl⟩ := hk k hkT hki
        rw [hkt] at he; cases he
        obtain ⟨x, hx, hxb, hxk⟩ := hl ht
        have := hafter x hx hxb
        rw [hxk] at this
        exact Classical.byContradiction fun hkD => by
          have h2 := undone k hkT hkD
          obtain ⟨_, _, hot, _⟩ := F.op k hkT
          have h3 : k < listed.size := by rw [I.size]; exact (Array.getElem?_eq_some_iff.1 hot).1
          simp [h3] at this h2
          rw [this] at h2; cases h2
    have heval : execOp (over ops vs T a0).eval o = execOp a.eval o := execOp_congr o hsel fun x hx => by
      cases x with
      | tmp t =>
        have := same t (List.mem_append_left _ (List.mem_filterMap.2 ⟨.tmp t, by simpa using hx, rfl⟩))
        simp [Act.eval, Array.getD_eq_getD_getElem?, this]
      | _ => rfl
    have inD : ∀ k ∈ T, ∀ e, dstOf ops k = some e → e ∈ o.looksAt ops → k ∈ D := fun k hkT e he hel => by
      by_cases hki : k = i
      · subst hki
        rw [hid] at he; cases he
        exact absurd hel hdl
      · obtain ⟨e', he', _, hl⟩ := hk k hkT hki
        rw [he] at he'; cases he'
        obtain ⟨x, hx, hxb, hxk⟩ := hl hel
        have := hafter x hx hxb
        rw [hxk] at this
        exact Classical.byContradiction fun hkD => by
          have h2 := undone k hkT hkD
          obtain ⟨_, _, hot, _⟩ := F.op k hkT
          have h3 : k < listed.size := by rw [I.size]; exact (Array.getElem?_eq_some_iff.1 hot).1
          simp [h3] at this h2
          rw [this] at h2; cases h2
    have hst := hstep i o hiT ho vs w lo hi I.S I.ext (fun k hkT e he hel => (I.held k (inD k hkT e he hel)).1)
      (fun x hxT y hyT hxy hx hy => by
        obtain ⟨e, he, hel⟩ := hx
        obtain ⟨e', he', hel'⟩ := hy
        exact I.apart x (inD x hxT e he hel) y (inD y hyT e' he' hel') hxy)
    have hput : ∀ (b : Act) (v u : Value), b.tmps.size = n → b.put o.dst v = b.put o.dst u → v = u := by
      intro b v u hb h
      have h1 : (b.put o.dst v).tmps[d]? = (b.put o.dst u).tmps[d]? := by rw [h]
      rw [put_get, put_get, if_pos ⟨hd, by rw [hb]; exact hdn⟩, if_pos ⟨hd, by rw [hb]; exact hdn⟩] at h1
      exact Option.some.inj h1
    have hov : (over ops vs T a0).tmps.size = n := by rw [over_size]; exact hn
    have hwp : o.wp P a w (fun a' w' => ∃ v, a' = a.put o.dst v ∧ G i w.heap.size w'.heap.size v w' ∧ Ext w w') Q ∨ (o.asks P a w ∧ LetsOut Q) := by
      refine hst.imp (fun hst => ?_) (fun h => ⟨by unfold Oper.asks at *; rw [← heval]; exact h.1, h.2⟩)
      refine wp_carry (a := over ops vs T a0) heval hP (fun v w' h => ?_) (fun dd w' h => ?_) hst
      · obtain ⟨u, hu, h2⟩ := h
        obtain rfl := hput _ _ _ hov hu
        exact ⟨v, rfl, h2⟩
      · obtain ⟨u, hu, _⟩ := h
        have : ({ over ops vs T a0 with defers := dd :: (over ops vs T a0).defers }.put o.dst undef).defers = ((over ops vs T a0).put o.dst u).defers := by rw [hu]
        rw [hd] at this
        simp [Act.put] at this
    unfold wpOp
    rw [ho]
    simp only
    rw [if_pos (by simp [Region.wanted, hg])]
    refine hwp.imp (fun hwp => Oper.wp_mono (fun a' w' h => ?_) hwp) id
    obtain ⟨v, rfl, hG, hE⟩ := h
    have hS' := hSm _ _ I.S hE
    refine ⟨fun _ => hS', ?_⟩
    refine ih (i :: D) (fun j => if j = i then v else vs j) (fun j => if j = i then w.heap.size else lo j) (fun j => if j = i then w'.heap.size else hi j) _ _ w' (by simp only [List.length_cons]; omega) ?_
    refine ⟨fun x hx => ?_, List.nodup_cons.2 ⟨hiD, I.nodup⟩, by simp [I.size], fun j hj => ?_, fun j oj hoj hl e he hb => ?_, ?_, by rw [put_size]; exact I.tmps, fun k => ?_, fun k hk' => ?_, fun x hx y hy hxy => ?_, I.ext.trans hE, hS'⟩
    · rcases List.mem_cons.1 hx with rfl | hx
      · exact hiT
      · exact I.sub x hx
    · by_cases hij : i = j
      · subst hij
        have : i < listed.size := by rw [I.size]; exact hlt
        simp [this]
      · rw [getD_set_ne false hij, I.marks j hj]
        simp [Ne.symm hij]
    · by_cases hij : i = j
      · subst hij
        obtain rfl : o = oj := Option.some.inj (ho.symm.trans hoj)
        exact getD_set_true (hafter e he hb)
      · rw [getD_set_ne false hij] at hl
        exact getD_set_true (I.closed j oj hoj hl e he hb)
    · rw [hd]; exact I.defers
    · rw [put_get, hd]
      by_cases hdk : d = k
      · subst hdk
        unfold slotBy
        rw [List.find?_cons, show (dstOf ops i == some d) = true by simp [hid]]
        simp only [true_and, if_true]
        rw [I.tmps]
        by_cases hlt2 : d < a0.tmps.size
        · rw [if_pos hlt2, if_pos hlt2]
        · rw [hn] at hlt2; exact absurd hdn hlt2
      · rw [if_neg (fun h => hdk (Option.some.inj h.1)), I.slots k]
        unfold slotBy
        rw [List.find?_cons, show (dstOf ops i == some k) = false by simp [hid, hdk]]
        cases hf : D.find? (fun i => dstOf ops i == some k) with
        | none => rfl
        | some j =>
          have hji : j ≠ i := fun e => hiD (e ▸ List.mem_of_find?_eq_some hf)
          simp [hji]
    · rcases List.mem_cons.1 hk' with rfl | hk'
      · simp only [if_true]
        exact ⟨hG, I.ext.size, Nat.le_refl _⟩
      · have hki : k ≠ i := fun e => hiD (e ▸ hk')
        simp only [hki, if_false]
        have := I.held k hk'
        exact ⟨hGm _ _ _ _ _ _ this.1 hE, this.2.1, Nat.le_trans this.2.2 hE.size⟩
    · rcases List.mem_cons.1 hx with hxi | hxD
      · subst hxi
        rcases List.mem_cons.1 hy with hyx | hyD
        · exact absurd hyx.symm hxy
        · have hyi : y ≠ x := Ne.symm hxy
          simp only [if_true, hyi, if_false]
          exact .inr (I.held y hyD).2.2
      · have hxi : x ≠ i := fun e => hiD (e ▸ hxD)
        rcases List.mem_cons.1 hy with hyi | hyD
        · subst hyi
          simp only [if_true, hxi, if_false]
          exact .inl (I.held x hxD).2.2
        · have hyi : y ≠ i := fun e => hiD (e ▸ hyD)
          simp only [hxi, hyi, if_false]
          exact I.apart x hxD y hyD hxy

end
section
variable {P : Program} {ops : Array Oper} {Q : Exit → Act → World → Prop} {S : World → Prop} {z : Nat} {C : Act → World → Prop}
/-- What is asked where the fresh operations begin. -/
def FreshAt2 (P : Program) (ops : Array Oper) (Q : Exit → Act → World → Prop) (S : World → Prop) (z : Nat) (G : Nat → Nat → Nat → Value → World → Prop) (TS : List (Nat × Tmp)) (plan2 : List (Nat × Bool)) (n : Nat) (a1 : Act) (w1 : World) : Prop :=
  a1.tmps.size = n ∧
  (∀ p ∈ TS, ∀ o, ops[p.1]? = some o → ∀ (vs : Nat → Value) (w : World) (lo hi : Nat → Nat), S w → Ext w1 w → (∀ k ∈ TS, k.2 ∈ o.looksAt ops → G k.1 (lo k.1) (hi k.1) (vs k.1) w) → (∀ i ∈ TS, ∀ k ∈ TS, i.1 ≠ k.1 → i.2 ∈ o.looksAt ops → k.2 ∈ o.looksAt ops → hi i.1 ≤ lo k.1 ∨ hi k.1 ≤ lo i.1) →
    ∀ K : Act → World → Prop, (∀ v w', G p.1 w.heap.size w'.heap.size v w' → Ext w w' → K ((puts vs TS a1).put (some p.2) v) w') → wpList P ops (Exit.then K Q) [o] (puts vs TS a1) w) ∧
  (∀ (vs : Nat → Value) (lo hi : Nat → Nat) (w : World), S w → Ext w1 w → (∀ k ∈ TS, G k.1 (lo k.1) (hi k.1) (vs k.1) w ∧ w1.heap.size ≤ lo k.1 ∧ hi k.1 ≤ w.heap.size) →
    (∀ i ∈ TS, ∀ k ∈ TS, i.1 ≠ k.1 → hi i.1 ≤ lo k.1 ∨ hi k.1 ≤ lo i.1) → wpPlan P ops Q S z (Q .normal) plan2 (puts vs TS a1) w)

theorem wp_region_fresh2 {id : Nat} {l : List Oper} {a : Act} {w : World} (S : World → Prop) (z : Nat) (G : Nat → Nat → Nat → Value → World → Prop) (plan1 : List (Nat × Bool)) (TS : List (Nat × Tmp)) (plan2 : List (Nat × Bool)) (n : Nat)
    (hm : P.follows .mixedOrders = true) (hs : Region.noSelect l.toArray = true) (hp : freshRegion l.toArray z plan1 TS plan2 n = true) (hS : S w.drew)
    (hSm : ∀ w w', S w → Ext w w' → S w') (hGm : ∀ i lo hi v w w', G i lo hi v w → Ext w w' → G i lo hi v w')
    (h : wpPlan P l.toArray (NoPanic Q) S z (FreshAt2 P l.toArray (NoPanic Q) S z G TS plan2 n) plan1 a w.drew) : (Code.region id l.toArray true).wp P Q a w := by
  unfold freshRegion at hp
  split at hp
  · rename_i l1 hl1
    simp only [Bool.and_eq_true, decide_eq_true_eq, List.all_eq_true, beq_iff_eq, Bool.not_eq_true'] at hp
    obtain ⟨⟨⟨⟨⟨hf, hp2⟩, hd⟩, hlen⟩, hz⟩, hzl⟩ := hp
    have F := freshOK_spec hf
    refine wp_region_noPanic (wp_region_any hm (any_of_anyS (S := S) (z := z) _ _ _ _ ?_))
    have key := held_of_plan (P := P) (Q := NoPanic Q) (S := S) (C := FreshAt2 P l.toArray (NoPanic Q) S z G TS plan2 n) hs hz (fun c a d v w h => h.elim) l1 (plan2.length + TS.length) (fun a1 w1 hS1 hC => ?_) plan1 _ a w.drew hl1 (by simp) (fun _ => hS) h
    · rw [show plan2.length + TS.length + plan1.length = l.toArray.size by omega] at key
      exact key
    · have hS1' : S w1 := hS1 (by rw [hzl]; simp)
      obtain ⟨hn, hst, hfin⟩ := hC
      have hT : TS.length = (TS.map (·.1)).length := by simp
      rw [hT]
      have hdst : ∀ p ∈ TS, dstOf l.toArray p.1 = some p.2 := hd
      refine fresh_phase2 (Q := NoPanic Q) (w0 := w1) F (fun c a w h => h) hn hSm hGm (fun i o hi ho vs w lo hi' hSw hE hdep hdap => ?_) plan2.length (fun vs lo hi w hSw hE hall hap => ?_) (TS.map (·.1)).length [] (fun _ => undef) (fun _ => 0) (fun _ => 0) l1 a1 w1 (by simp) ?_
      · obtain ⟨p, hpT, rfl⟩ := List.mem_map.1 hi
        obtain ⟨o', d, ho', hod, _, _, hg, _⟩ := F.op p.1 hi
        obtain rfl : o = o' := Option.some.inj (ho.symm.trans ho')
        have hd2 : o.dst = some p.2 := by
          have := hdst p hpT
          simp only [dstOf, ho, Option.bind_some] at this
          exact this
        rw [over_eq_puts vs TS a1 hdst]
        refine wp_of_list hg (hst p hpT o ho vs w lo hi' hSw hE (fun k hk hkl => hdep k.1 (List.mem_map.2 ⟨k, hk, rfl⟩) k.2 (hdst k hk) hkl) (fun i hi k hk hne hil hkl => hdap i.1 (List.mem_map.2 ⟨i, hi, rfl⟩) k.1 (List.mem_map.2 ⟨k, hk, rfl⟩) hne ⟨_, hdst i hi, hil⟩ ⟨_, hdst k hk, hkl⟩) _ (fun v w' hG hE' => ?_))
        rw [hd2]
        exact ⟨v, rfl, hG, hE'⟩
      · rw [over_eq_puts vs TS a1 hdst]
        have hw := hfin vs lo hi w hSw hE (fun k hk => hall k.1 (List.mem_map.2 ⟨k, hk, rfl⟩)) (fun i hi k hk hne => hap i.1 (List.mem_map.2 ⟨i, hi, rfl⟩) k.1 (List.mem_map.2 ⟨k, hk, rfl⟩) hne)
        unfold planOK at hp2
        split at hp2
        · rename_i l2 hl2
          have := held_of_plan (P := P) (Q := NoPanic Q) (S := S) (C := NoPanic Q .normal) hs hz (fun c a d v w h => h.elim) l2 0 (fun a w _ h => anyS_done (by simpa using hp2) h 0) plan2 _ _ w hl2 (by rw [markAll_size, F.size]) (fun _ => hSw) hw
          rw [Nat.zero_add] at this
          exact this
        · cases hp2
      · exact ⟨(fun x hx => by cases hx), List.nodup_nil, F.size, (fun j hj => by simp), F.closed, rfl, rfl, (fun k => rfl), (fun k hk => by cases hk), (fun i hi => by cases hi), Ext.refl _, hS1'⟩
  · cases hp

theorem fresh_at2 {G : Nat → Nat → Nat → Value → World → Prop} {TS : List (Nat × Tmp)} {plan2 : List (Nat × Bool)} {n : Nat} {a1 : Act} {w1 : World} (hn : a1.tmps.size = n)
    (h : ∀ p ∈ TS, ∀ o, ops[p.1]? = some o → ∀ (vs : Nat → Value) (w : World) (lo hi : Nat → Nat), S w → Ext w1 w → (∀ k ∈ TS, k.2 ∈ o.looksAt ops → G k.1 (lo k.1) (hi k.1) (vs k.1) w) → (∀ i ∈ TS, ∀ k ∈ TS, i.1 ≠ k.1 → i.2 ∈ o.looksAt ops → k.2 ∈ o.looksAt ops → hi i.1 ≤ lo k.1 ∨ hi k.1 ≤ lo i.1) →
      ∀ K : Act → World → Prop, (∀ v w', G p.1 w.heap.size w'.heap.size v w' → Ext w w' → K ((puts vs TS a1).put (some p.2) v) w') → wpList P ops (Exit.then K Q) [o] (puts vs TS a1) w)
    (hfin : ∀ (vs : Nat → Value) (lo hi : Nat → Nat) (w : World), S w → Ext w1 w → (∀ k ∈ TS, G k.1 (lo k.1) (hi k.1) (vs k.1) w ∧ w1.heap.size ≤ lo k.1 ∧ hi k.1 ≤ w.heap.size) →
      (∀ i ∈ TS, ∀ k ∈ TS, i.1 ≠ k.1 → hi i.1 ≤ lo k.1 ∨ hi k.1 ≤ lo i.1) → wpPlan P ops Q S z (Q .normal) plan2 (puts vs TS a1) w) : FreshAt2 P ops Q S z G TS plan2 n a1 w1 := ⟨hn, h, hfin⟩

end
end Go.Plan
