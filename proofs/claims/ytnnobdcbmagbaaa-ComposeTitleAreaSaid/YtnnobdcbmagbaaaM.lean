/- The contracts of cutroomref26.blank, planes, Black. -/
import Derived.Test.YtnnobdcbmagbaaaL
namespace Go.Proofs.Ytnnobdcbmagbaaa
open Go.RowKit

def lenAt (n1 n2 : Nat) (i : Nat) : Nat := if i = 5 then n1 else n2
/-- A row of zeros that was made between the blocks lo and hi. -/
def Made (B n lo hi : Nat) (v : Value) (w : World) : Prop := ∃ g, v = .slice (some ⟨g, 0, none⟩) n n ∧ Row w B g n n (fun _ => 0) ∧ lo ≤ g ∧ g < hi
theorem Made.ext {B n lo hi : Nat} {v : Value} {w w' : World} (h : Made B n lo hi v w) (e : Plan.Ext w w') : Made B n lo hi v w' := by
  obtain ⟨g, rfl, r, h1, h2⟩ := h
  exact ⟨g, rfl, r.below e, h1, h2⟩

theorem wpList_made (w : World) {ops : Array Oper} {rest : List Oper} {o : Oper} {a : Act} {Q : Exit → Act → World → Prop} (hgd : o.guard = none) (l c : Operand)
    (ho : o.op = .makeSlice 24 l c) (B : Nat) (m : Int) (h0 : 0 ≤ m) (hm : m ≤ 1048576) (hl : a.eval l = .int .i64 m) (hc : a.eval c = .int .i64 m) (hB : B ≤ w.heap.size)
    (h : ∀ v w', Made B m.toNat w.heap.size w'.heap.size v w' → Plan.Ext w w' → wpList Try.prog ops Q rest (a.put o.dst v) w') : wpList Try.prog ops Q (o :: rest) a w := by
  obtain ⟨i0, hi, hz0, hz1, hz2⟩ := info_parts info5
  obtain ⟨n, rfl⟩ := Int.eq_ofNat_of_zero_le h0
  rw [Int.toNat_natCast] at h
  refine wpList_make_full _ hgd l c 24 ho B 5 i0 (.int .u8 0) 1 Try.underlying24 hi hz0 hz1 _ _ _ _ n hl hc rfl rfl ?_ ?_ hB ?_
  · rw [hz2]; omega
  · unfold maxLen; omega
  · intro w1 hown hg
    rw [Nat.mul_one] at hown
    have hr := Row.of_made hown
    have hb : Below w.heap.size w w1 := (Below.refl _ _).grown hg (Nat.le_refl _) (fun k h => by cases h)
    exact h _ w1 ⟨_, rfl, hr, Nat.le_refl _, hr.le.2.1⟩ hb

set_option maxRecDepth 100000 in
set_option maxHeartbeats 2000000 in
theorem blank_any (W H : Int) (w : World) (hs : okSize W H = true) :
    Calls Try.prog 42 #[.int .i64 W, .int .i64 H] w fun e w' => ∃ g1 g2 g3, e = .returned (.agg #[.int .i64 W, .int .i64 H, .slice (some ⟨g1, 0, none⟩) (W * H).toNat (W * H).toNat, .slice (some ⟨g2, 0, none⟩) (W * H / 4).toNat (W * H / 4).toNat, .slice (some ⟨g3, 0, none⟩) (W * H / 4).toNat (W * H / 4).toNat]) ∧
      Row w' w.heap.size g1 (W * H).toNat (W * H).toNat (fun _ => 0) ∧ Row w' w.heap.size g2 (W * H / 4).toNat (W * H / 4).toNat (fun _ => 0) ∧ Row w' w.heap.size g3 (W * H / 4).toNat (W * H / 4).toNat (fun _ => 0) ∧
      g1 ≠ g2 ∧ g1 ≠ g3 ∧ g2 ≠ g3 ∧ Below w.heap.size w w' := by
  obtain ⟨b1, b2, b3, b4, b5, b6, b7, b8⟩ := okSize_bd hs
  have e1 := IntWalk.i64_in (W * H) (by omega)
  have e2 := IntWalk.i64_in (W * H / 4) (by omega)
  have e3 : 0 ≤ W * H := by omega
  clear hs
  obtain ⟨w0, hw0⟩ : ∃ w0, w0 = w.alloc (.cells #[.int .i64 0, .int .i64 0, .slice none 0 0, .slice none 0 0, .slice none 0 0] 26) := ⟨_, rfl⟩
  have hsz : w0.heap.size = w.heap.size + 1 := by rw [hw0]; simp
  have k0 : w0.cell? ⟨w.heap.size, 0, none⟩ = some (.int .i64 0) := by rw [hw0]; simp [go_sem]
  have k1 : w0.cell? ⟨w.heap.size, 1, none⟩ = some (.int .i64 0) := by rw [hw0]; simp [go_sem]
  have k2 : w0.cell? ⟨w.heap.size, 2, none⟩ = some (.slice none 0 0) := by rw [hw0]; simp [go_sem]
  have k3 : w0.cell? ⟨w.heap.size, 3, none⟩ = some (.slice none 0 0) := by rw [hw0]; simp [go_sem]
  have k4 : w0.cell? ⟨w.heap.size, 4, none⟩ = some (.slice none 0 0) := by rw [hw0]; simp [go_sem]
  have kz : ∀ o, w0.frozen? ⟨w.heap.size, o, none⟩ = false := fun o => by rw [hw0]; simp [go_sem]
  have hb0 : Below w.heap.size w w0 := by rw [hw0]; exact below_box _ _
  have HW := Lib.hid hw0
  have HZ := Lib.hid hsz
  clear hw0 hsz
  go_enter Try.func42, Try.ntmps42
  go_wp2
  rw [← HW.out]
  refine Plan.wp_region_fresh (fun w' => Below (w.heap.size + 1) w0 w') 17 (fun i => Made w.heap.size (lenAt (W * H).toNat (W * H / 4).toNat i)) ([0, 1, 2, 3, 4, 6, 7, 8, 9, 11, 12, 13, 14].map (·, true) ++ []) [(5, 10), (10, 15), (15, 20)] ([16].map (·, true) ++ [17].map (·, false)) 22 (by kernel_rfl) (by kernel_rfl) (by kernel_rfl) (Below.refl _ _).drew ?_ ?_ ?_
  · intro wa wb ha hb
    exact ha.trans (hb.mono (by have := ha.size; rw [HZ.out] at this; exact this))
  · intro i lo hi v wa wb hG hE
    exact hG.ext hE
  refine' Plan.plan_seg _ [0, 1, 2, 3, 4, 6, 7, 8, 9, 11, 12, 13, 14] [] (by kernel_rfl) (by kernel_rfl) rfl (by exact (Below.refl _ _).drew) (fun wx hS => ?_) ?_
  rotate_left
  · clear hS
    iterate 13 (apply Plan.seg_pick; rfl; intro K hK; go_wp)
    exact Plan.seg_nil
  refine Plan.plan_nil (Plan.fresh_at rfl ?_ ?_)
  · intro p hp o ho vs wx lo hi hS hE _ K hK
    have hB : w.heap.size ≤ wx.heap.size := by have := hS.size; rw [HZ.out] at this; omega
    simp only [List.mem_cons, List.not_mem_nil, or_false] at hp
    rcases hp with rfl | rfl | rfl
    all_goals
      obtain rfl := Option.some.inj ho
      refine wpList_made wx rfl _ _ rfl w.heap.size _ ?_ ?_ rfl rfl hB (fun v w' hG hE' => ?_)
    · omega
    · omega
    · exact wpList_nil (hK v w' hG hE')
    · omega
    · omega
    · exact wpList_nil (hK v w' hG hE')
    · omega
    · omega
    · exact wpList_nil (hK v w' hG hE')
  · intro vs lo hi wx hS hE hG hap
    obtain ⟨⟨g1, v1, r1, q1, q2⟩, q7, _⟩ := hG (5, 10) (by simp)
    obtain ⟨⟨g2, v2, r2, q3, q4⟩, q8, _⟩ := hG (10, 15) (by simp)
    obtain ⟨⟨g3, v3, r3, q5, q6⟩, q9, _⟩ := hG (15, 20) (by simp)
    have hd : w0.drew.heap.size = w.heap.size + 1 := HZ.out
    rw [hd] at q7 q8 q9
    have p1 := hap (5, 10) (by simp) (10, 15) (by simp) (by decide)
    have p2 := hap (5, 10) (by simp) (15, 20) (by simp) (by decide)
    have p3 := hap (10, 15) (by simp) (15, 20) (by simp) (by decide)
    simp only [lenAt] at v1 v2 v3 r1 r2 r3 q1 q2 q3 q4 q5 q6 p1 p2 p3
    simp only [if_true, show ¬ (10 = 5) by decide, show ¬ (15 = 5) by decide, if_false] at v1 v2 v3 r1 r2 r3
    simp only [Plan.puts, v1, v2, v3]
    have n12 : g1 ≠ g2 := by omega
    have n13 : g1 ≠ g3 := by omega
    have n23 : g2 ≠ g3 := by omega
    have hsz := hS.size
    rw [HZ.out] at hsz
    have m0 := (hS.cell (p := ⟨w.heap.size, 0, none⟩) (by simp)).trans k0
    have m1 := (hS.cell (p := ⟨w.heap.size, 1, none⟩) (by simp)).trans k1
    have m2 := (hS.cell (p := ⟨w.heap.size, 2, none⟩) (by simp)).trans k2
    have m3 := (hS.cell (p := ⟨w.heap.size, 3, none⟩) (by simp)).trans k3
    have m4 := (hS.cell (p := ⟨w.heap.size, 4, none⟩) (by simp)).trans k4
    have mz := fun o => (hS.frozen (p := ⟨w.heap.size, o, none⟩) (by simp)).trans (kz o)
    have hB := hb0.trans (hS.mono (by omega))
    simp only at q7 q8 q9
    have HR := Lib.hid (And.intro r1 (And.intro r2 r3))
    have u1 : ¬ w.heap.size = g1 := by omega
    have u2 : ¬ w.heap.size = g2 := by omega
    have u3 : ¬ w.heap.size = g3 := by omega
    clear hG hap p1 p2 p3 q1 q2 q3 q4 q5 q6 q7 q8 q9 r1 r2 r3 v1 v2 v3 hd hE hsz k0 k1 k2 k3 k4 kz hb0
    have HS := Lib.hid hS
    clear hS
    refine' Plan.plan_seg _ [16] ([17].map (·, false)) (by kernel_rfl) (by kernel_rfl) rfl (by exact HS.out) (fun wy hS => ?_) ?_
    rotate_left
    · clear hS
      iterate 1 (apply Plan.seg_pick; rfl; intro K hK; go_wp)
      exact Plan.seg_nil
    refine Plan.plan_of_last rfl (fun K hK => ?_)
    go_wp2_with fail
    refine Plan.plan_done ?_
    go_wp2_with fail
    refine bodyPost_ret (v := .agg #[.int .i64 W, .int .i64 H, .slice (some ⟨g1, 0, none⟩) (W * H).toNat (W * H).toNat, .slice (some ⟨g2, 0, none⟩) (W * H / 4).toNat (W * H / 4).toNat, .slice (some ⟨g3, 0, none⟩) (W * H / 4).toNat (W * H / 4).toNat]) (by simp [results, Try.results42, go_sem, m0, m1, m2, m3, m4]) rfl ?_
    obtain ⟨h1, h2, h3⟩ := HR.out
    refine ⟨g1, g2, g3, rfl, ?_, ?_, ?_, n12, n13, n23, by go_grown⟩
    · repeat (refine Row.far ?_ (by simp; omega) _)
      exact h1
    · repeat (refine Row.far ?_ (by simp; omega) _)
      exact h2
    · repeat (refine Row.far ?_ (by simp; omega) _)
      exact h3

end Go.Proofs.Ytnnobdcbmagbaaa
