/- The contract of the program's Take at bytes whose last box is not complete. -/
import Derived.Test.YtkhjkemllgjfmaaYV
import Derived.Test.YtkhjkemllgjfmaaE
import Derived.Test.YtkhjkemllgjfmaaF
namespace Go.Proofs.Ytkhjkemllgjfmaa
open Go.RowKit
set_option linter.unusedVariables false
set_option linter.unusedSimpArgs false

set_option maxRecDepth 100000 in
set_option maxHeartbeats 4000000 in
theorem take_short (v : Value) (n : Nat) (f : Nat → Int) (w : World) (hv : BA w v n f) (hn : n ≤ 100000000) (hc : ∀ k, Walked f 0 n k → ¬ goOn f n (pos f 0 k) → codeAt f n (pos f 0 k) = 4) :
    Calls Try.prog 25 #[v] w fun e w' => e = .returned (.tuple #[.agg #[.int .i64 0, .slice none 0 0], .int .i64 4]) ∧ Below w.heap.size w w' := by
  obtain ⟨ao, cc, rfl⟩ := hv.shape
  have HV := Lib.hid hv
  have HC := Lib.hid hc
  have hn' : ¬ (2147483647 : Int) < (n : Int) := by omega
  have hn2 : ¬ 2147483647 < n := by omega
  have hmf : ∀ (fn : Fn) (first cap : Array Value) (w : World), (Instr.makeFunc fn first cap).run Try.prog w = .ok (.func fn first cap) w := fun _ _ _ _ => rfl
  clear hv hc
  go_enter_defers Try.func25, Try.ntmps25
  go_upto_region 2 with fail
  obtain ⟨w1, hw1⟩ : ∃ x, x = ((w.alloc (.cells #[.int .i64 0, .slice none 0 0] 56)).alloc (.cells #[.int .i64 0] 24)) := ⟨_, rfl⟩
  rw [← hw1]
  obtain ⟨g1, hg1⟩ : ∃ g, g = w.heap.size := ⟨_, rfl⟩
  have hE1 : Below w.heap.size w w1 := by rw [hw1]; go_grown
  have hz1 : w1.heap.size = w.heap.size + 2 := by rw [hw1]; simp [go_sem]
  have x0 : w1.cell? ⟨g1, 0, none⟩ = some (.int .i64 0) := by rw [hw1, hg1]; simp [go_sem]
  have x1 : w1.cell? ⟨g1, 1, none⟩ = some (.slice none 0 0) := by rw [hw1, hg1]; simp [go_sem]
  have f0 : w1.frozen? ⟨g1, 0, none⟩ = false := by rw [hw1, hg1]; simp [go_sem]
  have f1 : w1.frozen? ⟨g1, 1, none⟩ = false := by rw [hw1, hg1]; simp [go_sem]
  have he1 : C1 w1 (g1 + 1) (.int .i64 0) := by rw [hw1, hg1]; constructor <;> simp [go_sem]
  rw [← hg1]
  obtain ⟨g2, hg2⟩ : ∃ g, g = g1 + 1 := ⟨_, rfl⟩
  rw [← hg2] at he1 ⊢
  have l1 : g1 < w1.heap.size := by omega
  have l2 : g2 < w1.heap.size := by omega
  have n12 : g1 ≠ g2 := by omega
  have m1 : w.heap.size ≤ g1 := by omega
  have m2 : w.heap.size ≤ g2 := by omega
  have hw0 : w.heap.size ≤ w1.heap.size := by omega
  have HB1 := Lib.hid hE1
  have HX := Lib.hid (And.intro x0 x1)
  have He := Lib.hid he1
  have HF := Lib.hid (And.intro f0 f1)
  clear hw1 hE1 hg1 hg2 hz1 he1 x0 x1 f0 f1
  go_wp2_with fail
  refine (boxes_any _ n f 0 (n : Int) w1 (HV.out.below HB1.out) hn).mono ?_
  rintro e w2 ⟨v1, c, rfl, hb2, hcase⟩
  rw [if_neg (by omega)] at hcase
  obtain ⟨k, hk, hg, hcd, hnil, _⟩ := hcase
  obtain rfl : c = 4 := hcd.trans (HC.out k (by simpa using hk) (by simpa using hg))
  obtain rfl := hnil (by decide)
  have s2 := hb2.size
  have HB2 := Lib.hid (HB1.out.trans (hb2.mono hw0))
  have y0 := (hb2.cell (p := ⟨g1, 0, none⟩) l1).trans HX.out.1
  have y1 := (hb2.cell (p := ⟨g1, 1, none⟩) l1).trans HX.out.2
  have ye := (hb2.cell (p := ⟨g2, 0, none⟩) l2).trans He.out.k0
  have yf1 := (hb2.frozen (p := ⟨g1, 0, none⟩) l1).trans HF.out.1
  have yf3 := (hb2.frozen (p := ⟨g1, 1, none⟩) l1).trans HF.out.2
  have yf := (hb2.frozen (p := ⟨g2, 0, none⟩) l2).trans He.out.fz
  clear hk hg hcd hnil hb2
  go_upto_region 6 with fail
  obtain ⟨w3, hw3⟩ : ∃ x, x = w2.setCell ⟨g2, 0, none⟩ (.int .i64 4) := ⟨_, rfl⟩
  have z0 : w3.cell? ⟨g1, 0, none⟩ = some (.int .i64 0) := by rw [hw3, World.cell?_setCell_far _ _ _ _ (by simpa using Ne.symm n12)]; exact y0
  have z1 : w3.cell? ⟨g1, 1, none⟩ = some (.slice none 0 0) := by rw [hw3, World.cell?_setCell_far _ _ _ _ (by simpa using Ne.symm n12)]; exact y1
  have z2 : w3.cell? ⟨g2, 0, none⟩ = some (.int .i64 4) := by rw [hw3]; simp [go_sem, ye]
  have zf2 : w3.frozen? ⟨g2, 0, none⟩ = false := by rw [hw3, World.frozen?_setCell]; exact yf
  have zf1 : w3.frozen? ⟨g1, 0, none⟩ = false := by rw [hw3, World.frozen?_setCell]; exact yf1
  have zf3 : w3.frozen? ⟨g1, 1, none⟩ = false := by rw [hw3, World.frozen?_setCell]; exact yf3
  have HB3 := Lib.hid (show Below w.heap.size w w3 by rw [hw3]; exact HB2.out.setCell m2 _)
  rw [← hw3]
  clear hw3 y0 y1 ye yf yf1 yf3
  refine Plan.wp_region_plan (fun wx => Below w.heap.size w wx ∧ wx.cell? ⟨g2, 0, none⟩ = some (.int .i64 4)) (([0, 1].map (·, true)) ++ (([2, 3].map (·, false)))) (by kernel_rfl) (by kernel_rfl) (by kernel_rfl) ⟨HB3.out.drew, by simpa [go_sem] using z2⟩ ?_
  refine' Plan.plan_seg _ [0, 1] (([2, 3].map (·, false))) (by kernel_rfl) (by kernel_rfl) rfl (by exact ⟨HB3.out.drew, by simpa [go_sem] using z2⟩) (fun wx hS => ?_) ?_
  rotate_left
  · have q2 := hS.2
    clear hS
    go_light
    iterate 2 (apply Plan.seg_pick; rfl; intro K hK; go_wp)
    exact Plan.seg_nil
  refine Plan.plan_of_effect rfl (fun K hK => ?_)
  go_wp2_with fail
  have hb4 : Below w.heap.size w ((w3.setCell ⟨g1, 0, none⟩ (.int .i64 0)).setCell ⟨g1, 1, none⟩ (.slice none 0 0)).drew := ((HB3.out.setCell m1 _).setCell m1 _).drew
  have z4 : ((w3.setCell ⟨g1, 0, none⟩ (.int .i64 0)).setCell ⟨g1, 1, none⟩ (.slice none 0 0)).drew.cell? ⟨g2, 0, none⟩ = some (.int .i64 4) := by
    rw [World.cell?_drew, World.cell?_setCell_far _ _ _ _ (by simpa using n12), World.cell?_setCell_far _ _ _ _ (by simpa using n12)]; exact z2
  refine ⟨⟨hb4, z4⟩, ?_⟩
  have z40 : ((w3.setCell ⟨g1, 0, none⟩ (.int .i64 0)).setCell ⟨g1, 1, none⟩ (.slice none 0 0)).drew.cell? ⟨g1, 0, none⟩ = some (.int .i64 0) := by simp [go_sem, z0, z1]
  have z41 : ((w3.setCell ⟨g1, 0, none⟩ (.int .i64 0)).setCell ⟨g1, 1, none⟩ (.slice none 0 0)).drew.cell? ⟨g1, 1, none⟩ = some (.slice none 0 0) := by simp [go_sem, z0, z1]
  have z4f : ((w3.setCell ⟨g1, 0, none⟩ (.int .i64 0)).setCell ⟨g1, 1, none⟩ (.slice none 0 0)).drew.frozen? ⟨g2, 0, none⟩ = false := by simp [go_sem, zf2]
  obtain ⟨w4, hw4⟩ : ∃ x, x = ((w3.setCell ⟨g1, 0, none⟩ (.int .i64 0)).setCell ⟨g1, 1, none⟩ (.slice none 0 0)).drew := ⟨_, rfl⟩
  rw [← hw4] at hb4 z4 z40 z41 z4f ⊢
  have HB4 := Lib.hid hb4
  clear hw4 hb4 z0 z1 z2 zf1 zf2 zf3
  refine Plan.plan_of_effect rfl (fun K hK => ?_)
  go_wp2_with fail
  refine ⟨⟨HB4.out.setCell m2 _, by simp [go_sem, z4]⟩, ?_⟩
  refine Plan.plan_done ?_
  have z50 : (w4.setCell ⟨g2, 0, none⟩ (.int .i64 4)).cell? ⟨g2, 0, none⟩ = some (.int .i64 4) := by simp [go_sem, z4]
  have z51 : (w4.setCell ⟨g2, 0, none⟩ (.int .i64 4)).cell? ⟨g1, 0, none⟩ = some (.int .i64 0) := by rw [World.cell?_setCell_far _ _ _ _ (by simpa using Ne.symm n12)]; exact z40
  have z52 : (w4.setCell ⟨g2, 0, none⟩ (.int .i64 4)).cell? ⟨g1, 1, none⟩ = some (.slice none 0 0) := by rw [World.cell?_setCell_far _ _ _ _ (by simpa using Ne.symm n12)]; exact z41
  have hb5 : Below w.heap.size w (w4.setCell ⟨g2, 0, none⟩ (.int .i64 4)) := HB4.out.setCell m2 _
  obtain ⟨w5, hw5⟩ : ∃ x, x = w4.setCell ⟨g2, 0, none⟩ (.int .i64 4) := ⟨_, rfl⟩
  rw [← hw5] at z50 z51 z52 hb5 ⊢
  clear hw5 z4 z40 z41 z4f
  go_wp2_with fail
  refine leaves_cons (f := 47) (args := #[.pointer (some ⟨g1, 0, none⟩), .pointer (some ⟨g2, 0, none⟩)]) (by simp) (by simp [go_sem]) ?_
  refine (idle47 _ _ _).mono ?_
  rintro e u' w'' ⟨rfl, rfl, rfl⟩
  simp [Leaves, settle, results, Try.results25, go_sem, z50, z51, z52]
  exact hb5
end Go.Proofs.Ytkhjkemllgjfmaa
