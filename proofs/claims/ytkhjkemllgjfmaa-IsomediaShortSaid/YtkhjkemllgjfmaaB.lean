/- The contracts of number, both. -/
import Derived.Test.YtkhjkemllgjfmaaA
namespace Go.Proofs.Ytkhjkemllgjfmaa
open Go.RowKit
set_option linter.unusedVariables false

set_option maxRecDepth 100000 in
set_option maxHeartbeats 1000000 in
theorem number_any (b o n c at' : Nat) (f : Nat → Int) (w : World) (hn : n ≤ 100000000) (h : ∀ i, i < n → w.cell? ⟨b, o + i, none⟩ = some (.int .u8 (f i))) (hb : ∀ i, i < n → 0 ≤ f i ∧ f i < 256) (ha : at' + 4 ≤ n) :
    Calls Try.prog 29 #[.slice (some ⟨b, o, none⟩) n c, .int .i64 (at' : Int)] w fun e w' => e = .returned (.int .i64 (numI f at')) ∧ w' = w.drew := by
  have c0 := h at' (by omega)
  have c1 := h (at' + 1) (by omega)
  have c2 := h (at' + 2) (by omega)
  have c3 := h (at' + 3) (by omega)
  have b0 := hb at' (by omega)
  have b1 := hb (at' + 1) (by omega)
  have b2 := hb (at' + 2) (by omega)
  have b3 := hb (at' + 3) (by omega)
  clear h hb
  go_enter Try.func29, Try.ntmps29
  go_wp2_with fail
  refine Plan.wp_region_plan (fun w' => w'.cell? ⟨b, o + at', none⟩ = some (.int .u8 (f at')) ∧ w'.cell? ⟨b, o + (at' + 1), none⟩ = some (.int .u8 (f (at' + 1))) ∧ w'.cell? ⟨b, o + (at' + 2), none⟩ = some (.int .u8 (f (at' + 2))) ∧ w'.cell? ⟨b, o + (at' + 3), none⟩ = some (.int .u8 (f (at' + 3)))) (([0, 1, 2, 3, 4, 5, 6, 7, 8, 9, 10, 11, 12, 13, 14, 15, 16, 17, 18, 19, 20, 21, 22, 23, 24, 25, 26, 27, 28, 29].map (·, true))) (by kernel_rfl) (by kernel_rfl) (by kernel_rfl) ⟨c0, c1, c2, c3⟩ ?_
  refine' Plan.plan_seg _ [0, 1, 2, 3, 4, 5, 6, 7, 8, 9, 10, 11, 12, 13, 14, 15, 16, 17, 18, 19, 20, 21, 22, 23, 24, 25, 26, 27, 28, 29] ([]) (by kernel_rfl) (by kernel_rfl) rfl (by exact ⟨c0, c1, c2, c3⟩) (fun wx hS => ?_) ?_
  rotate_left
  · obtain ⟨z0, z1, z2, z3⟩ := hS
    go_light
    iterate 30 (apply Plan.seg_pick; rfl; intro K hK; go_wp)
    exact Plan.seg_nil
  refine Plan.plan_done ?_
  go_wp2_with fail
  go_ret
  exact ⟨ret_i64 rfl, rfl⟩

set_option maxRecDepth 100000 in
set_option maxHeartbeats 1000000 in
theorem rnumber_any (b o n c at' : Nat) (f : Nat → Int) (w : World) (hn : n ≤ 100000000) (h : ∀ i, i < n → w.cell? ⟨b, o + i, none⟩ = some (.int .u8 (f i))) (hb : ∀ i, i < n → 0 ≤ f i ∧ f i < 256) (ha : at' + 4 ≤ n) :
    Calls Try.prog 30 #[.slice (some ⟨b, o, none⟩) n c, .int .i64 (at' : Int)] w fun e w' => e = .returned (.int .i64 (numI f at')) ∧ w' = w.drew := by
  have c0 := h at' (by omega)
  have c1 := h (at' + 1) (by omega)
  have c2 := h (at' + 2) (by omega)
  have c3 := h (at' + 3) (by omega)
  have b0 := hb at' (by omega)
  have b1 := hb (at' + 1) (by omega)
  have b2 := hb (at' + 2) (by omega)
  have b3 := hb (at' + 3) (by omega)
  clear h hb
  go_enter Try.func30, Try.ntmps30
  go_wp2_with fail
  refine Plan.wp_region_plan (fun w' => w'.cell? ⟨b, o + at', none⟩ = some (.int .u8 (f at')) ∧ w'.cell? ⟨b, o + (at' + 1), none⟩ = some (.int .u8 (f (at' + 1))) ∧ w'.cell? ⟨b, o + (at' + 2), none⟩ = some (.int .u8 (f (at' + 2))) ∧ w'.cell? ⟨b, o + (at' + 3), none⟩ = some (.int .u8 (f (at' + 3)))) (([0, 1, 2, 3, 4, 5, 6, 7, 8, 9, 10, 11, 12, 13, 14, 15, 16, 17, 18, 19, 20, 21, 22, 23, 24, 25, 26, 27, 28, 29].map (·, true))) (by kernel_rfl) (by kernel_rfl) (by kernel_rfl) ⟨c0, c1, c2, c3⟩ ?_
  refine' Plan.plan_seg _ [0, 1, 2, 3, 4, 5, 6, 7, 8, 9, 10, 11, 12, 13, 14, 15, 16, 17, 18, 19, 20, 21, 22, 23, 24, 25, 26, 27, 28, 29] ([]) (by kernel_rfl) (by kernel_rfl) rfl (by exact ⟨c0, c1, c2, c3⟩) (fun wx hS => ?_) ?_
  rotate_left
  · obtain ⟨z0, z1, z2, z3⟩ := hS
    go_light
    iterate 30 (apply Plan.seg_pick; rfl; intro K hK; go_wp)
    exact Plan.seg_nil
  refine Plan.plan_done ?_
  go_wp2_with fail
  go_ret
  exact ⟨ret_i64 rfl, rfl⟩

end Go.Proofs.Ytkhjkemllgjfmaa
