/- The contracts of denote.Valid, the stage's eval and Eval at the black expression. -/
import Derived.Test.YtnnobdcbmagbaaaL
namespace Go.Proofs.Ytnnobdcbmagbaaa
open Go.RowKit

def blackV : Value := .agg #[.int .i64 0, .string ByteArray.empty, .int .i64 0, .int .i64 0, .int .i64 0, .int .i64 0, .string ByteArray.empty, .slice none 0 0]

set_option maxRecDepth 100000 in
set_option maxHeartbeats 2000000 in
theorem validFields_black (w : World) : Calls Try.prog 71 #[blackV] w fun e w' => e = .returned (.bool true) ∧ Below w.heap.size w w' := by
  unfold blackV
  go_enter Try.func71, Try.ntmps71
  go_wp2
  refine Plan.wp_region_plan (fun w' => w'.cell? ⟨w.heap.size, 5, none⟩ = some (.int .i64 0) ∧ w'.cell? ⟨w.heap.size, 6, none⟩ = some (.string ByteArray.empty)) (([0, 1, 2, 3, 4, 5, 6, 7].map (·, true))) (by kernel_rfl) (by kernel_rfl) (by kernel_rfl) ⟨by simp [go_sem], by simp [go_sem]⟩ ?_
  refine' Plan.plan_seg _ [0, 1, 2, 3, 4, 5, 6, 7] ([]) (by kernel_rfl) (by kernel_rfl) rfl (by exact ⟨by simp [go_sem], by simp [go_sem]⟩) (fun wx hS => ?_) ?_
  rotate_left
  · obtain ⟨s0, s1⟩ := hS
    iterate 8 (apply Plan.seg_pick; rfl; intro K hK; go_wp)
    exact Plan.seg_nil
  refine Plan.plan_done ?_
  go_wp2
  go_ret
  exact ⟨rfl, by go_grown⟩

set_option maxRecDepth 100000 in
set_option maxHeartbeats 2000000 in
theorem dvalid_black (w : World) : Calls Try.prog 63 #[blackV] w fun e w' => e = .returned (.bool true) ∧ Below w.heap.size w w' := by
  unfold blackV
  go_enter Try.func63, Try.ntmps63
  go_wp2_with fail
  refine (validFields_black _).mono ?_
  rintro e w1 ⟨rfl, hb⟩
  have c7 : w1.cell? ⟨w.heap.size, 7, none⟩ = some (.slice none 0 0) := (hb.cell (by simp)).trans (by simp [go_sem])
  have W1 := (below_box w (.cells #[.int .i64 0, .string ByteArray.empty, .int .i64 0, .int .i64 0, .int .i64 0, .int .i64 0, .string ByteArray.empty, .slice none 0 0] 58)).trans (hb.mono (by simp))
  clear hb
  go_wp2_with fail
  refine wp_loop_rounds 1 ?_
  rw [rounds_succ]
  go_wp2_with fail
  go_ret
  exact ⟨rfl, W1⟩

end Go.Proofs.Ytnnobdcbmagbaaa
