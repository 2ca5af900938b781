/- The contract of cutroomref26.planes. -/
import Derived.Test.YtnnobdcbmagbaaaE
namespace Go.Proofs.Ytnnobdcbmagbaaa
open Go.RowKit

set_option maxRecDepth 100000 in
set_option maxHeartbeats 2000000 in
theorem planes_any (W H : Int) (y u z : Value) (w : World) (hW : 0 ≤ W) (hW2 : W ≤ 64) (hH : 0 ≤ H) (hH2 : H ≤ 64) (hy : ∃ a n c, y = .slice a n c) (hu : ∃ a n c, u = .slice a n c) (hz : ∃ a n c, z = .slice a n c) :
    Calls Try.prog 43 #[.agg #[.int .i64 W, .int .i64 H, y, u, z]] w fun e w' => e = .returned (.tuple #[.agg #[y, u, z], .agg #[.int .i64 W, .int .i64 (W / 2), .int .i64 (W / 2)], .agg #[.int .i64 H, .int .i64 (H / 2), .int .i64 (H / 2)]]) ∧ Below w.heap.size w w' := by
  obtain ⟨a1, n1, c1, rfl⟩ := hy
  obtain ⟨a2, n2, c2, rfl⟩ := hu
  obtain ⟨a3, n3, c3, rfl⟩ := hz
  go_enter Try.func43, Try.ntmps43
  go_wp2
  refine Plan.wp_region_plan (fun w' => w'.cell? ⟨w.heap.size, 0, none⟩ = some (.int .i64 W) ∧ w'.cell? ⟨w.heap.size, 1, none⟩ = some (.int .i64 H) ∧ w'.cell? ⟨w.heap.size, 2, none⟩ = some (.slice a1 n1 c1) ∧ w'.cell? ⟨w.heap.size, 3, none⟩ = some (.slice a2 n2 c2) ∧ w'.cell? ⟨w.heap.size, 4, none⟩ = some (.slice a3 n3 c3)) (([0, 1, 2, 3, 4, 5, 6, 7, 8, 9, 10, 11, 12, 13, 14, 15, 16, 17, 18, 19, 20, 21, 22, 23, 24].map (·, true)) ++ (([25, 26, 27].map (·, false)))) (by kernel_rfl) (by kernel_rfl) (by kernel_rfl) ⟨by simp [go_sem], by simp [go_sem], by simp [go_sem], by simp [go_sem], by simp [go_sem]⟩ ?_
  refine' Plan.plan_seg _ [0, 1, 2, 3, 4, 5, 6, 7, 8, 9, 10, 11, 12, 13, 14, 15, 16, 17, 18, 19, 20, 21, 22, 23, 24] (([25, 26, 27].map (·, false))) (by kernel_rfl) (by kernel_rfl) rfl (by exact ⟨by simp [go_sem], by simp [go_sem], by simp [go_sem], by simp [go_sem], by simp [go_sem]⟩) (fun wx hS => ?_) ?_
  rotate_left
  · obtain ⟨s0, s1, s2, s3, s4⟩ := hS
    iterate 25 (apply Plan.seg_pick; rfl; intro K hK; go_wp)
    exact Plan.seg_nil
  refine Plan.plan_of_effect rfl (fun K hK => ?_)
  go_wp2_with fail
  refine ⟨⟨by simp [go_sem], by simp [go_sem], by simp [go_sem], by simp [go_sem], by simp [go_sem]⟩, ?_⟩
  refine Plan.plan_of_effect rfl (fun K hK => ?_)
  go_wp2_with fail
  refine ⟨⟨by simp [go_sem], by simp [go_sem], by simp [go_sem], by simp [go_sem], by simp [go_sem]⟩, ?_⟩
  refine Plan.plan_of_effect rfl (fun K hK => ?_)
  go_wp2_with fail
  refine ⟨⟨by simp [go_sem], by simp [go_sem], by simp [go_sem], by simp [go_sem], by simp [go_sem]⟩, ?_⟩
  refine Plan.plan_done ?_
  go_wp2_with fail
  refine bodyPost_ret (v := .tuple #[.agg #[.slice a1 n1 c1, .slice a2 n2 c2, .slice a3 n3 c3], .agg #[.int .i64 W, .int .i64 (W / 2), .int .i64 (W / 2)], .agg #[.int .i64 H, .int .i64 (H / 2), .int .i64 (H / 2)]]) (by simp [results, Try.results43, go_sem]) rfl ⟨rfl, by go_grown⟩

end Go.Proofs.Ytnnobdcbmagbaaa
