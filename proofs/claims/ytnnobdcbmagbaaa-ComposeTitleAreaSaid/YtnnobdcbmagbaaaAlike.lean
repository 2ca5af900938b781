/- The contracts of Alike (at two frames) and pair. -/
import Derived.Test.YtnnobdcbmagbaaaC
import Derived.Test.YtnnobdcbmagbaaaPlan
import Derived.Test.YtnnobdcbmagbaaaE
import Derived.Deep.Light
namespace Go.Proofs.Ytnnobdcbmagbaaa
open Go.RowKit

set_option maxRecDepth 100000 in
set_option maxHeartbeats 2000000 in
theorem alike_n (b : Nat) (F G : Fr) (y u z y' u' z' : Value) (w : World) (hF : FA w (.agg #[.int .i64 F.W, .int .i64 F.H, y, u, z]) F) (hG : FA w (.agg #[.int .i64 G.W, .int .i64 G.H, y', u', z']) G)
    (hb : w.heap[b]? = some (.cells #[.int .i64 F.W, .int .i64 F.H, y, u, z, .int .i64 G.W, .int .i64 G.H, y', u', z'] 26 (0, 0))) (h1 : F.ok = false) :
    Calls Try.prog 70 #[.slice (some ⟨b, 0, none⟩) 2 2] w fun e w' => e = .returned (.bool false) ∧ Below w.heap.size w w' := by
  have H1 := Lib.hid h1
  clear h1
  have HF := Lib.hid hF
  have HG := Lib.hid hG

  have hbl : b < w.heap.size := (Array.getElem?_eq_some_iff.1 hb).1
  have hc := fun j => cell_of_row w b j _ _ _ hb
  have c0 := hc 0
  have c1 := hc 1
  have c2 := hc 2
  have c3 := hc 3
  have c4 := hc 4
  have c5 := hc 5
  have c6 := hc 6
  have c7 := hc 7
  have c8 := hc 8
  have c9 := hc 9
  simp at c0 c1 c2 c3 c4 c5 c6 c7 c8 c9
  clear hF hG hc hb
  go_enter Try.func70, Try.ntmps70
  go_wp2_with fail
  refine wp_loop_rounds 3 ?_
  rw [rounds_succ]
  go_wp2_with fail
  refine Plan.wp_region_plan (fun w' => Below w.heap.size w w') (([0, 1, 2, 3].map (·, true)) ++ (([4].map (·, false)) ++ (([5, 6, 7, 8, 9, 10, 11, 12, 13, 14, 15, 16, 17, 18, 19, 20, 21, 22, 23, 24, 25, 26, 27, 28, 29].map (·, true))))) (by kernel_rfl) (by kernel_rfl) (by kernel_rfl) ((Below.refl w.heap.size w).drew) ?_
  refine' Plan.plan_seg _ [0, 1, 2, 3] (([4].map (·, false)) ++ (([5, 6, 7, 8, 9, 10, 11, 12, 13, 14, 15, 16, 17, 18, 19, 20, 21, 22, 23, 24, 25, 26, 27, 28, 29].map (·, true)))) (by kernel_rfl) (by kernel_rfl) rfl (by exact ((Below.refl w.heap.size w).drew)) (fun wx hS => ?_) ?_
  rotate_left
  · have d0 := (hS.cell (p := ⟨b, 0, none⟩) hbl).trans c0
    have d1 := (hS.cell (p := ⟨b, 1, none⟩) hbl).trans c1
    have d2 := (hS.cell (p := ⟨b, 2, none⟩) hbl).trans c2
    have d3 := (hS.cell (p := ⟨b, 3, none⟩) hbl).trans c3
    have d4 := (hS.cell (p := ⟨b, 4, none⟩) hbl).trans c4
    clear hS
    go_light
    iterate 4 (apply Plan.seg_pick; rfl; intro K hK; go_wp)
    exact Plan.seg_nil
  refine Plan.plan_of_effect rfl (fun K hK => ?_)
  go_wp2_with fail
  refine (r20valid_any _ F _ (HF.out.below ((Below.refl w.heap.size w).drew))).mono ?_
  rintro e wz ⟨rfl, hwz⟩
  rw [H1.out]
  have S1 : RowKit.Hid (Below w.heap.size w wz) := by rw [← hwz]; exact ((Below.refl w.heap.size w).drew).trans ((below_box _ _).mono (((Below.refl w.heap.size w).drew).size))
  clear hwz
  go_wp2_with fail
  refine ⟨S1.out, ?_⟩
  refine' Plan.plan_seg _ [5, 6, 7, 8, 9, 10, 11, 12, 13, 14, 15, 16, 17, 18, 19, 20, 21, 22, 23, 24, 25, 26, 27, 28, 29] [] (by kernel_rfl) (by kernel_rfl) rfl (by exact S1.out) (fun wx hS => ?_) ?_
  rotate_left
  · have d0 := (hS.cell (p := ⟨b, 0, none⟩) hbl).trans c0
    have d1 := (hS.cell (p := ⟨b, 1, none⟩) hbl).trans c1
    clear hS
    go_light
    iterate 25 (apply Plan.seg_pick; rfl; intro K hK; go_wp)
    exact Plan.seg_nil
  refine Plan.plan_done ?_
  go_wp2_with fail
  go_ret
  exact ⟨rfl, S1.out⟩

set_option maxRecDepth 100000 in
set_option maxHeartbeats 2000000 in
theorem alike_yn (b : Nat) (F G : Fr) (y u z y' u' z' : Value) (w : World) (hF : FA w (.agg #[.int .i64 F.W, .int .i64 F.H, y, u, z]) F) (hG : FA w (.agg #[.int .i64 G.W, .int .i64 G.H, y', u', z']) G)
    (hb : w.heap[b]? = some (.cells #[.int .i64 F.W, .int .i64 F.H, y, u, z, .int .i64 G.W, .int .i64 G.H, y', u', z'] 26 (0, 0))) (h1 : F.ok = true) (h2 : G.ok = false) :
    Calls Try.prog 70 #[.slice (some ⟨b, 0, none⟩) 2 2] w fun e w' => e = .returned (.bool false) ∧ Below w.heap.size w w' := by
  have H1 := Lib.hid h1
  clear h1
  have H2 := Lib.hid h2
  clear h2
  have HF := Lib.hid hF
  have HG := Lib.hid hG

  have hbl : b < w.heap.size := (Array.getElem?_eq_some_iff.1 hb).1
  have hc := fun j => cell_of_row w b j _ _ _ hb
  have c0 := hc 0
  have c1 := hc 1
  have c2 := hc 2
  have c3 := hc 3
  have c4 := hc 4
  have c5 := hc 5
  have c6 := hc 6
  have c7 := hc 7
  have c8 := hc 8
  have c9 := hc 9
  simp at c0 c1 c2 c3 c4 c5 c6 c7 c8 c9
  clear hF hG hc hb
  go_enter Try.func70, Try.ntmps70
  go_wp2_with fail
  refine wp_loop_rounds 3 ?_
  rw [rounds_succ]
  go_wp2_with fail
  refine Plan.wp_region_plan (fun w' => Below w.heap.size w w') (([0, 1, 2, 3].map (·, true)) ++ (([4].map (·, false)) ++ (([5, 6, 7, 8, 9, 10, 11, 12, 13, 14, 15, 16, 17, 18, 19, 20, 21, 22, 23, 24, 25, 26, 27, 28, 29].map (·, true))))) (by kernel_rfl) (by kernel_rfl) (by kernel_rfl) ((Below.refl w.heap.size w).drew) ?_
  refine' Plan.plan_seg _ [0, 1, 2, 3] (([4].map (·, false)) ++ (([5, 6, 7, 8, 9, 10, 11, 12, 13, 14, 15, 16, 17, 18, 19, 20, 21, 22, 23, 24, 25, 26, 27, 28, 29].map (·, true)))) (by kernel_rfl) (by kernel_rfl) rfl (by exact ((Below.refl w.heap.size w).drew)) (fun wx hS => ?_) ?_
  rotate_left
  · have d0 := (hS.cell (p := ⟨b, 0, none⟩) hbl).trans c0
    have d1 := (hS.cell (p := ⟨b, 1, none⟩) hbl).trans c1
    have d2 := (hS.cell (p := ⟨b, 2, none⟩) hbl).trans c2
    have d3 := (hS.cell (p := ⟨b, 3, none⟩) hbl).trans c3
    have d4 := (hS.cell (p := ⟨b, 4, none⟩) hbl).trans c4
    clear hS
    go_light
    iterate 4 (apply Plan.seg_pick; rfl; intro K hK; go_wp)
    exact Plan.seg_nil
  refine Plan.plan_of_effect rfl (fun K hK => ?_)
  go_wp2_with fail
  refine (r20valid_any _ F _ (HF.out.below ((Below.refl w.heap.size w).drew))).mono ?_
  rintro e wz ⟨rfl, hwz⟩
  rw [H1.out]
  have S1 : RowKit.Hid (Below w.heap.size w wz) := by rw [← hwz]; exact ((Below.refl w.heap.size w).drew).trans ((below_box _ _).mono (((Below.refl w.heap.size w).drew).size))
  clear hwz
  go_wp2_with fail
  refine ⟨S1.out, ?_⟩
  refine' Plan.plan_seg _ [5, 6, 7, 8, 9, 10, 11, 12, 13, 14, 15, 16, 17, 18, 19, 20, 21, 22, 23, 24, 25, 26, 27, 28, 29] [] (by kernel_rfl) (by kernel_rfl) rfl (by exact S1.out) (fun wx hS => ?_) ?_
  rotate_left
  · have d0 := (hS.cell (p := ⟨b, 0, none⟩) hbl).trans c0
    have d1 := (hS.cell (p := ⟨b, 1, none⟩) hbl).trans c1
    clear hS
    go_light
    iterate 25 (apply Plan.seg_pick; rfl; intro K hK; go_wp)
    exact Plan.seg_nil
  refine Plan.plan_done ?_
  go_wp2_with fail
  rw [rounds_succ]
  go_wp2_with fail
  refine Plan.wp_region_plan (fun w' => Below w.heap.size w w') (([0, 1, 2, 3].map (·, true)) ++ (([4].map (·, false)) ++ (([5, 6, 7, 8, 9, 10, 11, 12, 13, 14, 15, 16, 17, 18, 19, 20, 21, 22, 23, 24, 25, 26, 27, 28, 29].map (·, true))))) (by kernel_rfl) (by kernel_rfl) (by kernel_rfl) (S1.out.drew) ?_
  refine' Plan.plan_seg _ [0, 1, 2, 3] (([4].map (·, false)) ++ (([5, 6, 7, 8, 9, 10, 11, 12, 13, 14, 15, 16, 17, 18, 19, 20, 21, 22, 23, 24, 25, 26, 27, 28, 29].map (·, true)))) (by kernel_rfl) (by kernel_rfl) rfl (by exact (S1.out.drew)) (fun wx hS => ?_) ?_
  rotate_left
  · have d5 := (hS.cell (p := ⟨b, 5, none⟩) hbl).trans c5
    have d6 := (hS.cell (p := ⟨b, 6, none⟩) hbl).trans c6
    have d7 := (hS.cell (p := ⟨b, 7, none⟩) hbl).trans c7
    have d8 := (hS.cell (p := ⟨b, 8, none⟩) hbl).trans c8
    have d9 := (hS.cell (p := ⟨b, 9, none⟩) hbl).trans c9
    clear hS
    go_light
    iterate 4 (apply Plan.seg_pick; rfl; intro K hK; go_wp)
    exact Plan.seg_nil
  refine Plan.plan_of_effect rfl (fun K hK => ?_)
  go_wp2_with fail
  refine (r20valid_any _ G _ (HG.out.below (S1.out.drew))).mono ?_
  rintro e wz ⟨rfl, hwz⟩
  rw [H2.out]
  have S2 : RowKit.Hid (Below w.heap.size w wz) := by rw [← hwz]; exact (S1.out.drew).trans ((below_box _ _).mono ((S1.out.drew).size))
  clear hwz
  go_wp2_with fail
  refine ⟨S2.out, ?_⟩
  refine' Plan.plan_seg _ [5, 6, 7, 8, 9, 10, 11, 12, 13, 14, 15, 16, 17, 18, 19, 20, 21, 22, 23, 24, 25, 26, 27, 28, 29] [] (by kernel_rfl) (by kernel_rfl) rfl (by exact S2.out) (fun wx hS => ?_) ?_
  rotate_left
  · have d0 := (hS.cell (p := ⟨b, 0, none⟩) hbl).trans c0
    have d1 := (hS.cell (p := ⟨b, 1, none⟩) hbl).trans c1
    have d5 := (hS.cell (p := ⟨b, 5, none⟩) hbl).trans c5
    have d6 := (hS.cell (p := ⟨b, 6, none⟩) hbl).trans c6
    clear hS
    go_light
    iterate 25 (apply Plan.seg_pick; rfl; intro K hK; go_wp)
    exact Plan.seg_nil
  refine Plan.plan_done ?_
  go_wp2_with fail
  go_ret
  exact ⟨rfl, S2.out⟩

set_option maxRecDepth 100000 in
set_option maxHeartbeats 2000000 in
theorem alike_w (b : Nat) (F G : Fr) (y u z y' u' z' : Value) (w : World) (hF : FA w (.agg #[.int .i64 F.W, .int .i64 F.H, y, u, z]) F) (hG : FA w (.agg #[.int .i64 G.W, .int .i64 G.H, y', u', z']) G)
    (hb : w.heap[b]? = some (.cells #[.int .i64 F.W, .int .i64 F.H, y, u, z, .int .i64 G.W, .int .i64 G.H, y', u', z'] 26 (0, 0))) (h1 : F.ok = true) (h2 : G.ok = true) (h3 : F.W ≠ G.W) :
    Calls Try.prog 70 #[.slice (some ⟨b, 0, none⟩) 2 2] w fun e w' => e = .returned (.bool false) ∧ Below w.heap.size w w' := by
  have H1 := Lib.hid h1
  clear h1
  have H2 := Lib.hid h2
  clear h2
  have HF := Lib.hid hF
  have HG := Lib.hid hG
  have hW : (G.W != F.W) = true := by simp [Ne.symm h3]
  clear h3
  have hbl : b < w.heap.size := (Array.getElem?_eq_some_iff.1 hb).1
  have hc := fun j => cell_of_row w b j _ _ _ hb
  have c0 := hc 0
  have c1 := hc 1
  have c2 := hc 2
  have c3 := hc 3
  have c4 := hc 4
  have c5 := hc 5
  have c6 := hc 6
  have c7 := hc 7
  have c8 := hc 8
  have c9 := hc 9
  simp at c0 c1 c2 c3 c4 c5 c6 c7 c8 c9
  clear hF hG hc hb
  go_enter Try.func70, Try.ntmps70
  go_wp2_with fail
  refine wp_loop_rounds 3 ?_
  rw [rounds_succ]
  go_wp2_with fail
  refine Plan.wp_region_plan (fun w' => Below w.heap.size w w') (([0, 1, 2, 3].map (·, true)) ++ (([4].map (·, false)) ++ (([5, 6, 7, 8, 9, 10, 11, 12, 13, 14, 15, 16, 17, 18, 19, 20, 21, 22, 23, 24, 25, 26, 27, 28, 29].map (·, true))))) (by kernel_rfl) (by kernel_rfl) (by kernel_rfl) ((Below.refl w.heap.size w).drew) ?_
  refine' Plan.plan_seg _ [0, 1, 2, 3] (([4].map (·, false)) ++ (([5, 6, 7, 8, 9, 10, 11, 12, 13, 14, 15, 16, 17, 18, 19, 20, 21, 22, 23, 24, 25, 26, 27, 28, 29].map (·, true)))) (by kernel_rfl) (by kernel_rfl) rfl (by exact ((Below.refl w.heap.size w).drew)) (fun wx hS => ?_) ?_
  rotate_left
  · have d0 := (hS.cell (p := ⟨b, 0, none⟩) hbl).trans c0
    have d1 := (hS.cell (p := ⟨b, 1, none⟩) hbl).trans c1
    have d2 := (hS.cell (p := ⟨b, 2, none⟩) hbl).trans c2
    have d3 := (hS.cell (p := ⟨b, 3, none⟩) hbl).trans c3
    have d4 := (hS.cell (p := ⟨b, 4, none⟩) hbl).trans c4
    clear hS
    go_light
    iterate 4 (apply Plan.seg_pick; rfl; intro K hK; go_wp)
    exact Plan.seg_nil
  refine Plan.plan_of_effect rfl (fun K hK => ?_)
  go_wp2_with fail
  refine (r20valid_any _ F _ (HF.out.below ((Below.refl w.heap.size w).drew))).mono ?_
  rintro e wz ⟨rfl, hwz⟩
  rw [H1.out]
  have S1 : RowKit.Hid (Below w.heap.size w wz) := by rw [← hwz]; exact ((Below.refl w.heap.size w).drew).trans ((below_box _ _).mono (((Below.refl w.heap.size w).drew).size))
  clear hwz
  go_wp2_with fail
  refine ⟨S1.out, ?_⟩
  refine' Plan.plan_seg _ [5, 6, 7, 8, 9, 10, 11, 12, 13, 14, 15, 16, 17, 18, 19, 20, 21, 22, 23, 24, 25, 26, 27, 28, 29] [] (by kernel_rfl) (by kernel_rfl) rfl (by exact S1.out) (fun wx hS => ?_) ?_
  rotate_left
  · have d0 := (hS.cell (p := ⟨b, 0, none⟩) hbl).trans c0
    have d1 := (hS.cell (p := ⟨b, 1, none⟩) hbl).trans c1
    clear hS
    go_light
    iterate 25 (apply Plan.seg_pick; rfl; intro K hK; go_wp)
    exact Plan.seg_nil
  refine Plan.plan_done ?_
  go_wp2_with fail
  rw [rounds_succ]
  go_wp2_with fail
  refine Plan.wp_region_plan (fun w' => Below w.heap.size w w') (([0, 1, 2, 3].map (·, true)) ++ (([4].map (·, false)) ++ (([5, 6, 7, 8, 9, 10, 11, 12, 13, 14, 15, 16, 17, 18, 19, 20, 21, 22, 23, 24, 25, 26, 27, 28, 29].map (·, true))))) (by kernel_rfl) (by kernel_rfl) (by kernel_rfl) (S1.out.drew) ?_
  refine' Plan.plan_seg _ [0, 1, 2, 3] (([4].map (·, false)) ++ (([5, 6, 7, 8, 9, 10, 11, 12, 13, 14, 15, 16, 17, 18, 19, 20, 21, 22, 23, 24, 25, 26, 27, 28, 29].map (·, true)))) (by kernel_rfl) (by kernel_rfl) rfl (by exact (S1.out.drew)) (fun wx hS => ?_) ?_
  rotate_left
  · have d5 := (hS.cell (p := ⟨b, 5, none⟩) hbl).trans c5
    have d6 := (hS.cell (p := ⟨b, 6, none⟩) hbl).trans c6
    have d7 := (hS.cell (p := ⟨b, 7, none⟩) hbl).trans c7
    have d8 := (hS.cell (p := ⟨b, 8, none⟩) hbl).trans c8
    have d9 := (hS.cell (p := ⟨b, 9, none⟩) hbl).trans c9
    clear hS
    go_light
    iterate 4 (apply Plan.seg_pick; rfl; intro K hK; go_wp)
    exact Plan.seg_nil
  refine Plan.plan_of_effect rfl (fun K hK => ?_)
  go_wp2_with fail
  refine (r20valid_any _ G _ (HG.out.below (S1.out.drew))).mono ?_
  rintro e wz ⟨rfl, hwz⟩
  rw [H2.out]
  have S2 : RowKit.Hid (Below w.heap.size w wz) := by rw [← hwz]; exact (S1.out.drew).trans ((below_box _ _).mono ((S1.out.drew).size))
  clear hwz
  go_wp2_with fail
  refine ⟨S2.out, ?_⟩
  refine' Plan.plan_seg _ [5, 6, 7, 8, 9, 10, 11, 12, 13, 14, 15, 16, 17, 18, 19, 20, 21, 22, 23, 24, 25, 26, 27, 28, 29] [] (by kernel_rfl) (by kernel_rfl) rfl (by exact S2.out) (fun wx hS => ?_) ?_
  rotate_left
  · have d0 := (hS.cell (p := ⟨b, 0, none⟩) hbl).trans c0
    have d1 := (hS.cell (p := ⟨b, 1, none⟩) hbl).trans c1
    have d5 := (hS.cell (p := ⟨b, 5, none⟩) hbl).trans c5
    have d6 := (hS.cell (p := ⟨b, 6, none⟩) hbl).trans c6
    clear hS
    go_light
    iterate 25 (apply Plan.seg_pick; rfl; intro K hK; go_wp)
    exact Plan.seg_nil
  refine Plan.plan_done ?_
  go_wp2_with fail
  go_ret
  exact ⟨rfl, S2.out⟩

set_option maxRecDepth 100000 in
set_option maxHeartbeats 2000000 in
theorem alike_h (b : Nat) (F G : Fr) (y u z y' u' z' : Value) (w : World) (hF : FA w (.agg #[.int .i64 F.W, .int .i64 F.H, y, u, z]) F) (hG : FA w (.agg #[.int .i64 G.W, .int .i64 G.H, y', u', z']) G)
    (hb : w.heap[b]? = some (.cells #[.int .i64 F.W, .int .i64 F.H, y, u, z, .int .i64 G.W, .int .i64 G.H, y', u', z'] 26 (0, 0))) (h1 : F.ok = true) (h2 : G.ok = true) (h3 : F.W = G.W) (h4 : F.H ≠ G.H) :
    Calls Try.prog 70 #[.slice (some ⟨b, 0, none⟩) 2 2] w fun e w' => e = .returned (.bool false) ∧ Below w.heap.size w w' := by
  have H1 := Lib.hid h1
  clear h1
  have H2 := Lib.hid h2
  clear h2
  have HF := Lib.hid hF
  have HG := Lib.hid hG
  have hW : (G.W != F.W) = false := by simp [h3]
  have hH : (G.H != F.H) = true := by simp [Ne.symm h4]
  clear h3 h4
  have hbl : b < w.heap.size := (Array.getElem?_eq_some_iff.1 hb).1
  have hc := fun j => cell_of_row w b j _ _ _ hb
  have c0 := hc 0
  have c1 := hc 1
  have c2 := hc 2
  have c3 := hc 3
  have c4 := hc 4
  have c5 := hc 5
  have c6 := hc 6
  have c7 := hc 7
  have c8 := hc 8
  have c9 := hc 9
  simp at c0 c1 c2 c3 c4 c5 c6 c7 c8 c9
  clear hF hG hc hb
  go_enter Try.func70, Try.ntmps70
  go_wp2_with fail
  refine wp_loop_rounds 3 ?_
  rw [rounds_succ]
  go_wp2_with fail
  refine Plan.wp_region_plan (fun w' => Below w.heap.size w w') (([0, 1, 2, 3].map (·, true)) ++ (([4].map (·, false)) ++ (([5, 6, 7, 8, 9, 10, 11, 12, 13, 14, 15, 16, 17, 18, 19, 20, 21, 22, 23, 24, 25, 26, 27, 28, 29].map (·, true))))) (by kernel_rfl) (by kernel_rfl) (by kernel_rfl) ((Below.refl w.heap.size w).drew) ?_
  refine' Plan.plan_seg _ [0, 1, 2, 3] (([4].map (·, false)) ++ (([5, 6, 7, 8, 9, 10, 11, 12, 13, 14, 15, 16, 17, 18, 19, 20, 21, 22, 23, 24, 25, 26, 27, 28, 29].map (·, true)))) (by kernel_rfl) (by kernel_rfl) rfl (by exact ((Below.refl w.heap.size w).drew)) (fun wx hS => ?_) ?_
  rotate_left
  · have d0 := (hS.cell (p := ⟨b, 0, none⟩) hbl).trans c0
    have d1 := (hS.cell (p := ⟨b, 1, none⟩) hbl).trans c1
    have d2 := (hS.cell (p := ⟨b, 2, none⟩) hbl).trans c2
    have d3 := (hS.cell (p := ⟨b, 3, none⟩) hbl).trans c3
    have d4 := (hS.cell (p := ⟨b, 4, none⟩) hbl).trans c4
    clear hS
    go_light
    iterate 4 (apply Plan.seg_pick; rfl; intro K hK; go_wp)
    exact Plan.seg_nil
  refine Plan.plan_of_effect rfl (fun K hK => ?_)
  go_wp2_with fail
  refine (r20valid_any _ F _ (HF.out.below ((Below.refl w.heap.size w).drew))).mono ?_
  rintro e wz ⟨rfl, hwz⟩
  rw [H1.out]
  have S1 : RowKit.Hid (Below w.heap.size w wz) := by rw [← hwz]; exact ((Below.refl w.heap.size w).drew).trans ((below_box _ _).mono (((Below.refl w.heap.size w).drew).size))
  clear hwz
  go_wp2_with fail
  refine ⟨S1.out, ?_⟩
  refine' Plan.plan_seg _ [5, 6, 7, 8, 9, 10, 11, 12, 13, 14, 15, 16, 17, 18, 19, 20, 21, 22, 23, 24, 25, 26, 27, 28, 29] [] (by kernel_rfl) (by kernel_rfl) rfl (by exact S1.out) (fun wx hS => ?_) ?_
  rotate_left
  · have d0 := (hS.cell (p := ⟨b, 0, none⟩) hbl).trans c0
    have d1 := (hS.cell (p := ⟨b, 1, none⟩) hbl).trans c1
    clear hS
    go_light
    iterate 25 (apply Plan.seg_pick; rfl; intro K hK; go_wp)
    exact Plan.seg_nil
  refine Plan.plan_done ?_
  go_wp2_with fail
  rw [rounds_succ]
  go_wp2_with fail
  refine Plan.wp_region_plan (fun w' => Below w.heap.size w w') (([0, 1, 2, 3].map (·, true)) ++ (([4].map (·, false)) ++ (([5, 6, 7, 8, 9, 10, 11, 12, 13, 14, 15, 16, 17, 18, 19, 20, 21, 22, 23, 24, 25, 26, 27, 28, 29].map (·, true))))) (by kernel_rfl) (by kernel_rfl) (by kernel_rfl) (S1.out.drew) ?_
  refine' Plan.plan_seg _ [0, 1, 2, 3] (([4].map (·, false)) ++ (([5, 6, 7, 8, 9, 10, 11, 12, 13, 14, 15, 16, 17, 18, 19, 20, 21, 22, 23, 24, 25, 26, 27, 28, 29].map (·, true)))) (by kernel_rfl) (by kernel_rfl) rfl (by exact (S1.out.drew)) (fun wx hS => ?_) ?_
  rotate_left
  · have d5 := (hS.cell (p := ⟨b, 5, none⟩) hbl).trans c5
    have d6 := (hS.cell (p := ⟨b, 6, none⟩) hbl).trans c6
    have d7 := (hS.cell (p := ⟨b, 7, none⟩) hbl).trans c7
    have d8 := (hS.cell (p := ⟨b, 8, none⟩) hbl).trans c8
    have d9 := (hS.cell (p := ⟨b, 9, none⟩) hbl).trans c9
    clear hS
    go_light
    iterate 4 (apply Plan.seg_pick; rfl; intro K hK; go_wp)
    exact Plan.seg_nil
  refine Plan.plan_of_effect rfl (fun K hK => ?_)
  go_wp2_with fail
  refine (r20valid_any _ G _ (HG.out.below (S1.out.drew))).mono ?_
  rintro e wz ⟨rfl, hwz⟩
  rw [H2.out]
  have S2 : RowKit.Hid (Below w.heap.size w wz) := by rw [← hwz]; exact (S1.out.drew).trans ((below_box _ _).mono ((S1.out.drew).size))
  clear hwz
  go_wp2_with fail
  refine ⟨S2.out, ?_⟩
  refine' Plan.plan_seg _ [5, 6, 7, 8, 9, 10, 11, 12, 13, 14, 15, 16, 17, 18, 19, 20, 21, 22, 23, 24, 25, 26, 27, 28, 29] [] (by kernel_rfl) (by kernel_rfl) rfl (by exact S2.out) (fun wx hS => ?_) ?_
  rotate_left
  · have d0 := (hS.cell (p := ⟨b, 0, none⟩) hbl).trans c0
    have d1 := (hS.cell (p := ⟨b, 1, none⟩) hbl).trans c1
    have d5 := (hS.cell (p := ⟨b, 5, none⟩) hbl).trans c5
    have d6 := (hS.cell (p := ⟨b, 6, none⟩) hbl).trans c6
    clear hS
    go_light
    iterate 25 (apply Plan.seg_pick; rfl; intro K hK; go_wp)
    exact Plan.seg_nil
  refine Plan.plan_done ?_
  go_wp2_with fail
  go_ret
  exact ⟨rfl, S2.out⟩

set_option maxRecDepth 100000 in
set_option maxHeartbeats 2000000 in
theorem alike_yy (b : Nat) (F G : Fr) (y u z y' u' z' : Value) (w : World) (hF : FA w (.agg #[.int .i64 F.W, .int .i64 F.H, y, u, z]) F) (hG : FA w (.agg #[.int .i64 G.W, .int .i64 G.H, y', u', z']) G)
    (hb : w.heap[b]? = some (.cells #[.int .i64 F.W, .int .i64 F.H, y, u, z, .int .i64 G.W, .int .i64 G.H, y', u', z'] 26 (0, 0))) (h1 : F.ok = true) (h2 : G.ok = true) (h3 : F.W = G.W) (h4 : F.H = G.H) :
    Calls Try.prog 70 #[.slice (some ⟨b, 0, none⟩) 2 2] w fun e w' => e = .returned (.bool true) ∧ Below w.heap.size w w' := by
  have H1 := Lib.hid h1
  clear h1
  have H2 := Lib.hid h2
  clear h2
  have HF := Lib.hid hF
  have HG := Lib.hid hG
  have hW : (G.W != F.W) = false := by simp [h3]
  have hH : (G.H != F.H) = false := by simp [h4]
  clear h3 h4
  have hbl : b < w.heap.size := (Array.getElem?_eq_some_iff.1 hb).1
  have hc := fun j => cell_of_row w b j _ _ _ hb
  have c0 := hc 0
  have c1 := hc 1
  have c2 := hc 2
  have c3 := hc 3
  have c4 := hc 4
  have c5 := hc 5
  have c6 := hc 6
  have c7 := hc 7
  have c8 := hc 8
  have c9 := hc 9
  simp at c0 c1 c2 c3 c4 c5 c6 c7 c8 c9
  clear hF hG hc hb
  go_enter Try.func70, Try.ntmps70
  go_wp2_with fail
  refine wp_loop_rounds 3 ?_
  rw [rounds_succ]
  go_wp2_with fail
  refine Plan.wp_region_plan (fun w' => Below w.heap.size w w') (([0, 1, 2, 3].map (·, true)) ++ (([4].map (·, false)) ++ (([5, 6, 7, 8, 9, 10, 11, 12, 13, 14, 15, 16, 17, 18, 19, 20, 21, 22, 23, 24, 25, 26, 27, 28, 29].map (·, true))))) (by kernel_rfl) (by kernel_rfl) (by kernel_rfl) ((Below.refl w.heap.size w).drew) ?_
  refine' Plan.plan_seg _ [0, 1, 2, 3] (([4].map (·, false)) ++ (([5, 6, 7, 8, 9, 10, 11, 12, 13, 14, 15, 16, 17, 18, 19, 20, 21, 22, 23, 24, 25, 26, 27, 28, 29].map (·, true)))) (by kernel_rfl) (by kernel_rfl) rfl (by exact ((Below.refl w.heap.size w).drew)) (fun wx hS => ?_) ?_
  rotate_left
  · have d0 := (hS.cell (p := ⟨b, 0, none⟩) hbl).trans c0
    have d1 := (hS.cell (p := ⟨b, 1, none⟩) hbl).trans c1
    have d2 := (hS.cell (p := ⟨b, 2, none⟩) hbl).trans c2
    have d3 := (hS.cell (p := ⟨b, 3, none⟩) hbl).trans c3
    have d4 := (hS.cell (p := ⟨b, 4, none⟩) hbl).trans c4
    clear hS
    go_light
    iterate 4 (apply Plan.seg_pick; rfl; intro K hK; go_wp)
    exact Plan.seg_nil
  refine Plan.plan_of_effect rfl (fun K hK => ?_)
  go_wp2_with fail
  refine (r20valid_any _ F _ (HF.out.below ((Below.refl w.heap.size w).drew))).mono ?_
  rintro e wz ⟨rfl, hwz⟩
  rw [H1.out]
  have S1 : RowKit.Hid (Below w.heap.size w wz) := by rw [← hwz]; exact ((Below.refl w.heap.size w).drew).trans ((below_box _ _).mono (((Below.refl w.heap.size w).drew).size))
  clear hwz
  go_wp2_with fail
  refine ⟨S1.out, ?_⟩
  refine' Plan.plan_seg _ [5, 6, 7, 8, 9, 10, 11, 12, 13, 14, 15, 16, 17, 18, 19, 20, 21, 22, 23, 24, 25, 26, 27, 28, 29] [] (by kernel_rfl) (by kernel_rfl) rfl (by exact S1.out) (fun wx hS => ?_) ?_
  rotate_left
  · have d0 := (hS.cell (p := ⟨b, 0, none⟩) hbl).trans c0
    have d1 := (hS.cell (p := ⟨b, 1, none⟩) hbl).trans c1
    clear hS
    go_light
    iterate 25 (apply Plan.seg_pick; rfl; intro K hK; go_wp)
    exact Plan.seg_nil
  refine Plan.plan_done ?_
  go_wp2_with fail
  rw [rounds_succ]
  go_wp2_with fail
  refine Plan.wp_region_plan (fun w' => Below w.heap.size w w') (([0, 1, 2, 3].map (·, true)) ++ (([4].map (·, false)) ++ (([5, 6, 7, 8, 9, 10, 11, 12, 13, 14, 15, 16, 17, 18, 19, 20, 21, 22, 23, 24, 25, 26, 27, 28, 29].map (·, true))))) (by kernel_rfl) (by kernel_rfl) (by kernel_rfl) (S1.out.drew) ?_
  refine' Plan.plan_seg _ [0, 1, 2, 3] (([4].map (·, false)) ++ (([5, 6, 7, 8, 9, 10, 11, 12, 13, 14, 15, 16, 17, 18, 19, 20, 21, 22, 23, 24, 25, 26, 27, 28, 29].map (·, true)))) (by kernel_rfl) (by kernel_rfl) rfl (by exact (S1.out.drew)) (fun wx hS => ?_) ?_
  rotate_left
  · have d5 := (hS.cell (p := ⟨b, 5, none⟩) hbl).trans c5
    have d6 := (hS.cell (p := ⟨b, 6, none⟩) hbl).trans c6
    have d7 := (hS.cell (p := ⟨b, 7, none⟩) hbl).trans c7
    have d8 := (hS.cell (p := ⟨b, 8, none⟩) hbl).trans c8
    have d9 := (hS.cell (p := ⟨b, 9, none⟩) hbl).trans c9
    clear hS
    go_light
    iterate 4 (apply Plan.seg_pick; rfl; intro K hK; go_wp)
    exact Plan.seg_nil
  refine Plan.plan_of_effect rfl (fun K hK => ?_)
  go_wp2_with fail
  refine (r20valid_any _ G _ (HG.out.below (S1.out.drew))).mono ?_
  rintro e wz ⟨rfl, hwz⟩
  rw [H2.out]
  have S2 : RowKit.Hid (Below w.heap.size w wz) := by rw [← hwz]; exact (S1.out.drew).trans ((below_box _ _).mono ((S1.out.drew).size))
  clear hwz
  go_wp2_with fail
  refine ⟨S2.out, ?_⟩
  refine' Plan.plan_seg _ [5, 6, 7, 8, 9, 10, 11, 12, 13, 14, 15, 16, 17, 18, 19, 20, 21, 22, 23, 24, 25, 26, 27, 28, 29] [] (by kernel_rfl) (by kernel_rfl) rfl (by exact S2.out) (fun wx hS => ?_) ?_
  rotate_left
  · have d0 := (hS.cell (p := ⟨b, 0, none⟩) hbl).trans c0
    have d1 := (hS.cell (p := ⟨b, 1, none⟩) hbl).trans c1
    have d5 := (hS.cell (p := ⟨b, 5, none⟩) hbl).trans c5
    have d6 := (hS.cell (p := ⟨b, 6, none⟩) hbl).trans c6
    clear hS
    go_light
    iterate 25 (apply Plan.seg_pick; rfl; intro K hK; go_wp)
    exact Plan.seg_nil
  refine Plan.plan_done ?_
  go_wp2_with fail
  rw [rounds_succ]
  go_wp2_with fail
  go_ret
  exact ⟨rfl, S2.out⟩


theorem pair_any (v v' : Value) (F G : Fr) (w : World) (hv : FA w v F) (hu : FA w v' G) :
    Calls Try.prog 49 #[v, v'] w fun e w' => e = .returned (.bool (pairOk F G)) ∧ Below w.heap.size w w' := by
  have hv0 := hv
  have hu0 := hu
  obtain ⟨y, u, z, rfl, _, _, _⟩ := hv
  obtain ⟨y', u', z', rfl, _, _, _⟩ := hu
  have key : ∀ (b : Nat) (w1 : World), w1.heap[b]? = some (.cells #[.int .i64 F.W, .int .i64 F.H, y, u, z, .int .i64 G.W, .int .i64 G.H, y', u', z'] 26 (0, 0)) → Below w.heap.size w w1 →
      Calls Try.prog 70 #[.slice (some ⟨b, 0, none⟩) 2 2] w1 fun e w' => e = .returned (.bool (pairOk F G)) ∧ Below w.heap.size w w' := by
    intro b w1 hb hw
    have hF := hv0.below hw
    have hG := hu0.below hw
    by_cases h1 : F.ok = true
    · by_cases h2 : G.ok = true
      · by_cases h3 : F.W = G.W
        · by_cases h4 : F.H = G.H
          · refine (alike_yy b F G _ _ _ _ _ _ w1 hF hG hb h1 h2 h3 h4).mono ?_
            rintro e w' ⟨rfl, h⟩
            exact ⟨ret_bool (by simp [pairOk, h1, h2, h3, h4]), hw.trans (h.mono hw.size)⟩
          · refine (alike_h b F G _ _ _ _ _ _ w1 hF hG hb h1 h2 h3 h4).mono ?_
            rintro e w' ⟨rfl, h⟩
            exact ⟨ret_bool (by simp [pairOk, h1, h2, h3, h4]), hw.trans (h.mono hw.size)⟩
        · refine (alike_w b F G _ _ _ _ _ _ w1 hF hG hb h1 h2 h3).mono ?_
          rintro e w' ⟨rfl, h⟩
          exact ⟨ret_bool (by simp [pairOk, h1, h2, h3]), hw.trans (h.mono hw.size)⟩
      · refine (alike_yn b F G _ _ _ _ _ _ w1 hF hG hb h1 (by simpa using h2)).mono ?_
        rintro e w' ⟨rfl, h⟩
        exact ⟨ret_bool (by simp [pairOk, h1, h2]), hw.trans (h.mono hw.size)⟩
    · refine (alike_n b F G _ _ _ _ _ _ w1 hF hG hb (by simpa using h1)).mono ?_
      rintro e w' ⟨rfl, h⟩
      exact ⟨ret_bool (by simp [pairOk, h1]), hw.trans (h.mono hw.size)⟩
  clear hv0 hu0
  go_enter Try.func49, Try.ntmps49
  go_wp2_with fail
  refine (key _ _ ?_ ?_).mono ?_
  · have h := heap_alloc_new ((w.alloc (.cells #[.int .i64 F.W, .int .i64 F.H, y, u, z] 26)).alloc (.cells #[.int .i64 G.W, .int .i64 G.H, y', u', z'] 26)) (.cells #[.int .i64 F.W, .int .i64 F.H, y, u, z, .int .i64 G.W, .int .i64 G.H, y', u', z'] 26)
    rw [World.size_alloc, World.size_alloc] at h
    exact h
  · go_grown
  · rintro e w' ⟨rfl, h⟩
    go_wp2_with fail
    go_ret
    exact ⟨rfl, h⟩

end Go.Proofs.Ytnnobdcbmagbaaa
