/- Texts of this claim joined: Alike RM CL PC RO KA. -/
import Derived.Deep.Light
import Derived.Deep.Cut
import Derived.Test.YtnnobdcbmagbaaaEv00
import Derived.Test.YtnnobdcbmagbaaaEv03
import Derived.Test.YtnnobdcbmagbaaaEv04
set_option linter.unusedVariables false
set_option linter.unusedSimpArgs false

/- The contracts of Alike (at two frames) and pair. -/
namespace Go.Proofs.Ytnnobdcbmagbaaa
open Go.RowKit

set_option maxRecDepth 100000 in
set_option maxHeartbeats 2000000 in
theorem alike_n (b : Nat) (F G : Fr) (y u z y' u' z' : Value) (w : World) (hF : FA w (.agg #[.int .i64 F.W, .int .i64 F.H, y, u, z]) F) (hG : FA w (.agg #[.int .i64 G.W, .int .i64 G.H, y', u', z']) G)
    (hb : w.heap[b]? = some (.cells #[.int .i64 F.W, .int .i64 F.H, y, u, z, .int .i64 G.W, .int .i64 G.H, y', u', z'] 26 (0, 0))) (h1 : F.ok = false) :
    Calls Try.prog 70 #[.slice (some ⟨b, 0, none⟩) 2 2] w fun e w' => e = .returned (.bool false) ∧ Below w.heap.size w w' := by
  have H1 := Lib.hid h1
  clear h1
  have HF := Lib.hid hF
  have HG := Lib.hid hG

  have hbl : b < w.heap.size := (Array.getElem?_eq_some_iff.1 hb).1
  have hc := fun j => cell_of_row w b j _ _ _ hb
  have c0 := hc 0
  have c1 := hc 1
  have c2 := hc 2
  have c3 := hc 3
  have c4 := hc 4
  have c5 := hc 5
  have c6 := hc 6
  have c7 := hc 7
  have c8 := hc 8
  have c9 := hc 9
  simp at c0 c1 c2 c3 c4 c5 c6 c7 c8 c9
  clear hF hG hc hb
  go_enter Try.func70, Try.ntmps70
  go_wp2_with fail
  refine wp_loop_rounds 3 ?_
  rw [rounds_succ]
  go_wp2_with fail
  refine Plan.wp_region_plan (fun w' => Below w.heap.size w w') (([0, 1, 2, 3].map (·, true)) ++ (([4].map (·, false)) ++ (([5, 6, 7, 8, 9, 10, 11, 12, 13, 14, 15, 16, 17, 18, 19, 20, 21, 22, 23, 24, 25, 26, 27, 28, 29].map (·, true))))) (by kernel_rfl) (by kernel_rfl) (by kernel_rfl) ((Below.refl w.heap.size w).drew) ?_
  refine' Plan.plan_seg _ [0, 1, 2, 3] (([4].map (·, false)) ++ (([5, 6, 7, 8, 9, 10, 11, 12, 13, 14, 15, 16, 17, 18, 19, 20, 21, 22, 23, 24, 25, 26, 27, 28, 29].map (·, true)))) (by kernel_rfl) (by kernel_rfl) rfl (by exact ((Below.refl w.heap.size w).drew)) (fun wx hS => ?_) ?_
  rotate_left
  · have d0 := (hS.cell (p := ⟨b, 0, none⟩) hbl).trans c0
    have d1 := (hS.cell (p := ⟨b, 1, none⟩) hbl).trans c1
    have d2 := (hS.cell (p := ⟨b, 2, none⟩) hbl).trans c2
    have d3 := (hS.cell (p := ⟨b, 3, none⟩) hbl).trans c3
    have d4 := (hS.cell (p := ⟨b, 4, none⟩) hbl).trans c4
    clear hS
    go_light
    iterate 4 (apply Plan.seg_pick; rfl; intro K hK; go_wp)
    exact Plan.seg_nil
  refine Plan.plan_of_effect rfl (fun K hK => ?_)
  go_wp2_with fail
  refine (r20valid_any _ F _ (HF.out.below ((Below.refl w.heap.size w).drew))).mono ?_
  rintro e wz ⟨rfl, hwz⟩
  rw [H1.out]
  have S1 : RowKit.Hid (Below w.heap.size w wz) := by rw [← hwz]; exact ((Below.refl w.heap.size w).drew).trans ((below_box _ _).mono (((Below.refl w.heap.size w).drew).size))
  clear hwz
  go_wp2_with fail
  refine ⟨S1.out, ?_⟩
  refine' Plan.plan_seg _ [5, 6, 7, 8, 9, 10, 11, 12, 13, 14, 15, 16, 17, 18, 19, 20, 21, 22, 23, 24, 25, 26, 27, 28, 29] [] (by kernel_rfl) (by kernel_rfl) rfl (by exact S1.out) (fun wx hS => ?_) ?_
  rotate_left
  · have d0 := (hS.cell (p := ⟨b, 0, none⟩) hbl).trans c0
    have d1 := (hS.cell (p := ⟨b, 1, none⟩) hbl).trans c1
    clear hS
    go_light
    iterate 25 (apply Plan.seg_pick; rfl; intro K hK; go_wp)
    exact Plan.seg_nil
  refine Plan.plan_done ?_
  go_wp2_with fail
  go_ret
  exact ⟨rfl, S1.out⟩

set_option maxRecDepth 100000 in
set_option maxHeartbeats 2000000 in
theorem alike_yn (b : Nat) (F G : Fr) (y u z y' u' z' : Value) (w : World) (hF : FA w (.agg #[.int .i64 F.W, .int .i64 F.H, y, u, z]) F) (hG : FA w (.agg #[.int .i64 G.W, .int .i64 G.H, y', u', z']) G)
    (hb : w.heap[b]? = some (.cells #[.int .i64 F.W, .int .i64 F.H, y, u, z, .int .i64 G.W, .int .i64 G.H, y', u', z'] 26 (0, 0))) (h1 : F.ok = true) (h2 : G.ok = false) :
    Calls Try.prog 70 #[.slice (some ⟨b, 0, none⟩) 2 2] w fun e w' => e = .returned (.bool false) ∧ Below w.heap.size w w' := by
  have H1 := Lib.hid h1
  clear h1
  have H2 := Lib.hid h2
  clear h2
  have HF := Lib.hid hF
  have HG := Lib.hid hG

  have hbl : b < w.heap.size := (Array.getElem?_eq_some_iff.1 hb).1
  have hc := fun j => cell_of_row w b j _ _ _ hb
  have c0 := hc 0
  have c1 := hc 1
  have c2 := hc 2
  have c3 := hc 3
  have c4 := hc 4
  have c5 := hc 5
  have c6 := hc 6
  have c7 := hc 7
  have c8 := hc 8
  have c9 := hc 9
  simp at c0 c1 c2 c3 c4 c5 c6 c7 c8 c9
  clear hF hG hc hb
  go_enter Try.func70, Try.ntmps70
  go_wp2_with fail
  refine wp_loop_rounds 3 ?_
  rw [rounds_succ]
  go_wp2_with fail
  refine Plan.wp_region_plan (fun w' => Below w.heap.size w w') (([0, 1, 2, 3].map (·, true)) ++ (([4].map (·, false)) ++ (([5, 6, 7, 8, 9, 10, 11, 12, 13, 14, 15, 16, 17, 18, 19, 20, 21, 22, 23, 24, 25, 26, 27, 28, 29].map (·, true))))) (by kernel_rfl) (by kernel_rfl) (by kernel_rfl) ((Below.refl w.heap.size w).drew) ?_
  refine' Plan.plan_seg _ [0, 1, 2, 3] (([4].map (·, false)) ++ (([5, 6, 7, 8, 9, 10, 11, 12, 13, 14, 15, 16, 17, 18, 19, 20, 21, 22, 23, 24, 25, 26, 27, 28, 29].map (·, true)))) (by kernel_rfl) (by kernel_rfl) rfl (by exact ((Below.refl w.heap.size w).drew)) (fun wx hS => ?_) ?_
  rotate_left
  · have d0 := (hS.cell (p := ⟨b, 0, none⟩) hbl).trans c0
    have d1 := (hS.cell (p := ⟨b, 1, none⟩) hbl).trans c1
    have d2 := (hS.cell (p := ⟨b, 2, none⟩) hbl).trans c2
    have d3 := (hS.cell (p := ⟨b, 3, none⟩) hbl).trans c3
    have d4 := (hS.cell (p := ⟨b, 4, none⟩) hbl).trans c4
    clear hS
    go_light
    iterate 4 (apply Plan.seg_pick; rfl; intro K hK; go_wp)
    exact Plan.seg_nil
  refine Plan.plan_of_effect rfl (fun K hK => ?_)
  go_wp2_with fail
  refine (r20valid_any _ F _ (HF.out.below ((Below.refl w.heap.size w).drew))).mono ?_
  rintro e wz ⟨rfl, hwz⟩
  rw [H1.out]
  have S1 : RowKit.Hid (Below w.heap.size w wz) := by rw [← hwz]; exact ((Below.refl w.heap.size w).drew).trans ((below_box _ _).mono (((Below.refl w.heap.size w).drew).size))
  clear hwz
  go_wp2_with fail
  refine ⟨S1.out, ?_⟩
  refine' Plan.plan_seg _ [5, 6, 7, 8, 9, 10, 11, 12, 13, 14, 15, 16, 17, 18, 19, 20, 21, 22, 23, 24, 25, 26, 27, 28, 29] [] (by kernel_rfl) (by kernel_rfl) rfl (by exact S1.out) (fun wx hS => ?_) ?_
  rotate_left
  · have d0 := (hS.cell (p := ⟨b, 0, none⟩) hbl).trans c0
    have d1 := (hS.cell (p := ⟨b, 1, none⟩) hbl).trans c1
    clear hS
    go_light
    iterate 25 (apply Plan.seg_pick; rfl; intro K hK; go_wp)
    exact Plan.seg_nil
  refine Plan.plan_done ?_
  go_wp2_with fail
  rw [rounds_succ]
  go_wp2_with fail
  refine Plan.wp_region_plan (fun w' => Below w.heap.size w w') (([0, 1, 2, 3].map (·, true)) ++ (([4].map (·, false)) ++ (([5, 6, 7, 8, 9, 10, 11, 12, 13, 14, 15, 16, 17, 18, 19, 20, 21, 22, 23, 24, 25, 26, 27, 28, 29].map (·, true))))) (by kernel_rfl) (by kernel_rfl) (by kernel_rfl) (S1.out.drew) ?_
  refine' Plan.plan_seg _ [0, 1, 2, 3] (([4].map (·, false)) ++ (([5, 6, 7, 8, 9, 10, 11, 12, 13, 14, 15, 16, 17, 18, 19, 20, 21, 22, 23, 24, 25, 26, 27, 28, 29].map (·, true)))) (by kernel_rfl) (by kernel_rfl) rfl (by exact (S1.out.drew)) (fun wx hS => ?_) ?_
  rotate_left
  · have d5 := (hS.cell (p := ⟨b, 5, none⟩) hbl).trans c5
    have d6 := (hS.cell (p := ⟨b, 6, none⟩) hbl).trans c6
    have d7 := (hS.cell (p := ⟨b, 7, none⟩) hbl).trans c7
    have d8 := (hS.cell (p := ⟨b, 8, none⟩) hbl).trans c8
    have d9 := (hS.cell (p := ⟨b, 9, none⟩) hbl).trans c9
    clear hS
    go_light
    iterate 4 (apply Plan.seg_pick; rfl; intro K hK; go_wp)
    exact Plan.seg_nil
  refine Plan.plan_of_effect rfl (fun K hK => ?_)
  go_wp2_with fail
  refine (r20valid_any _ G _ (HG.out.below (S1.out.drew))).mono ?_
  rintro e wz ⟨rfl, hwz⟩
  rw [H2.out]
  have S2 : RowKit.Hid (Below w.heap.size w wz) := by rw [← hwz]; exact (S1.out.drew).trans ((below_box _ _).mono ((S1.out.drew).size))
  clear hwz
  go_wp2_with fail
  refine ⟨S2.out, ?_⟩
  refine' Plan.plan_seg _ [5, 6, 7, 8, 9, 10, 11, 12, 13, 14, 15, 16, 17, 18, 19, 20, 21, 22, 23, 24, 25, 26, 27, 28, 29] [] (by kernel_rfl) (by kernel_rfl) rfl (by exact S2.out) (fun wx hS => ?_) ?_
  rotate_left
  · have d0 := (hS.cell (p := ⟨b, 0, none⟩) hbl).trans c0
    have d1 := (hS.cell (p := ⟨b, 1, none⟩) hbl).trans c1
    have d5 := (hS.cell (p := ⟨b, 5, none⟩) hbl).trans c5
    have d6 := (hS.cell (p := ⟨b, 6, none⟩) hbl).trans c6
    clear hS
    go_light
    iterate 25 (apply Plan.seg_pick; rfl; intro K hK; go_wp)
    exact Plan.seg_nil
  refine Plan.plan_done ?_
  go_wp2_with fail
  go_ret
  exact ⟨rfl, S2.out⟩

set_option maxRecDepth 100000 in
set_option maxHeartbeats 2000000 in
theorem alike_w (b : Nat) (F G : Fr) (y u z y' u' z' : Value) (w : World) (hF : FA w (.agg #[.int .i64 F.W, .int .i64 F.H, y, u, z]) F) (hG : FA w (.agg #[.int .i64 G.W, .int .i64 G.H, y', u', z']) G)
    (hb : w.heap[b]? = some (.cells #[.int .i64 F.W, .int .i64 F.H, y, u, z, .int .i64 G.W, .int .i64 G.H, y', u', z'] 26 (0, 0))) (h1 : F.ok = true) (h2 : G.ok = true) (h3 : F.W ≠ G.W) :
    Calls Try.prog 70 #[.slice (some ⟨b, 0, none⟩) 2 2] w fun e w' => e = .returned (.bool false) ∧ Below w.heap.size w w' := by
  have H1 := Lib.hid h1
  clear h1
  have H2 := Lib.hid h2
  clear h2
  have HF := Lib.hid hF
  have HG := Lib.hid hG
  have hW : (G.W != F.W) = true := by simp [Ne.symm h3]
  clear h3
  have hbl : b < w.heap.size := (Array.getElem?_eq_some_iff.1 hb).1
  have hc := fun j => cell_of_row w b j _ _ _ hb
  have c0 := hc 0
  have c1 := hc 1
  have c2 := hc 2
  have c3 := hc 3
  have c4 := hc 4
  have c5 := hc 5
  have c6 := hc 6
  have c7 := hc 7
  have c8 := hc 8
  have c9 := hc 9
  simp at c0 c1 c2 c3 c4 c5 c6 c7 c8 c9
  clear hF hG hc hb
  go_enter Try.func70, Try.ntmps70
  go_wp2_with fail
  refine wp_loop_rounds 3 ?_
  rw [rounds_succ]
  go_wp2_with fail
  refine Plan.wp_region_plan (fun w' => Below w.heap.size w w') (([0, 1, 2, 3].map (·, true)) ++ (([4].map (·, false)) ++ (([5, 6, 7, 8, 9, 10, 11, 12, 13, 14, 15, 16, 17, 18, 19, 20, 21, 22, 23, 24, 25, 26, 27, 28, 29].map (·, true))))) (by kernel_rfl) (by kernel_rfl) (by kernel_rfl) ((Below.refl w.heap.size w).drew) ?_
  refine' Plan.plan_seg _ [0, 1, 2, 3] (([4].map (·, false)) ++ (([5, 6, 7, 8, 9, 10, 11, 12, 13, 14, 15, 16, 17, 18, 19, 20, 21, 22, 23, 24, 25, 26, 27, 28, 29].map (·, true)))) (by kernel_rfl) (by kernel_rfl) rfl (by exact ((Below.refl w.heap.size w).drew)) (fun wx hS => ?_) ?_
  rotate_left
  · have d0 := (hS.cell (p := ⟨b, 0, none⟩) hbl).trans c0
    have d1 := (hS.cell (p := ⟨b, 1, none⟩) hbl).trans c1
    have d2 := (hS.cell (p := ⟨b, 2, none⟩) hbl).trans c2
    have d3 := (hS.cell (p := ⟨b, 3, none⟩) hbl).trans c3
    have d4 := (hS.cell (p := ⟨b, 4, none⟩) hbl).trans c4
    clear hS
    go_light
    iterate 4 (apply Plan.seg_pick; rfl; intro K hK; go_wp)
    exact Plan.seg_nil
  refine Plan.plan_of_effect rfl (fun K hK => ?_)
  go_wp2_with fail
  refine (r20valid_any _ F _ (HF.out.below ((Below.refl w.heap.size w).drew))).mono ?_
  rintro e wz ⟨rfl, hwz⟩
  rw [H1.out]
  have S1 : RowKit.Hid (Below w.heap.size w wz) := by rw [← hwz]; exact ((Below.refl w.heap.size w).drew).trans ((below_box _ _).mono (((Below.refl w.heap.size w).drew).size))
  clear hwz
  go_wp2_with fail
  refine ⟨S1.out, ?_⟩
  refine' Plan.plan_seg _ [5, 6, 7, 8, 9, 10, 11, 12, 13, 14, 15, 16, 17, 18, 19, 20, 21, 22, 23, 24, 25, 26, 27, 28, 29] [] (by kernel_rfl) (by kernel_rfl) rfl (by exact S1.out) (fun wx hS => ?_) ?_
  rotate_left
  · have d0 := (hS.cell (p := ⟨b, 0, none⟩) hbl).trans c0
    have d1 := (hS.cell (p := ⟨b, 1, none⟩) hbl).trans c1
    clear hS
    go_light
    iterate 25 (apply Plan.seg_pick; rfl; intro K hK; go_wp)
    exact Plan.seg_nil
  refine Plan.plan_done ?_
  go_wp2_with fail
  rw [rounds_succ]
  go_wp2_with fail
  refine Plan.wp_region_plan (fun w' => Below w.heap.size w w') (([0, 1, 2, 3].map (·, true)) ++ (([4].map (·, false)) ++ (([5, 6, 7, 8, 9, 10, 11, 12, 13, 14, 15, 16, 17, 18, 19, 20, 21, 22, 23, 24, 25, 26, 27, 28, 29].map (·, true))))) (by kernel_rfl) (by kernel_rfl) (by kernel_rfl) (S1.out.drew) ?_
  refine' Plan.plan_seg _ [0, 1, 2, 3] (([4].map (·, false)) ++ (([5, 6, 7, 8, 9, 10, 11, 12, 13, 14, 15, 16, 17, 18, 19, 20, 21, 22, 23, 24, 25, 26, 27, 28, 29].map (·, true)))) (by kernel_rfl) (by kernel_rfl) rfl (by exact (S1.out.drew)) (fun wx hS => ?_) ?_
  rotate_left
  · have d5 := (hS.cell (p := ⟨b, 5, none⟩) hbl).trans c5
    have d6 := (hS.cell (p := ⟨b, 6, none⟩) hbl).trans c6
    have d7 := (hS.cell (p := ⟨b, 7, none⟩) hbl).trans c7
    have d8 := (hS.cell (p := ⟨b, 8, none⟩) hbl).trans c8
    have d9 := (hS.cell (p := ⟨b, 9, none⟩) hbl).trans c9
    clear hS
    go_light
    iterate 4 (apply Plan.seg_pick; rfl; intro K hK; go_wp)
    exact Plan.seg_nil
  refine Plan.plan_of_effect rfl (fun K hK => ?_)
  go_wp2_with fail
  refine (r20valid_any _ G _ (HG.out.below (S1.out.drew))).mono ?_
  rintro e wz ⟨rfl, hwz⟩
  rw [H2.out]
  have S2 : RowKit.Hid (Below w.heap.size w wz) := by rw [← hwz]; exact (S1.out.drew).trans ((below_box _ _).mono ((S1.out.drew).size))
  clear hwz
  go_wp2_with fail
  refine ⟨S2.out, ?_⟩
  refine' Plan.plan_seg _ [5, 6, 7, 8, 9, 10, 11, 12, 13, 14, 15, 16, 17, 18, 19, 20, 21, 22, 23, 24, 25, 26, 27, 28, 29] [] (by kernel_rfl) (by kernel_rfl) rfl (by exact S2.out) (fun wx hS => ?_) ?_
  rotate_left
  · have d0 := (hS.cell (p := ⟨b, 0, none⟩) hbl).trans c0
    have d1 := (hS.cell (p := ⟨b, 1, none⟩) hbl).trans c1
    have d5 := (hS.cell (p := ⟨b, 5, none⟩) hbl).trans c5
    have d6 := (hS.cell (p := ⟨b, 6, none⟩) hbl).trans c6
    clear hS
    go_light
    iterate 25 (apply Plan.seg_pick; rfl; intro K hK; go_wp)
    exact Plan.seg_nil
  refine Plan.plan_done ?_
  go_wp2_with fail
  go_ret
  exact ⟨rfl, S2.out⟩

set_option maxRecDepth 100000 in
set_option maxHeartbeats 2000000 in
theorem alike_h (b : Nat) (F G : Fr) (y u z y' u' z' : Value) (w : World) (hF : FA w (.agg #[.int .i64 F.W, .int .i64 F.H, y, u, z]) F) (hG : FA w (.agg #[.int .i64 G.W, .int .i64 G.H, y', u', z']) G)
    (hb : w.heap[b]? = some (.cells #[.int .i64 F.W, .int .i64 F.H, y, u, z, .int .i64 G.W, .int .i64 G.H, y', u', z'] 26 (0, 0))) (h1 : F.ok = true) (h2 : G.ok = true) (h3 : F.W = G.W) (h4 : F.H ≠ G.H) :
    Calls Try.prog 70 #[.slice (some ⟨b, 0, none⟩) 2 2] w fun e w' => e = .returned (.bool false) ∧ Below w.heap.size w w' := by
  have H1 := Lib.hid h1
  clear h1
  have H2 := Lib.hid h2
  clear h2
  have HF := Lib.hid hF
  have HG := Lib.hid hG
  have hW : (G.W != F.W) = false := by simp [h3]
  have hH : (G.H != F.H) = true := by simp [Ne.symm h4]
  clear h3 h4
  have hbl : b < w.heap.size := (Array.getElem?_eq_some_iff.1 hb).1
  have hc := fun j => cell_of_row w b j _ _ _ hb
  have c0 := hc 0
  have c1 := hc 1
  have c2 := hc 2
  have c3 := hc 3
  have c4 := hc 4
  have c5 := hc 5
  have c6 := hc 6
  have c7 := hc 7
  have c8 := hc 8
  have c9 := hc 9
  simp at c0 c1 c2 c3 c4 c5 c6 c7 c8 c9
  clear hF hG hc hb
  go_enter Try.func70, Try.ntmps70
  go_wp2_with fail
  refine wp_loop_rounds 3 ?_
  rw [rounds_succ]
  go_wp2_with fail
  refine Plan.wp_region_plan (fun w' => Below w.heap.size w w') (([0, 1, 2, 3].map (·, true)) ++ (([4].map (·, false)) ++ (([5, 6, 7, 8, 9, 10, 11, 12, 13, 14, 15, 16, 17, 18, 19, 20, 21, 22, 23, 24, 25, 26, 27, 28, 29].map (·, true))))) (by kernel_rfl) (by kernel_rfl) (by kernel_rfl) ((Below.refl w.heap.size w).drew) ?_
  refine' Plan.plan_seg _ [0, 1, 2, 3] (([4].map (·, false)) ++ (([5, 6, 7, 8, 9, 10, 11, 12, 13, 14, 15, 16, 17, 18, 19, 20, 21, 22, 23, 24, 25, 26, 27, 28, 29].map (·, true)))) (by kernel_rfl) (by kernel_rfl) rfl (by exact ((Below.refl w.heap.size w).drew)) (fun wx hS => ?_) ?_
  rotate_left
  · have d0 := (hS.cell (p := ⟨b, 0, none⟩) hbl).trans c0
    have d1 := (hS.cell (p := ⟨b, 1, none⟩) hbl).trans c1
    have d2 := (hS.cell (p := ⟨b, 2, none⟩) hbl).trans c2
    have d3 := (hS.cell (p := ⟨b, 3, none⟩) hbl).trans c3
    have d4 := (hS.cell (p := ⟨b, 4, none⟩) hbl).trans c4
    clear hS
    go_light
    iterate 4 (apply Plan.seg_pick; rfl; intro K hK; go_wp)
    exact Plan.seg_nil
  refine Plan.plan_of_effect rfl (fun K hK => ?_)
  go_wp2_with fail
  refine (r20valid_any _ F _ (HF.out.below ((Below.refl w.heap.size w).drew))).mono ?_
  rintro e wz ⟨rfl, hwz⟩
  rw [H1.out]
  have S1 : RowKit.Hid (Below w.heap.size w wz) := by rw [← hwz]; exact ((Below.refl w.heap.size w).drew).trans ((below_box _ _).mono (((Below.refl w.heap.size w).drew).size))
  clear hwz
  go_wp2_with fail
  refine ⟨S1.out, ?_⟩
  refine' Plan.plan_seg _ [5, 6, 7, 8, 9, 10, 11, 12, 13, 14, 15, 16, 17, 18, 19, 20, 21, 22, 23, 24, 25, 26, 27, 28, 29] [] (by kernel_rfl) (by kernel_rfl) rfl (by exact S1.out) (fun wx hS => ?_) ?_
  rotate_left
  · have d0 := (hS.cell (p := ⟨b, 0, none⟩) hbl).trans c0
    have d1 := (hS.cell (p := ⟨b, 1, none⟩) hbl).trans c1
    clear hS
    go_light
    iterate 25 (apply Plan.seg_pick; rfl; intro K hK; go_wp)
    exact Plan.seg_nil
  refine Plan.plan_done ?_
  go_wp2_with fail
  rw [rounds_succ]
  go_wp2_with fail
  refine Plan.wp_region_plan (fun w' => Below w.heap.size w w') (([0, 1, 2, 3].map (·, true)) ++ (([4].map (·, false)) ++ (([5, 6, 7, 8, 9, 10, 11, 12, 13, 14, 15, 16, 17, 18, 19, 20, 21, 22, 23, 24, 25, 26, 27, 28, 29].map (·, true))))) (by kernel_rfl) (by kernel_rfl) (by kernel_rfl) (S1.out.drew) ?_
  refine' Plan.plan_seg _ [0, 1, 2, 3] (([4].map (·, false)) ++ (([5, 6, 7, 8, 9, 10, 11, 12, 13, 14, 15, 16, 17, 18, 19, 20, 21, 22, 23, 24, 25, 26, 27, 28, 29].map (·, true)))) (by kernel_rfl) (by kernel_rfl) rfl (by exact (S1.out.drew)) (fun wx hS => ?_) ?_
  rotate_left
  · have d5 := (hS.cell (p := ⟨b, 5, none⟩) hbl).trans c5
    have d6 := (hS.cell (p := ⟨b, 6, none⟩) hbl).trans c6
    have d7 := (hS.cell (p := ⟨b, 7, none⟩) hbl).trans c7
    have d8 := (hS.cell (p := ⟨b, 8, none⟩) hbl).trans c8
    have d9 := (hS.cell (p := ⟨b, 9, none⟩) hbl).trans c9
    clear hS
    go_light
    iterate 4 (apply Plan.seg_pick; rfl; intro K hK; go_wp)
    exact Plan.seg_nil
  refine Plan.plan_of_effect rfl (fun K hK => ?_)
  go_wp2_with fail
  refine (r20valid_any _ G _ (HG.out.below (S1.out.drew))).mono ?_
  rintro e wz ⟨rfl, hwz⟩
  rw [H2.out]
  have S2 : RowKit.Hid (Below w.heap.size w wz) := by rw [← hwz]; exact (S1.out.drew).trans ((below_box _ _).mono ((S1.out.drew).size))
  clear hwz
  go_wp2_with fail
  refine ⟨S2.out, ?_⟩
  refine' Plan.plan_seg _ [5, 6, 7, 8, 9, 10, 11, 12, 13, 14, 15, 16, 17, 18, 19, 20, 21, 22, 23, 24, 25, 26, 27, 28, 29] [] (by kernel_rfl) (by kernel_rfl) rfl (by exact S2.out) (fun wx hS => ?_) ?_
  rotate_left
  · have d0 := (hS.cell (p := ⟨b, 0, none⟩) hbl).trans c0
    have d1 := (hS.cell (p := ⟨b, 1, none⟩) hbl).trans c1
    have d5 := (hS.cell (p := ⟨b, 5, none⟩) hbl).trans c5
    have d6 := (hS.cell (p := ⟨b, 6, none⟩) hbl).trans c6
    clear hS
    go_light
    iterate 25 (apply Plan.seg_pick; rfl; intro K hK; go_wp)
    exact Plan.seg_nil
  refine Plan.plan_done ?_
  go_wp2_with fail
  go_ret
  exact ⟨rfl, S2.out⟩

set_option maxRecDepth 100000 in
set_option maxHeartbeats 2000000 in
theorem alike_yy (b : Nat) (F G : Fr) (y u z y' u' z' : Value) (w : World) (hF : FA w (.agg #[.int .i64 F.W, .int .i64 F.H, y, u, z]) F) (hG : FA w (.agg #[.int .i64 G.W, .int .i64 G.H, y', u', z']) G)
    (hb : w.heap[b]? = some (.cells #[.int .i64 F.W, .int .i64 F.H, y, u, z, .int .i64 G.W, .int .i64 G.H, y', u', z'] 26 (0, 0))) (h1 : F.ok = true) (h2 : G.ok = true) (h3 : F.W = G.W) (h4 : F.H = G.H) :
    Calls Try.prog 70 #[.slice (some ⟨b, 0, none⟩) 2 2] w fun e w' => e = .returned (.bool true) ∧ Below w.heap.size w w' := by
  have H1 := Lib.hid h1
  clear h1
  have H2 := Lib.hid h2
  clear h2
  have HF := Lib.hid hF
  have HG := Lib.hid hG
  have hW : (G.W != F.W) = false := by simp [h3]
  have hH : (G.H != F.H) = false := by simp [h4]
  clear h3 h4
  have hbl : b < w.heap.size := (Array.getElem?_eq_some_iff.1 hb).1
  have hc := fun j => cell_of_row w b j _ _ _ hb
  have c0 := hc 0
  have c1 := hc 1
  have c2 := hc 2
  have c3 := hc 3
  have c4 := hc 4
  have c5 := hc 5
  have c6 := hc 6
  have c7 := hc 7
  have c8 := hc 8
  have c9 := hc 9
  simp at c0 c1 c2 c3 c4 c5 c6 c7 c8 c9
  clear hF hG hc hb
  go_enter Try.func70, Try.ntmps70
  go_wp2_with fail
  refine wp_loop_rounds 3 ?_
  rw [rounds_succ]
  go_wp2_with fail
  refine Plan.wp_region_plan (fun w' => Below w.heap.size w w') (([0, 1, 2, 3].map (·, true)) ++ (([4].map (·, false)) ++ (([5, 6, 7, 8, 9, 10, 11, 12, 13, 14, 15, 16, 17, 18, 19, 20, 21, 22, 23, 24, 25, 26, 27, 28, 29].map (·, true))))) (by kernel_rfl) (by kernel_rfl) (by kernel_rfl) ((Below.refl w.heap.size w).drew) ?_
  refine' Plan.plan_seg _ [0, 1, 2, 3] (([4].map (·, false)) ++ (([5, 6, 7, 8, 9, 10, 11, 12, 13, 14, 15, 16, 17, 18, 19, 20, 21, 22, 23, 24, 25, 26, 27, 28, 29].map (·, true)))) (by kernel_rfl) (by kernel_rfl) rfl (by exact ((Below.refl w.heap.size w).drew)) (fun wx hS => ?_) ?_
  rotate_left
  · have d0 := (hS.cell (p := ⟨b, 0, none⟩) hbl).trans c0
    have d1 := (hS.cell (p := ⟨b, 1, none⟩) hbl).trans c1
    have d2 := (hS.cell (p := ⟨b, 2, none⟩) hbl).trans c2
    have d3 := (hS.cell (p := ⟨b, 3, none⟩) hbl).trans c3
    have d4 := (hS.cell (p := ⟨b, 4, none⟩) hbl).trans c4
    clear hS
    go_light
    iterate 4 (apply Plan.seg_pick; rfl; intro K hK; go_wp)
    exact Plan.seg_nil
  refine Plan.plan_of_effect rfl (fun K hK => ?_)
  go_wp2_with fail
  refine (r20valid_any _ F _ (HF.out.below ((Below.refl w.heap.size w).drew))).mono ?_
  rintro e wz ⟨rfl, hwz⟩
  rw [H1.out]
  have S1 : RowKit.Hid (Below w.heap.size w wz) := by rw [← hwz]; exact ((Below.refl w.heap.size w).drew).trans ((below_box _ _).mono (((Below.refl w.heap.size w).drew).size))
  clear hwz
  go_wp2_with fail
  refine ⟨S1.out, ?_⟩
  refine' Plan.plan_seg _ [5, 6, 7, 8, 9, 10, 11, 12, 13, 14, 15, 16, 17, 18, 19, 20, 21, 22, 23, 24, 25, 26, 27, 28, 29] [] (by kernel_rfl) (by kernel_rfl) rfl (by exact S1.out) (fun wx hS => ?_) ?_
  rotate_left
  · have d0 := (hS.cell (p := ⟨b, 0, none⟩) hbl).trans c0
    have d1 := (hS.cell (p := ⟨b, 1, none⟩) hbl).trans c1
    clear hS
    go_light
    iterate 25 (apply Plan.seg_pick; rfl; intro K hK; go_wp)
    exact Plan.seg_nil
  refine Plan.plan_done ?_
  go_wp2_with fail
  rw [rounds_succ]
  go_wp2_with fail
  refine Plan.wp_region_plan (fun w' => Below w.heap.size w w') (([0, 1, 2, 3].map (·, true)) ++ (([4].map (·, false)) ++ (([5, 6, 7, 8, 9, 10, 11, 12, 13, 14, 15, 16, 17, 18, 19, 20, 21, 22, 23, 24, 25, 26, 27, 28, 29].map (·, true))))) (by kernel_rfl) (by kernel_rfl) (by kernel_rfl) (S1.out.drew) ?_
  refine' Plan.plan_seg _ [0, 1, 2, 3] (([4].map (·, false)) ++ (([5, 6, 7, 8, 9, 10, 11, 12, 13, 14, 15, 16, 17, 18, 19, 20, 21, 22, 23, 24, 25, 26, 27, 28, 29].map (·, true)))) (by kernel_rfl) (by kernel_rfl) rfl (by exact (S1.out.drew)) (fun wx hS => ?_) ?_
  rotate_left
  · have d5 := (hS.cell (p := ⟨b, 5, none⟩) hbl).trans c5
    have d6 := (hS.cell (p := ⟨b, 6, none⟩) hbl).trans c6
    have d7 := (hS.cell (p := ⟨b, 7, none⟩) hbl).trans c7
    have d8 := (hS.cell (p := ⟨b, 8, none⟩) hbl).trans c8
    have d9 := (hS.cell (p := ⟨b, 9, none⟩) hbl).trans c9
    clear hS
    go_light
    iterate 4 (apply Plan.seg_pick; rfl; intro K hK; go_wp)
    exact Plan.seg_nil
  refine Plan.plan_of_effect rfl (fun K hK => ?_)
  go_wp2_with fail
  refine (r20valid_any _ G _ (HG.out.below (S1.out.drew))).mono ?_
  rintro e wz ⟨rfl, hwz⟩
  rw [H2.out]
  have S2 : RowKit.Hid (Below w.heap.size w wz) := by rw [← hwz]; exact (S1.out.drew).trans ((below_box _ _).mono ((S1.out.drew).size))
  clear hwz
  go_wp2_with fail
  refine ⟨S2.out, ?_⟩
  refine' Plan.plan_seg _ [5, 6, 7, 8, 9, 10, 11, 12, 13, 14, 15, 16, 17, 18, 19, 20, 21, 22, 23, 24, 25, 26, 27, 28, 29] [] (by kernel_rfl) (by kernel_rfl) rfl (by exact S2.out) (fun wx hS => ?_) ?_
  rotate_left
  · have d0 := (hS.cell (p := ⟨b, 0, none⟩) hbl).trans c0
    have d1 := (hS.cell (p := ⟨b, 1, none⟩) hbl).trans c1
    have d5 := (hS.cell (p := ⟨b, 5, none⟩) hbl).trans c5
    have d6 := (hS.cell (p := ⟨b, 6, none⟩) hbl).trans c6
    clear hS
    go_light
    iterate 25 (apply Plan.seg_pick; rfl; intro K hK; go_wp)
    exact Plan.seg_nil
  refine Plan.plan_done ?_
  go_wp2_with fail
  rw [rounds_succ]
  go_wp2_with fail
  go_ret
  exact ⟨rfl, S2.out⟩


theorem pair_any (v v' : Value) (F G : Fr) (w : World) (hv : FA w v F) (hu : FA w v' G) :
    Calls Try.prog 49 #[v, v'] w fun e w' => e = .returned (.bool (pairOk F G)) ∧ Below w.heap.size w w' := by
  have hv0 := hv
  have hu0 := hu
  obtain ⟨y, u, z, rfl, _, _, _⟩ := hv
  obtain ⟨y', u', z', rfl, _, _, _⟩ := hu
  have key : ∀ (b : Nat) (w1 : World), w1.heap[b]? = some (.cells #[.int .i64 F.W, .int .i64 F.H, y, u, z, .int .i64 G.W, .int .i64 G.H, y', u', z'] 26 (0, 0)) → Below w.heap.size w w1 →
      Calls Try.prog 70 #[.slice (some ⟨b, 0, none⟩) 2 2] w1 fun e w' => e = .returned (.bool (pairOk F G)) ∧ Below w.heap.size w w' := by
    intro b w1 hb hw
    have hF := hv0.below hw
    have hG := hu0.below hw
    by_cases h1 : F.ok = true
    · by_cases h2 : G.ok = true
      · by_cases h3 : F.W = G.W
        · by_cases h4 : F.H = G.H
          · refine (alike_yy b F G _ _ _ _ _ _ w1 hF hG hb h1 h2 h3 h4).mono ?_
            rintro e w' ⟨rfl, h⟩
            exact ⟨ret_bool (by simp [pairOk, h1, h2, h3, h4]), hw.trans (h.mono hw.size)⟩
          · refine (alike_h b F G _ _ _ _ _ _ w1 hF hG hb h1 h2 h3 h4).mono ?_
            rintro e w' ⟨rfl, h⟩
            exact ⟨ret_bool (by simp [pairOk, h1, h2, h3, h4]), hw.trans (h.mono hw.size)⟩
        · refine (alike_w b F G _ _ _ _ _ _ w1 hF hG hb h1 h2 h3).mono ?_
          rintro e w' ⟨rfl, h⟩
          exact ⟨ret_bool (by simp [pairOk, h1, h2, h3]), hw.trans (h.mono hw.size)⟩
      · refine (alike_yn b F G _ _ _ _ _ _ w1 hF hG hb h1 (by simpa using h2)).mono ?_
        rintro e w' ⟨rfl, h⟩
        exact ⟨ret_bool (by simp [pairOk, h1, h2]), hw.trans (h.mono hw.size)⟩
    · refine (alike_n b F G _ _ _ _ _ _ w1 hF hG hb (by simpa using h1)).mono ?_
      rintro e w' ⟨rfl, h⟩
      exact ⟨ret_bool (by simp [pairOk, h1]), hw.trans (h.mono hw.size)⟩
  clear hv0 hu0
  go_enter Try.func49, Try.ntmps49
  go_wp2_with fail
  refine (key _ _ ?_ ?_).mono ?_
  · have h := heap_alloc_new ((w.alloc (.cells #[.int .i64 F.W, .int .i64 F.H, y, u, z] 26)).alloc (.cells #[.int .i64 G.W, .int .i64 G.H, y', u', z'] 26)) (.cells #[.int .i64 F.W, .int .i64 F.H, y, u, z, .int .i64 G.W, .int .i64 G.H, y', u', z'] 26)
    rw [World.size_alloc, World.size_alloc] at h
    exact h
  · go_grown
  · rintro e w' ⟨rfl, h⟩
    go_wp2_with fail
    go_ret
    exact ⟨rfl, h⟩

end Go.Proofs.Ytnnobdcbmagbaaa

/- Aid for the references' loops over three planes: blocks of three cells, and what a loop that writes one row leaves. -/
namespace Go.Proofs.Ytnnobdcbmagbaaa
open Go.RowKit
set_option linter.unusedVariables false

/-- Block b holds three cells. -/
structure T3 (w : World) (b : Nat) (c0 c1 c2 : Value) : Prop where
  k0 : w.cell? ⟨b, 0, none⟩ = some c0
  k1 : w.cell? ⟨b, 1, none⟩ = some c1
  k2 : w.cell? ⟨b, 2, none⟩ = some c2
theorem T3.lt {w : World} {b : Nat} {c0 c1 c2 : Value} (h : T3 w b c0 c1 c2) : b < w.heap.size := block_lt_of_cell h.k0
theorem T3.below {w w' : World} {b : Nat} {c0 c1 c2 : Value} (h : T3 w b c0 c1 c2) (hb : Below w.heap.size w w') : T3 w' b c0 c1 c2 :=
  ⟨(hb.cell h.lt).trans h.k0, (hb.cell h.lt).trans h.k1, (hb.cell h.lt).trans h.k2⟩
theorem T3.only {w w' : World} {b g : Nat} {c0 c1 c2 : Value} (h : T3 w b c0 c1 c2) (hg : w.grownBy w' (some g)) (hne : b ≠ g) : T3 w' b c0 c1 c2 :=
  ⟨only_cell hg h.k0 hne, only_cell hg h.k1 hne, only_cell hg h.k2 hne⟩
theorem T3.of_alloc (w : World) (b : Nat) (c0 c1 c2 : Value) (t : TypeId) (h : b = w.heap.size) : T3 (w.alloc (.cells #[c0, c1, c2] t)) b c0 c1 c2 := by
  subst h; exact ⟨by simp [go_sem], by simp [go_sem], by simp [go_sem]⟩
theorem BX.only {w w' : World} {b g : Nat} {c0 c1 c2 c3 c4 : Value} (h : BX w b c0 c1 c2 c3 c4) (hg : w.grownBy w' (some g)) (hne : b ≠ g) : BX w' b c0 c1 c2 c3 c4 :=
  ⟨only_cell hg h.k0 hne, only_cell hg h.k1 hne, only_cell hg h.k2 hne, only_cell hg h.k3 hne, only_cell hg h.k4 hne⟩
/-- Block b may be written. -/
def Fz (w : World) (b : Nat) : Prop := b < w.heap.size ∧ ∀ o, w.frozen? ⟨b, o, none⟩ = false
theorem Fz.below {w w' : World} {b : Nat} (h : Fz w b) (hb : Below w.heap.size w w') : Fz w' b := ⟨Nat.lt_of_lt_of_le h.1 hb.size, fun o => (hb.frozen h.1).trans (h.2 o)⟩
theorem Fz.only {w w' : World} {b g : Nat} (h : Fz w b) (hg : w.grownBy w' (some g)) (hne : b ≠ g) : Fz w' b := ⟨Nat.lt_of_lt_of_le h.1 hg.size, fun o => only_frozen hg h.1 (h.2 o) hne⟩

/-- Three rows that the call made. -/
structure R3 (w : World) (B g1 g2 g3 n1 n2 n3 : Nat) (F1 F2 F3 : Nat → Int) : Prop where
  r1 : Row w B g1 n1 n1 F1
  r2 : Row w B g2 n2 n2 F2
  r3 : Row w B g3 n3 n3 F3
theorem R3.below {w w' : World} {B g1 g2 g3 n1 n2 n3 : Nat} {F1 F2 F3 : Nat → Int} (h : R3 w B g1 g2 g3 n1 n2 n3 F1 F2 F3) (hb : Below w.heap.size w w') : R3 w' B g1 g2 g3 n1 n2 n3 F1 F2 F3 :=
  ⟨h.r1.below hb, h.r2.below hb, h.r3.below hb⟩
theorem R3.far {w : World} {B g1 g2 g3 n1 n2 n3 : Nat} {F1 F2 F3 : Nat → Int} (h : R3 w B g1 g2 g3 n1 n2 n3 F1 F2 F3) {b : Nat} (hb : b < B) (o : Nat) (u : Value) : R3 (w.setCell ⟨b, o, none⟩ u) B g1 g2 g3 n1 n2 n3 F1 F2 F3 :=
  ⟨h.r1.far (by have := h.r1.le.1; simp; omega) u, h.r2.far (by have := h.r2.le.1; simp; omega) u, h.r3.far (by have := h.r3.le.1; simp; omega) u⟩
theorem R3.FA {w : World} {B g1 g2 g3 n1 n2 n3 : Nat} {F1 F2 F3 : Nat → Int} {W H : Int} (h : R3 w B g1 g2 g3 n1 n2 n3 F1 F2 F3) (b1 : ∀ i, i < n1 → 0 ≤ F1 i ∧ F1 i < 256) (b2 : ∀ i, i < n2 → 0 ≤ F2 i ∧ F2 i < 256) (b3 : ∀ i, i < n3 → 0 ≤ F3 i ∧ F3 i < 256) :
    FA w (.agg #[.int .i64 W, .int .i64 H, .slice (some ⟨g1, 0, none⟩) n1 n1, .slice (some ⟨g2, 0, none⟩) n2 n2, .slice (some ⟨g3, 0, none⟩) n3 n3]) ⟨W, H, n1, n2, n3, F1, F2, F3⟩ :=
  ⟨_, _, _, rfl, h.r1.BA b1, h.r2.BA b2, h.r3.BA b3⟩

theorem ok_blank {F : Fr} (h : F.ok = true) : (F.W * F.H).toNat = F.nY ∧ (F.W * F.H / 4).toNat = F.nU ∧ F.nV = F.nU := by
  obtain ⟨h0, h1, h2, h3⟩ := ok_dims h
  rw [quarter h0]
  omega

theorem blank_fr (F : Fr) (w : World) (hF : F.ok = true) :
    Calls Try.prog 42 #[.int .i64 F.W, .int .i64 F.H] w fun e w' => ∃ g1 g2 g3, e = .returned (.agg #[.int .i64 F.W, .int .i64 F.H, .slice (some ⟨g1, 0, none⟩) F.nY F.nY, .slice (some ⟨g2, 0, none⟩) F.nU F.nU, .slice (some ⟨g3, 0, none⟩) F.nV F.nV]) ∧
      R3 w' w.heap.size g1 g2 g3 F.nY F.nU F.nV (fun _ => 0) (fun _ => 0) (fun _ => 0) ∧ g1 ≠ g2 ∧ g1 ≠ g3 ∧ g2 ≠ g3 ∧ Below w.heap.size w w' := by
  refine (blank_any F.W F.H w (ok_dims hF).1).mono ?_
  rintro e w' ⟨g1, g2, g3, rfl, r1, r2, r3, d1, d2, d3, hb⟩
  obtain ⟨e1, e2, e3⟩ := ok_blank hF
  rw [e1] at r1
  rw [e2] at r2 r3
  rw [e1, e2]
  refine ⟨g1, g2, g3, by rw [e3], ⟨r1, r2, by rw [e3]; exact r3⟩, d1, d2, d3, hb⟩

theorem planes_fr (F : Fr) (W H : Int) (a1 a2 a3 : Option Addr) (n1 c1 n2 c2 n3 c3 : Nat) (w : World) (hW : 0 ≤ W) (hW2 : W ≤ 64) (hH : 0 ≤ H) (hH2 : H ≤ 64) :
    Calls Try.prog 43 #[.agg #[.int .i64 W, .int .i64 H, .slice a1 n1 c1, .slice a2 n2 c2, .slice a3 n3 c3]] w fun e w' => e = .returned (.tuple #[.agg #[.slice a1 n1 c1, .slice a2 n2 c2, .slice a3 n3 c3], .agg #[.int .i64 W, .int .i64 (W / 2), .int .i64 (W / 2)], .agg #[.int .i64 H, .int .i64 (H / 2), .int .i64 (H / 2)]]) ∧ Below w.heap.size w w' :=
  planes_any W H _ _ _ w hW hW2 hH hH2 ⟨_, _, _, rfl⟩ ⟨_, _, _, rfl⟩ ⟨_, _, _, rfl⟩

end Go.Proofs.Ytnnobdcbmagbaaa

/- The contract of compose.clone: the frame in rows of its own. -/
namespace Go.Proofs.Ytnnobdcbmagbaaa
open Go.RowKit
set_option linter.unusedVariables false

/-- Three rows that the call made, with room behind them. -/
structure K3 (w : World) (B g1 g2 g3 n1 n2 n3 c1 c2 c3 : Nat) (F1 F2 F3 : Nat → Int) : Prop where
  r1 : Row w B g1 n1 c1 F1
  r2 : Row w B g2 n2 c2 F2
  r3 : Row w B g3 n3 c3 F3
theorem K3.below {w w' : World} {B g1 g2 g3 n1 n2 n3 c1 c2 c3 : Nat} {F1 F2 F3 : Nat → Int} (h : K3 w B g1 g2 g3 n1 n2 n3 c1 c2 c3 F1 F2 F3) (hb : Below w.heap.size w w') : K3 w' B g1 g2 g3 n1 n2 n3 c1 c2 c3 F1 F2 F3 :=
  ⟨h.r1.below hb, h.r2.below hb, h.r3.below hb⟩
theorem K3.far {w : World} {B g1 g2 g3 n1 n2 n3 c1 c2 c3 : Nat} {F1 F2 F3 : Nat → Int} (h : K3 w B g1 g2 g3 n1 n2 n3 c1 c2 c3 F1 F2 F3) {b : Nat} (hb : b < B) (o : Nat) (u : Value) : K3 (w.setCell ⟨b, o, none⟩ u) B g1 g2 g3 n1 n2 n3 c1 c2 c3 F1 F2 F3 :=
  ⟨h.r1.far (by have := h.r1.le.1; simp; omega) u, h.r2.far (by have := h.r2.le.1; simp; omega) u, h.r3.far (by have := h.r3.le.1; simp; omega) u⟩
theorem K3.FA {w : World} {B g1 g2 g3 n1 n2 n3 c1 c2 c3 : Nat} {F1 F2 F3 : Nat → Int} {W H : Int} (h : K3 w B g1 g2 g3 n1 n2 n3 c1 c2 c3 F1 F2 F3) (b1 : ∀ i, i < n1 → 0 ≤ F1 i ∧ F1 i < 256) (b2 : ∀ i, i < n2 → 0 ≤ F2 i ∧ F2 i < 256) (b3 : ∀ i, i < n3 → 0 ≤ F3 i ∧ F3 i < 256) :
    FA w (.agg #[.int .i64 W, .int .i64 H, .slice (some ⟨g1, 0, none⟩) n1 c1, .slice (some ⟨g2, 0, none⟩) n2 c2, .slice (some ⟨g3, 0, none⟩) n3 c3]) ⟨W, H, n1, n2, n3, F1, F2, F3⟩ :=
  ⟨_, _, _, rfl, h.r1.BA b1, h.r2.BA b2, h.r3.BA b3⟩
theorem Fz.set {w : World} {b b' o : Nat} {u : Value} (h : Fz w b) : Fz (w.setCell ⟨b', o, none⟩ u) b := ⟨by rw [World.size_setCell]; exact h.1, fun o => by rw [World.frozen?_setCell]; exact h.2 o⟩

set_option maxRecDepth 100000 in
set_option maxHeartbeats 2000000 in
theorem clone_fr (v : Value) (F : Fr) (w : World) (hv : FA w v F) (hF : F.ok = true) :
    Calls Try.prog 55 #[v] w fun e w' => ∃ g1 c1 g2 c2 g3 c3, e = .returned (.agg #[.int .i64 F.W, .int .i64 F.H, .slice (some ⟨g1, 0, none⟩) F.nY c1, .slice (some ⟨g2, 0, none⟩) F.nU c2, .slice (some ⟨g3, 0, none⟩) F.nV c3]) ∧
      K3 w' w.heap.size g1 g2 g3 F.nY F.nU F.nV c1 c2 c3 F.Y F.U F.V ∧ g1 ≠ g2 ∧ g1 ≠ g3 ∧ g2 ≠ g3 ∧ Below w.heap.size w w' := by
  obtain ⟨paY, caY, paU, caU, paV, caV, rfl⟩ := hv.shape
  obtain ⟨f1, f2, f3, f4, f5⟩ := ok_bd hF
  obtain ⟨ha1, ha2, ha3, -, -, -, la1, la2, la3⟩ := hv.plane
  obtain ⟨qa1, oa1, rfl, ca1⟩ := ha1 (by omega)
  obtain ⟨qa2, oa2, rfl, ca2⟩ := ha2 (by omega)
  obtain ⟨qa3, oa3, rfl, ca3⟩ := ha3 (by omega)
  have i1 : 0 < F.nY := by omega
  have i2 : 0 < F.nU := by omega
  have i3 : 0 < F.nV := by omega
  have j3 : F.nV ≤ 1024 := by omega
  have HC := Lib.hid (And.intro ca1 (And.intro ca2 ca3))
  clear ca1 ca2 ca3 hv f5
  go_enter Try.func55, Try.ntmps55
  go_upto_region 1 with fail
  obtain ⟨w1, hw⟩ : ∃ x, x = (w.alloc (.cells #[.int .i64 F.W, .int .i64 F.H, .slice (some ⟨qa1, oa1, none⟩) F.nY caY, .slice (some ⟨qa2, oa2, none⟩) F.nU caU, .slice (some ⟨qa3, oa3, none⟩) F.nV caV] 26)).alloc (.cells #[.int .i64 0, .int .i64 0, .slice none 0 0, .slice none 0 0, .slice none 0 0] 26) := ⟨_, rfl⟩
  rw [← hw]
  have hE : Below w.heap.size w w1 := by rw [hw]; go_grown
  have BX_a := Lib.hid (show BX w1 w.heap.size _ _ _ _ _ by rw [hw]; exact (BX.of_alloc _ _ _ _ _ _ _).below (below_box _ _))
  have BX_r := Lib.hid (show BX w1 (w.heap.size + 1) _ _ _ _ _ by rw [hw]; exact BX.of_alloc' _ _ _ _ _ _ _ _ (by simp))
  have FZ_a := Lib.hid (show Fz w1 w.heap.size from ⟨by rw [hw]; simp; omega, fun o => by rw [hw]; simp [go_sem]⟩)
  have FZ_r := Lib.hid (show Fz w1 (w.heap.size + 1) from ⟨by rw [hw]; simp, fun o => by rw [hw]; simp [go_sem]⟩)
  have HB := Lib.hid hE
  clear hw hE
  obtain ⟨bla, hbla⟩ : ∃ b, b = w.heap.size := ⟨_, rfl⟩
  obtain ⟨blr, hblr⟩ : ∃ b, b = w.heap.size + 1 := ⟨_, rfl⟩
  rw [← hblr] at BX_r FZ_r ⊢
  have ea : bla ≤ w.heap.size := by omega
  have eb : w.heap.size ≤ bla := by omega
  have ec : w.heap.size < blr := by omega
  rw [← hbla] at BX_a FZ_a
  have hgoal : w.heap.size = bla := hbla.symm
  have EG := Lib.hid hgoal
  clear hbla hblr hgoal
  rw [EG.out]
  obtain ⟨a0, a1, a2, a3, a4⟩ := BX_a.out
  have fz := FZ_a.out.2
  have sz1 := BX_r.out.lt
  have sy1 := FZ_a.out.1
  go_wp2_with (at_builtin; refine wpList_clone2 _ rfl _ _ rfl _ qa1 oa1 F.nY caY F.Y rfl rfl ?_ (by omega) (by omega) ?_)
  · intro i hi
    have h := HC.out.1 i hi
    rw [World.cell?_alloc_past _ _ _ (by have := block_lt_of_cell h; have := HB.out.size; simp only at *; omega)]
    exact (HB.out.cell (block_lt_of_cell h)).trans h
  intro g1 c1 u1 hr hx
  have hE : Below w1.heap.size w1 u1 := (below_box _ _).trans (hx.mono (by simp))
  have hl := hr.le
  try simp only [World.size_alloc] at hl
  have hr' := hr.mono (B' := w.heap.size) (by have := HB.out.size; omega)
  have HR1 := Lib.hid hr'
  replace BX_a := Lib.hid (BX_a.out.below hE)
  replace BX_r := Lib.hid (BX_r.out.below hE)
  replace FZ_a := Lib.hid (FZ_a.out.below hE)
  replace FZ_r := Lib.hid (FZ_r.out.below hE)
  replace HB := Lib.hid (HB.out.trans (hE.mono HB.out.size))
  have hg1 : g1 < u1.heap.size := hl.2.1
  have hq1 : w1.heap.size < g1 + 1 := by omega
  clear hr hr' hx a0 a1 a2 a3 a4 fz hE hl
  obtain ⟨a0, a1, a2, a3, a4⟩ := BX_a.out
  have fz := FZ_a.out.2
  have nr := BX_r.out.lt
  go_upto_region 2 with fail
  obtain ⟨v1, hw⟩ : ∃ x, x = u1.setCell ⟨bla, 2, none⟩ (.slice (some ⟨g1, 0, none⟩) F.nY c1) := ⟨_, rfl⟩
  rw [← hw]
  have hE : Below w.heap.size u1 v1 := by rw [hw]; exact (Below.refl _ _).setCell (by simp; omega) _
  have hs : v1.heap.size = u1.heap.size := by rw [hw, World.size_setCell]
  replace BX_a := Lib.hid (show BX v1 bla (.int .i64 F.W) (.int .i64 F.H) (.slice (some ⟨g1, 0, none⟩) F.nY c1) (.slice (some ⟨qa2, oa2, none⟩) F.nU caU) (.slice (some ⟨qa3, oa3, none⟩) F.nV caV) from by rw [hw]; exact ⟨by simp [go_sem, a0], by simp [go_sem, a1], by simp [go_sem, a2], by simp [go_sem, a3], by simp [go_sem, a4]⟩)
  have hne : blr ≠ bla := by omega
  have hh := fun b (hb : b ≠ bla) => Below.heap_setCell u1 ⟨bla, 2, none⟩ (.slice (some ⟨g1, 0, none⟩) F.nY c1) b hb
  replace BX_r := Lib.hid (show BX v1 blr _ _ _ _ _ from by rw [hw]; exact ⟨(World.cell?_of_block (a := ⟨blr, 0, none⟩) (hh _ hne)).trans BX_r.out.k0, (World.cell?_of_block (a := ⟨blr, 1, none⟩) (hh _ hne)).trans BX_r.out.k1, (World.cell?_of_block (a := ⟨blr, 2, none⟩) (hh _ hne)).trans BX_r.out.k2, (World.cell?_of_block (a := ⟨blr, 3, none⟩) (hh _ hne)).trans BX_r.out.k3, (World.cell?_of_block (a := ⟨blr, 4, none⟩) (hh _ hne)).trans BX_r.out.k4⟩)
  replace FZ_a := Lib.hid (show Fz v1 bla from by rw [hw]; exact FZ_a.out.set)
  replace FZ_r := Lib.hid (show Fz v1 blr from by rw [hw]; exact FZ_r.out.set)
  replace HR1 := Lib.hid (show Row v1 _ _ _ _ _ from by rw [hw]; exact HR1.out.far (by simp; omega) _)
  replace HB := Lib.hid (HB.out.trans hE)
  replace hg1 : g1 < v1.heap.size := by omega
  clear hw hE hs hne hh a0 a1 a2 a3 a4 fz nr
  obtain ⟨a0, a1, a2, a3, a4⟩ := BX_a.out
  have fz := FZ_a.out.2
  have sz2 := BX_r.out.lt
  have sy2 := FZ_a.out.1
  go_wp2_with (at_builtin; refine wpList_clone2 _ rfl _ _ rfl _ qa2 oa2 F.nU caU F.U rfl rfl ?_ (by omega) (by omega) ?_)
  · intro i hi
    have h := HC.out.2.1 i hi
    rw [World.cell?_alloc_past _ _ _ (by have := block_lt_of_cell h; have := HB.out.size; simp only at *; omega)]
    exact (HB.out.cell (block_lt_of_cell h)).trans h
  intro g2 c2 u2 hr hx
  have hE : Below v1.heap.size v1 u2 := (below_box _ _).trans (hx.mono (by simp))
  have hl := hr.le
  try simp only [World.size_alloc] at hl
  have hr' := hr.mono (B' := w.heap.size) (by have := HB.out.size; omega)
  have HR2 := Lib.hid hr'
  replace BX_a := Lib.hid (BX_a.out.below hE)
  replace BX_r := Lib.hid (BX_r.out.below hE)
  replace FZ_a := Lib.hid (FZ_a.out.below hE)
  replace FZ_r := Lib.hid (FZ_r.out.below hE)
  replace HR1 := Lib.hid (HR1.out.below hE)
  replace HB := Lib.hid (HB.out.trans (hE.mono HB.out.size))
  have d12 : g1 ≠ g2 := by have := HR1.out; have h2 := hg1; omega
  have hg2 : g2 < u2.heap.size := hl.2.1
  have hq2 : v1.heap.size < g2 + 1 := by omega
  clear hr hr' hx a0 a1 a2 a3 a4 fz hE hl
  obtain ⟨a0, a1, a2, a3, a4⟩ := BX_a.out
  have fz := FZ_a.out.2
  have nr := BX_r.out.lt
  go_upto_region 3 with fail
  obtain ⟨v2, hw⟩ : ∃ x, x = u2.setCell ⟨bla, 3, none⟩ (.slice (some ⟨g2, 0, none⟩) F.nU c2) := ⟨_, rfl⟩
  rw [← hw]
  have hE : Below w.heap.size u2 v2 := by rw [hw]; exact (Below.refl _ _).setCell (by simp; omega) _
  have hs : v2.heap.size = u2.heap.size := by rw [hw, World.size_setCell]
  replace BX_a := Lib.hid (show BX v2 bla (.int .i64 F.W) (.int .i64 F.H) (.slice (some ⟨g1, 0, none⟩) F.nY c1) (.slice (some ⟨g2, 0, none⟩) F.nU c2) (.slice (some ⟨qa3, oa3, none⟩) F.nV caV) from by rw [hw]; exact ⟨by simp [go_sem, a0], by simp [go_sem, a1], by simp [go_sem, a2], by simp [go_sem, a3], by simp [go_sem, a4]⟩)
  have hne : blr ≠ bla := by omega
  have hh := fun b (hb : b ≠ bla) => Below.heap_setCell u2 ⟨bla, 3, none⟩ (.slice (some ⟨g2, 0, none⟩) F.nU c2) b hb
  replace BX_r := Lib.hid (show BX v2 blr _ _ _ _ _ from by rw [hw]; exact ⟨(World.cell?_of_block (a := ⟨blr, 0, none⟩) (hh _ hne)).trans BX_r.out.k0, (World.cell?_of_block (a := ⟨blr, 1, none⟩) (hh _ hne)).trans BX_r.out.k1, (World.cell?_of_block (a := ⟨blr, 2, none⟩) (hh _ hne)).trans BX_r.out.k2, (World.cell?_of_block (a := ⟨blr, 3, none⟩) (hh _ hne)).trans BX_r.out.k3, (World.cell?_of_block (a := ⟨blr, 4, none⟩) (hh _ hne)).trans BX_r.out.k4⟩)
  replace FZ_a := Lib.hid (show Fz v2 bla from by rw [hw]; exact FZ_a.out.set)
  replace FZ_r := Lib.hid (show Fz v2 blr from by rw [hw]; exact FZ_r.out.set)
  replace HR1 := Lib.hid (show Row v2 _ _ _ _ _ from by rw [hw]; exact HR1.out.far (by simp; omega) _)
  replace HR2 := Lib.hid (show Row v2 _ _ _ _ _ from by rw [hw]; exact HR2.out.far (by simp; omega) _)
  replace HB := Lib.hid (HB.out.trans hE)
  replace hg1 : g1 < v2.heap.size := by omega
  replace hg2 : g2 < v2.heap.size := by omega
  clear hw hE hs hne hh a0 a1 a2 a3 a4 fz nr
  obtain ⟨a0, a1, a2, a3, a4⟩ := BX_a.out
  have fz := FZ_a.out.2
  have sz3 := BX_r.out.lt
  have sy3 := FZ_a.out.1
  go_wp2_with (at_builtin; refine wpList_clone2 _ rfl _ _ rfl _ qa3 oa3 F.nV caV F.V rfl rfl ?_ (by omega) (by omega) ?_)
  · intro i hi
    have h := HC.out.2.2 i hi
    rw [World.cell?_alloc_past _ _ _ (by have := block_lt_of_cell h; have := HB.out.size; simp only at *; omega)]
    exact (HB.out.cell (block_lt_of_cell h)).trans h
  intro g3 c3 u3 hr hx
  have hE : Below v2.heap.size v2 u3 := (below_box _ _).trans (hx.mono (by simp))
  have hl := hr.le
  try simp only [World.size_alloc] at hl
  have hr' := hr.mono (B' := w.heap.size) (by have := HB.out.size; omega)
  have HR3 := Lib.hid hr'
  replace BX_a := Lib.hid (BX_a.out.below hE)
  replace BX_r := Lib.hid (BX_r.out.below hE)
  replace FZ_a := Lib.hid (FZ_a.out.below hE)
  replace FZ_r := Lib.hid (FZ_r.out.below hE)
  replace HR1 := Lib.hid (HR1.out.below hE)
  replace HR2 := Lib.hid (HR2.out.below hE)
  replace HB := Lib.hid (HB.out.trans (hE.mono HB.out.size))
  have d13 : g1 ≠ g3 := by have := HR1.out; have h2 := hg1; omega
  have d23 : g2 ≠ g3 := by have := HR2.out; have h2 := hg2; omega
  have hg3 : g3 < u3.heap.size := hl.2.1
  have hq3 : v2.heap.size < g3 + 1 := by omega
  clear hr hr' hx a0 a1 a2 a3 a4 fz hE hl
  obtain ⟨a0, a1, a2, a3, a4⟩ := BX_a.out
  have fz := FZ_a.out.2
  have nr := BX_r.out.lt
  go_upto_region 4 with fail
  obtain ⟨v3, hw⟩ : ∃ x, x = u3.setCell ⟨bla, 4, none⟩ (.slice (some ⟨g3, 0, none⟩) F.nV c3) := ⟨_, rfl⟩
  rw [← hw]
  have hE : Below w.heap.size u3 v3 := by rw [hw]; exact (Below.refl _ _).setCell (by simp; omega) _
  have hs : v3.heap.size = u3.heap.size := by rw [hw, World.size_setCell]
  replace BX_a := Lib.hid (show BX v3 bla (.int .i64 F.W) (.int .i64 F.H) (.slice (some ⟨g1, 0, none⟩) F.nY c1) (.slice (some ⟨g2, 0, none⟩) F.nU c2) (.slice (some ⟨g3, 0, none⟩) F.nV c3) from by rw [hw]; exact ⟨by simp [go_sem, a0], by simp [go_sem, a1], by simp [go_sem, a2], by simp [go_sem, a3], by simp [go_sem, a4]⟩)
  have hne : blr ≠ bla := by omega
  have hh := fun b (hb : b ≠ bla) => Below.heap_setCell u3 ⟨bla, 4, none⟩ (.slice (some ⟨g3, 0, none⟩) F.nV c3) b hb
  replace BX_r := Lib.hid (show BX v3 blr _ _ _ _ _ from by rw [hw]; exact ⟨(World.cell?_of_block (a := ⟨blr, 0, none⟩) (hh _ hne)).trans BX_r.out.k0, (World.cell?_of_block (a := ⟨blr, 1, none⟩) (hh _ hne)).trans BX_r.out.k1, (World.cell?_of_block (a := ⟨blr, 2, none⟩) (hh _ hne)).trans BX_r.out.k2, (World.cell?_of_block (a := ⟨blr, 3, none⟩) (hh _ hne)).trans BX_r.out.k3, (World.cell?_of_block (a := ⟨blr, 4, none⟩) (hh _ hne)).trans BX_r.out.k4⟩)
  replace FZ_a := Lib.hid (show Fz v3 bla from by rw [hw]; exact FZ_a.out.set)
  replace FZ_r := Lib.hid (show Fz v3 blr from by rw [hw]; exact FZ_r.out.set)
  replace HR1 := Lib.hid (show Row v3 _ _ _ _ _ from by rw [hw]; exact HR1.out.far (by simp; omega) _)
  replace HR2 := Lib.hid (show Row v3 _ _ _ _ _ from by rw [hw]; exact HR2.out.far (by simp; omega) _)
  replace HR3 := Lib.hid (show Row v3 _ _ _ _ _ from by rw [hw]; exact HR3.out.far (by simp; omega) _)
  replace HB := Lib.hid (HB.out.trans hE)
  replace hg1 : g1 < v3.heap.size := by omega
  replace hg2 : g2 < v3.heap.size := by omega
  replace hg3 : g3 < v3.heap.size := by omega
  clear hw hE hs hne hh a0 a1 a2 a3 a4 fz nr
  obtain ⟨a0, a1, a2, a3, a4⟩ := BX_a.out
  obtain ⟨r0, r1, r2, r3, r4⟩ := BX_r.out
  have fz := FZ_r.out.2
  go_wp2_with fail
  refine bodyPost_ret (v := .agg #[.int .i64 F.W, .int .i64 F.H, .slice (some ⟨g1, 0, none⟩) F.nY c1, .slice (some ⟨g2, 0, none⟩) F.nU c2, .slice (some ⟨g3, 0, none⟩) F.nV c3]) (by simp [results, Try.results55, go_sem, r0, r1, r2, r3, r4]) rfl ?_
  have hB := HB.out
  refine ⟨g1, c1, g2, c2, g3, c3, rfl, ?_, d12, d13, d23, by go_grown⟩
  have n1 : blr ≠ g1 := by omega
  have n2 : blr ≠ g2 := by omega
  have n3 : blr ≠ g3 := by omega
  exact ⟨((((HR1.out.far n1 _).far n1 _).far n1 _).far n1 _).far n1 _, ((((HR2.out.far n2 _).far n2 _).far n2 _).far n2 _).far n2 _, ((((HR3.out.far n3 _).far n3 _).far n3 _).far n3 _).far n3 _⟩

end Go.Proofs.Ytnnobdcbmagbaaa

/- Plain laws of the key: what it computes, its ends. -/
namespace Go.Proofs.Ytnnobdcbmagbaaa
open Go.RowKit

/-- The luma sample over chroma sample i. -/
def cornerI (W : Int) (i : Nat) : Int := (i : Int) / (W / 2) * 2 * W + (i : Int) % (W / 2) * 2
def corner (W : Int) (i : Nat) : Nat := (cornerI W i).toNat
def keyMean (W : Int) (Y : Nat → Int) (i : Nat) : Int := (Y (corner W i) + Y (corner W i + 1) + (Y (corner W i + W.toNat) + Y (corner W i + W.toNat + 1)) + 2) / 4
def keyY (t : Int) (X Y : Nat → Int) (i : Nat) : Int := if t ≤ X i then X i else Y i
def keyC (t W : Int) (L X Y : Nat → Int) (i : Nat) : Int := if t ≤ keyMean W L i then X i else Y i
def keyFr (t : Int) (F G : Fr) : Fr := ⟨F.W, F.H, F.nY, F.nU, F.nV, keyY t F.Y G.Y, keyC t F.W F.Y F.U G.U, keyC t F.W F.Y F.V G.V⟩
def okThr (t : Int) : Bool := decide (0 ≤ t ∧ t ≤ 255)

theorem okSize_four {W H : Int} (h : okSize W H = true) : (W = 16 ∨ W = 32 ∨ W = 48 ∨ W = 64) ∧ (H = 16 ∨ H = 32 ∨ H = 48 ∨ H = 64) := by
  simp [okSize] at h; omega

theorem corner_bd {W H : Int} {i : Nat} (h : okSize W H = true) (hi : (i : Int) < W / 2 * (H / 2)) :
    0 ≤ cornerI W i ∧ cornerI W i + W + 1 < W * H ∧ 0 ≤ (i : Int) / (W / 2) * 2 * W ∧ (i : Int) / (W / 2) * 2 * W ≤ 4096 ∧ 0 ≤ (i : Int) / (W / 2) ∧ (i : Int) / (W / 2) ≤ 1024 ∧ 0 ≤ (i : Int) % (W / 2) ∧ (i : Int) % (W / 2) ≤ 64 := by
  obtain ⟨hW, hH⟩ := okSize_four h
  unfold cornerI
  rcases hW with rfl | rfl | rfl | rfl <;> rcases hH with rfl | rfl | rfl | rfl <;> (simp at hi ⊢; omega)

theorem keyY_bd {t : Int} {n : Nat} {X Y : Nat → Int} (hX : ∀ i, i < n → 0 ≤ X i ∧ X i < 256) (hY : ∀ i, i < n → 0 ≤ Y i ∧ Y i < 256) (i : Nat) (hi : i < n) : 0 ≤ keyY t X Y i ∧ keyY t X Y i < 256 := by
  unfold keyY; split
  · exact hX i hi
  · exact hY i hi
theorem keyC_bd {t W : Int} {n : Nat} {L X Y : Nat → Int} (hX : ∀ i, i < n → 0 ≤ X i ∧ X i < 256) (hY : ∀ i, i < n → 0 ≤ Y i ∧ Y i < 256) (i : Nat) (hi : i < n) : 0 ≤ keyC t W L X Y i ∧ keyC t W L X Y i < 256 := by
  unfold keyC; split
  · exact hX i hi
  · exact hY i hi

theorem corner_lt {F : Fr} (hF : F.ok = true) {i : Nat} (hi : i < F.nU) : corner F.W i + F.W.toNat + 1 < F.nY ∧ ((corner F.W i : Nat) : Int) = cornerI F.W i := by
  obtain ⟨h0, h1, h2, h3⟩ := ok_dims hF
  obtain ⟨c1, c2, _⟩ := corner_bd h0 (i := i) (by omega)
  have hb := okSize_bd h0
  unfold corner
  omega

theorem mean_bd {F : Fr} {lo hi : Int} (hF : F.ok = true) (hY : ∀ i, i < F.nY → lo ≤ F.Y i ∧ F.Y i ≤ hi) {i : Nat} (hi' : i < F.nU) : lo ≤ keyMean F.W F.Y i ∧ keyMean F.W F.Y i ≤ hi := by
  obtain ⟨c1, _⟩ := corner_lt hF hi'
  have a1 := hY (corner F.W i) (by omega)
  have a2 := hY (corner F.W i + 1) (by omega)
  have a3 := hY (corner F.W i + F.W.toNat) (by omega)
  have a4 := hY (corner F.W i + F.W.toNat + 1) (by omega)
  unfold keyMean
  omega

theorem key_zero {F G : Fr} (hF : F.ok = true) (hY : ∀ i, i < F.nY → 0 ≤ F.Y i ∧ F.Y i < 256) : frSame (keyFr 0 F G) F = true := by
  have e := (ok_bd hF).2.2.2.2
  refine frSame_of rfl rfl rfl rfl rfl (fun i hi => if_pos (hY i hi).1) (fun i hi => if_pos (mean_bd hF (lo := 0) (hi := 255) (fun j hj => by have := hY j hj; omega) hi).1) (fun i hi => if_pos (mean_bd hF (lo := 0) (hi := 255) (fun j hj => by have := hY j hj; omega) (show i < F.nU by have : i < F.nV := hi; omega)).1)

theorem key_self {F : Fr} {t : Int} : frSame (keyFr t F F) F = true :=
  frSame_of rfl rfl rfl rfl rfl (fun i _ => by simp [keyFr, keyY]) (fun i _ => by simp [keyFr, keyC]) (fun i _ => by simp [keyFr, keyC])

theorem key_dark {F G : Fr} (hp : pairOk F G = true) (hY : ∀ i, i < F.nY → 0 ≤ F.Y i ∧ F.Y i ≤ 127) : frSame (keyFr 128 F G) G = true := by
  obtain ⟨hF, _, e1, e2, e3, e4, e5⟩ := pair_dims hp
  have e := (ok_bd hF).2.2.2.2
  refine frSame_of e1 e2 e3.symm e4.symm e5.symm (fun i hi => if_neg (by have := hY i hi; omega)) (fun i hi => if_neg (by have := (mean_bd hF (lo := 0) (hi := 127) hY hi).2; omega)) (fun i hi => if_neg (by have := (mean_bd hF (lo := 0) (hi := 127) hY (show i < F.nU by have : i < F.nV := hi; omega)).2; omega))

end Go.Proofs.Ytnnobdcbmagbaaa

/- What a function gives back out of a frame's block: read without a look at all slots. -/
namespace Go.Proofs.Ytnnobdcbmagbaaa
open Go.RowKit
set_option linter.unusedVariables false

theorem results_cell_tmp {fn : Func} {c s : Tmp} {ty : TypeId} (h : fn.results = #[.cell c ty, .tmp s]) (tmps : Array Value) (P : Program) (w : World) {p : Addr} {r e : Value} (h1 : tmps.getD c undef = .pointer (some p)) (h2 : tmps.getD s undef = e) (h3 : (loadVar ty p).run P w = .ok r w) :
    (results fn tmps).run P w = .ok (.tuple #[r, e]) w := by
  rw [Array.getD_eq_getD_getElem?] at h1 h2
  simp [results, h, h1, h2, h3, asAddr]

theorem results_cell {fn : Func} {c : Tmp} {ty : TypeId} (h : fn.results = #[.cell c ty]) (tmps : Array Value) (P : Program) (w : World) {p : Addr} {r : Value} (h1 : tmps.getD c undef = .pointer (some p)) (h3 : (loadVar ty p).run P w = .ok r w) :
    (results fn tmps).run P w = .ok r w := by
  rw [Array.getD_eq_getD_getElem?] at h1
  simp [results, h, h1, h3, asAddr]

theorem load_fr {w : World} {b : Nat} {c0 c1 c2 c3 c4 : Value} (h : BX w b c0 c1 c2 c3 c4) : (loadVar 26 ⟨b, 0, none⟩).run Try.prog w = .ok (.agg #[c0, c1, c2, c3, c4]) w := by
  obtain ⟨h0, h1, h2, h3, h4⟩ := h
  simp [go_sem, h0, h1, h2, h3, h4]

theorem BX.put5 {w : World} {b : Nat} {x0 x1 x2 x3 x4 : Value} (h : BX w b x0 x1 x2 x3 x4) (c0 c1 c2 c3 c4 : Value) : BX (((((w.setCell ⟨b, 0, none⟩ c0).setCell ⟨b, 1, none⟩ c1).setCell ⟨b, 2, none⟩ c2).setCell ⟨b, 3, none⟩ c3).setCell ⟨b, 4, none⟩ c4) b c0 c1 c2 c3 c4 := by
  obtain ⟨h0, h1, h2, h3, h4⟩ := h
  exact ⟨by simp [go_sem, h0], by simp [go_sem, h1], by simp [go_sem, h2], by simp [go_sem, h3], by simp [go_sem, h4]⟩

theorem Row.drew {w : World} {B g n c : Nat} {F : Nat → Int} (h : Row w B g n c F) : Row w.drew B g n c F := h.below (Below.refl _ _).drew

theorem wipe_at {W H d num den : Int} {X Y : Nat → Int} {k : Nat} {a s : Int} (hp : placeF ((k : Int) % W) ((k : Int) / W) W H d = (a, s)) : wipeF W H d num den X Y k = if a * den < s * num then Y k else X k := by
  unfold wipeF; rw [hp]

theorem ok_lt3 {F : Fr} (h : F.ok = true) : (∀ i : Nat, i < F.nY → (i : Int) < F.W * F.H) ∧ (∀ i : Nat, i < F.nU → (i : Int) < F.W / 2 * (F.H / 2)) ∧ (∀ i : Nat, i < F.nV → (i : Int) < F.W / 2 * (F.H / 2)) := by
  obtain ⟨h0, h1, h2, h3⟩ := ok_dims h
  exact ⟨fun i hi => by omega, fun i hi => by omega, fun i hi => by omega⟩

end Go.Proofs.Ytnnobdcbmagbaaa

/- Aid for the walks of Key and its reference: two blocks written, one cell, a clone with the other frame's size, the corner as a natural number. -/
namespace Go.Proofs.Ytnnobdcbmagbaaa
open Go.RowKit
set_option linter.unusedVariables false

/-- Only the blocks g and h may have been written. -/
structure Only2 (w w' : World) (g h : Nat) : Prop where
  os : w'.os = w.os
  tape : w'.tape = w.tape
  output : w'.output = w.output
  size : w.heap.size ≤ w'.heap.size
  block : ∀ k, k < w.heap.size → k ≠ g → k ≠ h → w'.heap[k]? = w.heap[k]?
theorem Only2.refl (w : World) (g h : Nat) : Only2 w w g h := ⟨rfl, rfl, rfl, Nat.le_refl _, fun _ _ _ _ => rfl⟩
theorem Only2.drew {w w' : World} {g h : Nat} (k : Only2 w w' g h) : Only2 w w'.drew g h := ⟨k.os, k.tape, k.output, k.size, k.block⟩
theorem Only2.set1 {w w' : World} {g h : Nat} (k : Only2 w w' g h) (o : Nat) (u : Value) : Only2 w (w'.setCell ⟨g, o, none⟩ u) g h :=
  ⟨k.os, k.tape, k.output, by rw [World.size_setCell]; exact k.size, fun i hi h1 h2 => by rw [Below.heap_setCell _ _ _ _ h1]; exact k.block i hi h1 h2⟩
theorem Only2.set2 {w w' : World} {g h : Nat} (k : Only2 w w' g h) (o : Nat) (u : Value) : Only2 w (w'.setCell ⟨h, o, none⟩ u) g h :=
  ⟨k.os, k.tape, k.output, by rw [World.size_setCell]; exact k.size, fun i hi h1 h2 => by rw [Below.heap_setCell _ _ _ _ h2]; exact k.block i hi h1 h2⟩
theorem Only2.cell {w w' : World} {g h b o : Nat} {v : Value} (k : Only2 w w' g h) (hc : w.cell? ⟨b, o, none⟩ = some v) (h1 : b ≠ g) (h2 : b ≠ h) : w'.cell? ⟨b, o, none⟩ = some v :=
  (World.cell?_of_block (a := ⟨b, o, none⟩) (k.block b (block_lt_of_cell hc) h1 h2)).trans hc
theorem Only2.below {w w' : World} {g h B : Nat} (k : Only2 w w' g h) (h1 : B ≤ g) (h2 : B ≤ h) (hs : B ≤ w.heap.size) : Below B w w' :=
  ⟨k.os, k.tape, k.output, k.size, fun i hi => k.block i (Nat.lt_of_lt_of_le hi hs) (by omega) (by omega)⟩
theorem Only2.row {w w' : World} {g h B b n c : Nat} {F : Nat → Int} (k : Only2 w w' g h) (r : Row w B b n c F) (h1 : b ≠ g) (h2 : b ≠ h) : Row w' B b n c F := by
  have hl := r.le
  refine ⟨r.1, ?_⟩
  rcases r.2 with ⟨h', _⟩ | ⟨g', cap', cur, h', q1, q2, q3⟩
  · simp at h'
  · simp only [Value.slice.injEq, Option.some.injEq, Addr.mk.injEq, and_true, true_and] at h'
    obtain ⟨rfl, rfl⟩ := h'
    exact .inr ⟨b, c, cur, rfl, q1, by rw [k.block b hl.2.1 h1 h2]; exact q2, q3⟩
theorem BX.only2 {w w' : World} {b g h : Nat} {c0 c1 c2 c3 c4 : Value} (x : BX w b c0 c1 c2 c3 c4) (k : Only2 w w' g h) (h1 : b ≠ g) (h2 : b ≠ h) : BX w' b c0 c1 c2 c3 c4 :=
  ⟨k.cell x.k0 h1 h2, k.cell x.k1 h1 h2, k.cell x.k2 h1 h2, k.cell x.k3 h1 h2, k.cell x.k4 h1 h2⟩
theorem Fz.only2 {w w' : World} {b g h : Nat} (x : Fz w b) (k : Only2 w w' g h) (h1 : b ≠ g) (h2 : b ≠ h) : Fz w' b :=
  ⟨Nat.lt_of_lt_of_le x.1 k.size, fun o => (World.frozen?_of_block (a := ⟨b, o, none⟩) (k.block b x.1 h1 h2)).trans (x.2 o)⟩

/-- Block b holds one cell. -/
structure C1 (w : World) (b : Nat) (c : Value) : Prop where
  k0 : w.cell? ⟨b, 0, none⟩ = some c
theorem C1.lt {w : World} {b : Nat} {c : Value} (h : C1 w b c) : b < w.heap.size := block_lt_of_cell h.k0
theorem C1.below {w w' : World} {b : Nat} {c : Value} (h : C1 w b c) (hb : Below w.heap.size w w') : C1 w' b c := ⟨(hb.cell h.lt).trans h.k0⟩
theorem C1.only {w w' : World} {b g : Nat} {c : Value} (h : C1 w b c) (hg : w.grownBy w' (some g)) (hne : b ≠ g) : C1 w' b c := ⟨only_cell hg h.k0 hne⟩
theorem C1.only2 {w w' : World} {b g h : Nat} {c : Value} (x : C1 w b c) (k : Only2 w w' g h) (h1 : b ≠ g) (h2 : b ≠ h) : C1 w' b c := ⟨k.cell x.k0 h1 h2⟩

theorem clone_as (v : Value) (F G : Fr) (Wn : Nat) (w : World) (hv : FA w v G) (hG : G.ok = true) (d : Dim G F) (hW : F.W = (Wn : Int)) :
    Calls Try.prog 55 #[v] w fun e w' => ∃ g1 c1 g2 c2 g3 c3, e = .returned (.agg #[.int .i64 (Wn : Int), .int .i64 F.H, .slice (some ⟨g1, 0, none⟩) F.nY c1, .slice (some ⟨g2, 0, none⟩) F.nU c2, .slice (some ⟨g3, 0, none⟩) F.nV c3]) ∧
      K3 w' w.heap.size g1 g2 g3 F.nY F.nU F.nV c1 c2 c3 G.Y G.U G.V ∧ g1 ≠ g2 ∧ g1 ≠ g3 ∧ g2 ≠ g3 ∧ Below w.heap.size w w' := by
  obtain ⟨d1, d2, d3, d4, d5⟩ := d
  rw [← hW, ← d1, ← d2, ← d3, ← d4, ← d5]
  exact clone_fr v G w hv hG

theorem corner_all {F : Fr} {Wn k : Nat} (hF : F.ok = true) (hW : F.W = (Wn : Int)) (hk : k < F.nU) :
    ∃ m : Nat, (k : Int) / ((Wn : Int) / 2) * 2 * (Wn : Int) + (k : Int) % ((Wn : Int) / 2) * 2 = (m : Int) ∧ m + Wn + 1 < F.nY ∧ corner F.W k = m ∧ F.W.toNat = Wn ∧ IntKind.i64.wrap ((k : Int) / ((Wn : Int) / 2) * 2 * (Wn : Int)) = (k : Int) / ((Wn : Int) / 2) * 2 * (Wn : Int) ∧
      0 ≤ (k : Int) / ((Wn : Int) / 2) * 2 * (Wn : Int) ∧ (k : Int) / ((Wn : Int) / 2) * 2 * (Wn : Int) ≤ 4096 ∧ 0 ≤ (k : Int) / ((Wn : Int) / 2) ∧ (k : Int) / ((Wn : Int) / 2) ≤ 1024 ∧ 0 ≤ (k : Int) % ((Wn : Int) / 2) ∧ (k : Int) % ((Wn : Int) / 2) ≤ 64 := by
  obtain ⟨h0, h1, h2, h3⟩ := ok_dims hF
  obtain ⟨c1, c2, c3, c4, c5, c6, c7, c8⟩ := corner_bd h0 (i := k) (by omega)
  obtain ⟨l1, l2⟩ := corner_lt hF hk
  rw [hW] at c1 c2 c3 c4 c5 c6 c7 c8 l1 l2
  refine ⟨corner (Wn : Int) k, ?_, by simpa using l1, by rw [hW], by rw [hW]; simp, IntWalk.i64_in _ (by omega), c3, c4, c5, c6, c7, c8⟩
  rw [l2]; rfl

end Go.Proofs.Ytnnobdcbmagbaaa
