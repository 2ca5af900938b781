/- The contract of Wipe's cover. -/
import Derived.Test.YtnnobdcbmagbaaaH
namespace Go.Proofs.Ytnnobdcbmagbaaa
open Go.RowKit

def wipeF (W H d num den : Int) (X Y : Nat → Int) (i : Nat) : Int :=
  if (placeF ((i : Int) % W) ((i : Int) / W) W H d).1 * den < (placeF ((i : Int) % W) ((i : Int) / W) W H d).2 * num then Y i else X i

theorem div_bd {k : Nat} {W H : Int} (hW : 1 ≤ W) (hk : (k : Int) < W * H) : 0 ≤ (k : Int) % W ∧ (k : Int) % W < W ∧ 0 ≤ (k : Int) / W ∧ (k : Int) / W < H := by
  refine ⟨Int.emod_nonneg _ (by omega), Int.emod_lt_of_pos _ (by omega), Int.ediv_nonneg (by omega) (by omega), ?_⟩
  exact Int.ediv_lt_of_lt_mul (by omega) (by rw [Int.mul_comm]; exact hk)

theorem place_bd {x y w h d : Int} (hx : 0 ≤ x) (hx2 : x < w) (hy : 0 ≤ y) (hy2 : y < h) (hw2 : w ≤ 64) (hh2 : h ≤ 64) :
    0 ≤ (placeF x y w h d).1 ∧ (placeF x y w h d).1 < 64 ∧ 0 ≤ (placeF x y w h d).2 ∧ (placeF x y w h d).2 ≤ 64 := by
  unfold placeF
  split
  · exact ⟨by simp; omega, by simp; omega, by simp; omega, by simp; omega⟩
  split
  · exact ⟨by simp; omega, by simp; omega, by simp; omega, by simp; omega⟩
  split
  · exact ⟨by simp; omega, by simp; omega, by simp; omega, by simp; omega⟩
  · exact ⟨by simp; omega, by simp; omega, by simp; omega, by simp; omega⟩

theorem mul_bd {x y : Int} (h1 : 0 ≤ x) (h2 : x ≤ 64) (h3 : 0 ≤ y) (h4 : y ≤ 2147483648) : 0 ≤ x * y ∧ x * y ≤ 64 * 2147483648 :=
  ⟨Int.mul_nonneg h1 h3, Int.mul_le_mul h2 h4 h3 (by omega)⟩

set_option maxRecDepth 100000 in
set_option maxHeartbeats 1000000 in
theorem cover_any (n : Nat) (X Y : Nat → Int) (W H d num den : Int) (bn be bd bx ox cx by' oy cy : Nat) (w : World) (hn0 : 1 ≤ n) (hn : n ≤ 4096) (hW : 1 ≤ W) (hW2 : W ≤ 64) (hH : 1 ≤ H) (hH2 : H ≤ 64) (hWH : (n : Int) = W * H)
    (hX : ∀ i, i < n → w.cell? ⟨bx, ox + i, none⟩ = some (.int .u8 (X i))) (hcx : n ≤ cx)
    (hY : ∀ i, i < n → w.cell? ⟨by', oy + i, none⟩ = some (.int .u8 (Y i))) (hcy : n ≤ cy)
    (hd1 : 1 ≤ den) (hd2 : den ≤ 2147483648) (hn1 : 0 ≤ num) (hn2 : num ≤ den)
    (hcd : w.cell? ⟨bd, 0, none⟩ = some (.int .i64 d)) (hce : w.cell? ⟨be, 0, none⟩ = some (.int .i64 den)) (hcn : w.cell? ⟨bn, 0, none⟩ = some (.int .i64 num)) :
    Calls Try.prog 52 #[.slice (some ⟨bx, ox, none⟩) n cx, .slice (some ⟨by', oy, none⟩) n cy, .int .i64 W, .int .i64 H, .pointer (some ⟨bd, 0, none⟩), .pointer (some ⟨be, 0, none⟩), .pointer (some ⟨bn, 0, none⟩)] w fun e w' => ∃ g c,
       e = .returned (.slice (some ⟨g, 0, none⟩) n c) ∧ Row w' w.heap.size g n c (wipeF W H d num den X Y) ∧ Below w.heap.size w w' := by
  have lt1 := block_lt_of_cell hcd
  have lt2 := block_lt_of_cell hcn
  have lt0 := block_lt_of_cell hce
  have lt3 := block_lt_of_cell (hX 0 hn0)
  have lt4 := block_lt_of_cell (hY 0 hn0)
  simp only at lt0 lt1 lt2 lt3 lt4
  have HW := Lib.hid hWH
  clear hWH
  go_enter Try.func52, Try.ntmps52
  go_wp2_with (at_builtin; refine wpList_clone _ rfl _ _ rfl w.heap.size w.heap.size bx ox n cx X rfl (heap_alloc_new _ _) (Nat.le_refl _) rfl ?_ (by omega) ?_)
  · intro i hi; rw [World.cell?_alloc_past _ _ _ (by omega)]; exact hX i hi
  · intro g c w1 hr hg
    have hb1 : Below w.heap.size w w1 := (below_box w _).grown hg (by simp) (fun k h => by cases h; exact Nat.le_refl _)
    have hgl := hr.le
    clear hg
    go_wp2
    go_loopw [21] (fun i wr => ∃ k : Nat, k ≤ n ∧ i = .int .i64 k ∧ Row wr w.heap.size g n c (fun i => if i < k then wipeF W H d num den X Y i else X i) ∧ Below w.heap.size w wr) (fun i _ => n - (intOf i).toNat)
    case atStart => exact ⟨0, Nat.zero_le _, rfl, hr.congr (fun i _ => by simp), hb1⟩
    case round =>
      obtain ⟨k, hk, rfl, ho, hb⟩ := hrel
      by_cases hlt : k < n
      · have hc := ho.cell k hlt
        rw [if_neg (by omega)] at hc
        have hf := World.ownsRow.frozenAt ho k
        have hYk := (hb.cell (p := ⟨by', oy + k, none⟩) lt4).trans (hY k hlt)
        have hcd' := (hb.cell (p := ⟨bd, 0, none⟩) lt1).trans hcd
        have hce' := (hb.cell (p := ⟨be, 0, none⟩) lt0).trans hce
        have hcn' := (hb.cell (p := ⟨bn, 0, none⟩) lt2).trans hcn
        have cdr : wr.drew.cell? ⟨bd, 0, none⟩ = some (.int .i64 d) := hcd'
        obtain ⟨m1, m2, m3, m4⟩ := div_bd (k := k) (H := H) hW (by rw [← HW.out]; omega)
        have pb := place_bd (d := d) m1 m2 m3 m4 hW2 hH2
        have HO := Lib.hid ho
        have HD : Hid (wipeF W H d num den X Y k = if (placeF ((k : Int) % W) ((k : Int) / W) W H d).1 * den < (placeF ((k : Int) % W) ((k : Int) / W) W H d).2 * num then Y k else X k) := Lib.hid rfl
        generalize hq : placeF ((k : Int) % W) ((k : Int) / W) W H d = q at *
        obtain ⟨p, s⟩ := q
        have HQ := Lib.hid hq
        obtain ⟨pb1, pb2, pb3, pb4⟩ := pb
        simp only at pb1 pb2 pb3 pb4
        have u1 := mul_bd (x := p) (y := den) (by omega) (by omega) (by omega) (by omega)
        have u2 := mul_bd (x := s) (y := num) (by omega) (by omega) (by omega) (by omega)
        have v1 := IntWalk.i64_in (p * den) (by omega)
        have v2 := IntWalk.i64_in (s * num) (by omega)
        clear hX hY hr hb1 hcd hcn hce ho hq
        by_cases ht : p * den < s * num
        · have HT : Hid (wipeF W H d num den X Y k = Y k) := Lib.hid (by rw [HD.out]; exact if_pos ht)
          go_wp2
          refine Plan.wp_region_plan (fun w' => w'.cell? ⟨bd, 0, none⟩ = some (.int .i64 d)) (([0, 1, 2, 3, 4, 5, 6, 7, 8].map (·, true)) ++ (([9].map (·, false)) ++ (([10, 11, 12, 13, 14].map (·, true))))) (by kernel_rfl) (by kernel_rfl) (by kernel_rfl) cdr ?_
          refine' Plan.plan_seg _ [0, 1, 2, 3, 4, 5, 6, 7, 8] (([9].map (·, false)) ++ (([10, 11, 12, 13, 14].map (·, true)))) (by kernel_rfl) (by kernel_rfl) rfl (by exact cdr) (fun wx hS => ?_) ?_
          rotate_left
          · iterate 9 (apply Plan.seg_pick; rfl; intro K hK; go_wp)
            exact Plan.seg_nil
          refine Plan.plan_of_effect rfl (fun K hK => ?_)
          go_wp2_with fail
          refine (place_any _ _ _ _ _ _ (by omega) (by omega) (by omega) (by omega) (by omega) (by omega) (by omega) (by omega)).mono ?_
          rintro e wz ⟨rfl, rfl⟩
          rw [HQ.out]
          go_wp2_with fail
          refine ⟨cdr, ?_⟩
          refine' Plan.plan_seg _ [10, 11, 12, 13, 14] ([]) (by kernel_rfl) (by kernel_rfl) rfl (by exact cdr) (fun wx hS => ?_) ?_
          rotate_left
          · iterate 5 (apply Plan.seg_pick; rfl; intro K hK; go_wp)
            exact Plan.seg_nil
          refine Plan.plan_done ?_
          go_wp2
          go_roundw
          case rel =>
            refine ⟨k+1, by omega, by go_num, (HO.out.store k (F' := fun i => if i < k + 1 then wipeF W H d num den X Y i else X i) ?_ ?_), (hb.setCell (by simp; omega) _).drew⟩
            · simp [HT.out]
            · intro i _ hik; exact ite_iff (by omega)
          case measure => simp [intOf]; omega
        · have HT : Hid (wipeF W H d num den X Y k = X k) := Lib.hid (by rw [HD.out]; exact if_neg ht)
          go_wp2
          refine Plan.wp_region_plan (fun w' => w'.cell? ⟨bd, 0, none⟩ = some (.int .i64 d)) (([0, 1, 2, 3, 4, 5, 6, 7, 8].map (·, true)) ++ (([9].map (·, false)) ++ (([10, 11, 12, 13, 14].map (·, true))))) (by kernel_rfl) (by kernel_rfl) (by kernel_rfl) cdr ?_
          refine' Plan.plan_seg _ [0, 1, 2, 3, 4, 5, 6, 7, 8] (([9].map (·, false)) ++ (([10, 11, 12, 13, 14].map (·, true)))) (by kernel_rfl) (by kernel_rfl) rfl (by exact cdr) (fun wx hS => ?_) ?_
          rotate_left
          · iterate 9 (apply Plan.seg_pick; rfl; intro K hK; go_wp)
            exact Plan.seg_nil
          refine Plan.plan_of_effect rfl (fun K hK => ?_)
          go_wp2_with fail
          refine (place_any _ _ _ _ _ _ (by omega) (by omega) (by omega) (by omega) (by omega) (by omega) (by omega) (by omega)).mono ?_
          rintro e wz ⟨rfl, rfl⟩
          rw [HQ.out]
          go_wp2_with fail
          refine ⟨cdr, ?_⟩
          refine' Plan.plan_seg _ [10, 11, 12, 13, 14] ([]) (by kernel_rfl) (by kernel_rfl) rfl (by exact cdr) (fun wx hS => ?_) ?_
          rotate_left
          · iterate 5 (apply Plan.seg_pick; rfl; intro K hK; go_wp)
            exact Plan.seg_nil
          refine Plan.plan_done ?_
          go_wp2
          go_roundw
          case rel =>
            refine ⟨k+1, by omega, by go_num, HO.out.congr (fun i hi => ?_), hb.drew⟩
            by_cases hik : i = k
            · subst hik; simp [HT.out]
            · exact ite_iff (by omega)
          case measure => simp [intOf]; omega
      · obtain rfl : k = n := by omega
        have HO := Lib.hid (ho.congr (F' := wipeF W H d num den X Y) (fun i hi => if_pos hi))
        clear ho hr hb1
        go_wp2
        go_ret
        exact ⟨_, _, rfl, HO.out, hb⟩

end Go.Proofs.Ytnnobdcbmagbaaa
