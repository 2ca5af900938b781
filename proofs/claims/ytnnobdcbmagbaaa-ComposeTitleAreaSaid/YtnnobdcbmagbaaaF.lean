/- The contracts of flat and of Mix's blend. -/
import Derived.Test.YtnnobdcbmagbaaaE
namespace Go.Proofs.Ytnnobdcbmagbaaa
open Go.RowKit

theorem ite_iff {α : Type} {c d : Prop} [Decidable c] [Decidable d] (h : c ↔ d) {a b : α} : (if c then a else b) = if d then a else b := by by_cases hd : d <;> simp [h, hd]

def blend1 (num den x y : Int) : Int := ((x * (den - num) + y * num + den / 2) / den) % 256
theorem blend1_lt (num den x y : Int) : 0 ≤ blend1 num den x y ∧ blend1 num den x y < 256 := by unfold blend1; omega
def mixF (num den : Int) (X Y : Nat → Int) (i : Nat) : Int := blend1 num den (X i) (Y i)

theorem blend_bd {x y num den : Int} (hx0 : 0 ≤ x) (hx : x < 256) (hy0 : 0 ≤ y) (hy : y < 256) (hd1 : 1 ≤ den) (hd2 : den ≤ 2147483648) (hn1 : 0 ≤ num) (hn2 : num ≤ den) :
    0 ≤ x * (den - num) ∧ x * (den - num) ≤ 255 * 2147483648 ∧ 0 ≤ y * num ∧ y * num ≤ 255 * 2147483648 := by
  have h1 : 0 ≤ x * (den - num) := Int.mul_nonneg hx0 (by omega)
  have h2 : x * (den - num) ≤ 255 * 2147483648 := Int.mul_le_mul (by omega) (by omega) (by omega) (by omega)
  have h3 : 0 ≤ y * num := Int.mul_nonneg hy0 hn1
  have h4 : y * num ≤ 255 * 2147483648 := Int.mul_le_mul (by omega) (by omega) (by omega) (by omega)
  exact ⟨h1, h2, h3, h4⟩

set_option maxHeartbeats 400000 in
theorem flat_any (n : Nat) (s : Int) (w : World) (hn : n ≤ 4096) :
    Calls Try.prog 40 #[.int .i64 n, .int .u8 s] w fun e w' => ∃ g, e = .returned (.slice (some ⟨g, 0, none⟩) n n) ∧ Row w' w.heap.size g n n (fun _ => s) ∧ Below w.heap.size w w' := by
  obtain ⟨i0, hi, hz0, hz1, hz2⟩ := info_parts info5
  go_enter Try.func40, Try.ntmps40
  go_wp2_with (at_make; refine wpList_make_full _ rfl _ _ 24 rfl w.heap.size 5 i0 (.int .u8 0) 1 Try.underlying24 hi hz0 hz1 _ _ _ _ n rfl rfl rfl rfl ?_ ?_ (Nat.le_refl _) ?_)
  · rw [hz2]; omega
  · unfold maxLen; omega
  · intro w1 hown hg
    have hr := Row.of_made hown
    have hb1 : Below w.heap.size w w1 := (Below.refl _ _).grown hg (Nat.le_refl _) (fun k h => by cases h)
    clear hg hown
    go_wp2
    go_loopw [11] (fun i wr => ∃ k : Nat, k ≤ n ∧ i = .int .i64 k ∧ Row wr w.heap.size w.heap.size n n (fun i => if i < k then s else 0) ∧ Below w.heap.size w wr) (fun i _ => n - (intOf i).toNat)
    case atStart => exact ⟨0, Nat.zero_le _, rfl, by simpa using hr, hb1⟩
    case round =>
      obtain ⟨k, hk, rfl, ho, hb⟩ := hrel
      by_cases hlt : k < n
      · have hc := ho.cell k hlt
        have hf := World.ownsRow.frozenAt ho k
        have HO := Lib.hid ho
        clear ho hr hb1
        go_wp2
        go_roundw
        case rel => exact ⟨k+1, by omega, by go_num, HO.out.store k (by simp) (fun i _ hik => ite_iff (by omega)), hb.setCell (Nat.le_refl _) _⟩
        case measure => simp [intOf]; omega
      · obtain rfl : k = n := by omega
        have HO := Lib.hid (ho.congr (F' := fun _ => s) (fun i hi => if_pos hi))
        clear ho hr hb1
        go_wp2
        go_ret
        exact ⟨_, rfl, HO.out, hb⟩

set_option maxRecDepth 100000 in
set_option maxHeartbeats 1000000 in
theorem mix2_any (n : Nat) (X Y : Nat → Int) (num den : Int) (bn bd bx ox cx by' oy cy : Nat) (w : World) (hn : n ≤ 4096)
    (hX : ∀ i, i < n → w.cell? ⟨bx, ox + i, none⟩ = some (.int .u8 (X i))) (hXb : ∀ i, i < n → 0 ≤ X i ∧ X i < 256) (hcx : n ≤ cx)
    (hY : ∀ i, i < n → w.cell? ⟨by', oy + i, none⟩ = some (.int .u8 (Y i))) (hYb : ∀ i, i < n → 0 ≤ Y i ∧ Y i < 256) (hcy : n ≤ cy)
    (hd1 : 1 ≤ den) (hd2 : den ≤ 2147483648) (hn1 : 0 ≤ num) (hn2 : num ≤ den)
    (hcd : w.cell? ⟨bd, 0, none⟩ = some (.int .i64 den)) (hcn : w.cell? ⟨bn, 0, none⟩ = some (.int .i64 num)) :
    Calls Try.prog 48 #[.slice (some ⟨bx, ox, none⟩) n cx, .slice (some ⟨by', oy, none⟩) n cy, .pointer (some ⟨bd, 0, none⟩), .pointer (some ⟨bn, 0, none⟩)] w fun e w' => ∃ g,
       e = .returned (.slice (some ⟨g, 0, none⟩) n n) ∧ Row w' w.heap.size g n n (mixF num den X Y) ∧ Below w.heap.size w w' := by
  obtain ⟨i0, hi, hz0, hz1, hz2⟩ := info_parts info5
  have lt1 := block_lt_of_cell hcd
  have lt2 := block_lt_of_cell hcn
  simp only at lt1 lt2
  go_enter Try.func48, Try.ntmps48
  go_wp2_with (at_make; refine wpList_make_full _ rfl _ _ 24 rfl w.heap.size 5 i0 (.int .u8 0) 1 Try.underlying24 hi hz0 hz1 _ _ _ _ n rfl rfl rfl rfl ?_ ?_ (Nat.le_refl _) ?_)
  · rw [hz2]; omega
  · unfold maxLen; omega
  · intro w1 hown hg
    have hr := Row.of_made hown
    have hb1 : Below w.heap.size w w1 := (Below.refl _ _).grown hg (Nat.le_refl _) (fun k h => by cases h)
    clear hg hown
    go_wp2
    go_loopw [14] (fun i wr => ∃ k : Nat, k ≤ n ∧ i = .int .i64 k ∧ Row wr w.heap.size w.heap.size n n (fun i => if i < k then mixF num den X Y i else 0) ∧ Below w.heap.size w wr) (fun i _ => n - (intOf i).toNat)
    case atStart => exact ⟨0, Nat.zero_le _, rfl, by simpa using hr, hb1⟩
    case round =>
      obtain ⟨k, hk, rfl, ho, hb⟩ := hrel
      by_cases hlt : k < n
      · have hc := ho.cell k hlt
        rw [if_neg (by omega)] at hc
        have hf := World.ownsRow.frozenAt ho k
        have lt3 := block_lt_of_cell (hX k hlt)
        have lt4 := block_lt_of_cell (hY k hlt)
        simp only at lt3 lt4
        have hXk := (hb.cell (p := ⟨bx, ox + k, none⟩) lt3).trans (hX k hlt)
        have hYk := (hb.cell (p := ⟨by', oy + k, none⟩) lt4).trans (hY k hlt)
        have hcd' := (hb.cell (p := ⟨bd, 0, none⟩) lt1).trans hcd
        have hcn' := (hb.cell (p := ⟨bn, 0, none⟩) lt2).trans hcn
        have b1 := hXb k hlt
        have b2 := hYb k hlt
        have bb := blend_bd b1.1 b1.2 b2.1 b2.2 hd1 hd2 hn1 hn2
        have w1 := IntWalk.i64_in (X k * (den - num)) (by omega)
        have w2 := IntWalk.i64_in (Y k * num) (by omega)
        have w3 := IntWalk.i64_in (X k * (den - num) + Y k * num) (by omega)
        have w4 := IntWalk.i64_in (X k * (den - num) + Y k * num + den / 2) (by omega)
        have HO := Lib.hid ho
        clear hX hY hXb hYb hr hb1 hcd hcn ho
        go_wp2
        refine Plan.wp_region_plan (fun w' => w'.cell? ⟨bx, ox + k, none⟩ = some (.int .u8 (X k)) ∧ w'.cell? ⟨by', oy + k, none⟩ = some (.int .u8 (Y k)) ∧ w'.cell? ⟨bd, 0, none⟩ = some (.int .i64 den) ∧ w'.cell? ⟨bn, 0, none⟩ = some (.int .i64 num)) (([0, 1, 2, 3, 4, 5, 6, 7, 8, 9, 10, 11, 12, 13, 14, 15, 16, 17, 18, 19, 20, 21, 22, 23, 24, 25].map (·, true)) ++ ([26].map (·, false))) (by kernel_rfl) (by kernel_rfl) (by kernel_rfl) ⟨hXk, hYk, hcd', hcn'⟩ ?_
        refine' Plan.plan_seg _ [0, 1, 2, 3, 4, 5, 6, 7, 8, 9, 10, 11, 12, 13, 14, 15, 16, 17, 18, 19, 20, 21, 22, 23, 24, 25] (([26].map (·, false))) (by kernel_rfl) (by kernel_rfl) rfl ⟨hXk, hYk, hcd', hcn'⟩ (fun wx hS => ?_) ?_
        rotate_left
        · obtain ⟨s1, s2, s3, s4⟩ := hS
          iterate 26 (apply Plan.seg_pick; rfl; intro K hK; go_wp)
          exact Plan.seg_nil
        refine Plan.plan_of_effect rfl (fun K hK => ?_)
        go_wp2
        refine ⟨⟨?_, ?_, ?_, ?_⟩, Plan.plan_done ?_⟩
        · rw [World.cell?_drew, World.cell?_setCell_far _ _ _ _ (by simp; omega)]; exact hXk
        · rw [World.cell?_drew, World.cell?_setCell_far _ _ _ _ (by simp; omega)]; exact hYk
        · rw [World.cell?_drew, World.cell?_setCell_far _ _ _ _ (by simp; omega)]; exact hcd'
        · rw [World.cell?_drew, World.cell?_setCell_far _ _ _ _ (by simp; omega)]; exact hcn'
        go_wp2
        go_roundw
        case rel =>
          refine ⟨k+1, by omega, by go_num, (HO.out.store k (F' := fun i => if i < k + 1 then mixF num den X Y i else 0) ?_ ?_), (hb.setCell (Nat.le_refl _) _).drew⟩
          · simp [mixF, blend1]
          · intro i _ hik; exact ite_iff (by omega)
        case measure => simp [intOf]; omega
      · obtain rfl : k = n := by omega
        have HO := Lib.hid (ho.congr (F' := mixF num den X Y) (fun i hi => if_pos hi))
        clear ho hr hb1
        go_wp2
        go_ret
        exact ⟨_, rfl, HO.out, hb⟩

end Go.Proofs.Ytnnobdcbmagbaaa
