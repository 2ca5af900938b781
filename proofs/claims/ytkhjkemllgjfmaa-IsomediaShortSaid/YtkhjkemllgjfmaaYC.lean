/- The contracts of the reference's zeros, turned, chunks, config, runs. -/
import Derived.Test.YtkhjkemllgjfmaaYB
namespace Go.Proofs.Ytkhjkemllgjfmaa
open Go.RowKit
set_option linter.unusedVariables false
set_option linter.unusedSimpArgs false

set_option maxRecDepth 100000 in
theorem zeros_any (n : Nat) (w : World) (hn : n ≤ 1000) :
    Calls Try.prog 56 #[.int .i64 (n : Int)] w fun e w' => ∃ r, e = .returned r ∧ Own w' w.heap.size r (List.replicate n 0) ∧ Below w.heap.size w w' := by
  obtain ⟨i0, hi, hz0, hz1, hz2⟩ := info_parts info5
  go_enter Try.func56, Try.ntmps56
  go_wp2_with (at_make; refine wpList_make_full _ rfl _ _ 22 rfl w.heap.size 5 i0 (.int .u8 0) 1 Try.underlying22 hi hz0 hz1 _ _ _ _ n rfl rfl rfl rfl ?_ ?_ (Nat.le_refl _) ?_)
  · rw [hz2]; omega
  · unfold maxLen; omega
  · intro w1 hown hg
    have hb1 : Below w.heap.size w w1 := (Below.refl _ _).grown hg (Nat.le_refl _) (fun k h => by cases h)
    have ho : Own w1 w.heap.size (.slice (some ⟨w.heap.size, 0, none⟩) n n) (List.replicate n 0) := by
      unfold Own; rw [List.length_replicate]
      have e : bv (List.replicate n 0) = List.replicate n (.int .u8 0) := by simp [bv]
      rw [e]
      rw [← toList_madeCells_one]
      simpa using hown
    have HO := Lib.hid ho
    have HB := Lib.hid hb1
    clear hown hg ho hb1
    go_wp2_with fail
    go_ret
    exact ⟨_, rfl, HO.out, HB.out⟩

/-- Numbers laid side by side. -/
theorem IL.build (w : World) (L : List Int) (t : TypeId) : IL (w.alloc (.cells (L.map (.int .i64)).toArray t)) (.slice (some ⟨w.heap.size, 0, none⟩) L.length L.length) L := by
  refine ⟨_, _, rfl, Nat.le_refl _, fun i u hi => ⟨w.heap.size, 0, rfl, ?_⟩⟩
  simp [go_sem, hi]
def matL : List Int := numsL [65536, 0, 0, 0, 65536, 0, 0, 0, 1073741824]
def chunkL : List Int := numsL [0, 1, 1, 1, 1]
def confL (c : List Int) : List Int := numsL [0, 1] ++ boxL ⟨#[99, 114, 115, 100]⟩ (List.replicate 6 0 ++ ([0, 1] ++ c))

set_option maxRecDepth 100000 in
theorem turned_any (w : World) : Calls Try.prog 58 #[] w fun e w' => ∃ r, e = .returned r ∧ Own w' w.heap.size r matL ∧ Below w.heap.size w w' := by
  have HI : Hid (IL (w.alloc (.cells #[.int .i64 65536, .int .i64 0, .int .i64 0, .int .i64 0, .int .i64 65536, .int .i64 0, .int .i64 0, .int .i64 0, .int .i64 1073741824] 2)) (.slice (some ⟨w.heap.size, 0, none⟩) 9 9) [65536, 0, 0, 0, 65536, 0, 0, 0, 1073741824]) := Lib.hid (IL.build w [65536, 0, 0, 0, 65536, 0, 0, 0, 1073741824] 2)
  go_enter Try.func58, Try.ntmps58
  go_wp2_with fail
  refine (nums_any _ _ _ HI.out (by simp)).mono ?_
  rintro e w5 ⟨r, rfl, hr, hb5⟩
  obtain ⟨ra, rc, hrv⟩ := hr.shape
  subst hrv
  have HR := Lib.hid (And.intro (hr.mono (show w.heap.size ≤ _ by simp)) ((below_box w _).trans (hb5.mono (by simp))))
  clear hr hb5
  go_wp2_with fail
  go_ret
  exact ⟨_, rfl, HR.out.1, HR.out.2⟩
set_option maxRecDepth 100000 in
theorem rchunks_any (w : World) : Calls Try.prog 68 #[] w fun e w' => ∃ r, e = .returned r ∧ Own w' w.heap.size r chunkL ∧ Below w.heap.size w w' := by
  have HI : Hid (IL (w.alloc (.cells #[.int .i64 0, .int .i64 1, .int .i64 1, .int .i64 1, .int .i64 1] 2)) (.slice (some ⟨w.heap.size, 0, none⟩) 5 5) [0, 1, 1, 1, 1]) := Lib.hid (IL.build w [0, 1, 1, 1, 1] 2)
  go_enter Try.func68, Try.ntmps68
  go_wp2_with fail
  refine (nums_any _ _ _ HI.out (by simp)).mono ?_
  rintro e w5 ⟨r, rfl, hr, hb5⟩
  obtain ⟨ra, rc, hrv⟩ := hr.shape
  subst hrv
  have HR := Lib.hid (And.intro (hr.mono (show w.heap.size ≤ _ by simp)) ((below_box w _).trans (hb5.mono (by simp))))
  clear hr hb5
  go_wp2_with fail
  go_ret
  exact ⟨_, rfl, HR.out.1, HR.out.2⟩
/-- The contract of config. -/
theorem own_lit (w : World) (L : List Int) (h : L.length ≤ maxLen) : Own (w.alloc (.cells (bv L).toArray 5)) w.heap.size (.slice (some ⟨w.heap.size, 0, none⟩) L.length L.length) L :=
  owns_many w 5 1 L.length (bv L).toArray (by simp [bv]) h
theorem confL_length (c : List Int) : (confL c).length = c.length + 24 := by
  simp [confL, boxL, num4, strB_length, numsL_length]; simp [ByteArray.size]; omega
set_option maxRecDepth 100000 in
set_option maxHeartbeats 4000000 in
theorem conf_any (v : Value) (C : List Int) (w : World) (hv : BL w v C) (hn : C.length ≤ 1000000) :
    Calls Try.prog 66 #[v] w fun e w' => ∃ r, e = .returned r ∧ Own w' w.heap.size r (confL C) ∧ Below w.heap.size w w' := by
  obtain ⟨ca, cc, rfl⟩ := hv.shape
  have BC := Lib.hid hv
  clear hv
  go_enter Try.func66, Try.ntmps66
  go_wp2_with fail
  have HI : Hid (IL (w.alloc (.cells #[.int .i64 0, .int .i64 1] 2)) (.slice (some ⟨w.heap.size, 0, none⟩) 2 2) [0, 1]) := Lib.hid (IL.build w [0, 1] 2)
  refine (nums_any _ _ _ HI.out (by simp)).mono ?_
  rintro e wc1 ⟨r, rfl, hr, hb0⟩
  have hb : Below w.heap.size w wc1 := (below_box w _).trans (hb0.mono (by simp <;> omega))
  obtain ⟨L1, hL1⟩ : ∃ x, x = numsL [0, 1] := ⟨_, rfl⟩
  rw [← hL1] at hr
  replace hr := hr.mono (show w.heap.size ≤ _ by simp <;> omega)
  obtain ⟨aL1, cL1, hv⟩ := hr.shape
  subst hv
  have NL1 := Lib.hid (show L1.length = 8  from by rw [hL1, numsL_length]; rfl)
  have EL1 := Lib.hid hL1
  have HBwc1 := Lib.hid (hb)
  replace BC := Lib.hid (BC.out.below hb)
  have BL1 := Lib.hid hr
  clear hr hb hb0 hL1 HI
  go_wp2_with fail
  refine (zeros_any 6 _ (by omega)).mono ?_
  rintro e wc2 ⟨r, rfl, hr, hb0⟩
  have hb := hb0
  obtain ⟨L2, hL2⟩ : ∃ x, x = List.replicate 6 (0 : Int) := ⟨_, rfl⟩
  rw [← hL2] at hr
  replace hr := hr.mono (show w.heap.size ≤ _ by have := HBwc1.out.size; simp <;> omega)
  obtain ⟨aL2, cL2, hv⟩ := hr.shape
  subst hv
  have NL2 := Lib.hid (show L2.length = 6  from by rw [hL2, List.length_replicate])
  have EL2 := Lib.hid hL2
  have HBwc2 := Lib.hid (HBwc1.out.trans (hb.mono HBwc1.out.size))
  replace BC := Lib.hid (BC.out.below hb)
  replace BL1 := Lib.hid (BL1.out.below hb)
  have BL2 := Lib.hid hr
  clear hr hb hb0 hL2 
  go_wp2_with fail
  have HJ : Hid (JL (((wc2.alloc (.cells #[.int .u8 0, .int .u8 1] 5)).alloc (.cells #[.slice aL2 L2.length cL2, .slice (some ⟨wc2.heap.size, 0, none⟩) 2 2, .slice ca C.length cc] 22))) (.slice (some ⟨wc2.heap.size + 1, 0, none⟩) 3 3) [L2, [0, 1], C]) := Lib.hid (by
    have hl : BL (wc2.alloc (.cells #[.int .u8 0, .int .u8 1] 5)) (.slice (some ⟨wc2.heap.size, 0, none⟩) 2 2) [0, 1] := (own_lit wc2 [0, 1] (by decide)).bl
    have h := JL.build (w := wc2.alloc (.cells #[.int .u8 0, .int .u8 1] 5)) (vs := [.slice aL2 L2.length cL2, .slice (some ⟨wc2.heap.size, 0, none⟩) 2 2, .slice ca C.length cc]) (Ls := [L2, [0, 1], C]) 22 ⟨BL2.out.bl.below (below_box _ _), hl, BC.out.below (below_box _ _), trivial⟩
    rw [World.size_alloc] at h
    exact h)
  refine (box_any ⟨#[99, 114, 115, 100]⟩ _ _ _ HJ.out (by simp) (by simp; have := NL1.out; have := NL2.out; omega) (by decide)).mono ?_
  rintro e wc3 ⟨r, rfl, hr, hb0⟩
  have hb : Below wc2.heap.size wc2 wc3 := ((below_box wc2 _).alloc (by simp <;> omega) _).trans (hb0.mono (by simp <;> omega))
  obtain ⟨L3, hL3⟩ : ∃ x, x = boxL ⟨#[99, 114, 115, 100]⟩ [L2, [0, 1], C].flatten := ⟨_, rfl⟩
  rw [← hL3] at hr
  replace hr := hr.mono (show w.heap.size ≤ _ by have := HBwc2.out.size; simp <;> omega)
  obtain ⟨aL3, cL3, hv⟩ := hr.shape
  subst hv
  have NL3 := Lib.hid (show L3.length = C.length + 16 from by rw [hL3]; simp [boxL, num4, strB_length, NL2.out]; simp [ByteArray.size] <;> omega)
  have EL3 := Lib.hid hL3
  have HBwc3 := Lib.hid (HBwc2.out.trans (hb.mono HBwc2.out.size))
  replace BC := Lib.hid (BC.out.below hb)
  replace BL1 := Lib.hid (BL1.out.below hb)
  replace BL2 := Lib.hid (BL2.out.below hb)
  have BL3 := Lib.hid hr
  clear hr hb hb0 hL3 HJ
  go_wp2_with fail
  have HJ : Hid (JL ((wc3.alloc (.cells #[.slice aL1 L1.length cL1, .slice aL3 L3.length cL3] 22))) (.slice (some ⟨wc3.heap.size, 0, none⟩) 2 2) [L1, L3]) := Lib.hid (JL.build (w := wc3) (vs := [.slice aL1 L1.length cL1, .slice aL3 L3.length cL3]) (Ls := [L1, L3]) 22 ⟨BL1.out.bl, BL3.out.bl, trivial⟩)
  refine (join_any _ _ _ HJ.out (by simp) (by simp; have := NL1.out; have := NL2.out; have := NL3.out; omega)).mono ?_
  rintro e wc4 ⟨r, rfl, hr, hb0⟩
  have hb : Below wc3.heap.size wc3 wc4 := (below_box wc3 _).trans (hb0.mono (by simp <;> omega))
  obtain ⟨L4, hL4⟩ : ∃ x, x = [L1, L3].flatten := ⟨_, rfl⟩
  rw [← hL4] at hr
  replace hr := hr.mono (show w.heap.size ≤ _ by have := HBwc3.out.size; simp <;> omega)
  obtain ⟨aL4, cL4, hv⟩ := hr.shape
  subst hv
  have NL4 := Lib.hid (show L4 = confL C from by rw [hL4, EL3.out, EL2.out, EL1.out]; simp [confL])
  have EL4 := Lib.hid hL4
  have HBwc4 := Lib.hid (HBwc3.out.trans (hb.mono HBwc3.out.size))
  replace BC := Lib.hid (BC.out.below hb)
  replace BL1 := Lib.hid (BL1.out.below hb)
  replace BL2 := Lib.hid (BL2.out.below hb)
  replace BL3 := Lib.hid (BL3.out.below hb)
  have BL4 := Lib.hid hr
  clear hr hb hb0 hL4 HJ
  go_wp2_with fail
  go_ret
  rw [NL4.out] at BL4 ⊢
  exact ⟨_, rfl, BL4.out, HBwc4.out⟩
end Go.Proofs.Ytkhjkemllgjfmaa
