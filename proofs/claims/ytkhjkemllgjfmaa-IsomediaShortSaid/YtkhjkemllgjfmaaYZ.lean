/- The contract of cutroomlaw18.IsomediaShort: it answers true. -/
import Derived.Test.YtkhjkemllgjfmaaYW
import Derived.Test.YtkhjkemllgjfmaaYY
import Derived.Test.YtkhjkemllgjfmaaQ
import Derived.Test.YtkhjkemllgjfmaaM
import Derived.Test.YtkhjkemllgjfmaaQ
namespace Go.Proofs.Ytkhjkemllgjfmaa
open Go.RowKit
set_option linter.unusedVariables false
set_option linter.unusedSimpArgs false

theorem lt_light {F : Fl} (h : lightF F = true) {k : Nat} (hk : k < F.nT) : LT (F.T k) := by
  unfold lightF at h
  simp only [Bool.and_eq_true, decide_eq_true_eq, all_range] at h
  have h1 := h.2 k hk
  unfold lightT at h1
  simp only [Bool.and_eq_true, decide_eq_true_eq, all_range] at h1
  have h2 := sizeN_le (S := (F.T k).S) (n := (F.T k).nS) (m := 500) h1.2
  have h3 : (F.T k).nS * 500 ≤ 40 * 500 := Nat.mul_le_mul_right _ h1.1.1.2
  exact ⟨h1.1.1.2, h1.1.1.1.2, h1.1.2, h1.1.1.1.1, by omega⟩
theorem light_six {F : Fl} (h : lightF F = true) : F.nT ≤ 6 := by
  unfold lightF at h
  simp only [Bool.and_eq_true, decide_eq_true_eq] at h
  exact h.1
theorem bytT_of {w : World} {v : Value} {F : Fl} (h : FA w v F) : ∀ i, i < F.nT → BytT (F.T i) := by
  intro i hi
  obtain ⟨c, rfl, ao, cc, rfl, hc, H⟩ := h
  obtain ⟨b, o, c0, c1, c2, c3, c4, e, _, _, _, _, _, k⟩ := H i hi
  refine ⟨fun j hj => ?_, fun j hj x hx => ?_⟩
  · obtain ⟨a, c', _, _, K⟩ := k.k2
    exact (K j hj).2
  · obtain ⟨a, c', _, _, K⟩ := k.k3
    obtain ⟨_, _, y, _, _, _, _, _, hy⟩ := K j hj
    obtain ⟨_, _, _, _, M⟩ := hy
    exact (M x hx).2
theorem putL_shape (F : Fl) : ∃ A B C : List Int, putL F = A ++ B ++ C ∧ A.length = 20 ∧ (∃ d, A = boxP nFtyp d) ∧ (∃ d, B = boxP nMoov d) ∧ (C = boxP nMdat (dataL F.T F.nT)) ∧ B = bytesT (moovT F (firstOf F)) :=
  ⟨ftypB, bytesT (moovT F (firstOf F)), boxP nMdat (dataL F.T F.nT), rfl, ftypB_length, ⟨_, rfl⟩, ⟨_, rfl⟩, rfl, rfl⟩
/-- The bytes less the last seven or fewer: what Boxes says of them. -/
theorem put_cut {F : Fl} (hn : F.nT ≤ 6) (hL : ∀ i, i < F.nT → LT (F.T i)) {m : Nat} (h1 : m < (putL F).length) (h2 : (putL F).length ≤ m + 7) (k : Nat) (hw : Walked (fun i => (putL F).getD i 0) 0 m k) (hg : ¬ goOn (fun i => (putL F).getD i 0) m (pos (fun i => (putL F).getD i 0) 0 k)) : codeAt (fun i => (putL F).getD i 0) m (pos (fun i => (putL F).getD i 0) 0 k) = 4 := by
  obtain ⟨A, B, C, e, hA, ⟨da, ha⟩, ⟨db, hb⟩, hc, hB⟩ := putL_shape F
  have hlb : B.length ≤ 70000 := by rw [hB]; exact moov_len hn hL _
  have hlc : C.length = 8 + (dataL F.T F.nT).length := by rw [hc, boxP_length]; rfl
  have hld : (dataL F.T F.nT).length ≤ F.nT * 20000 := by rw [dataL_length]; exact offN_le hL _ (Nat.le_refl _)
  have hln : (putL F).length = A.length + B.length + C.length := by rw [e, List.length_append, List.length_append]
  exact short_three ha hb hc ⟨rfl, rfl, rfl⟩ (by omega) m (by omega) (by omega) (fun i _ => by rw [e]) k hw hg
theorem put_len {F : Fl} (hn : F.nT ≤ 6) (hL : ∀ i, i < F.nT → LT (F.T i)) : 28 ≤ (putL F).length ∧ (putL F).length ≤ 1000000 := by
  obtain ⟨A, B, C, e, hA, ⟨da, ha⟩, ⟨db, hb⟩, hc, hB⟩ := putL_shape F
  have hlb : B.length ≤ 70000 := by rw [hB]; exact moov_len hn hL _
  have hlc : C.length = 8 + (dataL F.T F.nT).length := by rw [hc, boxP_length]; rfl
  have hld : (dataL F.T F.nT).length ≤ F.nT * 20000 := by rw [dataL_length]; exact offN_le hL _ (Nat.le_refl _)
  have hln : (putL F).length = A.length + B.length + C.length := by rw [e, List.length_append, List.length_append]
  omega

set_option maxRecDepth 100000 in
set_option maxHeartbeats 4000000 in
theorem law_short (v : Value) (F : Fl) (kk : Int) (w : World) (hv : FA w v F) (hm : F.nT ≤ 9223372036854775807) :
    Calls Try.prog 9 #[v, .int .i64 kk] w fun e w' => e = .returned (.bool true) ∧ Below w.heap.size w w' := by
  have hv0 := hv
  obtain ⟨ts, rfl, hts⟩ := hv
  obtain ⟨ao, c, rfl⟩ := hts.shape
  have HV0 := Lib.hid hv0
  clear hts hv0
  go_enter Try.func9, Try.ntmps9
  go_wp2_with fail
  obtain ⟨w1, hw⟩ : ∃ x, x = w.alloc (.cells #[.int .i64 F.sc, .slice ao F.nT c] 37) := ⟨_, rfl⟩
  rw [← hw]
  have hb1 : Below w.heap.size w w1 := by rw [hw]; exact below_box _ _
  have xf : B2 w1 w.heap.size (.int .i64 F.sc) (.slice ao F.nT c) := by
    rw [hw]; exact B2.of_alloc w _ _ _ 37 rfl
  obtain ⟨blf, hblf⟩ : ∃ z, z = w.heap.size := ⟨_, rfl⟩
  rw [← hblf] at xf ⊢
  have XF := Lib.hid xf
  have HB := Lib.hid hb1
  clear hw hb1 xf hblf
  refine (light_any _ F _ (HV0.out.below HB.out) hm).mono ?_
  rintro e w2 ⟨rfl, hb⟩
  replace XF := Lib.hid (XF.out.far hb XF.out.lt)
  replace HB := Lib.hid (HB.out.trans (hb.mono HB.out.size))
  have y0 := XF.out.k0
  have y1 := XF.out.k1
  clear hb
  cases hl : lightF F
  · go_wp2_with fail
    refine (awake_any _).mono ?_
    rintro e wz ⟨rfl, hb5⟩
    have HB5 := Lib.hid hb5
    clear hb5
    go_wp2_with fail
    go_ret
    exact ⟨rfl, HB.out.trans (HB5.out.mono HB.out.size)⟩
  have HL := Lib.hid hl
  go_wp2_with fail
  refine (rvalidF_any _ F w2 (HV0.out.below HB.out) (by omega)).mono ?_
  rintro e w3 ⟨rfl, hb⟩
  replace XF := Lib.hid (XF.out.far hb XF.out.lt)
  replace HB := Lib.hid (HB.out.trans (hb.mono HB.out.size))
  replace y0 := XF.out.k0
  replace y1 := XF.out.k1
  clear hb hl
  cases hok : okFl F
  · go_wp2_with fail
    refine (awake_any _).mono ?_
    rintro e wz ⟨rfl, hb5⟩
    have HB5 := Lib.hid hb5
    clear hb5
    go_wp2_with fail
    go_ret
    exact ⟨rfl, HB.out.trans (HB5.out.mono HB.out.size)⟩
  have HOK := Lib.hid hok
  clear hok
  by_cases hneg : kk < 0
  · go_wp2_with fail
    refine (awake_any _).mono ?_
    rintro e wz ⟨rfl, hb5⟩
    have HB5 := Lib.hid hb5
    clear hb5
    go_wp2_with fail
    go_ret
    exact ⟨rfl, HB.out.trans (HB5.out.mono HB.out.size)⟩
  obtain ⟨k, rfl⟩ := Int.eq_ofNat_of_zero_le (show 0 ≤ kk by omega)
  clear hneg
  have hn6 := light_six HL.out
  have HLT := Lib.hid (fun i hi => lt_light HL.out (k := i) hi)
  have HV := Lib.hid (HV0.out.below HB.out)
  go_wp2_with fail
  refine (given_any _ F w3 HV.out (by omega) (fun i hi => by have := (HLT.out i hi).s; have := (HLT.out i hi).e; omega)).mono ?_
  rintro e w4 ⟨r, rfl, hv4, hb⟩
  replace HB := Lib.hid (HB.out.trans (hb.mono HB.out.size))
  have HV4 := Lib.hid hv4
  clear hb hv4 y0 y1 XF
  go_wp2_with fail
  refine (put_any r F w4 HV4.out HOK.out hn6 HLT.out).mono ?_
  rintro e w5 ⟨r5, rfl, hbl, hb⟩
  replace HB := Lib.hid (HB.out.trans (hb.mono HB.out.size))
  clear hb
  have HBY := Lib.hid (Byt.put (bytT_of HV0.out))
  have HPL := Lib.hid (fun m h1 h2 => put_cut hn6 HLT.out (m := m) h1 h2)
  have hlen := put_len hn6 HLT.out
  obtain ⟨L, hL⟩ : ∃ L, L = putL F := ⟨_, rfl⟩
  rw [← hL] at hbl HBY HPL hlen
  clear hL
  obtain ⟨ra, rc, rfl, hrc, hcell⟩ := hbl
  have hxL : L[0]? = some L[0] := List.getElem?_eq_getElem (by omega)
  obtain ⟨rb, ro, rfl, _⟩ := hcell 0 _ hxL
  have HC5 := Lib.hid hcell
  clear hcell hxL
  obtain ⟨N, hN⟩ : ∃ N, N = L.length := ⟨_, rfl⟩
  rw [← hN] at hlen hrc HPL ⊢
  have HN := Lib.hid hN
  clear hN
  have hd20 : decide (N < 20) = false := by simp; omega
  go_wp2_with fail
  have hcb : BA w5 (.slice (some ⟨rb, ro, none⟩) (N - 1 - k % 7) rc) (N - 1 - k % 7) (fun i => L.getD i 0) := by
    refine ⟨_, rc, rfl, by omega, fun i hi => ?_⟩
    have hil : i < L.length := by have := HN.out; omega
    have hx : L[i]? = some L[i] := List.getElem?_eq_getElem hil
    have hy : L.getD i 0 = L[i] := by rw [List.getD_eq_getElem?_getD, hx]; rfl
    obtain ⟨b, o, e, h⟩ := HC5.out i _ hx
    refine ⟨⟨b, o, e, by show _ = some (Value.int .u8 (L.getD i 0)); rw [hy]; exact h⟩, ?_⟩
    show 0 ≤ L.getD i 0 ∧ L.getD i 0 < 256
    rw [hy]
    exact HBY.out _ (List.getElem_mem _)
  refine (take_short _ (N - 1 - k % 7) (fun i => L.getD i 0) w5 hcb (by omega) (HPL.out _ (by omega) (by omega))).mono ?_
  rintro e w6 ⟨rfl, hb⟩
  replace HB := Lib.hid (HB.out.trans (hb.mono HB.out.size))
  clear hb hcb HPL HBY HC5 HN
  go_wp2_with fail
  have hb7 : Below w.heap.size w (w6.alloc (.cells #[.int .i64 0, .slice none 0 0] 56)) := HB.out.trans ((below_box _ _).mono HB.out.size)
  refine (awake_any _).mono ?_
  rintro e w7 ⟨rfl, hb⟩
  have HB7 := Lib.hid (hb7.trans (hb.mono hb7.size))
  clear hb hb7
  go_wp2_with fail
  go_ret
  exact ⟨rfl, HB7.out⟩
end Go.Proofs.Ytkhjkemllgjfmaa
