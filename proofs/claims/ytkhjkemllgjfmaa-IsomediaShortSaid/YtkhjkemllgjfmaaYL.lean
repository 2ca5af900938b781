/- The contracts of fileType, of appendBox at a payload. -/
import Derived.Test.YtkhjkemllgjfmaaYK
namespace Go.Proofs.Ytkhjkemllgjfmaa
open Go.RowKit
set_option linter.unusedVariables false
set_option linter.unusedSimpArgs false

theorem Adv.up {w w' : World} {B : Nat} {v v' : Value} {L : List Int} (h : Own w B v L) (ha : Adv w w' v v') (hB : B ≤ w.heap.size) : Below B w w' :=
  (Below.refl _ _).grown ha.g hB (fun g hg => (World.ownsRow.lt h g hg).1)

def ftypL : List Int := strB ⟨#[99, 114, 118, 109]⟩ ++ (numsL [0] ++ strB ⟨#[105, 115, 111, 109]⟩)
theorem ftypL_length : ftypL.length = 12 := by simp [ftypL, strB_length, numsL_length]; simp [ByteArray.size]

set_option maxRecDepth 100000 in
set_option maxHeartbeats 4000000 in
theorem ftype_any (w : World) : Calls Try.prog 39 #[] w fun e w' => ∃ r, e = .returned (.iface 109 (.agg #[.string ⟨#[102, 116, 121, 112]⟩, r])) ∧ Own w' w.heap.size r ftypL ∧ Below w.heap.size w w' := by
  go_enter Try.func39, Try.ntmps39
  go_wp2_with (at_builtin; refine wpList_advS w rfl (.const (.slice none 0 0)) (.const (.string ⟨#[99, 114, 118, 109]⟩)) rfl w.heap.size (.slice none 0 0) [] ⟨#[99, 114, 118, 109]⟩ rfl (own_nil _ _) rfl (by simp [ByteArray.size]) (Nat.le_refl _) ?_)
  intro r1 w1 h1 ha1
  obtain ⟨L1, hL1⟩ : ∃ L, L = strB ⟨#[99, 114, 118, 109]⟩ := ⟨_, rfl⟩
  rw [← hL1] at h1
  have HL1 := Lib.hid hL1
  have HN1 := Lib.hid (show L1.length = 4 from by rw [hL1, strB_length]; rfl)
  have HB1 := Lib.hid (ha1.below rfl)
  have H1 := Lib.hid h1
  obtain ⟨qa, qc, hq⟩ := h1.shape
  have HQ := Lib.hid hq
  have HI : Hid (IL (w1.alloc (.cells #[.int .i64 0] 2)) (.slice (some ⟨w1.heap.size, 0, none⟩) 1 1) [0]) := Lib.hid (IL.build w1 [0] 2)
  have hs1 := HB1.out.size
  rw [hq]
  clear h1 ha1 hL1 hq
  go_wp2_with fail
  rw [← HQ.out]
  refine (appn_any r1 _ L1 [0] w.heap.size _ (H1.out.below (below_box w1 _)) HI.out (H1.out.apart_new (Nat.le_refl _)) (by simp) (by have := HN1.out; omega) (by simp; omega)).mono ?_
  rintro e w2 ⟨r2, rfl, h2, ha2⟩
  obtain ⟨L2, hL2⟩ : ∃ L, L = L1 ++ numsL [0] := ⟨_, rfl⟩
  rw [← hL2] at h2
  have HL2 := Lib.hid hL2
  have HN2 := Lib.hid (show L2.length = 8 from by rw [hL2, List.length_append, numsL_length, HN1.out]; rfl)
  have hb2 : Below w.heap.size w w2 := HB1.out.trans (((below_box w1 _).mono hs1).trans (Adv.up (H1.out.below (below_box w1 (.cells #[.int .i64 0] 2))) ha2 (by simp; omega)))
  have HB2 := Lib.hid hb2
  have H2 := Lib.hid h2
  obtain ⟨ua, uc, hu⟩ := h2.shape
  have HU := Lib.hid hu
  have hs2 := hb2.size
  have hl2 : L2.length + 4 ≤ 100000000 := by have := HN2.out; omega
  rw [hu]
  clear h2 ha2 hL2 hu hb2 HI
  go_wp2_with (at_builtin; rw [← HU.out]; refine wpList_advS w2 rfl (.tmp 6) (.const (.string ⟨#[105, 115, 111, 109]⟩)) rfl w.heap.size r2 L2 ⟨#[105, 115, 111, 109]⟩ rfl H2.out rfl hl2 hs2 ?_)
  intro r3 w3 h3 ha3
  rw [show L2 ++ strB ⟨#[105, 115, 111, 109]⟩ = ftypL from by rw [HL2.out, HL1.out]; simp [ftypL]] at h3
  have HB3 := Lib.hid (HB2.out.trans (Adv.up H2.out ha3 hs2))
  obtain ⟨xa, xc, hx⟩ := h3.shape
  have H3 := Lib.hid h3
  rw [hx] at H3 ⊢
  clear h3 ha3 hx
  go_wp2_with fail
  go_ret
  exact ⟨_, rfl, H3.out, HB3.out⟩


/-- The same bytes twice. -/
theorem conv_bytes {w : World} {v : Value} {L : List Int} (h : BL w v L) : (convert 22 9 v).run Try.prog w = .ok (.string (strOfNums L)) w := by
  obtain ⟨ao, c, rfl, hc, H⟩ := h
  cases ao with
  | none =>
    have h0 : L = [] := by
      cases L with
      | nil => rfl
      | cons m L => obtain ⟨b, off, e, _⟩ := H 0 m rfl; cases e
    subst h0
    have := run_convert_bytes_nil (P := Try.prog) (w := w) 22 5 Try.underlying22 Try.underlying5 0 c 9 Try.underlying9
    exact this
  | some ad =>
    by_cases h0 : L = []
    · subst h0
      rw [List.length_nil, run_convert_bytes_string w 22 9 5 (some ad) 0 c Try.underlying22 Try.underlying5 Try.underlying9]
      simp [Conv.bytesToString, loadCells, loadCellsFrom]
      rfl
    · obtain ⟨b, o, e⟩ : ∃ b o, ad = ⟨b, o, none⟩ := by
        cases L with
        | nil => exact absurd rfl h0
        | cons m L => obtain ⟨b, off, e, _⟩ := H 0 m rfl; exact ⟨b, off, by simpa using e⟩
      subst e
      refine run_convert_bytes_arg w 22 5 Try.underlying22 Try.underlying5 b o L.length c L rfl (fun i hi => ?_) 9 Try.underlying9
      obtain ⟨b', o', e, hx⟩ := H i L[i] (List.getElem?_eq_getElem hi)
      simp only [Option.some.injEq, Addr.mk.injEq, and_true] at e
      obtain ⟨rfl, rfl⟩ := e
      rw [show L.getD i 0 = L[i] by simp [List.getD, List.getElem?_eq_getElem hi]]
      exact hx
theorem same_any (u v : Value) (L : List Int) (w : World) (hu : BL w u L) (hv : BL w v L) : Calls Try.prog 24 #[u, v] w fun e w' => e = .returned (.bool true) ∧ Below w.heap.size w w' := by
  have h1 := conv_bytes hu
  have h2 := conv_bytes hv
  obtain ⟨a, c, rfl⟩ := hu.shape
  obtain ⟨a', c', rfl⟩ := hv.shape
  clear hu hv
  go_enter Try.func24, Try.ntmps24
  go_wp2_with fail
  go_ret
  exact ⟨by simp, Below.refl _ _⟩
end Go.Proofs.Ytkhjkemllgjfmaa
