/- The contract of the reference's box, zeros. -/
import Derived.Test.YtkhjkemllgjfmaaYA
import Derived.Lib.ConvBytes
namespace Go.Proofs.Ytkhjkemllgjfmaa
open Go.RowKit
set_option linter.unusedVariables false
set_option linter.unusedSimpArgs false

def strB (s : ByteArray) : List Int := s.data.toList.map fun b => (b.toNat : Int)
theorem strB_length (s : ByteArray) : (strB s).length = s.size := by simp [strB]
def boxL (name : ByteArray) (d : List Int) : List Int := num4 ((d.length : Int) + 8) ++ (strB name ++ d)
theorem below_bytes (w : World) (s : ByteArray) : Below w.heap.size w (Lib.bytesWorld w 5 s) :=
  ⟨rfl, rfl, rfl, by rw [Lib.bytesWorld_size]; omega, fun k hk => Lib.bytesWorld_at_old w 5 s k hk⟩
theorem bl_bytes (w : World) (s : ByteArray) (c : Nat) (hc : s.size ≤ c) : BL (Lib.bytesWorld w 5 s) (.slice (some ⟨w.heap.size, 0, none⟩) s.size c) (strB s) := by
  refine ⟨_, c, by rw [strB_length], by rw [strB_length]; exact hc, fun i u hi => ⟨w.heap.size, 0, rfl, ?_⟩⟩
  have hl : i < s.size := by have := (List.getElem?_eq_some_iff.1 hi).1; rwa [strB_length] at this
  rw [Nat.zero_add, Lib.bytesWorld_cell w 5 s i hl]
  simp only [strB, List.getElem?_map, Option.map_eq_some_iff] at hi
  obtain ⟨z, hz, rfl⟩ := hi
  rw [List.getD, hz]; rfl

/-- Slices of bytes laid side by side. -/
def All2 (w : World) : List Value → List (List Int) → Prop
  | [], [] => True
  | v :: vs, L :: Ls => BL w v L ∧ All2 w vs Ls
  | _, _ => False
theorem All2.get {w : World} : ∀ {vs : List Value} {Ls : List (List Int)}, All2 w vs Ls → vs.length = Ls.length ∧ ∀ (i : Nat) (L : List Int), Ls[i]? = some L → ∃ v, vs[i]? = some v ∧ BL w v L
  | [], [], _ => ⟨rfl, fun i L h => by simp at h⟩
  | v :: vs, L :: Ls, h => by
    obtain ⟨h1, h2⟩ := h
    obtain ⟨h3, h4⟩ := All2.get h2
    refine ⟨by simp [h3], fun i M hi => ?_⟩
    cases i with
    | zero => simp at hi; subst hi; exact ⟨v, rfl, h1⟩
    | succ i => exact h4 i M (by simpa using hi)
theorem All2.below {w w' : World} (hb : Below w.heap.size w w') : ∀ {vs : List Value} {Ls : List (List Int)}, All2 w vs Ls → All2 w' vs Ls
  | [], [], _ => trivial
  | v :: vs, L :: Ls, h => ⟨h.1.below hb, All2.below hb h.2⟩
theorem JL.build {w : World} {vs : List Value} {Ls : List (List Int)} (t : TypeId) (h : All2 w vs Ls) : JL (w.alloc (.cells vs.toArray t)) (.slice (some ⟨w.heap.size, 0, none⟩) Ls.length Ls.length) Ls := by
  refine ⟨_, _, rfl, Nat.le_refl _, fun i L hi => ?_⟩
  obtain ⟨v, hv, hB⟩ := h.get.2 i L hi
  refine ⟨w.heap.size, 0, v, rfl, ?_, hB.below (below_box _ _)⟩
  have : i < vs.length := (List.getElem?_eq_some_iff.1 hv).1
  simp [go_sem, hv]

set_option maxRecDepth 100000 in
set_option maxHeartbeats 4000000 in
theorem box_any (name : ByteArray) (v : Value) (L : List (List Int)) (w : World) (hv : JL w v L) (hn : L.length ≤ 1000000) (hn2 : L.flatten.length ≤ 90000000) (hnm : name.size ≤ 1000) :
    Calls Try.prog 45 #[.string name, v] w fun e w' => ∃ r, e = .returned r ∧ Own w' w.heap.size r (boxL name L.flatten) ∧ Below w.heap.size w w' := by
  have HV := Lib.hid hv
  obtain ⟨D, hD⟩ : ∃ D, D = L.flatten := ⟨_, rfl⟩
  have hJ := join_any v L w hv hn (by omega)
  rw [← hD] at hJ hn2 ⊢
  have HJ := Lib.hid hJ
  obtain ⟨ao, c, rfl⟩ := (show ∃ a c, v = .slice a L.length c from by obtain ⟨a, c, e, _⟩ := hv; exact ⟨a, c, e⟩)
  clear hD hJ hv
  go_enter Try.func45, Try.ntmps45
  go_wp2_with fail
  refine HJ.out.mono ?_
  rintro e w2 ⟨d, rfl, hd, hb⟩
  obtain ⟨da, dc, hdv⟩ := hd.shape
  subst hdv
  have HD := Lib.hid hd
  have HB := Lib.hid hb
  clear hd hb
  go_wp2_with fail
  refine (num_any _ w2).mono ?_
  rintro e w3 ⟨m, rfl, hm, hb3⟩
  obtain ⟨ma, mc, hmv⟩ := hm.shape
  subst hmv
  have HM := Lib.hid hm
  have HB3 := Lib.hid hb3
  clear hm hb3
  have hcv := Lib.run_convert_string_bytes (P := Try.prog) w3 9 22 5 name Try.underlying9 Try.underlying22 Try.underlying5
  have hgc : name.size ≤ grownCap w3 name.size 0 5 := grownCap_ge _ _ _ _
  have HG := Lib.hid (bl_bytes w3 name _ hgc)
  clear hgc
  go_wp2_with fail
  obtain ⟨w4, hw4⟩ : ∃ x, x = Lib.bytesWorld w3 5 name := ⟨_, rfl⟩
  have hb34 : Below w3.heap.size w3 w4 := by rw [hw4]; exact below_bytes _ _
  have HG4 := Lib.hid (show BL w4 (.slice (some ⟨w3.heap.size, 0, none⟩) name.size (grownCap w3 name.size 0 5)) (strB name) by rw [hw4]; exact HG.out)
  rw [← hw4]
  have HB4 := Lib.hid (HB3.out.trans (hb34.mono HB3.out.size))
  have HM4 := Lib.hid (HM.out.bl.below hb34)
  have HD4 := Lib.hid (HD.out.bl.below HB4.out)
  clear hw4 hb34 hcv
  have hf : [num4 ((D.length : Int) + 8), strB name, D].flatten = boxL name D := by simp [boxL]
  have HJ2 : Hid (JL (w4.alloc (.cells #[.slice ma (num4 ((D.length : Int) + 8)).length mc, .slice (some ⟨w3.heap.size, 0, none⟩) name.size (grownCap w3 name.size 0 5), .slice da D.length dc] 22)) (.slice (some ⟨w4.heap.size, 0, none⟩) 3 3) [num4 ((D.length : Int) + 8), strB name, D]) := Lib.hid (JL.build (w := w4) (vs := [.slice ma (num4 ((D.length : Int) + 8)).length mc, .slice (some ⟨w3.heap.size, 0, none⟩) name.size (grownCap w3 name.size 0 5), .slice da D.length dc]) (Ls := [num4 ((D.length : Int) + 8), strB name, D]) 22 ⟨HM4.out, HG4.out, HD4.out, trivial⟩)
  refine (join_any _ _ _ HJ2.out (by simp) (by rw [hf]; simp [boxL, strB_length, num4]; omega)).mono ?_
  rintro e w5 ⟨r, rfl, hr, hb5⟩
  rw [hf] at hr
  have hb := HB.out.trans ((HB4.out.trans ((below_box w4 _).trans (hb5.mono (by simp)) |>.mono HB4.out.size)).mono HB.out.size)
  have hs := (HB.out.trans (HB4.out.mono HB.out.size)).size
  obtain ⟨ra, rc, hrv⟩ := hr.shape
  subst hrv
  have HR := Lib.hid (And.intro (hr.mono (show w.heap.size ≤ _ by simp; omega)) hb)
  clear hr hb5 hb hs hf
  go_wp2_with fail
  go_ret
  exact ⟨_, rfl, HR.out.1, HR.out.2⟩
end Go.Proofs.Ytkhjkemllgjfmaa
