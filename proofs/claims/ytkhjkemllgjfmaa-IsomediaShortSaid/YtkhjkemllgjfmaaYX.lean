/- What bytes a light valid file has: each is a byte, and with some of the last seven missing its last box is not complete. -/
import Derived.Test.YtkhjkemllgjfmaaYV
import Derived.Test.YtkhjkemllgjfmaaC
namespace Go.Proofs.Ytkhjkemllgjfmaa
open Go.RowKit
set_option linter.unusedVariables false
set_option linter.unusedSimpArgs false

def Byt (L : List Int) : Prop := ∀ u, u ∈ L → 0 ≤ u ∧ u < 256
theorem Byt.nil : Byt [] := fun u h => by simp at h
theorem Byt.app {a b : List Int} (h : Byt a) (k : Byt b) : Byt (a ++ b) := fun u hu => by
  rcases List.mem_append.1 hu with h' | h'
  · exact h u h'
  · exact k u h'
theorem Byt.num4 (n : Int) : Byt (num4 n) := fun u hu => by
  simp only [Proofs.Ytkhjkemllgjfmaa.num4, List.mem_cons, List.not_mem_nil, or_false] at hu
  omega
theorem Byt.nums (L : List Int) : Byt (numsL L) := fun u hu => by
  obtain ⟨x, _, hx⟩ := List.mem_flatMap.1 hu
  exact Byt.num4 x u hx
theorem Byt.strB (s : ByteArray) : Byt (strB s) := fun u hu => by
  obtain ⟨x, _, rfl⟩ := List.mem_map.1 hu
  have := x.toNat_lt
  omega
theorem Byt.zs (n : Nat) : Byt (zs n) := fun u hu => by
  have := List.eq_of_mem_replicate hu
  omega
theorem Byt.boxP (nm : ByteArray) {d : List Int} (h : Byt d) : Byt (boxP nm d) := (Byt.num4 _).app ((Byt.strB _).app h)
theorem Byt.catN {f : Nat → List Int} : ∀ n, (∀ i, i < n → Byt (f i)) → Byt (catN f n)
  | 0, _ => Byt.nil
  | n + 1, h => (Byt.catN n (fun i hi => h i (by omega))).app (h n (by omega))
theorem Byt.lit4 (a b c d : Int) (h : (0 ≤ a ∧ a < 256) ∧ (0 ≤ b ∧ b < 256) ∧ (0 ≤ c ∧ c < 256) ∧ (0 ≤ d ∧ d < 256)) : Byt [a, b, c, d] := fun u hu => by
  simp only [List.mem_cons, List.not_mem_nil, or_false] at hu
  rcases hu with rfl | rfl | rfl | rfl <;> omega
theorem Byt.lit2 (a b : Int) (h : (0 ≤ a ∧ a < 256) ∧ (0 ≤ b ∧ b < 256)) : Byt [a, b] := fun u hu => by
  simp only [List.mem_cons, List.not_mem_nil, or_false] at hu
  rcases hu with rfl | rfl <;> omega
structure BytT (T : Tr) : Prop where
  c : ∀ i, i < T.nC → 0 ≤ T.C i ∧ T.C i < 256
  s : ∀ j, j < T.nS → ∀ i, i < (T.S j).n → 0 ≤ (T.S j).D i ∧ (T.S j).D i < 256
theorem Byt.range {n : Nat} {f : Nat → Int} (h : ∀ i, i < n → 0 ≤ f i ∧ f i < 256) : Byt ((List.range n).map f) := fun u hu => by
  obtain ⟨i, hi, rfl⟩ := List.mem_map.1 hu
  exact h i (List.mem_range.1 hi)
theorem Byt.runs (f : Nat → Int) (n : Nat) : Byt (runsL f n) := by unfold runsL; exact (Byt.nums _).app (Byt.nums _)
theorem Byt.ed (E : Nat → Ed) (n : Nat) : Byt (edL E n) := Byt.catN n fun i _ => Byt.nums _
theorem Byt.desc {T : Tr} (h : BytT T) : Byt (descL T) := ((Byt.zs 6).app (Byt.lit2 0 1 (by omega))).app (Byt.range h.c)
theorem Byt.stsd {T : Tr} (h : BytT T) : Byt (stsdL T) := by unfold stsdL; simp only [bytesT]; exact (Byt.nums _).app (Byt.boxP _ (Byt.desc h))
theorem Byt.stss (T : Tr) : Byt (stssL T) := by unfold stssL; exact (Byt.nums _).app (Byt.nums _)
theorem Byt.stsz (T : Tr) : Byt (stszL T) := by unfold stszL; exact (Byt.nums _).app (Byt.nums _)
theorem Byt.stco (T : Tr) (first : Int) : Byt (stcoL T first) := by unfold stcoL; exact (Byt.nums _).app (Byt.nums _)
theorem Byt.chunk : Byt chunkL := by unfold chunkL; exact Byt.nums _
theorem Byt.stbl {T : Tr} (h : BytT T) (first : Int) (i : Nat) : Byt (bytesT (stbl T first i)) := by
  unfold Proofs.Ytkhjkemllgjfmaa.stbl
  split
  · simp only [bytesT]; exact Byt.boxP _ (Byt.stsd h)
  split
  · simp only [bytesT]; exact Byt.boxP _ (Byt.runs _ _)
  split
  · simp only [bytesT]; exact Byt.boxP _ (Byt.runs _ _)
  split
  · simp only [bytesT]; exact Byt.boxP _ (Byt.stss T)
  split
  · simp only [bytesT]; exact Byt.boxP _ (Byt.stsz T)
  split
  · simp only [bytesT]; exact Byt.boxP _ Byt.chunk
  · simp only [bytesT]; exact Byt.boxP _ (Byt.stco T _)
theorem Byt.mat : Byt matL := Byt.nums _
theorem Byt.tkhd (k : Int) : Byt (tkhdL k) := (((((((Byt.lit4 0 0 0 3 (by omega)).app (Byt.zs 8)).app (Byt.nums _)).app (Byt.zs 4)).app (Byt.nums _)).app (Byt.zs 16)).app Byt.mat).app (Byt.zs 8)
theorem Byt.mdhd (T : Tr) : Byt (mdhdL T) := ((Byt.nil.app (Byt.zs 12)).app (Byt.nums _)).app (Byt.lit4 _ _ _ _ (by omega))
theorem Byt.hdlr (T : Tr) : Byt (hdlrL T) := ((Byt.nil.app (Byt.zs 8)).app (Byt.strB _)).app (Byt.zs 13)
theorem Byt.minf {T : Tr} (h : BytT T) (first : Int) : Byt (bytesT (minfT T first)) := by
  unfold minfT
  simp only [bytesT]
  exact Byt.boxP _ (Byt.catN 1 fun i _ => Byt.boxP _ (Byt.catN 7 fun i _ => Byt.stbl h first i))
theorem Byt.mdia {T : Tr} (h : BytT T) (first : Int) : Byt (bytesT (mdiaT T first)) := by
  unfold mdiaT
  simp only [bytesT]
  refine Byt.boxP _ (Byt.catN 3 fun i _ => ?_)
  split
  · simp only [bytesT]; exact Byt.boxP _ (Byt.mdhd T)
  split
  · simp only [bytesT]; exact Byt.boxP _ (Byt.hdlr T)
  · exact Byt.minf h first
theorem Byt.edts (T : Tr) : Byt (bytesT (edtsT T)) := by
  unfold edtsT
  simp only [bytesT]
  exact Byt.boxP _ (Byt.catN 1 fun i _ => Byt.boxP _ ((Byt.nums _).app (Byt.ed _ _)))
theorem Byt.trak {T : Tr} (h : BytT T) (k first : Int) : Byt (bytesT (trakT T k first)) := by
  unfold trakT
  split <;> simp only [bytesT] <;> refine Byt.boxP _ (Byt.catN _ fun i _ => ?_)
  · split
    · simp only [bytesT]; exact Byt.boxP _ (Byt.tkhd k)
    split
    · exact Byt.edts T
    · exact Byt.mdia h first
  · split
    · simp only [bytesT]; exact Byt.boxP _ (Byt.tkhd k)
    · exact Byt.mdia h first
theorem Byt.moov {F : Fl} (h : ∀ i, i < F.nT → BytT (F.T i)) (first : Int) : Byt (bytesT (moovT F first)) := by
  unfold moovT
  simp only [bytesT]
  refine Byt.boxP _ (Byt.catN _ fun i hi => ?_)
  unfold moovP
  split
  · simp only [bytesT]
    exact Byt.boxP _ (((((((Byt.nil.app (Byt.zs 12)).app (Byt.nums _)).app (Byt.lit2 _ _ (by omega))).app (Byt.zs 10)).app Byt.mat).app (Byt.zs 24)).app (Byt.nums _))
  · exact Byt.trak (h _ (by omega)) _ _
theorem Byt.put {F : Fl} (h : ∀ i, i < F.nT → BytT (F.T i)) : Byt (putL F) :=
  ((Byt.boxP _ ((Byt.strB _).app ((Byt.nums _).app (Byt.strB _)))).app (Byt.moov h _)).app (Byt.boxP _ (Byt.catN _ fun i hi => Byt.catN _ fun j hj => Byt.range ((h i hi).s j hj)))
end Go.Proofs.Ytkhjkemllgjfmaa
