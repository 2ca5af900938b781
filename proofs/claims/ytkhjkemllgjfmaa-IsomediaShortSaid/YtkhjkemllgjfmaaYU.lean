/- How long a light file's boxes are. -/
import Derived.Test.YtkhjkemllgjfmaaYT
namespace Go.Proofs.Ytkhjkemllgjfmaa
open Go.RowKit
set_option linter.unusedVariables false
set_option linter.unusedSimpArgs false

theorem zs_length (n : Nat) : (zs n).length = n := by simp [zs]
theorem matL_length : matL.length = 36 := rfl
theorem chunkL_length : chunkL.length = 20 := rfl
theorem runsL_le (f : Nat → Int) (n : Nat) : (runsL f n).length ≤ 8 + 8 * n := by
  unfold runsL
  rw [List.length_append, numsL_length, numsL_length]
  have h1 := rl_length f n
  have h2 : ((rl f n).flatMap fun p => [p.1, p.2]).length = 2 * (rl f n).length := pairs2_length (rl f n)
  rw [h2]
  simp only [List.length_cons, List.length_nil]
  omega
theorem stsdL_len {T : Tr} (h : LT T) : (stsdL T).length ≤ 5100 := by
  have hc := h.c
  unfold stsdL
  simp only [bytesT]
  rw [List.length_append, numsL_length, boxP_length]
  have : (descL T).length = 8 + T.nC := by unfold descL; rw [List.length_append, List.length_append, cfL_length]; simp
  rw [this]
  have : nCrsd.size = 4 := rfl
  simp only [List.length_cons, List.length_nil]
  omega
theorem stbl_len {T : Tr} (h : LT T) (first : Int) : (catN (fun i => bytesT (stbl T first i)) 7).length ≤ 7000 := by
  have h0 := stsdL_len h
  have h1 := runsL_le (fun i => (T.S i).dur) T.nS
  have h2 := runsL_le (fun i => (T.S i).shift) T.nS
  have h3 := syncL_length T.S T.nS
  have h4 := sizeL_length T.S T.nS
  have h5 := placeL_length T.S first T.nS
  have hs := h.s
  simp only [catN, List.nil_append, List.length_append, stbl]
  simp only [if_true, if_false, show ¬ (1 : Nat) = 0 by decide, show ¬ (2 : Nat) = 0 by decide, show ¬ (2 : Nat) = 1 by decide, show ¬ (3 : Nat) = 0 by decide, show ¬ (3 : Nat) = 1 by decide, show ¬ (3 : Nat) = 2 by decide, show ¬ (4 : Nat) = 0 by decide, show ¬ (4 : Nat) = 1 by decide, show ¬ (4 : Nat) = 2 by decide, show ¬ (4 : Nat) = 3 by decide, show ¬ (5 : Nat) = 0 by decide, show ¬ (5 : Nat) = 1 by decide, show ¬ (5 : Nat) = 2 by decide, show ¬ (5 : Nat) = 3 by decide, show ¬ (5 : Nat) = 4 by decide, show ¬ (6 : Nat) = 0 by decide, show ¬ (6 : Nat) = 1 by decide, show ¬ (6 : Nat) = 2 by decide, show ¬ (6 : Nat) = 3 by decide, show ¬ (6 : Nat) = 4 by decide, show ¬ (6 : Nat) = 5 by decide]
  simp only [bytesT, boxP_length]
  simp only [stssL, stszL, stcoL, List.length_append, numsL_length, List.length_cons, List.length_nil, chunkL_length]
  simp only [show nStsd.size = 4 from rfl, show nStts.size = 4 from rfl, show nCtts.size = 4 from rfl, show nStss.size = 4 from rfl, show nStsz.size = 4 from rfl, show nStsc.size = 4 from rfl, show nStco.size = 4 from rfl]
  omega
theorem mdia_len {T : Tr} (h : LT T) (first : Int) : (bytesT (mdiaT T first)).length ≤ 7300 := by
  have h0 := stbl_len h first
  have hh := h.h
  simp only [mdiaT, minfT, bytesT, boxP_length, catN, List.nil_append, List.length_append, if_true, if_false, show ¬ (1 : Nat) = 0 by decide, show ¬ (2 : Nat) = 0 by decide, show ¬ (2 : Nat) = 1 by decide]
  simp only [mdhdL, hdlrL, List.length_append, List.length_nil, zs_length, numsL_length, strB_length, List.length_cons]
  simp only [show nMdhd.size = 4 from rfl, show nHdlr.size = 4 from rfl, show nMinf.size = 4 from rfl, show nStbl.size = 4 from rfl, show nMdia.size = 4 from rfl]
  simp only [catN, List.nil_append, List.length_append] at h0
  omega
theorem trak_len {T : Tr} (h : LT T) (k first : Int) : (bytesT (trakT T k first)).length ≤ 9000 := by
  have h0 := mdia_len h first
  have he := h.e
  have hd := edL_length T.E T.nE
  unfold trakT
  split
  · simp only [bytesT, boxP_length, catN, List.nil_append, List.length_append, if_true, if_false, show ¬ (1 : Nat) = 0 by decide, show ¬ (2 : Nat) = 0 by decide, show ¬ (2 : Nat) = 1 by decide]
    simp only [edtsT, bytesT, boxP_length, catN, List.nil_append, List.length_append, numsL_length, hd, List.length_cons, List.length_nil]
    simp only [tkhdL, List.length_append, List.length_cons, List.length_nil, zs_length, numsL_length, matL_length]
    simp only [show nTkhd.size = 4 from rfl, show nEdts.size = 4 from rfl, show nElst.size = 4 from rfl, show nTrak.size = 4 from rfl]
    omega
  · simp only [bytesT, boxP_length, catN, List.nil_append, List.length_append, if_true, if_false, show ¬ (1 : Nat) = 0 by decide]
    simp only [tkhdL, List.length_append, List.length_cons, List.length_nil, zs_length, numsL_length, matL_length]
    simp only [show nTkhd.size = 4 from rfl, show nTrak.size = 4 from rfl]
    omega
theorem catN_bd {f : Nat → List Int} {m : Nat} : ∀ n, (∀ i, i < n → (f i).length ≤ m) → (catN f n).length ≤ n * m
  | 0, _ => by simp [catN]
  | n + 1, h => by
    have h1 := catN_bd n (fun i hi => h i (by omega))
    have h2 := h n (by omega)
    simp only [catN, List.length_append]
    rw [Nat.succ_mul]
    omega
theorem moov_len {F : Fl} (hn : F.nT ≤ 6) (h : ∀ i, i < F.nT → LT (F.T i)) (first : Int) : (bytesT (moovT F first)).length ≤ 70000 := by
  have h1 := catN_bd (f := fun i => bytesT (moovP F first i)) (m := 9000) (F.nT + 1) (fun i hi => by
    by_cases h0 : i = 0
    · subst h0
      simp only [moovP, if_true, bytesT, boxP_length, mvhdL, List.length_append, List.length_nil, List.length_cons, zs_length, numsL_length, matL_length, show nMvhd.size = 4 from rfl]
      omega
    · simp only [moovP, h0, if_false]
      exact trak_len (h (i - 1) (by omega)) _ _)
  have h2 : (F.nT + 1) * 9000 ≤ 63000 := by omega
  simp only [moovT, bytesT, boxP_length]
  have : nMoov.size = 4 := rfl
  omega
theorem small_leaf (nm : ByteArray) (d : List Int) : small (.leaf nm d) := trivial
theorem stbl_small (T : Tr) (first : Int) (i : Nat) : small (stbl T first i) := by
  unfold stbl
  repeat' split
  all_goals trivial
theorem trak_small (T : Tr) (k first : Int) : small (trakT T k first) := by
  have hm : small (mdiaT T first) := ⟨by decide, fun i _ => by
    dsimp only
    split
    · trivial
    · split
      · trivial
      · exact ⟨by decide, fun j _ => ⟨by decide, fun q _ => stbl_small T first q⟩⟩⟩
  unfold trakT
  split
  · refine ⟨by decide, fun i _ => ?_⟩
    dsimp only
    split
    · trivial
    · split
      · exact ⟨by decide, fun _ _ => trivial⟩
      · exact hm
  · refine ⟨by decide, fun i _ => ?_⟩
    dsimp only
    split
    · trivial
    · exact hm
theorem moov_small {F : Fl} (hn : F.nT ≤ 6) (first : Int) : small (moovT F first) := ⟨by omega, fun i _ => by
  unfold moovP
  split
  · trivial
  · exact trak_small _ _ _⟩
end Go.Proofs.Ytkhjkemllgjfmaa
