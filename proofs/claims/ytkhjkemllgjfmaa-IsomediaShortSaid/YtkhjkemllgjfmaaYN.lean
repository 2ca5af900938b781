/- The contract of editList. -/
import Derived.Test.YtkhjkemllgjfmaaYL
namespace Go.Proofs.Ytkhjkemllgjfmaa
open Go.RowKit
set_option linter.unusedVariables false
set_option linter.unusedSimpArgs false

def edL (E : Nat → Ed) (n : Nat) : List Int := catN (fun i => numsL [(E i).dur, (E i).time, 65536]) n
theorem edL_length (E : Nat → Ed) (n : Nat) : (edL E n).length = 12 * n := by
  induction n with
  | zero => rfl
  | succ n ih => simp only [edL, catN, List.length_append, numsL_length] at ih ⊢; rw [ih]; simp; omega

set_option maxRecDepth 100000 in
set_option maxHeartbeats 4000000 in
theorem elist_any (v : Value) (n : Nat) (E : Nat → Ed) (w : World) (hv : EA w v n E) (hn : n ≤ 100000) :
    Calls Try.prog 64 #[v] w fun e w' => ∃ r, e = .returned (.iface 109 (.agg #[.string ⟨#[101, 108, 115, 116]⟩, r])) ∧ Own w' w.heap.size r (numsL [0, (n : Int)] ++ edL E n) ∧ Below w.heap.size w w' := by
  have HV := Lib.hid hv
  obtain ⟨av, cv, rfl⟩ := hv.shape
  have HI : Hid (IL (w.alloc (.cells #[.int .i64 0, .int .i64 (n : Int)] 2)) (.slice (some ⟨w.heap.size, 0, none⟩) 2 2) [0, (n : Int)]) := Lib.hid (IL.build w [0, (n : Int)] 2)
  clear hv
  go_enter Try.func64, Try.ntmps64
  go_wp2_with fail
  refine (appn_any (.slice none 0 0) _ [] [0, (n : Int)] w.heap.size _ (own_nil _ _) HI.out (fun a n c e h => by cases h) (by simp) (by simp) (by simp)).mono ?_
  rintro e w1 ⟨r1, rfl, h1, ha1⟩
  obtain ⟨L1, hL1⟩ : ∃ L, L = [] ++ numsL [0, (n : Int)] := ⟨_, rfl⟩
  rw [← hL1] at h1
  have HL1 := Lib.hid (show L1 = numsL [0, (n : Int)] from hL1)
  have HN1 := Lib.hid (show L1.length = 8 from by rw [HL1.out, numsL_length]; rfl)
  have HB1 := Lib.hid (show Below w.heap.size w w1 from (below_box w _).trans ((ha1.below rfl).mono (by simp)))
  have H1 := Lib.hid h1
  clear h1 ha1 hL1 HI
  go_wp2_with fail
  go_loopw [12, 3] (fun i r wr => ∃ k : Nat, k ≤ n ∧ i = .int .i64 (k : Int) ∧ Own wr w.heap.size r (L1 ++ edL E k) ∧ Below w.heap.size w wr) (fun i _ _ => n - (intOf i).toNat)
  case atStart => exact ⟨0, Nat.zero_le _, rfl, by simpa [edL, catN] using H1.out, HB1.out⟩
  case round =>
    obtain ⟨k, hk, rfl, ho, hb⟩ := hrel
    obtain ⟨T, hT⟩ : ∃ T, T = L1 ++ edL E k := ⟨_, rfl⟩
    rw [← hT] at ho
    have HT := Lib.hid hT
    have HTL := Lib.hid (show T.length ≤ 8 + 12 * k from by rw [hT, List.length_append, HN1.out, edL_length]; omega)
    have HO := Lib.hid ho
    have HB := Lib.hid hb
    clear ho hb hT
    by_cases hlt : k < n
    · obtain ⟨ao', c', e, hcc, H⟩ := HV.out.below HB.out
      simp only [Value.slice.injEq, true_and] at e
      obtain ⟨rfl, rfl⟩ := e
      obtain ⟨b, o, rfl, h0, h1⟩ := H k hlt
      obtain ⟨s, hs⟩ : ∃ s, s = E k := ⟨_, rfl⟩
      rw [← hs] at h0 h1
      have HS := Lib.hid hs
      clear H hs
      go_wp2_with fail
      have HI : Hid (IL ((wr.alloc (.cells #[.int .i64 s.dur, .int .i64 s.time] 76)).alloc (.cells #[.int .i64 s.dur, .int .i64 s.time, .int .i64 65536] 2)) (.slice (some ⟨wr.heap.size + 1, 0, none⟩) 3 3) [s.dur, s.time, 65536]) := Lib.hid (by
        have h := IL.build (wr.alloc (.cells #[.int .i64 s.dur, .int .i64 s.time] 76)) [s.dur, s.time, 65536] 2
        rw [World.size_alloc] at h
        exact h)
      have hb2 : Below wr.heap.size wr ((wr.alloc (.cells #[.int .i64 s.dur, .int .i64 s.time] 76)).alloc (.cells #[.int .i64 s.dur, .int .i64 s.time, .int .i64 65536] 2)) := (below_box _ _).alloc (by simp) _
      have hsz := HB.out.size
      refine (appn_any u3 _ T [s.dur, s.time, 65536] w.heap.size _ (HO.out.below hb2) HI.out (HO.out.apart_new (by omega)) (by simp) (by have := HTL.out; omega) (by simp; omega)).mono ?_
      rintro e w3 ⟨r3, rfl, h3, ha3⟩
      have H3 := Lib.hid (show Own w3 w.heap.size r3 (L1 ++ edL E (k + 1)) from by
        have e : L1 ++ edL E (k + 1) = T ++ numsL [s.dur, s.time, 65536] := by
          rw [HT.out, HS.out, List.append_assoc]; rfl
        rw [e]; exact h3)
      have HB3 := Lib.hid (HB.out.trans ((hb2.mono hsz).trans (Adv.up (HO.out.below hb2) ha3 (by simp; omega))))
      clear h3 ha3 hb2 HI
      go_wp2_with fail
      go_roundw
      case rel => exact ⟨k + 1, by omega, by go_num, H3.out, HB3.out⟩
      case measure => simp [intOf]; omega
    · obtain rfl : k = n := by omega
      obtain ⟨xa, xc, hx⟩ := HO.out.shape
      have H3 := Lib.hid HO.out
      rw [hx] at H3 ⊢
      clear hx
      go_wp2_with fail
      go_ret
      rw [← HL1.out, ← HT.out]
      exact ⟨_, rfl, H3.out, HB.out⟩
end Go.Proofs.Ytkhjkemllgjfmaa
