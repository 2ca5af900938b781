/- The contracts of matching, Alike, pair, Same. -/
import Derived.Test.YtnnobdcbmagbaaaB
namespace Go.Proofs.Ytnnobdcbmagbaaa
open Go.RowKit

def pairOk (F G : Fr) : Bool := F.ok && G.ok && F.W == G.W && F.H == G.H

set_option maxHeartbeats 800000 in
theorem matching_any (v u : Value) (F G : Fr) (w : World) (hv : FA w v F) (hu : FA w u G) :
    Calls Try.prog 46 #[v, u] w fun e w' => e = .returned (.bool (pairOk F G)) ∧ Below w.heap.size w w' := by
  have hv0 := hv
  have hu0 := hu
  obtain ⟨y, u1, z, rfl, _, _, _⟩ := hv
  obtain ⟨y', u', z', rfl, _, _, _⟩ := hu
  have b0 : Below w.heap.size w ((w.alloc (.cells #[.int .i64 F.W, .int .i64 F.H, y, u1, z] 26)).alloc (.cells #[.int .i64 G.W, .int .i64 G.H, y', u', z'] 26)) := (below_box w _).alloc (by simp) _
  have hv1 := Lib.hid (hv0.below b0)
  have hu1 := Lib.hid ((hu0.below b0).below (below_box _ (.cells #[.int .i64 F.W, .int .i64 F.H, y, u1, z] 26)))
  clear hv0 hu0 b0
  by_cases h1 : F.ok = true
  · have H1 := Lib.hid h1
    clear h1
    by_cases h2 : G.ok = true
    · have H2 := Lib.hid h2
      clear h2
      go_enter Try.func46, Try.ntmps46
      go_wp2_with (first | (go_at_call_of 57 (#[Value.agg #[Value.int IntKind.i64 F.W, Value.int IntKind.i64 F.H, y, u1, z]]); refine (valid_any _ F _ hv1.out).mono ?_; rintro e w1 ⟨rfl, rfl⟩; rw [H1.out]) | (refine (valid_any _ G _ hu1.out).mono ?_; rintro e w1 ⟨rfl, rfl⟩; rw [H2.out]))
      all_goals go_ret
      all_goals refine ⟨ret_bool ?_, by go_grown⟩
      all_goals rw [Bool.eq_iff_iff]; simp [pairOk, H1.out, H2.out, *]
    · have h2' : G.ok = false := by simpa using h2
      have H2 := Lib.hid h2'
      clear h2 h2'
      go_enter Try.func46, Try.ntmps46
      go_wp2_with (first | (go_at_call_of 57 (#[Value.agg #[Value.int IntKind.i64 F.W, Value.int IntKind.i64 F.H, y, u1, z]]); refine (valid_any _ F _ hv1.out).mono ?_; rintro e w1 ⟨rfl, rfl⟩; rw [H1.out]) | (refine (valid_any _ G _ hu1.out).mono ?_; rintro e w1 ⟨rfl, rfl⟩; rw [H2.out]))
      all_goals go_ret
      all_goals exact ⟨ret_bool (by simp [pairOk, H2.out]), by go_grown⟩
  · have h1' : F.ok = false := by simpa using h1
    have H1 := Lib.hid h1'
    clear h1 h1'
    go_enter Try.func46, Try.ntmps46
    go_wp2_with (refine (valid_any _ F _ hv1.out).mono ?_; rintro e w1 ⟨rfl, rfl⟩; rw [H1.out])
    all_goals go_ret
    all_goals exact ⟨ret_bool (by simp [pairOk, H1.out]), by go_grown⟩

end Go.Proofs.Ytnnobdcbmagbaaa
