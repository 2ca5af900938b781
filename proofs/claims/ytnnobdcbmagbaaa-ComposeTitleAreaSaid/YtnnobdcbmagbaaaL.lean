/- The contract of compose.Black. -/
import Derived.Test.YtnnobdcbmagbaaaG
namespace Go.Proofs.Ytnnobdcbmagbaaa
open Go.RowKit

def blackFr (W H : Int) : Fr := ⟨W, H, (W * H).toNat, (W / 2 * (H / 2)).toNat, (W / 2 * (H / 2)).toNat, fun _ => 16, fun _ => 128, fun _ => 128⟩

theorem flat_int (m s : Int) (w : World) (h0 : 0 ≤ m) (hm : m ≤ 4096) :
    Calls Try.prog 40 #[.int .i64 m, .int .u8 s] w fun e w' => ∃ g, e = .returned (.slice (some ⟨g, 0, none⟩) m.toNat m.toNat) ∧ Row w' w.heap.size g m.toNat m.toNat (fun _ => s) ∧ Below w.heap.size w w' := by
  obtain ⟨n, rfl⟩ := Int.eq_ofNat_of_zero_le h0
  rw [Int.toNat_natCast]
  exact flat_any n s w (by omega)


set_option maxRecDepth 100000 in
set_option maxHeartbeats 2000000 in
theorem black_yes (W H : Int) (w : World) (hs : okSize W H = true) :
    Calls Try.prog 17 #[.int .i64 W, .int .i64 H] w fun e w' => ∃ r, e = .returned (.tuple #[r, .int .i64 0]) ∧ FA w' r (blackFr W H) ∧ Below w.heap.size w w' := by
  obtain ⟨b1, b2, b3, b4, b5, b6, b7, b8⟩ := okSize_bd hs
  have c1 : 0 ≤ W / 2 * (H / 2) := Int.mul_nonneg (by omega) (by omega)
  have c2 : W / 2 * (H / 2) ≤ 32 * 32 := Int.mul_le_mul (by omega) (by omega) (by omega) (by omega)
  have e1 := IntWalk.i64_in (W * H) (by omega)
  have e2 := IntWalk.i64_in (W / 2 * (H / 2)) (by omega)
  have HS := Lib.hid hs
  clear hs
  go_enter Try.func17, Try.ntmps17
  go_wp2_with fail
  refine (validSize_any _ _ _).mono ?_
  rintro e w0 ⟨rfl, rfl⟩
  rw [HS.out]
  go_wp2_with fail
  refine (flat_int _ _ _ (by omega) (by omega)).mono ?_
  rintro e w1 ⟨g1, rfl, r1, hb1⟩
  go_wp2_with fail
  refine (flat_int _ _ _ (by omega) (by omega)).mono ?_
  rintro e w2 ⟨g2, rfl, r2, hb2⟩
  go_wp2_with fail
  refine (flat_int _ _ _ (by omega) (by omega)).mono ?_
  rintro e w3 ⟨g3, rfl, r3, hb3⟩
  have n1 : w.heap.size + 1 ≤ w1.heap.size := by have := hb1.size; simpa using this
  have n2 := hb2.size
  have n3 := hb3.size
  have BB : Below (w.heap.size + 1) (w.alloc (.cells #[.int .i64 0, .int .i64 0, .slice none 0 0, .slice none 0 0, .slice none 0 0] 26)) w3 := ((hb1.mono (by simp)).trans (hb2.mono (by omega))).trans (hb3.mono (by omega))
  have k0 : w3.cell? ⟨w.heap.size, 0, none⟩ = some (.int .i64 0) := (BB.cell (by simp)).trans (by simp [go_sem])
  have k1 : w3.cell? ⟨w.heap.size, 1, none⟩ = some (.int .i64 0) := (BB.cell (by simp)).trans (by simp [go_sem])
  have k2 : w3.cell? ⟨w.heap.size, 2, none⟩ = some (.slice none 0 0) := (BB.cell (by simp)).trans (by simp [go_sem])
  have k3 : w3.cell? ⟨w.heap.size, 3, none⟩ = some (.slice none 0 0) := (BB.cell (by simp)).trans (by simp [go_sem])
  have k4 : w3.cell? ⟨w.heap.size, 4, none⟩ = some (.slice none 0 0) := (BB.cell (by simp)).trans (by simp [go_sem])
  have z : ∀ o, w3.frozen? ⟨w.heap.size, o, none⟩ = false := fun o => (BB.frozen (by simp)).trans (by simp [go_sem])
  have W3 : Below w.heap.size w w3 := (below_box w _).trans (BB.mono (by omega))
  have l1 := r1.le
  have l2 := r2.le
  have l3 := r3.le
  simp at l1
  have HR := Lib.hid (And.intro ((r1.below hb2).below hb3) (And.intro (r2.below hb3) r3))
  clear r1 r2 r3 hb1 hb2 hb3 BB
  go_wp2_with fail
  refine bodyPost_ret (v := .tuple #[.agg #[.int .i64 W, .int .i64 H, .slice (some ⟨g1, 0, none⟩) (W * H).toNat (W * H).toNat, .slice (some ⟨g2, 0, none⟩) (W / 2 * (H / 2)).toNat (W / 2 * (H / 2)).toNat, .slice (some ⟨g3, 0, none⟩) (W / 2 * (H / 2)).toNat (W / 2 * (H / 2)).toNat], .int .i64 0]) (by simp [results, Try.results17, go_sem, k0, k1, k2, k3, k4]) rfl ?_
  obtain ⟨h1, h2, h3⟩ := HR.out
  refine ⟨_, rfl, ⟨_, _, _, rfl, ?_, ?_, ?_⟩, by go_grown⟩
  · refine Row.BA (B := (w.alloc (.cells #[.int .i64 0, .int .i64 0, .slice none 0 0, .slice none 0 0, .slice none 0 0] 26)).heap.size) ?_ (fun i _ => by simp [blackFr])
    repeat (refine Row.far ?_ (by simp; omega) _)
    exact h1
  · refine Row.BA (B := w1.heap.size) ?_ (fun i _ => by simp [blackFr])
    repeat (refine Row.far ?_ (by simp; omega) _)
    exact h2
  · refine Row.BA (B := w2.heap.size) ?_ (fun i _ => by simp [blackFr])
    repeat (refine Row.far ?_ (by simp; omega) _)
    exact h3

set_option maxRecDepth 100000 in
set_option maxHeartbeats 1000000 in
theorem black_no (W H : Int) (w : World) (hs : okSize W H = false) :
    Calls Try.prog 17 #[.int .i64 W, .int .i64 H] w fun e w' => e = .returned (.tuple #[zeroV, .int .i64 1]) ∧ Below w.heap.size w w' := by
  have HS := Lib.hid hs
  clear hs
  go_enter Try.func17, Try.ntmps17
  go_wp2_with fail
  refine (validSize_any _ _ _).mono ?_
  rintro e w0 ⟨rfl, rfl⟩
  rw [HS.out]
  go_wp2_with fail
  refine bodyPost_ret (v := .tuple #[zeroV, .int .i64 1]) (by simp [results, Try.results17, go_sem, zeroV]) rfl ⟨rfl, by go_grown⟩

end Go.Proofs.Ytnnobdcbmagbaaa
