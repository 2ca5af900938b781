/- The contracts of the frame tests: valid, matching, cutroomref20.Valid, Alike, pair, Same. -/
import Derived.Test.YtnnobdcbmagbaaaA
namespace Go.Proofs.Ytnnobdcbmagbaaa
open Go.RowKit

theorem ok_false {F : Fr} (h : ¬ okSize F.W F.H = true) : F.ok = false := by simp [Fr.ok, h]
theorem ok_size {F : Fr} (h : F.ok = true) : okSize F.W F.H = true := by simp [Fr.ok] at h; exact h.1.1.1
theorem below_box (w : World) (o : Obj) : Below w.heap.size w (w.alloc o) := (Below.refl _ _).alloc (Nat.le_refl _) _

set_option maxHeartbeats 400000 in
theorem valid_any (v : Value) (F : Fr) (w : World) (hv : FA w v F) :
    Calls Try.prog 57 #[v] w fun e w' => e = .returned (.bool F.ok) ∧ w.alloc (.cells v.cells 26) = w' := by
  obtain ⟨y, u, z, rfl, ⟨ay, cy, rfl, _, _⟩, ⟨au, cu, rfl, _, _⟩, ⟨az, cz, rfl, _, _⟩⟩ := hv
  obtain ⟨W, H, nY, nU, nV, fY, fU, fV⟩ := F
  simp only at *
  by_cases hs : okSize W H = true
  · have hb := okSize_bd hs
    obtain ⟨b1, b2, b3, b4, b5, b6, b7, b8⟩ := hb
    have e1 := IntWalk.i64_in (W * H) (by omega)
    have c1 : 0 ≤ W / 2 * (H / 2) := Int.mul_nonneg (by omega) (by omega)
    have c2 : W / 2 * (H / 2) ≤ 32 * 32 := Int.mul_le_mul (by omega) (by omega) (by omega) (by omega)
    have e2 := IntWalk.i64_in (W / 2 * (H / 2)) (by omega)
    have HS := Lib.hid hs
    clear hs
    go_enter Try.func57, Try.ntmps57
    go_wp2_with (go_at_call 39; refine (validSize_any _ _ _).mono ?_; rintro e w' ⟨rfl, rfl⟩; rw [HS.out])
    all_goals go_ret
    all_goals exact ⟨ret_bool (by rw [Bool.eq_iff_iff]; simp [Fr.ok, HS.out, *]), rfl⟩
  · have hs' : okSize W H = false := by simpa using hs
    have HS := Lib.hid hs'
    have HK := Lib.hid (ok_false (F := ⟨W, H, nY, nU, nV, fY, fU, fV⟩) hs)
    clear hs hs'
    go_enter Try.func57, Try.ntmps57
    go_wp2_with (go_at_call 39; refine (validSize_any _ _ _).mono ?_; rintro e w' ⟨rfl, rfl⟩; rw [HS.out])
    all_goals go_ret
    all_goals exact ⟨ret_bool HK.out.symm, rfl⟩

theorem quarter {W H : Int} (h : okSize W H = true) : W * H / 4 = W / 2 * (H / 2) := by
  obtain ⟨h1, _, h2, _, _, _⟩ := okSize_bd h
  simp [okSize] at h
  obtain ⟨a, rfl⟩ : ∃ a, W = 2 * a := ⟨W / 2, by omega⟩
  obtain ⟨b, rfl⟩ : ∃ b, H = 2 * b := ⟨H / 2, by omega⟩
  rw [Int.mul_ediv_cancel_left _ (by decide), Int.mul_ediv_cancel_left _ (by decide)]
  rw [show 2 * a * (2 * b) = 4 * (a * b) by rw [Int.mul_assoc, Int.mul_left_comm a 2 b, ← Int.mul_assoc]; rfl]
  rw [Int.mul_ediv_cancel_left _ (by decide)]

set_option maxHeartbeats 800000 in
theorem r20valid_any (v : Value) (F : Fr) (w : World) (hv : FA w v F) :
    Calls Try.prog 38 #[v] w fun e w' => e = .returned (.bool F.ok) ∧ w.alloc (.cells v.cells 26) = w' := by
  obtain ⟨y, u, z, rfl, ⟨ay, cy, rfl, _, _⟩, ⟨au, cu, rfl, _, _⟩, ⟨az, cz, rfl, _, _⟩⟩ := hv
  obtain ⟨W, H, nY, nU, nV, fY, fU, fV⟩ := F
  simp only at *
  by_cases hs : okSize W H = true
  · have hb := okSize_bd hs
    obtain ⟨b1, b2, b3, b4, b5, b6, b7, b8⟩ := hb
    have e1 := IntWalk.i64_in (W * H) (by omega)
    have q := quarter hs
    have q0 : 0 ≤ W * H := by omega
    have HS := Lib.hid hs
    have HQ := Lib.hid q
    clear hs q
    go_enter Try.func38, Try.ntmps38
    go_wp2
    all_goals go_ret
    all_goals refine ⟨ret_bool ?_, rfl⟩
    all_goals rw [Bool.eq_iff_iff]; simp [Fr.ok, HS.out, ← HQ.out, *]
  · have HK := Lib.hid (ok_false (F := ⟨W, H, nY, nU, nV, fY, fU, fV⟩) hs)
    simp only [okSize, decide_eq_true_eq] at hs
    go_enter Try.func38, Try.ntmps38
    go_wp2
    all_goals try (exfalso; simp only [bne_iff_ne, ne_eq, bne_eq_false_iff_eq] at *; omega)
    all_goals go_ret
    all_goals exact ⟨ret_bool HK.out.symm, rfl⟩

end Go.Proofs.Ytnnobdcbmagbaaa
