/- The contract of cutroomlaw26.ComposeBlack: it answers true. -/
import Derived.Test.YtnnobdcbmagbaaaT
import Derived.Test.YtnnobdcbmagbaaaO
namespace Go.Proofs.Ytnnobdcbmagbaaa
open Go.RowKit

theorem same_self (F : Fr) : frSame F F = true := frSame_of rfl rfl rfl rfl rfl (fun _ _ => rfl) (fun _ _ => rfl) (fun _ _ => rfl)

set_option maxRecDepth 100000 in
set_option maxHeartbeats 4000000 in
theorem law_black (W H : Int) (w : World) : Calls Try.prog 3 #[.int .i64 W, .int .i64 H] w fun e w' => e = .returned (.bool true) ∧ Below w.heap.size w w' := by
  go_enter Try.func3, Try.ntmps3
  go_wp2_with fail
  go_loopw [26] (fun i wr => ∃ k : Nat, k ≤ 3 ∧ i = .int .i64 (k : Int) ∧ Below (w.heap.size + 1) (w.alloc (.cells #[.int .i64 W, .int .i64 H, .int .i64 (bits BinOp.and IntKind.i64 W 127), .int .i64 (bits BinOp.and IntKind.i64 H 127), .int .i64 (bits BinOp.and IntKind.i64 W 48), .int .i64 (bits BinOp.and IntKind.i64 H 48)] 22)) wr) (fun i _ => 3 - (intOf i).toNat)
  case atStart => exact ⟨0, by omega, rfl, Below.refl _ _⟩
  case round =>
    obtain ⟨k, hk, rfl, hb⟩ := hrel
    have nb := hb.size
    simp only [World.size_alloc] at nb
    have P3 : ∀ (wz : World) (o1 o2 o3 : Obj), Below wz.heap.size wz (((wz.alloc o1).alloc o2).alloc o3) := fun _ _ _ _ => by go_grown
    rcases (show k = 0 ∨ k = 1 ∨ k = 2 ∨ k = 3 by omega) with rfl | rfl | rfl | rfl
    · have cP : wr.cell? ⟨w.heap.size, 0, none⟩ = some (.int .i64 W) := (hb.cell (by simp)).trans (by simp [go_sem])
      have cQ : wr.cell? ⟨w.heap.size, 1, none⟩ = some (.int .i64 H) := (hb.cell (by simp)).trans (by simp [go_sem])
      obtain ⟨P, hP⟩ : ∃ P, P = W := ⟨_, rfl⟩
      obtain ⟨Q, hQ⟩ : ∃ Q, Q = H := ⟨_, rfl⟩
      rw [← hP] at cP
      rw [← hQ] at cQ
      clear hP hQ
      have HB := Lib.hid hb
      clear hb
      go_wp2_with fail
      by_cases hs : okSize P Q = true
      · have HS := Lib.hid hs
        clear hs
        refine (black_yes P Q _ HS.out).mono ?_
        rintro e w1 ⟨r, rfl, hf, hb1⟩
        have HF := Lib.hid hf
        obtain ⟨ay, cy, au, cu, av, cv, rfl⟩ := hf.shape
        clear hf
        have E1 := (below_box wr _).trans (hb1.mono (by simp))
        have n1 := hb1.size
        simp only [World.size_alloc] at n1
        have j0 := (hb1.cell (p := ⟨wr.heap.size, 0, none⟩) (by simp)).trans (show _ = some (.int .i64 P) by simp [go_sem])
        have j1 := (hb1.cell (p := ⟨wr.heap.size, 1, none⟩) (by simp)).trans (show _ = some (.int .i64 Q) by simp [go_sem])
        have v1 : wr.heap.size < w1.heap.size := by omega
        have H1 := Lib.hid E1
        clear hb1 E1
        go_wp2_with fail
        refine (rblack_yes P Q _ HS.out).mono ?_
        rintro e w2 ⟨r, rfl, hf, hb2⟩
        have HG := Lib.hid hf
        obtain ⟨ay2, cy2, au2, cu2, av2, cv2, rfl⟩ := hf.shape
        clear hf
        have n2 := hb2.size
        simp only [World.size_alloc] at n2
        have E2 := (below_box w1 _).trans (hb2.mono (by simp))
        have k0 := (hb2.cell (p := ⟨w1.heap.size, 0, none⟩) (by simp)).trans (show _ = some (.int .i64 (blackFr P Q).W) by simp [go_sem])
        have k1 := (hb2.cell (p := ⟨w1.heap.size, 1, none⟩) (by simp)).trans (show _ = some (.int .i64 (blackFr P Q).H) by simp [go_sem])
        have k2 := (hb2.cell (p := ⟨w1.heap.size, 2, none⟩) (by simp)).trans (show _ = some (.slice ay (blackFr P Q).nY cy) by simp [go_sem])
        have k3 := (hb2.cell (p := ⟨w1.heap.size, 3, none⟩) (by simp)).trans (show _ = some (.slice au (blackFr P Q).nU cu) by simp [go_sem])
        have k4 := (hb2.cell (p := ⟨w1.heap.size, 4, none⟩) (by simp)).trans (show _ = some (.slice av (blackFr P Q).nV cv) by simp [go_sem])
        have v2 : w1.heap.size < w2.heap.size := by omega
        have H2 := Lib.hid E2
        have HF2 := Lib.hid (HF.out.below E2)
        clear hb2 E2 j0 j1 cP cQ
        go_wp2_with fail
        refine (same_any _ _ (blackFr P Q) (blackFr P Q) _ (HF2.out.below (below_box _ _)) (HG.out.below (below_box _ _))).mono ?_
        rintro e w3 ⟨rfl, rfl⟩
        rw [same_self]
        go_wp2_with fail
        go_roundw
        case rel => exact ⟨1, by omega, by go_num, HB.out.trans (((H1.out.trans (H2.out.mono (by omega))).trans ((P3 _ _ _ _).mono (by omega))).mono (by omega))⟩
        case measure => simp [intOf]
      · have HS := Lib.hid (Bool.eq_false_iff.mpr hs)
        clear hs
        refine (black_no P Q _ HS.out).mono ?_
        unfold zeroV
        rintro e w1 ⟨rfl, hb1⟩
        have E1 := (below_box wr _).trans (hb1.mono (by simp))
        have n1 := hb1.size
        simp only [World.size_alloc] at n1
        have j0 := (hb1.cell (p := ⟨wr.heap.size, 0, none⟩) (by simp)).trans (show _ = some (.int .i64 P) by simp [go_sem])
        have j1 := (hb1.cell (p := ⟨wr.heap.size, 1, none⟩) (by simp)).trans (show _ = some (.int .i64 Q) by simp [go_sem])
        have v1 : wr.heap.size < w1.heap.size := by omega
        have H1 := Lib.hid E1
        clear hb1 E1
        go_wp2_with fail
        refine (rblack_no P Q _ HS.out).mono ?_
        unfold zeroV
        rintro e w2 ⟨rfl, hb2⟩
        have n2 := hb2.size
        simp only [World.size_alloc] at n2
        have E2 := (below_box w1 _).trans (hb2.mono (by simp))
        have k0 := (hb2.cell (p := ⟨w1.heap.size, 0, none⟩) (by simp)).trans (show _ = some (.int .i64 0) by simp [go_sem])
        have k1 := (hb2.cell (p := ⟨w1.heap.size, 1, none⟩) (by simp)).trans (show _ = some (.int .i64 0) by simp [go_sem])
        have k2 := (hb2.cell (p := ⟨w1.heap.size, 2, none⟩) (by simp)).trans (show _ = some (.slice none 0 0) by simp [go_sem])
        have k3 := (hb2.cell (p := ⟨w1.heap.size, 3, none⟩) (by simp)).trans (show _ = some (.slice none 0 0) by simp [go_sem])
        have k4 := (hb2.cell (p := ⟨w1.heap.size, 4, none⟩) (by simp)).trans (show _ = some (.slice none 0 0) by simp [go_sem])
        have v2 : w1.heap.size < w2.heap.size := by omega
        have H2 := Lib.hid E2
        clear hb2 E2 j0 j1 cP cQ
        go_wp2_with fail
        refine (same_any _ _ Fr.zero Fr.zero _ (FA.zero _) (FA.zero _)).mono ?_
        rintro e w3 ⟨rfl, rfl⟩
        rw [same_self]
        go_wp2_with fail
        go_roundw
        case rel => exact ⟨1, by omega, by go_num, HB.out.trans (((H1.out.trans (H2.out.mono (by omega))).trans ((P3 _ _ _ _).mono (by omega))).mono (by omega))⟩
        case measure => simp [intOf]
    · have cP : wr.cell? ⟨w.heap.size, 2, none⟩ = some (.int .i64 (bits BinOp.and IntKind.i64 W 127)) := (hb.cell (by simp)).trans (by simp [go_sem])
      have cQ : wr.cell? ⟨w.heap.size, 3, none⟩ = some (.int .i64 (bits BinOp.and IntKind.i64 H 127)) := (hb.cell (by simp)).trans (by simp [go_sem])
      obtain ⟨P, hP⟩ : ∃ P, P = (bits BinOp.and IntKind.i64 W 127) := ⟨_, rfl⟩
      obtain ⟨Q, hQ⟩ : ∃ Q, Q = (bits BinOp.and IntKind.i64 H 127) := ⟨_, rfl⟩
      rw [← hP] at cP
      rw [← hQ] at cQ
      clear hP hQ
      have HB := Lib.hid hb
      clear hb
      go_wp2_with fail
      by_cases hs : okSize P Q = true
      · have HS := Lib.hid hs
        clear hs
        refine (black_yes P Q _ HS.out).mono ?_
        rintro e w1 ⟨r, rfl, hf, hb1⟩
        have HF := Lib.hid hf
        obtain ⟨ay, cy, au, cu, av, cv, rfl⟩ := hf.shape
        clear hf
        have E1 := (below_box wr _).trans (hb1.mono (by simp))
        have n1 := hb1.size
        simp only [World.size_alloc] at n1
        have j0 := (hb1.cell (p := ⟨wr.heap.size, 0, none⟩) (by simp)).trans (show _ = some (.int .i64 P) by simp [go_sem])
        have j1 := (hb1.cell (p := ⟨wr.heap.size, 1, none⟩) (by simp)).trans (show _ = some (.int .i64 Q) by simp [go_sem])
        have v1 : wr.heap.size < w1.heap.size := by omega
        have H1 := Lib.hid E1
        clear hb1 E1
        go_wp2_with fail
        refine (rblack_yes P Q _ HS.out).mono ?_
        rintro e w2 ⟨r, rfl, hf, hb2⟩
        have HG := Lib.hid hf
        obtain ⟨ay2, cy2, au2, cu2, av2, cv2, rfl⟩ := hf.shape
        clear hf
        have n2 := hb2.size
        simp only [World.size_alloc] at n2
        have E2 := (below_box w1 _).trans (hb2.mono (by simp))
        have k0 := (hb2.cell (p := ⟨w1.heap.size, 0, none⟩) (by simp)).trans (show _ = some (.int .i64 (blackFr P Q).W) by simp [go_sem])
        have k1 := (hb2.cell (p := ⟨w1.heap.size, 1, none⟩) (by simp)).trans (show _ = some (.int .i64 (blackFr P Q).H) by simp [go_sem])
        have k2 := (hb2.cell (p := ⟨w1.heap.size, 2, none⟩) (by simp)).trans (show _ = some (.slice ay (blackFr P Q).nY cy) by simp [go_sem])
        have k3 := (hb2.cell (p := ⟨w1.heap.size, 3, none⟩) (by simp)).trans (show _ = some (.slice au (blackFr P Q).nU cu) by simp [go_sem])
        have k4 := (hb2.cell (p := ⟨w1.heap.size, 4, none⟩) (by simp)).trans (show _ = some (.slice av (blackFr P Q).nV cv) by simp [go_sem])
        have v2 : w1.heap.size < w2.heap.size := by omega
        have H2 := Lib.hid E2
        have HF2 := Lib.hid (HF.out.below E2)
        clear hb2 E2 j0 j1 cP cQ
        go_wp2_with fail
        refine (same_any _ _ (blackFr P Q) (blackFr P Q) _ (HF2.out.below (below_box _ _)) (HG.out.below (below_box _ _))).mono ?_
        rintro e w3 ⟨rfl, rfl⟩
        rw [same_self]
        go_wp2_with fail
        go_roundw
        case rel => exact ⟨2, by omega, by go_num, HB.out.trans (((H1.out.trans (H2.out.mono (by omega))).trans ((P3 _ _ _ _).mono (by omega))).mono (by omega))⟩
        case measure => simp [intOf]
      · have HS := Lib.hid (Bool.eq_false_iff.mpr hs)
        clear hs
        refine (black_no P Q _ HS.out).mono ?_
        unfold zeroV
        rintro e w1 ⟨rfl, hb1⟩
        have E1 := (below_box wr _).trans (hb1.mono (by simp))
        have n1 := hb1.size
        simp only [World.size_alloc] at n1
        have j0 := (hb1.cell (p := ⟨wr.heap.size, 0, none⟩) (by simp)).trans (show _ = some (.int .i64 P) by simp [go_sem])
        have j1 := (hb1.cell (p := ⟨wr.heap.size, 1, none⟩) (by simp)).trans (show _ = some (.int .i64 Q) by simp [go_sem])
        have v1 : wr.heap.size < w1.heap.size := by omega
        have H1 := Lib.hid E1
        clear hb1 E1
        go_wp2_with fail
        refine (rblack_no P Q _ HS.out).mono ?_
        unfold zeroV
        rintro e w2 ⟨rfl, hb2⟩
        have n2 := hb2.size
        simp only [World.size_alloc] at n2
        have E2 := (below_box w1 _).trans (hb2.mono (by simp))
        have k0 := (hb2.cell (p := ⟨w1.heap.size, 0, none⟩) (by simp)).trans (show _ = some (.int .i64 0) by simp [go_sem])
        have k1 := (hb2.cell (p := ⟨w1.heap.size, 1, none⟩) (by simp)).trans (show _ = some (.int .i64 0) by simp [go_sem])
        have k2 := (hb2.cell (p := ⟨w1.heap.size, 2, none⟩) (by simp)).trans (show _ = some (.slice none 0 0) by simp [go_sem])
        have k3 := (hb2.cell (p := ⟨w1.heap.size, 3, none⟩) (by simp)).trans (show _ = some (.slice none 0 0) by simp [go_sem])
        have k4 := (hb2.cell (p := ⟨w1.heap.size, 4, none⟩) (by simp)).trans (show _ = some (.slice none 0 0) by simp [go_sem])
        have v2 : w1.heap.size < w2.heap.size := by omega
        have H2 := Lib.hid E2
        clear hb2 E2 j0 j1 cP cQ
        go_wp2_with fail
        refine (same_any _ _ Fr.zero Fr.zero _ (FA.zero _) (FA.zero _)).mono ?_
        rintro e w3 ⟨rfl, rfl⟩
        rw [same_self]
        go_wp2_with fail
        go_roundw
        case rel => exact ⟨2, by omega, by go_num, HB.out.trans (((H1.out.trans (H2.out.mono (by omega))).trans ((P3 _ _ _ _).mono (by omega))).mono (by omega))⟩
        case measure => simp [intOf]
    · have cP : wr.cell? ⟨w.heap.size, 4, none⟩ = some (.int .i64 (bits BinOp.and IntKind.i64 W 48)) := (hb.cell (by simp)).trans (by simp [go_sem])
      have cQ : wr.cell? ⟨w.heap.size, 5, none⟩ = some (.int .i64 (bits BinOp.and IntKind.i64 H 48)) := (hb.cell (by simp)).trans (by simp [go_sem])
      obtain ⟨P, hP⟩ : ∃ P, P = (bits BinOp.and IntKind.i64 W 48) := ⟨_, rfl⟩
      obtain ⟨Q, hQ⟩ : ∃ Q, Q = (bits BinOp.and IntKind.i64 H 48) := ⟨_, rfl⟩
      rw [← hP] at cP
      rw [← hQ] at cQ
      clear hP hQ
      have HB := Lib.hid hb
      clear hb
      go_wp2_with fail
      by_cases hs : okSize P Q = true
      · have HS := Lib.hid hs
        clear hs
        refine (black_yes P Q _ HS.out).mono ?_
        rintro e w1 ⟨r, rfl, hf, hb1⟩
        have HF := Lib.hid hf
        obtain ⟨ay, cy, au, cu, av, cv, rfl⟩ := hf.shape
        clear hf
        have E1 := (below_box wr _).trans (hb1.mono (by simp))
        have n1 := hb1.size
        simp only [World.size_alloc] at n1
        have j0 := (hb1.cell (p := ⟨wr.heap.size, 0, none⟩) (by simp)).trans (show _ = some (.int .i64 P) by simp [go_sem])
        have j1 := (hb1.cell (p := ⟨wr.heap.size, 1, none⟩) (by simp)).trans (show _ = some (.int .i64 Q) by simp [go_sem])
        have v1 : wr.heap.size < w1.heap.size := by omega
        have H1 := Lib.hid E1
        clear hb1 E1
        go_wp2_with fail
        refine (rblack_yes P Q _ HS.out).mono ?_
        rintro e w2 ⟨r, rfl, hf, hb2⟩
        have HG := Lib.hid hf
        obtain ⟨ay2, cy2, au2, cu2, av2, cv2, rfl⟩ := hf.shape
        clear hf
        have n2 := hb2.size
        simp only [World.size_alloc] at n2
        have E2 := (below_box w1 _).trans (hb2.mono (by simp))
        have k0 := (hb2.cell (p := ⟨w1.heap.size, 0, none⟩) (by simp)).trans (show _ = some (.int .i64 (blackFr P Q).W) by simp [go_sem])
        have k1 := (hb2.cell (p := ⟨w1.heap.size, 1, none⟩) (by simp)).trans (show _ = some (.int .i64 (blackFr P Q).H) by simp [go_sem])
        have k2 := (hb2.cell (p := ⟨w1.heap.size, 2, none⟩) (by simp)).trans (show _ = some (.slice ay (blackFr P Q).nY cy) by simp [go_sem])
        have k3 := (hb2.cell (p := ⟨w1.heap.size, 3, none⟩) (by simp)).trans (show _ = some (.slice au (blackFr P Q).nU cu) by simp [go_sem])
        have k4 := (hb2.cell (p := ⟨w1.heap.size, 4, none⟩) (by simp)).trans (show _ = some (.slice av (blackFr P Q).nV cv) by simp [go_sem])
        have v2 : w1.heap.size < w2.heap.size := by omega
        have H2 := Lib.hid E2
        have HF2 := Lib.hid (HF.out.below E2)
        clear hb2 E2 j0 j1 cP cQ
        go_wp2_with fail
        refine (same_any _ _ (blackFr P Q) (blackFr P Q) _ (HF2.out.below (below_box _ _)) (HG.out.below (below_box _ _))).mono ?_
        rintro e w3 ⟨rfl, rfl⟩
        rw [same_self]
        go_wp2_with fail
        go_roundw
        case rel => exact ⟨3, by omega, by go_num, HB.out.trans (((H1.out.trans (H2.out.mono (by omega))).trans ((P3 _ _ _ _).mono (by omega))).mono (by omega))⟩
        case measure => simp [intOf]
      · have HS := Lib.hid (Bool.eq_false_iff.mpr hs)
        clear hs
        refine (black_no P Q _ HS.out).mono ?_
        unfold zeroV
        rintro e w1 ⟨rfl, hb1⟩
        have E1 := (below_box wr _).trans (hb1.mono (by simp))
        have n1 := hb1.size
        simp only [World.size_alloc] at n1
        have j0 := (hb1.cell (p := ⟨wr.heap.size, 0, none⟩) (by simp)).trans (show _ = some (.int .i64 P) by simp [go_sem])
        have j1 := (hb1.cell (p := ⟨wr.heap.size, 1, none⟩) (by simp)).trans (show _ = some (.int .i64 Q) by simp [go_sem])
        have v1 : wr.heap.size < w1.heap.size := by omega
        have H1 := Lib.hid E1
        clear hb1 E1
        go_wp2_with fail
        refine (rblack_no P Q _ HS.out).mono ?_
        unfold zeroV
        rintro e w2 ⟨rfl, hb2⟩
        have n2 := hb2.size
        simp only [World.size_alloc] at n2
        have E2 := (below_box w1 _).trans (hb2.mono (by simp))
        have k0 := (hb2.cell (p := ⟨w1.heap.size, 0, none⟩) (by simp)).trans (show _ = some (.int .i64 0) by simp [go_sem])
        have k1 := (hb2.cell (p := ⟨w1.heap.size, 1, none⟩) (by simp)).trans (show _ = some (.int .i64 0) by simp [go_sem])
        have k2 := (hb2.cell (p := ⟨w1.heap.size, 2, none⟩) (by simp)).trans (show _ = some (.slice none 0 0) by simp [go_sem])
        have k3 := (hb2.cell (p := ⟨w1.heap.size, 3, none⟩) (by simp)).trans (show _ = some (.slice none 0 0) by simp [go_sem])
        have k4 := (hb2.cell (p := ⟨w1.heap.size, 4, none⟩) (by simp)).trans (show _ = some (.slice none 0 0) by simp [go_sem])
        have v2 : w1.heap.size < w2.heap.size := by omega
        have H2 := Lib.hid E2
        clear hb2 E2 j0 j1 cP cQ
        go_wp2_with fail
        refine (same_any _ _ Fr.zero Fr.zero _ (FA.zero _) (FA.zero _)).mono ?_
        rintro e w3 ⟨rfl, rfl⟩
        rw [same_self]
        go_wp2_with fail
        go_roundw
        case rel => exact ⟨3, by omega, by go_num, HB.out.trans (((H1.out.trans (H2.out.mono (by omega))).trans ((P3 _ _ _ _).mono (by omega))).mono (by omega))⟩
        case measure => simp [intOf]
    · have W1 : Below w.heap.size w wr := (below_box w _).trans (hb.mono (by omega))
      clear hb
      go_wp2_with fail
      refine (awake_any _).mono ?_
      rintro e w1 ⟨rfl, hb1⟩
      go_wp2_with fail
      go_ret
      exact ⟨rfl, W1.trans (hb1.mono (by omega))⟩

end Go.Proofs.Ytnnobdcbmagbaaa
