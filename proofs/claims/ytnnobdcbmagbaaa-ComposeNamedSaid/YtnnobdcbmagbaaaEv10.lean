/- Texts of this claim joined: PB U LE. -/
import Derived.Deep.Cut
import Derived.Deep.Light
import Derived.Test.YtnnobdcbmagbaaaEv01
import Derived.Test.YtnnobdcbmagbaaaEv04
import Derived.Test.YtnnobdcbmagbaaaEv09
set_option linter.unusedVariables false
set_option linter.unusedSimpArgs false

/- Plain laws: the mask of an integer; wipes that mirror each other, that show nothing, that show all. -/
namespace Go.Proofs.Ytnnobdcbmagbaaa
open Go.RowKit

theorem and_mask (x : Int) (m : Nat) (hm : m < 9223372036854775808) : 0 ≤ bits BinOp.and IntKind.i64 x (m : Int) ∧ bits BinOp.and IntKind.i64 x (m : Int) ≤ (m : Int) := by
  unfold bits
  simp only
  have h : (BitVec.ofInt IntKind.i64.bits x &&& BitVec.ofInt IntKind.i64.bits (m : Int)).toNat ≤ m := by
    rw [BitVec.toNat_and]
    refine Nat.le_trans Nat.and_le_right ?_
    rw [BitVec.toNat_ofInt]
    simp [IntKind.bits]
    omega
  generalize (BitVec.ofInt IntKind.i64.bits x &&& BitVec.ofInt IntKind.i64.bits (m : Int)).toNat = r at h
  have e := IntWalk.i64_in (r : Int) (by omega)
  rw [e]
  omega

theorem ok_lt {F : Fr} (h : F.ok = true) : 16 ≤ F.W ∧ (∀ i : Nat, i < F.nY → (i : Int) < F.W * F.H) ∧ (∀ i : Nat, i < F.nU → (i : Int) < F.W / 2 * (F.H / 2)) ∧ (∀ i : Nat, i < F.nV → (i : Int) < F.W / 2 * (F.H / 2)) := by
  obtain ⟨h0, h1, h2, h3⟩ := ok_dims h
  have hb := okSize_bd h0
  exact ⟨hb.1, fun i hi => by omega, fun i hi => by omega, fun i hi => by omega⟩

theorem wipe_zero {F G : Fr} {d : Int} (hF : F.ok = true) (hd : 0 ≤ d) : frSame (wipeFr 0 8 d F G) F = true := by
  obtain ⟨w, l1, l2, l3⟩ := ok_lt hF
  exact frSame_of rfl rfl rfl rfl rfl (fun i hi => wipe_first hd (by omega) (l1 i hi) (by omega)) (fun i hi => wipe_first hd (by omega) (l2 i hi) (by omega)) (fun i hi => wipe_first hd (by omega) (l3 i hi) (by omega))

theorem wipe_full {F G : Fr} {d : Int} (hp : pairOk F G = true) : frSame (wipeFr 8 8 d F G) G = true := by
  obtain ⟨hF, _, e1, e2, e3, e4, e5⟩ := pair_dims hp
  obtain ⟨w, l1, l2, l3⟩ := ok_lt hF
  exact frSame_of e1 e2 e3.symm e4.symm e5.symm (fun i hi => wipe_second (by omega) (l1 i hi) (by omega)) (fun i hi => wipe_second (by omega) (l2 i hi) (by omega)) (fun i hi => wipe_second (by omega) (l3 i hi) (by omega))

theorem wipe_mirror {F G : Fr} {n : Int} (hp : pairOk F G = true) (hs : F.W = 16 ∨ F.W = 32) : frSame (wipeFr n 8 0 F G) (wipeFr (8 - n) 8 1 G F) = true := by
  obtain ⟨hF, _, e1, e2, e3, e4, e5⟩ := pair_dims hp
  obtain ⟨w, l1, l2, l3⟩ := ok_lt hF
  refine frSame_of e1 e2 e3.symm e4.symm e5.symm (fun i hi => ?_) (fun i hi => ?_) (fun i hi => ?_)
  all_goals simp only [wipeFr]; rw [← e1, ← e2]
  · exact wipe_sides (by omega) (by omega) (l1 i hi)
  · exact wipe_sides (by omega) (by omega) (l2 i hi)
  · exact wipe_sides (by omega) (by omega) (l3 i hi)

theorem wipe_mirror2 {F G : Fr} {n : Int} (hp : pairOk F G = true) (hs : F.W = 16 ∨ F.W = 32) (hH : F.H = F.W) : frSame (wipeFr n 8 2 F G) (wipeFr (8 - n) 8 3 G F) = true := by
  obtain ⟨hF, _, e1, e2, e3, e4, e5⟩ := pair_dims hp
  obtain ⟨w, l1, l2, l3⟩ := ok_lt hF
  refine frSame_of e1 e2 e3.symm e4.symm e5.symm (fun i hi => ?_) (fun i hi => ?_) (fun i hi => ?_)
  all_goals simp only [wipeFr]; rw [← e1, ← e2]
  · exact wipe_sides2 (by omega) (by omega) (l1 i hi)
  · exact wipe_sides2 (by omega) (by omega) (l2 i hi)
  · exact wipe_sides2 (by omega) (by omega) (l3 i hi)

end Go.Proofs.Ytnnobdcbmagbaaa

/- The contract of cutroomlaw26.ComposeBlack: it answers true. -/
namespace Go.Proofs.Ytnnobdcbmagbaaa
open Go.RowKit

theorem same_self (F : Fr) : frSame F F = true := frSame_of rfl rfl rfl rfl rfl (fun _ _ => rfl) (fun _ _ => rfl) (fun _ _ => rfl)

set_option maxRecDepth 100000 in
set_option maxHeartbeats 4000000 in
theorem law_black (W H : Int) (w : World) : Calls Try.prog 3 #[.int .i64 W, .int .i64 H] w fun e w' => e = .returned (.bool true) ∧ Below w.heap.size w w' := by
  go_enter Try.func3, Try.ntmps3
  go_wp2_with fail
  go_loopw [26] (fun i wr => ∃ k : Nat, k ≤ 3 ∧ i = .int .i64 (k : Int) ∧ Below (w.heap.size + 1) (w.alloc (.cells #[.int .i64 W, .int .i64 H, .int .i64 (bits BinOp.and IntKind.i64 W 127), .int .i64 (bits BinOp.and IntKind.i64 H 127), .int .i64 (bits BinOp.and IntKind.i64 W 48), .int .i64 (bits BinOp.and IntKind.i64 H 48)] 22)) wr) (fun i _ => 3 - (intOf i).toNat)
  case atStart => exact ⟨0, by omega, rfl, Below.refl _ _⟩
  case round =>
    obtain ⟨k, hk, rfl, hb⟩ := hrel
    have nb := hb.size
    simp only [World.size_alloc] at nb
    have P3 : ∀ (wz : World) (o1 o2 o3 : Obj), Below wz.heap.size wz (((wz.alloc o1).alloc o2).alloc o3) := fun _ _ _ _ => by go_grown
    rcases (show k = 0 ∨ k = 1 ∨ k = 2 ∨ k = 3 by omega) with rfl | rfl | rfl | rfl
    · have cP : wr.cell? ⟨w.heap.size, 0, none⟩ = some (.int .i64 W) := (hb.cell (by simp)).trans (by simp [go_sem])
      have cQ : wr.cell? ⟨w.heap.size, 1, none⟩ = some (.int .i64 H) := (hb.cell (by simp)).trans (by simp [go_sem])
      obtain ⟨P, hP⟩ : ∃ P, P = W := ⟨_, rfl⟩
      obtain ⟨Q, hQ⟩ : ∃ Q, Q = H := ⟨_, rfl⟩
      rw [← hP] at cP
      rw [← hQ] at cQ
      clear hP hQ
      have HB := Lib.hid hb
      clear hb
      go_wp2_with fail
      by_cases hs : okSize P Q = true
      · have HS := Lib.hid hs
        clear hs
        refine (black_yes P Q _ HS.out).mono ?_
        rintro e w1 ⟨r, rfl, hf, hb1⟩
        have HF := Lib.hid hf
        obtain ⟨ay, cy, au, cu, av, cv, rfl⟩ := hf.shape
        clear hf
        have E1 := (below_box wr _).trans (hb1.mono (by simp))
        have n1 := hb1.size
        simp only [World.size_alloc] at n1
        have j0 := (hb1.cell (p := ⟨wr.heap.size, 0, none⟩) (by simp)).trans (show _ = some (.int .i64 P) by simp [go_sem])
        have j1 := (hb1.cell (p := ⟨wr.heap.size, 1, none⟩) (by simp)).trans (show _ = some (.int .i64 Q) by simp [go_sem])
        have v1 : wr.heap.size < w1.heap.size := by omega
        have H1 := Lib.hid E1
        clear hb1 E1
        go_wp2_with fail
        refine (rblack_yes P Q _ HS.out).mono ?_
        rintro e w2 ⟨r, rfl, hf, hb2⟩
        have HG := Lib.hid hf
        obtain ⟨ay2, cy2, au2, cu2, av2, cv2, rfl⟩ := hf.shape
        clear hf
        have n2 := hb2.size
        simp only [World.size_alloc] at n2
        have E2 := (below_box w1 _).trans (hb2.mono (by simp))
        have k0 := (hb2.cell (p := ⟨w1.heap.size, 0, none⟩) (by simp)).trans (show _ = some (.int .i64 (blackFr P Q).W) by simp [go_sem])
        have k1 := (hb2.cell (p := ⟨w1.heap.size, 1, none⟩) (by simp)).trans (show _ = some (.int .i64 (blackFr P Q).H) by simp [go_sem])
        have k2 := (hb2.cell (p := ⟨w1.heap.size, 2, none⟩) (by simp)).trans (show _ = some (.slice ay (blackFr P Q).nY cy) by simp [go_sem])
        have k3 := (hb2.cell (p := ⟨w1.heap.size, 3, none⟩) (by simp)).trans (show _ = some (.slice au (blackFr P Q).nU cu) by simp [go_sem])
        have k4 := (hb2.cell (p := ⟨w1.heap.size, 4, none⟩) (by simp)).trans (show _ = some (.slice av (blackFr P Q).nV cv) by simp [go_sem])
        have v2 : w1.heap.size < w2.heap.size := by omega
        have H2 := Lib.hid E2
        have HF2 := Lib.hid (HF.out.below E2)
        clear hb2 E2 j0 j1 cP cQ
        go_wp2_with fail
        refine (same_any _ _ (blackFr P Q) (blackFr P Q) _ (HF2.out.below (below_box _ _)) (HG.out.below (below_box _ _))).mono ?_
        rintro e w3 ⟨rfl, rfl⟩
        rw [same_self]
        go_wp2_with fail
        go_roundw
        case rel => exact ⟨1, by omega, by go_num, HB.out.trans (((H1.out.trans (H2.out.mono (by omega))).trans ((P3 _ _ _ _).mono (by omega))).mono (by omega))⟩
        case measure => simp [intOf]
      · have HS := Lib.hid (Bool.eq_false_iff.mpr hs)
        clear hs
        refine (black_no P Q _ HS.out).mono ?_
        unfold zeroV
        rintro e w1 ⟨rfl, hb1⟩
        have E1 := (below_box wr _).trans (hb1.mono (by simp))
        have n1 := hb1.size
        simp only [World.size_alloc] at n1
        have j0 := (hb1.cell (p := ⟨wr.heap.size, 0, none⟩) (by simp)).trans (show _ = some (.int .i64 P) by simp [go_sem])
        have j1 := (hb1.cell (p := ⟨wr.heap.size, 1, none⟩) (by simp)).trans (show _ = some (.int .i64 Q) by simp [go_sem])
        have v1 : wr.heap.size < w1.heap.size := by omega
        have H1 := Lib.hid E1
        clear hb1 E1
        go_wp2_with fail
        refine (rblack_no P Q _ HS.out).mono ?_
        unfold zeroV
        rintro e w2 ⟨rfl, hb2⟩
        have n2 := hb2.size
        simp only [World.size_alloc] at n2
        have E2 := (below_box w1 _).trans (hb2.mono (by simp))
        have k0 := (hb2.cell (p := ⟨w1.heap.size, 0, none⟩) (by simp)).trans (show _ = some (.int .i64 0) by simp [go_sem])
        have k1 := (hb2.cell (p := ⟨w1.heap.size, 1, none⟩) (by simp)).trans (show _ = some (.int .i64 0) by simp [go_sem])
        have k2 := (hb2.cell (p := ⟨w1.heap.size, 2, none⟩) (by simp)).trans (show _ = some (.slice none 0 0) by simp [go_sem])
        have k3 := (hb2.cell (p := ⟨w1.heap.size, 3, none⟩) (by simp)).trans (show _ = some (.slice none 0 0) by simp [go_sem])
        have k4 := (hb2.cell (p := ⟨w1.heap.size, 4, none⟩) (by simp)).trans (show _ = some (.slice none 0 0) by simp [go_sem])
        have v2 : w1.heap.size < w2.heap.size := by omega
        have H2 := Lib.hid E2
        clear hb2 E2 j0 j1 cP cQ
        go_wp2_with fail
        refine (same_any _ _ Fr.zero Fr.zero _ (FA.zero _) (FA.zero _)).mono ?_
        rintro e w3 ⟨rfl, rfl⟩
        rw [same_self]
        go_wp2_with fail
        go_roundw
        case rel => exact ⟨1, by omega, by go_num, HB.out.trans (((H1.out.trans (H2.out.mono (by omega))).trans ((P3 _ _ _ _).mono (by omega))).mono (by omega))⟩
        case measure => simp [intOf]
    · have cP : wr.cell? ⟨w.heap.size, 2, none⟩ = some (.int .i64 (bits BinOp.and IntKind.i64 W 127)) := (hb.cell (by simp)).trans (by simp [go_sem])
      have cQ : wr.cell? ⟨w.heap.size, 3, none⟩ = some (.int .i64 (bits BinOp.and IntKind.i64 H 127)) := (hb.cell (by simp)).trans (by simp [go_sem])
      obtain ⟨P, hP⟩ : ∃ P, P = (bits BinOp.and IntKind.i64 W 127) := ⟨_, rfl⟩
      obtain ⟨Q, hQ⟩ : ∃ Q, Q = (bits BinOp.and IntKind.i64 H 127) := ⟨_, rfl⟩
      rw [← hP] at cP
      rw [← hQ] at cQ
      clear hP hQ
      have HB := Lib.hid hb
      clear hb
      go_wp2_with fail
      by_cases hs : okSize P Q = true
      · have HS := Lib.hid hs
        clear hs
        refine (black_yes P Q _ HS.out).mono ?_
        rintro e w1 ⟨r, rfl, hf, hb1⟩
        have HF := Lib.hid hf
        obtain ⟨ay, cy, au, cu, av, cv, rfl⟩ := hf.shape
        clear hf
        have E1 := (below_box wr _).trans (hb1.mono (by simp))
        have n1 := hb1.size
        simp only [World.size_alloc] at n1
        have j0 := (hb1.cell (p := ⟨wr.heap.size, 0, none⟩) (by simp)).trans (show _ = some (.int .i64 P) by simp [go_sem])
        have j1 := (hb1.cell (p := ⟨wr.heap.size, 1, none⟩) (by simp)).trans (show _ = some (.int .i64 Q) by simp [go_sem])
        have v1 : wr.heap.size < w1.heap.size := by omega
        have H1 := Lib.hid E1
        clear hb1 E1
        go_wp2_with fail
        refine (rblack_yes P Q _ HS.out).mono ?_
        rintro e w2 ⟨r, rfl, hf, hb2⟩
        have HG := Lib.hid hf
        obtain ⟨ay2, cy2, au2, cu2, av2, cv2, rfl⟩ := hf.shape
        clear hf
        have n2 := hb2.size
        simp only [World.size_alloc] at n2
        have E2 := (below_box w1 _).trans (hb2.mono (by simp))
        have k0 := (hb2.cell (p := ⟨w1.heap.size, 0, none⟩) (by simp)).trans (show _ = some (.int .i64 (blackFr P Q).W) by simp [go_sem])
        have k1 := (hb2.cell (p := ⟨w1.heap.size, 1, none⟩) (by simp)).trans (show _ = some (.int .i64 (blackFr P Q).H) by simp [go_sem])
        have k2 := (hb2.cell (p := ⟨w1.heap.size, 2, none⟩) (by simp)).trans (show _ = some (.slice ay (blackFr P Q).nY cy) by simp [go_sem])
        have k3 := (hb2.cell (p := ⟨w1.heap.size, 3, none⟩) (by simp)).trans (show _ = some (.slice au (blackFr P Q).nU cu) by simp [go_sem])
        have k4 := (hb2.cell (p := ⟨w1.heap.size, 4, none⟩) (by simp)).trans (show _ = some (.slice av (blackFr P Q).nV cv) by simp [go_sem])
        have v2 : w1.heap.size < w2.heap.size := by omega
        have H2 := Lib.hid E2
        have HF2 := Lib.hid (HF.out.below E2)
        clear hb2 E2 j0 j1 cP cQ
        go_wp2_with fail
        refine (same_any _ _ (blackFr P Q) (blackFr P Q) _ (HF2.out.below (below_box _ _)) (HG.out.below (below_box _ _))).mono ?_
        rintro e w3 ⟨rfl, rfl⟩
        rw [same_self]
        go_wp2_with fail
        go_roundw
        case rel => exact ⟨2, by omega, by go_num, HB.out.trans (((H1.out.trans (H2.out.mono (by omega))).trans ((P3 _ _ _ _).mono (by omega))).mono (by omega))⟩
        case measure => simp [intOf]
      · have HS := Lib.hid (Bool.eq_false_iff.mpr hs)
        clear hs
        refine (black_no P Q _ HS.out).mono ?_
        unfold zeroV
        rintro e w1 ⟨rfl, hb1⟩
        have E1 := (below_box wr _).trans (hb1.mono (by simp))
        have n1 := hb1.size
        simp only [World.size_alloc] at n1
        have j0 := (hb1.cell (p := ⟨wr.heap.size, 0, none⟩) (by simp)).trans (show _ = some (.int .i64 P) by simp [go_sem])
        have j1 := (hb1.cell (p := ⟨wr.heap.size, 1, none⟩) (by simp)).trans (show _ = some (.int .i64 Q) by simp [go_sem])
        have v1 : wr.heap.size < w1.heap.size := by omega
        have H1 := Lib.hid E1
        clear hb1 E1
        go_wp2_with fail
        refine (rblack_no P Q _ HS.out).mono ?_
        unfold zeroV
        rintro e w2 ⟨rfl, hb2⟩
        have n2 := hb2.size
        simp only [World.size_alloc] at n2
        have E2 := (below_box w1 _).trans (hb2.mono (by simp))
        have k0 := (hb2.cell (p := ⟨w1.heap.size, 0, none⟩) (by simp)).trans (show _ = some (.int .i64 0) by simp [go_sem])
        have k1 := (hb2.cell (p := ⟨w1.heap.size, 1, none⟩) (by simp)).trans (show _ = some (.int .i64 0) by simp [go_sem])
        have k2 := (hb2.cell (p := ⟨w1.heap.size, 2, none⟩) (by simp)).trans (show _ = some (.slice none 0 0) by simp [go_sem])
        have k3 := (hb2.cell (p := ⟨w1.heap.size, 3, none⟩) (by simp)).trans (show _ = some (.slice none 0 0) by simp [go_sem])
        have k4 := (hb2.cell (p := ⟨w1.heap.size, 4, none⟩) (by simp)).trans (show _ = some (.slice none 0 0) by simp [go_sem])
        have v2 : w1.heap.size < w2.heap.size := by omega
        have H2 := Lib.hid E2
        clear hb2 E2 j0 j1 cP cQ
        go_wp2_with fail
        refine (same_any _ _ Fr.zero Fr.zero _ (FA.zero _) (FA.zero _)).mono ?_
        rintro e w3 ⟨rfl, rfl⟩
        rw [same_self]
        go_wp2_with fail
        go_roundw
        case rel => exact ⟨2, by omega, by go_num, HB.out.trans (((H1.out.trans (H2.out.mono (by omega))).trans ((P3 _ _ _ _).mono (by omega))).mono (by omega))⟩
        case measure => simp [intOf]
    · have cP : wr.cell? ⟨w.heap.size, 4, none⟩ = some (.int .i64 (bits BinOp.and IntKind.i64 W 48)) := (hb.cell (by simp)).trans (by simp [go_sem])
      have cQ : wr.cell? ⟨w.heap.size, 5, none⟩ = some (.int .i64 (bits BinOp.and IntKind.i64 H 48)) := (hb.cell (by simp)).trans (by simp [go_sem])
      obtain ⟨P, hP⟩ : ∃ P, P = (bits BinOp.and IntKind.i64 W 48) := ⟨_, rfl⟩
      obtain ⟨Q, hQ⟩ : ∃ Q, Q = (bits BinOp.and IntKind.i64 H 48) := ⟨_, rfl⟩
      rw [← hP] at cP
      rw [← hQ] at cQ
      clear hP hQ
      have HB := Lib.hid hb
      clear hb
      go_wp2_with fail
      by_cases hs : okSize P Q = true
      · have HS := Lib.hid hs
        clear hs
        refine (black_yes P Q _ HS.out).mono ?_
        rintro e w1 ⟨r, rfl, hf, hb1⟩
        have HF := Lib.hid hf
        obtain ⟨ay, cy, au, cu, av, cv, rfl⟩ := hf.shape
        clear hf
        have E1 := (below_box wr _).trans (hb1.mono (by simp))
        have n1 := hb1.size
        simp only [World.size_alloc] at n1
        have j0 := (hb1.cell (p := ⟨wr.heap.size, 0, none⟩) (by simp)).trans (show _ = some (.int .i64 P) by simp [go_sem])
        have j1 := (hb1.cell (p := ⟨wr.heap.size, 1, none⟩) (by simp)).trans (show _ = some (.int .i64 Q) by simp [go_sem])
        have v1 : wr.heap.size < w1.heap.size := by omega
        have H1 := Lib.hid E1
        clear hb1 E1
        go_wp2_with fail
        refine (rblack_yes P Q _ HS.out).mono ?_
        rintro e w2 ⟨r, rfl, hf, hb2⟩
        have HG := Lib.hid hf
        obtain ⟨ay2, cy2, au2, cu2, av2, cv2, rfl⟩ := hf.shape
        clear hf
        have n2 := hb2.size
        simp only [World.size_alloc] at n2
        have E2 := (below_box w1 _).trans (hb2.mono (by simp))
        have k0 := (hb2.cell (p := ⟨w1.heap.size, 0, none⟩) (by simp)).trans (show _ = some (.int .i64 (blackFr P Q).W) by simp [go_sem])
        have k1 := (hb2.cell (p := ⟨w1.heap.size, 1, none⟩) (by simp)).trans (show _ = some (.int .i64 (blackFr P Q).H) by simp [go_sem])
        have k2 := (hb2.cell (p := ⟨w1.heap.size, 2, none⟩) (by simp)).trans (show _ = some (.slice ay (blackFr P Q).nY cy) by simp [go_sem])
        have k3 := (hb2.cell (p := ⟨w1.heap.size, 3, none⟩) (by simp)).trans (show _ = some (.slice au (blackFr P Q).nU cu) by simp [go_sem])
        have k4 := (hb2.cell (p := ⟨w1.heap.size, 4, none⟩) (by simp)).trans (show _ = some (.slice av (blackFr P Q).nV cv) by simp [go_sem])
        have v2 : w1.heap.size < w2.heap.size := by omega
        have H2 := Lib.hid E2
        have HF2 := Lib.hid (HF.out.below E2)
        clear hb2 E2 j0 j1 cP cQ
        go_wp2_with fail
        refine (same_any _ _ (blackFr P Q) (blackFr P Q) _ (HF2.out.below (below_box _ _)) (HG.out.below (below_box _ _))).mono ?_
        rintro e w3 ⟨rfl, rfl⟩
        rw [same_self]
        go_wp2_with fail
        go_roundw
        case rel => exact ⟨3, by omega, by go_num, HB.out.trans (((H1.out.trans (H2.out.mono (by omega))).trans ((P3 _ _ _ _).mono (by omega))).mono (by omega))⟩
        case measure => simp [intOf]
      · have HS := Lib.hid (Bool.eq_false_iff.mpr hs)
        clear hs
        refine (black_no P Q _ HS.out).mono ?_
        unfold zeroV
        rintro e w1 ⟨rfl, hb1⟩
        have E1 := (below_box wr _).trans (hb1.mono (by simp))
        have n1 := hb1.size
        simp only [World.size_alloc] at n1
        have j0 := (hb1.cell (p := ⟨wr.heap.size, 0, none⟩) (by simp)).trans (show _ = some (.int .i64 P) by simp [go_sem])
        have j1 := (hb1.cell (p := ⟨wr.heap.size, 1, none⟩) (by simp)).trans (show _ = some (.int .i64 Q) by simp [go_sem])
        have v1 : wr.heap.size < w1.heap.size := by omega
        have H1 := Lib.hid E1
        clear hb1 E1
        go_wp2_with fail
        refine (rblack_no P Q _ HS.out).mono ?_
        unfold zeroV
        rintro e w2 ⟨rfl, hb2⟩
        have n2 := hb2.size
        simp only [World.size_alloc] at n2
        have E2 := (below_box w1 _).trans (hb2.mono (by simp))
        have k0 := (hb2.cell (p := ⟨w1.heap.size, 0, none⟩) (by simp)).trans (show _ = some (.int .i64 0) by simp [go_sem])
        have k1 := (hb2.cell (p := ⟨w1.heap.size, 1, none⟩) (by simp)).trans (show _ = some (.int .i64 0) by simp [go_sem])
        have k2 := (hb2.cell (p := ⟨w1.heap.size, 2, none⟩) (by simp)).trans (show _ = some (.slice none 0 0) by simp [go_sem])
        have k3 := (hb2.cell (p := ⟨w1.heap.size, 3, none⟩) (by simp)).trans (show _ = some (.slice none 0 0) by simp [go_sem])
        have k4 := (hb2.cell (p := ⟨w1.heap.size, 4, none⟩) (by simp)).trans (show _ = some (.slice none 0 0) by simp [go_sem])
        have v2 : w1.heap.size < w2.heap.size := by omega
        have H2 := Lib.hid E2
        clear hb2 E2 j0 j1 cP cQ
        go_wp2_with fail
        refine (same_any _ _ Fr.zero Fr.zero _ (FA.zero _) (FA.zero _)).mono ?_
        rintro e w3 ⟨rfl, rfl⟩
        rw [same_self]
        go_wp2_with fail
        go_roundw
        case rel => exact ⟨3, by omega, by go_num, HB.out.trans (((H1.out.trans (H2.out.mono (by omega))).trans ((P3 _ _ _ _).mono (by omega))).mono (by omega))⟩
        case measure => simp [intOf]
    · have W1 : Below w.heap.size w wr := (below_box w _).trans (hb.mono (by omega))
      clear hb
      go_wp2_with fail
      refine (awake_any _).mono ?_
      rintro e w1 ⟨rfl, hb1⟩
      go_wp2_with fail
      go_ret
      exact ⟨rfl, W1.trans (hb1.mono (by omega))⟩

end Go.Proofs.Ytnnobdcbmagbaaa

/- Aid for the laws that hold the program against the reference: both answer the same frame and error. -/
namespace Go.Proofs.Ytnnobdcbmagbaaa
open Go.RowKit
set_option linter.unusedVariables false

theorem RI.below {w w' : World} {v : Value} (h : RI w v) (hb : Below w.heap.size w w') : RI w' v := by
  obtain ⟨ao, n, c, rfl, h1, h2, hx⟩ := h
  refine ⟨ao, n, c, rfl, h1, h2, fun i hi => ?_⟩
  obtain ⟨b, o, x, e, hc⟩ := hx i hi
  exact ⟨b, o, x, e, (hb.cell (p := ⟨b, o + i, none⟩) (block_lt_of_cell hc)).trans hc⟩

/-- Block b holds two cells. -/
structure T2 (w : World) (b : Nat) (c0 c1 : Value) : Prop where
  k0 : w.cell? ⟨b, 0, none⟩ = some c0
  k1 : w.cell? ⟨b, 1, none⟩ = some c1
theorem T2.lt {w : World} {b : Nat} {c0 c1 : Value} (h : T2 w b c0 c1) : b < w.heap.size := block_lt_of_cell h.k0
theorem T2.below {w w' : World} {b : Nat} {c0 c1 : Value} (h : T2 w b c0 c1) (hb : Below w.heap.size w w') : T2 w' b c0 c1 := ⟨(hb.cell h.lt).trans h.k0, (hb.cell h.lt).trans h.k1⟩
theorem T2.of_alloc (w : World) (b : Nat) (c0 c1 : Value) (t : TypeId) (h : b = w.heap.size) : T2 (w.alloc (.cells #[c0, c1] t)) b c0 c1 := by
  subst h; exact ⟨by simp [go_sem], by simp [go_sem]⟩

def mixR (F G : Fr) (num den : Int) : Fr := if pairOk F G && okShare num den then mixFr num den F G else Fr.zero
def mixE (F G : Fr) (num den : Int) : Int := if pairOk F G && okShare num den then 0 else 1

theorem mix_any (v u : Value) (F G : Fr) (num den : Int) (w : World) (hv : FA w v F) (hu : FA w u G) :
    Calls Try.prog 22 #[v, u, .int .i64 num, .int .i64 den] w fun e w' => ∃ r, e = .returned (.tuple #[r, .int .i64 (mixE F G num den)]) ∧ FA w' r (mixR F G num den) ∧ Below w.heap.size w w' := by
  cases h : pairOk F G && okShare num den
  · refine (mix_no v u F G num den w hv hu h).mono ?_
    rintro e w' ⟨rfl, hb⟩
    exact ⟨zeroV, by simp [mixE, h], by simp only [mixR, h]; exact FA.zero _, hb⟩
  · have h' := h
    simp only [Bool.and_eq_true] at h'
    refine (mix_yes v u F G num den w hv hu h'.1 h'.2).mono ?_
    rintro e w' ⟨r, rfl, hf, hb⟩
    exact ⟨r, by simp [mixE, h], by simp only [mixR, h]; exact hf, hb⟩

theorem rmix_any (v u : Value) (F G : Fr) (num den : Int) (w : World) (hv : FA w v F) (hu : FA w u G) :
    Calls Try.prog 23 #[v, u, .int .i64 num, .int .i64 den] w fun e w' => ∃ r, e = .returned (.tuple #[r, .int .i64 (mixE F G num den)]) ∧ FA w' r (mixR F G num den) ∧ Below w.heap.size w w' := by
  cases h : pairOk F G && okShare num den
  · refine (rmix_no v u F G num den w hv hu h).mono ?_
    rintro e w' ⟨rfl, hb⟩
    exact ⟨zeroV, by simp [mixE, h], by simp only [mixR, h]; exact FA.zero _, hb⟩
  · have h' := h
    simp only [Bool.and_eq_true] at h'
    refine (rmix_yes v u F G num den w hv hu h'.1 h'.2).mono ?_
    rintro e w' ⟨r, rfl, hf, hb⟩
    exact ⟨r, by simp [mixE, h], by simp only [mixR, h]; exact hf, hb⟩

end Go.Proofs.Ytnnobdcbmagbaaa
