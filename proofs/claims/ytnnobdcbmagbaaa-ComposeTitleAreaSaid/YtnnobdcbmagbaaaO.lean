/- The contract of cutroomref26.Black. -/
import Derived.Test.YtnnobdcbmagbaaaM
import Derived.Test.YtnnobdcbmagbaaaN
namespace Go.Proofs.Ytnnobdcbmagbaaa
open Go.RowKit

/-- Only block g may have been written. -/
theorem only_store {w w' : World} {g : Nat} (h : w.grownBy w' (some g)) (o : Nat) (u : Value) : w.grownBy (w'.setCell ⟨g, o, none⟩ u) (some g) :=
  ⟨h.os, h.tape, h.output, by rw [World.size_setCell]; exact h.size, fun k hk hne => by
    rw [Below.heap_setCell _ _ _ _ (fun e => hne (by rw [e]))]; exact h.block k hk hne⟩
theorem only_refl (w : World) (g : Nat) : w.grownBy w (some g) := World.grownBy.refl w _
theorem only_cell {w w' : World} {g b o : Nat} {v : Value} (h : w.grownBy w' (some g)) (hc : w.cell? ⟨b, o, none⟩ = some v) (hne : b ≠ g) : w'.cell? ⟨b, o, none⟩ = some v :=
  h.cell hc (by simpa using hne)
theorem only_frozen {w w' : World} {g b o : Nat} (h : w.grownBy w' (some g)) (hb : b < w.heap.size) (hf : w.frozen? ⟨b, o, none⟩ = false) (hne : b ≠ g) : w'.frozen? ⟨b, o, none⟩ = false :=
  (World.frozen?_of_block (h.block b hb (by simpa using hne))).trans hf
theorem only_row {w w' : World} {B g g' n c : Nat} {F : Nat → Int} (h : w.grownBy w' (some g')) (r : Row w B g n c F) (hne : g ≠ g') : Row w' B g n c F :=
  World.ownsRow.kept r h (.inr (by simpa [Value.ownBlock] using hne))
theorem only_below {w w' : World} {g B : Nat} (h : w.grownBy w' (some g)) (hB : B ≤ g) (hs : B ≤ w.heap.size) : Below B w w' := (Below.refl _ _).grown h hs (fun k hk => by cases hk; exact hB)

set_option maxRecDepth 100000 in
set_option maxHeartbeats 4000000 in
theorem rblack_yes (W H : Int) (w : World) (hs : okSize W H = true) :
    Calls Try.prog 18 #[.int .i64 W, .int .i64 H] w fun e w' => ∃ r, e = .returned (.tuple #[r, .int .i64 0]) ∧ FA w' r (blackFr W H) ∧ Below w.heap.size w w' := by
  obtain ⟨b1, b2, b3, b4, b5, b6, b7, b8⟩ := okSize_bd hs
  have HS := Lib.hid hs
  have HQ := Lib.hid (quarter hs)
  have q1 : W * H / 4 ≤ 1024 := by omega
  have q0 : 0 ≤ W * H / 4 := by omega
  clear hs
  go_enter Try.func18, Try.ntmps18
  go_wp2_with fail
  refine (size_any _ _ _).mono ?_
  rintro e w0 ⟨rfl, rfl⟩
  rw [HS.out]
  go_wp2_with fail
  refine (blank_any _ _ _ HS.out).mono ?_
  rintro e w1 ⟨g1, g2, g3, rfl, r1, r2, r3, n12, n13, n23, hb1⟩
  obtain ⟨nY, hnY⟩ : ∃ n, n = (W * H).toNat := ⟨_, rfl⟩
  obtain ⟨nU, hnU⟩ : ∃ n, n = (W * H / 4).toNat := ⟨_, rfl⟩
  rw [← hnY] at r1 ⊢
  rw [← hnU] at r2 r3 ⊢
  have HY := Lib.hid hnY
  have HU := Lib.hid hnU
  have iY : nY ≤ 4096 := by omega
  have iU : nU ≤ 1024 := by omega
  clear hnY hnU
  have N1 : w.heap.size + 1 ≤ w1.heap.size := by have := hb1.size; simpa using this
  have l1 := r1.le
  have l2 := r2.le
  have l3 := r3.le
  simp only [World.size_alloc] at l1 l2 l3
  have hb1' : Below (w.heap.size + 1) (w.alloc (.cells #[.int .i64 0, .int .i64 0, .slice none 0 0, .slice none 0 0, .slice none 0 0] 26)) w1 := hb1.mono (by simp)
  have k0 : w1.cell? ⟨w.heap.size, 0, none⟩ = some (.int .i64 0) := (hb1'.cell (by simp)).trans (by simp [go_sem])
  have k1 : w1.cell? ⟨w.heap.size, 1, none⟩ = some (.int .i64 0) := (hb1'.cell (by simp)).trans (by simp [go_sem])
  have k2 : w1.cell? ⟨w.heap.size, 2, none⟩ = some (.slice none 0 0) := (hb1'.cell (by simp)).trans (by simp [go_sem])
  have k3 : w1.cell? ⟨w.heap.size, 3, none⟩ = some (.slice none 0 0) := (hb1'.cell (by simp)).trans (by simp [go_sem])
  have k4 : w1.cell? ⟨w.heap.size, 4, none⟩ = some (.slice none 0 0) := (hb1'.cell (by simp)).trans (by simp [go_sem])
  have kz : ∀ o, w1.frozen? ⟨w.heap.size, o, none⟩ = false := fun o => (hb1'.frozen (by simp)).trans (by simp [go_sem])
  have W1 : Below w.heap.size w w1 := (below_box w _).trans (hb1'.mono (by omega))
  have HR := Lib.hid (And.intro r1 (And.intro r2 r3))
  clear r1 r2 r3 hb1 hb1'
  go_wp2_with fail
  refine (planes_any W H _ _ _ _ (by omega) (by omega) (by omega) (by omega) ⟨_, _, _, rfl⟩ ⟨_, _, _, rfl⟩ ⟨_, _, _, rfl⟩).mono ?_
  rintro e w2 ⟨rfl, hb2⟩
  have N2 : w1.heap.size + 1 ≤ w2.heap.size := by have := hb2.size; simpa using this
  obtain ⟨r1, r2, r3⟩ := HR.out
  have B12 : Below w1.heap.size w1 w2 := (below_box w1 _).trans (hb2.mono (by simp))
  have m0 : w2.cell? ⟨w1.heap.size, 0, none⟩ = some (.int .i64 W) := (hb2.cell (by simp)).trans (by simp [go_sem])
  have m1 : w2.cell? ⟨w1.heap.size, 1, none⟩ = some (.int .i64 H) := (hb2.cell (by simp)).trans (by simp [go_sem])
  have m2 : w2.cell? ⟨w1.heap.size, 2, none⟩ = some (.slice (some ⟨g1, 0, none⟩) nY nY) := (hb2.cell (by simp)).trans (by simp [go_sem])
  have m3 : w2.cell? ⟨w1.heap.size, 3, none⟩ = some (.slice (some ⟨g2, 0, none⟩) nU nU) := (hb2.cell (by simp)).trans (by simp [go_sem])
  have m4 : w2.cell? ⟨w1.heap.size, 4, none⟩ = some (.slice (some ⟨g3, 0, none⟩) nU nU) := (hb2.cell (by simp)).trans (by simp [go_sem])
  have k0' := (B12.cell (p := ⟨w.heap.size, 0, none⟩) (by simp; omega)).trans k0
  have k1' := (B12.cell (p := ⟨w.heap.size, 1, none⟩) (by simp; omega)).trans k1
  have k2' := (B12.cell (p := ⟨w.heap.size, 2, none⟩) (by simp; omega)).trans k2
  have k3' := (B12.cell (p := ⟨w.heap.size, 3, none⟩) (by simp; omega)).trans k3
  have k4' := (B12.cell (p := ⟨w.heap.size, 4, none⟩) (by simp; omega)).trans k4
  have kz' := fun o => (B12.frozen (p := ⟨w.heap.size, o, none⟩) (by simp; omega)).trans (kz o)
  have W2 := W1.trans (B12.mono (by omega))
  have HR2 := Lib.hid (And.intro (r1.below B12) (And.intro (r2.below B12) (r3.below B12)))
  clear r1 r2 r3 HR hb2 B12 k0 k1 k2 k3 k4 kz W1
  go_wp2_with fail
  refine wp_loop_rounds 4 ?_
  rw [rounds_succ]
  go_wp2_with fail
  obtain ⟨w3, hw3⟩ : ∃ x, x = (((w2.alloc (.cells #[.slice (some ⟨g1, 0, none⟩) nY nY, .slice (some ⟨g2, 0, none⟩) nU nU, .slice (some ⟨g3, 0, none⟩) nU nU] 74)).alloc (.cells #[.int .i64 W, .int .i64 (W / 2), .int .i64 (W / 2)] 75)).alloc (.cells #[.int .i64 H, .int .i64 (H / 2), .int .i64 (H / 2)] 75)) := ⟨_, rfl⟩
  rw [← hw3]
  have B23 : Below w2.heap.size w2 w3 := by rw [hw3]; go_grown
  have N3 : w2.heap.size + 3 ≤ w3.heap.size := by rw [hw3]; simp
  have p0 : w3.cell? ⟨w2.heap.size, 0, none⟩ = some (.slice (some ⟨g1, 0, none⟩) nY nY) := by rw [hw3]; simp [go_sem]
  have p1 : w3.cell? ⟨w2.heap.size, 1, none⟩ = some (.slice (some ⟨g2, 0, none⟩) nU nU) := by rw [hw3]; simp [go_sem]
  have p2 : w3.cell? ⟨w2.heap.size, 2, none⟩ = some (.slice (some ⟨g3, 0, none⟩) nU nU) := by rw [hw3]; simp [go_sem]
  have k0 := (B23.cell (p := ⟨w.heap.size, 0, none⟩) (by simp; omega)).trans k0'
  have k1 := (B23.cell (p := ⟨w.heap.size, 1, none⟩) (by simp; omega)).trans k1'
  have k2 := (B23.cell (p := ⟨w.heap.size, 2, none⟩) (by simp; omega)).trans k2'
  have k3 := (B23.cell (p := ⟨w.heap.size, 3, none⟩) (by simp; omega)).trans k3'
  have k4 := (B23.cell (p := ⟨w.heap.size, 4, none⟩) (by simp; omega)).trans k4'
  have m0 := (B23.cell (p := ⟨w1.heap.size, 0, none⟩) (by simp; omega)).trans m0
  have m1 := (B23.cell (p := ⟨w1.heap.size, 1, none⟩) (by simp; omega)).trans m1
  have m2 := (B23.cell (p := ⟨w1.heap.size, 2, none⟩) (by simp; omega)).trans m2
  have m3 := (B23.cell (p := ⟨w1.heap.size, 3, none⟩) (by simp; omega)).trans m3
  have m4 := (B23.cell (p := ⟨w1.heap.size, 4, none⟩) (by simp; omega)).trans m4
  have kz := fun o => (B23.frozen (p := ⟨w.heap.size, o, none⟩) (by simp; omega)).trans (kz' o)
  have W3 := W2.trans (B23.mono (by omega))
  obtain ⟨r1, r2, r3⟩ := HR2.out
  have r1 := r1.below B23
  have r2 := r2.below B23
  have r3 := r3.below B23
  have G1 : g1 < w.heap.size + 1 + w1.heap.size := by omega
  clear HR2 B23 hw3 k0' k1' k2' k3' k4' kz' W2
  have HA := Lib.hid (And.intro r1 (And.intro r2 r3))
  clear r1 r2 r3
  go_loopw [11] (fun i wr => ∃ k : Nat, k ≤ nY ∧ i = .int .i64 k ∧ w3.grownBy wr (some g1) ∧ Row wr (w.heap.size + 1) g1 nY nY (fun j => if j < k then 16 else 0)) (fun i _ => nY - (intOf i).toNat)
  case atStart => exact ⟨0, Nat.zero_le _, rfl, only_refl _ _, by simpa using HA.out.1⟩
  case round =>
    obtain ⟨k, hk, rfl, hgr, ho⟩ := hrel
    have p0' := only_cell hgr p0 (by omega)
    have p1' := only_cell hgr p1 (by omega)
    have p2' := only_cell hgr p2 (by omega)
    by_cases hlt : k < nY
    · have hc := ho.cell k hlt
      rw [if_neg (by omega)] at hc
      have hf := World.ownsRow.frozenAt ho k
      have HO := Lib.hid ho
      have HG := Lib.hid hgr
      clear ho hgr p0 p1 p2 k0 k1 k2 k3 k4 m0 m1 m2 m3 m4 kz
      go_wp2
      go_roundw
      case rel => exact ⟨k + 1, by omega, by go_num, only_store (only_store HG.out _ _) _ _, by
        have h1 := HO.out.store k (F' := fun j => if j = k then 128 else if j < k then 16 else 0) (u := 128) (by simp) (fun i _ hik => by simp [hik])
        exact h1.store k (F' := fun j => if j < k + 1 then 16 else 0) (by simp) (fun i _ hik => by simp only [hik, if_false]; exact ite_iff (by omega))⟩
      case measure => simp [intOf]; omega
    · obtain rfl : nY = k := by omega
      have Nz := hgr.size
      obtain ⟨r1, r2, r3⟩ := HA.out
      have r1 := ho.congr (F' := fun _ => 16) (fun i hi => if_pos hi)
      have r2 := only_row hgr r2 (by omega)
      have r3 := only_row hgr r3 (by omega)
      have k0 := only_cell hgr k0 (by omega)
      have k1 := only_cell hgr k1 (by omega)
      have k2 := only_cell hgr k2 (by omega)
      have k3 := only_cell hgr k3 (by omega)
      have k4 := only_cell hgr k4 (by omega)
      have m0 := only_cell hgr m0 (by omega)
      have m1 := only_cell hgr m1 (by omega)
      have m2 := only_cell hgr m2 (by omega)
      have m3 := only_cell hgr m3 (by omega)
      have m4 := only_cell hgr m4 (by omega)
      have kz := fun o => only_frozen hgr (b := w.heap.size) (by have := W3.size; omega) (kz o) (by omega)
      have W3 := W3.trans (only_below hgr (by omega) (by have := W3.size; omega))
      have p0 := p0'
      have p1 := p1'
      have p2 := p2'
      clear p0' p1' p2' ho hgr HA
      go_wp2_with fail
      rw [rounds_succ]
      go_wp2_with fail
      obtain ⟨w4, hw⟩ : ∃ x, x = wr := ⟨_, rfl⟩
      rw [← hw] at Nz r1 r2 r3 k0 k1 k2 k3 k4 m0 m1 m2 m3 m4 kz W3 p0 p1 p2 ⊢
      clear hw
      have HA := Lib.hid (And.intro r1 (And.intro r2 r3))
      clear r1 r2 r3
      go_loopw [11] (fun i wr => ∃ k : Nat, k ≤ nU ∧ i = .int .i64 k ∧ w4.grownBy wr (some g2) ∧ Row wr (w.heap.size + 1) g2 nU nU (fun j => if j < k then 128 else 0)) (fun i _ => nU - (intOf i).toNat)
      case atStart => exact ⟨0, Nat.zero_le _, rfl, only_refl _ _, by simpa using HA.out.2.1⟩
      case round =>
        obtain ⟨k, hk, rfl, hgr, ho⟩ := hrel
        have p0' := only_cell hgr p0 (by omega)
        have p1' := only_cell hgr p1 (by omega)
        have p2' := only_cell hgr p2 (by omega)
        by_cases hlt : k < nU
        · have hc := ho.cell k hlt
          rw [if_neg (by omega)] at hc
          have hf := World.ownsRow.frozenAt ho k
          have HO := Lib.hid ho
          have HG := Lib.hid hgr
          clear ho hgr p0 p1 p2 k0 k1 k2 k3 k4 m0 m1 m2 m3 m4 kz
          go_wp2
          go_roundw
          case rel => exact ⟨k + 1, by omega, by go_num, only_store HG.out _ _, HO.out.store k (F' := fun j => if j < k + 1 then 128 else 0) (by simp) (fun i _ hik => ite_iff (by omega))⟩
          case measure => simp [intOf]; omega
        · obtain rfl : nU = k := by omega
          have Nz := hgr.size
          obtain ⟨r1, r2, r3⟩ := HA.out
          have r2 := ho.congr (F' := fun _ => 128) (fun i hi => if_pos hi)
          have r1 := only_row hgr r1 (by omega)
          have r3 := only_row hgr r3 (by omega)
          have k0 := only_cell hgr k0 (by omega)
          have k1 := only_cell hgr k1 (by omega)
          have k2 := only_cell hgr k2 (by omega)
          have k3 := only_cell hgr k3 (by omega)
          have k4 := only_cell hgr k4 (by omega)
          have m0 := only_cell hgr m0 (by omega)
          have m1 := only_cell hgr m1 (by omega)
          have m2 := only_cell hgr m2 (by omega)
          have m3 := only_cell hgr m3 (by omega)
          have m4 := only_cell hgr m4 (by omega)
          have kz := fun o => only_frozen hgr (b := w.heap.size) (by have := W3.size; omega) (kz o) (by omega)
          have W3 := W3.trans (only_below hgr (by omega) (by have := W3.size; omega))
          have p0 := p0'
          have p1 := p1'
          have p2 := p2'
          clear p0' p1' p2' ho hgr HA
          go_wp2_with fail
          rw [rounds_succ]
          go_wp2_with fail
          obtain ⟨w5, hw⟩ : ∃ x, x = wr := ⟨_, rfl⟩
          rw [← hw] at Nz r1 r2 r3 k0 k1 k2 k3 k4 m0 m1 m2 m3 m4 kz W3 p0 p1 p2 ⊢
          clear hw
          have HA := Lib.hid (And.intro r1 (And.intro r2 r3))
          clear r1 r2 r3
          go_loopw [11] (fun i wr => ∃ k : Nat, k ≤ nU ∧ i = .int .i64 k ∧ w5.grownBy wr (some g3) ∧ Row wr (w.heap.size + 1) g3 nU nU (fun j => if j < k then 128 else 0)) (fun i _ => nU - (intOf i).toNat)
          case atStart => exact ⟨0, Nat.zero_le _, rfl, only_refl _ _, by simpa using HA.out.2.2⟩
          case round =>
            obtain ⟨k, hk, rfl, hgr, ho⟩ := hrel
            have p0' := only_cell hgr p0 (by omega)
            have p1' := only_cell hgr p1 (by omega)
            have p2' := only_cell hgr p2 (by omega)
            by_cases hlt : k < nU
            · have hc := ho.cell k hlt
              rw [if_neg (by omega)] at hc
              have hf := World.ownsRow.frozenAt ho k
              have HO := Lib.hid ho
              have HG := Lib.hid hgr
              clear ho hgr p0 p1 p2 k0 k1 k2 k3 k4 m0 m1 m2 m3 m4 kz
              go_wp2
              go_roundw
              case rel => exact ⟨k + 1, by omega, by go_num, only_store HG.out _ _, HO.out.store k (F' := fun j => if j < k + 1 then 128 else 0) (by simp) (fun i _ hik => ite_iff (by omega))⟩
              case measure => simp [intOf]; omega
            · obtain rfl : nU = k := by omega
              have Nz := hgr.size
              obtain ⟨r1, r2, r3⟩ := HA.out
              have r3 := ho.congr (F' := fun _ => 128) (fun i hi => if_pos hi)
              have r1 := only_row hgr r1 (by omega)
              have r2 := only_row hgr r2 (by omega)
              have k0 := only_cell hgr k0 (by omega)
              have k1 := only_cell hgr k1 (by omega)
              have k2 := only_cell hgr k2 (by omega)
              have k3 := only_cell hgr k3 (by omega)
              have k4 := only_cell hgr k4 (by omega)
              have m0 := only_cell hgr m0 (by omega)
              have m1 := only_cell hgr m1 (by omega)
              have m2 := only_cell hgr m2 (by omega)
              have m3 := only_cell hgr m3 (by omega)
              have m4 := only_cell hgr m4 (by omega)
              have kz := fun o => only_frozen hgr (b := w.heap.size) (by have := W3.size; omega) (kz o) (by omega)
              have W3 := W3.trans (only_below hgr (by omega) (by have := W3.size; omega))
              have p0 := p0'
              have p1 := p1'
              have p2 := p2'
              clear p0' p1' p2' ho hgr HA
              have HA := Lib.hid (And.intro r1 (And.intro r2 r3))
              have hyY := HY.out
              have hyU := HU.out
              have HN := Lib.hid (And.intro hyY hyU)
              clear r1 r2 r3 hyY hyU
              go_wp2_with fail
              rw [rounds_succ]
              go_wp2_with fail
              refine bodyPost_ret (v := .tuple #[.agg #[.int .i64 W, .int .i64 H, .slice (some ⟨g1, 0, none⟩) nY nY, .slice (some ⟨g2, 0, none⟩) nU nU, .slice (some ⟨g3, 0, none⟩) nU nU], .int .i64 0]) (by simp [results, Try.results18, go_sem, k0, k1, k2, k3, k4]) rfl ?_
              obtain ⟨h1, h2, h3⟩ := HA.out
              have ey := HN.out.1
              have eu := HN.out.2
              rw [HQ.out] at eu
              refine ⟨_, rfl, ⟨.slice (some ⟨g1, 0, none⟩) nY nY, .slice (some ⟨g2, 0, none⟩) nU nU, .slice (some ⟨g3, 0, none⟩) nU nU, rfl, ?_, ?_, ?_⟩, by go_grown⟩
              · show BA _ _ (W * H).toNat _
                rw [← ey]
                refine Row.BA (B := w.heap.size + 1) ?_ (fun i _ => by simp [blackFr])
                repeat (refine Row.far ?_ (by simp; omega) _)
                exact h1
              · show BA _ _ (W / 2 * (H / 2)).toNat _
                rw [← eu]
                refine Row.BA (B := w.heap.size + 1) ?_ (fun i _ => by simp [blackFr])
                repeat (refine Row.far ?_ (by simp; omega) _)
                exact h2
              · show BA _ _ (W / 2 * (H / 2)).toNat _
                rw [← eu]
                refine Row.BA (B := w.heap.size + 1) ?_ (fun i _ => by simp [blackFr])
                repeat (refine Row.far ?_ (by simp; omega) _)
                exact h3

set_option maxRecDepth 100000 in
set_option maxHeartbeats 1000000 in
theorem rblack_no (W H : Int) (w : World) (hs : okSize W H = false) :
    Calls Try.prog 18 #[.int .i64 W, .int .i64 H] w fun e w' => e = .returned (.tuple #[zeroV, .int .i64 1]) ∧ Below w.heap.size w w' := by
  have HS := Lib.hid hs
  clear hs
  go_enter Try.func18, Try.ntmps18
  go_wp2_with fail
  refine (size_any _ _ _).mono ?_
  rintro e w0 ⟨rfl, rfl⟩
  rw [HS.out]
  go_wp2_with fail
  refine bodyPost_ret (v := .tuple #[zeroV, .int .i64 1]) (by simp [results, Try.results18, go_sem, zeroV]) rfl ⟨rfl, by go_grown⟩

end Go.Proofs.Ytnnobdcbmagbaaa
