/- compose.Key and its reference where they refuse. -/
import Derived.Test.YtnnobdcbmagbaaaKB
namespace Go.Proofs.Ytnnobdcbmagbaaa
open Go.RowKit
set_option linter.unusedVariables false

set_option maxRecDepth 100000 in
set_option maxHeartbeats 2000000 in
theorem key_no (v u : Value) (F G : Fr) (t : Int) (w : World) (hv : FA w v F) (hu : FA w u G) (hp : (pairOk F G && okThr t) = false) :
    Calls Try.prog 26 #[v, u, .int .i64 t] w fun e w' => e = .returned (.tuple #[zeroV, .int .i64 1]) ∧ Below w.heap.size w w' := by
  have hmf : ∀ (fn : Fn) (first cap : Array Value) (w : World), (Instr.makeFunc fn first cap).run Try.prog w = .ok (.func fn first cap) w := fun _ _ _ _ => rfl
  have hv0 := hv
  have hu0 := hu
  obtain ⟨y, u1, z, rfl, _, _, _⟩ := hv
  obtain ⟨y', u', z', rfl, _, _, _⟩ := hu
  have B0 : ∀ o1 o2 o3 o4, Below w.heap.size w ((((w.alloc o1).alloc o2).alloc o3).alloc o4) := fun _ _ _ _ => by go_grown
  have HV := Lib.hid hv0
  have HU := Lib.hid hu0
  have HP := Lib.hid hp
  clear hv0 hu0 hp
  go_enter_defers Try.func26, Try.ntmps26
  go_wp2_with fail
  refine (matching_any _ _ F G _ ?_ ?_).mono ?_
  · exact HV.out.below (by go_grown)
  · exact HU.out.below (by go_grown)
  rintro e w1 ⟨rfl, hb⟩
  have hc := fun (p : Addr) (h : p.block < w.heap.size + 4) => hb.cell (p := p) (by simpa using h)
  have hz := fun (p : Addr) (h : p.block < w.heap.size + 4) => hb.frozen (p := p) (by simpa using h)
  have r0 : w1.cell? ⟨w.heap.size + 2, 0, none⟩ = some (.int .i64 0) := (hc _ (by simp)).trans (by simp [go_sem])
  have r1 : w1.cell? ⟨w.heap.size + 2, 1, none⟩ = some (.int .i64 0) := (hc _ (by simp)).trans (by simp [go_sem])
  have r2 : w1.cell? ⟨w.heap.size + 2, 2, none⟩ = some (.slice none 0 0) := (hc _ (by simp)).trans (by simp [go_sem])
  have r3 : w1.cell? ⟨w.heap.size + 2, 3, none⟩ = some (.slice none 0 0) := (hc _ (by simp)).trans (by simp [go_sem])
  have r4 : w1.cell? ⟨w.heap.size + 2, 4, none⟩ = some (.slice none 0 0) := (hc _ (by simp)).trans (by simp [go_sem])
  have s0 : w1.cell? ⟨w.heap.size + 3, 0, none⟩ = some (.int .i64 0) := (hc _ (by simp)).trans (by simp [go_sem])
  have z4 : ∀ o, w1.frozen? ⟨w.heap.size + 2, o, none⟩ = false := fun o => (hz _ (by simp)).trans (by simp [go_sem])
  have z5 : w1.frozen? ⟨w.heap.size + 3, 0, none⟩ = false := (hz _ (by simp)).trans (by simp [go_sem])
  have hN : w.heap.size + 4 ≤ w1.heap.size := by have := hb.size; simpa using this
  have W1 : Below w.heap.size w w1 := (B0 _ _ _ _).trans (hb.mono (by simp; omega))
  clear hb hc hz
  cases hpk : pairOk F G
  · have HK := Lib.hid hpk
    clear hpk
    go_wp2_with fail
    refine leaves_cons (f := 54) (args := #[.pointer (some ⟨w.heap.size + 1 + 1, 0, none⟩), .pointer (some ⟨w.heap.size + 1 + 1 + 1, 0, none⟩)]) (by simp) (by simp [go_sem]) ?_
    refine (idle54 _ _ _).mono ?_
    rintro e u' w'' ⟨rfl, rfl, rfl⟩
    simp [Leaves, settle, results, Try.results26, go_sem, r0, r1, r2, r3, r4, s0, zeroV]
    go_grown
  · have hs : ¬ (0 ≤ t ∧ t ≤ 255) := by have := HP.out; simpa [hpk, okThr] using this
    have HK := Lib.hid hpk
    clear hpk
    by_cases ht : t < 0
    · clear hs
      go_wp2_with fail
      refine leaves_cons (f := 54) (args := #[.pointer (some ⟨w.heap.size + 1 + 1, 0, none⟩), .pointer (some ⟨w.heap.size + 1 + 1 + 1, 0, none⟩)]) (by simp) (by simp [go_sem]) ?_
      refine (idle54 _ _ _).mono ?_
      rintro e u' w'' ⟨rfl, rfl, rfl⟩
      simp [Leaves, settle, results, Try.results26, go_sem, r0, r1, r2, r3, r4, s0, zeroV]
      go_grown
    · have ht1 : 0 ≤ t := by omega
      have ht2 : 255 < t := by omega
      clear hs ht
      go_wp2_with fail
      refine leaves_cons (f := 54) (args := #[.pointer (some ⟨w.heap.size + 1 + 1, 0, none⟩), .pointer (some ⟨w.heap.size + 1 + 1 + 1, 0, none⟩)]) (by simp) (by simp [go_sem]) ?_
      refine (idle54 _ _ _).mono ?_
      rintro e u' w'' ⟨rfl, rfl, rfl⟩
      simp [Leaves, settle, results, Try.results26, go_sem, r0, r1, r2, r3, r4, s0, zeroV]
      go_grown

set_option maxRecDepth 100000 in
set_option maxHeartbeats 2000000 in
theorem rkey_no (v u : Value) (F G : Fr) (t : Int) (w : World) (hv : FA w v F) (hu : FA w u G) (hp : (pairOk F G && okThr t) = false) :
    Calls Try.prog 27 #[v, u, .int .i64 t] w fun e w' => e = .returned (.tuple #[zeroV, .int .i64 1]) ∧ Below w.heap.size w w' := by
  have FA_a := Lib.hid hv
  have FA_b := Lib.hid hu
  have HP := Lib.hid hp
  obtain ⟨ay, cy, au, cu, av, cv, rfl⟩ := hv.shape
  obtain ⟨ay', cy', au', cu', av', cv', rfl⟩ := hu.shape
  clear hv hu hp
  go_enter Try.func27, Try.ntmps27
  go_upto_region 1 with fail
  obtain ⟨w1, hw⟩ : ∃ x, x = ((w.alloc (.cells #[.int .i64 F.W, .int .i64 F.H, .slice ay F.nY cy, .slice au F.nU cu, .slice av F.nV cv] 26)).alloc (.cells #[.int .i64 G.W, .int .i64 G.H, .slice ay' G.nY cy', .slice au' G.nU cu', .slice av' G.nV cv'] 26)).alloc (.cells #[.int .i64 0, .int .i64 0, .slice none 0 0, .slice none 0 0, .slice none 0 0] 26) := ⟨_, rfl⟩
  rw [← hw]
  have hE : Below w.heap.size w w1 := by rw [hw]; go_grown
  have BX_a := Lib.hid (show BX w1 w.heap.size _ _ _ _ _ by rw [hw]; exact ((BX.of_alloc _ _ _ _ _ _ _).below (below_box _ _)).below (below_box _ _))
  have BX_b := Lib.hid (show BX w1 (w.heap.size + 1) _ _ _ _ _ by rw [hw]; exact (BX.of_alloc' _ _ _ _ _ _ _ _ (by simp)).below (below_box _ _))
  have BX_r := Lib.hid (show BX w1 (w.heap.size + 1 + 1) _ _ _ _ _ by rw [hw]; exact BX.of_alloc' _ _ _ _ _ _ _ _ (by simp))
  have FZ_r := Lib.hid (show Fz w1 (w.heap.size + 1 + 1) from ⟨by rw [hw]; simp, fun o => by rw [hw]; simp [go_sem]⟩)
  replace FA_a := Lib.hid (FA_a.out.below hE)
  replace FA_b := Lib.hid (FA_b.out.below hE)
  have HB := Lib.hid hE
  clear hw hE
  obtain ⟨bla, hbla⟩ : ∃ b, b = w.heap.size := ⟨_, rfl⟩
  obtain ⟨blb, hblb⟩ : ∃ b, b = w.heap.size + 1 := ⟨_, rfl⟩
  obtain ⟨blr, hblr⟩ : ∃ b, b = w.heap.size + 1 + 1 := ⟨_, rfl⟩
  rw [← hblr] at BX_r FZ_r ⊢
  rw [← hblb] at BX_b ⊢
  rw [← hbla] at BX_a ⊢
  have n0 : w.heap.size ≤ blr := by omega
  clear hbla hblb hblr
  obtain ⟨a0, a1, a2, a3, a4⟩ := BX_a.out
  obtain ⟨b0, b1, b2, b3, b4⟩ := BX_b.out
  go_wp2_with fail
  refine (pair_any _ _ F G _ FA_a.out FA_b.out).mono ?_
  rintro e w2 ⟨rfl, hb⟩
  have HE := Lib.hid hb
  clear hb a0 a1 a2 a3 a4 b0 b1 b2 b3 b4
  replace BX_r := Lib.hid (BX_r.out.below HE.out)
  replace FZ_r := Lib.hid (FZ_r.out.below HE.out)
  replace HB := Lib.hid (HB.out.trans (HE.out.mono HB.out.size))
  clear HE
  obtain ⟨r0, r1, r2, r3, r4⟩ := BX_r.out
  have fz := FZ_r.out.2
  cases hpk : pairOk F G
  · clear hpk
    go_wp2_with fail
    refine bodyPost_ret (v := .tuple #[zeroV, .int .i64 1]) (by simp [results, Try.results27, go_sem, r0, r1, r2, r3, r4, zeroV]) rfl ?_
    have hB := HB.out
    exact ⟨rfl, by go_grown⟩
  · have hs : ¬ (0 ≤ t ∧ t ≤ 255) := by have := HP.out; simpa [hpk, okThr] using this
    clear hpk
    by_cases ht : t < 0
    · clear hs
      go_wp2_with fail
      refine bodyPost_ret (v := .tuple #[zeroV, .int .i64 1]) (by simp [results, Try.results27, go_sem, r0, r1, r2, r3, r4, zeroV]) rfl ?_
      have hB := HB.out
      exact ⟨rfl, by go_grown⟩
    · have ht1 : 0 ≤ t := by omega
      have ht2 : 255 < t := by omega
      clear hs ht
      go_wp2_with fail
      refine bodyPost_ret (v := .tuple #[zeroV, .int .i64 1]) (by simp [results, Try.results27, go_sem, r0, r1, r2, r3, r4, zeroV]) rfl ?_
      have hB := HB.out
      exact ⟨rfl, by go_grown⟩
end Go.Proofs.Ytnnobdcbmagbaaa
