/- The contracts of the stage's eval and of Eval at the black expression. -/
import Derived.Test.YtnnobdcbmagbaaaP
namespace Go.Proofs.Ytnnobdcbmagbaaa
open Go.RowKit

theorem info26 : (Try.prog.info? 26).map (fun i => (i.zero, i.size, i.bytes)) = some (some (.agg #[.int .i64 0, .int .i64 0, .slice none 0 0, .slice none 0 0, .slice none 0 0]), 5, 88) := by kernel_rfl

theorem FA.shape {w : World} {v : Value} {F : Fr} (h : FA w v F) : ∃ ay cy au cu av cv, v = .agg #[.int .i64 F.W, .int .i64 F.H, .slice ay F.nY cy, .slice au F.nU cu, .slice av F.nV cv] := by
  obtain ⟨y, u, z, rfl, ⟨ay, cy, rfl, _⟩, ⟨au, cu, rfl, _⟩, ⟨av, cv, rfl, _⟩⟩ := h
  exact ⟨ay, cy, au, cu, av, cv, rfl⟩

theorem BA.put {w : World} {v : Value} {n : Nat} {f : Nat → Int} (h : BA w v n f) {a : Addr} {u : Value} (ha : w.cell? a = some u) (hu : ∀ k, u ≠ .int .u8 k) (x : Value) : BA (w.setCell a x) v n f := by
  obtain ⟨ao, c, rfl, hc, H⟩ := h
  refine ⟨ao, c, rfl, hc, fun i hi => ?_⟩
  obtain ⟨⟨b, o, rfl, hcell⟩, hbd⟩ := H i hi
  refine ⟨⟨b, o, rfl, ?_⟩, hbd⟩
  rw [World.cell?_setCell_other]
  · exact hcell
  · intro he
    rw [← he, ha] at hcell
    exact hu _ (by injection hcell)

theorem FA.put {w : World} {v : Value} {F : Fr} (h : FA w v F) {a : Addr} {u : Value} (ha : w.cell? a = some u) (hu : ∀ k, u ≠ .int .u8 k) (x : Value) : FA (w.setCell a x) v F := by
  obtain ⟨y, u, z, rfl, h1, h2, h3⟩ := h
  exact ⟨y, u, z, rfl, h1.put ha hu x, h2.put ha hu x, h3.put ha hu x⟩

/-- A frame is stored over a frame's cells: what reads as bytes stays. -/
theorem FA.put5 {w : World} {v : Value} {F : Fr} (h : FA w v F) {g : Nat} {a0 a1 : Int} {s2 s3 s4 : Option Addr} {l2 c2 l3 c3 l4 c4 : Nat} (k0 : w.cell? ⟨g, 0, none⟩ = some (.int .i64 a0)) (k1 : w.cell? ⟨g, 1, none⟩ = some (.int .i64 a1))
    (k2 : w.cell? ⟨g, 2, none⟩ = some (.slice s2 l2 c2)) (k3 : w.cell? ⟨g, 3, none⟩ = some (.slice s3 l3 c3)) (k4 : w.cell? ⟨g, 4, none⟩ = some (.slice s4 l4 c4)) {x0 x1 x2 x3 x4 : Value} :
    FA (((((w.setCell ⟨g, 0, none⟩ x0).setCell ⟨g, 1, none⟩ x1).setCell ⟨g, 2, none⟩ x2).setCell ⟨g, 3, none⟩ x3).setCell ⟨g, 4, none⟩ x4) v F := by
  have f1 : ∀ (w : World) (i j : Nat) (x : Value), i ≠ j → (w.setCell ⟨g, i, none⟩ x).cell? ⟨g, j, none⟩ = w.cell? ⟨g, j, none⟩ := fun w i j x hij => World.cell?_setCell_other w _ _ _ (fun h => hij (by cases h; rfl))
  refine ((((h.put k0 (by simp) _).put (u := .int .i64 a1) ?_ (by simp) _).put (u := .slice s2 l2 c2) ?_ (by simp) _).put (u := .slice s3 l3 c3) ?_ (by simp) _).put (u := .slice s4 l4 c4) ?_ (by simp) _
  all_goals simp only [f1 _ _ _ _ (by decide : (0:Nat) ≠ 1), f1 _ _ _ _ (by decide : (0:Nat) ≠ 2), f1 _ _ _ _ (by decide : (0:Nat) ≠ 3), f1 _ _ _ _ (by decide : (0:Nat) ≠ 4), f1 _ _ _ _ (by decide : (1:Nat) ≠ 2), f1 _ _ _ _ (by decide : (1:Nat) ≠ 3), f1 _ _ _ _ (by decide : (1:Nat) ≠ 4), f1 _ _ _ _ (by decide : (2:Nat) ≠ 3), f1 _ _ _ _ (by decide : (2:Nat) ≠ 4), f1 _ _ _ _ (by decide : (3:Nat) ≠ 4)]
  · exact k1
  · exact k2
  · exact k3
  · exact k4

set_option maxRecDepth 100000 in
set_option maxHeartbeats 2000000 in
theorem seval_black (W H : Int) (m : Value) (w : World) (hs : okSize W H = true) :
    Calls Try.prog 64 #[.agg #[.int .i64 W, .int .i64 H, m], blackV] w fun e w' => ∃ r, e = .returned (.tuple #[r, .int .i64 0]) ∧ FA w' r (blackFr W H) ∧ Below w.heap.size w w' := by
  obtain ⟨i0, hi, hz0, hz1, hz2⟩ := info_parts info26
  unfold blackV
  go_enter Try.func64, Try.ntmps64
  go_wp2_with (at_make; refine wpList_make_full _ rfl _ _ 99 rfl w.heap.size 26 i0 (.agg #[.int .i64 0, .int .i64 0, .slice none 0 0, .slice none 0 0, .slice none 0 0]) 5 Try.underlying99 hi hz0 hz1 _ _ _ _ 0 rfl rfl rfl rfl ?_ ?_ ?_ ?_)
  · rw [hz2]; omega
  · unfold maxLen; omega
  · simp; omega
  · intro w1 hown hg
    clear hown
    have hb1 := (Below.refl _ _).grown hg (Nat.le_refl _) (fun k h => by cases h)
    clear hg
    have c0 : w1.cell? ⟨w.heap.size, 0, none⟩ = some (.int .i64 W) := (hb1.cell (by simp; omega)).trans (by simp [go_sem])
    have c1 : w1.cell? ⟨w.heap.size, 1, none⟩ = some (.int .i64 H) := (hb1.cell (by simp; omega)).trans (by simp [go_sem])
    have c2 : w1.cell? ⟨w.heap.size + 1, 0, none⟩ = some (.int .i64 0) := (hb1.cell (by simp)).trans (by simp [go_sem])
    have c3 : w1.cell? ⟨w.heap.size + 1, 7, none⟩ = some (.slice none 0 0) := (hb1.cell (by simp)).trans (by simp [go_sem])
    have n1 := hb1.size
    simp at n1
    go_wp2_with fail
    refine wp_loop_rounds 1 ?_
    rw [rounds_succ]
    go_wp2_with fail
    refine (black_yes W H _ hs).mono ?_
    rintro e w2 ⟨r, rfl, hf, hb2⟩
    have HR := Lib.hid hf
    obtain ⟨ay, cy, au, cu, av, cv, rfl⟩ := hf.shape
    clear hf
    have BB := hb1.trans (hb2.mono (by simp; omega))
    have k0 : w2.cell? ⟨w.heap.size + 1 + 1, 0, none⟩ = some (.int .i64 0) := (BB.cell (by simp)).trans (by simp [go_sem])
    have k1 : w2.cell? ⟨w.heap.size + 1 + 1, 1, none⟩ = some (.int .i64 0) := (BB.cell (by simp)).trans (by simp [go_sem])
    have k2 : w2.cell? ⟨w.heap.size + 1 + 1, 2, none⟩ = some (.slice none 0 0) := (BB.cell (by simp)).trans (by simp [go_sem])
    have k3 : w2.cell? ⟨w.heap.size + 1 + 1, 3, none⟩ = some (.slice none 0 0) := (BB.cell (by simp)).trans (by simp [go_sem])
    have k4 : w2.cell? ⟨w.heap.size + 1 + 1, 4, none⟩ = some (.slice none 0 0) := (BB.cell (by simp)).trans (by simp [go_sem])
    have z0 : ∀ o, w2.frozen? ⟨w.heap.size + 1 + 1, o, none⟩ = false := fun o => (BB.frozen (by simp)).trans (by simp [go_sem])
    have n2 := hb2.size
    have W2 : Below w.heap.size w w2 := (((below_box w _).trans ((below_box _ _).mono (by simp))).trans ((below_box _ _).mono (by simp; omega))).trans (BB.mono (by simp; omega))
    clear BB hb1 hb2 c0 c1 c2 c3
    go_wp2_with fail
    refine bodyPost_ret (v := .tuple #[.agg #[.int .i64 W, .int .i64 H, .slice ay (blackFr W H).nY cy, .slice au (blackFr W H).nU cu, .slice av (blackFr W H).nV cv], .int .i64 0]) (by simp [results, Try.results64, go_sem, k0, k1, k2, k3, k4]; exact ⟨rfl, rfl⟩) rfl ?_
    exact ⟨_, rfl, HR.out.put5 k0 k1 k2 k3 k4, by go_grown⟩


set_option maxRecDepth 100000 in
set_option maxHeartbeats 4000000 in
theorem eval_black (W H : Int) (w : World) (hs : okSize W H = true) :
    Calls Try.prog 35 #[blackV, .slice none 0 0, .int .i64 W, .int .i64 H] w fun e w' => ∃ r, e = .returned (.tuple #[r, .int .i64 0]) ∧ FA w' r (blackFr W H) ∧ Below w.heap.size w w' := by
  have hmf : ∀ (fn : Fn) (first cap : Array Value) (w : World), (Instr.makeFunc fn first cap).run Try.prog w = .ok (.func fn first cap) w := fun _ _ _ _ => rfl
  have hmm : ∀ (n : Int) (w : World), (Instr.makeMap 91 (some (.int .i64 n))).run Try.prog w = .ok (.map (some w.heap.size)) (w.alloc (.map #[] 0)) := fun n w => by
    simp [Instr.makeMap, run_underlying Try.underlying91, asInt, asIntOf, Result.andThen]
  have HS := Lib.hid hs
  clear hs
  unfold blackV
  go_enter_defers Try.func35, Try.ntmps35
  go_wp2_with fail
  refine (dvalid_black _).mono ?_
  rintro e w1 ⟨rfl, hb⟩
  have BB : Below (w.heap.size + 3) _ w1 := hb.mono (by simp)
  have b0 : ∀ i, w1.cell? ⟨w.heap.size, i, none⟩ = (#[Value.int .i64 0, .string ByteArray.empty, .int .i64 0, .int .i64 0, .int .i64 0, .int .i64 0, .string ByteArray.empty, .slice none 0 0] : Array Value)[i]? := fun i => (BB.cell (by simp)).trans (by simp [go_sem])
  have n1 := BB.size
  simp at n1
  have W1 : Below w.heap.size w w1 := Below.trans (by go_grown) (BB.mono (by omega))
  have k0 : w1.cell? ⟨w.heap.size + 1, 0, none⟩ = some (.int .i64 0) := (BB.cell (by simp)).trans (by simp [go_sem])
  have k1 : w1.cell? ⟨w.heap.size + 1, 1, none⟩ = some (.int .i64 0) := (BB.cell (by simp)).trans (by simp [go_sem])
  have k2 : w1.cell? ⟨w.heap.size + 1, 2, none⟩ = some (.slice none 0 0) := (BB.cell (by simp)).trans (by simp [go_sem])
  have k3 : w1.cell? ⟨w.heap.size + 1, 3, none⟩ = some (.slice none 0 0) := (BB.cell (by simp)).trans (by simp [go_sem])
  have k4 : w1.cell? ⟨w.heap.size + 1, 4, none⟩ = some (.slice none 0 0) := (BB.cell (by simp)).trans (by simp [go_sem])
  have k5 : w1.cell? ⟨w.heap.size + 2, 0, none⟩ = some (.int .i64 0) := (BB.cell (by simp)).trans (by simp [go_sem])
  have z1 : ∀ o, w1.frozen? ⟨w.heap.size + 1, o, none⟩ = false := fun o => (BB.frozen (by simp)).trans (by simp [go_sem])
  have z2 : ∀ o, w1.frozen? ⟨w.heap.size + 2, o, none⟩ = false := fun o => (BB.frozen (by simp)).trans (by simp [go_sem])
  clear BB hb
  go_wp2_with fail
  refine (validSize_any _ _ _).mono ?_
  rintro e w2 ⟨rfl, rfl⟩
  rw [HS.out]
  go_wp2_with fail
  refine wp_loop_rounds 1 ?_
  rw [rounds_succ]
  have P2 : ∀ o1 o2, Below w1.heap.size w1 ((w1.alloc o1).alloc o2) := fun _ _ => by go_grown
  have b00 : ∀ o1 o2, ((w1.alloc o1).alloc o2).cell? ⟨w.heap.size, 0, none⟩ = some (.int .i64 0) := fun o1 o2 => ((P2 o1 o2).cell (by simp; omega)).trans (b0 0)
  have b01 : ∀ o1 o2, ((w1.alloc o1).alloc o2).cell? ⟨w.heap.size, 1, none⟩ = some (.string ByteArray.empty) := fun o1 o2 => ((P2 o1 o2).cell (by simp; omega)).trans (b0 1)
  have b02 : ∀ o1 o2, ((w1.alloc o1).alloc o2).cell? ⟨w.heap.size, 2, none⟩ = some (.int .i64 0) := fun o1 o2 => ((P2 o1 o2).cell (by simp; omega)).trans (b0 2)
  have b03 : ∀ o1 o2, ((w1.alloc o1).alloc o2).cell? ⟨w.heap.size, 3, none⟩ = some (.int .i64 0) := fun o1 o2 => ((P2 o1 o2).cell (by simp; omega)).trans (b0 3)
  have b04 : ∀ o1 o2, ((w1.alloc o1).alloc o2).cell? ⟨w.heap.size, 4, none⟩ = some (.int .i64 0) := fun o1 o2 => ((P2 o1 o2).cell (by simp; omega)).trans (b0 4)
  have b05 : ∀ o1 o2, ((w1.alloc o1).alloc o2).cell? ⟨w.heap.size, 5, none⟩ = some (.int .i64 0) := fun o1 o2 => ((P2 o1 o2).cell (by simp; omega)).trans (b0 5)
  have b06 : ∀ o1 o2, ((w1.alloc o1).alloc o2).cell? ⟨w.heap.size, 6, none⟩ = some (.string ByteArray.empty) := fun o1 o2 => ((P2 o1 o2).cell (by simp; omega)).trans (b0 6)
  have b07 : ∀ o1 o2, ((w1.alloc o1).alloc o2).cell? ⟨w.heap.size, 7, none⟩ = some (.slice none 0 0) := fun o1 o2 => ((P2 o1 o2).cell (by simp; omega)).trans (b0 7)
  clear b0
  go_wp2_with fail
  refine (seval_black W H _ _ HS.out).mono ?_
  rintro e w3 ⟨r, rfl, hf, hb3⟩
  have HR := Lib.hid hf
  obtain ⟨ay, cy, au, cu, av, cv, rfl⟩ := hf.shape
  clear hf
  have B3 : Below w1.heap.size w1 w3 := (P2 _ _).trans (hb3.mono (by simp; omega))
  clear P2
  have n3 := B3.size
  replace k0 := (B3.cell (by simp; omega)).trans k0
  replace k1 := (B3.cell (by simp; omega)).trans k1
  replace k2 := (B3.cell (by simp; omega)).trans k2
  replace k3 := (B3.cell (by simp; omega)).trans k3
  replace k4 := (B3.cell (by simp; omega)).trans k4
  replace k5 := (B3.cell (by simp; omega)).trans k5
  replace z1 := fun o => (B3.frozen (p := ⟨w.heap.size + 1, o, none⟩) (by simp; omega)).trans (z1 o)
  replace z2 := fun o => (B3.frozen (p := ⟨w.heap.size + 2, o, none⟩) (by simp; omega)).trans (z2 o)
  have W3 := W1.trans (B3.mono (by omega))
  clear hb3 B3 W1 b00 b01 b02 b03 b04 b05 b06 b07
  go_wp2_with fail
  refine leaves_cons (f := 62) (args := #[.pointer (some ⟨w.heap.size + 1, 0, none⟩), .pointer (some ⟨w.heap.size + 1 + 1, 0, none⟩)]) (by simp) (by simp [go_sem]) ?_
  refine (idle62 _ _ _).mono ?_
  rintro e u' w'' ⟨rfl, rfl, rfl⟩
  simp [Leaves, settle, results, Try.results35, go_sem, k0, k1, k2, k3, k4, k5]
  refine ⟨FA.put (u := .int .i64 0) (HR.out.put5 k0 k1 k2 k3 k4) ?_ (by simp) _, by go_grown⟩
  iterate 5 rw [World.cell?_setCell_far _ _ _ _ (by simp)]
  exact k5

end Go.Proofs.Ytnnobdcbmagbaaa
