/- Take of no bytes; awake. -/
import Derived.Test.YtkhjkemllgjfmaaE
import Derived.Carry
import Derived.Maps.Own
namespace Go.Proofs.Ytkhjkemllgjfmaa
open Go.RowKit
set_option linter.unusedVariables false

theorem idle47 (p q : Addr) (w : World) : CallsD Try.prog 47 #[.pointer (some p), .pointer (some q)] .returning w fun e u' w' => e = .returned (.tuple #[]) ∧ u' = .returning ∧ w' = w := by
  refine callsD_of_wpS Try.func47 rfl fun c₀ cs hu => ?_
  apply wpS_seq
  apply wpS_region
  simp [wpOpsS, go_sem, recoverD, hu, Try.ntmps47, Exit.thenS]
  refine wpS_cond (t := false) (by simp [Act.eval, Array.replicate]) ?_
  simp only [Bool.false_eq_true, if_false]
  refine wpS_of_wp (wp_skip ?_)
  cases c₀
  simp_all [bodyPostS, results, Try.results47]

set_option maxHeartbeats 1000000 in
theorem bytype_zero (ao : Option Addr) (c : Nat) (w : World) :
    Calls Try.prog 48 #[.slice ao 0 c] w fun e w' => ∃ b, e = .returned (.map (some b)) ∧ w'.heap[b]? = some (.map #[] 0) ∧ Below w.heap.size w w' := by
  have hmm := @run_makeMap Try.prog
  go_enter Try.func48, Try.ntmps48
  go_wp2_with fail
  refine wp_loop_rounds 1 ?_
  rw [rounds_succ]
  go_wp2_with fail
  go_ret
  exact ⟨_, rfl, (MapKept.heap_alloc w _).1, below_box _ _⟩

/-- How the empty slice of boxes reads. -/
def nilR (v : Value) : Option (DataW Unit × List MemPlace) := match v with
  | .slice none 0 0 => some (.nil, [])
  | _ => none
theorem nilR_eq {v : Value} {x : DataW Unit × List MemPlace} (h : nilR v = some x) : v = .slice none 0 0 := by
  unfold nilR at h
  split at h
  · rfl
  · cases h
theorem look_moov (b : Nat) (w : World) (h : w.heap[b]? = some (.map #[] 0)) : (Instr.lookup 94 (.map (some b)) (.string { data := #[109, 111, 111, 118] }) false).run Try.prog w = .ok (.slice none 0 0) w := by
  have hown : w.ownsMap Try.prog 9 nilR b 0 (.map []) := ⟨#[], 0, h, ⟨by simp, MapKept.stamped_empty 0, by simp⟩, Nat.le_refl _, rfl⟩
  obtain ⟨v, ps, hrun, hv⟩ := hown.lookup (Maps.string_keyed Try.underlying9) Try.underlying94 (z := .slice none 0 0) (by kernel_rfl) (zd := .nil) (zp := []) rfl (WideMaps.keyOf_string_mk Try.underlying9 (s := { data := #[109, 111, 111, 118] }) (by decide))
  rw [nilR_eq hv] at hrun
  exact hrun

set_option maxRecDepth 100000 in
set_option maxHeartbeats 1000000 in
theorem take_nil (w : World) : Calls Try.prog 25 #[.slice none 0 0] w fun e w' => e = .returned (.tuple #[.agg #[.int .i64 0, .slice none 0 0], .int .i64 7]) ∧ Below w.heap.size w w' := by
  have hmf : ∀ (fn : Fn) (first cap : Array Value) (w : World), (Instr.makeFunc fn first cap).run Try.prog w = .ok (.func fn first cap) w := fun _ _ _ _ => rfl
  go_enter_defers Try.func25, Try.ntmps25
  go_wp2_with fail
  obtain ⟨w1, hw⟩ : ∃ x, x = (w.alloc (.cells #[.int .i64 0, .slice none 0 0] 56)).alloc (.cells #[.int .i64 0] 24) := ⟨_, rfl⟩
  rw [← hw]
  have hE : Below w.heap.size w w1 := by rw [hw]; go_grown
  have f0 : w1.cell? ⟨w.heap.size, 0, none⟩ = some (.int .i64 0) := by rw [hw]; simp [go_sem]
  have f1 : w1.cell? ⟨w.heap.size, 1, none⟩ = some (.slice none 0 0) := by rw [hw]; simp [go_sem]
  have fz : ∀ o, w1.frozen? ⟨w.heap.size, o, none⟩ = false := fun o => by rw [hw]; simp [go_sem]
  have ce : C1 w1 (w.heap.size + 1) (.int .i64 0) := by rw [hw]; exact ⟨by simp [go_sem], by simp [go_sem]⟩
  have HB := Lib.hid hE
  have HS := Lib.hid (show w1.heap.size = w.heap.size + 2 by rw [hw]; simp)
  clear hw hE
  refine (boxes_zero none 0 (fun _ => 0) w1).mono ?_
  rintro e w2 ⟨v, c, rfl, hb, hres⟩
  rw [if_neg (by omega)] at hres
  obtain ⟨k, hwk, hng, hc, _, ho⟩ := hres
  have hk0 : k = 0 := by
    rcases Nat.eq_zero_or_pos k with h | h
    · exact h
    · have := (hwk 0 h).1
      simp at this
  subst hk0
  have hc0 : c = 0 := by rw [hc]; rfl
  subst hc0
  have hv : ∃ a m, v = .slice a 0 m := by
    rcases (ho rfl).2 with ⟨rfl, _⟩ | ⟨g, cap, cur, rfl, _⟩
    · exact ⟨_, _, rfl⟩
    · exact ⟨_, _, rfl⟩
  obtain ⟨va, vm, rfl⟩ := hv
  have lt : ∀ j, j < 2 → w.heap.size + j < w1.heap.size := fun j hj => by rw [HS.out]; omega
  have hb0 : Below w1.heap.size w1 w2 := hb
  replace f0 := (hb0.cell (p := ⟨w.heap.size, 0, none⟩) (lt 0 (by omega))).trans f0
  replace f1 := (hb0.cell (p := ⟨w.heap.size, 1, none⟩) (lt 0 (by omega))).trans f1
  replace fz : ∀ o, w2.frozen? ⟨w.heap.size, o, none⟩ = false := fun o => (hb0.frozen (p := ⟨w.heap.size, o, none⟩) (lt 0 (by omega))).trans (fz o)
  have e0 := (ce.below hb0).k0
  have ez := (ce.below hb0).fz
  replace HB := Lib.hid (HB.out.trans (hb0.mono HB.out.size))
  have HS2 := Lib.hid (show w.heap.size + 2 ≤ w2.heap.size by have := hb0.size; rw [HS.out] at this; exact this)
  clear hwk hng hc ho hb hb0 ce lt
  go_wp2_with fail
  obtain ⟨w3, hw⟩ : ∃ x, x = w2.setCell ⟨w.heap.size + 1, 0, none⟩ (.int .i64 0) := ⟨_, rfl⟩
  rw [← hw]
  replace f0 : w3.cell? ⟨w.heap.size, 0, none⟩ = some (.int .i64 0) := by rw [hw, World.cell?_setCell_far _ _ _ _ (by simp)]; exact f0
  replace f1 : w3.cell? ⟨w.heap.size, 1, none⟩ = some (.slice none 0 0) := by rw [hw, World.cell?_setCell_far _ _ _ _ (by simp)]; exact f1
  replace fz : ∀ o, w3.frozen? ⟨w.heap.size, o, none⟩ = false := fun o => by rw [hw, World.frozen?_setCell]; exact fz o
  have e1 : w3.cell? ⟨w.heap.size + 1, 0, none⟩ = some (.int .i64 0) := by rw [hw]; simp [go_sem, e0]
  replace ez : w3.frozen? ⟨w.heap.size + 1, 0, none⟩ = false := by rw [hw, World.frozen?_setCell]; exact ez
  replace HB := Lib.hid (show Below w.heap.size w w3 by rw [hw]; exact HB.out.setCell (by simp) _)
  have hs3 : w.heap.size + 2 ≤ w3.heap.size := by rw [hw, World.size_setCell]; exact HS2.out
  clear hw e0 HS2
  refine (bytype_zero va vm w3).mono ?_
  rintro e w4 ⟨bm, rfl, hmap, hb⟩
  have lt : ∀ j, j < 2 → w.heap.size + j < w3.heap.size := fun j hj => by omega
  replace f0 := (hb.cell (p := ⟨w.heap.size, 0, none⟩) (lt 0 (by omega))).trans f0
  replace f1 := (hb.cell (p := ⟨w.heap.size, 1, none⟩) (lt 0 (by omega))).trans f1
  replace fz : ∀ o, w4.frozen? ⟨w.heap.size, o, none⟩ = false := fun o => (hb.frozen (p := ⟨w.heap.size, o, none⟩) (lt 0 (by omega))).trans (fz o)
  replace e1 := (hb.cell (p := ⟨w.heap.size + 1, 0, none⟩) (lt 1 (by omega))).trans e1
  replace ez := (hb.frozen (p := ⟨w.heap.size + 1, 0, none⟩) (lt 1 (by omega))).trans ez
  replace HB := Lib.hid (HB.out.trans (hb.mono HB.out.size))
  have hlk := look_moov bm w4 hmap
  clear hmap hb hs3 lt
  go_wp2_with fail
  refine leaves_cons (f := 47) (args := #[.pointer (some ⟨w.heap.size, 0, none⟩), .pointer (some ⟨w.heap.size + 1, 0, none⟩)]) (by simp) (by simp [go_sem]) ?_
  refine (idle47 _ _ _).mono ?_
  rintro e u' w'' ⟨rfl, rfl, rfl⟩
  simp [Leaves, settle, results, Try.results25, go_sem, f0, f1, e1]
  have hB := HB.out
  go_grown

def f8 (i : Nat) : Int := [0, 0, 0, 8, 102, 114, 101, 101].getD i 0

set_option maxRecDepth 100000 in
set_option maxHeartbeats 1000000 in
theorem awake_any (w : World) : Calls Try.prog 12 #[] w fun e w' => e = .returned (.bool true) ∧ Below w.heap.size w w' := by
  go_enter Try.func12, Try.ntmps12
  go_wp2_with fail
  obtain ⟨w1, hw⟩ : ∃ x, x = w.alloc (.cells #[.int .u8 0, .int .u8 0, .int .u8 0, .int .u8 8, .int .u8 102, .int .u8 114, .int .u8 101, .int .u8 101] 5) := ⟨_, rfl⟩
  rw [← hw]
  have hE : Below w.heap.size w w1 := by rw [hw]; exact below_box _ _
  have hba : BA w1 (.slice (some ⟨w.heap.size, 0, none⟩) 8 8) 8 f8 := by
    refine BA.mk (Nat.le_refl _) (fun i hi => ?_) (fun i hi => ?_)
    · rw [hw]
      rcases (show i = 0 ∨ i = 1 ∨ i = 2 ∨ i = 3 ∨ i = 4 ∨ i = 5 ∨ i = 6 ∨ i = 7 by omega) with rfl | rfl | rfl | rfl | rfl | rfl | rfl | rfl <;> simp [go_sem, f8]
    · rcases (show i = 0 ∨ i = 1 ∨ i = 2 ∨ i = 3 ∨ i = 4 ∨ i = 5 ∨ i = 6 ∨ i = 7 by omega) with rfl | rfl | rfl | rfl | rfl | rfl | rfl | rfl <;> simp [f8]
  clear hw
  refine (boxes_any _ 8 _ 0 8 w1 hba (by omega)).mono ?_
  rintro e w2 ⟨v, c, rfl, hb, hres⟩
  rw [if_neg (by decide)] at hres
  obtain ⟨k, hwk, hng, hc, _, ho⟩ := hres
  have hk : k = 1 := by
    refine hwk.unique (fun j hj => ?_) hng ?_
    · obtain rfl : j = 0 := by omega
      exact ⟨by decide, by decide +kernel, by decide +kernel⟩
    · intro h
      exact absurd h.1 (by decide +kernel)
  subst hk
  have hc0 : c = 0 := by rw [hc]; decide +kernel
  subst hc0
  have ho' := ho rfl
  obtain ⟨g, cp, rfl, hcp, hcell⟩ := owns_open ho' (by omega)
  have x0 : w2.cell? ⟨g, 0, none⟩ = some (.string { data := #[102, 114, 101, 101] }) := hcell 0 _ rfl
  have x3 : w2.cell? ⟨g, 3, none⟩ = some (.int .i64 8) := by
    have h3 := hcell 3 (.int .i64 (((pos f8 0 0 : Nat) : Int) + numI f8 (pos f8 0 0))) rfl
    rw [show ((pos f8 0 0 : Nat) : Int) + numI f8 (pos f8 0 0) = 8 from by decide +kernel] at h3
    exact h3
  have HB := Lib.hid (hE.trans (hb.mono hE.size))
  clear hwk hng hc ho ho' hcell hb hba hE
  go_wp2_with fail
  refine (take_nil w2).mono ?_
  rintro e w3 ⟨rfl, hb⟩
  have y0 := (hb.cell (block_lt_of_cell x0)).trans x0
  have y3 := (hb.cell (block_lt_of_cell x3)).trans x3
  replace HB := Lib.hid (HB.out.trans (hb.mono HB.out.size))
  have lg := block_lt_of_cell y0
  clear x0 x3 hb
  go_wp2_with fail
  go_ret
  have hB := HB.out
  exact ⟨ret_bool (by simp), by go_grown; exact HB.out.size⟩


end Go.Proofs.Ytkhjkemllgjfmaa
