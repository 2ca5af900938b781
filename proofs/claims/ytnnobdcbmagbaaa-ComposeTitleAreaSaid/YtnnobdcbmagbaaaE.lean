/- The deferred closures of compose where the caller returns; rows that the call made. -/
import Derived.Test.YtnnobdcbmagbaaaC
import Derived.Test.YtnnobdcbmagbaaaPlan
import Derived.Defers
import Derived.Recover
namespace Go.Proofs.Ytnnobdcbmagbaaa
open Go.RowKit

theorem idle45 (p q : Addr) (w : World) : CallsD Try.prog 45 #[.pointer (some p), .pointer (some q)] .returning w fun e u' w' => e = .returned (.tuple #[]) ∧ u' = .returning ∧ w' = w := by
  refine callsD_of_wpS Try.func45 rfl fun c₀ cs hu => ?_
  apply wpS_seq
  apply wpS_region
  simp [wpOpsS, go_sem, recoverD, hu, Try.ntmps45, Exit.thenS]
  refine wpS_cond (t := false) (by simp [Act.eval, Array.replicate]) ?_
  simp only [Bool.false_eq_true, if_false]
  refine wpS_of_wp (wp_skip ?_)
  cases c₀
  simp_all [bodyPostS, results, Try.results45]

theorem idle51 (p q : Addr) (w : World) : CallsD Try.prog 51 #[.pointer (some p), .pointer (some q)] .returning w fun e u' w' => e = .returned (.tuple #[]) ∧ u' = .returning ∧ w' = w := by
  refine callsD_of_wpS Try.func51 rfl fun c₀ cs hu => ?_
  apply wpS_seq
  apply wpS_region
  simp [wpOpsS, go_sem, recoverD, hu, Try.ntmps51, Exit.thenS]
  refine wpS_cond (t := false) (by simp [Act.eval, Array.replicate]) ?_
  simp only [Bool.false_eq_true, if_false]
  refine wpS_of_wp (wp_skip ?_)
  cases c₀
  simp_all [bodyPostS, results, Try.results51]

theorem idle54 (p q : Addr) (w : World) : CallsD Try.prog 54 #[.pointer (some p), .pointer (some q)] .returning w fun e u' w' => e = .returned (.tuple #[]) ∧ u' = .returning ∧ w' = w := by
  refine callsD_of_wpS Try.func54 rfl fun c₀ cs hu => ?_
  apply wpS_seq
  apply wpS_region
  simp [wpOpsS, go_sem, recoverD, hu, Try.ntmps54, Exit.thenS]
  refine wpS_cond (t := false) (by simp [Act.eval, Array.replicate]) ?_
  simp only [Bool.false_eq_true, if_false]
  refine wpS_of_wp (wp_skip ?_)
  cases c₀
  simp_all [bodyPostS, results, Try.results54]

theorem idle56 (p q : Addr) (w : World) : CallsD Try.prog 56 #[.pointer (some p), .pointer (some q)] .returning w fun e u' w' => e = .returned (.tuple #[]) ∧ u' = .returning ∧ w' = w := by
  refine callsD_of_wpS Try.func56 rfl fun c₀ cs hu => ?_
  apply wpS_seq
  apply wpS_region
  simp [wpOpsS, go_sem, recoverD, hu, Try.ntmps56, Exit.thenS]
  refine wpS_cond (t := false) (by simp [Act.eval, Array.replicate]) ?_
  simp only [Bool.false_eq_true, if_false]
  refine wpS_of_wp (wp_skip ?_)
  cases c₀
  simp_all [bodyPostS, results, Try.results56]

theorem idle62 (p q : Addr) (w : World) : CallsD Try.prog 62 #[.pointer (some p), .pointer (some q)] .returning w fun e u' w' => e = .returned (.tuple #[]) ∧ u' = .returning ∧ w' = w := by
  refine callsD_of_wpS Try.func62 rfl fun c₀ cs hu => ?_
  apply wpS_seq
  apply wpS_region
  simp [wpOpsS, go_sem, recoverD, hu, Try.ntmps62, Exit.thenS]
  refine wpS_cond (t := false) (by simp [Act.eval, Array.replicate]) ?_
  simp only [Bool.false_eq_true, if_false]
  refine wpS_of_wp (wp_skip ?_)
  cases c₀
  simp_all [bodyPostS, results, Try.results62]

/-! Rows of bytes that the call made: the row's cells as a function. -/
def Row (w : World) (B : Nat) (g n c : Nat) (F : Nat → Int) : Prop := w.ownsRow B 5 1 (.slice (some ⟨g, 0, none⟩) n c) n ((List.range n).map fun i => .int .u8 (F i))

theorem Row.cell {w : World} {B g n c : Nat} {F : Nat → Int} (h : Row w B g n c F) (k : Nat) (hk : k < n) : w.cell? ⟨g, k, none⟩ = some (.int .u8 (F k)) := by
  rw [World.ownsRow.cellAt h k (by omega), List.getElem?_map, List.getElem?_range hk]; rfl

theorem Row.store {w : World} {B g n c : Nat} {F F' : Nat → Int} (h : Row w B g n c F) (k : Nat) {u : Int} (hu : F' k = u) (ho : ∀ i, i < n → i ≠ k → F' i = F i) :
    Row (w.setCell ⟨g, k, none⟩ (.int .u8 u)) B g n c F' := by
  have h1 := (World.ownsRow.stored h k (.int .u8 u)).1
  have e : ((List.range n).map fun i => Value.int .u8 (F i)).set k (.int .u8 u) = (List.range n).map fun i => Value.int .u8 (F' i) := by
    apply List.ext_getElem?
    intro i
    by_cases hi : i < n
    · by_cases hik : i = k
      · subst hik; simp [hi, hu]
      · simp [Ne.symm hik, hi, ho i hi hik]
    · simp [hi]
  rw [e] at h1
  exact h1

theorem Row.of_made {w : World} {B g n c : Nat} (h : w.ownsRow B 5 1 (.slice (some ⟨g, 0, none⟩) n c) n (madeCells #[.int .u8 0] n).toList) : Row w B g n c (fun _ => 0) := by
  rw [toList_madeCells_one] at h
  have e : List.replicate n (Value.int .u8 0) = (List.range n).map fun _ => Value.int .u8 0 := by
    apply List.ext_getElem?
    intro i
    by_cases hi : i < n <;> simp [hi]
  rw [e] at h
  exact h

theorem Row.congr {w : World} {B g n c : Nat} {F F' : Nat → Int} (h : Row w B g n c F) (e : ∀ i, i < n → F i = F' i) : Row w B g n c F' := by
  have : ((List.range n).map fun i => Value.int .u8 (F i)) = (List.range n).map fun i => Value.int .u8 (F' i) :=
    List.map_congr_left fun i hi => by rw [e i (List.mem_range.1 hi)]
  unfold Row at *
  rw [← this]
  exact h

theorem Row.le {w : World} {B g n c : Nat} {F : Nat → Int} (h : Row w B g n c F) : B ≤ g ∧ g < w.heap.size ∧ n ≤ c := by
  have h1 := World.ownsRow.lt h g rfl
  rcases h.2 with ⟨h', _⟩ | ⟨g', cap', cur, h', _, _, hnc, _⟩
  · simp at h'
  · simp only [Value.slice.injEq, Option.some.injEq, Addr.mk.injEq, and_true, true_and] at h'
    exact ⟨h1.1, h1.2, by omega⟩

theorem Row.BA {w : World} {B g n c : Nat} {F : Nat → Int} (h : Row w B g n c F) (hb : ∀ i, i < n → 0 ≤ F i ∧ F i < 256) : BA w (.slice (some ⟨g, 0, none⟩) n c) n F :=
  BA.mk h.le.2.2 (fun i hi => by simpa using h.cell i hi) hb

theorem Row.below {w w' : World} {B g n c : Nat} {F : Nat → Int} (h : Row w B g n c F) (hb : Below w.heap.size w w') : Row w' B g n c F := by
  have hl := h.le
  refine ⟨h.1, ?_⟩
  rcases h.2 with ⟨h', _⟩ | ⟨g', cap', cur, h', h1, h2, h3⟩
  · simp at h'
  · simp only [Value.slice.injEq, Option.some.injEq, Addr.mk.injEq, and_true, true_and] at h'
    obtain ⟨rfl, rfl⟩ := h'
    exact .inr ⟨g, c, cur, rfl, h1, by rw [hb.block g hl.2.1]; exact h2, h3⟩

theorem Row.mono {w : World} {B B' g n c : Nat} {F : Nat → Int} (h : Row w B g n c F) (hB : B' ≤ B) : Row w B' g n c F := by
  refine ⟨h.1, ?_⟩
  rcases h.2 with h' | ⟨g', cap', cur, h', h1, h2⟩
  · exact .inl h'
  · exact .inr ⟨g', cap', cur, h', Nat.le_trans hB h1, h2⟩

theorem Row.far {w : World} {B g n c : Nat} {F : Nat → Int} (h : Row w B g n c F) {p : Addr} (hp : p.block ≠ g) (u : Value) : Row (w.setCell p u) B g n c F := by
  refine ⟨h.1, ?_⟩
  rcases h.2 with ⟨h', _⟩ | ⟨g', cap', cur, h', h1, h2, h3⟩
  · simp at h'
  · simp only [Value.slice.injEq, Option.some.injEq, Addr.mk.injEq, and_true, true_and] at h'
    obtain ⟨rfl, rfl⟩ := h'
    exact .inr ⟨g, c, cur, rfl, h1, by rw [Below.heap_setCell _ _ _ _ (Ne.symm hp)]; exact h2, h3⟩

end Go.Proofs.Ytnnobdcbmagbaaa
