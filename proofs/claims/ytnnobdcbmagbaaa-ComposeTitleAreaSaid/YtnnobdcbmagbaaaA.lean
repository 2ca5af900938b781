/- Reading predicates for byte planes and frames, and the contracts of the size and share tests of the packages compose, cutroomref26 and cutroomref20. -/
import Derived.Test.YtnnobdcbmagbaaaRows
import Derived.WalkKit
import Derived.WalkSpells
import Derived.WalkLawsBesides
import Derived.Deep.LoopGhost
import Derived.Lib.Hide
import Derived.BigRegion
import Derived.BigQuiet
import Derived.Deep.RegionHeld3
import Derived.Handy
namespace Go.Proofs.Ytnnobdcbmagbaaa
open Go.RowKit

theorem info5 : (Try.prog.info? 5).map (fun i => (i.zero, i.size, i.bytes)) = some (some (.int .u8 0), 1, 1) := by kernel_rfl

/-- v reads in w as a byte slice of n bytes f 0, .., f (n-1). -/
def BA (w : World) (v : Value) (n : Nat) (f : Nat → Int) : Prop :=
  ∃ ao c, v = .slice ao n c ∧ n ≤ c ∧ ∀ i, i < n → (∃ b o, ao = some ⟨b, o, none⟩ ∧ w.cell? ⟨b, o + i, none⟩ = some (.int .u8 (f i))) ∧ 0 ≤ f i ∧ f i < 256

theorem BA.open {w : World} {v : Value} {n : Nat} {f : Nat → Int} (h : BA w v n f) (hn : 0 < n) :
    ∃ b o c, v = .slice (some ⟨b, o, none⟩) n c ∧ n ≤ c ∧ (∀ i, i < n → w.cell? ⟨b, o + i, none⟩ = some (.int .u8 (f i))) ∧ ∀ i, i < n → 0 ≤ f i ∧ f i < 256 := by
  obtain ⟨ao, c, rfl, hc, H⟩ := h
  obtain ⟨⟨b, o, rfl, _⟩, _⟩ := H 0 hn
  refine ⟨b, o, c, rfl, hc, fun i hi => ?_, fun i hi => (H i hi).2⟩
  obtain ⟨⟨b', o', he, hcell⟩, _⟩ := H i hi
  simp only [Option.some.injEq, Addr.mk.injEq, and_true] at he
  obtain ⟨rfl, rfl⟩ := he
  exact hcell

theorem BA.mk {w : World} {b o n c : Nat} {f : Nat → Int} (hc : n ≤ c) (h : ∀ i, i < n → w.cell? ⟨b, o + i, none⟩ = some (.int .u8 (f i))) (hb : ∀ i, i < n → 0 ≤ f i ∧ f i < 256) :
    BA w (.slice (some ⟨b, o, none⟩) n c) n f := ⟨_, _, rfl, hc, fun i hi => ⟨⟨b, o, rfl, h i hi⟩, hb i hi⟩⟩

theorem BA.below {w w' : World} {v : Value} {n : Nat} {f : Nat → Int} (h : BA w v n f) (hb : Below w.heap.size w w') : BA w' v n f := by
  obtain ⟨ao, c, rfl, hc, H⟩ := h
  refine ⟨ao, c, rfl, hc, fun i hi => ?_⟩
  obtain ⟨⟨b, o, he, hcell⟩, h2⟩ := H i hi
  exact ⟨⟨b, o, he, (hb.cell (p := ⟨b, o + i, none⟩) (block_lt_of_cell hcell)).trans hcell⟩, h2⟩

theorem BA.congr {w : World} {v : Value} {n : Nat} {f g : Nat → Int} (h : BA w v n f) (e : ∀ i, i < n → f i = g i) : BA w v n g := by
  obtain ⟨ao, c, rfl, hc, H⟩ := h
  refine ⟨ao, c, rfl, hc, fun i hi => ?_⟩
  rw [← e i hi]
  exact H i hi

theorem BA.bd {w : World} {v : Value} {n : Nat} {f : Nat → Int} (h : BA w v n f) : ∀ i, i < n → 0 ≤ f i ∧ f i < 256 := by
  obtain ⟨ao, c, rfl, hc, H⟩ := h
  exact fun i hi => (H i hi).2

/-- A frame's data. -/
structure Fr where
  W : Int
  H : Int
  nY : Nat
  nU : Nat
  nV : Nat
  Y : Nat → Int
  U : Nat → Int
  V : Nat → Int

/-- v reads in w as the frame F. -/
def FA (w : World) (v : Value) (F : Fr) : Prop := ∃ y u z, v = .agg #[.int .i64 F.W, .int .i64 F.H, y, u, z] ∧ BA w y F.nY F.Y ∧ BA w u F.nU F.U ∧ BA w z F.nV F.V

theorem FA.below {w w' : World} {v : Value} {F : Fr} (h : FA w v F) (hb : Below w.heap.size w w') : FA w' v F := by
  obtain ⟨y, u, z, rfl, h1, h2, h3⟩ := h
  exact ⟨y, u, z, rfl, h1.below hb, h2.below hb, h3.below hb⟩

def okSize (w h : Int) : Bool := decide (16 ≤ w ∧ w ≤ 64 ∧ w % 16 = 0 ∧ 16 ≤ h ∧ h ≤ 64 ∧ h % 16 = 0)
def okShare (num den : Int) : Bool := decide (1 ≤ den ∧ den ≤ 2147483648 ∧ 0 ≤ num ∧ num ≤ den)
def Fr.ok (F : Fr) : Bool := okSize F.W F.H && decide ((F.nY : Int) = F.W * F.H) && decide ((F.nU : Int) = (F.W / 2) * (F.H / 2)) && decide ((F.nV : Int) = (F.W / 2) * (F.H / 2))

theorem ret_bool {a b : Bool} (h : a = b) : Ending.returned (.bool a) = Ending.returned (.bool b) := by rw [h]

set_option maxHeartbeats 400000 in
theorem validSize_any (a b : Int) (w : World) :
    Calls Try.prog 39 #[.int .i64 a, .int .i64 b] w fun e w' => e = .returned (.bool (okSize a b)) ∧ w = w' := by
  go_enter Try.func39, Try.ntmps39
  go_wp2
  all_goals go_ret
  all_goals exact ⟨ret_bool (by unfold okSize; rw [Bool.eq_iff_iff]; simp; try omega), rfl⟩

set_option maxHeartbeats 400000 in
theorem size_any (a b : Int) (w : World) :
    Calls Try.prog 41 #[.int .i64 a, .int .i64 b] w fun e w' => e = .returned (.bool (okSize a b)) ∧ w = w' := by
  go_enter Try.func41, Try.ntmps41
  go_wp2
  all_goals go_ret
  all_goals exact ⟨ret_bool (by unfold okSize; rw [Bool.eq_iff_iff]; simp; try omega), rfl⟩

set_option maxHeartbeats 400000 in
theorem validShare_any (a b : Int) (w : World) :
    Calls Try.prog 47 #[.int .i64 a, .int .i64 b] w fun e w' => e = .returned (.bool (okShare a b)) ∧ w = w' := by
  go_enter Try.func47, Try.ntmps47
  go_wp2
  all_goals go_ret
  all_goals exact ⟨ret_bool (by unfold okShare; rw [Bool.eq_iff_iff]; simp; try omega), rfl⟩

set_option maxHeartbeats 400000 in
theorem ratio_any (a b : Int) (w : World) :
    Calls Try.prog 50 #[.int .i64 a, .int .i64 b] w fun e w' => e = .returned (.bool (okShare a b)) ∧ w = w' := by
  go_enter Try.func50, Try.ntmps50
  go_wp2
  all_goals go_ret
  all_goals exact ⟨ret_bool (by unfold okShare; rw [Bool.eq_iff_iff]; simp; try omega), rfl⟩

theorem okSize_bd {a b : Int} (h : okSize a b = true) : 16 ≤ a ∧ a ≤ 64 ∧ 16 ≤ b ∧ b ≤ 64 ∧ a % 16 = 0 ∧ b % 16 = 0 ∧ 256 ≤ a * b ∧ a * b ≤ 4096 := by
  simp [okSize] at h
  have h1 : 16 * 16 ≤ a * b := Int.mul_le_mul (by omega) (by omega) (by omega) (by omega)
  have h2 : a * b ≤ 64 * 64 := Int.mul_le_mul (by omega) (by omega) (by omega) (by omega)
  exact ⟨h.1, h.2.1, h.2.2.2.1, h.2.2.2.2.1, h.2.2.1, h.2.2.2.2.2, by omega, by omega⟩

end Go.Proofs.Ytnnobdcbmagbaaa
