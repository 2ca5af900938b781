/- Both Titles: where they refuse, and together. -/
import Derived.Test.YtnnobdcbmagbaaaUF
namespace Go.Proofs.Ytnnobdcbmagbaaa
open Go.RowKit
set_option linter.unusedVariables false

set_option maxRecDepth 100000 in
set_option maxHeartbeats 2000000 in
theorem title_no (v : Value) (F : Fr) (s : ByteArray) (w : World) (hv : FA w v F) (hp : (F.ok && okText s) = false) (hm : s.size ≤ 9223372036854775807) :
    Calls Try.prog 31 #[v, .string s] w fun e w' => e = .returned (.tuple #[zeroV, .int .i64 1]) ∧ Below w.heap.size w w' := by
  have hmf : ∀ (fn : Fn) (first cap : Array Value) (w : World), (Instr.makeFunc fn first cap).run Try.prog w = .ok (.func fn first cap) w := fun _ _ _ _ => rfl
  have hv0 := hv
  obtain ⟨y, u1, z, rfl, _, _, _⟩ := hv
  have B0 : ∀ o1 o2 o3, Below w.heap.size w (((w.alloc o1).alloc o2).alloc o3) := fun _ _ _ => by go_grown
  have HV := Lib.hid hv0
  have HP := Lib.hid hp
  clear hv0 hp
  go_enter_defers Try.func31, Try.ntmps31
  go_wp2_with fail
  refine (valid_b _ F _ ?_).mono ?_
  · exact HV.out.below (by go_grown)
  rintro e w1 ⟨rfl, hb⟩
  have hc := fun (p : Addr) (h : p.block < w.heap.size + 3) => hb.cell (p := p) (by simpa using h)
  have hz := fun (p : Addr) (h : p.block < w.heap.size + 3) => hb.frozen (p := p) (by simpa using h)
  have r0 : w1.cell? ⟨w.heap.size + 1, 0, none⟩ = some (.int .i64 0) := (hc _ (by simp)).trans (by simp [go_sem])
  have r1 : w1.cell? ⟨w.heap.size + 1, 1, none⟩ = some (.int .i64 0) := (hc _ (by simp)).trans (by simp [go_sem])
  have r2 : w1.cell? ⟨w.heap.size + 1, 2, none⟩ = some (.slice none 0 0) := (hc _ (by simp)).trans (by simp [go_sem])
  have r3 : w1.cell? ⟨w.heap.size + 1, 3, none⟩ = some (.slice none 0 0) := (hc _ (by simp)).trans (by simp [go_sem])
  have r4 : w1.cell? ⟨w.heap.size + 1, 4, none⟩ = some (.slice none 0 0) := (hc _ (by simp)).trans (by simp [go_sem])
  have s0 : w1.cell? ⟨w.heap.size + 2, 0, none⟩ = some (.int .i64 0) := (hc _ (by simp)).trans (by simp [go_sem])
  have z4 : ∀ o, w1.frozen? ⟨w.heap.size + 1, o, none⟩ = false := fun o => (hz _ (by simp)).trans (by simp [go_sem])
  have z5 : w1.frozen? ⟨w.heap.size + 2, 0, none⟩ = false := (hz _ (by simp)).trans (by simp [go_sem])
  have hN : w.heap.size + 3 ≤ w1.heap.size := by have := hb.size; simpa using this
  have W1 : Below w.heap.size w w1 := (B0 _ _ _).trans (hb.mono (by simp; omega))
  clear hb hc hz
  cases hpk : F.ok
  · have HK := Lib.hid hpk
    clear hpk
    go_wp2_with fail
    refine leaves_cons (f := 56) (args := #[.pointer (some ⟨w.heap.size + 1, 0, none⟩), .pointer (some ⟨w.heap.size + 1 + 1, 0, none⟩)]) (by simp) (by simp [go_sem]) ?_
    refine (idle56 _ _ _).mono ?_
    rintro e u' w'' ⟨rfl, rfl, rfl⟩
    simp [Leaves, settle, results, Try.results31, go_sem, r0, r1, r2, r3, r4, s0, zeroV]
    go_grown
  · have hs : okText s = false := by have := HP.out; simpa [hpk] using this
    have HK := Lib.hid hpk
    have HS := Lib.hid hs
    clear hpk hs
    go_wp2_with fail
    refine (validText_any s _ hm).mono ?_
    rintro e w2 ⟨rfl, rfl⟩
    rw [HS.out]
    go_wp2_with fail
    refine leaves_cons (f := 56) (args := #[.pointer (some ⟨w.heap.size + 1, 0, none⟩), .pointer (some ⟨w.heap.size + 1 + 1, 0, none⟩)]) (by simp) (by simp [go_sem]) ?_
    refine (idle56 _ _ _).mono ?_
    rintro e u' w'' ⟨rfl, rfl, rfl⟩
    simp [Leaves, settle, results, Try.results31, go_sem, r0, r1, r2, r3, r4, s0, zeroV]
    go_grown

set_option maxRecDepth 100000 in
set_option maxHeartbeats 2000000 in
theorem rtitle_no (v : Value) (F : Fr) (s : ByteArray) (w : World) (hv : FA w v F) (hp : (F.ok && okText s) = false) (hm : s.size ≤ 9223372036854775807) :
    Calls Try.prog 32 #[v, .string s] w fun e w' => e = .returned (.tuple #[zeroV, .int .i64 1]) ∧ Below w.heap.size w w' := by
  have hv0 := hv
  obtain ⟨y, u1, z, rfl, _, _, _⟩ := hv
  have B0 : ∀ o1 o2, Below w.heap.size w ((w.alloc o1).alloc o2) := fun _ _ => by go_grown
  have HV := Lib.hid hv0
  have HP := Lib.hid hp
  clear hv0 hp
  go_enter Try.func32, Try.ntmps32
  go_wp2_with fail
  refine (r20valid_b _ F _ ?_).mono ?_
  · exact HV.out.below (by go_grown)
  rintro e w1 ⟨rfl, hb⟩
  have hc := fun (p : Addr) (h : p.block < w.heap.size + 2) => hb.cell (p := p) (by simpa using h)
  have hz := fun (p : Addr) (h : p.block < w.heap.size + 2) => hb.frozen (p := p) (by simpa using h)
  have r0 : w1.cell? ⟨w.heap.size + 1, 0, none⟩ = some (.int .i64 0) := (hc _ (by simp)).trans (by simp [go_sem])
  have r1 : w1.cell? ⟨w.heap.size + 1, 1, none⟩ = some (.int .i64 0) := (hc _ (by simp)).trans (by simp [go_sem])
  have r2 : w1.cell? ⟨w.heap.size + 1, 2, none⟩ = some (.slice none 0 0) := (hc _ (by simp)).trans (by simp [go_sem])
  have r3 : w1.cell? ⟨w.heap.size + 1, 3, none⟩ = some (.slice none 0 0) := (hc _ (by simp)).trans (by simp [go_sem])
  have r4 : w1.cell? ⟨w.heap.size + 1, 4, none⟩ = some (.slice none 0 0) := (hc _ (by simp)).trans (by simp [go_sem])
  have z4 : ∀ o, w1.frozen? ⟨w.heap.size + 1, o, none⟩ = false := fun o => (hz _ (by simp)).trans (by simp [go_sem])
  have hN : w.heap.size + 2 ≤ w1.heap.size := by have := hb.size; simpa using this
  have W1 : Below w.heap.size w w1 := (B0 _ _).trans (hb.mono (by simp; omega))
  clear hb hc hz
  cases hpk : F.ok
  · have HK := Lib.hid hpk
    clear hpk
    go_wp2_with fail
    refine bodyPost_ret (v := .tuple #[zeroV, .int .i64 1]) (by simp [results, Try.results32, go_sem, r0, r1, r2, r3, r4, zeroV]) rfl ?_
    exact ⟨rfl, by go_grown⟩
  · have hs : okText s = false := by have := HP.out; simpa [hpk] using this
    have HK := Lib.hid hpk
    have HS := Lib.hid hs
    clear hpk hs
    go_wp2_with fail
    refine (validLine_any s _ hm).mono ?_
    rintro e w2 ⟨rfl, rfl⟩
    rw [HS.out]
    go_wp2_with fail
    refine bodyPost_ret (v := .tuple #[zeroV, .int .i64 1]) (by simp [results, Try.results32, go_sem, r0, r1, r2, r3, r4, zeroV]) rfl ?_
    exact ⟨rfl, by go_grown⟩

def titleR (F : Fr) (s : ByteArray) : Fr := if F.ok && okText s then titleFr (titleL F (sB s) s.size) F else Fr.zero
def titleE (F : Fr) (s : ByteArray) : Int := if F.ok && okText s then 0 else 1

theorem title_any (v : Value) (F : Fr) (s : ByteArray) (w : World) (hv : FA w v F) (hm : s.size ≤ 9223372036854775807) :
    Calls Try.prog 31 #[v, .string s] w fun e w' => ∃ r, e = .returned (.tuple #[r, .int .i64 (titleE F s)]) ∧ FA w' r (titleR F s) ∧ Below w.heap.size w w' := by
  cases h : F.ok && okText s
  · refine (title_no v F s w hv h hm).mono ?_
    rintro e w' ⟨rfl, hb⟩
    exact ⟨zeroV, by simp [titleE, h], by simp only [titleR, h]; exact FA.zero _, hb⟩
  · have h' := h
    simp only [Bool.and_eq_true] at h'
    refine (title_yes v F s w hv h'.1 h'.2 hm).mono ?_
    rintro e w' ⟨r, rfl, hf, hb⟩
    exact ⟨r, by simp [titleE, h], by simp only [titleR, h]; exact hf, hb⟩

theorem rtitle_any (v : Value) (F : Fr) (s : ByteArray) (w : World) (hv : FA w v F) (hm : s.size ≤ 9223372036854775807) :
    Calls Try.prog 32 #[v, .string s] w fun e w' => ∃ r, e = .returned (.tuple #[r, .int .i64 (titleE F s)]) ∧ FA w' r (titleR F s) ∧ Below w.heap.size w w' := by
  cases h : F.ok && okText s
  · refine (rtitle_no v F s w hv h hm).mono ?_
    rintro e w' ⟨rfl, hb⟩
    exact ⟨zeroV, by simp [titleE, h], by simp only [titleR, h]; exact FA.zero _, hb⟩
  · have h' := h
    simp only [Bool.and_eq_true] at h'
    refine (rtitle_yes v F s w hv h'.1 h'.2 hm).mono ?_
    rintro e w' ⟨r, rfl, hf, hb⟩
    exact ⟨r, by simp [titleE, h], by simp only [titleR, h]; exact hf, hb⟩

end Go.Proofs.Ytnnobdcbmagbaaa
