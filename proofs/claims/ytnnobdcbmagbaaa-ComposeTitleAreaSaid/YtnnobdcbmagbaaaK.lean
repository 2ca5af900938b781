/- The contract of cutroomref20.Same. -/
import Derived.Test.YtnnobdcbmagbaaaE
namespace Go.Proofs.Ytnnobdcbmagbaaa
open Go.RowKit

def bstr (n : Nat) (f : Nat → Int) : ByteArray := strOfNums ((List.range n).map f)
def eqB (n : Nat) (f : Nat → Int) (m : Nat) (g : Nat → Int) : Bool := (bstr n f).toList == (bstr m g).toList
def frSame (F G : Fr) : Bool := F.W == G.W && F.H == G.H && eqB F.nY F.Y G.nY G.Y && eqB F.nU F.U G.nU G.U && eqB F.nV F.V G.nV G.V

theorem BA.convert {w : World} {v : Value} {n : Nat} {f : Nat → Int} (h : BA w v n f) : (convert 24 9 v).run Try.prog w = .ok (.string (bstr n f)) w := by
  by_cases hn : 0 < n
  · obtain ⟨b, o, c, rfl, _, hc, _⟩ := h.open hn
    exact run_convert_bytes_arg w 24 5 Try.underlying24 Try.underlying5 b o n c ((List.range n).map f) (by simp) (fun i hi => by rw [hc i hi]; simp [List.getD, hi]) 9 Try.underlying9
  · obtain rfl : n = 0 := by omega
    obtain ⟨ao, c, rfl, _, _⟩ := h
    have e : bstr 0 f = ByteArray.empty := rfl
    rw [e, run_convert_bytes_string w 24 9 5 ao 0 c Try.underlying24 Try.underlying5 Try.underlying9]
    cases ao <;> simp [Conv.bytesToString, loadCells, loadCellsFrom]

theorem below_box2 (w : World) (o1 o2 : Obj) : Below w.heap.size w ((w.alloc o1).alloc o2) := by go_grown

set_option maxHeartbeats 1000000 in
theorem same_w (y u z y' u' z' : Value) (F G : Fr) (w : World) (hv : FA w (.agg #[.int .i64 F.W, .int .i64 F.H, y, u, z]) F) (hu : FA w (.agg #[.int .i64 G.W, .int .i64 G.H, y', u', z']) G) (t0 : (F.W == G.W) = false) :
    Calls Try.prog 19 #[.agg #[.int .i64 F.W, .int .i64 F.H, y, u, z], .agg #[.int .i64 G.W, .int .i64 G.H, y', u', z']] w fun e w' => e = .returned (.bool false) ∧ (w.alloc (.cells #[.int .i64 F.W, .int .i64 F.H, y, u, z] 26)).alloc (.cells #[.int .i64 G.W, .int .i64 G.H, y', u', z'] 26) = w' := by
  obtain ⟨_, _, _, e, hy, hu1, hz⟩ := hv.below (below_box2 w (.cells #[.int .i64 F.W, .int .i64 F.H, y, u, z] 26) (.cells #[.int .i64 G.W, .int .i64 G.H, y', u', z'] 26))
  obtain ⟨_, _, _, e', hy', hu', hz'⟩ := hu.below (below_box2 w (.cells #[.int .i64 F.W, .int .i64 F.H, y, u, z] 26) (.cells #[.int .i64 G.W, .int .i64 G.H, y', u', z'] 26))
  simp only [Value.agg.injEq, Array.mk.injEq, List.cons.injEq, and_true, true_and] at e e'
  obtain ⟨rfl, rfl, rfl⟩ := e
  obtain ⟨rfl, rfl, rfl⟩ := e'
  have c1 := hy.convert
  have c2 := hu1.convert
  have c3 := hz.convert
  have c4 := hy'.convert
  have c5 := hu'.convert
  have c6 := hz'.convert
  clear hv hu hy hu1 hz hy' hu' hz'
  go_enter Try.func19, Try.ntmps19
  go_wp2
  go_ret
  exact ⟨rfl, rfl⟩

set_option maxHeartbeats 1000000 in
theorem same_h (y u z y' u' z' : Value) (F G : Fr) (w : World) (hv : FA w (.agg #[.int .i64 F.W, .int .i64 F.H, y, u, z]) F) (hu : FA w (.agg #[.int .i64 G.W, .int .i64 G.H, y', u', z']) G) (t0 : (F.W == G.W) = true) (t1 : (F.H == G.H) = false) :
    Calls Try.prog 19 #[.agg #[.int .i64 F.W, .int .i64 F.H, y, u, z], .agg #[.int .i64 G.W, .int .i64 G.H, y', u', z']] w fun e w' => e = .returned (.bool false) ∧ (w.alloc (.cells #[.int .i64 F.W, .int .i64 F.H, y, u, z] 26)).alloc (.cells #[.int .i64 G.W, .int .i64 G.H, y', u', z'] 26) = w' := by
  obtain ⟨_, _, _, e, hy, hu1, hz⟩ := hv.below (below_box2 w (.cells #[.int .i64 F.W, .int .i64 F.H, y, u, z] 26) (.cells #[.int .i64 G.W, .int .i64 G.H, y', u', z'] 26))
  obtain ⟨_, _, _, e', hy', hu', hz'⟩ := hu.below (below_box2 w (.cells #[.int .i64 F.W, .int .i64 F.H, y, u, z] 26) (.cells #[.int .i64 G.W, .int .i64 G.H, y', u', z'] 26))
  simp only [Value.agg.injEq, Array.mk.injEq, List.cons.injEq, and_true, true_and] at e e'
  obtain ⟨rfl, rfl, rfl⟩ := e
  obtain ⟨rfl, rfl, rfl⟩ := e'
  have c1 := hy.convert
  have c2 := hu1.convert
  have c3 := hz.convert
  have c4 := hy'.convert
  have c5 := hu'.convert
  have c6 := hz'.convert
  clear hv hu hy hu1 hz hy' hu' hz'
  go_enter Try.func19, Try.ntmps19
  go_wp2
  go_ret
  exact ⟨rfl, rfl⟩

set_option maxHeartbeats 1000000 in
theorem same_y (y u z y' u' z' : Value) (F G : Fr) (w : World) (hv : FA w (.agg #[.int .i64 F.W, .int .i64 F.H, y, u, z]) F) (hu : FA w (.agg #[.int .i64 G.W, .int .i64 G.H, y', u', z']) G) (t0 : (F.W == G.W) = true) (t1 : (F.H == G.H) = true) (t2 : ((bstr F.nY F.Y).toList == (bstr G.nY G.Y).toList) = false) :
    Calls Try.prog 19 #[.agg #[.int .i64 F.W, .int .i64 F.H, y, u, z], .agg #[.int .i64 G.W, .int .i64 G.H, y', u', z']] w fun e w' => e = .returned (.bool false) ∧ (w.alloc (.cells #[.int .i64 F.W, .int .i64 F.H, y, u, z] 26)).alloc (.cells #[.int .i64 G.W, .int .i64 G.H, y', u', z'] 26) = w' := by
  obtain ⟨_, _, _, e, hy, hu1, hz⟩ := hv.below (below_box2 w (.cells #[.int .i64 F.W, .int .i64 F.H, y, u, z] 26) (.cells #[.int .i64 G.W, .int .i64 G.H, y', u', z'] 26))
  obtain ⟨_, _, _, e', hy', hu', hz'⟩ := hu.below (below_box2 w (.cells #[.int .i64 F.W, .int .i64 F.H, y, u, z] 26) (.cells #[.int .i64 G.W, .int .i64 G.H, y', u', z'] 26))
  simp only [Value.agg.injEq, Array.mk.injEq, List.cons.injEq, and_true, true_and] at e e'
  obtain ⟨rfl, rfl, rfl⟩ := e
  obtain ⟨rfl, rfl, rfl⟩ := e'
  have c1 := hy.convert
  have c2 := hu1.convert
  have c3 := hz.convert
  have c4 := hy'.convert
  have c5 := hu'.convert
  have c6 := hz'.convert
  clear hv hu hy hu1 hz hy' hu' hz'
  go_enter Try.func19, Try.ntmps19
  go_wp2
  go_ret
  exact ⟨rfl, rfl⟩

set_option maxHeartbeats 1000000 in
theorem same_u (y u z y' u' z' : Value) (F G : Fr) (w : World) (hv : FA w (.agg #[.int .i64 F.W, .int .i64 F.H, y, u, z]) F) (hu : FA w (.agg #[.int .i64 G.W, .int .i64 G.H, y', u', z']) G) (t0 : (F.W == G.W) = true) (t1 : (F.H == G.H) = true) (t2 : ((bstr F.nY F.Y).toList == (bstr G.nY G.Y).toList) = true) (t3 : ((bstr F.nU F.U).toList == (bstr G.nU G.U).toList) = false) :
    Calls Try.prog 19 #[.agg #[.int .i64 F.W, .int .i64 F.H, y, u, z], .agg #[.int .i64 G.W, .int .i64 G.H, y', u', z']] w fun e w' => e = .returned (.bool false) ∧ (w.alloc (.cells #[.int .i64 F.W, .int .i64 F.H, y, u, z] 26)).alloc (.cells #[.int .i64 G.W, .int .i64 G.H, y', u', z'] 26) = w' := by
  obtain ⟨_, _, _, e, hy, hu1, hz⟩ := hv.below (below_box2 w (.cells #[.int .i64 F.W, .int .i64 F.H, y, u, z] 26) (.cells #[.int .i64 G.W, .int .i64 G.H, y', u', z'] 26))
  obtain ⟨_, _, _, e', hy', hu', hz'⟩ := hu.below (below_box2 w (.cells #[.int .i64 F.W, .int .i64 F.H, y, u, z] 26) (.cells #[.int .i64 G.W, .int .i64 G.H, y', u', z'] 26))
  simp only [Value.agg.injEq, Array.mk.injEq, List.cons.injEq, and_true, true_and] at e e'
  obtain ⟨rfl, rfl, rfl⟩ := e
  obtain ⟨rfl, rfl, rfl⟩ := e'
  have c1 := hy.convert
  have c2 := hu1.convert
  have c3 := hz.convert
  have c4 := hy'.convert
  have c5 := hu'.convert
  have c6 := hz'.convert
  clear hv hu hy hu1 hz hy' hu' hz'
  go_enter Try.func19, Try.ntmps19
  go_wp2
  go_ret
  exact ⟨rfl, rfl⟩

set_option maxHeartbeats 1000000 in
theorem same_v (y u z y' u' z' : Value) (F G : Fr) (w : World) (hv : FA w (.agg #[.int .i64 F.W, .int .i64 F.H, y, u, z]) F) (hu : FA w (.agg #[.int .i64 G.W, .int .i64 G.H, y', u', z']) G) (t0 : (F.W == G.W) = true) (t1 : (F.H == G.H) = true) (t2 : ((bstr F.nY F.Y).toList == (bstr G.nY G.Y).toList) = true) (t3 : ((bstr F.nU F.U).toList == (bstr G.nU G.U).toList) = true) (t4 : ((bstr F.nV F.V).toList == (bstr G.nV G.V).toList) = false) :
    Calls Try.prog 19 #[.agg #[.int .i64 F.W, .int .i64 F.H, y, u, z], .agg #[.int .i64 G.W, .int .i64 G.H, y', u', z']] w fun e w' => e = .returned (.bool false) ∧ (w.alloc (.cells #[.int .i64 F.W, .int .i64 F.H, y, u, z] 26)).alloc (.cells #[.int .i64 G.W, .int .i64 G.H, y', u', z'] 26) = w' := by
  obtain ⟨_, _, _, e, hy, hu1, hz⟩ := hv.below (below_box2 w (.cells #[.int .i64 F.W, .int .i64 F.H, y, u, z] 26) (.cells #[.int .i64 G.W, .int .i64 G.H, y', u', z'] 26))
  obtain ⟨_, _, _, e', hy', hu', hz'⟩ := hu.below (below_box2 w (.cells #[.int .i64 F.W, .int .i64 F.H, y, u, z] 26) (.cells #[.int .i64 G.W, .int .i64 G.H, y', u', z'] 26))
  simp only [Value.agg.injEq, Array.mk.injEq, List.cons.injEq, and_true, true_and] at e e'
  obtain ⟨rfl, rfl, rfl⟩ := e
  obtain ⟨rfl, rfl, rfl⟩ := e'
  have c1 := hy.convert
  have c2 := hu1.convert
  have c3 := hz.convert
  have c4 := hy'.convert
  have c5 := hu'.convert
  have c6 := hz'.convert
  clear hv hu hy hu1 hz hy' hu' hz'
  go_enter Try.func19, Try.ntmps19
  go_wp2
  go_ret
  exact ⟨rfl, rfl⟩

set_option maxHeartbeats 1000000 in
theorem same_all (y u z y' u' z' : Value) (F G : Fr) (w : World) (hv : FA w (.agg #[.int .i64 F.W, .int .i64 F.H, y, u, z]) F) (hu : FA w (.agg #[.int .i64 G.W, .int .i64 G.H, y', u', z']) G) (t0 : (F.W == G.W) = true) (t1 : (F.H == G.H) = true) (t2 : ((bstr F.nY F.Y).toList == (bstr G.nY G.Y).toList) = true) (t3 : ((bstr F.nU F.U).toList == (bstr G.nU G.U).toList) = true) (t4 : ((bstr F.nV F.V).toList == (bstr G.nV G.V).toList) = true) :
    Calls Try.prog 19 #[.agg #[.int .i64 F.W, .int .i64 F.H, y, u, z], .agg #[.int .i64 G.W, .int .i64 G.H, y', u', z']] w fun e w' => e = .returned (.bool true) ∧ (w.alloc (.cells #[.int .i64 F.W, .int .i64 F.H, y, u, z] 26)).alloc (.cells #[.int .i64 G.W, .int .i64 G.H, y', u', z'] 26) = w' := by
  obtain ⟨_, _, _, e, hy, hu1, hz⟩ := hv.below (below_box2 w (.cells #[.int .i64 F.W, .int .i64 F.H, y, u, z] 26) (.cells #[.int .i64 G.W, .int .i64 G.H, y', u', z'] 26))
  obtain ⟨_, _, _, e', hy', hu', hz'⟩ := hu.below (below_box2 w (.cells #[.int .i64 F.W, .int .i64 F.H, y, u, z] 26) (.cells #[.int .i64 G.W, .int .i64 G.H, y', u', z'] 26))
  simp only [Value.agg.injEq, Array.mk.injEq, List.cons.injEq, and_true, true_and] at e e'
  obtain ⟨rfl, rfl, rfl⟩ := e
  obtain ⟨rfl, rfl, rfl⟩ := e'
  have c1 := hy.convert
  have c2 := hu1.convert
  have c3 := hz.convert
  have c4 := hy'.convert
  have c5 := hu'.convert
  have c6 := hz'.convert
  clear hv hu hy hu1 hz hy' hu' hz'
  go_enter Try.func19, Try.ntmps19
  go_wp2
  go_ret
  exact ⟨rfl, rfl⟩


theorem same_any (v u : Value) (F G : Fr) (w : World) (hv : FA w v F) (hu : FA w u G) :
    Calls Try.prog 19 #[v, u] w fun e w' => e = .returned (.bool (frSame F G)) ∧ (w.alloc (.cells v.cells 26)).alloc (.cells u.cells 26) = w' := by
  have hv0 := hv
  have hu0 := hu
  obtain ⟨y, u1, z, rfl, _, _, _⟩ := hv
  obtain ⟨y', u', z', rfl, _, _, _⟩ := hu
  cases t0 : (F.W == G.W)
  · exact (same_w _ _ _ _ _ _ F G w hv0 hu0 t0).mono fun e w' h => ⟨by rw [h.1]; simp [frSame, t0], h.2⟩
  cases t1 : (F.H == G.H)
  · exact (same_h _ _ _ _ _ _ F G w hv0 hu0 t0 t1).mono fun e w' h => ⟨by rw [h.1]; simp [frSame, t1], h.2⟩
  cases t2 : ((bstr F.nY F.Y).toList == (bstr G.nY G.Y).toList)
  · exact (same_y _ _ _ _ _ _ F G w hv0 hu0 t0 t1 t2).mono fun e w' h => ⟨by rw [h.1]; simp [frSame, eqB, t2], h.2⟩
  cases t3 : ((bstr F.nU F.U).toList == (bstr G.nU G.U).toList)
  · exact (same_u _ _ _ _ _ _ F G w hv0 hu0 t0 t1 t2 t3).mono fun e w' h => ⟨by rw [h.1]; simp [frSame, eqB, t3], h.2⟩
  cases t4 : ((bstr F.nV F.V).toList == (bstr G.nV G.V).toList)
  · exact (same_v _ _ _ _ _ _ F G w hv0 hu0 t0 t1 t2 t3 t4).mono fun e w' h => ⟨by rw [h.1]; simp [frSame, eqB, t4], h.2⟩
  · exact (same_all _ _ _ _ _ _ F G w hv0 hu0 t0 t1 t2 t3 t4).mono fun e w' h => ⟨by rw [h.1]; simp [frSame, eqB, t0, t1, t2, t3, t4], h.2⟩

end Go.Proofs.Ytnnobdcbmagbaaa
