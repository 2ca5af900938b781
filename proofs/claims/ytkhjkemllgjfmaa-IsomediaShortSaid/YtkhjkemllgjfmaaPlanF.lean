/- A list of seven contents, at the operation. -/
import Derived.Test.YtkhjkemllgjfmaaPlanE
import Derived.Test.YtkhjkemllgjfmaaYP
namespace Go.Proofs.Ytkhjkemllgjfmaa
open Go.RowKit

theorem info83 : (Try.prog.info? 83).map (fun i => (i.zero, i.size, i.bytes)) = some (some .nilIface, 1, 16) := by kernel_rfl
theorem wpList_seven {w : World} {ops : Array Oper} {rest : List Oper} {o : Oper} {A : Act} {Q : Exit → Act → World → Prop} (hg : o.guard = none) (x0 x1 x2 x3 x4 x5 x6 : Operand)
    (hop : o.op = .buildSlice 105 7 #[(0, x0), (1, x1), (2, x2), (3, x3), (4, x4), (5, x5), (6, x6)]) (t0 t1 t2 t3 t4 t5 t6 : TypeId) (v0 v1 v2 v3 v4 v5 v6 : Value)
    (e0 : A.eval x0 = .iface t0 v0) (e1 : A.eval x1 = .iface t1 v1) (e2 : A.eval x2 = .iface t2 v2) (e3 : A.eval x3 = .iface t3 v3) (e4 : A.eval x4 = .iface t4 v4) (e5 : A.eval x5 = .iface t5 v5) (e6 : A.eval x6 = .iface t6 v6)
    (h : wpList Try.prog ops Q rest (A.put o.dst (.slice (some ⟨w.heap.size, 0, none⟩) 7 7)) (w.alloc (.cells #[.iface t0 v0, .iface t1 v1, .iface t2 v2, .iface t3 v3, .iface t4 v4, .iface t5 v5, .iface t6 v6] 83))) : wpList Try.prog ops Q (o :: rest) A w := by
  obtain ⟨i0, hi, hz0, hz1, hz2⟩ := info_parts info83
  refine wpList_buildSlice hg 105 83 7 _ hop _ i0 .nilIface Try.underlying105 hi hz0 (by rw [hz1]; decide) (by rw [hz1]; decide) ?_ h
  rw [hz1]
  simp only [List.map_toArray, List.map_cons, List.map_nil, e0, e1, e2, e3, e4, e5, e6]
  simp [Instr.fill, Value.cells]
  have hz : (Array.map (fun x => [Value.nilIface][x % 1]?.getD default) (Array.range 7)) = #[.nilIface, .nilIface, .nilIface, .nilIface, .nilIface, .nilIface, .nilIface] := by kernel_rfl
  rw [hz]
  rfl
end Go.Proofs.Ytkhjkemllgjfmaa
