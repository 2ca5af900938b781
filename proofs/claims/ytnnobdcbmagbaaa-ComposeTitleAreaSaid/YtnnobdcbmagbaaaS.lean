/- A copy of bytes by append to a fresh empty slice, in any order of the region. -/
import Derived.Test.YtnnobdcbmagbaaaQ
namespace Go.Proofs.Ytnnobdcbmagbaaa
open Go.RowKit

theorem wpList_clone2 (w : World) {ops : Array Oper} {rest : List Oper} {o : Oper} {a : Act} {Q : Exit → Act → World → Prop} (hgd : o.guard = none) (s x : Operand)
    (ho : o.op = .call { callee := .builtin .append, args := #[s, x], argTypes := #[24, 24] }) (e b off n c : Nat) (F : Nat → Int) (hs : a.eval s = .slice (some ⟨e, 0, none⟩) 0 0)
    (hx : a.eval x = .slice (some ⟨b, off, none⟩) n c) (hX : ∀ i, i < n → w.cell? ⟨b, off + i, none⟩ = some (.int .u8 (F i))) (hn : n ≤ 1048576) (hn0 : 0 < n)
    (h : ∀ g c' w', Row w' w.heap.size g n c' F → Plan.Ext w w' → wpList Try.prog ops Q rest (a.put o.dst (.slice (some ⟨g, 0, none⟩) n c')) w') : wpList Try.prog ops Q (o :: rest) a w := by
  obtain ⟨i0, hi, hz0, hz1, hz2⟩ := info_parts info5
  have hlen : ((List.range n).map fun i => Value.int .u8 (F i)).length = n * i0.size := by rw [hz1]; simp
  have hnews : ∀ j u, ((List.range n).map fun i => Value.int .u8 (F i))[j]? = some u → w.cell? ((⟨b, off, none⟩ : Addr).add j) = some u := fun j u hj => by
    have hjn : j < n := by
      have := (List.getElem?_eq_some_iff.1 hj).1
      simpa using this
    rw [List.getElem?_map, List.getElem?_range hjn] at hj
    simp only [Option.map_some, Option.some.injEq] at hj
    rw [Addr.add_lit, hX j hjn, hj]
  have r1 := run_append_nil (P := Try.prog) w 24 o.type 5 i0 (.int .u8 0) Try.underlying24 hi hz0 ⟨b, off, none⟩ n c _ hlen hnews hn0 (by omega) (by rw [hz2]; omega)
  have r2 := run_append_grow (P := Try.prog) w 24 o.type 5 i0 (.int .u8 0) Try.underlying24 hi hz0 ⟨e, 0, none⟩ 0 0 [] (by simp) (fun j v h => by simp at h) ⟨b, off, none⟩ n c _ hlen hnews (by omega) (by omega) (by rw [Nat.zero_add, nextslicecap_zero hn0, hz2]; omega)
  simp only [Nat.zero_add, Array.empty_append] at r2
  refine wpList_plain hgd fun K hK' => ?_
  obtain ⟨v', w', hr, hown', hg, hnil⟩ := run_append_own (P := Try.prog) w w.heap.size 24 o.type 5 i0 (.int .u8 0) 1 1 Try.underlying24 hi hz0 hz1 hz2 rfl (by decide) (.slice none 0 0) 0 [] ⟨rfl, .inl ⟨rfl, rfl⟩⟩ ⟨b, off, none⟩ n c ((List.range n).map fun i => .int .u8 (F i)) (by simp) hnews (fun u hu => by obtain ⟨i, _, rfl⟩ := List.mem_map.1 hu; rfl) (by unfold maxLen; omega) (by omega) (Nat.le_refl _)
  replace hr := r2.trans (r1.symm.trans hr)
  simp only [Nat.zero_add, List.nil_append] at hown'
  have hex : ∃ g cap, v' = .slice (some ⟨g, 0, none⟩) n cap := by
    rcases hown'.2 with ⟨rfl, hn0'⟩ | ⟨g, cap, cur, rfl, _⟩
    · exfalso; omega
    · exact ⟨g, cap, rfl⟩
  obtain ⟨g, cap, rfl⟩ := hex
  unfold Oper.wp execOp
  simp only [ho, resolve, invoke, builtin, Sem.run_bind, Sem.run_pure, Result.andThen_ok, List.map_toArray, List.map_cons, List.map_nil, hs, hx, hr]
  exact hK' _ _ (h g cap w' hown' ((Below.refl _ _).grown hg (Nat.le_refl _) (fun k h => by cases h)))
end Go.Proofs.Ytnnobdcbmagbaaa
