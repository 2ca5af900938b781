/- A copy of bytes by append; the contracts of Wipe's place and cover. -/
import Derived.Test.YtnnobdcbmagbaaaG
namespace Go.Proofs.Ytnnobdcbmagbaaa
open Go.RowKit

/-- 'append([]byte{}, x...)': the empty slice lies at block e. -/
theorem wpList_clone (w : World) {ops : Array Oper} {rest : List Oper} {o : Oper} {a : Act} {Q : Exit → Act → World → Prop} (hgd : o.guard = none) (s x : Operand)
    (ho : o.op = .call { callee := .builtin .append, args := #[s, x], argTypes := #[24, 24] }) (B e b off n c : Nat) (F : Nat → Int) (hs : a.eval s = .slice (some ⟨e, 0, none⟩) 0 0)
    (he : w.heap[e]? = some (.cells #[] 5 (0, 0))) (hB : B ≤ e) (hx : a.eval x = .slice (some ⟨b, off, none⟩) n c) (hX : ∀ i, i < n → w.cell? ⟨b, off + i, none⟩ = some (.int .u8 (F i))) (hn : n ≤ 1048576)
    (h : ∀ g c' w', Row w' B g n c' F → w.grownBy w' (some e) → wpList Try.prog ops Q rest (a.put o.dst (.slice (some ⟨g, 0, none⟩) n c')) w') : wpList Try.prog ops Q (o :: rest) a w := by
  obtain ⟨i0, hi, hz0, hz1, hz2⟩ := info_parts info5
  have hlt : e < w.heap.size := (Array.getElem?_eq_some_iff.1 he).1
  have hown : w.ownsRow B 5 1 (.slice (some ⟨e, 0, none⟩) 0 0) 0 [] := ⟨rfl, .inr ⟨e, 0, #[], rfl, hB, he, Nat.le_refl _, by unfold maxLen; omega, rfl, rfl⟩⟩
  refine wpList_append_own _ hgd s x 24 ho B 5 i0 (.int .u8 0) 1 1 Try.underlying24 hi hz0 hz1 hz2 rfl (by decide) _ 0 [] hs hown ⟨b, off, none⟩ n c ((List.range n).map fun i => .int .u8 (F i)) hx (by simp) (fun j u hj => ?_) (fun u hu => ?_) (by unfold maxLen; omega) (by omega) (by omega) ?_
  · have hjn : j < n := by
      have := (List.getElem?_eq_some_iff.1 hj).1
      simpa using this
    rw [List.getElem?_map, List.getElem?_range hjn] at hj
    simp only [Option.map_some, Option.some.injEq] at hj
    rw [Addr.add_lit, hX j hjn, hj]
  · obtain ⟨i, _, rfl⟩ := List.mem_map.1 hu
    rfl
  · intro v' w' hown' hg hnil
    simp only [Nat.zero_add, List.nil_append] at hown'
    have hex : ∃ g cap, v' = .slice (some ⟨g, 0, none⟩) n cap := by
      rcases hown'.2 with ⟨rfl, hn0⟩ | ⟨g, cap, cur, rfl, _⟩
      · exfalso
        have := hnil.1 rfl
        simp at this
      · exact ⟨g, cap, rfl⟩
    obtain ⟨g, cap, rfl⟩ := hex
    exact h g cap w' hown' hg

def placeF (x y w h d : Int) : Int × Int := if d = 0 then (x, w) else if d = 1 then (w - 1 - x, w) else if d = 2 then (y, h) else (h - 1 - y, h)

theorem ret_pair {a b c d : Int} (h : (a, b) = (c, d)) : Ending.returned (.tuple #[.int .i64 a, .int .i64 b]) = Ending.returned (.tuple #[.int .i64 c, .int .i64 d]) := by cases h; rfl

set_option maxHeartbeats 400000 in
theorem place_any (x y ww hh d : Int) (w : World) (hx : 0 ≤ x) (hx2 : x < 64) (hy : 0 ≤ y) (hy2 : y < 64) (hw : 1 ≤ ww) (hw2 : ww ≤ 64) (hh1 : 1 ≤ hh) (hh2 : hh ≤ 64) :
    Calls Try.prog 53 #[.int .i64 x, .int .i64 y, .int .i64 ww, .int .i64 hh, .int .i64 d] w fun e w' => e = .returned (.tuple #[.int .i64 (placeF x y ww hh d).1, .int .i64 (placeF x y ww hh d).2]) ∧ w = w' := by
  by_cases h0 : d = 0
  · subst h0
    go_enter Try.func53, Try.ntmps53
    go_wp2
    go_ret2
    exact ⟨rfl, rfl⟩
  by_cases h1 : d = 1
  · subst h1
    go_enter Try.func53, Try.ntmps53
    go_wp2
    go_ret2
    exact ⟨rfl, rfl⟩
  by_cases h2 : d = 2
  · subst h2
    go_enter Try.func53, Try.ntmps53
    go_wp2
    go_ret2
    exact ⟨rfl, rfl⟩
  have e0 : (d == 0) = false := by simpa using h0
  have e1 : (d == 1) = false := by simpa using h1
  have e2 : (d == 2) = false := by simpa using h2
  have HF := Lib.hid (show placeF x y ww hh d = (hh - 1 - y, hh) by simp [placeF, h0, h1, h2])
  clear h0 h1 h2
  go_enter Try.func53, Try.ntmps53
  go_wp2
  go_ret2
  exact ⟨by rw [HF.out]; rfl, rfl⟩

end Go.Proofs.Ytnnobdcbmagbaaa
