/- A row that grows while all else stays: the contracts of the program's appendNumbers, appendMatrix, chunks. -/
import Derived.Test.YtkhjkemllgjfmaaYC
import Derived.Deep.AppendLies
namespace Go.Proofs.Ytkhjkemllgjfmaa
open Go.RowKit
set_option linter.unusedVariables false
set_option linter.unusedSimpArgs false

/-- A row v has become v'; no other block of the old world has changed. -/
structure Adv0 (w w' : World) (v v' : Value) : Prop where
  g : w.grownBy w' v.ownBlock
  o : v'.ownBlock = v.ownBlock ∨ ∃ k, v'.ownBlock = some k ∧ w.heap.size ≤ k
/-- .. and what v held, it holds, at the beginning of v'. -/
structure Adv (w w' : World) (v v' : Value) : Prop extends Adv0 w w' v v' where
  pre : ∀ B L, B ≤ w.heap.size → Own w B v L → Own w' B v L ∧ ∃ X, Own w' B v' (L ++ X)
theorem own_uniq {w : World} {B B' : Nat} {v : Value} {L L' : List Int} (h : Own w B v L) (h' : Own w B' v L') : L = L' := by
  have inj : ∀ {L L' : List Int}, bv L = bv L' → L = L' := by
    intro L L' e
    have := congrArg (List.map fun u : Value => match u with | .int _ n => n | _ => 0) e
    simpa [bv, Function.comp_def] using this
  rcases h.2 with ⟨rfl, h0⟩ | ⟨g, cap, cur, rfl, _, hg, _, _, _, ht⟩
  · rcases h'.2 with ⟨_, h0'⟩ | ⟨g', _, _, e, _⟩
    · rw [List.length_eq_zero_iff.1 h0, List.length_eq_zero_iff.1 h0']
    · simp at e
  · rcases h'.2 with ⟨e, _⟩ | ⟨g', cap', cur', e, _, hg', _, _, _, ht'⟩
    · simp at e
    · simp only [Value.slice.injEq, Option.some.injEq, Addr.mk.injEq, and_true] at e
      obtain ⟨rfl, e2, rfl⟩ := e
      rw [hg] at hg'
      simp only [Option.some.injEq, Obj.cells.injEq, and_true] at hg'
      obtain ⟨rfl, _⟩ := hg'
      rw [e2, ht'] at ht
      exact inj ht.symm
/-- The beginning of a row. -/
theorem own_take {w : World} {B g n n' cap : Nat} {L X : List Int} (hn : n = L.length) (h : Own w B (.slice (some ⟨g, 0, none⟩) n' cap) (L ++ X)) : Own w B (.slice (some ⟨g, 0, none⟩) n cap) L := by
  subst hn
  rcases h.2 with ⟨e, _⟩ | ⟨g', cap', cur, e, hB, hg, hc, hm, hs, ht⟩
  · simp at e
  · simp only [Value.slice.injEq, Option.some.injEq, Addr.mk.injEq, and_true] at e
    obtain ⟨rfl, rfl, rfl⟩ := e
    refine ⟨by simp [bv], .inr ⟨g, cap, cur, rfl, hB, hg, by rw [List.length_append] at hc; omega, hm, hs, ?_⟩⟩
    have h1 : ((cur.toList.take ((L ++ X).length * 1))).take L.length = (bv (L ++ X)).take L.length := by rw [ht]
    have h2 : (bv L ++ bv X).take L.length = bv L := by rw [List.take_append_of_le_length (by simp [bv]), List.take_of_length_le (by simp [bv])]
    rw [List.take_take, Nat.mul_one, Nat.min_eq_left (by rw [List.length_append]; omega), bv_append, h2] at h1
    rw [Nat.mul_one]
    exact h1
theorem own_stay {w w' : World} {B : Nat} {v : Value} {L : List Int} {p : Option Nat} (h : Own w B v L) (hp : ∀ g, v.ownBlock = some g → p ≠ some g) (hg : w.grownBy w' p) : Own w' B v L := by
  obtain ⟨h1, h2⟩ := h
  refine ⟨h1, ?_⟩
  rcases h2 with h2 | ⟨g, cap, cur, rfl, hB, hb, h3⟩
  · exact .inl h2
  · exact .inr ⟨g, cap, cur, rfl, hB, (hg.block g (Array.getElem?_eq_some_iff.1 hb).1 (fun e => hp g rfl e.symm)).trans hb, h3⟩
theorem own_caps {w : World} {B B' g n n' cap cap' : Nat} {L L' : List Int} (h : Own w B (.slice (some ⟨g, 0, none⟩) n cap) L) (h' : Own w B' (.slice (some ⟨g, 0, none⟩) n' cap') L') : cap = cap' := by
  rcases h.2 with ⟨e, _⟩ | ⟨g1, c1, cur, e, _, hg, _, _, hs, _⟩
  · simp at e
  · rcases h'.2 with ⟨e', _⟩ | ⟨g2, c2, cur', e', _, hg', _, _, hs', _⟩
    · simp at e'
    · simp only [Value.slice.injEq, Option.some.injEq, Addr.mk.injEq, and_true] at e e'
      obtain ⟨rfl, _, rfl⟩ := e
      obtain ⟨rfl, _, rfl⟩ := e'
      rw [hg] at hg'
      simp only [Option.some.injEq, Obj.cells.injEq, and_true] at hg'
      rw [hg'] at hs
      omega
theorem own_shape2 {w : World} {B : Nat} {v : Value} {L : List Int} (h : Own w B v L) : (v = .slice none 0 0 ∧ L = []) ∨ ∃ g cap, v = .slice (some ⟨g, 0, none⟩) L.length cap ∧ B ≤ g ∧ g < w.heap.size := by
  rcases h.2 with ⟨rfl, h0⟩ | ⟨g, cap, cur, rfl, hB, hg, _⟩
  · exact .inl ⟨rfl, List.length_eq_zero_iff.1 h0⟩
  · exact .inr ⟨g, cap, rfl, hB, (Array.getElem?_eq_some_iff.1 hg).1⟩
theorem own_lower {w : World} {B B' g n cap : Nat} {L : List Int} (h : Own w B (.slice (some ⟨g, 0, none⟩) n cap) L) (hB : B' ≤ g) : Own w B' (.slice (some ⟨g, 0, none⟩) n cap) L := by
  obtain ⟨h1, h2⟩ := h
  refine ⟨h1, ?_⟩
  rcases h2 with h2 | ⟨g', cap', cur, e, _, h3⟩
  · exact .inl h2
  · have e' := e
    simp only [Value.slice.injEq, Option.some.injEq, Addr.mk.injEq, and_true] at e'
    obtain ⟨rfl, _, _⟩ := e'
    exact .inr ⟨g, cap', cur, e, hB, h3⟩
theorem Adv0.refl (w : World) (v : Value) : Adv0 w w v v := ⟨⟨rfl, rfl, rfl, Nat.le_refl _, fun _ _ _ => rfl⟩, .inl rfl⟩
theorem Adv0.trans {w w' w'' : World} {v v' v'' : Value} (h1 : Adv0 w w' v v') (h2 : Adv0 w' w'' v' v'') : Adv0 w w'' v v'' := by
  have hs := h1.g.size
  refine ⟨⟨h2.g.os.trans h1.g.os, h2.g.tape.trans h1.g.tape, h2.g.output.trans h1.g.output, by have := h2.g.size; omega, fun k hk hne => ?_⟩, ?_⟩
  · have e1 := h1.g.block k hk hne
    have e2 := h2.g.block k (by omega) (by
      rcases h1.o with e | ⟨j, e, hj⟩
      · rw [e]; exact hne
      · rw [e]; intro h; cases h; omega)
    rw [e2, e1]
  · rcases h2.o with e | ⟨j, e, hj⟩
    · rcases h1.o with e1 | ⟨j, e1, hj⟩
      · exact .inl (e.trans e1)
      · exact .inr ⟨j, e.trans e1, hj⟩
    · exact .inr ⟨j, e, by omega⟩
/-- A row that keeps its beginning while what has grown out of it is changed behind that. -/
theorem keep_pre {w w1 w2 : World} {B : Nat} {v v' : Value} {L X Y : List Int} (ho : v'.ownBlock = v.ownBlock ∨ ∃ k, v'.ownBlock = some k ∧ w.heap.size ≤ k) (h0 : Own w B v L) (h1 : Own w1 B v L) (h1' : Own w1 B v' (L ++ X)) (hg : w1.grownBy w2 v'.ownBlock) (h2 : Own w2 B v' (L ++ Y)) : Own w2 B v L := by
  rcases own_shape2 h0 with ⟨rfl, rfl⟩ | ⟨g, cap, rfl, hB, hlt⟩
  · exact own_nil _ _
  · rcases ho with e | ⟨k, e, hk⟩
    · rcases own_shape2 h1' with ⟨rfl, _⟩ | ⟨g', cap', rfl, hB', hlt'⟩
      · cases e
      · obtain rfl : g' = g := by simpa [Value.ownBlock] using e
        obtain rfl := own_caps h1 h1'
        exact own_take rfl h2
    · refine own_stay h1 (fun g' hg' => ?_) hg
      rw [e]
      intro h
      cases h
      have : g = k := by simpa [Value.ownBlock] using hg'
      omega
theorem Adv.refl (w : World) (v : Value) : Adv w w v v := ⟨Adv0.refl w v, fun B L _ h => ⟨h, [], by rw [List.append_nil]; exact h⟩⟩
theorem Adv.trans {w w' w'' : World} {v v' v'' : Value} (h1 : Adv w w' v v') (h2 : Adv w' w'' v' v'') : Adv w w'' v v'' := by
  refine ⟨h1.toAdv0.trans h2.toAdv0, fun B L hB h => ?_⟩
  obtain ⟨a1, X, a2⟩ := h1.pre B L hB h
  obtain ⟨b1, Y, b2⟩ := h2.pre B (L ++ X) (Nat.le_trans hB h1.g.size) a2
  refine ⟨keep_pre h1.o h a1 a2 h2.g b1, X ++ Y, by rw [← List.append_assoc]; exact b2⟩
theorem Adv.patch {w w1 w2 : World} {b r : Value} {B : Nat} {L X : List Int} (h : Adv w w1 b r) (h2 : Adv0 w1 w2 r r) (hB : B ≤ w.heap.size) (hb : Own w B b L) (hr : Own w2 B r (L ++ X)) : Adv w w2 b r := by
  refine ⟨h.toAdv0.trans h2, fun B' L' hB' h' => ?_⟩
  obtain rfl := own_uniq hb h'
  obtain ⟨a1, X1, a2⟩ := h.pre B' L hB' h'
  have hr' : Own w2 B' r (L ++ X) := by
    rcases own_shape2 a2 with ⟨rfl, e⟩ | ⟨g, cap, rfl, hg, _⟩
    · rcases own_shape2 hr with ⟨_, e2⟩ | ⟨g, cap, e2, _⟩
      · rw [e2]; exact own_nil _ _
      · simp at e2
    · exact own_lower hr hg
  exact ⟨keep_pre h.o h' a1 a2 h2.g hr', X, hr'⟩
theorem Adv.of_below {w w' : World} {v : Value} (h : Below w.heap.size w w') : Adv w w' v v := ⟨⟨⟨h.os, h.tape, h.output, h.size, fun k hk _ => h.block k hk⟩, .inl rfl⟩, fun B L _ ho => ⟨ho.below h, [], by rw [List.append_nil]; exact ho.below h⟩⟩
/-- The three ways of an append, told apart. -/
theorem adv_of {w w' : World} {B : Nat} {v v' : Value} {L M : List Int} (hown : Own w B v L) (hB : B ≤ w.heap.size) (h2 : Own w' B v' (L ++ M)) (h : (v' = v ∧ Below w.heap.size w w') ∨ (∃ g n cap, v = .slice (some ⟨g, 0, none⟩) L.length cap ∧ v' = .slice (some ⟨g, 0, none⟩) n cap ∧ w.grownBy w' (some g)) ∨ (∃ n cap, v' = .slice (some ⟨w.heap.size, 0, none⟩) n cap ∧ Below w.heap.size w w')) : Adv w w' v v' := by
  rcases h with ⟨rfl, hb⟩ | ⟨g, n, cap, rfl, rfl, hg⟩ | ⟨n, cap, rfl, hb⟩
  · exact Adv.of_below hb
  · refine ⟨⟨hg, .inl rfl⟩, fun B' L' hB' h' => ?_⟩
    obtain rfl := own_uniq hown h'
    have h2' : Own w' B' (.slice (some ⟨g, 0, none⟩) n cap) (L ++ M) := by
      rcases own_shape2 h' with ⟨e, _⟩ | ⟨g', cap', e, hg', _⟩
      · simp at e
      · simp only [Value.slice.injEq, Option.some.injEq, Addr.mk.injEq, and_true] at e
        obtain ⟨rfl, _⟩ := e
        exact own_lower h2 hg'
    exact ⟨own_take rfl h2', M, h2'⟩
  · refine ⟨⟨⟨hb.os, hb.tape, hb.output, hb.size, fun k hk _ => hb.block k hk⟩, .inr ⟨_, rfl, Nat.le_refl _⟩⟩, fun B' L' hB' h' => ?_⟩
    obtain rfl := own_uniq hown h'
    exact ⟨h'.below hb, M, own_lower h2 hB'⟩

theorem run_adv (w : World) (ty : TypeId) (B : Nat) (v vx : Value) (L M : List Int) (hown : Own w B v L) (hM : BL w vx M) (hk : L.length + M.length ≤ 100000000) (hB : B ≤ w.heap.size) :
    ∃ v' w', (Builtin.append_ #[22, 22] ty #[v, vx]).run Try.prog w = .ok v' w' ∧ Own w' B v' (L ++ M) ∧ Adv w w' v v' := by
  obtain ⟨ao, c, rfl, hc, H⟩ := hM
  obtain ⟨i0, hi, hz0, hz1, hz2⟩ := info_parts info5
  by_cases h0 : M = []
  · subst h0
    have hrun : (Builtin.append_ #[22, 22] ty #[v, .slice ao 0 c]).run Try.prog w = .ok v w := by
      rcases hown.2 with ⟨rfl, _⟩ | ⟨g, cap, cur, rfl, _, _, hnc, _⟩ <;> cases ao <;>
        simp [Builtin.append_, run_underlying Try.underlying22, sizeOf, typeInfo, hi, Builtin.lenOf, Builtin.firstCells, storeCells, loadCellsFrom, loadCells, *]
    exact ⟨v, w, hrun, by rw [List.append_nil]; exact hown, Adv.refl _ _⟩
  · obtain ⟨b, off, hst, hn⟩ : ∃ b off, ao = some ⟨b, off, none⟩ ∧ ∀ j u, (bv M)[j]? = some u → w.cell? ((⟨b, off, none⟩ : Addr).add j) = some u := by
      cases M with
      | nil => exact absurd rfl h0
      | cons m M =>
        obtain ⟨b, off, e, _⟩ := H 0 m rfl
        refine ⟨b, off, e, fun j u hj => ?_⟩
        simp only [bv, List.getElem?_map, Option.map_eq_some_iff] at hj
        obtain ⟨z, hz, rfl⟩ := hj
        obtain ⟨b', off', e', hc'⟩ := H j z hz
        rw [e] at e'
        simp only [Option.some.injEq, Addr.mk.injEq, and_true] at e'
        obtain ⟨rfl, rfl⟩ := e'
        rw [Addr.add_lit]
        exact hc'
    subst hst
    have hM0 : 0 < M.length := List.length_pos_iff.2 h0
    have hnl : (bv M).length = M.length * i0.size := by rw [hz1]; simp [bv]
    have hcat : (L ++ M).length = L.length + M.length := List.length_append
    rcases hown.2 with ⟨rfl, hl0⟩ | ⟨g, cap, cur, rfl, hbg, hg, hnc, hcm, hcs, htake⟩
    · obtain rfl := List.length_eq_zero_iff.1 hl0
      have hr := run_append_nil (P := Try.prog) w 22 ty 5 i0 (.int .u8 0) Try.underlying22 hi hz0 ⟨b, off, none⟩ M.length c (bv M) hnl hn hM0 (by omega) (by rw [hz2]; have := nextslicecap_zero hM0; omega)
      have hb : Below w.heap.size w (w.drew.alloc (.cells ((bv M).toArray ++ Builtin.zeroCells (Value.int .u8 0).cells (grownCap w M.length 0 5 - M.length)) 5)) := ((Below.refl _ w).drew).alloc (by simp) _
      have hcap : M.length ≤ grownCap w M.length 0 5 := grownCap_ge w M.length 0 5
      have h2 : Own (w.drew.alloc (.cells ((bv M).toArray ++ Builtin.zeroCells (Value.int .u8 0).cells (grownCap w M.length 0 5 - M.length)) 5)) B (.slice (some ⟨w.heap.size, 0, none⟩) M.length (grownCap w M.length 0 5)) ([] ++ M) := by
        refine ⟨by simp [bv], .inr ⟨w.heap.size, grownCap w M.length 0 5, _, by simp, hB, (MapKept.heap_alloc w.drew _).1, by simpa using hcap, grownCap_le_maxLen w M.length 0 5 (by unfold maxLen; omega), ?_, ?_⟩⟩
        · simp [bv, Builtin.zeroCells, Value.cells]
          omega
        · simp only [List.nil_append, Nat.mul_one, Array.toList_append]
          rw [List.take_append_of_le_length (by simp [bv]), List.take_of_length_le (by simp [bv])]
      exact ⟨_, _, hr, h2, adv_of hown hB h2 (.inr (.inr ⟨_, _, rfl, hb⟩))⟩
    · have hcs' : cur.size = cap := by simpa using hcs
      by_cases hroom : L.length + M.length ≤ cap
      · have hr := run_append_room (P := Try.prog) w 22 ty 5 i0 Try.underlying22 hi g L.length cap cur hg ⟨b, off, none⟩ M.length c (bv M) hnl hn (bv_one _) hroom (by rw [hz1]; simp [bv]; omega)
        have hh := setRow_heap w g cur (cur.toList.take (L.length * i0.size) ++ bv M ++ cur.toList.drop (L.length * i0.size + (bv M).length)).toArray 5 (0, 0) hg
        have hcl : cur.toList.length = cap := by simpa using hcs'
        have h2 : Own (w.setRow g (cur.toList.take (L.length * i0.size) ++ bv M ++ cur.toList.drop (L.length * i0.size + (bv M).length)).toArray) B (.slice (some ⟨g, 0, none⟩) (L.length + M.length) cap) (L ++ M) := by
          refine ⟨by simp [bv], .inr ⟨g, cap, _, by rw [hcat], hbg, hh, by rw [hcat]; exact hroom, hcm, ?_, ?_⟩⟩
          · rw [hz1]
            simp [hcl, bv]
            omega
          · rw [hz1] at *
            simp only [Nat.mul_one] at htake ⊢
            rw [htake, bv_append, List.take_append_of_le_length (by simp [bv]), List.take_of_length_le (by simp [bv])]
        refine ⟨_, _, hr, h2, adv_of hown hB h2 (.inr (.inl ⟨g, _, cap, rfl, rfl, ⟨rfl, rfl, rfl, by simp [World.setRow], fun j hj hne => setRow_other w g j _ (fun e => hne (by rw [e]))⟩⟩))⟩
      · have holds : ∀ j u, (bv L)[j]? = some u → w.cell? ((⟨g, 0, none⟩ : Addr).add j) = some u := World.ownsRow.cells (g := g) hown rfl
        have hr := run_append_grow (P := Try.prog) w 22 ty 5 i0 (.int .u8 0) Try.underlying22 hi hz0 ⟨g, 0, none⟩ L.length cap (bv L) (by rw [hz1]; simp [bv]) holds ⟨b, off, none⟩ M.length c (bv M) hnl hn (by omega) (by omega) (by rw [hz2]; exact growslice_fits (by omega) (by omega))
        have hcap : L.length + M.length ≤ grownCap w (L.length + M.length) cap 5 := grownCap_ge w _ cap 5
        have hb : Below w.heap.size w (w.drew.alloc (.cells ((bv L).toArray ++ (bv M).toArray ++ Builtin.zeroCells (Value.int .u8 0).cells (grownCap w (L.length + M.length) cap 5 - (L.length + M.length))) 5)) := ((Below.refl _ w).drew).alloc (by simp) _
        have h2 : Own (w.drew.alloc (.cells ((bv L).toArray ++ (bv M).toArray ++ Builtin.zeroCells (Value.int .u8 0).cells (grownCap w (L.length + M.length) cap 5 - (L.length + M.length))) 5)) B (.slice (some ⟨w.heap.size, 0, none⟩) (L.length + M.length) (grownCap w (L.length + M.length) cap 5)) (L ++ M) := by
          refine ⟨by simp [bv], .inr ⟨w.heap.size, _, _, by rw [hcat], hB, (MapKept.heap_alloc w.drew _).1, by rw [hcat]; exact hcap, grownCap_le_maxLen w _ cap 5 (by unfold maxLen; omega), ?_, ?_⟩⟩
          · simp [bv, Builtin.zeroCells, Value.cells]
            omega
          · simp only [Nat.mul_one, Array.toList_append]
            rw [bv_append, List.take_append_of_le_length (by simp [bv]), List.take_of_length_le (by simp [bv])]
        exact ⟨_, _, hr, h2, adv_of hown hB h2 (.inr (.inr ⟨_, _, rfl, hb⟩))⟩

theorem wpList_adv (w : World) {ops : Array Oper} {rest : List Oper} {o : Oper} {a : Act} {Q : Exit → Act → World → Prop} (hgd : o.guard = none) (s x : Operand)
    (ho : o.op = .call { callee := .builtin .append, args := #[s, x], argTypes := #[22, 22] }) (B : Nat) (v vx : Value) (L M : List Int) (hs : a.eval s = v) (hown : Own w B v L)
    (hx : a.eval x = vx) (hM : BL w vx M) (hk : L.length + M.length ≤ 100000000) (hB : B ≤ w.heap.size)
    (h : ∀ v' w', Own w' B v' (L ++ M) → Adv w w' v v' → wpList Try.prog ops Q rest (a.put o.dst v') w') : wpList Try.prog ops Q (o :: rest) a w := by
  refine wpList_plain hgd fun K hK => ?_
  obtain ⟨v', w', hr, h2, h3⟩ := run_adv w o.type B v vx L M hown hM hk hB
  unfold Oper.wp execOp
  simp only [ho, resolve, invoke, builtin, Sem.run_bind, Sem.run_pure, Result.andThen_ok, List.map_toArray, List.map_cons, List.map_nil, hs, hx, hr]
  exact hK _ _ (h v' w' h2 h3)

theorem Own.lt {w : World} {B : Nat} {v : Value} {L : List Int} (h : Own w B v L) {g : Nat} (hg : v.ownBlock = some g) : g < w.heap.size := by
  rcases h.2 with ⟨rfl, _⟩ | ⟨g', cap, cur, rfl, h1, h2, _⟩
  · cases hg
  · cases hg; exact (Array.getElem?_eq_some_iff.1 h2).1
/-- The cells that v reads lie in no block of the row b. -/
def Apart (b v : Value) : Prop := ∀ a n c, v = .slice (some a) n c → b.ownBlock ≠ some a.block
theorem IL.adv {w w' : World} {b b' v : Value} {L : List Int} (h : IL w v L) (ha : Adv w w' b b') (hne : Apart b v) : IL w' v L := by
  obtain ⟨ao, c, rfl, hc, H⟩ := h
  refine ⟨ao, c, rfl, hc, fun i u hi => ?_⟩
  obtain ⟨g, o, rfl, hx⟩ := H i u hi
  have hl := block_lt_of_cell hx
  exact ⟨g, o, rfl, (World.cell?_of_block (ha.g.block g hl (fun e => hne ⟨g, o, none⟩ _ _ rfl e.symm))).trans hx⟩
theorem BL.adv {w w' : World} {b b' v : Value} {L : List Int} (h : BL w v L) (ha : Adv w w' b b') (hne : Apart b v) : BL w' v L := by
  obtain ⟨ao, c, rfl, hc, H⟩ := h
  refine ⟨ao, c, rfl, hc, fun i u hi => ?_⟩
  obtain ⟨g, o, rfl, hx⟩ := H i u hi
  have hl := block_lt_of_cell hx
  exact ⟨g, o, rfl, (World.cell?_of_block (ha.g.block g hl (fun e => hne ⟨g, o, none⟩ _ _ rfl e.symm))).trans hx⟩
/-- What lies in the old world stays apart from the row as it goes on. -/
theorem Apart.adv {w w' : World} {b b' v : Value} (h : Apart b v) (ha : Adv w w' b b') (hv : ∀ a n c, v = .slice (some a) n c → a.block < w.heap.size) : Apart b' v := by
  intro a n c e
  rcases ha.o with h1 | ⟨k, h1, hk⟩
  · rw [h1]; exact h a n c e
  · rw [h1]; intro h2; cases h2; have := hv a n c e; omega
theorem Own.apart_new {w : World} {B : Nat} {b : Value} {M : List Int} (h : Own w B b M) {g o n c : Nat} (hg : w.heap.size ≤ g) : Apart b (.slice (some ⟨g, o, none⟩) n c) := by
  intro a n' c' e h2
  cases e
  have := h.lt h2
  simp at this; omega

set_option maxRecDepth 100000 in
set_option maxHeartbeats 4000000 in
theorem appn_any (b v : Value) (M L : List Int) (B : Nat) (w : World) (hb0 : Own w B b M) (hv : IL w v L) (hne : Apart b v) (hn : L.length ≤ 1000000) (hm : M.length ≤ 90000000) (hB : B ≤ w.heap.size) :
    Calls Try.prog 52 #[b, v] w fun e w' => ∃ r, e = .returned r ∧ Own w' B r (M ++ numsL L) ∧ Adv w w' b r := by
  have hl0 : ∀ a n c, v = .slice (some a) n c → 0 < L.length → a.block < w.heap.size := by
    intro a n c e h0
    obtain ⟨ao, c', e', hc, H⟩ := hv
    obtain ⟨g, o, e2, hx⟩ := H 0 _ (List.getElem?_eq_getElem h0)
    rw [e'] at e; cases e
    cases e2
    exact block_lt_of_cell hx
  have HV := Lib.hid hv
  have HNE := Lib.hid hne
  have HB0 := Lib.hid hb0
  have HL0 := Lib.hid hl0
  obtain ⟨ao, c, rfl⟩ := (show ∃ a c, v = .slice a L.length c from by obtain ⟨a, c, e, _⟩ := hv; exact ⟨a, c, e⟩)
  obtain ⟨ba, bc, rfl⟩ := hb0.shape
  obtain ⟨n, hN⟩ : ∃ n, n = L.length := ⟨_, rfl⟩
  rw [← hN] at hn ⊢
  have HN := Lib.hid hN
  obtain ⟨b0, hb0e⟩ : ∃ b0, b0 = Value.slice ba M.length bc := ⟨_, rfl⟩
  have HBE := Lib.hid hb0e
  rw [← hb0e] at HNE HB0
  clear hl0 hv hne hb0 hN hb0e
  go_enter Try.func52, Try.ntmps52
  go_wp2_with fail
  rw [← HBE.out]
  go_loopw [9, 0] (fun i r wr => ∃ k : Nat, k ≤ n ∧ i = .int .i64 (k : Int) ∧ Own wr B r (M ++ numsL (L.take k)) ∧ Adv w wr b0 r) (fun i _ _ => n - (intOf i).toNat)
  case atStart => exact ⟨0, Nat.zero_le _, rfl, by simpa [numsL] using HB0.out, Adv.refl _ _⟩
  case round =>
    obtain ⟨k, hk, rfl, ho, hb⟩ := hrel
    obtain ⟨ra, rc, hr⟩ := ho.shape
    subst hr
    have HO := Lib.hid ho
    have HB := Lib.hid hb
    clear ho hb
    by_cases hlt : k < n
    · have hlt' : k < L.length := by rw [← HN.out]; exact hlt
      obtain ⟨u, hu⟩ : ∃ u, L[k]? = some u := ⟨_, List.getElem?_eq_getElem hlt'⟩
      obtain ⟨ao', c', e, hcc, H⟩ := HV.out.adv HB.out HNE.out
      simp only [Value.slice.injEq] at e
      obtain ⟨rfl, _, rfl⟩ := e
      obtain ⟨g, o, rfl, hx⟩ := H k u hu
      have HU := Lib.hid hu
      clear H hu hlt'
      obtain ⟨T, hT⟩ : ∃ T, T = M ++ numsL (L.take k) := ⟨_, rfl⟩
      rw [← hT] at HO HB ⊢
      have hTl : T.length + (num4 u).length ≤ 100000000 := by
        rw [hT, List.length_append, numsL_length]; simp [num4]; omega
      have HT := Lib.hid hT
      have HTL := Lib.hid hTl
      obtain ⟨rr, hrr⟩ : ∃ r, r = Value.slice ra T.length rc := ⟨_, rfl⟩
      have HRR := Lib.hid hrr
      rw [← hrr] at HO HB
      have hsz := HB.out.g.size
      clear hT hTl hrr
      have HBL := Lib.hid (show BL (wr.alloc (.cells #[.int .u8 (u / 16777216 % 256), .int .u8 (u / 65536 % 256), .int .u8 (u / 256 % 256), .int .u8 (u % 256)] 5)) (.slice (some ⟨wr.heap.size, 0, none⟩) 4 4) (num4 u) from (own_lit wr (num4 u) (by simp [num4, maxLen])).bl)
      go_wp2_with (at_builtin; rw [← HRR.out]; refine wpList_adv _ rfl (.tmp 13) (.tmp 25) rfl B rr _ _ _ rfl (HO.out.below (below_box wr _)) rfl HBL.out HTL.out (by simp; omega) ?_)
      intro v3 w3 h3 hb3
      obtain ⟨wa, wc, hv3⟩ := h3.shape
      have H3 := Lib.hid h3
      have HB3 := Lib.hid (HB.out.trans ((Adv.of_below (below_box wr _)).trans hb3))
      rw [hv3] at H3 HB3 ⊢
      clear h3 hb3 hv3
      go_wp2_with fail
      go_roundw
      case rel =>
        refine ⟨k + 1, by omega, by go_num, ?_, HB3.out⟩
        have e : M ++ numsL (L.take (k + 1)) = T ++ num4 u := by rw [numsL_take HU.out, HT.out, List.append_assoc]
        rw [e]
        exact H3.out
      case measure => simp [intOf]; omega
    · obtain rfl : k = n := by omega
      have e : L.take k = L := by rw [HN.out, List.take_length]
      have h := HO.out
      have h2 := HB.out
      rw [e] at h h2
      have H1 := Lib.hid h
      have H2 := Lib.hid h2
      clear h h2
      rw [e]
      go_wp2_with fail
      go_ret
      exact ⟨_, rfl, H1.out, by rw [HBE.out] at H2; exact H2.out⟩
end Go.Proofs.Ytkhjkemllgjfmaa
