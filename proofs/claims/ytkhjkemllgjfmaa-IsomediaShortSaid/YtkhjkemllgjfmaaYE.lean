/- Strings and zeros appended to a row that grows while all else stays; the contracts of appendZeros, appendMatrix, chunks. -/
import Derived.Test.YtkhjkemllgjfmaaYD
import Derived.Lib.AppendStr
import Derived.Lib.AppendZerosOnto
namespace Go.Proofs.Ytkhjkemllgjfmaa
open Go.RowKit
set_option linter.unusedVariables false
set_option linter.unusedSimpArgs false

theorem bv_str (s : ByteArray) : bv (strB s) = Lib.strCells s := by
  simp [bv, strB, Lib.strCells]
theorem run_adv_str (w : World) (ty : TypeId) (B : Nat) (v : Value) (L : List Int) (hown : Own w B v L) (s : ByteArray) (hk : L.length + s.size ≤ 100000000) (hB : B ≤ w.heap.size) :
    ∃ v' w', (Builtin.append_ #[22, 9] ty #[v, .string s]).run Try.prog w = .ok v' w' ∧ Own w' B v' (L ++ strB s) ∧ Adv w w' v v' := by
  obtain ⟨i0, hi, hz0, hz1, hz2⟩ := info_parts info5
  obtain ⟨v', w', hr, h2, h3, h4⟩ := Lib.run_append_own_string (P := Try.prog) w B 22 9 ty 5 i0 Try.underlying22 Try.underlying9 hi hz0 hz1 hz2 v L.length (bv L) hown s (by unfold maxLen; omega) (by omega) hB
  have h2' : Own w' B v' (L ++ strB s) := by unfold Own; rw [bv_append, bv_str, List.length_append, strB_length]; exact h2
  refine ⟨v', w', hr, h2', adv_of hown hB h2' ?_⟩
  rcases hown.2 with ⟨rfl, h0⟩ | ⟨g, cap, cur, rfl, hbg, hg, hnc, hcm, hcs, htake⟩
  · have hb : Below w.heap.size w w' := ⟨h3.os, h3.tape, h3.output, h3.size, fun k hk => h3.block k hk (fun e => by cases e)⟩
    by_cases hm : s.size = 0
    · obtain rfl := h4.2 ⟨rfl, hm⟩
      exact .inl ⟨rfl, hb⟩
    · have hr2 := run_append_nil_string (P := Try.prog) w 22 9 ty 5 i0 (.int .u8 0) Try.underlying22 Try.underlying9 hi hz0 s (by omega) (by omega) (by rw [hz2]; omega)
      rw [hr2] at hr
      simp only [Result.ok.injEq] at hr
      rw [← hr.1]
      exact .inr (.inr ⟨_, _, rfl, hb⟩)
  · by_cases hroom : L.length + s.size ≤ cap
    · have hcs' : cur.size = cap := by simpa using hcs
      have hr2 := Lib.run_append_room_string (P := Try.prog) w 22 9 ty 5 i0 Try.underlying22 Try.underlying9 hi hz1 g L.length cap cur hg s hroom (by omega)
      rw [hr2] at hr
      simp only [Result.ok.injEq] at hr
      rw [← hr.1]
      exact .inr (.inl ⟨g, _, cap, rfl, rfl, h3⟩)
    · have holds : ∀ j u, (bv L)[j]? = some u → w.cell? ((⟨g, 0, none⟩ : Addr).add j) = some u := World.ownsRow.cells (g := g) hown rfl
      have hr2 := Lib.run_append_grow_string (P := Try.prog) w 22 9 ty 5 i0 (.int .u8 0) Try.underlying22 Try.underlying9 hi hz0 ⟨g, 0, none⟩ L.length cap (bv L) (by rw [hz1]; simp [bv]) holds s (by omega) (by omega) (by rw [hz2]; exact growslice_fits (by omega) (by omega))
      rw [hr2] at hr
      simp only [Result.ok.injEq] at hr
      refine .inr (.inr ⟨_, _, hr.1.symm, ?_⟩)
      rw [← hr.2]
      exact ((Below.refl _ w).drew).alloc (by simp) _
theorem wpList_advS (w : World) {ops : Array Oper} {rest : List Oper} {o : Oper} {a : Act} {Q : Exit → Act → World → Prop} (hgd : o.guard = none) (s x : Operand)
    (ho : o.op = .call { callee := .builtin .append, args := #[s, x], argTypes := #[22, 9] }) (B : Nat) (v : Value) (L : List Int) (st : ByteArray) (hs : a.eval s = v) (hown : Own w B v L)
    (hx : a.eval x = .string st) (hk : L.length + st.size ≤ 100000000) (hB : B ≤ w.heap.size)
    (h : ∀ v' w', Own w' B v' (L ++ strB st) → Adv w w' v v' → wpList Try.prog ops Q rest (a.put o.dst v') w') : wpList Try.prog ops Q (o :: rest) a w := by
  refine wpList_plain hgd fun K hK => ?_
  obtain ⟨v', w', hr, h2, h3⟩ := run_adv_str w o.type B v L hown st hk hB
  unfold Oper.wp execOp
  simp only [ho, resolve, invoke, builtin, Sem.run_bind, Sem.run_pure, Result.andThen_ok, List.map_toArray, List.map_cons, List.map_nil, hs, hx, hr]
  exact hK _ _ (h v' w' h2 h3)
/-- Zeros appended are a string of zeros appended. -/
def zstr (n : Nat) : ByteArray := ⟨Array.replicate n 0⟩
theorem strB_zstr (n : Nat) : strB (zstr n) = List.replicate n 0 := by simp [strB, zstr]
theorem zstr_size (n : Nat) : (zstr n).size = n := by simp [zstr, ByteArray.size]
set_option maxRecDepth 100000 in
theorem run_zeros_str (w : World) (ty : TypeId) (v : Value) (n : Nat) (h00 : 0 < n) (hn : n ≤ 100000) (hv : ∃ a l c, v = .slice a l c ∧ l ≤ 100000000) : (Builtin.append_ #[22, 3] ty #[v, .int .i64 (n : Int)]).run Try.prog w = (Builtin.append_ #[22, 9] ty #[v, .string (zstr n)]).run Try.prog w := by
  obtain ⟨i0, hi, hz0, hz1, hz2⟩ := info_parts info5
  obtain ⟨a, l, c, rfl, hl⟩ := hv
  have hw : IntKind.i64.wrap (n : Int) = n := by rw [IntKind.wrap_i64]; omega
  have hneg : ¬ ((n : Int) < 0) := by omega
  have h48 : ¬ (281474976710656 < (n : Int)) := by omega
  have hz : (zstr n).data.map (fun b => Value.int .u8 b.toNat) = Array.replicate n (.int .u8 0) := by simp [zstr]
  have hzc : Builtin.zeroCells #[Value.int .u8 0] n = Array.replicate n (.int .u8 0) := by
    apply Array.ext
    · simp [Builtin.zeroCells]
    · intro j h1 h2
      simp [Builtin.zeroCells, Nat.mod_one]
  have hzc2 : Builtin.zeroCells (Value.int .u8 0).cells n = Array.replicate n (.int .u8 0) := hzc
  have hfs : ∀ w1 : World, (Builtin.firstCells 1 n (.string (zstr n))).run Try.prog w1 = .ok (Array.replicate n (.int .u8 0)) w1 := by
    intro w1
    have h := Lib.run_firstCells_string (P := Try.prog) w1 1 (zstr n)
    rw [zstr_size] at h
    rw [h]
    congr 1
    apply Array.ext'
    rw [List.toList_toArray, ← bv_str, strB_zstr]; simp [bv]
  have h0 : ¬ (n = 0) := by omega
  by_cases hroom : l + n ≤ c
  · have hns : ¬ (n * 1 = 0) := by omega
    simp [Builtin.append_, run_underlying Try.underlying22, run_underlying Try.underlying9, run_underlying Try.underlying3, sizeOf, typeInfo, zeroValue, hi, hz0, hz1, hz2, Builtin.lenOf, Builtin.firstCells, zstr_size, hroom, hw, hz, hzc, asInt, asIntOf, h0, hneg, h48, hzc2]
  · have h1 := growslice_fits (need := l + n) (old := c) (bytes := 1) (by omega) (by omega)
    have hfit : ¬ (281474976710656 < Builtin.nextslicecap (l + n) c) := by omega
    have h63 : ¬ (9223372036854775807 < (l : Int) + (n : Int)) := by omega
    simp [Builtin.append_, run_underlying Try.underlying22, run_underlying Try.underlying9, run_underlying Try.underlying3, sizeOf, typeInfo, zeroValue, hi, hz0, hz1, hz2, Builtin.lenOf, zstr_size, hroom, hw, hz, hzc, asInt, asIntOf, hneg, h48, h0, hfit, h63, hzc2, hfs]
theorem Adv.below {w w' : World} {v v' : Value} (h : Adv w w' v v') (hv : v.ownBlock = none) : Below w.heap.size w w' :=
  ⟨h.g.os, h.g.tape, h.g.output, h.g.size, fun k hk => h.g.block k hk (by rw [hv]; simp)⟩
theorem wpList_advZ (w : World) {ops : Array Oper} {rest : List Oper} {o : Oper} {a : Act} {Q : Exit → Act → World → Prop} (hgd : o.guard = none) (s x : Operand)
    (ho : o.op = .call { callee := .builtin .append, args := #[s, x], argTypes := #[22, 3] }) (B : Nat) (v : Value) (L : List Int) (n : Nat) (hs : a.eval s = v) (hown : Own w B v L)
    (hx : a.eval x = .int .i64 (n : Int)) (h0 : 0 < n) (hn : n ≤ 1000) (hk : L.length ≤ 90000000) (hB : B ≤ w.heap.size)
    (h : ∀ v' w', Own w' B v' (L ++ List.replicate n 0) → Adv w w' v v' → wpList Try.prog ops Q rest (a.put o.dst v') w') : wpList Try.prog ops Q (o :: rest) a w := by
  obtain ⟨v', w', hr, h2, h3⟩ := run_adv_str w o.type B v L hown (zstr n) (by rw [zstr_size]; omega) hB
  rw [← run_zeros_str w o.type v n h0 (by omega) (by obtain ⟨a, c, e⟩ := hown.shape; exact ⟨a, _, c, e, by omega⟩)] at hr
  rw [strB_zstr] at h2
  exact Lib.wpList_append_run (P := Try.prog) w hgd s x 22 3 ho v (.int .i64 (n : Int)) hs hx v' w' hr (h v' w' h2 h3)

set_option maxRecDepth 100000 in
theorem appz_any (b : Value) (M : List Int) (n B : Nat) (w : World) (hb0 : Own w B b M) (h0 : 0 < n) (hn : n ≤ 1000) (hm : M.length ≤ 90000000) (hB : B ≤ w.heap.size) :
    Calls Try.prog 53 #[b, .int .i64 (n : Int)] w fun e w' => ∃ r, e = .returned r ∧ Own w' B r (M ++ List.replicate n 0) ∧ Adv w w' b r := by
  have HB0 := Lib.hid hb0
  obtain ⟨ba, bc, hbe⟩ := hb0.shape
  have HBE := Lib.hid hbe
  rw [hbe]
  clear hb0
  go_enter Try.func53, Try.ntmps53
  go_wp2_with (at_builtin; rw [← HBE.out]; refine wpList_advZ w rfl (.tmp 5) (.tmp 6) rfl B b M n rfl HB0.out rfl h0 hn hm hB ?_)
  intro v' w' h2 h3
  obtain ⟨ra, rc, hr⟩ := h2.shape
  have H2 := Lib.hid h2
  have H3 := Lib.hid h3
  rw [hr] at H2 H3 ⊢
  clear h2 h3 hr hbe
  go_wp2_with fail
  go_ret
  exact ⟨_, rfl, H2.out, H3.out⟩

set_option maxRecDepth 100000 in
theorem appm_any (b : Value) (M : List Int) (B : Nat) (w : World) (hb0 : Own w B b M) (hm : M.length ≤ 80000000) (hB : B ≤ w.heap.size) :
    Calls Try.prog 54 #[b] w fun e w' => ∃ r, e = .returned r ∧ Own w' B r (M ++ matL) ∧ Adv w w' b r := by
  have HB0 := Lib.hid hb0
  obtain ⟨ba, bc, hbe⟩ := hb0.shape
  have HBE := Lib.hid hbe
  have HI : Hid (IL (w.alloc (.cells #[.int .i64 65536, .int .i64 0, .int .i64 0, .int .i64 0, .int .i64 65536, .int .i64 0, .int .i64 0, .int .i64 0, .int .i64 1073741824] 2)) (.slice (some ⟨w.heap.size, 0, none⟩) 9 9) [65536, 0, 0, 0, 65536, 0, 0, 0, 1073741824]) := Lib.hid (IL.build w [65536, 0, 0, 0, 65536, 0, 0, 0, 1073741824] 2)
  rw [hbe]
  clear hb0 hbe
  go_enter Try.func54, Try.ntmps54
  go_wp2_with fail
  rw [← HBE.out]
  refine (appn_any _ _ M _ B _ (HB0.out.below (below_box w _)) HI.out (HB0.out.apart_new (Nat.le_refl _)) (by simp) (by omega) (by simp; omega)).mono ?_
  rintro e w5 ⟨r, rfl, hr, ha⟩
  obtain ⟨R, hR⟩ : ∃ R, R = M ++ numsL [65536, 0, 0, 0, 65536, 0, 0, 0, 1073741824] := ⟨_, rfl⟩
  rw [← hR] at hr
  have HR := Lib.hid (show M ++ matL = R from hR.symm)
  obtain ⟨ra, rc, hrv⟩ := hr.shape
  have H2 := Lib.hid hr
  have H3 := Lib.hid ((Adv.of_below (below_box w _)).trans ha)
  rw [hrv] at H2 H3 ⊢
  clear hr ha hrv hR
  go_wp2_with fail
  go_ret
  rw [HR.out]
  exact ⟨_, rfl, H2.out, by rw [HBE.out] at H3; exact H3.out⟩

set_option maxRecDepth 100000 in
theorem chunks_any (w : World) :
    Calls Try.prog 75 #[] w fun e w' => ∃ r, e = .returned r ∧ Own w' w.heap.size r chunkL ∧ Below w.heap.size w w' := by
  have HI : Hid (IL (w.alloc (.cells #[.int .i64 0, .int .i64 1, .int .i64 1, .int .i64 1, .int .i64 1] 2)) (.slice (some ⟨w.heap.size, 0, none⟩) 5 5) [0, 1, 1, 1, 1]) := Lib.hid (IL.build w [0, 1, 1, 1, 1] 2)
  go_enter Try.func75, Try.ntmps75
  go_wp2_with fail
  refine (appn_any (.slice none 0 0) _ [] _ w.heap.size _ (own_nil _ _) HI.out (fun a n c e h => by cases h) (by simp) (by simp) (by simp)).mono ?_
  rintro e w5 ⟨r, rfl, hr, ha⟩
  obtain ⟨ra, rc, hrv⟩ := hr.shape
  have H2 := Lib.hid hr
  have H3 := Lib.hid ((Adv.of_below (below_box w _)).trans ha)
  rw [hrv] at H2 H3 ⊢
  clear hr ha hrv
  go_wp2_with fail
  go_ret
  exact ⟨_, rfl, H2.out, H3.out.below (by simp [Value.ownBlock])⟩
end Go.Proofs.Ytkhjkemllgjfmaa
