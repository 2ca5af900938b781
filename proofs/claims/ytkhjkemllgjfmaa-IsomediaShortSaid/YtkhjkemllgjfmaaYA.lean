/- Rows of bytes; the contracts of the reference's num, nums, join, box, zeros. -/
import Derived.Test.YtkhjkemllgjfmaaW
namespace Go.Proofs.Ytkhjkemllgjfmaa
open Go.RowKit
set_option linter.unusedVariables false
set_option linter.unusedSimpArgs false

theorem info5 : (Try.prog.info? 5).map (fun i => (i.zero, i.size, i.bytes)) = some (some (.int .u8 0), 1, 1) := by kernel_rfl

/-- Bytes as values; a row of the call's own that holds bytes; bytes to read. -/
def bv (L : List Int) : List Value := L.map (.int .u8)
def Own (w : World) (B : Nat) (v : Value) (L : List Int) : Prop := w.ownsRow B 5 1 v L.length (bv L)
def BL (w : World) (v : Value) (L : List Int) : Prop := ∃ ao c, v = .slice ao L.length c ∧ L.length ≤ c ∧ ∀ i u, L[i]? = some u → ∃ b o, ao = some ⟨b, o, none⟩ ∧ w.cell? ⟨b, o + i, none⟩ = some (.int .u8 u)
theorem bv_length (L : List Int) : (bv L).length = L.length := by simp [bv]
theorem bv_append (L M : List Int) : bv (L ++ M) = bv L ++ bv M := by simp [bv]
theorem bv_one (L : List Int) : ∀ u ∈ bv L, u.oneCell' = true := fun u hu => by obtain ⟨i, _, rfl⟩ := List.mem_map.1 hu; rfl
theorem BL.below {w w' : World} {v : Value} {L : List Int} (h : BL w v L) (hb : Below w.heap.size w w') : BL w' v L := by
  obtain ⟨ao, c, rfl, hc, H⟩ := h
  refine ⟨ao, c, rfl, hc, fun i u hi => ?_⟩
  obtain ⟨b, o, e, hx⟩ := H i u hi
  exact ⟨b, o, e, (hb.cell (block_lt_of_cell hx)).trans hx⟩
theorem BL.shape {w : World} {v : Value} {L : List Int} (h : BL w v L) : ∃ a c, v = .slice a L.length c := by obtain ⟨a, c, e, _⟩ := h; exact ⟨a, c, e⟩
theorem Own.bl {w : World} {B : Nat} {v : Value} {L : List Int} (h : Own w B v L) : BL w v L := by
  unfold Own at h
  rcases Nat.eq_zero_or_pos L.length with h0 | h0
  · rw [h0] at h
    obtain ⟨a, m, rfl⟩ := owns_zero h
    exact ⟨a, m, by rw [h0], by omega, fun i u hi => by have := (List.getElem?_eq_some_iff.1 hi).1; omega⟩
  · obtain ⟨g, c, rfl, hc, H⟩ := owns_open h h0
    refine ⟨_, c, rfl, hc, fun i u hi => ⟨g, 0, rfl, ?_⟩⟩
    simpa using H i (.int .u8 u) (by simp [bv, hi])
theorem Own.below {w w' : World} {B : Nat} {v : Value} {L : List Int} (h : Own w B v L) (hb : Below w.heap.size w w') : Own w' B v L := owns_below h hb
theorem Own.mono {w : World} {B B' : Nat} {v : Value} {L : List Int} (h : Own w B v L) (hB : B' ≤ B) : Own w B' v L := owns_mono h hB
theorem Own.shape {w : World} {B : Nat} {v : Value} {L : List Int} (h : Own w B v L) : ∃ a c, v = .slice a L.length c := h.bl.shape
theorem own_nil (w : World) (B : Nat) : Own w B (.slice none 0 0) [] := owns_nil _ _ _ _

theorem owns_many (w : World) (E size n : Nat) (cs : Array Value) (h : cs.size = n * size) (hn : n ≤ maxLen) : (w.alloc (.cells cs E)).ownsRow w.heap.size E size (.slice (some ⟨w.heap.size, 0, none⟩) n n) n cs.toList :=
  ⟨by simp [h], .inr ⟨w.heap.size, n, cs, rfl, Nat.le_refl _, by simp only [World.alloc, Array.getElem?_push_size], Nat.le_refl _, hn, h, by rw [List.take_of_length_le (by simp [h])]⟩⟩

/-- Bytes appended to a row of the call's own. -/
theorem wpList_bytes (w : World) {ops : Array Oper} {rest : List Oper} {o : Oper} {a : Act} {Q : Exit → Act → World → Prop} (hgd : o.guard = none) (s x : Operand)
    (ho : o.op = .call { callee := .builtin .append, args := #[s, x], argTypes := #[22, 22] }) (B : Nat) (v vx : Value) (L M : List Int) (hs : a.eval s = v) (hown : Own w B v L)
    (hx : a.eval x = vx) (hM : BL w vx M) (hk : L.length + M.length ≤ 100000000) (hB : B ≤ w.heap.size)
    (h : ∀ v' w', Own w' B v' (L ++ M) → Below B w w' → wpList Try.prog ops Q rest (a.put o.dst v') w') : wpList Try.prog ops Q (o :: rest) a w := by
  obtain ⟨ao, c, rfl, hc, H⟩ := hM
  cases ao with
  | some ad =>
    by_cases h0 : M = []
    · subst h0
      obtain ⟨i0, hi, hz0, hz1, hz2⟩ := info_parts info5
      obtain ⟨i1, hi1, hz⟩ : ∃ i1, Try.prog.info? 5 = some i1 ∧ i1 = i0 := ⟨i0, hi, rfl⟩
      refine wpList_append_own _ hgd s x 22 ho B 5 i0 (.int .u8 0) 1 1 Try.underlying22 hi hz0 hz1 hz2 rfl (by decide) v L.length (bv L) hs hown ad 0 c [] hx (by simp) (fun j u hj => by simp at hj) (by simp) (by unfold maxLen; simp at hk; omega) (by simp at hk; omega) hB (fun v' w' hown' hg hnil => ?_)
      refine h v' w' (by simpa [Own] using hown') ((Below.refl _ _).grown hg hB (fun k' h' => ?_))
      rcases hown.2 with ⟨rfl, _⟩ | ⟨g', cap, cur, rfl, hg', _⟩
      · cases h'
      · cases h'; exact hg'
    · obtain ⟨b, off, hst, hn⟩ : ∃ b off, ad = ⟨b, off, none⟩ ∧ ∀ j u, (bv M)[j]? = some u → w.cell? ⟨b, off + j, none⟩ = some u := by
        cases M with
        | nil => exact absurd rfl h0
        | cons m M =>
          obtain ⟨b, off, e, _⟩ := H 0 m rfl
          simp only [Option.some.injEq] at e
          refine ⟨b, off, e, fun j u hj => ?_⟩
          simp only [bv, List.getElem?_map, Option.map_eq_some_iff] at hj
          obtain ⟨z, hz, rfl⟩ := hj
          obtain ⟨b', off', e', hc'⟩ := H j z hz
          rw [e] at e'
          simp only [Option.some.injEq, Addr.mk.injEq, and_true] at e'
          obtain ⟨rfl, rfl⟩ := e'
          exact hc'
      subst hst
      refine wpList_appN w hgd s x 22 5 1 1 (.int .u8 0) Try.underlying22 info5 rfl (by decide) (by decide) ho B L.length b off M.length c v (bv L) (bv M) hs hown hx (by simp [bv]) hn (bv_one _) hk hB (fun v' w' hown' hb => ?_)
      exact h v' w' (by unfold Own; rw [bv_append, List.length_append]; exact hown') hb
  | none =>
    have h0 : M = [] := by
      cases M with
      | nil => rfl
      | cons m M => obtain ⟨b, off, e, _⟩ := H 0 m rfl; cases e
    subst h0
    obtain ⟨i0, hi, hz0, hz1, hz2⟩ := info_parts info5
    have hrun : (Builtin.append_ #[22, 22] o.type #[v, .slice none 0 c]).run Try.prog w = .ok v w := by
      rcases hown.2 with ⟨rfl, _⟩ | ⟨g, cap, cur, rfl, _, _, hnc, _⟩
      · simp [Builtin.append_, run_underlying Try.underlying22, sizeOf, typeInfo, hi, Builtin.lenOf, Builtin.firstCells]
      · simp [Builtin.append_, run_underlying Try.underlying22, sizeOf, typeInfo, hi, Builtin.lenOf, Builtin.firstCells, hnc, storeCells]
    refine wpList_plain hgd fun K hK => ?_
    unfold Oper.wp
    simp [execOp, ho, resolve, invoke, builtin, hs, hx, hrun, Result.andThen]
    exact hK _ _ (h v w (by rw [List.append_nil]; exact hown) (Below.refl _ _))

def num4 (n : Int) : List Int := [n / 16777216 % 256, n / 65536 % 256, n / 256 % 256, n % 256]
theorem num_any (n : Int) (w : World) :
    Calls Try.prog 60 #[.int .i64 n] w fun e w' => ∃ v, e = .returned v ∧ Own w' w.heap.size v (num4 n) ∧ Below w.heap.size w w' := by
  go_enter Try.func60, Try.ntmps60
  go_wp2_with fail
  go_ret
  refine ⟨_, rfl, ?_, below_box _ _⟩
  have := owns_many w 5 1 4 #[.int .u8 (n / 16777216 % 256), .int .u8 (n / 65536 % 256), .int .u8 (n / 256 % 256), .int .u8 (n % 256)] rfl (by decide)
  exact this

/-- Numbers to read; slices of bytes to read. -/
def IL (w : World) (v : Value) (L : List Int) : Prop := ∃ ao c, v = .slice ao L.length c ∧ L.length ≤ c ∧ ∀ i u, L[i]? = some u → ∃ b o, ao = some ⟨b, o, none⟩ ∧ w.cell? ⟨b, o + i, none⟩ = some (.int .i64 u)
def JL (w : World) (v : Value) (Ls : List (List Int)) : Prop := ∃ ao c, v = .slice ao Ls.length c ∧ Ls.length ≤ c ∧ ∀ i L, Ls[i]? = some L → ∃ b o x, ao = some ⟨b, o, none⟩ ∧ w.cell? ⟨b, o + i, none⟩ = some x ∧ BL w x L
theorem IL.below {w w' : World} {v : Value} {L : List Int} (h : IL w v L) (hb : Below w.heap.size w w') : IL w' v L := by
  obtain ⟨ao, c, rfl, hc, H⟩ := h
  refine ⟨ao, c, rfl, hc, fun i u hi => ?_⟩
  obtain ⟨b, o, e, hx⟩ := H i u hi
  exact ⟨b, o, e, (hb.cell (block_lt_of_cell hx)).trans hx⟩
theorem JL.below {w w' : World} {v : Value} {L : List (List Int)} (h : JL w v L) (hb : Below w.heap.size w w') : JL w' v L := by
  obtain ⟨ao, c, rfl, hc, H⟩ := h
  refine ⟨ao, c, rfl, hc, fun i u hi => ?_⟩
  obtain ⟨b, o, x, e, hx, hB⟩ := H i u hi
  exact ⟨b, o, x, e, (hb.cell (block_lt_of_cell hx)).trans hx, hB.below hb⟩
def numsL (L : List Int) : List Int := L.flatMap num4
theorem numsL_length (L : List Int) : (numsL L).length = 4 * L.length := by
  induction L with
  | nil => rfl
  | cons x L ih => simp [numsL, num4] at ih ⊢; omega
theorem numsL_take {L : List Int} {k : Nat} {u : Int} (h : L[k]? = some u) : numsL (L.take (k + 1)) = numsL (L.take k) ++ num4 u := by
  rw [List.take_add_one, h]; simp [numsL]
theorem join_take {L : List (List Int)} {k : Nat} {u : List Int} (h : L[k]? = some u) : (L.take (k + 1)).flatten = (L.take k).flatten ++ u := by
  rw [List.take_add_one, h]; simp
theorem take_le_flatten (L : List (List Int)) (k : Nat) : (L.take k).flatten.length ≤ L.flatten.length := by
  have h : L.flatten = (L.take k).flatten ++ (L.drop k).flatten := by rw [← List.flatten_append, List.take_append_drop]
  rw [h, List.length_append]; omega

set_option maxRecDepth 100000 in
set_option maxHeartbeats 4000000 in
theorem nums_any (v : Value) (L : List Int) (w : World) (hv : IL w v L) (hn : L.length ≤ 1000000) :
    Calls Try.prog 57 #[v] w fun e w' => ∃ r, e = .returned r ∧ Own w' w.heap.size r (numsL L) ∧ Below w.heap.size w w' := by
  obtain ⟨ao, c, rfl, hc, H⟩ := hv
  have HL := Lib.hid H
  obtain ⟨n, hN⟩ : ∃ n, n = L.length := ⟨_, rfl⟩
  rw [← hN] at hc hn ⊢
  have HN := Lib.hid hN
  clear H hN
  go_enter Try.func57, Try.ntmps57
  go_wp2_with fail
  go_loopw [4, 3] (fun i r wr => ∃ k : Nat, k ≤ n ∧ i = .int .i64 (k : Int) ∧ Own wr w.heap.size r (numsL (L.take k)) ∧ Below w.heap.size w wr) (fun i _ _ => n - (intOf i).toNat)
  case atStart => exact ⟨0, Nat.zero_le _, rfl, own_nil _ _, Below.refl _ _⟩
  case round =>
    obtain ⟨k, hk, rfl, ho, hb⟩ := hrel
    obtain ⟨ra, rc, hr⟩ := ho.shape
    subst hr
    have HO := Lib.hid ho
    have HB := Lib.hid hb
    clear ho hb
    by_cases hlt : k < n
    · have hlt' : k < L.length := by rw [← HN.out]; exact hlt
      obtain ⟨u, hu⟩ : ∃ u, L[k]? = some u := ⟨_, List.getElem?_eq_getElem hlt'⟩
      obtain ⟨b, o, rfl, hx⟩ := HL.out k u hu
      replace hx := (HB.out.cell (block_lt_of_cell hx)).trans hx
      have HU := Lib.hid hu
      have HX := Lib.hid hx
      clear hu hlt'
      go_wp2_with fail
      refine (num_any u wr).mono ?_
      rintro e w2 ⟨v2, rfl, h2, hb2⟩
      obtain ⟨va, vc, hv2⟩ := h2.shape
      subst hv2
      have H2 := Lib.hid h2.bl
      have HB2 := Lib.hid hb2
      have hlen : (numsL (L.take k)).length + (num4 u).length ≤ 100000000 := by rw [numsL_length]; simp [num4]; omega
      have HLE := Lib.hid hlen
      have hsz : w.heap.size ≤ w2.heap.size := by have := HB.out.size; have := hb2.size; omega
      clear h2 hb2 hlen hx
      go_wp2_with (at_builtin; refine wpList_bytes w2 rfl (.tmp 11) (.tmp 16) rfl w.heap.size _ _ _ _ rfl (HO.out.below HB2.out) rfl H2.out HLE.out hsz ?_)
      intro v3 w3 h3 hb3
      obtain ⟨wa, wc, hv3⟩ := h3.shape
      subst hv3
      have H3 := Lib.hid h3
      have HB3 := Lib.hid (HB.out.trans ((HB2.out.mono HB.out.size).trans hb3))
      clear h3 hb3
      go_wp2_with fail
      go_roundw
      case rel => exact ⟨k + 1, by omega, by go_num, by rw [numsL_take HU.out]; exact H3.out, HB3.out⟩
      case measure => simp [intOf]; omega
    · obtain rfl : k = n := by omega
      go_wp2_with fail
      go_ret
      have e : L.take k = L := by rw [HN.out, List.take_length]
      have h := HO.out
      rw [e] at h ⊢
      exact ⟨_, rfl, h, HB.out⟩

set_option maxRecDepth 100000 in
set_option maxHeartbeats 4000000 in
theorem join_any (v : Value) (L : List (List Int)) (w : World) (hv : JL w v L) (hn : L.length ≤ 1000000) (hn2 : L.flatten.length ≤ 100000000) :
    Calls Try.prog 44 #[v] w fun e w' => ∃ r, e = .returned r ∧ Own w' w.heap.size r L.flatten ∧ Below w.heap.size w w' := by
  obtain ⟨ao, c, rfl, hc, H⟩ := hv
  have HL := Lib.hid H
  have HN2 := Lib.hid hn2
  obtain ⟨n, hN⟩ : ∃ n, n = L.length := ⟨_, rfl⟩
  rw [← hN] at hc hn ⊢
  have HN := Lib.hid hN
  clear H hN hn2
  go_enter Try.func44, Try.ntmps44
  go_wp2_with fail
  go_loopw [4, 3] (fun i r wr => ∃ k : Nat, k ≤ n ∧ i = .int .i64 (k : Int) ∧ Own wr w.heap.size r (L.take k).flatten ∧ Below w.heap.size w wr) (fun i _ _ => n - (intOf i).toNat)
  case atStart => exact ⟨0, Nat.zero_le _, rfl, own_nil _ _, Below.refl _ _⟩
  case round =>
    obtain ⟨k, hk, rfl, ho, hb⟩ := hrel
    obtain ⟨ra, rc, hr⟩ := ho.shape
    subst hr
    have HO := Lib.hid ho
    have HB := Lib.hid hb
    clear ho hb
    by_cases hlt : k < n
    · have hlt' : k < L.length := by rw [← HN.out]; exact hlt
      obtain ⟨u, hu⟩ : ∃ u, L[k]? = some u := ⟨_, List.getElem?_eq_getElem hlt'⟩
      obtain ⟨b, o, x, rfl, hx, hbl⟩ := HL.out k u hu
      obtain ⟨xa, xc, hxv⟩ := hbl.shape
      subst hxv
      replace hx := (HB.out.cell (block_lt_of_cell hx)).trans hx
      have HU := Lib.hid hu
      have HX := Lib.hid (hbl.below HB.out)
      have hlen : (L.take k).flatten.length + u.length ≤ 100000000 := by
        have := take_le_flatten L (k + 1)
        rw [join_take hu, List.length_append] at this
        have := HN2.out
        omega
      have HLE := Lib.hid hlen
      have HSZ := Lib.hid HB.out.size
      clear hu hlt' hbl hlen
      go_wp2_with (at_builtin; refine wpList_bytes wr rfl (.tmp 11) (.tmp 15) rfl w.heap.size _ _ _ _ rfl HO.out rfl HX.out HLE.out HSZ.out ?_)
      intro v3 w3 h3 hb3
      obtain ⟨wa, wc, hv3⟩ := h3.shape
      subst hv3
      have H3 := Lib.hid h3
      have HB3 := Lib.hid (HB.out.trans hb3)
      clear h3 hb3
      go_wp2_with fail
      go_roundw
      case rel => exact ⟨k + 1, by omega, by go_num, by rw [join_take HU.out]; exact H3.out, HB3.out⟩
      case measure => simp [intOf]; omega
    · obtain rfl : k = n := by omega
      go_wp2_with fail
      go_ret
      have e : L.take k = L := by rw [HN.out, List.take_length]
      have h := HO.out
      rw [e] at h ⊢
      exact ⟨_, rfl, h, HB.out⟩

end Go.Proofs.Ytkhjkemllgjfmaa
