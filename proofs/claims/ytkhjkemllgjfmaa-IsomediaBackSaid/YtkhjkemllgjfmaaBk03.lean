/- Texts of this claim joined: YA YB YC YD YE YF YG. -/
import Derived.Lib.ConvBytes
import Derived.Deep.AppendLies
import Derived.Lib.AppendStr
import Derived.Lib.AppendZerosOnto
import Derived.Test.YtkhjkemllgjfmaaBk02
set_option linter.unusedVariables false
set_option linter.unusedSimpArgs false

/- Rows of bytes; the contracts of the reference's num, nums, join, box, zeros. -/
namespace Go.Proofs.Ytkhjkemllgjfmaa
open Go.RowKit
set_option linter.unusedVariables false
set_option linter.unusedSimpArgs false

theorem info5 : (Try.prog.info? 5).map (fun i => (i.zero, i.size, i.bytes)) = some (some (.int .u8 0), 1, 1) := by kernel_rfl

/-- Bytes as values; a row of the call's own that holds bytes; bytes to read. -/
def bv (L : List Int) : List Value := L.map (.int .u8)
def Own (w : World) (B : Nat) (v : Value) (L : List Int) : Prop := w.ownsRow B 5 1 v L.length (bv L)
def BL (w : World) (v : Value) (L : List Int) : Prop := ∃ ao c, v = .slice ao L.length c ∧ L.length ≤ c ∧ ∀ i u, L[i]? = some u → ∃ b o, ao = some ⟨b, o, none⟩ ∧ w.cell? ⟨b, o + i, none⟩ = some (.int .u8 u)
theorem bv_length (L : List Int) : (bv L).length = L.length := by simp [bv]
theorem bv_append (L M : List Int) : bv (L ++ M) = bv L ++ bv M := by simp [bv]
theorem bv_one (L : List Int) : ∀ u ∈ bv L, u.oneCell' = true := fun u hu => by obtain ⟨i, _, rfl⟩ := List.mem_map.1 hu; rfl
theorem BL.below {w w' : World} {v : Value} {L : List Int} (h : BL w v L) (hb : Below w.heap.size w w') : BL w' v L := by
  obtain ⟨ao, c, rfl, hc, H⟩ := h
  refine ⟨ao, c, rfl, hc, fun i u hi => ?_⟩
  obtain ⟨b, o, e, hx⟩ := H i u hi
  exact ⟨b, o, e, (hb.cell (block_lt_of_cell hx)).trans hx⟩
theorem BL.shape {w : World} {v : Value} {L : List Int} (h : BL w v L) : ∃ a c, v = .slice a L.length c := by obtain ⟨a, c, e, _⟩ := h; exact ⟨a, c, e⟩
theorem Own.bl {w : World} {B : Nat} {v : Value} {L : List Int} (h : Own w B v L) : BL w v L := by
  unfold Own at h
  rcases Nat.eq_zero_or_pos L.length with h0 | h0
  · rw [h0] at h
    obtain ⟨a, m, rfl⟩ := owns_zero h
    exact ⟨a, m, by rw [h0], by omega, fun i u hi => by have := (List.getElem?_eq_some_iff.1 hi).1; omega⟩
  · obtain ⟨g, c, rfl, hc, H⟩ := owns_open h h0
    refine ⟨_, c, rfl, hc, fun i u hi => ⟨g, 0, rfl, ?_⟩⟩
    simpa using H i (.int .u8 u) (by simp [bv, hi])
theorem Own.below {w w' : World} {B : Nat} {v : Value} {L : List Int} (h : Own w B v L) (hb : Below w.heap.size w w') : Own w' B v L := owns_below h hb
theorem Own.mono {w : World} {B B' : Nat} {v : Value} {L : List Int} (h : Own w B v L) (hB : B' ≤ B) : Own w B' v L := owns_mono h hB
theorem Own.shape {w : World} {B : Nat} {v : Value} {L : List Int} (h : Own w B v L) : ∃ a c, v = .slice a L.length c := h.bl.shape
theorem own_nil (w : World) (B : Nat) : Own w B (.slice none 0 0) [] := owns_nil _ _ _ _

theorem owns_many (w : World) (E size n : Nat) (cs : Array Value) (h : cs.size = n * size) (hn : n ≤ maxLen) : (w.alloc (.cells cs E)).ownsRow w.heap.size E size (.slice (some ⟨w.heap.size, 0, none⟩) n n) n cs.toList :=
  ⟨by simp [h], .inr ⟨w.heap.size, n, cs, rfl, Nat.le_refl _, by simp only [World.alloc, Array.getElem?_push_size], Nat.le_refl _, hn, h, by rw [List.take_of_length_le (by simp [h])]⟩⟩

/-- Bytes appended to a row of the call's own. -/
theorem wpList_bytes (w : World) {ops : Array Oper} {rest : List Oper} {o : Oper} {a : Act} {Q : Exit → Act → World → Prop} (hgd : o.guard = none) (s x : Operand)
    (ho : o.op = .call { callee := .builtin .append, args := #[s, x], argTypes := #[22, 22] }) (B : Nat) (v vx : Value) (L M : List Int) (hs : a.eval s = v) (hown : Own w B v L)
    (hx : a.eval x = vx) (hM : BL w vx M) (hk : L.length + M.length ≤ 100000000) (hB : B ≤ w.heap.size)
    (h : ∀ v' w', Own w' B v' (L ++ M) → Below B w w' → wpList Try.prog ops Q rest (a.put o.dst v') w') : wpList Try.prog ops Q (o :: rest) a w := by
  obtain ⟨ao, c, rfl, hc, H⟩ := hM
  cases ao with
  | some ad =>
    by_cases h0 : M = []
    · subst h0
      obtain ⟨i0, hi, hz0, hz1, hz2⟩ := info_parts info5
      obtain ⟨i1, hi1, hz⟩ : ∃ i1, Try.prog.info? 5 = some i1 ∧ i1 = i0 := ⟨i0, hi, rfl⟩
      refine wpList_append_own _ hgd s x 22 ho B 5 i0 (.int .u8 0) 1 1 Try.underlying22 hi hz0 hz1 hz2 rfl (by decide) v L.length (bv L) hs hown ad 0 c [] hx (by simp) (fun j u hj => by simp at hj) (by simp) (by unfold maxLen; simp at hk; omega) (by simp at hk; omega) hB (fun v' w' hown' hg hnil => ?_)
      refine h v' w' (by simpa [Own] using hown') ((Below.refl _ _).grown hg hB (fun k' h' => ?_))
      rcases hown.2 with ⟨rfl, _⟩ | ⟨g', cap, cur, rfl, hg', _⟩
      · cases h'
      · cases h'; exact hg'
    · obtain ⟨b, off, hst, hn⟩ : ∃ b off, ad = ⟨b, off, none⟩ ∧ ∀ j u, (bv M)[j]? = some u → w.cell? ⟨b, off + j, none⟩ = some u := by
        cases M with
        | nil => exact absurd rfl h0
        | cons m M =>
          obtain ⟨b, off, e, _⟩ := H 0 m rfl
          simp only [Option.some.injEq] at e
          refine ⟨b, off, e, fun j u hj => ?_⟩
          simp only [bv, List.getElem?_map, Option.map_eq_some_iff] at hj
          obtain ⟨z, hz, rfl⟩ := hj
          obtain ⟨b', off', e', hc'⟩ := H j z hz
          rw [e] at e'
          simp only [Option.some.injEq, Addr.mk.injEq, and_true] at e'
          obtain ⟨rfl, rfl⟩ := e'
          exact hc'
      subst hst
      refine wpList_appN w hgd s x 22 5 1 1 (.int .u8 0) Try.underlying22 info5 rfl (by decide) (by decide) ho B L.length b off M.length c v (bv L) (bv M) hs hown hx (by simp [bv]) hn (bv_one _) hk hB (fun v' w' hown' hb => ?_)
      exact h v' w' (by unfold Own; rw [bv_append, List.length_append]; exact hown') hb
  | none =>
    have h0 : M = [] := by
      cases M with
      | nil => rfl
      | cons m M => obtain ⟨b, off, e, _⟩ := H 0 m rfl; cases e
    subst h0
    obtain ⟨i0, hi, hz0, hz1, hz2⟩ := info_parts info5
    have hrun : (Builtin.append_ #[22, 22] o.type #[v, .slice none 0 c]).run Try.prog w = .ok v w := by
      rcases hown.2 with ⟨rfl, _⟩ | ⟨g, cap, cur, rfl, _, _, hnc, _⟩
      · simp [Builtin.append_, run_underlying Try.underlying22, sizeOf, typeInfo, hi, Builtin.lenOf, Builtin.firstCells]
      · simp [Builtin.append_, run_underlying Try.underlying22, sizeOf, typeInfo, hi, Builtin.lenOf, Builtin.firstCells, hnc, storeCells]
    refine wpList_plain hgd fun K hK => ?_
    unfold Oper.wp
    simp [execOp, ho, resolve, invoke, builtin, hs, hx, hrun, Result.andThen]
    exact hK _ _ (h v w (by rw [List.append_nil]; exact hown) (Below.refl _ _))

def num4 (n : Int) : List Int := [n / 16777216 % 256, n / 65536 % 256, n / 256 % 256, n % 256]
theorem num_any (n : Int) (w : World) :
    Calls Try.prog 60 #[.int .i64 n] w fun e w' => ∃ v, e = .returned v ∧ Own w' w.heap.size v (num4 n) ∧ Below w.heap.size w w' := by
  go_enter Try.func60, Try.ntmps60
  go_wp2_with fail
  go_ret
  refine ⟨_, rfl, ?_, below_box _ _⟩
  have := owns_many w 5 1 4 #[.int .u8 (n / 16777216 % 256), .int .u8 (n / 65536 % 256), .int .u8 (n / 256 % 256), .int .u8 (n % 256)] rfl (by decide)
  exact this

/-- Numbers to read; slices of bytes to read. -/
def IL (w : World) (v : Value) (L : List Int) : Prop := ∃ ao c, v = .slice ao L.length c ∧ L.length ≤ c ∧ ∀ i u, L[i]? = some u → ∃ b o, ao = some ⟨b, o, none⟩ ∧ w.cell? ⟨b, o + i, none⟩ = some (.int .i64 u)
def JL (w : World) (v : Value) (Ls : List (List Int)) : Prop := ∃ ao c, v = .slice ao Ls.length c ∧ Ls.length ≤ c ∧ ∀ i L, Ls[i]? = some L → ∃ b o x, ao = some ⟨b, o, none⟩ ∧ w.cell? ⟨b, o + i, none⟩ = some x ∧ BL w x L
theorem IL.below {w w' : World} {v : Value} {L : List Int} (h : IL w v L) (hb : Below w.heap.size w w') : IL w' v L := by
  obtain ⟨ao, c, rfl, hc, H⟩ := h
  refine ⟨ao, c, rfl, hc, fun i u hi => ?_⟩
  obtain ⟨b, o, e, hx⟩ := H i u hi
  exact ⟨b, o, e, (hb.cell (block_lt_of_cell hx)).trans hx⟩
theorem JL.below {w w' : World} {v : Value} {L : List (List Int)} (h : JL w v L) (hb : Below w.heap.size w w') : JL w' v L := by
  obtain ⟨ao, c, rfl, hc, H⟩ := h
  refine ⟨ao, c, rfl, hc, fun i u hi => ?_⟩
  obtain ⟨b, o, x, e, hx, hB⟩ := H i u hi
  exact ⟨b, o, x, e, (hb.cell (block_lt_of_cell hx)).trans hx, hB.below hb⟩
def numsL (L : List Int) : List Int := L.flatMap num4
theorem numsL_length (L : List Int) : (numsL L).length = 4 * L.length := by
  induction L with
  | nil => rfl
  | cons x L ih => simp [numsL, num4] at ih ⊢; omega
theorem numsL_take {L : List Int} {k : Nat} {u : Int} (h : L[k]? = some u) : numsL (L.take (k + 1)) = numsL (L.take k) ++ num4 u := by
  rw [List.take_add_one, h]; simp [numsL]
theorem join_take {L : List (List Int)} {k : Nat} {u : List Int} (h : L[k]? = some u) : (L.take (k + 1)).flatten = (L.take k).flatten ++ u := by
  rw [List.take_add_one, h]; simp
theorem take_le_flatten (L : List (List Int)) (k : Nat) : (L.take k).flatten.length ≤ L.flatten.length := by
  have h : L.flatten = (L.take k).flatten ++ (L.drop k).flatten := by rw [← List.flatten_append, List.take_append_drop]
  rw [h, List.length_append]; omega

set_option maxRecDepth 100000 in
set_option maxHeartbeats 4000000 in
theorem nums_any (v : Value) (L : List Int) (w : World) (hv : IL w v L) (hn : L.length ≤ 1000000) :
    Calls Try.prog 57 #[v] w fun e w' => ∃ r, e = .returned r ∧ Own w' w.heap.size r (numsL L) ∧ Below w.heap.size w w' := by
  obtain ⟨ao, c, rfl, hc, H⟩ := hv
  have HL := Lib.hid H
  obtain ⟨n, hN⟩ : ∃ n, n = L.length := ⟨_, rfl⟩
  rw [← hN] at hc hn ⊢
  have HN := Lib.hid hN
  clear H hN
  go_enter Try.func57, Try.ntmps57
  go_wp2_with fail
  go_loopw [4, 3] (fun i r wr => ∃ k : Nat, k ≤ n ∧ i = .int .i64 (k : Int) ∧ Own wr w.heap.size r (numsL (L.take k)) ∧ Below w.heap.size w wr) (fun i _ _ => n - (intOf i).toNat)
  case atStart => exact ⟨0, Nat.zero_le _, rfl, own_nil _ _, Below.refl _ _⟩
  case round =>
    obtain ⟨k, hk, rfl, ho, hb⟩ := hrel
    obtain ⟨ra, rc, hr⟩ := ho.shape
    subst hr
    have HO := Lib.hid ho
    have HB := Lib.hid hb
    clear ho hb
    by_cases hlt : k < n
    · have hlt' : k < L.length := by rw [← HN.out]; exact hlt
      obtain ⟨u, hu⟩ : ∃ u, L[k]? = some u := ⟨_, List.getElem?_eq_getElem hlt'⟩
      obtain ⟨b, o, rfl, hx⟩ := HL.out k u hu
      replace hx := (HB.out.cell (block_lt_of_cell hx)).trans hx
      have HU := Lib.hid hu
      have HX := Lib.hid hx
      clear hu hlt'
      go_wp2_with fail
      refine (num_any u wr).mono ?_
      rintro e w2 ⟨v2, rfl, h2, hb2⟩
      obtain ⟨va, vc, hv2⟩ := h2.shape
      subst hv2
      have H2 := Lib.hid h2.bl
      have HB2 := Lib.hid hb2
      have hlen : (numsL (L.take k)).length + (num4 u).length ≤ 100000000 := by rw [numsL_length]; simp [num4]; omega
      have HLE := Lib.hid hlen
      have hsz : w.heap.size ≤ w2.heap.size := by have := HB.out.size; have := hb2.size; omega
      clear h2 hb2 hlen hx
      go_wp2_with (at_builtin; refine wpList_bytes w2 rfl (.tmp 11) (.tmp 16) rfl w.heap.size _ _ _ _ rfl (HO.out.below HB2.out) rfl H2.out HLE.out hsz ?_)
      intro v3 w3 h3 hb3
      obtain ⟨wa, wc, hv3⟩ := h3.shape
      subst hv3
      have H3 := Lib.hid h3
      have HB3 := Lib.hid (HB.out.trans ((HB2.out.mono HB.out.size).trans hb3))
      clear h3 hb3
      go_wp2_with fail
      go_roundw
      case rel => exact ⟨k + 1, by omega, by go_num, by rw [numsL_take HU.out]; exact H3.out, HB3.out⟩
      case measure => simp [intOf]; omega
    · obtain rfl : k = n := by omega
      go_wp2_with fail
      go_ret
      have e : L.take k = L := by rw [HN.out, List.take_length]
      have h := HO.out
      rw [e] at h ⊢
      exact ⟨_, rfl, h, HB.out⟩

set_option maxRecDepth 100000 in
set_option maxHeartbeats 4000000 in
theorem join_any (v : Value) (L : List (List Int)) (w : World) (hv : JL w v L) (hn : L.length ≤ 1000000) (hn2 : L.flatten.length ≤ 100000000) :
    Calls Try.prog 44 #[v] w fun e w' => ∃ r, e = .returned r ∧ Own w' w.heap.size r L.flatten ∧ Below w.heap.size w w' := by
  obtain ⟨ao, c, rfl, hc, H⟩ := hv
  have HL := Lib.hid H
  have HN2 := Lib.hid hn2
  obtain ⟨n, hN⟩ : ∃ n, n = L.length := ⟨_, rfl⟩
  rw [← hN] at hc hn ⊢
  have HN := Lib.hid hN
  clear H hN hn2
  go_enter Try.func44, Try.ntmps44
  go_wp2_with fail
  go_loopw [4, 3] (fun i r wr => ∃ k : Nat, k ≤ n ∧ i = .int .i64 (k : Int) ∧ Own wr w.heap.size r (L.take k).flatten ∧ Below w.heap.size w wr) (fun i _ _ => n - (intOf i).toNat)
  case atStart => exact ⟨0, Nat.zero_le _, rfl, own_nil _ _, Below.refl _ _⟩
  case round =>
    obtain ⟨k, hk, rfl, ho, hb⟩ := hrel
    obtain ⟨ra, rc, hr⟩ := ho.shape
    subst hr
    have HO := Lib.hid ho
    have HB := Lib.hid hb
    clear ho hb
    by_cases hlt : k < n
    · have hlt' : k < L.length := by rw [← HN.out]; exact hlt
      obtain ⟨u, hu⟩ : ∃ u, L[k]? = some u := ⟨_, List.getElem?_eq_getElem hlt'⟩
      obtain ⟨b, o, x, rfl, hx, hbl⟩ := HL.out k u hu
      obtain ⟨xa, xc, hxv⟩ := hbl.shape
      subst hxv
      replace hx := (HB.out.cell (block_lt_of_cell hx)).trans hx
      have HU := Lib.hid hu
      have HX := Lib.hid (hbl.below HB.out)
      have hlen : (L.take k).flatten.length + u.length ≤ 100000000 := by
        have := take_le_flatten L (k + 1)
        rw [join_take hu, List.length_append] at this
        have := HN2.out
        omega
      have HLE := Lib.hid hlen
      have HSZ := Lib.hid HB.out.size
      clear hu hlt' hbl hlen
      go_wp2_with (at_builtin; refine wpList_bytes wr rfl (.tmp 11) (.tmp 15) rfl w.heap.size _ _ _ _ rfl HO.out rfl HX.out HLE.out HSZ.out ?_)
      intro v3 w3 h3 hb3
      obtain ⟨wa, wc, hv3⟩ := h3.shape
      subst hv3
      have H3 := Lib.hid h3
      have HB3 := Lib.hid (HB.out.trans hb3)
      clear h3 hb3
      go_wp2_with fail
      go_roundw
      case rel => exact ⟨k + 1, by omega, by go_num, by rw [join_take HU.out]; exact H3.out, HB3.out⟩
      case measure => simp [intOf]; omega
    · obtain rfl : k = n := by omega
      go_wp2_with fail
      go_ret
      have e : L.take k = L := by rw [HN.out, List.take_length]
      have h := HO.out
      rw [e] at h ⊢
      exact ⟨_, rfl, h, HB.out⟩

end Go.Proofs.Ytkhjkemllgjfmaa

/- The contract of the reference's box, zeros. -/
namespace Go.Proofs.Ytkhjkemllgjfmaa
open Go.RowKit
set_option linter.unusedVariables false
set_option linter.unusedSimpArgs false

def strB (s : ByteArray) : List Int := s.data.toList.map fun b => (b.toNat : Int)
theorem strB_length (s : ByteArray) : (strB s).length = s.size := by simp [strB]
def boxL (name : ByteArray) (d : List Int) : List Int := num4 ((d.length : Int) + 8) ++ (strB name ++ d)
theorem below_bytes (w : World) (s : ByteArray) : Below w.heap.size w (Lib.bytesWorld w 5 s) :=
  ⟨rfl, rfl, rfl, by rw [Lib.bytesWorld_size]; omega, fun k hk => Lib.bytesWorld_at_old w 5 s k hk⟩
theorem bl_bytes (w : World) (s : ByteArray) (c : Nat) (hc : s.size ≤ c) : BL (Lib.bytesWorld w 5 s) (.slice (some ⟨w.heap.size, 0, none⟩) s.size c) (strB s) := by
  refine ⟨_, c, by rw [strB_length], by rw [strB_length]; exact hc, fun i u hi => ⟨w.heap.size, 0, rfl, ?_⟩⟩
  have hl : i < s.size := by have := (List.getElem?_eq_some_iff.1 hi).1; rwa [strB_length] at this
  rw [Nat.zero_add, Lib.bytesWorld_cell w 5 s i hl]
  simp only [strB, List.getElem?_map, Option.map_eq_some_iff] at hi
  obtain ⟨z, hz, rfl⟩ := hi
  rw [List.getD, hz]; rfl

/-- Slices of bytes laid side by side. -/
def All2 (w : World) : List Value → List (List Int) → Prop
  | [], [] => True
  | v :: vs, L :: Ls => BL w v L ∧ All2 w vs Ls
  | _, _ => False
theorem All2.get {w : World} : ∀ {vs : List Value} {Ls : List (List Int)}, All2 w vs Ls → vs.length = Ls.length ∧ ∀ (i : Nat) (L : List Int), Ls[i]? = some L → ∃ v, vs[i]? = some v ∧ BL w v L
  | [], [], _ => ⟨rfl, fun i L h => by simp at h⟩
  | v :: vs, L :: Ls, h => by
    obtain ⟨h1, h2⟩ := h
    obtain ⟨h3, h4⟩ := All2.get h2
    refine ⟨by simp [h3], fun i M hi => ?_⟩
    cases i with
    | zero => simp at hi; subst hi; exact ⟨v, rfl, h1⟩
    | succ i => exact h4 i M (by simpa using hi)
theorem All2.below {w w' : World} (hb : Below w.heap.size w w') : ∀ {vs : List Value} {Ls : List (List Int)}, All2 w vs Ls → All2 w' vs Ls
  | [], [], _ => trivial
  | v :: vs, L :: Ls, h => ⟨h.1.below hb, All2.below hb h.2⟩
theorem JL.build {w : World} {vs : List Value} {Ls : List (List Int)} (t : TypeId) (h : All2 w vs Ls) : JL (w.alloc (.cells vs.toArray t)) (.slice (some ⟨w.heap.size, 0, none⟩) Ls.length Ls.length) Ls := by
  refine ⟨_, _, rfl, Nat.le_refl _, fun i L hi => ?_⟩
  obtain ⟨v, hv, hB⟩ := h.get.2 i L hi
  refine ⟨w.heap.size, 0, v, rfl, ?_, hB.below (below_box _ _)⟩
  have : i < vs.length := (List.getElem?_eq_some_iff.1 hv).1
  simp [go_sem, hv]

set_option maxRecDepth 100000 in
set_option maxHeartbeats 4000000 in
theorem box_any (name : ByteArray) (v : Value) (L : List (List Int)) (w : World) (hv : JL w v L) (hn : L.length ≤ 1000000) (hn2 : L.flatten.length ≤ 90000000) (hnm : name.size ≤ 1000) :
    Calls Try.prog 45 #[.string name, v] w fun e w' => ∃ r, e = .returned r ∧ Own w' w.heap.size r (boxL name L.flatten) ∧ Below w.heap.size w w' := by
  have HV := Lib.hid hv
  obtain ⟨D, hD⟩ : ∃ D, D = L.flatten := ⟨_, rfl⟩
  have hJ := join_any v L w hv hn (by omega)
  rw [← hD] at hJ hn2 ⊢
  have HJ := Lib.hid hJ
  obtain ⟨ao, c, rfl⟩ := (show ∃ a c, v = .slice a L.length c from by obtain ⟨a, c, e, _⟩ := hv; exact ⟨a, c, e⟩)
  clear hD hJ hv
  go_enter Try.func45, Try.ntmps45
  go_wp2_with fail
  refine HJ.out.mono ?_
  rintro e w2 ⟨d, rfl, hd, hb⟩
  obtain ⟨da, dc, hdv⟩ := hd.shape
  subst hdv
  have HD := Lib.hid hd
  have HB := Lib.hid hb
  clear hd hb
  go_wp2_with fail
  refine (num_any _ w2).mono ?_
  rintro e w3 ⟨m, rfl, hm, hb3⟩
  obtain ⟨ma, mc, hmv⟩ := hm.shape
  subst hmv
  have HM := Lib.hid hm
  have HB3 := Lib.hid hb3
  clear hm hb3
  have hcv := Lib.run_convert_string_bytes (P := Try.prog) w3 9 22 5 name Try.underlying9 Try.underlying22 Try.underlying5
  have hgc : name.size ≤ grownCap w3 name.size 0 5 := grownCap_ge _ _ _ _
  have HG := Lib.hid (bl_bytes w3 name _ hgc)
  clear hgc
  go_wp2_with fail
  obtain ⟨w4, hw4⟩ : ∃ x, x = Lib.bytesWorld w3 5 name := ⟨_, rfl⟩
  have hb34 : Below w3.heap.size w3 w4 := by rw [hw4]; exact below_bytes _ _
  have HG4 := Lib.hid (show BL w4 (.slice (some ⟨w3.heap.size, 0, none⟩) name.size (grownCap w3 name.size 0 5)) (strB name) by rw [hw4]; exact HG.out)
  rw [← hw4]
  have HB4 := Lib.hid (HB3.out.trans (hb34.mono HB3.out.size))
  have HM4 := Lib.hid (HM.out.bl.below hb34)
  have HD4 := Lib.hid (HD.out.bl.below HB4.out)
  clear hw4 hb34 hcv
  have hf : [num4 ((D.length : Int) + 8), strB name, D].flatten = boxL name D := by simp [boxL]
  have HJ2 : Hid (JL (w4.alloc (.cells #[.slice ma (num4 ((D.length : Int) + 8)).length mc, .slice (some ⟨w3.heap.size, 0, none⟩) name.size (grownCap w3 name.size 0 5), .slice da D.length dc] 22)) (.slice (some ⟨w4.heap.size, 0, none⟩) 3 3) [num4 ((D.length : Int) + 8), strB name, D]) := Lib.hid (JL.build (w := w4) (vs := [.slice ma (num4 ((D.length : Int) + 8)).length mc, .slice (some ⟨w3.heap.size, 0, none⟩) name.size (grownCap w3 name.size 0 5), .slice da D.length dc]) (Ls := [num4 ((D.length : Int) + 8), strB name, D]) 22 ⟨HM4.out, HG4.out, HD4.out, trivial⟩)
  refine (join_any _ _ _ HJ2.out (by simp) (by rw [hf]; simp [boxL, strB_length, num4]; omega)).mono ?_
  rintro e w5 ⟨r, rfl, hr, hb5⟩
  rw [hf] at hr
  have hb := HB.out.trans ((HB4.out.trans ((below_box w4 _).trans (hb5.mono (by simp)) |>.mono HB4.out.size)).mono HB.out.size)
  have hs := (HB.out.trans (HB4.out.mono HB.out.size)).size
  obtain ⟨ra, rc, hrv⟩ := hr.shape
  subst hrv
  have HR := Lib.hid (And.intro (hr.mono (show w.heap.size ≤ _ by simp; omega)) hb)
  clear hr hb5 hb hs hf
  go_wp2_with fail
  go_ret
  exact ⟨_, rfl, HR.out.1, HR.out.2⟩
end Go.Proofs.Ytkhjkemllgjfmaa

/- The contracts of the reference's zeros, turned, chunks, config, runs. -/
namespace Go.Proofs.Ytkhjkemllgjfmaa
open Go.RowKit
set_option linter.unusedVariables false
set_option linter.unusedSimpArgs false

set_option maxRecDepth 100000 in
theorem zeros_any (n : Nat) (w : World) (hn : n ≤ 1000) :
    Calls Try.prog 56 #[.int .i64 (n : Int)] w fun e w' => ∃ r, e = .returned r ∧ Own w' w.heap.size r (List.replicate n 0) ∧ Below w.heap.size w w' := by
  obtain ⟨i0, hi, hz0, hz1, hz2⟩ := info_parts info5
  go_enter Try.func56, Try.ntmps56
  go_wp2_with (at_make; refine wpList_make_full _ rfl _ _ 22 rfl w.heap.size 5 i0 (.int .u8 0) 1 Try.underlying22 hi hz0 hz1 _ _ _ _ n rfl rfl rfl rfl ?_ ?_ (Nat.le_refl _) ?_)
  · rw [hz2]; omega
  · unfold maxLen; omega
  · intro w1 hown hg
    have hb1 : Below w.heap.size w w1 := (Below.refl _ _).grown hg (Nat.le_refl _) (fun k h => by cases h)
    have ho : Own w1 w.heap.size (.slice (some ⟨w.heap.size, 0, none⟩) n n) (List.replicate n 0) := by
      unfold Own; rw [List.length_replicate]
      have e : bv (List.replicate n 0) = List.replicate n (.int .u8 0) := by simp [bv]
      rw [e]
      rw [← toList_madeCells_one]
      simpa using hown
    have HO := Lib.hid ho
    have HB := Lib.hid hb1
    clear hown hg ho hb1
    go_wp2_with fail
    go_ret
    exact ⟨_, rfl, HO.out, HB.out⟩

/-- Numbers laid side by side. -/
theorem IL.build (w : World) (L : List Int) (t : TypeId) : IL (w.alloc (.cells (L.map (.int .i64)).toArray t)) (.slice (some ⟨w.heap.size, 0, none⟩) L.length L.length) L := by
  refine ⟨_, _, rfl, Nat.le_refl _, fun i u hi => ⟨w.heap.size, 0, rfl, ?_⟩⟩
  simp [go_sem, hi]
def matL : List Int := numsL [65536, 0, 0, 0, 65536, 0, 0, 0, 1073741824]
def chunkL : List Int := numsL [0, 1, 1, 1, 1]
def confL (c : List Int) : List Int := numsL [0, 1] ++ boxL ⟨#[99, 114, 115, 100]⟩ (List.replicate 6 0 ++ ([0, 1] ++ c))

set_option maxRecDepth 100000 in
theorem turned_any (w : World) : Calls Try.prog 58 #[] w fun e w' => ∃ r, e = .returned r ∧ Own w' w.heap.size r matL ∧ Below w.heap.size w w' := by
  have HI : Hid (IL (w.alloc (.cells #[.int .i64 65536, .int .i64 0, .int .i64 0, .int .i64 0, .int .i64 65536, .int .i64 0, .int .i64 0, .int .i64 0, .int .i64 1073741824] 2)) (.slice (some ⟨w.heap.size, 0, none⟩) 9 9) [65536, 0, 0, 0, 65536, 0, 0, 0, 1073741824]) := Lib.hid (IL.build w [65536, 0, 0, 0, 65536, 0, 0, 0, 1073741824] 2)
  go_enter Try.func58, Try.ntmps58
  go_wp2_with fail
  refine (nums_any _ _ _ HI.out (by simp)).mono ?_
  rintro e w5 ⟨r, rfl, hr, hb5⟩
  obtain ⟨ra, rc, hrv⟩ := hr.shape
  subst hrv
  have HR := Lib.hid (And.intro (hr.mono (show w.heap.size ≤ _ by simp)) ((below_box w _).trans (hb5.mono (by simp))))
  clear hr hb5
  go_wp2_with fail
  go_ret
  exact ⟨_, rfl, HR.out.1, HR.out.2⟩
set_option maxRecDepth 100000 in
theorem rchunks_any (w : World) : Calls Try.prog 68 #[] w fun e w' => ∃ r, e = .returned r ∧ Own w' w.heap.size r chunkL ∧ Below w.heap.size w w' := by
  have HI : Hid (IL (w.alloc (.cells #[.int .i64 0, .int .i64 1, .int .i64 1, .int .i64 1, .int .i64 1] 2)) (.slice (some ⟨w.heap.size, 0, none⟩) 5 5) [0, 1, 1, 1, 1]) := Lib.hid (IL.build w [0, 1, 1, 1, 1] 2)
  go_enter Try.func68, Try.ntmps68
  go_wp2_with fail
  refine (nums_any _ _ _ HI.out (by simp)).mono ?_
  rintro e w5 ⟨r, rfl, hr, hb5⟩
  obtain ⟨ra, rc, hrv⟩ := hr.shape
  subst hrv
  have HR := Lib.hid (And.intro (hr.mono (show w.heap.size ≤ _ by simp)) ((below_box w _).trans (hb5.mono (by simp))))
  clear hr hb5
  go_wp2_with fail
  go_ret
  exact ⟨_, rfl, HR.out.1, HR.out.2⟩
/-- The contract of config. -/
theorem own_lit (w : World) (L : List Int) (h : L.length ≤ maxLen) : Own (w.alloc (.cells (bv L).toArray 5)) w.heap.size (.slice (some ⟨w.heap.size, 0, none⟩) L.length L.length) L :=
  owns_many w 5 1 L.length (bv L).toArray (by simp [bv]) h
theorem confL_length (c : List Int) : (confL c).length = c.length + 24 := by
  simp [confL, boxL, num4, strB_length, numsL_length]; simp [ByteArray.size]; omega
set_option maxRecDepth 100000 in
set_option maxHeartbeats 4000000 in
theorem conf_any (v : Value) (C : List Int) (w : World) (hv : BL w v C) (hn : C.length ≤ 1000000) :
    Calls Try.prog 66 #[v] w fun e w' => ∃ r, e = .returned r ∧ Own w' w.heap.size r (confL C) ∧ Below w.heap.size w w' := by
  obtain ⟨ca, cc, rfl⟩ := hv.shape
  have BC := Lib.hid hv
  clear hv
  go_enter Try.func66, Try.ntmps66
  go_wp2_with fail
  have HI : Hid (IL (w.alloc (.cells #[.int .i64 0, .int .i64 1] 2)) (.slice (some ⟨w.heap.size, 0, none⟩) 2 2) [0, 1]) := Lib.hid (IL.build w [0, 1] 2)
  refine (nums_any _ _ _ HI.out (by simp)).mono ?_
  rintro e wc1 ⟨r, rfl, hr, hb0⟩
  have hb : Below w.heap.size w wc1 := (below_box w _).trans (hb0.mono (by simp <;> omega))
  obtain ⟨L1, hL1⟩ : ∃ x, x = numsL [0, 1] := ⟨_, rfl⟩
  rw [← hL1] at hr
  replace hr := hr.mono (show w.heap.size ≤ _ by simp <;> omega)
  obtain ⟨aL1, cL1, hv⟩ := hr.shape
  subst hv
  have NL1 := Lib.hid (show L1.length = 8  from by rw [hL1, numsL_length]; rfl)
  have EL1 := Lib.hid hL1
  have HBwc1 := Lib.hid (hb)
  replace BC := Lib.hid (BC.out.below hb)
  have BL1 := Lib.hid hr
  clear hr hb hb0 hL1 HI
  go_wp2_with fail
  refine (zeros_any 6 _ (by omega)).mono ?_
  rintro e wc2 ⟨r, rfl, hr, hb0⟩
  have hb := hb0
  obtain ⟨L2, hL2⟩ : ∃ x, x = List.replicate 6 (0 : Int) := ⟨_, rfl⟩
  rw [← hL2] at hr
  replace hr := hr.mono (show w.heap.size ≤ _ by have := HBwc1.out.size; simp <;> omega)
  obtain ⟨aL2, cL2, hv⟩ := hr.shape
  subst hv
  have NL2 := Lib.hid (show L2.length = 6  from by rw [hL2, List.length_replicate])
  have EL2 := Lib.hid hL2
  have HBwc2 := Lib.hid (HBwc1.out.trans (hb.mono HBwc1.out.size))
  replace BC := Lib.hid (BC.out.below hb)
  replace BL1 := Lib.hid (BL1.out.below hb)
  have BL2 := Lib.hid hr
  clear hr hb hb0 hL2 
  go_wp2_with fail
  have HJ : Hid (JL (((wc2.alloc (.cells #[.int .u8 0, .int .u8 1] 5)).alloc (.cells #[.slice aL2 L2.length cL2, .slice (some ⟨wc2.heap.size, 0, none⟩) 2 2, .slice ca C.length cc] 22))) (.slice (some ⟨wc2.heap.size + 1, 0, none⟩) 3 3) [L2, [0, 1], C]) := Lib.hid (by
    have hl : BL (wc2.alloc (.cells #[.int .u8 0, .int .u8 1] 5)) (.slice (some ⟨wc2.heap.size, 0, none⟩) 2 2) [0, 1] := (own_lit wc2 [0, 1] (by decide)).bl
    have h := JL.build (w := wc2.alloc (.cells #[.int .u8 0, .int .u8 1] 5)) (vs := [.slice aL2 L2.length cL2, .slice (some ⟨wc2.heap.size, 0, none⟩) 2 2, .slice ca C.length cc]) (Ls := [L2, [0, 1], C]) 22 ⟨BL2.out.bl.below (below_box _ _), hl, BC.out.below (below_box _ _), trivial⟩
    rw [World.size_alloc] at h
    exact h)
  refine (box_any ⟨#[99, 114, 115, 100]⟩ _ _ _ HJ.out (by simp) (by simp; have := NL1.out; have := NL2.out; omega) (by decide)).mono ?_
  rintro e wc3 ⟨r, rfl, hr, hb0⟩
  have hb : Below wc2.heap.size wc2 wc3 := ((below_box wc2 _).alloc (by simp <;> omega) _).trans (hb0.mono (by simp <;> omega))
  obtain ⟨L3, hL3⟩ : ∃ x, x = boxL ⟨#[99, 114, 115, 100]⟩ [L2, [0, 1], C].flatten := ⟨_, rfl⟩
  rw [← hL3] at hr
  replace hr := hr.mono (show w.heap.size ≤ _ by have := HBwc2.out.size; simp <;> omega)
  obtain ⟨aL3, cL3, hv⟩ := hr.shape
  subst hv
  have NL3 := Lib.hid (show L3.length = C.length + 16 from by rw [hL3]; simp [boxL, num4, strB_length, NL2.out]; simp [ByteArray.size] <;> omega)
  have EL3 := Lib.hid hL3
  have HBwc3 := Lib.hid (HBwc2.out.trans (hb.mono HBwc2.out.size))
  replace BC := Lib.hid (BC.out.below hb)
  replace BL1 := Lib.hid (BL1.out.below hb)
  replace BL2 := Lib.hid (BL2.out.below hb)
  have BL3 := Lib.hid hr
  clear hr hb hb0 hL3 HJ
  go_wp2_with fail
  have HJ : Hid (JL ((wc3.alloc (.cells #[.slice aL1 L1.length cL1, .slice aL3 L3.length cL3] 22))) (.slice (some ⟨wc3.heap.size, 0, none⟩) 2 2) [L1, L3]) := Lib.hid (JL.build (w := wc3) (vs := [.slice aL1 L1.length cL1, .slice aL3 L3.length cL3]) (Ls := [L1, L3]) 22 ⟨BL1.out.bl, BL3.out.bl, trivial⟩)
  refine (join_any _ _ _ HJ.out (by simp) (by simp; have := NL1.out; have := NL2.out; have := NL3.out; omega)).mono ?_
  rintro e wc4 ⟨r, rfl, hr, hb0⟩
  have hb : Below wc3.heap.size wc3 wc4 := (below_box wc3 _).trans (hb0.mono (by simp <;> omega))
  obtain ⟨L4, hL4⟩ : ∃ x, x = [L1, L3].flatten := ⟨_, rfl⟩
  rw [← hL4] at hr
  replace hr := hr.mono (show w.heap.size ≤ _ by have := HBwc3.out.size; simp <;> omega)
  obtain ⟨aL4, cL4, hv⟩ := hr.shape
  subst hv
  have NL4 := Lib.hid (show L4 = confL C from by rw [hL4, EL3.out, EL2.out, EL1.out]; simp [confL])
  have EL4 := Lib.hid hL4
  have HBwc4 := Lib.hid (HBwc3.out.trans (hb.mono HBwc3.out.size))
  replace BC := Lib.hid (BC.out.below hb)
  replace BL1 := Lib.hid (BL1.out.below hb)
  replace BL2 := Lib.hid (BL2.out.below hb)
  replace BL3 := Lib.hid (BL3.out.below hb)
  have BL4 := Lib.hid hr
  clear hr hb hb0 hL4 HJ
  go_wp2_with fail
  go_ret
  rw [NL4.out] at BL4 ⊢
  exact ⟨_, rfl, BL4.out, HBwc4.out⟩
end Go.Proofs.Ytkhjkemllgjfmaa

/- A row that grows while all else stays: the contracts of the program's appendNumbers, appendMatrix, chunks. -/
namespace Go.Proofs.Ytkhjkemllgjfmaa
open Go.RowKit
set_option linter.unusedVariables false
set_option linter.unusedSimpArgs false

/-- A row v has become v'; no other block of the old world has changed. -/
structure Adv0 (w w' : World) (v v' : Value) : Prop where
  g : w.grownBy w' v.ownBlock
  o : v'.ownBlock = v.ownBlock ∨ ∃ k, v'.ownBlock = some k ∧ w.heap.size ≤ k
/-- .. and what v held, it holds, at the beginning of v'. -/
structure Adv (w w' : World) (v v' : Value) : Prop extends Adv0 w w' v v' where
  pre : ∀ B L, B ≤ w.heap.size → Own w B v L → Own w' B v L ∧ ∃ X, Own w' B v' (L ++ X)
theorem own_uniq {w : World} {B B' : Nat} {v : Value} {L L' : List Int} (h : Own w B v L) (h' : Own w B' v L') : L = L' := by
  have inj : ∀ {L L' : List Int}, bv L = bv L' → L = L' := by
    intro L L' e
    have := congrArg (List.map fun u : Value => match u with | .int _ n => n | _ => 0) e
    simpa [bv, Function.comp_def] using this
  rcases h.2 with ⟨rfl, h0⟩ | ⟨g, cap, cur, rfl, _, hg, _, _, _, ht⟩
  · rcases h'.2 with ⟨_, h0'⟩ | ⟨g', _, _, e, _⟩
    · rw [List.length_eq_zero_iff.1 h0, List.length_eq_zero_iff.1 h0']
    · simp at e
  · rcases h'.2 with ⟨e, _⟩ | ⟨g', cap', cur', e, _, hg', _, _, _, ht'⟩
    · simp at e
    · simp only [Value.slice.injEq, Option.some.injEq, Addr.mk.injEq, and_true] at e
      obtain ⟨rfl, e2, rfl⟩ := e
      rw [hg] at hg'
      simp only [Option.some.injEq, Obj.cells.injEq, and_true] at hg'
      obtain ⟨rfl, _⟩ := hg'
      rw [e2, ht'] at ht
      exact inj ht.symm
/-- The beginning of a row. -/
theorem own_take {w : World} {B g n n' cap : Nat} {L X : List Int} (hn : n = L.length) (h : Own w B (.slice (some ⟨g, 0, none⟩) n' cap) (L ++ X)) : Own w B (.slice (some ⟨g, 0, none⟩) n cap) L := by
  subst hn
  rcases h.2 with ⟨e, _⟩ | ⟨g', cap', cur, e, hB, hg, hc, hm, hs, ht⟩
  · simp at e
  · simp only [Value.slice.injEq, Option.some.injEq, Addr.mk.injEq, and_true] at e
    obtain ⟨rfl, rfl, rfl⟩ := e
    refine ⟨by simp [bv], .inr ⟨g, cap, cur, rfl, hB, hg, by rw [List.length_append] at hc; omega, hm, hs, ?_⟩⟩
    have h1 : ((cur.toList.take ((L ++ X).length * 1))).take L.length = (bv (L ++ X)).take L.length := by rw [ht]
    have h2 : (bv L ++ bv X).take L.length = bv L := by rw [List.take_append_of_le_length (by simp [bv]), List.take_of_length_le (by simp [bv])]
    rw [List.take_take, Nat.mul_one, Nat.min_eq_left (by rw [List.length_append]; omega), bv_append, h2] at h1
    rw [Nat.mul_one]
    exact h1
theorem own_stay {w w' : World} {B : Nat} {v : Value} {L : List Int} {p : Option Nat} (h : Own w B v L) (hp : ∀ g, v.ownBlock = some g → p ≠ some g) (hg : w.grownBy w' p) : Own w' B v L := by
  obtain ⟨h1, h2⟩ := h
  refine ⟨h1, ?_⟩
  rcases h2 with h2 | ⟨g, cap, cur, rfl, hB, hb, h3⟩
  · exact .inl h2
  · exact .inr ⟨g, cap, cur, rfl, hB, (hg.block g (Array.getElem?_eq_some_iff.1 hb).1 (fun e => hp g rfl e.symm)).trans hb, h3⟩
theorem own_caps {w : World} {B B' g n n' cap cap' : Nat} {L L' : List Int} (h : Own w B (.slice (some ⟨g, 0, none⟩) n cap) L) (h' : Own w B' (.slice (some ⟨g, 0, none⟩) n' cap') L') : cap = cap' := by
  rcases h.2 with ⟨e, _⟩ | ⟨g1, c1, cur, e, _, hg, _, _, hs, _⟩
  · simp at e
  · rcases h'.2 with ⟨e', _⟩ | ⟨g2, c2, cur', e', _, hg', _, _, hs', _⟩
    · simp at e'
    · simp only [Value.slice.injEq, Option.some.injEq, Addr.mk.injEq, and_true] at e e'
      obtain ⟨rfl, _, rfl⟩ := e
      obtain ⟨rfl, _, rfl⟩ := e'
      rw [hg] at hg'
      simp only [Option.some.injEq, Obj.cells.injEq, and_true] at hg'
      rw [hg'] at hs
      omega
theorem own_shape2 {w : World} {B : Nat} {v : Value} {L : List Int} (h : Own w B v L) : (v = .slice none 0 0 ∧ L = []) ∨ ∃ g cap, v = .slice (some ⟨g, 0, none⟩) L.length cap ∧ B ≤ g ∧ g < w.heap.size := by
  rcases h.2 with ⟨rfl, h0⟩ | ⟨g, cap, cur, rfl, hB, hg, _⟩
  · exact .inl ⟨rfl, List.length_eq_zero_iff.1 h0⟩
  · exact .inr ⟨g, cap, rfl, hB, (Array.getElem?_eq_some_iff.1 hg).1⟩
theorem own_lower {w : World} {B B' g n cap : Nat} {L : List Int} (h : Own w B (.slice (some ⟨g, 0, none⟩) n cap) L) (hB : B' ≤ g) : Own w B' (.slice (some ⟨g, 0, none⟩) n cap) L := by
  obtain ⟨h1, h2⟩ := h
  refine ⟨h1, ?_⟩
  rcases h2 with h2 | ⟨g', cap', cur, e, _, h3⟩
  · exact .inl h2
  · have e' := e
    simp only [Value.slice.injEq, Option.some.injEq, Addr.mk.injEq, and_true] at e'
    obtain ⟨rfl, _, _⟩ := e'
    exact .inr ⟨g, cap', cur, e, hB, h3⟩
theorem Adv0.refl (w : World) (v : Value) : Adv0 w w v v := ⟨⟨rfl, rfl, rfl, Nat.le_refl _, fun _ _ _ => rfl⟩, .inl rfl⟩
theorem Adv0.trans {w w' w'' : World} {v v' v'' : Value} (h1 : Adv0 w w' v v') (h2 : Adv0 w' w'' v' v'') : Adv0 w w'' v v'' := by
  have hs := h1.g.size
  refine ⟨⟨h2.g.os.trans h1.g.os, h2.g.tape.trans h1.g.tape, h2.g.output.trans h1.g.output, by have := h2.g.size; omega, fun k hk hne => ?_⟩, ?_⟩
  · have e1 := h1.g.block k hk hne
    have e2 := h2.g.block k (by omega) (by
      rcases h1.o with e | ⟨j, e, hj⟩
      · rw [e]; exact hne
      · rw [e]; intro h; cases h; omega)
    rw [e2, e1]
  · rcases h2.o with e | ⟨j, e, hj⟩
    · rcases h1.o with e1 | ⟨j, e1, hj⟩
      · exact .inl (e.trans e1)
      · exact .inr ⟨j, e.trans e1, hj⟩
    · exact .inr ⟨j, e, by omega⟩
/-- A row that keeps its beginning while what has grown out of it is changed behind that. -/
theorem keep_pre {w w1 w2 : World} {B : Nat} {v v' : Value} {L X Y : List Int} (ho : v'.ownBlock = v.ownBlock ∨ ∃ k, v'.ownBlock = some k ∧ w.heap.size ≤ k) (h0 : Own w B v L) (h1 : Own w1 B v L) (h1' : Own w1 B v' (L ++ X)) (hg : w1.grownBy w2 v'.ownBlock) (h2 : Own w2 B v' (L ++ Y)) : Own w2 B v L := by
  rcases own_shape2 h0 with ⟨rfl, rfl⟩ | ⟨g, cap, rfl, hB, hlt⟩
  · exact own_nil _ _
  · rcases ho with e | ⟨k, e, hk⟩
    · rcases own_shape2 h1' with ⟨rfl, _⟩ | ⟨g', cap', rfl, hB', hlt'⟩
      · cases e
      · obtain rfl : g' = g := by simpa [Value.ownBlock] using e
        obtain rfl := own_caps h1 h1'
        exact own_take rfl h2
    · refine own_stay h1 (fun g' hg' => ?_) hg
      rw [e]
      intro h
      cases h
      have : g = k := by simpa [Value.ownBlock] using hg'
      omega
theorem Adv.refl (w : World) (v : Value) : Adv w w v v := ⟨Adv0.refl w v, fun B L _ h => ⟨h, [], by rw [List.append_nil]; exact h⟩⟩
theorem Adv.trans {w w' w'' : World} {v v' v'' : Value} (h1 : Adv w w' v v') (h2 : Adv w' w'' v' v'') : Adv w w'' v v'' := by
  refine ⟨h1.toAdv0.trans h2.toAdv0, fun B L hB h => ?_⟩
  obtain ⟨a1, X, a2⟩ := h1.pre B L hB h
  obtain ⟨b1, Y, b2⟩ := h2.pre B (L ++ X) (Nat.le_trans hB h1.g.size) a2
  refine ⟨keep_pre h1.o h a1 a2 h2.g b1, X ++ Y, by rw [← List.append_assoc]; exact b2⟩
theorem Adv.patch {w w1 w2 : World} {b r : Value} {B : Nat} {L X : List Int} (h : Adv w w1 b r) (h2 : Adv0 w1 w2 r r) (hB : B ≤ w.heap.size) (hb : Own w B b L) (hr : Own w2 B r (L ++ X)) : Adv w w2 b r := by
  refine ⟨h.toAdv0.trans h2, fun B' L' hB' h' => ?_⟩
  obtain rfl := own_uniq hb h'
  obtain ⟨a1, X1, a2⟩ := h.pre B' L hB' h'
  have hr' : Own w2 B' r (L ++ X) := by
    rcases own_shape2 a2 with ⟨rfl, e⟩ | ⟨g, cap, rfl, hg, _⟩
    · rcases own_shape2 hr with ⟨_, e2⟩ | ⟨g, cap, e2, _⟩
      · rw [e2]; exact own_nil _ _
      · simp at e2
    · exact own_lower hr hg
  exact ⟨keep_pre h.o h' a1 a2 h2.g hr', X, hr'⟩
theorem Adv.of_below {w w' : World} {v : Value} (h : Below w.heap.size w w') : Adv w w' v v := ⟨⟨⟨h.os, h.tape, h.output, h.size, fun k hk _ => h.block k hk⟩, .inl rfl⟩, fun B L _ ho => ⟨ho.below h, [], by rw [List.append_nil]; exact ho.below h⟩⟩
/-- The three ways of an append, told apart. -/
theorem adv_of {w w' : World} {B : Nat} {v v' : Value} {L M : List Int} (hown : Own w B v L) (hB : B ≤ w.heap.size) (h2 : Own w' B v' (L ++ M)) (h : (v' = v ∧ Below w.heap.size w w') ∨ (∃ g n cap, v = .slice (some ⟨g, 0, none⟩) L.length cap ∧ v' = .slice (some ⟨g, 0, none⟩) n cap ∧ w.grownBy w' (some g)) ∨ (∃ n cap, v' = .slice (some ⟨w.heap.size, 0, none⟩) n cap ∧ Below w.heap.size w w')) : Adv w w' v v' := by
  rcases h with ⟨rfl, hb⟩ | ⟨g, n, cap, rfl, rfl, hg⟩ | ⟨n, cap, rfl, hb⟩
  · exact Adv.of_below hb
  · refine ⟨⟨hg, .inl rfl⟩, fun B' L' hB' h' => ?_⟩
    obtain rfl := own_uniq hown h'
    have h2' : Own w' B' (.slice (some ⟨g, 0, none⟩) n cap) (L ++ M) := by
      rcases own_shape2 h' with ⟨e, _⟩ | ⟨g', cap', e, hg', _⟩
      · simp at e
      · simp only [Value.slice.injEq, Option.some.injEq, Addr.mk.injEq, and_true] at e
        obtain ⟨rfl, _⟩ := e
        exact own_lower h2 hg'
    exact ⟨own_take rfl h2', M, h2'⟩
  · refine ⟨⟨⟨hb.os, hb.tape, hb.output, hb.size, fun k hk _ => hb.block k hk⟩, .inr ⟨_, rfl, Nat.le_refl _⟩⟩, fun B' L' hB' h' => ?_⟩
    obtain rfl := own_uniq hown h'
    exact ⟨h'.below hb, M, own_lower h2 hB'⟩

theorem run_adv (w : World) (ty : TypeId) (B : Nat) (v vx : Value) (L M : List Int) (hown : Own w B v L) (hM : BL w vx M) (hk : L.length + M.length ≤ 100000000) (hB : B ≤ w.heap.size) :
    ∃ v' w', (Builtin.append_ #[22, 22] ty #[v, vx]).run Try.prog w = .ok v' w' ∧ Own w' B v' (L ++ M) ∧ Adv w w' v v' := by
  obtain ⟨ao, c, rfl, hc, H⟩ := hM
  obtain ⟨i0, hi, hz0, hz1, hz2⟩ := info_parts info5
  by_cases h0 : M = []
  · subst h0
    have hrun : (Builtin.append_ #[22, 22] ty #[v, .slice ao 0 c]).run Try.prog w = .ok v w := by
      rcases hown.2 with ⟨rfl, _⟩ | ⟨g, cap, cur, rfl, _, _, hnc, _⟩ <;> cases ao <;>
        simp [Builtin.append_, run_underlying Try.underlying22, sizeOf, typeInfo, hi, Builtin.lenOf, Builtin.firstCells, storeCells, loadCellsFrom, loadCells, *]
    exact ⟨v, w, hrun, by rw [List.append_nil]; exact hown, Adv.refl _ _⟩
  · obtain ⟨b, off, hst, hn⟩ : ∃ b off, ao = some ⟨b, off, none⟩ ∧ ∀ j u, (bv M)[j]? = some u → w.cell? ((⟨b, off, none⟩ : Addr).add j) = some u := by
      cases M with
      | nil => exact absurd rfl h0
      | cons m M =>
        obtain ⟨b, off, e, _⟩ := H 0 m rfl
        refine ⟨b, off, e, fun j u hj => ?_⟩
        simp only [bv, List.getElem?_map, Option.map_eq_some_iff] at hj
        obtain ⟨z, hz, rfl⟩ := hj
        obtain ⟨b', off', e', hc'⟩ := H j z hz
        rw [e] at e'
        simp only [Option.some.injEq, Addr.mk.injEq, and_true] at e'
        obtain ⟨rfl, rfl⟩ := e'
        rw [Addr.add_lit]
        exact hc'
    subst hst
    have hM0 : 0 < M.length := List.length_pos_iff.2 h0
    have hnl : (bv M).length = M.length * i0.size := by rw [hz1]; simp [bv]
    have hcat : (L ++ M).length = L.length + M.length := List.length_append
    rcases hown.2 with ⟨rfl, hl0⟩ | ⟨g, cap, cur, rfl, hbg, hg, hnc, hcm, hcs, htake⟩
    · obtain rfl := List.length_eq_zero_iff.1 hl0
      have hr := run_append_nil (P := Try.prog) w 22 ty 5 i0 (.int .u8 0) Try.underlying22 hi hz0 ⟨b, off, none⟩ M.length c (bv M) hnl hn hM0 (by omega) (by rw [hz2]; have := nextslicecap_zero hM0; omega)
      have hb : Below w.heap.size w (w.drew.alloc (.cells ((bv M).toArray ++ Builtin.zeroCells (Value.int .u8 0).cells (grownCap w M.length 0 5 - M.length)) 5)) := ((Below.refl _ w).drew).alloc (by simp) _
      have hcap : M.length ≤ grownCap w M.length 0 5 := grownCap_ge w M.length 0 5
      have h2 : Own (w.drew.alloc (.cells ((bv M).toArray ++ Builtin.zeroCells (Value.int .u8 0).cells (grownCap w M.length 0 5 - M.length)) 5)) B (.slice (some ⟨w.heap.size, 0, none⟩) M.length (grownCap w M.length 0 5)) ([] ++ M) := by
        refine ⟨by simp [bv], .inr ⟨w.heap.size, grownCap w M.length 0 5, _, by simp, hB, (MapKept.heap_alloc w.drew _).1, by simpa using hcap, grownCap_le_maxLen w M.length 0 5 (by unfold maxLen; omega), ?_, ?_⟩⟩
        · simp [bv, Builtin.zeroCells, Value.cells]
          omega
        · simp only [List.nil_append, Nat.mul_one, Array.toList_append]
          rw [List.take_append_of_le_length (by simp [bv]), List.take_of_length_le (by simp [bv])]
      exact ⟨_, _, hr, h2, adv_of hown hB h2 (.inr (.inr ⟨_, _, rfl, hb⟩))⟩
    · have hcs' : cur.size = cap := by simpa using hcs
      by_cases hroom : L.length + M.length ≤ cap
      · have hr := run_append_room (P := Try.prog) w 22 ty 5 i0 Try.underlying22 hi g L.length cap cur hg ⟨b, off, none⟩ M.length c (bv M) hnl hn (bv_one _) hroom (by rw [hz1]; simp [bv]; omega)
        have hh := setRow_heap w g cur (cur.toList.take (L.length * i0.size) ++ bv M ++ cur.toList.drop (L.length * i0.size + (bv M).length)).toArray 5 (0, 0) hg
        have hcl : cur.toList.length = cap := by simpa using hcs'
        have h2 : Own (w.setRow g (cur.toList.take (L.length * i0.size) ++ bv M ++ cur.toList.drop (L.length * i0.size + (bv M).length)).toArray) B (.slice (some ⟨g, 0, none⟩) (L.length + M.length) cap) (L ++ M) := by
          refine ⟨by simp [bv], .inr ⟨g, cap, _, by rw [hcat], hbg, hh, by rw [hcat]; exact hroom, hcm, ?_, ?_⟩⟩
          · rw [hz1]
            simp [hcl, bv]
            omega
          · rw [hz1] at *
            simp only [Nat.mul_one] at htake ⊢
            rw [htake, bv_append, List.take_append_of_le_length (by simp [bv]), List.take_of_length_le (by simp [bv])]
        refine ⟨_, _, hr, h2, adv_of hown hB h2 (.inr (.inl ⟨g, _, cap, rfl, rfl, ⟨rfl, rfl, rfl, by simp [World.setRow], fun j hj hne => setRow_other w g j _ (fun e => hne (by rw [e]))⟩⟩))⟩
      · have holds : ∀ j u, (bv L)[j]? = some u → w.cell? ((⟨g, 0, none⟩ : Addr).add j) = some u := World.ownsRow.cells (g := g) hown rfl
        have hr := run_append_grow (P := Try.prog) w 22 ty 5 i0 (.int .u8 0) Try.underlying22 hi hz0 ⟨g, 0, none⟩ L.length cap (bv L) (by rw [hz1]; simp [bv]) holds ⟨b, off, none⟩ M.length c (bv M) hnl hn (by omega) (by omega) (by rw [hz2]; exact growslice_fits (by omega) (by omega))
        have hcap : L.length + M.length ≤ grownCap w (L.length + M.length) cap 5 := grownCap_ge w _ cap 5
        have hb : Below w.heap.size w (w.drew.alloc (.cells ((bv L).toArray ++ (bv M).toArray ++ Builtin.zeroCells (Value.int .u8 0).cells (grownCap w (L.length + M.length) cap 5 - (L.length + M.length))) 5)) := ((Below.refl _ w).drew).alloc (by simp) _
        have h2 : Own (w.drew.alloc (.cells ((bv L).toArray ++ (bv M).toArray ++ Builtin.zeroCells (Value.int .u8 0).cells (grownCap w (L.length + M.length) cap 5 - (L.length + M.length))) 5)) B (.slice (some ⟨w.heap.size, 0, none⟩) (L.length + M.length) (grownCap w (L.length + M.length) cap 5)) (L ++ M) := by
          refine ⟨by simp [bv], .inr ⟨w.heap.size, _, _, by rw [hcat], hB, (MapKept.heap_alloc w.drew _).1, by rw [hcat]; exact hcap, grownCap_le_maxLen w _ cap 5 (by unfold maxLen; omega), ?_, ?_⟩⟩
          · simp [bv, Builtin.zeroCells, Value.cells]
            omega
          · simp only [Nat.mul_one, Array.toList_append]
            rw [bv_append, List.take_append_of_le_length (by simp [bv]), List.take_of_length_le (by simp [bv])]
        exact ⟨_, _, hr, h2, adv_of hown hB h2 (.inr (.inr ⟨_, _, rfl, hb⟩))⟩

theorem wpList_adv (w : World) {ops : Array Oper} {rest : List Oper} {o : Oper} {a : Act} {Q : Exit → Act → World → Prop} (hgd : o.guard = none) (s x : Operand)
    (ho : o.op = .call { callee := .builtin .append, args := #[s, x], argTypes := #[22, 22] }) (B : Nat) (v vx : Value) (L M : List Int) (hs : a.eval s = v) (hown : Own w B v L)
    (hx : a.eval x = vx) (hM : BL w vx M) (hk : L.length + M.length ≤ 100000000) (hB : B ≤ w.heap.size)
    (h : ∀ v' w', Own w' B v' (L ++ M) → Adv w w' v v' → wpList Try.prog ops Q rest (a.put o.dst v') w') : wpList Try.prog ops Q (o :: rest) a w := by
  refine wpList_plain hgd fun K hK => ?_
  obtain ⟨v', w', hr, h2, h3⟩ := run_adv w o.type B v vx L M hown hM hk hB
  unfold Oper.wp execOp
  simp only [ho, resolve, invoke, builtin, Sem.run_bind, Sem.run_pure, Result.andThen_ok, List.map_toArray, List.map_cons, List.map_nil, hs, hx, hr]
  exact hK _ _ (h v' w' h2 h3)

theorem Own.lt {w : World} {B : Nat} {v : Value} {L : List Int} (h : Own w B v L) {g : Nat} (hg : v.ownBlock = some g) : g < w.heap.size := by
  rcases h.2 with ⟨rfl, _⟩ | ⟨g', cap, cur, rfl, h1, h2, _⟩
  · cases hg
  · cases hg; exact (Array.getElem?_eq_some_iff.1 h2).1
/-- The cells that v reads lie in no block of the row b. -/
def Apart (b v : Value) : Prop := ∀ a n c, v = .slice (some a) n c → b.ownBlock ≠ some a.block
theorem IL.adv {w w' : World} {b b' v : Value} {L : List Int} (h : IL w v L) (ha : Adv w w' b b') (hne : Apart b v) : IL w' v L := by
  obtain ⟨ao, c, rfl, hc, H⟩ := h
  refine ⟨ao, c, rfl, hc, fun i u hi => ?_⟩
  obtain ⟨g, o, rfl, hx⟩ := H i u hi
  have hl := block_lt_of_cell hx
  exact ⟨g, o, rfl, (World.cell?_of_block (ha.g.block g hl (fun e => hne ⟨g, o, none⟩ _ _ rfl e.symm))).trans hx⟩
theorem BL.adv {w w' : World} {b b' v : Value} {L : List Int} (h : BL w v L) (ha : Adv w w' b b') (hne : Apart b v) : BL w' v L := by
  obtain ⟨ao, c, rfl, hc, H⟩ := h
  refine ⟨ao, c, rfl, hc, fun i u hi => ?_⟩
  obtain ⟨g, o, rfl, hx⟩ := H i u hi
  have hl := block_lt_of_cell hx
  exact ⟨g, o, rfl, (World.cell?_of_block (ha.g.block g hl (fun e => hne ⟨g, o, none⟩ _ _ rfl e.symm))).trans hx⟩
/-- What lies in the old world stays apart from the row as it goes on. -/
theorem Apart.adv {w w' : World} {b b' v : Value} (h : Apart b v) (ha : Adv w w' b b') (hv : ∀ a n c, v = .slice (some a) n c → a.block < w.heap.size) : Apart b' v := by
  intro a n c e
  rcases ha.o with h1 | ⟨k, h1, hk⟩
  · rw [h1]; exact h a n c e
  · rw [h1]; intro h2; cases h2; have := hv a n c e; omega
theorem Own.apart_new {w : World} {B : Nat} {b : Value} {M : List Int} (h : Own w B b M) {g o n c : Nat} (hg : w.heap.size ≤ g) : Apart b (.slice (some ⟨g, o, none⟩) n c) := by
  intro a n' c' e h2
  cases e
  have := h.lt h2
  simp at this; omega

set_option maxRecDepth 100000 in
set_option maxHeartbeats 4000000 in
theorem appn_any (b v : Value) (M L : List Int) (B : Nat) (w : World) (hb0 : Own w B b M) (hv : IL w v L) (hne : Apart b v) (hn : L.length ≤ 1000000) (hm : M.length ≤ 90000000) (hB : B ≤ w.heap.size) :
    Calls Try.prog 52 #[b, v] w fun e w' => ∃ r, e = .returned r ∧ Own w' B r (M ++ numsL L) ∧ Adv w w' b r := by
  have hl0 : ∀ a n c, v = .slice (some a) n c → 0 < L.length → a.block < w.heap.size := by
    intro a n c e h0
    obtain ⟨ao, c', e', hc, H⟩ := hv
    obtain ⟨g, o, e2, hx⟩ := H 0 _ (List.getElem?_eq_getElem h0)
    rw [e'] at e; cases e
    cases e2
    exact block_lt_of_cell hx
  have HV := Lib.hid hv
  have HNE := Lib.hid hne
  have HB0 := Lib.hid hb0
  have HL0 := Lib.hid hl0
  obtain ⟨ao, c, rfl⟩ := (show ∃ a c, v = .slice a L.length c from by obtain ⟨a, c, e, _⟩ := hv; exact ⟨a, c, e⟩)
  obtain ⟨ba, bc, rfl⟩ := hb0.shape
  obtain ⟨n, hN⟩ : ∃ n, n = L.length := ⟨_, rfl⟩
  rw [← hN] at hn ⊢
  have HN := Lib.hid hN
  obtain ⟨b0, hb0e⟩ : ∃ b0, b0 = Value.slice ba M.length bc := ⟨_, rfl⟩
  have HBE := Lib.hid hb0e
  rw [← hb0e] at HNE HB0
  clear hl0 hv hne hb0 hN hb0e
  go_enter Try.func52, Try.ntmps52
  go_wp2_with fail
  rw [← HBE.out]
  go_loopw [9, 0] (fun i r wr => ∃ k : Nat, k ≤ n ∧ i = .int .i64 (k : Int) ∧ Own wr B r (M ++ numsL (L.take k)) ∧ Adv w wr b0 r) (fun i _ _ => n - (intOf i).toNat)
  case atStart => exact ⟨0, Nat.zero_le _, rfl, by simpa [numsL] using HB0.out, Adv.refl _ _⟩
  case round =>
    obtain ⟨k, hk, rfl, ho, hb⟩ := hrel
    obtain ⟨ra, rc, hr⟩ := ho.shape
    subst hr
    have HO := Lib.hid ho
    have HB := Lib.hid hb
    clear ho hb
    by_cases hlt : k < n
    · have hlt' : k < L.length := by rw [← HN.out]; exact hlt
      obtain ⟨u, hu⟩ : ∃ u, L[k]? = some u := ⟨_, List.getElem?_eq_getElem hlt'⟩
      obtain ⟨ao', c', e, hcc, H⟩ := HV.out.adv HB.out HNE.out
      simp only [Value.slice.injEq] at e
      obtain ⟨rfl, _, rfl⟩ := e
      obtain ⟨g, o, rfl, hx⟩ := H k u hu
      have HU := Lib.hid hu
      clear H hu hlt'
      obtain ⟨T, hT⟩ : ∃ T, T = M ++ numsL (L.take k) := ⟨_, rfl⟩
      rw [← hT] at HO HB ⊢
      have hTl : T.length + (num4 u).length ≤ 100000000 := by
        rw [hT, List.length_append, numsL_length]; simp [num4]; omega
      have HT := Lib.hid hT
      have HTL := Lib.hid hTl
      obtain ⟨rr, hrr⟩ : ∃ r, r = Value.slice ra T.length rc := ⟨_, rfl⟩
      have HRR := Lib.hid hrr
      rw [← hrr] at HO HB
      have hsz := HB.out.g.size
      clear hT hTl hrr
      have HBL := Lib.hid (show BL (wr.alloc (.cells #[.int .u8 (u / 16777216 % 256), .int .u8 (u / 65536 % 256), .int .u8 (u / 256 % 256), .int .u8 (u % 256)] 5)) (.slice (some ⟨wr.heap.size, 0, none⟩) 4 4) (num4 u) from (own_lit wr (num4 u) (by simp [num4, maxLen])).bl)
      go_wp2_with (at_builtin; rw [← HRR.out]; refine wpList_adv _ rfl (.tmp 13) (.tmp 25) rfl B rr _ _ _ rfl (HO.out.below (below_box wr _)) rfl HBL.out HTL.out (by simp; omega) ?_)
      intro v3 w3 h3 hb3
      obtain ⟨wa, wc, hv3⟩ := h3.shape
      have H3 := Lib.hid h3
      have HB3 := Lib.hid (HB.out.trans ((Adv.of_below (below_box wr _)).trans hb3))
      rw [hv3] at H3 HB3 ⊢
      clear h3 hb3 hv3
      go_wp2_with fail
      go_roundw
      case rel =>
        refine ⟨k + 1, by omega, by go_num, ?_, HB3.out⟩
        have e : M ++ numsL (L.take (k + 1)) = T ++ num4 u := by rw [numsL_take HU.out, HT.out, List.append_assoc]
        rw [e]
        exact H3.out
      case measure => simp [intOf]; omega
    · obtain rfl : k = n := by omega
      have e : L.take k = L := by rw [HN.out, List.take_length]
      have h := HO.out
      have h2 := HB.out
      rw [e] at h h2
      have H1 := Lib.hid h
      have H2 := Lib.hid h2
      clear h h2
      rw [e]
      go_wp2_with fail
      go_ret
      exact ⟨_, rfl, H1.out, by rw [HBE.out] at H2; exact H2.out⟩
end Go.Proofs.Ytkhjkemllgjfmaa

/- Strings and zeros appended to a row that grows while all else stays; the contracts of appendZeros, appendMatrix, chunks. -/
namespace Go.Proofs.Ytkhjkemllgjfmaa
open Go.RowKit
set_option linter.unusedVariables false
set_option linter.unusedSimpArgs false

theorem bv_str (s : ByteArray) : bv (strB s) = Lib.strCells s := by
  simp [bv, strB, Lib.strCells]
theorem run_adv_str (w : World) (ty : TypeId) (B : Nat) (v : Value) (L : List Int) (hown : Own w B v L) (s : ByteArray) (hk : L.length + s.size ≤ 100000000) (hB : B ≤ w.heap.size) :
    ∃ v' w', (Builtin.append_ #[22, 9] ty #[v, .string s]).run Try.prog w = .ok v' w' ∧ Own w' B v' (L ++ strB s) ∧ Adv w w' v v' := by
  obtain ⟨i0, hi, hz0, hz1, hz2⟩ := info_parts info5
  obtain ⟨v', w', hr, h2, h3, h4⟩ := Lib.run_append_own_string (P := Try.prog) w B 22 9 ty 5 i0 Try.underlying22 Try.underlying9 hi hz0 hz1 hz2 v L.length (bv L) hown s (by unfold maxLen; omega) (by omega) hB
  have h2' : Own w' B v' (L ++ strB s) := by unfold Own; rw [bv_append, bv_str, List.length_append, strB_length]; exact h2
  refine ⟨v', w', hr, h2', adv_of hown hB h2' ?_⟩
  rcases hown.2 with ⟨rfl, h0⟩ | ⟨g, cap, cur, rfl, hbg, hg, hnc, hcm, hcs, htake⟩
  · have hb : Below w.heap.size w w' := ⟨h3.os, h3.tape, h3.output, h3.size, fun k hk => h3.block k hk (fun e => by cases e)⟩
    by_cases hm : s.size = 0
    · obtain rfl := h4.2 ⟨rfl, hm⟩
      exact .inl ⟨rfl, hb⟩
    · have hr2 := run_append_nil_string (P := Try.prog) w 22 9 ty 5 i0 (.int .u8 0) Try.underlying22 Try.underlying9 hi hz0 s (by omega) (by omega) (by rw [hz2]; omega)
      rw [hr2] at hr
      simp only [Result.ok.injEq] at hr
      rw [← hr.1]
      exact .inr (.inr ⟨_, _, rfl, hb⟩)
  · by_cases hroom : L.length + s.size ≤ cap
    · have hcs' : cur.size = cap := by simpa using hcs
      have hr2 := Lib.run_append_room_string (P := Try.prog) w 22 9 ty 5 i0 Try.underlying22 Try.underlying9 hi hz1 g L.length cap cur hg s hroom (by omega)
      rw [hr2] at hr
      simp only [Result.ok.injEq] at hr
      rw [← hr.1]
      exact .inr (.inl ⟨g, _, cap, rfl, rfl, h3⟩)
    · have holds : ∀ j u, (bv L)[j]? = some u → w.cell? ((⟨g, 0, none⟩ : Addr).add j) = some u := World.ownsRow.cells (g := g) hown rfl
      have hr2 := Lib.run_append_grow_string (P := Try.prog) w 22 9 ty 5 i0 (.int .u8 0) Try.underlying22 Try.underlying9 hi hz0 ⟨g, 0, none⟩ L.length cap (bv L) (by rw [hz1]; simp [bv]) holds s (by omega) (by omega) (by rw [hz2]; exact growslice_fits (by omega) (by omega))
      rw [hr2] at hr
      simp only [Result.ok.injEq] at hr
      refine .inr (.inr ⟨_, _, hr.1.symm, ?_⟩)
      rw [← hr.2]
      exact ((Below.refl _ w).drew).alloc (by simp) _
theorem wpList_advS (w : World) {ops : Array Oper} {rest : List Oper} {o : Oper} {a : Act} {Q : Exit → Act → World → Prop} (hgd : o.guard = none) (s x : Operand)
    (ho : o.op = .call { callee := .builtin .append, args := #[s, x], argTypes := #[22, 9] }) (B : Nat) (v : Value) (L : List Int) (st : ByteArray) (hs : a.eval s = v) (hown : Own w B v L)
    (hx : a.eval x = .string st) (hk : L.length + st.size ≤ 100000000) (hB : B ≤ w.heap.size)
    (h : ∀ v' w', Own w' B v' (L ++ strB st) → Adv w w' v v' → wpList Try.prog ops Q rest (a.put o.dst v') w') : wpList Try.prog ops Q (o :: rest) a w := by
  refine wpList_plain hgd fun K hK => ?_
  obtain ⟨v', w', hr, h2, h3⟩ := run_adv_str w o.type B v L hown st hk hB
  unfold Oper.wp execOp
  simp only [ho, resolve, invoke, builtin, Sem.run_bind, Sem.run_pure, Result.andThen_ok, List.map_toArray, List.map_cons, List.map_nil, hs, hx, hr]
  exact hK _ _ (h v' w' h2 h3)
/-- Zeros appended are a string of zeros appended. -/
def zstr (n : Nat) : ByteArray := ⟨Array.replicate n 0⟩
theorem strB_zstr (n : Nat) : strB (zstr n) = List.replicate n 0 := by simp [strB, zstr]
theorem zstr_size (n : Nat) : (zstr n).size = n := by simp [zstr, ByteArray.size]
set_option maxRecDepth 100000 in
theorem run_zeros_str (w : World) (ty : TypeId) (v : Value) (n : Nat) (h00 : 0 < n) (hn : n ≤ 100000) (hv : ∃ a l c, v = .slice a l c ∧ l ≤ 100000000) : (Builtin.append_ #[22, 3] ty #[v, .int .i64 (n : Int)]).run Try.prog w = (Builtin.append_ #[22, 9] ty #[v, .string (zstr n)]).run Try.prog w := by
  obtain ⟨i0, hi, hz0, hz1, hz2⟩ := info_parts info5
  obtain ⟨a, l, c, rfl, hl⟩ := hv
  have hw : IntKind.i64.wrap (n : Int) = n := by rw [IntKind.wrap_i64]; omega
  have hneg : ¬ ((n : Int) < 0) := by omega
  have h48 : ¬ (281474976710656 < (n : Int)) := by omega
  have hz : (zstr n).data.map (fun b => Value.int .u8 b.toNat) = Array.replicate n (.int .u8 0) := by simp [zstr]
  have hzc : Builtin.zeroCells #[Value.int .u8 0] n = Array.replicate n (.int .u8 0) := by
    apply Array.ext
    · simp [Builtin.zeroCells]
    · intro j h1 h2
      simp [Builtin.zeroCells, Nat.mod_one]
  have hzc2 : Builtin.zeroCells (Value.int .u8 0).cells n = Array.replicate n (.int .u8 0) := hzc
  have hfs : ∀ w1 : World, (Builtin.firstCells 1 n (.string (zstr n))).run Try.prog w1 = .ok (Array.replicate n (.int .u8 0)) w1 := by
    intro w1
    have h := Lib.run_firstCells_string (P := Try.prog) w1 1 (zstr n)
    rw [zstr_size] at h
    rw [h]
    congr 1
    apply Array.ext'
    rw [List.toList_toArray, ← bv_str, strB_zstr]; simp [bv]
  have h0 : ¬ (n = 0) := by omega
  by_cases hroom : l + n ≤ c
  · have hns : ¬ (n * 1 = 0) := by omega
    simp [Builtin.append_, run_underlying Try.underlying22, run_underlying Try.underlying9, run_underlying Try.underlying3, sizeOf, typeInfo, zeroValue, hi, hz0, hz1, hz2, Builtin.lenOf, Builtin.firstCells, zstr_size, hroom, hw, hz, hzc, asInt, asIntOf, h0, hneg, h48, hzc2]
  · have h1 := growslice_fits (need := l + n) (old := c) (bytes := 1) (by omega) (by omega)
    have hfit : ¬ (281474976710656 < Builtin.nextslicecap (l + n) c) := by omega
    have h63 : ¬ (9223372036854775807 < (l : Int) + (n : Int)) := by omega
    simp [Builtin.append_, run_underlying Try.underlying22, run_underlying Try.underlying9, run_underlying Try.underlying3, sizeOf, typeInfo, zeroValue, hi, hz0, hz1, hz2, Builtin.lenOf, zstr_size, hroom, hw, hz, hzc, asInt, asIntOf, hneg, h48, h0, hfit, h63, hzc2, hfs]
theorem Adv.below {w w' : World} {v v' : Value} (h : Adv w w' v v') (hv : v.ownBlock = none) : Below w.heap.size w w' :=
  ⟨h.g.os, h.g.tape, h.g.output, h.g.size, fun k hk => h.g.block k hk (by rw [hv]; simp)⟩
theorem wpList_advZ (w : World) {ops : Array Oper} {rest : List Oper} {o : Oper} {a : Act} {Q : Exit → Act → World → Prop} (hgd : o.guard = none) (s x : Operand)
    (ho : o.op = .call { callee := .builtin .append, args := #[s, x], argTypes := #[22, 3] }) (B : Nat) (v : Value) (L : List Int) (n : Nat) (hs : a.eval s = v) (hown : Own w B v L)
    (hx : a.eval x = .int .i64 (n : Int)) (h0 : 0 < n) (hn : n ≤ 1000) (hk : L.length ≤ 90000000) (hB : B ≤ w.heap.size)
    (h : ∀ v' w', Own w' B v' (L ++ List.replicate n 0) → Adv w w' v v' → wpList Try.prog ops Q rest (a.put o.dst v') w') : wpList Try.prog ops Q (o :: rest) a w := by
  obtain ⟨v', w', hr, h2, h3⟩ := run_adv_str w o.type B v L hown (zstr n) (by rw [zstr_size]; omega) hB
  rw [← run_zeros_str w o.type v n h0 (by omega) (by obtain ⟨a, c, e⟩ := hown.shape; exact ⟨a, _, c, e, by omega⟩)] at hr
  rw [strB_zstr] at h2
  exact Lib.wpList_append_run (P := Try.prog) w hgd s x 22 3 ho v (.int .i64 (n : Int)) hs hx v' w' hr (h v' w' h2 h3)

set_option maxRecDepth 100000 in
theorem appz_any (b : Value) (M : List Int) (n B : Nat) (w : World) (hb0 : Own w B b M) (h0 : 0 < n) (hn : n ≤ 1000) (hm : M.length ≤ 90000000) (hB : B ≤ w.heap.size) :
    Calls Try.prog 53 #[b, .int .i64 (n : Int)] w fun e w' => ∃ r, e = .returned r ∧ Own w' B r (M ++ List.replicate n 0) ∧ Adv w w' b r := by
  have HB0 := Lib.hid hb0
  obtain ⟨ba, bc, hbe⟩ := hb0.shape
  have HBE := Lib.hid hbe
  rw [hbe]
  clear hb0
  go_enter Try.func53, Try.ntmps53
  go_wp2_with (at_builtin; rw [← HBE.out]; refine wpList_advZ w rfl (.tmp 5) (.tmp 6) rfl B b M n rfl HB0.out rfl h0 hn hm hB ?_)
  intro v' w' h2 h3
  obtain ⟨ra, rc, hr⟩ := h2.shape
  have H2 := Lib.hid h2
  have H3 := Lib.hid h3
  rw [hr] at H2 H3 ⊢
  clear h2 h3 hr hbe
  go_wp2_with fail
  go_ret
  exact ⟨_, rfl, H2.out, H3.out⟩

set_option maxRecDepth 100000 in
theorem appm_any (b : Value) (M : List Int) (B : Nat) (w : World) (hb0 : Own w B b M) (hm : M.length ≤ 80000000) (hB : B ≤ w.heap.size) :
    Calls Try.prog 54 #[b] w fun e w' => ∃ r, e = .returned r ∧ Own w' B r (M ++ matL) ∧ Adv w w' b r := by
  have HB0 := Lib.hid hb0
  obtain ⟨ba, bc, hbe⟩ := hb0.shape
  have HBE := Lib.hid hbe
  have HI : Hid (IL (w.alloc (.cells #[.int .i64 65536, .int .i64 0, .int .i64 0, .int .i64 0, .int .i64 65536, .int .i64 0, .int .i64 0, .int .i64 0, .int .i64 1073741824] 2)) (.slice (some ⟨w.heap.size, 0, none⟩) 9 9) [65536, 0, 0, 0, 65536, 0, 0, 0, 1073741824]) := Lib.hid (IL.build w [65536, 0, 0, 0, 65536, 0, 0, 0, 1073741824] 2)
  rw [hbe]
  clear hb0 hbe
  go_enter Try.func54, Try.ntmps54
  go_wp2_with fail
  rw [← HBE.out]
  refine (appn_any _ _ M _ B _ (HB0.out.below (below_box w _)) HI.out (HB0.out.apart_new (Nat.le_refl _)) (by simp) (by omega) (by simp; omega)).mono ?_
  rintro e w5 ⟨r, rfl, hr, ha⟩
  obtain ⟨R, hR⟩ : ∃ R, R = M ++ numsL [65536, 0, 0, 0, 65536, 0, 0, 0, 1073741824] := ⟨_, rfl⟩
  rw [← hR] at hr
  have HR := Lib.hid (show M ++ matL = R from hR.symm)
  obtain ⟨ra, rc, hrv⟩ := hr.shape
  have H2 := Lib.hid hr
  have H3 := Lib.hid ((Adv.of_below (below_box w _)).trans ha)
  rw [hrv] at H2 H3 ⊢
  clear hr ha hrv hR
  go_wp2_with fail
  go_ret
  rw [HR.out]
  exact ⟨_, rfl, H2.out, by rw [HBE.out] at H3; exact H3.out⟩

set_option maxRecDepth 100000 in
theorem chunks_any (w : World) :
    Calls Try.prog 75 #[] w fun e w' => ∃ r, e = .returned r ∧ Own w' w.heap.size r chunkL ∧ Below w.heap.size w w' := by
  have HI : Hid (IL (w.alloc (.cells #[.int .i64 0, .int .i64 1, .int .i64 1, .int .i64 1, .int .i64 1] 2)) (.slice (some ⟨w.heap.size, 0, none⟩) 5 5) [0, 1, 1, 1, 1]) := Lib.hid (IL.build w [0, 1, 1, 1, 1] 2)
  go_enter Try.func75, Try.ntmps75
  go_wp2_with fail
  refine (appn_any (.slice none 0 0) _ [] _ w.heap.size _ (own_nil _ _) HI.out (fun a n c e h => by cases h) (by simp) (by simp) (by simp)).mono ?_
  rintro e w5 ⟨r, rfl, hr, ha⟩
  obtain ⟨ra, rc, hrv⟩ := hr.shape
  have H2 := Lib.hid hr
  have H3 := Lib.hid ((Adv.of_below (below_box w _)).trans ha)
  rw [hrv] at H2 H3 ⊢
  clear hr ha hrv
  go_wp2_with fail
  go_ret
  exact ⟨_, rfl, H2.out, H3.out.below (by simp [Value.ownBlock])⟩
end Go.Proofs.Ytkhjkemllgjfmaa

/- The contracts of size, both. -/
namespace Go.Proofs.Ytkhjkemllgjfmaa
open Go.RowKit
set_option linter.unusedVariables false
set_option linter.unusedSimpArgs false

/-- Bytes of the first samples. -/
def sizeN (S : Nat → Sm) : Nat → Nat
  | 0 => 0
  | k + 1 => sizeN S k + (S k).n
theorem sizeN_le {S : Nat → Sm} {n m : Nat} (h : ∀ i, i < n → (S i).n ≤ m) : sizeN S n ≤ n * m := by
  induction n with
  | zero => simp [sizeN]
  | succ k ih =>
    have h1 := ih (fun i hi => h i (by omega))
    have h2 := h k (by omega)
    simp only [sizeN, Nat.add_mul]; omega
theorem sizeN_mono (S : Nat → Sm) {k n : Nat} (h : k ≤ n) : sizeN S k ≤ sizeN S n := by
  induction n with
  | zero => obtain rfl : k = 0 := by omega
            exact Nat.le_refl _
  | succ n ih =>
    by_cases e : k = n + 1
    · subst e; exact Nat.le_refl _
    · have := ih (by omega); simp only [sizeN]; omega

set_option maxRecDepth 100000 in
set_option maxHeartbeats 4000000 in
theorem rsize_any (v : Value) (T : Tr) (w : World) (hv : TA w v T) (hn : T.nS ≤ 1000000) (hs : sizeN T.S T.nS ≤ 1000000000000) :
    Calls Try.prog 43 #[v] w fun e w' => e = .returned (.int .i64 (sizeN T.S T.nS : Nat)) ∧ Below w.heap.size w w' := by
  obtain ⟨c0, c1, c2, c3, c4, rfl, rfl, rfl, b2, b3, b4⟩ := hv
  obtain ⟨a2, d2, rfl⟩ := b2.shape
  obtain ⟨a3, d3, rfl⟩ := b3.shape
  obtain ⟨a4, d4, rfl⟩ := b4.shape
  have HB3 := Lib.hid b3
  have HS := Lib.hid hs
  clear b2 b3 b4 hs
  go_enter Try.func43, Try.ntmps43
  go_wp2_with fail
  obtain ⟨w1, hw⟩ : ∃ x, x = w.alloc (.cells #[.string T.h, .int .i64 T.sc, .slice a2 T.nC d2, .slice a3 T.nS d3, .slice a4 T.nE d4] 48) := ⟨_, rfl⟩
  rw [← hw]
  have hE : Below w.heap.size w w1 := by rw [hw]; exact below_box _ _
  have y3 : w1.cell? ⟨w.heap.size, 3, none⟩ = some (.slice a3 T.nS d3) := by rw [hw]; simp [go_sem]
  have HB := Lib.hid hE
  obtain ⟨bt, hbt⟩ : ∃ z, z = w.heap.size := ⟨_, rfl⟩
  rw [← hbt] at y3 ⊢
  have HB3' := Lib.hid (HB3.out.below hE)
  clear hw hE hbt
  go_loopw [4, 3] (fun i g wr => ∃ k : Nat, k ≤ T.nS ∧ i = .int .i64 (k : Int) ∧ g = .int .i64 (sizeN T.S k : Nat) ∧ wr = w1) (fun i _ _ => T.nS - (intOf i).toNat)
  case atStart => exact ⟨0, Nat.zero_le _, rfl, rfl, rfl⟩
  case round =>
    obtain ⟨k, hk, rfl, rfl, rfl⟩ := hrel
    by_cases hlt : k < T.nS
    · obtain ⟨ao', c', e, hcc', H⟩ := HB3'.out
      simp only [Value.slice.injEq, true_and] at e
      obtain ⟨rfl, rfl⟩ := e
      obtain ⟨b', o', x, rfl, h0, h1, h2, h3, hx⟩ := H k hlt
      obtain ⟨ax, dx, rfl⟩ := hx.shape
      have hm := sizeN_mono T.S (show k + 1 ≤ T.nS by omega)
      obtain ⟨G, hG⟩ : ∃ G, G = sizeN T.S k := ⟨_, rfl⟩
      have hst : sizeN T.S (k + 1) = G + (T.S k).n := by simp only [sizeN]; rw [← hG]
      have hb := HS.out
      rw [← hG] at ⊢
      have hb2 : G + (T.S k).n ≤ 1000000000000 := by omega
      have HST := Lib.hid hst
      clear H hx hst hG hm hb
      go_wp2_with fail
      go_roundw
      case rel => exact ⟨k + 1, by omega, by go_num, by rw [HST.out]; go_num, trivial⟩
      case measure => simp [intOf]; omega
    · obtain rfl : k = T.nS := by omega
      go_wp2_with fail
      go_ret
      exact ⟨rfl, HB.out⟩

set_option maxRecDepth 100000 in
set_option maxHeartbeats 4000000 in
theorem size_any (v : Value) (T : Tr) (w : World) (hv : TA w v T) (hn : T.nS ≤ 1000000) (hs : sizeN T.S T.nS ≤ 1000000000000) :
    Calls Try.prog 41 #[v] w fun e w' => e = .returned (.int .i64 (sizeN T.S T.nS : Nat)) ∧ Below w.heap.size w w' := by
  obtain ⟨c0, c1, c2, c3, c4, rfl, rfl, rfl, b2, b3, b4⟩ := hv
  obtain ⟨a2, d2, rfl⟩ := b2.shape
  obtain ⟨a3, d3, rfl⟩ := b3.shape
  obtain ⟨a4, d4, rfl⟩ := b4.shape
  have HB3 := Lib.hid b3
  have HS := Lib.hid hs
  clear b2 b3 b4 hs
  go_enter Try.func41, Try.ntmps41
  go_wp2_with fail
  obtain ⟨w1, hw⟩ : ∃ x, x = w.alloc (.cells #[.string T.h, .int .i64 T.sc, .slice a2 T.nC d2, .slice a3 T.nS d3, .slice a4 T.nE d4] 43) := ⟨_, rfl⟩
  rw [← hw]
  have hE : Below w.heap.size w w1 := by rw [hw]; exact below_box _ _
  have HB := Lib.hid hE
  have HB3' := Lib.hid (HB3.out.below hE)
  clear hw hE
  go_loopw [9, 3] (fun i g wr => ∃ k : Nat, k ≤ T.nS ∧ i = .int .i64 (k : Int) ∧ g = .int .i64 (sizeN T.S k : Nat) ∧ Below w1.heap.size w1 wr) (fun i _ _ => T.nS - (intOf i).toNat)
  case atStart => exact ⟨0, Nat.zero_le _, rfl, rfl, Below.refl _ _⟩
  case round =>
    obtain ⟨k, hk, rfl, rfl, hbw⟩ := hrel
    have HBW := Lib.hid hbw
    clear hbw
    by_cases hlt : k < T.nS
    · obtain ⟨ao', c', e, hcc', H⟩ := HB3'.out.below HBW.out
      simp only [Value.slice.injEq, true_and] at e
      obtain ⟨rfl, rfl⟩ := e
      obtain ⟨b', o', x, rfl, h0, h1, h2, h3, hx⟩ := H k hlt
      obtain ⟨ax, dx, rfl⟩ := hx.shape
      have hm := sizeN_mono T.S (show k + 1 ≤ T.nS by omega)
      obtain ⟨G, hG⟩ : ∃ G, G = sizeN T.S k := ⟨_, rfl⟩
      have hst : sizeN T.S (k + 1) = G + (T.S k).n := by simp only [sizeN]; rw [← hG]
      have hb := HS.out
      rw [← hG] at ⊢
      have hb2 : G + (T.S k).n ≤ 1000000000000 := by omega
      have HST := Lib.hid hst
      clear H hx hst hG hm hb
      go_wp2_with fail
      go_roundw
      case rel => exact ⟨k + 1, by omega, by go_num, by rw [HST.out]; go_num, HBW.out.alloc HBW.out.size _⟩
      case measure => simp [intOf]; omega
    · obtain rfl : k = T.nS := by omega
      go_wp2_with fail
      go_ret
      exact ⟨rfl, HB.out.trans (HBW.out.mono HB.out.size)⟩
end Go.Proofs.Ytkhjkemllgjfmaa

/- Runs of equal numbers: the plain law. -/
namespace Go.Proofs.Ytkhjkemllgjfmaa
open Go.RowKit
set_option linter.unusedVariables false
set_option linter.unusedSimpArgs false

/-- The runs of the first k numbers: how many, which number. -/
def bump : List (Int × Int) → List (Int × Int)
  | [] => []
  | [(a, b)] => [(a + 1, b)]
  | x :: y :: l => x :: bump (y :: l)
def rl (f : Nat → Int) : Nat → List (Int × Int)
  | 0 => []
  | k + 1 => if 0 < k ∧ f k = f (k - 1) then bump (rl f k) else rl f k ++ [(1, f k)]
theorem bump_append (L : List (Int × Int)) (a b : Int) : bump (L ++ [(a, b)]) = L ++ [(a + 1, b)] := by
  induction L with
  | nil => rfl
  | cons x L ih =>
    cases L with
    | nil => rfl
    | cons y L => simp only [List.cons_append, bump]; congr 1
theorem rl_run (f : Nat → Int) (i : Nat) (hi : i = 0 ∨ f i ≠ f (i - 1)) (d : Nat) (h : ∀ j, i ≤ j → j < i + d + 1 → f j = f i) : rl f (i + d + 1) = rl f i ++ [((d : Int) + 1, f i)] := by
  induction d with
  | zero =>
    have hne : ¬ (0 < i ∧ f i = f (i - 1)) := by
      rintro ⟨h1, h2⟩
      rcases hi with h | h
      · omega
      · exact h h2
    rw [show i + 0 + 1 = i + 1 by omega, rl, if_neg hne]
    simp
  | succ d ih =>
    rw [show i + (d + 1) + 1 = (i + d + 1) + 1 by omega, rl, if_pos ⟨by omega, by rw [h (i + d + 1) (by omega) (by omega), h (i + d + 1 - 1) (by omega) (by omega)]⟩, ih (fun j h1 h2 => h j h1 (by omega)), bump_append]
    congr 3
def runsL (f : Nat → Int) (n : Nat) : List Int := numsL [0, ((rl f n).length : Int)] ++ numsL ((rl f n).flatMap fun p => [p.1, p.2])

/-- Numbers in their cells. -/
def NF (w : World) (v : Value) (n : Nat) (f : Nat → Int) : Prop := ∃ ao c, v = .slice ao n c ∧ n ≤ c ∧ ∀ i, i < n → ∃ b o, ao = some ⟨b, o, none⟩ ∧ w.cell? ⟨b, o + i, none⟩ = some (.int .i64 (f i))
def pairs2 (L : List (Int × Int)) : List Int := L.flatMap fun p => [p.1, p.2]
theorem pairs2_length (L : List (Int × Int)) : (pairs2 L).length = 2 * L.length := by
  induction L with
  | nil => rfl
  | cons x L ih => simp [pairs2] at ih ⊢; omega
theorem rl_length (f : Nat → Int) (k : Nat) : (rl f k).length ≤ k := by
  induction k with
  | zero => simp [rl]
  | succ k ih =>
    rw [rl]; split
    · have hb : ∀ L : List (Int × Int), (bump L).length = L.length := by
        intro L
        induction L with
        | nil => rfl
        | cons x L ih => cases L with
          | nil => rfl
          | cons y L => simp only [bump, List.length_cons, ih]
      rw [hb]; omega
    · simp; omega
theorem numsL_append (L M : List Int) : numsL (L ++ M) = numsL L ++ numsL M := by simp [numsL]
theorem pairs2_append (L M : List (Int × Int)) : pairs2 (L ++ M) = pairs2 L ++ pairs2 M := by simp [pairs2]

set_option maxRecDepth 100000 in
set_option maxHeartbeats 4000000 in
theorem rruns_any (v : Value) (n : Nat) (f : Nat → Int) (w : World) (hv : NF w v n f) (hn : n ≤ 100000) :
    Calls Try.prog 67 #[v] w fun e w' => ∃ r, e = .returned r ∧ Own w' w.heap.size r (runsL f n) ∧ Below w.heap.size w w' := by
  obtain ⟨ao, c, rfl, hc, H⟩ := hv
  have HL := Lib.hid H
  clear H
  go_enter Try.func67, Try.ntmps67
  go_wp2_with fail
  go_loopw [5, 4, 3] (fun i m r wr => ∃ k : Nat, k ≤ n ∧ i = .int .i64 (k : Int) ∧ m = .int .i64 ((rl f k).length : Nat) ∧ Own wr w.heap.size r (numsL (pairs2 (rl f k))) ∧ Below w.heap.size w wr ∧ Hid (k < n → k = 0 ∨ f k ≠ f (k - 1))) (fun i _ _ _ => n - (intOf i).toNat)
  case atStart => exact ⟨0, Nat.zero_le _, rfl, rfl, own_nil _ _, Below.refl _ _, Lib.hid (fun _ => .inl rfl)⟩
  case round =>
    obtain ⟨k, hk, rfl, rfl, ho, hb, HBD⟩ := hrel
    obtain ⟨R, hR⟩ : ∃ R, R = numsL (pairs2 (rl f k)) := ⟨_, rfl⟩
    rw [← hR] at ho
    have HR := Lib.hid hR
    obtain ⟨m, hm⟩ : ∃ m, m = (rl f k).length := ⟨_, rfl⟩
    rw [← hm]
    have HM := Lib.hid hm
    have hmk : m ≤ k := by rw [hm]; exact rl_length f k
    have hRl : R.length ≤ 8 * k := by rw [hR, numsL_length, pairs2_length, ← hm]; omega
    have HRL := Lib.hid hRl
    obtain ⟨ra, rc, hr⟩ := ho.shape
    subst hr
    have HO := Lib.hid ho
    have HB := Lib.hid hb
    clear ho hb hR hm hRl
    by_cases hlt : k < n
    · obtain ⟨b, o, rfl, hx0⟩ := HL.out k hlt
      obtain ⟨fk, hfk⟩ : ∃ x, x = f k := ⟨_, rfl⟩
      rw [← hfk] at hx0
      have HFK := Lib.hid hfk
      replace hx0 := (HB.out.cell (block_lt_of_cell hx0)).trans hx0
      have HX0 := Lib.hid hx0
      clear hfk hx0
      have hk3 : decide ((k : Int) < (n : Int)) = true := by simpa using hlt
      go_wp2_with fail
      obtain ⟨wq, hwq⟩ : ∃ x, x = wr := ⟨_, rfl⟩
      rw [← hwq] at HO HB HX0 ⊢
      clear hwq
      go_loopw [6] (fun i wx => ∃ j : Nat, k ≤ j ∧ j ≤ n ∧ i = .int .i64 (j : Int) ∧ Below wq.heap.size wq wx ∧ Hid (∀ l, k ≤ l → l < j → f l = f k)) (fun i _ => n - (intOf i).toNat)
      case atStart => exact ⟨k, Nat.le_refl _, hk, rfl, Below.refl _ _, Lib.hid (fun l h1 h2 => absurd h1 (by omega))⟩
      case round =>
        obtain ⟨j, hkj, hjn, rfl, hbx, HA⟩ := hrel
        have HBX := Lib.hid hbx
        have p0 := (hbx.cell (block_lt_of_cell HX0.out)).trans HX0.out
        clear hbx
        by_cases hj : j < n
        · obtain ⟨b', o', e, hx⟩ := HL.out j hj
          cases e
          obtain ⟨fj, hfj⟩ : ∃ x, x = f j := ⟨_, rfl⟩
          rw [← hfj] at hx
          have HFJ := Lib.hid hfj
          replace hx := ((HB.out.trans (HBX.out.mono HB.out.size)).cell (block_lt_of_cell hx)).trans hx
          clear hfj
          have hj3 : decide ((j : Int) < (n : Int)) = true := by simpa using hj
          by_cases heq : fj = fk
          · subst heq
            have hst := Lib.hid (show ∀ l, k ≤ l → l < j + 1 → f l = f k from fun l h1 h2 => by
              by_cases e : l = j
              · subst e; rw [← HFJ.out, HFK.out]
              · exact HA.out l h1 (by omega))
            go_wp2_with fail
            refine Plan.wp_region_plan (fun w' => w'.cell? ⟨b, o + k, none⟩ = some (.int .i64 fj) ∧ w'.cell? ⟨b, o + j, none⟩ = some (.int .i64 fj)) (([0, 1, 2, 3, 4, 5, 6, 7, 8, 9, 10, 11, 12, 13, 14].map (·, true))) (by kernel_rfl) (by kernel_rfl) (by kernel_rfl) ⟨p0, hx⟩ ?_
            refine' Plan.plan_seg _ [0, 1, 2, 3, 4, 5, 6, 7, 8, 9, 10, 11, 12, 13, 14] ([]) (by kernel_rfl) (by kernel_rfl) rfl (by exact ⟨p0, hx⟩) (fun wx hS => ?_) ?_
            rotate_left
            · obtain ⟨y0, y1⟩ := hS
              go_light
              iterate 15 (apply Plan.seg_pick; rfl; intro K hK; go_wp)
              exact Plan.seg_nil
            refine Plan.plan_done ?_
            go_wp2_with fail
            go_roundw
            case rel => exact ⟨j + 1, by omega, by omega, by go_num, HBX.out.drew, hst⟩
            case measure => simp [intOf]; omega
          · have hne : (fj == fk) = false := by simpa using heq
            have hkj2 : k < j := by
              rcases Nat.lt_or_ge k j with h | h
              · exact h
              · exact absurd (show fj = fk by rw [HFJ.out, HFK.out, show j = k by omega]) heq
            have HNE := Lib.hid (show f j ≠ f k by rw [← HFJ.out, ← HFK.out]; exact heq)
            clear heq
            go_wp2_with fail
            refine Plan.wp_region_plan (fun w' => w'.cell? ⟨b, o + k, none⟩ = some (.int .i64 fk) ∧ w'.cell? ⟨b, o + j, none⟩ = some (.int .i64 fj)) (([0, 1, 2, 3, 4, 5, 6, 7, 8, 9, 10, 11, 12, 13, 14].map (·, true))) (by kernel_rfl) (by kernel_rfl) (by kernel_rfl) ⟨p0, hx⟩ ?_
            refine' Plan.plan_seg _ [0, 1, 2, 3, 4, 5, 6, 7, 8, 9, 10, 11, 12, 13, 14] ([]) (by kernel_rfl) (by kernel_rfl) rfl (by exact ⟨p0, hx⟩) (fun wx hS => ?_) ?_
            rotate_left
            · obtain ⟨y0, y1⟩ := hS
              go_light
              iterate 15 (apply Plan.seg_pick; rfl; intro K hK; go_wp)
              exact Plan.seg_nil
            refine Plan.plan_done ?_
            go_wp2_with fail
            have hjk : k < j := by omega
            have HRUN := Lib.hid (show rl f j = rl f k ++ [((j : Int) - (k : Int), f k)] from by
              have h := rl_run f k (HBD.out hlt) (j - k - 1) (fun l h1 h2 => HA.out l h1 (by omega))
              rw [show k + (j - k - 1) + 1 = j by omega, show ((j - k - 1 : Nat) : Int) + 1 = (j : Int) - (k : Int) by omega] at h
              exact h)
            have HI : Hid (IL (wr.drew.alloc (.cells #[.int .i64 ((j : Int) - (k : Int)), .int .i64 fk] 2)) (.slice (some ⟨wr.heap.size, 0, none⟩) 2 2) [(j : Int) - (k : Int), fk]) := Lib.hid (IL.build wr.drew [(j : Int) - (k : Int), fk] 2)
            refine (nums_any _ [(j : Int) - (k : Int), fk] _ HI.out (by simp)).mono ?_
            rintro e w5 ⟨r5, rfl, h5, hb5⟩
            have hb15 : Below wq.heap.size wq w5 := HBX.out.drew.trans (((below_box wr.drew _).trans (hb5.mono (by simp))).mono (by have := HBX.out.size; simp; omega))
            have hb05 := HB.out.trans (hb15.mono HB.out.size)
            obtain ⟨D, hD⟩ : ∃ D, D = numsL [(j : Int) - (k : Int), fk] := ⟨_, rfl⟩
            rw [← hD] at h5
            have HD := Lib.hid hD
            have HDL := Lib.hid (show R.length + D.length ≤ 100000000 from by rw [hD, numsL_length]; have := HRL.out; simp; omega)
            obtain ⟨qa, qc, hq⟩ := h5.shape
            subst hq
            have H5 := Lib.hid h5.bl
            have HB05 := Lib.hid hb05
            have HB15 := Lib.hid hb15
            clear h5 hb5 hb05 hb15 hD HI p0
            go_wp2_with (at_builtin; refine wpList_bytes w5 rfl (.tmp 29) (.tmp 38) rfl w.heap.size _ _ R D rfl (HO.out.below HB15.out) rfl H5.out HDL.out HB05.out.size ?_)
            intro v6 w6 h6 hb6
            obtain ⟨R6, hR6⟩ : ∃ x, x = R ++ D := ⟨_, rfl⟩
            rw [← hR6] at h6
            obtain ⟨wa, wc, hv6⟩ := h6.shape
            subst hv6
            have HR6 := Lib.hid (show R6 = numsL (pairs2 (rl f j)) from by
              rw [hR6, HR.out, HD.out, HRUN.out, pairs2_append, numsL_append, HFK.out]; simp [pairs2])
            have HM6 := Lib.hid (show (rl f j).length = m + 1 from by rw [HRUN.out, List.length_append, ← HM.out]; rfl)
            have H6 := Lib.hid h6
            have HB6 := Lib.hid (HB05.out.trans hb6)
            clear h6 hb6 hR6
            go_wp2_with fail
            go_roundw
            case rel => exact ⟨j, by omega, rfl, by rw [HM6.out]; go_num, by rw [← HR6.out]; exact H6.out, HB6.out, Lib.hid (fun hj' => .inr (by rw [HA.out (j - 1) (by omega) (by omega)]; exact HNE.out))⟩
            case measure => simp [intOf]; omega
        · obtain rfl : j = n := by omega
          go_wp2_with fail
          refine Plan.wp_region_plan (fun w' => w'.cell? ⟨b, o + k, none⟩ = some (.int .i64 fk)) (([0, 1, 2, 3, 4, 5, 6, 7, 8, 9, 10, 11, 12, 13, 14].map (·, true))) (by kernel_rfl) (by kernel_rfl) (by kernel_rfl) p0 ?_
          refine' Plan.plan_seg _ [0, 1, 2, 3, 4, 5, 6, 7, 8, 9, 10, 11, 12, 13, 14] ([]) (by kernel_rfl) (by kernel_rfl) rfl (by exact p0) (fun wx hS => ?_) ?_
          rotate_left
          · obtain y0 := hS
            go_light
            iterate 15 (apply Plan.seg_pick; rfl; intro K hK; go_wp)
            exact Plan.seg_nil
          refine Plan.plan_done ?_
          go_wp2_with fail
          have hjk : k < j := by omega
          have HRUN := Lib.hid (show rl f j = rl f k ++ [((j : Int) - (k : Int), f k)] from by
            have h := rl_run f k (HBD.out hlt) (j - k - 1) (fun l h1 h2 => HA.out l h1 (by omega))
            rw [show k + (j - k - 1) + 1 = j by omega, show ((j - k - 1 : Nat) : Int) + 1 = (j : Int) - (k : Int) by omega] at h
            exact h)
          have HI : Hid (IL (wr.drew.alloc (.cells #[.int .i64 ((j : Int) - (k : Int)), .int .i64 fk] 2)) (.slice (some ⟨wr.heap.size, 0, none⟩) 2 2) [(j : Int) - (k : Int), fk]) := Lib.hid (IL.build wr.drew [(j : Int) - (k : Int), fk] 2)
          refine (nums_any _ [(j : Int) - (k : Int), fk] _ HI.out (by simp)).mono ?_
          rintro e w5 ⟨r5, rfl, h5, hb5⟩
          have hb15 : Below wq.heap.size wq w5 := HBX.out.drew.trans (((below_box wr.drew _).trans (hb5.mono (by simp))).mono (by have := HBX.out.size; simp; omega))
          have hb05 := HB.out.trans (hb15.mono HB.out.size)
          obtain ⟨D, hD⟩ : ∃ D, D = numsL [(j : Int) - (k : Int), fk] := ⟨_, rfl⟩
          rw [← hD] at h5
          have HD := Lib.hid hD
          have HDL := Lib.hid (show R.length + D.length ≤ 100000000 from by rw [hD, numsL_length]; have := HRL.out; simp; omega)
          obtain ⟨qa, qc, hq⟩ := h5.shape
          subst hq
          have H5 := Lib.hid h5.bl
          have HB05 := Lib.hid hb05
          have HB15 := Lib.hid hb15
          clear h5 hb5 hb05 hb15 hD HI p0
          go_wp2_with (at_builtin; refine wpList_bytes w5 rfl (.tmp 29) (.tmp 38) rfl w.heap.size _ _ R D rfl (HO.out.below HB15.out) rfl H5.out HDL.out HB05.out.size ?_)
          intro v6 w6 h6 hb6
          obtain ⟨R6, hR6⟩ : ∃ x, x = R ++ D := ⟨_, rfl⟩
          rw [← hR6] at h6
          obtain ⟨wa, wc, hv6⟩ := h6.shape
          subst hv6
          have HR6 := Lib.hid (show R6 = numsL (pairs2 (rl f j)) from by
            rw [hR6, HR.out, HD.out, HRUN.out, pairs2_append, numsL_append, HFK.out]; simp [pairs2])
          have HM6 := Lib.hid (show (rl f j).length = m + 1 from by rw [HRUN.out, List.length_append, ← HM.out]; rfl)
          have H6 := Lib.hid h6
          have HB6 := Lib.hid (HB05.out.trans hb6)
          clear h6 hb6 hR6
          go_wp2_with fail
          go_roundw
          case rel => exact ⟨j, by omega, rfl, by rw [HM6.out]; go_num, by rw [← HR6.out]; exact H6.out, HB6.out, Lib.hid (fun hj' => .inr (by exact absurd hj' (by omega)))⟩
          case measure => simp [intOf]; omega
    · obtain rfl : k = n := by omega
      have HI : Hid (IL (wr.alloc (.cells #[.int .i64 0, .int .i64 (m : Nat)] 2)) (.slice (some ⟨wr.heap.size, 0, none⟩) 2 2) [0, (m : Int)]) := Lib.hid (IL.build wr [0, (m : Int)] 2)
      go_wp2_with fail
      refine (nums_any _ [0, (m : Int)] _ HI.out (by simp)).mono ?_
      rintro e w5 ⟨r5, rfl, h5, hb5⟩
      have hb15 : Below wr.heap.size wr w5 := (below_box wr _).trans (hb5.mono (by simp))
      obtain ⟨D, hD⟩ : ∃ D, D = numsL [0, (m : Int)] := ⟨_, rfl⟩
      rw [← hD] at h5
      have HD := Lib.hid hD
      have HDL := Lib.hid (show D.length = 8 from by rw [hD, numsL_length]; rfl)
      obtain ⟨qa, qc, hq⟩ := h5.shape
      subst hq
      have H5 := Lib.hid h5.bl
      have HB15 := Lib.hid hb15
      clear h5 hb5 hb15 hD HI
      have HJ : Hid (JL (w5.alloc (.cells #[.slice qa D.length qc, .slice ra R.length rc] 22)) (.slice (some ⟨w5.heap.size, 0, none⟩) 2 2) [D, R]) := Lib.hid (JL.build (w := w5) (vs := [.slice qa D.length qc, .slice ra R.length rc]) (Ls := [D, R]) 22 ⟨H5.out, (HO.out.below HB15.out).bl, trivial⟩)
      go_wp2_with fail
      refine (join_any _ _ _ HJ.out (by simp) (by simp; have := HDL.out; have := HRL.out; omega)).mono ?_
      rintro e w7 ⟨r7, rfl, h7, hb7⟩
      have hb57 : Below w5.heap.size w5 w7 := (below_box w5 _).trans (hb7.mono (by simp))
      have hs := (HB.out.trans (HB15.out.mono HB.out.size)).size
      replace h7 := h7.mono (show w.heap.size ≤ (w5.alloc (.cells #[.slice qa D.length qc, .slice ra R.length rc] 22)).heap.size by simp; omega)
      rw [show [D, R].flatten = runsL f k from by simp only [runsL, List.flatten_cons, List.flatten_nil, List.append_nil]; rw [HD.out, HR.out, HM.out]; rfl] at h7
      obtain ⟨X, hX⟩ : ∃ X, X = runsL f k := ⟨_, rfl⟩
      rw [← hX] at h7
      have HX := Lib.hid hX
      obtain ⟨xa, xc, hxv⟩ := h7.shape
      subst hxv
      have H7 := Lib.hid h7
      have HB7 := Lib.hid (HB.out.trans ((HB15.out.trans (hb57.mono HB15.out.size)).mono HB.out.size))
      clear h7 hb7 hb57 hs hX HJ
      go_wp2_with fail
      go_ret
      rw [← HX.out]
      exact ⟨_, rfl, H7.out, HB7.out⟩
end Go.Proofs.Ytkhjkemllgjfmaa
