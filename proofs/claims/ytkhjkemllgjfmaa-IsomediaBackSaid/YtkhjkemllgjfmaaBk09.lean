/- Texts of this claim joined: BL BM BO BP BN BR BQ. -/
import Derived.Test.YtkhjkemllgjfmaaBk07
import Derived.Test.YtkhjkemllgjfmaaBk08
set_option linter.unusedVariables false
set_option linter.unusedSimpArgs false

/- The reader's sync samples. -/
namespace Go.Proofs.Ytkhjkemllgjfmaa
open Go.RowKit
set_option linter.unusedVariables false
set_option linter.unusedSimpArgs false
/-- The number before the k-th. -/
def prevOf (Q : List Int) : Nat → Int
  | 0 => 0
  | k + 1 => Q.getD k 0
def syncOff (S : Nat → Sm) (m : Nat) : Nat → Sm := fun j => if j < m then { S j with sync := false } else S j
def syncAt (S : Nat → Sm) (R : List Int) : Nat → Sm := fun j => { S j with sync := decide ((j : Int) + 1 ∈ R) }
theorem syncOff_step (S : Nat → Sm) (m : Nat) : (fun j => if j = m then { syncOff S m j with sync := false } else syncOff S m j) = syncOff S (m + 1) := by
  funext j
  unfold syncOff
  by_cases h : j = m
  · subst h; simp
  · rw [if_neg h]
    by_cases h2 : j < m
    · rw [if_pos h2, if_pos (by omega)]
    · rw [if_neg h2, if_neg (by omega)]
theorem syncAt_step (S : Nat → Sm) (R : List Int) (m : Nat) : (fun j => if j = m then { syncAt S R j with sync := true } else syncAt S R j) = syncAt S (R ++ [(m : Int) + 1]) := by
  funext j
  unfold syncAt
  by_cases h : j = m
  · subst h; simp
  · rw [if_neg h]
    have e : ((j : Int) + 1 ∈ R ++ [(m : Int) + 1]) ↔ ((j : Int) + 1 ∈ R) := by simp; omega
    simp only [e]
set_option maxRecDepth 100000 in
set_option maxHeartbeats 8000000 in
theorem rsyncs_any (v : Value) (L : List Int) (Q : List Int) (mb : Nat) (l : List Bx) (x : Bx) (B q n c : Nat) (X : Nat → Value) (S : Nat → Sm) (w : World) (hv : BY w v L) (hs : Seg L (x.p + 8) (tabL (Q.length : Int) Q)) (hz : x.sz = 8 + (tabL (Q.length : Int) Q).length)
    (h : DirA w B mb l) (hp : pick nStss l = [x]) (hQ : ∀ k y, Q[k]? = some y → prevOf Q k < y ∧ 1 ≤ y ∧ y ≤ n) (hb : SB w q n X S) (hnc : n ≤ c) (hq : q < w.heap.size) (hl : L.length ≤ 100000000) (hPl : Q.length ≤ 100000) (hnn : n ≤ 100000) :
    Calls Try.prog 84 #[.agg #[v], .map (some mb), .slice (some ⟨q, 0, none⟩) n c] w fun e w' => e = .returned (.bool true) ∧ SB w' q n X (syncAt S Q) ∧ But w.heap.size q w w' := by
  have HTB := Lib.hid (fun (w : World) (hv : BY w v L) (h : DirA w B mb l) => table_any2 v L Q Q.length 1 mb l nStss x B w hv hs hz h (by decide) hp (by omega) (by omega) hl (by omega) (by omega))
  rw [map_u32 (L := Q) (fun y hy => by obtain ⟨k, hk⟩ := List.getElem?_of_mem hy; have := hQ k y hk; omega)] at HTB
  simp only [Int.cast_ofNat_Int, nStss] at HTB
  have HV := Lib.hid hv
  have HD := Lib.hid h
  have HS := Lib.hid hb
  have HQ := Lib.hid hQ
  obtain ⟨va, vc, rfl⟩ := BA.shape hv
  obtain ⟨N, hN⟩ : ∃ N, N = L.length := ⟨_, rfl⟩
  rw [← hN] at HTB HV ⊢
  obtain ⟨K, hK⟩ : ∃ K, K = Q.length := ⟨_, rfl⟩
  rw [← hK] at hPl
  have HK := Lib.hid hK
  have HLEN := Lib.hid hK.symm
  clear hv h hb hQ hs hz hp hN hK
  go_enter Try.func84, Try.ntmps84
  go_upto_region 1 with fail
  obtain ⟨w1, hw1⟩ : ∃ y, y = w.alloc (.cells #[.slice va N vc] 98) := ⟨_, rfl⟩
  rw [← hw1]
  obtain ⟨g, hg⟩ : ∃ y, y = w.heap.size := ⟨_, rfl⟩
  have hb1 : Below w.heap.size w w1 := by rw [hw1]; exact below_box _ _
  have y0 : w1.cell? ⟨g, 0, none⟩ = some (.slice va N vc) := by rw [hw1, hg]; simp [go_sem]
  have HB := Lib.hid hb1
  rw [← hg]
  clear hw1 hg hb1
  go_wp2_with fail
  refine (HTB.out _ (HV.out.below HB.out) (HD.out.below HB.out)).mono ?_
  rintro e w2 ⟨v', rfl, hil, hnew, hb⟩
  obtain ⟨ao, vc', rfl⟩ : ∃ a c, v' = .slice a (K) c := by obtain ⟨a, c, e, _⟩ := hil; exact ⟨a, c, by rw [e, HLEN.out]⟩
  have HIL := Lib.hid hil
  have HNEW := Lib.hid (show ∀ a m c, Value.slice ao (K) vc' = .slice (some a) m c → a.block ≠ q from fun a m c e => by have := hnew a m c e; have := HB.out.size; omega)
  replace HB := Lib.hid (HB.out.trans (hb.mono HB.out.size))
  replace HS := Lib.hid (HS.out.block (HB.out.block q hq))
  clear hil hnew hb y0
  go_wp2_with fail
  go_loopw [23] (fun i wr => ∃ k : Nat, k ≤ n ∧ i = .int .i64 (k : Int) ∧ SB wr q n X (syncOff S k) ∧ But w2.heap.size q w2 wr) (fun i _ => n - (intOf i).toNat)
  case atStart => exact ⟨0, Nat.zero_le _, rfl, HS.out.congr (fun i _ => by simp [syncOff]), But.refl _ _ _⟩
  case round =>
    obtain ⟨k, hk, rfl, hsb, hbt⟩ := hrel
    have HSB := Lib.hid hsb
    have HBT := Lib.hid hbt
    by_cases hlt : k < n
    · have hlt' : (k : Int) < (n : Int) := by omega
      have p3 := hsb.k3 k hlt
      have pf := hsb.f
      clear hsb hbt
      go_wp2_with fail
      go_roundw
      case rel =>
        refine ⟨k + 1, by omega, by simp, ?_, HBT.out.trans (But.cell _ _ _ _ _)⟩
        have h1 := HSB.out.sync k hlt false
        rw [syncOff_step] at h1
        exact h1
      case measure =>
        simp [intOf]
        omega
    · have hkn : k = n := by omega
      subst hkn
      clear hsb hbt
      have HSB0 := Lib.hid (show SB wr q k X (syncAt S []) from HSB.out.congr (fun i hi => by simp [syncAt, syncOff, hi]))
      go_wp2_with fail
      go_loopw [10, 33] (fun pv i w3 => ∃ j : Nat, j ≤ K ∧ pv = .int .i64 (prevOf Q j) ∧ i = .int .i64 (j : Int) ∧ SB w3 q k X (syncAt S (Q.take j)) ∧ But w2.heap.size q w2 w3) (fun _ i _ => K - (intOf i).toNat)
      case atStart => exact ⟨0, Nat.zero_le _, rfl, rfl, HSB0.out, HBT.out⟩
      case round =>
        obtain ⟨j, hj, rfl, rfl, hsb, hbt⟩ := hrel
        have HSJ := Lib.hid hsb
        have HBJ := Lib.hid hbt
        clear hbt
        by_cases hlt : j < K
        · obtain ⟨y0, hy0⟩ : ∃ y, Q[j]? = some y := ⟨_, List.getElem?_eq_getElem (by have := HK.out; omega)⟩
          have hyy := HQ.out j y0 hy0
          obtain ⟨y, rfl⟩ : ∃ y : Nat, y0 = (y : Int) + 1 := ⟨(y0 - 1).toNat, by omega⟩
          obtain ⟨pv, hpv⟩ : ∃ p, p = prevOf Q j := ⟨_, rfl⟩
          rw [← hpv] at hyy ⊢
          obtain ⟨ao', c', e, hc', H⟩ := HIL.out
          simp only [Value.slice.injEq] at e
          obtain ⟨rfl, -, rfl⟩ := e
          obtain ⟨b, o, rfl, k0⟩ := H _ _ hy0
          have hbq : b ≠ q := HNEW.out _ _ _ rfl
          have k0' := (World.cell?_of_block (a := ⟨b, o + j, none⟩) (HBJ.out.block b (block_lt_of_cell k0) hbq)).trans k0
          have HY0 := Lib.hid hy0
          have hyn : y < k := by omega
          have p3 := hsb.k3 y hyn
          have pf := hsb.f
          have hlt' : (j : Int) < (K : Int) := by omega
          have z1 : ¬ ((y : Int) + 1 ≤ pv) := by omega
          have z2 : ¬ ((k : Int) < (y : Int) + 1) := by omega
          clear H hc' k0 hsb hy0 hpv
          go_wp2_with fail
          go_roundw
          case rel =>
            refine ⟨j + 1, by omega, ?_, by simp, ?_, HBJ.out.trans (But.cell _ _ _ _ _)⟩
            · simp only [prevOf]; rw [List.getD_eq_getElem?_getD, HY0.out]; rfl
            · have h1 := HSJ.out.sync y hyn true
              rw [syncAt_step] at h1
              rw [List.take_add_one, HY0.out]
              exact h1
          case measure =>
            simp [intOf]
            omega
        · have hjK : j = K := by omega
          subst hjK
          clear hsb
          go_wp2_with fail
          go_ret
          refine ⟨rfl, ?_, (But.of HB.out (Nat.le_refl _)).trans (HBJ.out.mono HB.out.size)⟩
          have h1 := HSJ.out
          rw [HK.out, List.take_length] at h1
          exact h1
end Go.Proofs.Ytkhjkemllgjfmaa

/- What the tables of a sample table say: plain. -/
namespace Go.Proofs.Ytkhjkemllgjfmaa
open Go.RowKit
set_option linter.unusedVariables false
set_option linter.unusedSimpArgs false
theorem expd_append (P Q : List (Int × Int)) : expd (P ++ Q) = expd P ++ expd Q := by simp [expd]
theorem expd_rl (f : Nat → Int) (n : Nat) : expd (rl f n) = (List.range n).map f := by
  induction n with
  | zero => rfl
  | succ k ih =>
    rw [List.range_succ, List.map_append, ← ih, rl]
    by_cases h : 0 < k ∧ f k = f (k - 1)
    · rw [if_pos h]
      obtain ⟨P, c, e, h1, h2⟩ := rl_pos (f := f) h.1
      rw [e, bump_append, expd_append, expd_append, List.append_assoc]
      congr 1
      show List.replicate (c + 1).toNat (f (k - 1)) ++ [] = (List.replicate c.toNat (f (k - 1)) ++ []) ++ [f k]
      rw [h.2, show (c + 1).toNat = c.toNat + 1 by omega, List.replicate_succ', List.append_nil, List.append_nil]
    · rw [if_neg h, expd_append]
      rfl
theorem rl_all (f : Nat → Int) (n : Nat) : ∀ p ∈ rl f n, 1 ≤ p.1 ∧ p.1 ≤ n ∧ ∃ i, i < n ∧ p.2 = f i := by
  induction n with
  | zero => intro p hp; cases hp
  | succ k ih =>
    intro p hp
    rw [rl] at hp
    by_cases h : 0 < k ∧ f k = f (k - 1)
    · rw [if_pos h] at hp
      obtain ⟨P, c, e, h1, h2⟩ := rl_pos (f := f) h.1
      rw [e] at ih hp
      rw [bump_append] at hp
      rcases List.mem_append.1 hp with hp | hp
      · obtain ⟨a, b, i, hi, e2⟩ := ih p (List.mem_append_left _ hp)
        exact ⟨a, by omega, i, by omega, e2⟩
      · rw [List.mem_singleton] at hp
        subst hp
        exact ⟨by dsimp only; omega, by dsimp only; omega, k - 1, by omega, rfl⟩
    · rw [if_neg h] at hp
      rcases List.mem_append.1 hp with hp | hp
      · obtain ⟨a, b, i, hi, e2⟩ := ih p hp
        exact ⟨a, by omega, i, by omega, e2⟩
      · rw [List.mem_singleton] at hp
        subst hp
        exact ⟨by dsimp only; omega, by dsimp only; omega, k, by omega, rfl⟩
theorem runs_tab (f : Nat → Int) (n : Nat) : runsL f n = tabL ((rl f n).length : Int) (pairs2 (rl f n)) := rfl
theorem stss_tab (T : Tr) : stssL T = tabL ((syncL T.S T.nS).length : Int) (syncL T.S T.nS) := rfl
theorem stco_tab (T : Tr) (first : Int) : stcoL T first = tabL ((placeL T.S first T.nS).length : Int) (placeL T.S first T.nS) := rfl
theorem sync_all (S : Nat → Sm) (n : Nat) : ∀ k y, (syncL S n)[k]? = some y → prevOf (syncL S n) k < y ∧ 1 ≤ y ∧ y ≤ n := by
  induction n with
  | zero => intro k y h; simp [syncL] at h
  | succ m ih =>
    intro k y h
    rw [syncL] at h ⊢
    by_cases hs : (S m).sync = true
    · simp only [hs, if_true] at h ⊢
      have hle : ∀ (k : Nat) (y : Int), (syncL S m)[k]? = some y → y ≤ (m : Int) := fun k y h => (ih k y h).2.2
      rcases Nat.lt_or_ge k (syncL S m).length with hk | hk
      · rw [List.getElem?_append_left hk] at h
        have h1 := ih k y h
        refine ⟨?_, h1.2.1, by omega⟩
        cases k with
        | zero => exact h1.1
        | succ j =>
          have e : (syncL S m ++ [(m : Int) + 1]).getD j 0 = (syncL S m).getD j 0 := by rw [List.getD_eq_getElem?_getD, List.getD_eq_getElem?_getD, List.getElem?_append_left (by omega)]
          show (syncL S m ++ [(m : Int) + 1]).getD j 0 < y
          rw [e]; exact h1.1
      · have hk2 : k = (syncL S m).length := by
          have := (List.getElem?_eq_some_iff.1 h).1
          simp at this; omega
        subst hk2
        simp at h
        subst h
        refine ⟨?_, by omega, by omega⟩
        cases hlen : (syncL S m).length with
        | zero => show (0 : Int) < _; omega
        | succ j =>
          show (syncL S m ++ [(m : Int) + 1]).getD j 0 < _
          rw [List.getD_eq_getElem?_getD, List.getElem?_append_left (by omega), List.getElem?_eq_getElem (by omega)]
          have := hle j _ (List.getElem?_eq_getElem (by omega))
          simp only [Option.getD_some]
          omega
    · simp only [hs, if_false, Bool.false_eq_true, List.append_nil] at h ⊢
      have h1 := ih k y h
      exact ⟨h1.1, h1.2.1, by omega⟩
theorem sync_mem (S : Nat → Sm) (n j : Nat) (hj : j < n) : ((j : Int) + 1 ∈ syncL S n) ↔ (S j).sync = true := by
  induction n with
  | zero => omega
  | succ m ih =>
    rw [syncL]
    by_cases hs : (S m).sync = true
    · simp only [hs, if_true]
      by_cases e : j = m
      · subst e; simp [hs]
      · rw [← ih (by omega)]; simp; omega
    · simp only [hs, if_false, Bool.false_eq_true, List.append_nil]
      by_cases e : j = m
      · subst e
        simp only [hs, Bool.false_eq_true, iff_false]
        intro h
        obtain ⟨k, hk⟩ := List.getElem?_of_mem h
        have := sync_all S j k _ hk
        omega
      · exact ih (by omega)
end Go.Proofs.Ytkhjkemllgjfmaa

/- Samples as makeSlice leaves them. -/
namespace Go.Proofs.Ytkhjkemllgjfmaa
open Go.RowKit
set_option linter.unusedVariables false
set_option linter.unusedSimpArgs false
def sm0 : Sm := ⟨0, fun _ => 0, 0, 0, false⟩
theorem made_at (z : Array Value) (n j : Nat) (hj : j < n) : (madeCells z n).toList[j]? = some (z[j % z.size]!) := by
  simp [madeCells, hj]
theorem made_at4 (z : Array Value) (n j r : Nat) (hz : z.size = 4) (hj : j < n) (hr : j % 4 = r) : (madeCells z n).toList[j]? = some (z[r]!) := by
  rw [made_at z n j hj, hz, hr]
theorem SB.made {w : World} {q n : Nat} {B : Nat} (h : w.ownsRow B 75 4 (.slice (some ⟨q, 0, none⟩) n n) n (madeCells #[.slice none 0 0, .int .i64 0, .int .i64 0, .bool false] (n * 4)).toList) :
    SB w q n (fun _ => .slice none 0 0) (fun _ => sm0) := by
  have hc : ∀ j, j < n * 4 → w.cell? ⟨q, j, none⟩ = (madeCells #[.slice none 0 0, .int .i64 0, .int .i64 0, .bool false] (n * 4)).toList[j]? := fun j hj => h.cellAt j (by omega)
  refine ⟨fun i hi => ?_, fun i hi => ?_, fun i hi => ?_, fun i hi => ?_, fun o => h.frozenAt o⟩
  · rw [hc _ (by omega), made_at4 _ _ _ 0 rfl (by omega) (by omega)]; rfl
  · rw [hc _ (by omega), made_at4 _ _ _ 1 rfl (by omega) (by omega)]; rfl
  · rw [hc _ (by omega), made_at4 _ _ _ 2 rfl (by omega) (by omega)]; rfl
  · rw [hc _ (by omega), made_at4 _ _ _ 3 rfl (by omega) (by omega)]; rfl
end Go.Proofs.Ytkhjkemllgjfmaa

/- Aids for the reader's samples. -/
namespace Go.Proofs.Ytkhjkemllgjfmaa
open Go.RowKit
set_option linter.unusedVariables false
set_option linter.unusedSimpArgs false
theorem But.other {n m q g : Nat} {w w' : World} (h : But n q w w') (hm : m ≤ n) (hq : m ≤ q) : But m g w w' := But.of (h.below hm hq) (Nat.le_refl _)
theorem But.far {n g q o : Nat} {u : Value} {w w' : World} (h : But n g w w') (hq : n ≤ q) : But n g w (w'.setCell ⟨q, o, none⟩ u) := h.trans ((But.cell n q o u w').other (Nat.le_refl _) hq)
theorem But.drew {n g : Nat} {w w' : World} (h : But n g w w') : But n g w w'.drew := h.trans (But.of (Below.refl n w').drew (Nat.le_refl _))
theorem RowB.but {w w' : World} {B g : Nat} {v : Value} {l : List Bx} (h : RowB w B v l) (hb : But w.heap.size g w w') (hg : g < B) : RowB w' B v l := by
  refine ⟨h.1, ?_⟩
  rcases h.2 with h1 | ⟨k, cap, cur, rfl, h1, h2, h3⟩
  · exact .inl h1
  · exact .inr ⟨k, cap, cur, rfl, h1, (hb.block k (Array.getElem?_eq_some_iff.1 h2).1 (by omega)).trans h2, h3⟩
theorem DirA.but {w w' : World} {B mb g : Nat} {l : List Bx} (h : DirA w B mb l) (hb : But w.heap.size g w w') (h1 : g < B) (h2 : g ≠ mb) : DirA w' B mb l := by
  have hl := h.lt
  obtain ⟨es, clock, hm, H1, H⟩ := h
  refine ⟨es, clock, (hb.block mb hl h2.symm).trans hm, fun e he => ?_, H⟩
  obtain ⟨nm, q1, q2, q3, q4, q5⟩ := H1 e he
  exact ⟨nm, q1, q2, q3, q4.but hb h1, q5⟩
/-- Numbers in blocks of a range. -/
def NL (w : World) (ao : Option Addr) (lo hi : Nat) (L : List Int) : Prop := ∀ i u, L[i]? = some u → ∃ b o, ao = some ⟨b, o, none⟩ ∧ lo ≤ b ∧ b < hi ∧ w.cell? ⟨b, o + i, none⟩ = some (.int .i64 u)
theorem NL.of {w : World} {ao : Option Addr} {n c lo : Nat} {L : List Int} (h : IL w (.slice ao n c) L) (hn : ∀ a m c', Value.slice ao n c = .slice (some a) m c' → lo ≤ a.block) : NL w ao lo w.heap.size L := by
  obtain ⟨ao', c', e, hc, H⟩ := h
  simp only [Value.slice.injEq] at e
  obtain ⟨rfl, rfl, rfl⟩ := e
  intro i u hu
  obtain ⟨b, o, rfl, hcell⟩ := H i u hu
  exact ⟨b, o, rfl, hn _ _ _ rfl, block_lt_of_cell hcell, hcell⟩
theorem NL.but {w w' : World} {ao : Option Addr} {lo hi n g : Nat} {L : List Int} (h : NL w ao lo hi L) (hb : But n g w w') (hn : hi ≤ n) (hg : g < lo) : NL w' ao lo hi L := by
  intro i u hu
  obtain ⟨b, o, e, h1, h2, h3⟩ := h i u hu
  exact ⟨b, o, e, h1, h2, (World.cell?_of_block (a := ⟨b, o + i, none⟩) (hb.block b (Nat.lt_of_lt_of_le h2 hn) (by omega))).trans h3⟩
theorem SB.congr3 {w : World} {q n : Nat} {X X' : Nat → Value} {S S' : Nat → Sm} (k : SB w q n X S) (hX : ∀ i, i < n → X' i = X i) (h : ∀ i, i < n → (S' i).dur = (S i).dur ∧ (S' i).shift = (S i).shift ∧ (S' i).sync = (S i).sync) : SB w q n X' S' :=
  ⟨fun i hi => by rw [hX i hi]; exact k.k0 i hi, fun i hi => by rw [(h i hi).1]; exact k.k1 i hi, fun i hi => by rw [(h i hi).2.1]; exact k.k2 i hi, fun i hi => by rw [(h i hi).2.2]; exact k.k3 i hi, k.f⟩
theorem SB.data {w : World} {q n : Nat} {X : Nat → Value} {S : Nat → Sm} (k : SB w q n X S) (i : Nat) (hi : i < n) (v : Value) : SB (w.setCell ⟨q, i * 4, none⟩ v) q n (fun j => if j = i then v else X j) S := by
  refine ⟨fun j hj => ?_, fun j hj => (cell_far (by omega)).trans (k.k1 j hj), fun j hj => (cell_far (by omega)).trans (k.k2 j hj), fun j hj => (cell_far (by omega)).trans (k.k3 j hj), fun o => (World.frozen?_setCell _ _ _ _).trans (k.f o)⟩
  by_cases e : j = i
  · subst e; simp only [if_true]; exact cell_here (k.k0 j hj)
  · simp only [if_neg e]; exact (cell_far (by omega)).trans (k.k0 j hj)
def smT : Sm := ⟨0, fun _ => 0, 0, 0, true⟩
def dataTo (X : Nat → Value) (m : Nat) : Nat → Value := fun j => if j < m then X j else .slice none 0 0
def freshTo (m : Nat) : Nat → Sm := fun j => if j < m then smT else sm0
theorem SB.put {w : World} {q n : Nat} {Y : Nat → Value} {i : Nat} (k : SB w q n (dataTo Y i) (freshTo i)) (hi : i < n) :
    SB ((((w.setCell ⟨q, i * 4, none⟩ (Y i)).setCell ⟨q, i * 4 + 1, none⟩ (.int .i64 0)).setCell ⟨q, i * 4 + 2, none⟩ (.int .i64 0)).setCell ⟨q, i * 4 + 3, none⟩ (.bool true)) q n (dataTo Y (i + 1)) (freshTo (i + 1)) := by
  refine (((((k.data i hi (Y i)).dur i hi 0).shift i hi 0).sync i hi true)).congr3 (fun j hj => ?_) (fun j hj => ?_)
  · unfold dataTo
    by_cases e : j = i
    · subst e; simp
    · rw [if_neg e]
      by_cases h2 : j < i
      · rw [if_pos h2, if_pos (by omega)]
      · rw [if_neg h2, if_neg (by omega)]
  · unfold freshTo
    by_cases e : j = i
    · subst e; simp [smT]
    · simp only [if_neg e]
      by_cases h2 : j < i
      · rw [if_pos h2, if_pos (by omega)]; exact ⟨rfl, rfl, rfl⟩
      · rw [if_neg h2, if_neg (by omega)]; exact ⟨rfl, rfl, rfl⟩
/-- A part of a slice, of which the capacity is cut to its length. -/
def slX (vb vo p z : Nat) : Value := .slice (some (if z = 0 then ⟨vb, vo, none⟩ else ⟨vb, vo + p, none⟩)) z z
theorem sizeN_part (S : Nat → Sm) {i n : Nat} (hi : i < n) : sizeN S i + (S i).n ≤ sizeN S n := by
  induction n with
  | zero => omega
  | succ n ih =>
    simp only [sizeN]
    by_cases e : i = n
    · subst e; omega
    · have := ih (by omega); omega
theorem placeL_len0 (S : Nat → Sm) (first : Int) (k : Nat) : (placeL S first k).length = k := by
  induction k with
  | zero => rfl
  | succ k ih => simp [placeL, ih]
theorem placeL_at (S : Nat → Sm) (first : Int) {i n : Nat} (hi : i < n) : (placeL S first n)[i]? = some (first + (sizeN S i : Nat)) := by
  induction n with
  | zero => omega
  | succ n ih =>
    have hl := placeL_len0 S first n
    rw [placeL]
    by_cases e : i = n
    · subst e; rw [List.getElem?_append_right (by omega), hl, Nat.sub_self]; rfl
    · rw [List.getElem?_append_left (by omega)]; exact ih (by omega)
theorem sizeL_at (S : Nat → Sm) {i n : Nat} (hi : i < n) : (sizeL S n)[i]? = some (((S i).n : Nat) : Int) := by
  induction n with
  | zero => omega
  | succ n ih =>
    have hl := sizeL_length S n
    rw [sizeL]
    by_cases e : i = n
    · subst e; rw [List.getElem?_append_right (by omega), hl, Nat.sub_self]; rfl
    · rw [List.getElem?_append_left (by omega)]; exact ih (by omega)
theorem rl_u32 (f : Nat → Int) (n : Nat) (hn : n ≤ 4096) (hf : ∀ i, i < n → 0 ≤ f i ∧ f i < 4294967296) : ∀ p ∈ rl f n, 0 ≤ p.1 ∧ p.1 < 4294967296 ∧ 0 ≤ p.2 ∧ p.2 < 4294967296 := fun p hp => by
  obtain ⟨h1, h2, i, hi, e⟩ := rl_all f n p hp
  have := hf i hi
  rw [e]
  omega
theorem rl_sum (f : Nat → Int) (n : Nat) : (expd (rl f n)).length = n := by rw [expd_rl]; simp
theorem rl_get (f : Nat → Int) {n i : Nat} (hi : i < n) : (expd (rl f n)).getD i 0 = f i := by rw [expd_rl, List.getD_eq_getElem?_getD]; simp [hi]
/-- The samples as read are those of the track. -/
theorem SB.told {w : World} {q n : Nat} {X : Nat → Value} {S0 : Nat → Sm} (T : Nat → Sm) (k : SB w q n X (syncAt (shiftTo (durTo S0 (expd (rl (fun i => (T i).dur) n)) n) (expd (rl (fun i => (T i).shift) n)) n) (syncL T n))) : SB w q n X T := by
  refine k.congr3 (fun _ _ => rfl) (fun i hi => ?_)
  have e1 := rl_get (fun i => (T i).dur) hi
  have e2 := rl_get (fun i => (T i).shift) hi
  have e3 := sync_mem T n i hi
  refine ⟨?_, ?_, ?_⟩
  · unfold syncAt shiftTo durTo; simp only [if_pos hi]; exact e1.symm
  · unfold syncAt shiftTo durTo; simp only [if_pos hi]; exact e2.symm
  · unfold syncAt
    simp only [e3]
    cases (T i).sync <;> rfl
end Go.Proofs.Ytkhjkemllgjfmaa

/- The reader's samples. -/
namespace Go.Proofs.Ytkhjkemllgjfmaa
open Go.RowKit
set_option linter.unusedVariables false
set_option linter.unusedSimpArgs false
theorem stsz_segs (T : Tr) : Seg (stszL T) 0 (num4 0) ∧ Seg (stszL T) 4 (num4 0) ∧ Seg (stszL T) 8 (num4 (T.nS : Int)) ∧ Seg (stszL T) 12 (numsL (sizeL T.S T.nS)) ∧ (stszL T).length = 12 + 4 * T.nS := by
  have hl := sizeL_length T.S T.nS
  have e : stszL T = numsL [0, 0, (T.nS : Int)] ++ numsL (sizeL T.S T.nS) := by unfold stszL; rw [hl]
  rw [e]
  refine ⟨⟨[], num4 0 ++ num4 (T.nS : Int) ++ numsL (sizeL T.S T.nS), ?_, rfl⟩, ⟨num4 0, num4 (T.nS : Int) ++ numsL (sizeL T.S T.nS), ?_, rfl⟩, ⟨num4 0 ++ num4 0, numsL (sizeL T.S T.nS), ?_, rfl⟩, ⟨numsL [0, 0, (T.nS : Int)], [], ?_, rfl⟩, ?_⟩
  · simp [numsL, List.append_assoc]
  · simp [numsL, List.append_assoc]
  · simp [numsL, List.append_assoc]
  · simp
  · rw [List.length_append, numsL_length, numsL_length, hl]; rfl
theorem placeL_len (S : Nat → Sm) (first : Int) (k : Nat) : (placeL S first k).length = k := by
  induction k with
  | zero => rfl
  | succ k ih => simp [placeL, ih]
set_option maxRecDepth 100000 in
set_option maxHeartbeats 8000000 in
theorem samples_any (v : Value) (L : List Int) (T : Tr) (f0 : Nat) (mb : Nat) (l : List Bx) (B tb : Nat) (h : ByteArray) (sc : Int) (cv sv ev : Value) (xz xo xt xc xs : Bx) (w : World) (hv : BY w v L) (hvt : ∀ a m c, v = .slice (some a) m c → a.block ≠ tb) (ht : TV w tb h sc cv sv ev) (hd : DirA w B mb l) (htB : tb < B) (hmb : tb ≠ mb)
    (hpz : pick nStsz l = [xz]) (hsz : Seg L (xz.p + 8) (stszL T)) (hzz : xz.sz = 8 + (stszL T).length) (hpo : pick nStco l = [xo]) (hso : Seg L (xo.p + 8) (stcoL T (f0 : Int))) (hzo : xo.sz = 8 + (stcoL T (f0 : Int)).length)
    (hpt : pick nStts l = [xt]) (hst : Seg L (xt.p + 8) (runsL (fun i => (T.S i).dur) T.nS)) (hzt : xt.sz = 8 + (runsL (fun i => (T.S i).dur) T.nS).length) (hpc : pick nCtts l = [xc]) (hsc : Seg L (xc.p + 8) (runsL (fun i => (T.S i).shift) T.nS)) (hzc : xc.sz = 8 + (runsL (fun i => (T.S i).shift) T.nS).length)
    (hps : pick nStss l = [xs]) (hss : Seg L (xs.p + 8) (stssL T)) (hzs : xs.sz = 8 + (stssL T).length) (hok : ∀ i, i < T.nS → 0 ≤ (T.S i).dur ∧ (T.S i).dur < 4294967296 ∧ 0 ≤ (T.S i).shift ∧ (T.S i).shift < 4294967296) (hfit : f0 + sizeN T.S T.nS ≤ L.length) (hnS : T.nS ≤ 4096) (hl : L.length ≤ 100000000) :
    Calls Try.prog 78 #[.agg #[v], .map (some mb), .pointer (some ⟨tb, 0, none⟩)] w fun e w' => e = .returned (.bool true) ∧ ∃ q vb vo vc, v = .slice (some ⟨vb, vo, none⟩) L.length vc ∧ w.heap.size ≤ q ∧ q < w'.heap.size ∧ TV w' tb h sc cv (.slice (some ⟨q, 0, none⟩) T.nS T.nS) ev ∧
      SB w' q T.nS (fun i => slX vb vo (f0 + sizeN T.S i) (T.S i).n) T.S ∧ But w.heap.size tb w w' := by
  have hZ : ∀ y ∈ sizeL T.S T.nS, 0 ≤ y ∧ y < 4294967296 := fun y hy => by
    obtain ⟨i, hi⟩ := List.getElem?_of_mem hy
    have hin : i < T.nS := by have := (List.getElem?_eq_some_iff.1 hi).1; rwa [sizeL_length] at this
    rw [sizeL_at T.S hin] at hi
    have := sizeN_part T.S hin
    simp only [Option.some.injEq] at hi
    omega
  have hP : ∀ y ∈ placeL T.S (f0 : Int) T.nS, 0 ≤ y ∧ y < 4294967296 := fun y hy => by
    obtain ⟨i, hi⟩ := List.getElem?_of_mem hy
    have hin : i < T.nS := by have := (List.getElem?_eq_some_iff.1 hi).1; rwa [placeL_len0] at this
    rw [placeL_at T.S _ hin] at hi
    have := sizeN_part T.S hin
    simp only [Option.some.injEq] at hi
    omega
  have HRD := Lib.hid (fun (q : Nat) (X : Nat → Value) (S : Nat → Sm) (w : World) (hv : BY w v L) (h : DirA w B mb l) (hb : SB w q T.nS X S) (hq : q < w.heap.size) => rruns_dur v L (rl (fun i => (T.S i).dur) T.nS) mb l nStts xt B q T.nS T.nS X S w hv hst hzt h (by decide) hpt (rl_u32 _ _ hnS (fun i hi => ⟨(hok i hi).1, (hok i hi).2.1⟩)) (rl_sum _ _) hb (Nat.le_refl _) hq hl (by have := rl_length (fun i => (T.S i).dur) T.nS; omega) (by omega))
  have HRS := Lib.hid (fun (q : Nat) (X : Nat → Value) (S : Nat → Sm) (w : World) (hv : BY w v L) (h : DirA w B mb l) (hb : SB w q T.nS X S) (hq : q < w.heap.size) => rruns_shift v L (rl (fun i => (T.S i).shift) T.nS) mb l nCtts xc B q T.nS T.nS X S w hv hsc hzc h (by decide) hpc (rl_u32 _ _ hnS (fun i hi => ⟨(hok i hi).2.2.1, (hok i hi).2.2.2⟩)) (rl_sum _ _) hb (Nat.le_refl _) hq hl (by have := rl_length (fun i => (T.S i).shift) T.nS; omega) (by omega))
  have HSY := Lib.hid (fun (q : Nat) (X : Nat → Value) (S : Nat → Sm) (w : World) (hv : BY w v L) (h : DirA w B mb l) (hb : SB w q T.nS X S) (hq : q < w.heap.size) => rsyncs_any v L (syncL T.S T.nS) mb l xs B q T.nS T.nS X S w hv hss hzs h hps (sync_all T.S T.nS) hb (Nat.le_refl _) hq hl (by have := syncL_length T.S T.nS; omega) (by omega))
  have HLC := Lib.hid (fun (w : World) (h : DirA w B mb l) => h.look nCtts (by decide))
  have HLS := Lib.hid (fun (w : World) (h : DirA w B mb l) => h.look nStss (by decide))
  rw [hpc] at HLC
  rw [hps] at HLS
  simp only [nStts] at HRD
  simp only [nCtts] at HRS HLC
  simp only [nStss] at HLS
  clear hpt hst hzt hpc hsc hzc hps hss hzs hok
  obtain ⟨q0, q4, q8, q12, ql⟩ := stsz_segs T
  have HDT := Lib.hid (fun (w : World) (hv : BY w v L) (h : DirA w B mb l) => data_any2 v L (stszL T) mb 12 l nStsz xz B w hv hsz hzz h (by decide) hpz (by omega) hl)
  have hpl := placeL_len T.S (f0 : Int) T.nS
  have HTO := Lib.hid (fun (w : World) (hv : BY w v L) (h : DirA w B mb l) => table_any2 v L (placeL T.S (f0 : Int) T.nS) (placeL T.S (f0 : Int) T.nS).length 1 mb l nStco xo B w hv hso hzo h (by decide) hpo (by omega) (by omega) hl (by omega) (by omega))
  rw [map_u32 hP] at HTO
  simp only [nStco, Int.cast_ofNat_Int] at HTO
  have HZ := Lib.hid hZ
  clear hZ hP hso hzo hpo hpl
  have HV := Lib.hid hv
  have HT := Lib.hid ht
  have HD := Lib.hid hd
  have HQ := Lib.hid (And.intro q0 (And.intro q4 (And.intro q8 (And.intro q12 ql))))
  have htw := ht.lt
  obtain ⟨vb, vo, vc, rfl, hvb⟩ : ∃ vb vo vc, v = .slice (some ⟨vb, vo, none⟩) L.length vc ∧ vb < w.heap.size := by
    obtain ⟨vb, vo, vc, e, h1, h2, h3⟩ := BA.open hv (by have := hsz.le; rw [ql] at this; omega)
    exact ⟨vb, vo, vc, e, block_lt_of_cell (h2 0 (by have := hsz.le; rw [ql] at this; omega))⟩
  have hvt2 : vb ≠ tb := hvt _ _ _ rfl
  obtain ⟨N, hN⟩ : ∃ N, N = L.length := ⟨_, rfl⟩
  rw [← hN] at HDT HTO HV hfit hl HRD HRS HSY ⊢
  clear q0 q4 q8 q12 ql hv hvt ht hd hsz hzz hpz hN
  go_enter Try.func78, Try.ntmps78
  go_upto_region 1 with fail
  obtain ⟨w1, hw1⟩ : ∃ y, y = w.alloc (.cells #[.slice (some ⟨vb, vo, none⟩) N vc] 98) := ⟨_, rfl⟩
  rw [← hw1]
  obtain ⟨g, hg⟩ : ∃ y, y = w.heap.size := ⟨_, rfl⟩
  have hb1 : Below w.heap.size w w1 := by rw [hw1]; exact below_box _ _
  have HY := Lib.hid (show C1 w1 g (.slice (some ⟨vb, vo, none⟩) N vc) by rw [hw1, hg]; constructor <;> simp [go_sem])
  have HG := Lib.hid (show w.heap.size ≤ g ∧ g < w1.heap.size ∧ tb ≠ g from ⟨Nat.le_of_eq hg.symm, HY.out.lt, by omega⟩)
  rw [← hg]
  have HB := Lib.hid hb1
  replace HD := Lib.hid (HD.out.below hb1)
  replace HT := Lib.hid (HT.out.below hb1)
  clear hw1 hg hb1
  have y0 := HY.out.k0
  simp only [nStsz, Int.cast_ofNat_Int] at HDT
  go_wp2_with fail
  refine (HDT.out _ (HV.out.below HB.out) HD.out).mono ?_
  rintro e w2 ⟨v', rfl, hby, hsb, hb⟩
  obtain ⟨b2, c2, rfl⟩ := hsb _ _ _ _ rfl
  clear hsb
  have HS := Lib.hid hby
  replace HB := Lib.hid (HB.out.trans (hb.mono HB.out.size))
  replace HD := Lib.hid (HD.out.below hb)
  replace HT := Lib.hid (HT.out.below hb)
  replace HY := Lib.hid (HY.out.below hb)
  rw [HQ.out.2.2.2.2] at HS ⊢
  clear hby hb y0
  have u0 : u32 0 = 0 := rfl
  have uc : u32 (T.nS : Int) = (T.nS : Int) := by unfold u32; omega
  have HSx := Lib.hid (show BY w2 (.slice (some ⟨vb, b2, none⟩) (stszL T).length c2) (stszL T) by rw [HQ.out.2.2.2.2]; exact HS.out)
  have HN0 := Lib.hid (fun (w : World) (h : BY w (.slice (some ⟨vb, b2, none⟩) (stszL T).length c2) (stszL T)) => number_at _ _ 0 0 w h (by have := HQ.out.2.2.2.2; omega) HQ.out.1)
  have HN4 := Lib.hid (fun (w : World) (h : BY w (.slice (some ⟨vb, b2, none⟩) (stszL T).length c2) (stszL T)) => number_at _ _ 4 0 w h (by have := HQ.out.2.2.2.2; omega) HQ.out.2.1)
  have HN8 := Lib.hid (fun (w : World) (h : BY w (.slice (some ⟨vb, b2, none⟩) (stszL T).length c2) (stszL T)) => number_at _ _ 8 (T.nS : Int) w h (by have := HQ.out.2.2.2.2; omega) HQ.out.2.2.1)
  rw [u0] at HN0 HN4
  rw [uc] at HN8
  rw [HQ.out.2.2.2.2] at HN0 HN4 HN8 HSx
  simp only [Int.cast_ofNat_Int, Int.natCast_zero] at HN0 HN4 HN8
  clear u0 uc
  go_wp2_with fail
  clear HS
  refine (HN0.out w2 HSx.out).mono ?_
  rintro e w3 ⟨rfl, hw3⟩
  have hb : Below w2.heap.size w2 w3 := by rw [hw3]; exact (Below.refl _ _).drew
  replace HSx := Lib.hid (HSx.out.below hb)
  replace HB := Lib.hid (HB.out.trans (hb.mono HB.out.size))
  replace HD := Lib.hid (HD.out.below hb)
  replace HT := Lib.hid (HT.out.below hb)
  replace HY := Lib.hid (HY.out.below hb)
  clear hw3 hb
  go_wp2_with fail
  refine (HN4.out w3 HSx.out).mono ?_
  rintro e w4 ⟨rfl, hw4⟩
  have hb : Below w3.heap.size w3 w4 := by rw [hw4]; exact (Below.refl _ _).drew
  replace HSx := Lib.hid (HSx.out.below hb)
  replace HB := Lib.hid (HB.out.trans (hb.mono HB.out.size))
  replace HD := Lib.hid (HD.out.below hb)
  replace HT := Lib.hid (HT.out.below hb)
  replace HY := Lib.hid (HY.out.below hb)
  clear hw4 hb
  go_wp2_with fail
  refine (HN8.out w4 HSx.out).mono ?_
  rintro e w5 ⟨rfl, hw5⟩
  have hb : Below w4.heap.size w4 w5 := by rw [hw5]; exact (Below.refl _ _).drew
  replace HSx := Lib.hid (HSx.out.below hb)
  replace HB := Lib.hid (HB.out.trans (hb.mono HB.out.size))
  replace HD := Lib.hid (HD.out.below hb)
  replace HT := Lib.hid (HT.out.below hb)
  replace HY := Lib.hid (HY.out.below hb)
  clear hw5 hb
  go_wp2_with fail
  refine (HN8.out w5 HSx.out).mono ?_
  rintro e w6 ⟨rfl, hw6⟩
  have hb : Below w5.heap.size w5 w6 := by rw [hw6]; exact (Below.refl _ _).drew
  replace HSx := Lib.hid (HSx.out.below hb)
  replace HB := Lib.hid (HB.out.trans (hb.mono HB.out.size))
  replace HD := Lib.hid (HD.out.below hb)
  replace HT := Lib.hid (HT.out.below hb)
  replace HY := Lib.hid (HY.out.below hb)
  clear hw6 hb
  have zn : ¬ ((4096 : Int) < (T.nS : Int)) := by omega
  go_upto_region 4 with fail
  clear HN0 HN4 HN8
  apply wp_region_lit
  iterate 3 go_step
  have hc2 : 12 + 4 * T.nS ≤ c2 := by
    obtain ⟨_, _, c2', e2, hc2, -, -⟩ := BA.open HSx.out (by rw [HQ.out.2.2.2.2]; omega)
    rw [HQ.out.2.2.2.2] at e2 hc2
    simp only [Value.slice.injEq, true_and] at e2
    obtain ⟨_, rfl⟩ := e2
    exact hc2
  refine Great.wpList_runTo rfl (some 48) rfl _ w6 (run_from _ _ (.tmp 47) (.const (.int .i64 12)) vb b2 (12 + 4 * T.nS) c2 12 w6 rfl rfl rfl (by omega) hc2) ?_
  have hnl : (numsL (sizeL T.S T.nS)).length = 4 * T.nS := by rw [numsL_length, sizeL_length]
  have hbl : ∃ a7 c7, (Value.slice (some (if 12 = c2 then ⟨vb, b2, none⟩ else ⟨vb, b2 + 12, none⟩)) (12 + 4 * T.nS - 12) (c2 - 12)) = .slice (some a7) (4 * T.nS) c7 ∧ BY w6 (.slice (some a7) (4 * T.nS) c7) (numsL (sizeL T.S T.nS)) := by
    by_cases h12 : 12 = c2
    · refine ⟨⟨vb, b2, none⟩, c2 - 12, by rw [if_pos h12]; congr 1; omega, ⟨_, c2 - 12, by rw [hnl], by omega, fun i hi => ?_⟩⟩
      omega
    · refine ⟨⟨vb, b2 + 12, none⟩, c2 - 12, by rw [if_neg h12]; congr 1; omega, ?_⟩
      have h1 := BY.part (show BY w6 (.slice (some ⟨vb, b2, none⟩) (stszL T).length c2) (stszL T) by rw [HQ.out.2.2.2.2]; exact HSx.out) HQ.out.2.2.2.1 (show (numsL (sizeL T.S T.nS)).length ≤ c2 - 12 by omega)
      rw [hnl] at h1
      exact h1
  obtain ⟨a7, c7, e7, hbl⟩ := hbl
  rw [e7]
  have HBL := Lib.hid hbl
  clear e7 hbl hnl
  simp only [Act.put, List.setIfInBounds_toArray, List.set_cons_succ, List.set_cons_zero]
  go_wp2_with fail
  refine (numbers_any2 _ (sizeL T.S T.nS) w6 HBL.out (by rw [sizeL_length]; omega)).mono ?_
  rintro e w7 ⟨v7, rfl, hil, hnew, hb⟩
  rw [map_u32 (fun y hy => HZ.out y hy)] at hil
  obtain ⟨az, cz, rfl⟩ : ∃ a c, v7 = .slice a T.nS c := by obtain ⟨a, c, e, _⟩ := hil; exact ⟨a, c, by rw [e, sizeL_length]⟩
  have HIZ := Lib.hid hil
  have HNZ := Lib.hid (show ∀ a m c, Value.slice az T.nS cz = .slice (some a) m c → w.heap.size ≤ a.block from fun a m c e => Nat.le_trans HB.out.size (hnew a m c e))
  replace HB := Lib.hid (HB.out.trans (hb.mono HB.out.size))
  replace HD := Lib.hid (HD.out.below hb)
  replace HT := Lib.hid (HT.out.below hb)
  replace HY := Lib.hid (HY.out.below hb)
  clear hil hnew hb HBL HSx
  have y0 := HY.out.k0
  go_wp2_with fail
  refine (HTO.out w7 (HV.out.below HB.out) HD.out).mono ?_
  rintro e w8 ⟨v8, rfl, hil, hnew, hb⟩
  obtain ⟨ap, cp, rfl⟩ : ∃ a c, v8 = .slice a T.nS c := by obtain ⟨a, c, e, _⟩ := hil; exact ⟨a, c, by rw [e, placeL_len]⟩
  have HIP := Lib.hid hil
  have HNP := Lib.hid (show ∀ a m c, Value.slice ap T.nS cp = .slice (some a) m c → w.heap.size ≤ a.block from fun a m c e => Nat.le_trans HB.out.size (hnew a m c e))
  replace HIZ := Lib.hid (show IL w8 (.slice az T.nS cz) (sizeL T.S T.nS) from HIZ.out.below hb)
  replace HB := Lib.hid (HB.out.trans (hb.mono HB.out.size))
  replace HD := Lib.hid (HD.out.below hb)
  replace HT := Lib.hid (HT.out.below hb)
  replace HY := Lib.hid (HY.out.below hb)
  clear hil hnew hb y0
  go_upto_region 8 with fail
  apply wp_region_lit
  iterate 9 go_step
  obtain ⟨i75, hi75, hrest⟩ := Option.map_eq_some_iff.1 info75
  simp only [Prod.mk.injEq] at hrest
  obtain ⟨hz75, hs75, hb75⟩ := hrest
  refine wpList_make_full w8 rfl (.tmp 67) (.tmp 67) 40 rfl w8.heap.size 75 i75 _ 4 Try.underlying40 hi75 hz75 hs75 .i64 .i64 (T.nS : Int) (T.nS : Int) T.nS rfl rfl rfl rfl (by rw [hb75]; omega) (by unfold maxLen; omega) (Nat.le_refl _) ?_
  intro w9 ho hg
  have HSB := Lib.hid (SB.made ho)
  have hb : Below w8.heap.size w8 w9 := growB (Below.refl _ _) (Nat.le_refl _) hg (fun k hk => by cases hk)
  obtain ⟨q, hq⟩ : ∃ q, q = w8.heap.size := ⟨_, rfl⟩
  have hq9 : q < w9.heap.size := by rw [hq]; exact (World.ownsRow.lt ho _ rfl).2
  have htq : tb ≠ q := by have := HB.out.size; omega
  rw [← hq] at HSB ⊢
  have HT9 := Lib.hid (HT.out.below hb)
  have HNZ := Lib.hid (NL.of HIZ.out HNZ.out)
  have HNP := Lib.hid (NL.of HIP.out HNP.out)
  have HV8 := Lib.hid (HV.out.below HB.out)
  have HYN := Lib.hid (show g < w8.heap.size ∧ g ≠ tb from ⟨HY.out.lt, HG.out.2.2.symm⟩)
  have HB89 := Lib.hid (But.of (g := tb) hb (Nat.le_refl _))
  have HQ8 := Lib.hid hq.symm
  have HWQ := Lib.hid (show w.heap.size ≤ q from by rw [hq]; exact HB.out.size)
  have HQT := Lib.hid (show q < w9.heap.size ∧ tb ≠ q from ⟨hq9, htq⟩)
  have HB0 := Lib.hid (But.of (g := tb) HB.out (Nat.le_refl _))
  clear ho hg hb hq hi75 hz75 hs75 hb75 HIZ HIP HT HV HB hq9 htq
  simp only [Act.put, List.setIfInBounds_toArray, List.set_cons_succ, List.set_cons_zero]
  have y3 := HT9.out.k3
  have yf := HT9.out.f
  go_upto_region 9 with fail
  obtain ⟨w10, hw10⟩ : ∃ y, y = w9.setCell ⟨tb, 3, none⟩ (.slice (some ⟨q, 0, none⟩) T.nS T.nS) := ⟨_, rfl⟩
  rw [← hw10]
  have HT10 := Lib.hid (show TV w10 tb h sc cv (.slice (some ⟨q, 0, none⟩) T.nS T.nS) ev by rw [hw10]; exact HT9.out.set3 _)
  have HW := Lib.hid (show But w8.heap.size tb w8 w10 by rw [hw10]; exact HB89.out.trans (But.cell _ _ _ _ _))
  have hB9 : But w9.heap.size tb w9 w10 := by rw [hw10]; exact But.cell _ _ _ _ _
  have HS10 := Lib.hid (show SB w10 q T.nS (dataTo (fun i => slX vb vo (f0 + sizeN T.S i) (T.S i).n) 0) (freshTo 0) from (HSB.out.block (hB9.block q HQT.out.1 HQT.out.2.symm)).congr3 (fun i _ => by simp [dataTo]) (fun i _ => by simp [freshTo]))
  have HQ10 := Lib.hid (show q < w10.heap.size from Nat.lt_of_lt_of_le HQT.out.1 hB9.size)
  clear hw10 hB9 y3 yf HT9 HSB HB89
  -- what stays, at any later world
  have HYA := Lib.hid (fun (wx : World) (hx : But w8.heap.size tb w8 wx) => (World.cell?_of_block (a := ⟨g, 0, none⟩) (hx.block g HYN.out.1 HYN.out.2)).trans HY.out.k0)
  have HDA := Lib.hid (fun (wx : World) (hx : But w8.heap.size tb w8 wx) => HD.out.but hx htB hmb)
  have HVA := Lib.hid (fun (wx : World) (hx : But w8.heap.size tb w8 wx) => HV8.out.but hx (fun a m c e => by
    simp only [Value.slice.injEq, Option.some.injEq] at e
    have e1 := e.1
    subst e1
    exact ⟨show vb < w8.heap.size by have := HB0.out.size; omega, hvt2⟩))
  have HZA := Lib.hid (fun (wx : World) (hx : But w8.heap.size tb w8 wx) => HNZ.out.but hx (Nat.le_refl _) htw)
  have HPA := Lib.hid (fun (wx : World) (hx : But w8.heap.size tb w8 wx) => HNP.out.but hx (Nat.le_refl _) htw)
  have HMB := Lib.hid (fun (wx : World) (hx : But w8.heap.size tb w8 wx) => hx.block mb HD.out.lt hmb.symm)
  have HD8 := Lib.hid HD.out
  clear HY HD HV8 HNZ HNP HYN HG
  clear HNZ HNP hc2
  go_wp2_with fail
  go_loopw [73] (fun i wr => ∃ k : Nat, k ≤ T.nS ∧ i = .int .i64 (k : Int) ∧ SB wr q T.nS (dataTo (fun i => slX vb vo (f0 + sizeN T.S i) (T.S i).n) k) (freshTo k) ∧ TV wr tb h sc cv (.slice (some ⟨q, 0, none⟩) T.nS T.nS) ev ∧ But w8.heap.size tb w8 wr ∧ q < wr.heap.size) (fun i _ => T.nS - (intOf i).toNat)
  case atStart => exact ⟨0, Nat.zero_le _, rfl, HS10.out, HT10.out, HW.out, HQ10.out⟩
  case round =>
    obtain ⟨k, hk, rfl, hsb, htv, hbt, hqr⟩ := hrel
    have HSK := Lib.hid hsb
    have HTK := Lib.hid htv
    have HBK := Lib.hid hbt
    have HQK := Lib.hid hqr
    clear htv hbt hqr
    by_cases hlt : k < T.nS
    · have hlt' : (k : Int) < (T.nS : Int) := by omega
      obtain ⟨bz, oz, rfl, _, _, cz0⟩ := HZA.out wr HBK.out k _ (sizeL_at T.S hlt)
      obtain ⟨bp, op, rfl, _, _, cp0⟩ := HPA.out wr HBK.out k _ (placeL_at T.S _ hlt)
      have hp1 := sizeN_part T.S hlt
      obtain ⟨z, hz⟩ : ∃ z, z = (T.S k).n := ⟨_, rfl⟩
      obtain ⟨p, hp⟩ : ∃ p, p = f0 + sizeN T.S k := ⟨_, rfl⟩
      have hpz : p + z ≤ N := by omega
      rw [← hz] at cz0
      rw [show (f0 : Int) + ((sizeN T.S k : Nat) : Int) = (p : Int) by omega] at cp0
      have HPZ := Lib.hid (show slX vb vo (f0 + sizeN T.S k) (T.S k).n = slX vb vo p z by rw [← hz, ← hp])
      have y0 := HYA.out wr HBK.out
      have y3 := HTK.out.k3
      clear hp hz hp1
      go_upto_region 12 with fail
      refine Plan.wp_region_plan (fun w' => w'.cell? ⟨bp, op + k, none⟩ = some (.int .i64 (p : Int))) (([0, 1, 2, 3, 4, 5, 6, 7, 8, 9, 10, 11].map (·, true)) ++ []) (by kernel_rfl) (by kernel_rfl) (by kernel_rfl) (by exact cp0) ?_
      refine' Plan.plan_seg _ [0, 1, 2, 3, 4, 5, 6, 7, 8, 9, 10, 11] [] (by kernel_rfl) (by kernel_rfl) rfl (by exact cp0) (fun wx hS => ?_) ?_
      rotate_left
      · go_light
        iterate 12 (apply Plan.seg_pick; rfl; intro K hK; go_wp)
        exact Plan.seg_nil
      refine Plan.plan_done ?_
      obtain ⟨wd, hwd⟩ : ∃ y, y = wr.drew := ⟨_, rfl⟩
      rw [← hwd]
      have hbd : Below wr.heap.size wr wd := by rw [hwd]; exact (Below.refl _ _).drew
      have HSD := Lib.hid (HSK.out.block (hbd.block q HQK.out))
      have HTD := Lib.hid (HTK.out.below hbd)
      have HBD := Lib.hid (show But w8.heap.size tb w8 wd by rw [hwd]; exact HBK.out.drew)
      have HQD := Lib.hid (Nat.lt_of_lt_of_le HQK.out hbd.size)
      have hvc : N ≤ vc := by
        obtain ⟨ao', c', e, hc, _⟩ := HVA.out wr HBK.out
        simp only [Value.slice.injEq] at e
        omega
      clear hwd hbd y0 y3 cz0 cp0 HSK HTK HBK HQK hsb
      have y0 := HYA.out wd HBD.out
      have y3 := HTD.out.k3
      have z3 : ¬ ((N : Int) < (p : Int) + (z : Int)) := by omega
      have z4 : (p : Int) + (z : Int) ≤ (vc : Int) := by omega
      have z5 : (p : Int) ≤ (p : Int) + (z : Int) := by omega
      have z6 : (0 : Int) ≤ (p : Int) := by omega
      by_cases hz0 : z = 0
      · subst hz0
        go_upto_region 15 with fail
        refine Plan.wp_region_plan (fun w' => w'.cell? ⟨tb, 3, none⟩ = some (.slice (some ⟨q, 0, none⟩) T.nS T.nS) ∧ w'.cell? ⟨g, 0, none⟩ = some (.slice (some ⟨vb, vo, none⟩) N vc)) (([0, 1, 2, 3, 4, 5, 6, 7, 8, 9, 10, 11, 12].map (·, true)) ++ (([13].map (·, false)))) (by kernel_rfl) (by kernel_rfl) (by kernel_rfl) ⟨y3, y0⟩ ?_
        refine' Plan.plan_seg _ [0, 1, 2, 3, 4, 5, 6, 7, 8, 9, 10, 11, 12] (([13].map (·, false))) (by kernel_rfl) (by kernel_rfl) rfl (by exact ⟨y3, y0⟩) (fun wx hS => ?_) ?_
        rotate_left
        · obtain ⟨s0, s1⟩ := hS
          go_light
          iterate 13 (apply Plan.seg_pick; rfl; intro K hK; go_wp)
          exact Plan.seg_nil
        obtain ⟨we, hwe⟩ : ∃ y, y = wd.drew := ⟨_, rfl⟩
        rw [← hwe]
        have HE := Lib.hid (show Below wd.heap.size wd we by rw [hwe]; exact (Below.refl _ _).drew)
        clear hwe
        have HSE := Lib.hid (HSD.out.block (HE.out.block q HQD.out))
        have e0 := HSE.out.k0 k hlt
        have e1 := HSE.out.k1 k hlt
        have e2 := HSE.out.k2 k hlt
        have e3 := HSE.out.k3 k hlt
        have ef := HSE.out.f
        refine Plan.plan_of_effect rfl (fun K hK => ?_)
        go_wp2_with fail
        obtain ⟨wf, hwf⟩ : ∃ y, y = (((we.setCell ⟨q, k * 4, none⟩ (.slice (some ⟨vb, vo, none⟩) 0 0)).setCell ⟨q, k * 4 + 1, none⟩ (.int .i64 0)).setCell ⟨q, k * 4 + 2, none⟩ (.int .i64 0)).setCell ⟨q, k * 4 + 3, none⟩ (.bool true) := ⟨_, rfl⟩
        rw [← hwf]
        have HSF := Lib.hid (show SB wf q T.nS (dataTo (fun i => slX vb vo (f0 + sizeN T.S i) (T.S i).n) (k + 1)) (freshTo (k + 1)) by
          have h1 := HSE.out.put hlt
          rw [HPZ.out] at h1
          rw [hwf]
          simpa [slX] using h1)
        have hbe : But q q we wf := by rw [hwf]; exact (((But.cell _ _ _ _ _).trans (But.cell _ _ _ _ _)).trans (But.cell _ _ _ _ _)).trans (But.cell _ _ _ _ _)
        have HBE := Lib.hid (HBD.out.trans (But.of (g := tb) HE.out HBD.out.size))
        have HBF := Lib.hid (show But w8.heap.size tb w8 wf by
          have h1 := (HBD.out.trans (But.of (g := tb) HE.out HBD.out.size)).trans (hbe.other (g := tb) (Nat.le_of_eq HQ8.out) (Nat.le_of_eq HQ8.out))
          exact h1)
        have HTF := Lib.hid ((HTD.out.below HE.out).block (w' := wf) (by rw [hwf]; simp [World.setCell, Array.getElem?_modify, HQT.out.2.symm]))
        have HQF := Lib.hid (Nat.lt_of_lt_of_le HQD.out (Nat.le_trans HE.out.size hbe.size))
        clear hwf hbe e0 e1 e2 e3 ef y0 y3
        refine ⟨⟨HTF.out.k3, HYA.out _ (HBE.out.far (Nat.le_of_eq HQ8.out))⟩, ?_⟩
        refine Plan.plan_done ?_
        go_wp2_with fail
        go_roundw
        case rel => exact ⟨k + 1, by omega, by simp, HSF.out, HTF.out, HBF.out, HQF.out⟩
        case measure =>
          simp [intOf]
          omega
      · 
        go_upto_region 15 with fail
        refine Plan.wp_region_plan (fun w' => w'.cell? ⟨tb, 3, none⟩ = some (.slice (some ⟨q, 0, none⟩) T.nS T.nS) ∧ w'.cell? ⟨g, 0, none⟩ = some (.slice (some ⟨vb, vo, none⟩) N vc)) (([0, 1, 2, 3, 4, 5, 6, 7, 8, 9, 10, 11, 12].map (·, true)) ++ (([13].map (·, false)))) (by kernel_rfl) (by kernel_rfl) (by kernel_rfl) ⟨y3, y0⟩ ?_
        refine' Plan.plan_seg _ [0, 1, 2, 3, 4, 5, 6, 7, 8, 9, 10, 11, 12] (([13].map (·, false))) (by kernel_rfl) (by kernel_rfl) rfl (by exact ⟨y3, y0⟩) (fun wx hS => ?_) ?_
        rotate_left
        · obtain ⟨s0, s1⟩ := hS
          go_light
          iterate 13 (apply Plan.seg_pick; rfl; intro K hK; go_wp)
          exact Plan.seg_nil
        obtain ⟨we, hwe⟩ : ∃ y, y = wd.drew := ⟨_, rfl⟩
        rw [← hwe]
        have HE := Lib.hid (show Below wd.heap.size wd we by rw [hwe]; exact (Below.refl _ _).drew)
        clear hwe
        have HSE := Lib.hid (HSD.out.block (HE.out.block q HQD.out))
        have e0 := HSE.out.k0 k hlt
        have e1 := HSE.out.k1 k hlt
        have e2 := HSE.out.k2 k hlt
        have e3 := HSE.out.k3 k hlt
        have ef := HSE.out.f
        refine Plan.plan_of_effect rfl (fun K hK => ?_)
        go_wp2_with fail
        obtain ⟨wf, hwf⟩ : ∃ y, y = (((we.setCell ⟨q, k * 4, none⟩ (.slice (some ⟨vb, vo + p, none⟩) z z)).setCell ⟨q, k * 4 + 1, none⟩ (.int .i64 0)).setCell ⟨q, k * 4 + 2, none⟩ (.int .i64 0)).setCell ⟨q, k * 4 + 3, none⟩ (.bool true) := ⟨_, rfl⟩
        rw [← hwf]
        have HSF := Lib.hid (show SB wf q T.nS (dataTo (fun i => slX vb vo (f0 + sizeN T.S i) (T.S i).n) (k + 1)) (freshTo (k + 1)) by
          have h1 := HSE.out.put hlt
          rw [HPZ.out] at h1
          rw [hwf]
          simpa [slX, hz0] using h1)
        have hbe : But q q we wf := by rw [hwf]; exact (((But.cell _ _ _ _ _).trans (But.cell _ _ _ _ _)).trans (But.cell _ _ _ _ _)).trans (But.cell _ _ _ _ _)
        have HBE := Lib.hid (HBD.out.trans (But.of (g := tb) HE.out HBD.out.size))
        have HBF := Lib.hid (show But w8.heap.size tb w8 wf by
          have h1 := (HBD.out.trans (But.of (g := tb) HE.out HBD.out.size)).trans (hbe.other (g := tb) (Nat.le_of_eq HQ8.out) (Nat.le_of_eq HQ8.out))
          exact h1)
        have HTF := Lib.hid ((HTD.out.below HE.out).block (w' := wf) (by rw [hwf]; simp [World.setCell, Array.getElem?_modify, HQT.out.2.symm]))
        have HQF := Lib.hid (Nat.lt_of_lt_of_le HQD.out (Nat.le_trans HE.out.size hbe.size))
        clear hwf hbe e0 e1 e2 e3 ef y0 y3
        refine ⟨⟨HTF.out.k3, HYA.out _ (HBE.out.far (Nat.le_of_eq HQ8.out))⟩, ?_⟩
        refine Plan.plan_done ?_
        go_wp2_with fail
        go_roundw
        case rel => exact ⟨k + 1, by omega, by simp, HSF.out, HTF.out, HBF.out, HQF.out⟩
        case measure =>
          simp [intOf]
          omega
    · have hkn : k = T.nS := by omega
      have HSN := Lib.hid (show SB wr q T.nS (dataTo (fun i => slX vb vo (f0 + sizeN T.S i) (T.S i).n) T.nS) (freshTo T.nS) by rw [← hkn]; rw [hkn]; rw [hkn] at hsb; exact hsb)
      clear hsb HSK
      have y0 := HYA.out wr HBK.out
      have y3 := HTK.out.k3
      go_upto_region 17 with fail
      have HwrX := HBK
      have HwrV := HTK
      have HwrQ := HQK
      refine Plan.wp_region_plan (fun w' => w'.cell? ⟨g, 0, none⟩ = some (.slice (some ⟨vb, vo, none⟩) N vc) ∧ w'.cell? ⟨tb, 3, none⟩ = some (.slice (some ⟨q, 0, none⟩) T.nS T.nS)) (([0, 1, 2, 3, 4, 5].map (·, true)) ++ (([6].map (·, false)) ++ (([7].map (·, true)) ++ []))) (by kernel_rfl) (by kernel_rfl) (by kernel_rfl) ⟨y0, y3⟩ ?_
      refine' Plan.plan_seg _ [0, 1, 2, 3, 4, 5] (([6].map (·, false)) ++ (([7].map (·, true)) ++ [])) (by kernel_rfl) (by kernel_rfl) rfl (by exact ⟨y0, y3⟩) (fun wx hS => ?_) ?_
      rotate_left
      · obtain ⟨s0, s1⟩ := hS
        go_light
        iterate 6 (apply Plan.seg_pick; rfl; intro K hK; go_wp)
        exact Plan.seg_nil
      obtain ⟨wrd, hwd⟩ : ∃ y, y = wr.drew := ⟨_, rfl⟩
      rw [← hwd]
      have hbd : Below wr.heap.size wr wrd := by rw [hwd]; exact (Below.refl _ _).drew
      have HwrS := Lib.hid (HSN.out.block (hbd.block q HwrQ.out))
      have HwrB := Lib.hid (show But w8.heap.size tb w8 wrd by rw [hwd]; exact HwrX.out.drew)
      have HwrT := Lib.hid (HwrV.out.below hbd)
      have HwrL := Lib.hid (Nat.lt_of_lt_of_le HwrQ.out hbd.size)
      clear hwd hbd y0 y3
      refine Plan.plan_of_effect rfl (fun K hK => ?_)
      go_wp2_with fail
      refine (HRD.out q _ _ wrd (HVA.out _ HwrB.out) (HDA.out _ HwrB.out) HwrS.out HwrL.out).mono ?_
      rintro e wa ⟨rfl, hsb, hbt⟩
      have HSA := Lib.hid hsb
      have HwaX := Lib.hid (HwrB.out.trans (hbt.other (by have := HwrB.out.size; omega) (Nat.le_of_eq HQ8.out)))
      have HwaV := Lib.hid (HwrT.out.block (hbt.block tb HwrT.out.lt HQT.out.2))
      have HwaQ := Lib.hid (Nat.lt_of_lt_of_le HwrL.out hbt.size)
      clear hsb hbt
      have y0 := HYA.out _ HwaX.out
      have y3 := HwaV.out.k3
      go_wp2_with fail
      refine ⟨⟨y0, y3⟩, ?_⟩
      refine' Plan.plan_seg _ [7] [] (by kernel_rfl) (by kernel_rfl) rfl (by exact ⟨y0, y3⟩) (fun wx hS => ?_) ?_
      rotate_left
      · obtain ⟨s0, s1⟩ := hS
        go_light
        iterate 1 (apply Plan.seg_pick; rfl; intro K hK; go_wp)
        exact Plan.seg_nil
      refine Plan.plan_done ?_
      go_upto_region 19 with fail
      obtain ⟨rc, hrc, hrow, -, -⟩ := HLC.out w8 HD8.out
      obtain ⟨ac, cc, rfl⟩ := hrow.shape
      have HRC := Lib.hid hrc
      clear hrc hrow
      have hmc := HMB.out wa HwaX.out
      refine Plan.wp_region_plan (fun w' => w'.cell? ⟨g, 0, none⟩ = some (.slice (some ⟨vb, vo, none⟩) N vc) ∧ w'.cell? ⟨tb, 3, none⟩ = some (.slice (some ⟨q, 0, none⟩) T.nS T.nS) ∧ w'.heap[mb]? = w8.heap[mb]?) (([0, 1, 2, 3, 4, 5, 6, 7, 8, 9, 10].map (·, true)) ++ (([11].map (·, false)) ++ (([12, 13].map (·, true)) ++ []))) (by kernel_rfl) (by kernel_rfl) (by kernel_rfl) ⟨y0, y3, hmc⟩ ?_
      refine' Plan.plan_seg _ [0, 1, 2, 3, 4, 5, 6, 7, 8, 9, 10] (([11].map (·, false)) ++ (([12, 13].map (·, true)) ++ [])) (by kernel_rfl) (by kernel_rfl) rfl (by exact ⟨y0, y3, hmc⟩) (fun wx hS => ?_) ?_
      rotate_left
      · obtain ⟨s0, s1, s2⟩ := hS
        have hlk := HRC.out wx s2
        go_light
        iterate 11 (apply Plan.seg_pick; rfl; intro K hK; go_wp)
        exact Plan.seg_nil
      obtain ⟨wad, hwd⟩ : ∃ y, y = wa.drew := ⟨_, rfl⟩
      rw [← hwd]
      have hbd : Below wa.heap.size wa wad := by rw [hwd]; exact (Below.refl _ _).drew
      have HwaS := Lib.hid (HSA.out.block (hbd.block q HwaQ.out))
      have HwaB := Lib.hid (show But w8.heap.size tb w8 wad by rw [hwd]; exact HwaX.out.drew)
      have HwaT := Lib.hid (HwaV.out.below hbd)
      have HwaL := Lib.hid (Nat.lt_of_lt_of_le HwaQ.out hbd.size)
      clear hwd hbd y0 y3
      refine Plan.plan_of_effect rfl (fun K hK => ?_)
      go_wp2_with fail
      refine (HRS.out q _ _ wad (HVA.out _ HwaB.out) (HDA.out _ HwaB.out) HwaS.out HwaL.out).mono ?_
      rintro e wc ⟨rfl, hsb, hbt⟩
      have HSC := Lib.hid hsb
      have HwcX := Lib.hid (HwaB.out.trans (hbt.other (by have := HwaB.out.size; omega) (Nat.le_of_eq HQ8.out)))
      have HwcV := Lib.hid (HwaT.out.block (hbt.block tb HwaT.out.lt HQT.out.2))
      have HwcQ := Lib.hid (Nat.lt_of_lt_of_le HwaL.out hbt.size)
      clear hsb hbt
      have y0 := HYA.out _ HwcX.out
      have y3 := HwcV.out.k3
      go_wp2_with fail
      replace hmc := HMB.out wc HwcX.out
      refine ⟨⟨y0, y3, hmc⟩, ?_⟩
      refine' Plan.plan_seg _ [12, 13] [] (by kernel_rfl) (by kernel_rfl) rfl (by exact ⟨y0, y3, hmc⟩) (fun wx hS => ?_) ?_
      rotate_left
      · obtain ⟨s0, s1, s2⟩ := hS
        go_light
        iterate 2 (apply Plan.seg_pick; rfl; intro K hK; go_wp)
        exact Plan.seg_nil
      refine Plan.plan_done ?_
      go_upto_region 21 with fail
      clear hmc
      obtain ⟨rs, hrs, hrow, -, -⟩ := HLS.out w8 HD8.out
      obtain ⟨ars, cs, rfl⟩ := hrow.shape
      have HRE := Lib.hid hrs
      clear hrs hrow
      have hmc := HMB.out wc HwcX.out
      refine Plan.wp_region_plan (fun w' => w'.cell? ⟨g, 0, none⟩ = some (.slice (some ⟨vb, vo, none⟩) N vc) ∧ w'.cell? ⟨tb, 3, none⟩ = some (.slice (some ⟨q, 0, none⟩) T.nS T.nS) ∧ w'.heap[mb]? = w8.heap[mb]?) (([0, 1, 2, 3, 4, 5, 6, 7, 8, 9, 10].map (·, true)) ++ (([11].map (·, false)) ++ (([12, 13].map (·, true)) ++ []))) (by kernel_rfl) (by kernel_rfl) (by kernel_rfl) ⟨y0, y3, hmc⟩ ?_
      refine' Plan.plan_seg _ [0, 1, 2, 3, 4, 5, 6, 7, 8, 9, 10] (([11].map (·, false)) ++ (([12, 13].map (·, true)) ++ [])) (by kernel_rfl) (by kernel_rfl) rfl (by exact ⟨y0, y3, hmc⟩) (fun wx hS => ?_) ?_
      rotate_left
      · obtain ⟨s0, s1, s2⟩ := hS
        have hlk := HRE.out wx s2
        go_light
        iterate 11 (apply Plan.seg_pick; rfl; intro K hK; go_wp)
        exact Plan.seg_nil
      obtain ⟨wcd, hwd⟩ : ∃ y, y = wc.drew := ⟨_, rfl⟩
      rw [← hwd]
      have hbd : Below wc.heap.size wc wcd := by rw [hwd]; exact (Below.refl _ _).drew
      have HwcS := Lib.hid (HSC.out.block (hbd.block q HwcQ.out))
      have HwcB := Lib.hid (show But w8.heap.size tb w8 wcd by rw [hwd]; exact HwcX.out.drew)
      have HwcT := Lib.hid (HwcV.out.below hbd)
      have HwcL := Lib.hid (Nat.lt_of_lt_of_le HwcQ.out hbd.size)
      clear hwd hbd y0 y3
      refine Plan.plan_of_effect rfl (fun K hK => ?_)
      go_wp2_with fail
      refine (HSY.out q _ _ wcd (HVA.out _ HwcB.out) (HDA.out _ HwcB.out) HwcS.out HwcL.out).mono ?_
      rintro e we ⟨rfl, hsb, hbt⟩
      have HSE := Lib.hid hsb
      have HweX := Lib.hid (HwcB.out.trans (hbt.other (by have := HwcB.out.size; omega) (Nat.le_of_eq HQ8.out)))
      have HweV := Lib.hid (HwcT.out.block (hbt.block tb HwcT.out.lt HQT.out.2))
      have HweQ := Lib.hid (Nat.lt_of_lt_of_le HwcL.out hbt.size)
      clear hsb hbt
      have y0 := HYA.out _ HweX.out
      have y3 := HweV.out.k3
      go_wp2_with fail
      replace hmc := HMB.out we HweX.out
      refine ⟨⟨y0, y3, hmc⟩, ?_⟩
      refine' Plan.plan_seg _ [12, 13] [] (by kernel_rfl) (by kernel_rfl) rfl (by exact ⟨y0, y3, hmc⟩) (fun wx hS => ?_) ?_
      rotate_left
      · obtain ⟨s0, s1, s2⟩ := hS
        go_light
        iterate 2 (apply Plan.seg_pick; rfl; intro K hK; go_wp)
        exact Plan.seg_nil
      refine Plan.plan_done ?_
      go_wp2_with fail
      go_ret
      exact ⟨rfl, q, vb, vo, vc, rfl, HWQ.out, HweQ.out, HweV.out, (HSE.out.told T.S).congr3 (fun i hi => by simp only [dataTo]; rw [if_pos hi]) (fun i hi => ⟨rfl, rfl, rfl⟩), HB0.out.trans (HweX.out.mono HB0.out.size)⟩
end Go.Proofs.Ytkhjkemllgjfmaa

/- The bytes of a file as boxes one behind the other; where its parts lie. -/
namespace Go.Proofs.Ytkhjkemllgjfmaa
open Go.RowKit
set_option linter.unusedVariables false
set_option linter.unusedSimpArgs false
theorem catN_shift (f : Nat → List Int) (n : Nat) : catN f (n + 1) = f 0 ++ catN (fun i => f (i + 1)) n := by
  induction n with
  | zero => simp [catN]
  | succ n ih => rw [catN, ih, catN, List.append_assoc]
theorem catB_append (a b : List (ByteArray × List Int)) : catB (a ++ b) = catB a ++ catB b := by simp [catB]
theorem catN_cat {f : Nat → List Int} {g : Nat → ByteArray × List Int} : ∀ n, (∀ i, i < n → f i = boxP (g i).1 (g i).2) → catN f n = catB ((List.range n).map g)
  | 0, _ => rfl
  | n + 1, h => by
    rw [catN, catN_cat n (fun i hi => h i (by omega)), List.range_succ, List.map_append, catB_append, h n (by omega)]
    simp [catB]
def stblB (T : Tr) (first : Int) : List (ByteArray × List Int) :=
  [(nStsd, stsdL T), (nStts, runsL (fun i => (T.S i).dur) T.nS), (nCtts, runsL (fun i => (T.S i).shift) T.nS), (nStss, stssL T), (nStsz, stszL T), (nStsc, chunkL), (nStco, stcoL T first)]
def minfB (T : Tr) (first : Int) : List (ByteArray × List Int) := [(nStbl, catB (stblB T first))]
def mdiaB (T : Tr) (first : Int) : List (ByteArray × List Int) := [(nMdhd, mdhdL T), (nHdlr, hdlrL T), (nMinf, catB (minfB T first))]
def edtsB (T : Tr) : List (ByteArray × List Int) := if 0 < T.nE then [(nEdts, catB (edB T.E T.nE))] else []
def trakB (T : Tr) (k first : Int) : List (ByteArray × List Int) := (nTkhd, tkhdL k) :: (edtsB T ++ [(nMdia, catB (mdiaB T first))])
theorem stbl_cat (T : Tr) (first : Int) : catN (fun i => bytesT (stbl T first i)) 7 = catB (stblB T first) := by
  simp only [catN, stbl, catB, stblB, List.flatMap_cons, List.flatMap_nil, List.nil_append, List.append_nil, if_true, if_false, show ¬ (1 : Nat) = 0 by decide, show ¬ (2 : Nat) = 0 by decide, show ¬ (2 : Nat) = 1 by decide, show ¬ (3 : Nat) = 0 by decide, show ¬ (3 : Nat) = 1 by decide, show ¬ (3 : Nat) = 2 by decide,
    show ¬ (4 : Nat) = 0 by decide, show ¬ (4 : Nat) = 1 by decide, show ¬ (4 : Nat) = 2 by decide, show ¬ (4 : Nat) = 3 by decide, show ¬ (5 : Nat) = 0 by decide, show ¬ (5 : Nat) = 1 by decide, show ¬ (5 : Nat) = 2 by decide, show ¬ (5 : Nat) = 3 by decide, show ¬ (5 : Nat) = 4 by decide,
    show ¬ (6 : Nat) = 0 by decide, show ¬ (6 : Nat) = 1 by decide, show ¬ (6 : Nat) = 2 by decide, show ¬ (6 : Nat) = 3 by decide, show ¬ (6 : Nat) = 4 by decide, show ¬ (6 : Nat) = 5 by decide, bytesT, List.append_assoc]
theorem minf_cat (T : Tr) (first : Int) : bytesT (minfT T first) = boxP nMinf (catB (minfB T first)) := by
  unfold minfT minfB
  simp only [bytesT, catN, List.nil_append, stbl_cat]
  have e := stbl_cat T first
  simp only [catN, List.nil_append] at e
  simp only [catB, List.flatMap_cons, List.flatMap_nil, List.append_nil, List.nil_append] at e ⊢
  rw [e]
theorem mdia_cat (T : Tr) (first : Int) : bytesT (mdiaT T first) = boxP nMdia (catB (mdiaB T first)) := by
  have e := minf_cat T first
  simp only [mdiaT, bytesT, catN, List.nil_append, if_true, if_false, show ¬ (1 : Nat) = 0 by decide, show ¬ (2 : Nat) = 0 by decide, show ¬ (2 : Nat) = 1 by decide, e]
  simp [catB, mdiaB]
theorem trak_cat (T : Tr) (k first : Int) : bytesT (trakT T k first) = boxP nTrak (catB (trakB T k first)) := by
  have e := mdia_cat T first
  unfold trakT trakB edtsB
  by_cases h : 0 < T.nE
  · simp only [if_pos h, bytesT, catN, List.nil_append, if_true, if_false, show ¬ (1 : Nat) = 0 by decide, show ¬ (2 : Nat) = 0 by decide, show ¬ (2 : Nat) = 1 by decide, e]
    simp [catB, edtsT, bytesT, catN, edB, tabL, edL_trip]
  · simp only [if_neg h, bytesT, catN, List.nil_append, if_true, if_false, show ¬ (1 : Nat) = 0 by decide, e]
    simp [catB]
def moovB (F : Fl) (first : Int) : List (ByteArray × List Int) := (nMvhd, mvhdL F) :: (List.range F.nT).map fun i => (nTrak, catB (trakB (F.T i) ((i + 1 : Nat) : Int) (first + (offN F.T i : Nat))))
theorem moov_cat (F : Fl) (first : Int) : bytesT (moovT F first) = boxP nMoov (catB (moovB F first)) := by
  unfold moovT moovB
  simp only [bytesT]
  rw [catN_shift]
  congr 1
  rw [catN_cat (g := fun i => (nTrak, catB (trakB (F.T i) ((i + 1 : Nat) : Int) (first + (offN F.T i : Nat))))) F.nT (fun i hi => by
    simp only [moovP, Nat.add_one_ne_zero, if_false, Nat.add_sub_cancel]
    exact trak_cat _ _ _)]
  rfl
def putB (F : Fl) : List (ByteArray × List Int) := [(nFtyp, ftypL), (nMoov, catB (moovB F (firstOf F))), (nMdat, dataL F.T F.nT)]
theorem put_cat (F : Fl) : putL F = catB (putB F) := by
  unfold putL putB
  rw [moov_cat]
  simp [catB, ftypB, bytesT]
/-! ### lengths do not depend on where the samples lie -/
theorem catB_cons_len (x : ByteArray × List Int) (r : List (ByteArray × List Int)) : (catB (x :: r)).length = 4 + (x.1.size + x.2.length) + (catB r).length := by
  show (boxP x.1 x.2 ++ catB r).length = _
  rw [List.length_append, boxP_length]
  omega
theorem stco_len (T : Tr) (a b : Int) : (stcoL T a).length = (stcoL T b).length := by
  have h : ∀ (first : Int) (k : Nat), (placeL T.S first k).length = k := fun first k => by
    induction k with
    | zero => rfl
    | succ k ih => simp [placeL, ih]
  unfold stcoL
  simp only [List.length_append, numsL_length, h, List.length_cons, List.length_nil]
theorem stblB_len (T : Tr) (a b : Int) : (catB (stblB T a)).length = (catB (stblB T b)).length := by
  unfold stblB
  simp only [catB_cons_len]
  rw [stco_len T a b]
theorem mdiaB_len (T : Tr) (a b : Int) : (catB (mdiaB T a)).length = (catB (mdiaB T b)).length := by
  unfold mdiaB minfB
  simp only [catB_cons_len]
  rw [stblB_len T a b]
theorem trakB_len (T : Tr) (k a b : Int) : (catB (trakB T k a)).length = (catB (trakB T k b)).length := by
  unfold trakB
  simp only [catB_cons_len, catB_append, List.length_append]
  rw [mdiaB_len T a b]
theorem catB_map_len {a b : Nat → ByteArray × List Int} (h : ∀ i, (a i).1.size = (b i).1.size ∧ (a i).2.length = (b i).2.length) : ∀ l : List Nat, (catB (l.map a)).length = (catB (l.map b)).length
  | [] => rfl
  | i :: l => by
    rw [List.map_cons, List.map_cons, catB_cons_len, catB_cons_len, catB_map_len h l, (h i).1, (h i).2]
theorem moovB_len (F : Fl) (a b : Int) : (catB (moovB F a)).length = (catB (moovB F b)).length := by
  unfold moovB
  generalize mvhdL F = M
  generalize nMvhd = nm
  have e := catB_map_len (a := fun i => (nTrak, catB (trakB (F.T i) ((i + 1 : Nat) : Int) (a + (offN F.T i : Nat))))) (b := fun i => (nTrak, catB (trakB (F.T i) ((i + 1 : Nat) : Int) (b + (offN F.T i : Nat))))) (fun i => And.intro (Eq.refl nTrak.size) (trakB_len (F.T i) ((i + 1 : Nat) : Int) (a + (offN F.T i : Nat)) (b + (offN F.T i : Nat)))) (List.range F.nT)
  rw [catB_cons_len, catB_cons_len, e]
def placeOf (F : Fl) : Nat := (catB (putB F)).length - (dataL F.T F.nT).length
theorem first_nat (F : Fl) : firstOf F = ((ftypB.length + (boxP nMoov (catB (moovB F (firstOf F)))).length + 8 : Nat) : Int) := by
  have h0 : firstOf F = ((ftypB.length + (boxP nMoov (catB (moovB F 0))).length + 8 : Nat) : Int) := by
    unfold firstOf
    rw [moov_cat, List.length_append]
    omega
  rw [boxP_length] at h0 ⊢
  rw [moovB_len F (firstOf F) 0]
  exact h0
theorem catN_seg (f : Nat → List Int) : ∀ n i, i < n → Seg (catN f n) (catN f i).length (f i)
  | 0, i, h => absurd h (Nat.not_lt_zero i)
  | n + 1, i, h => by
    rw [catN]
    by_cases e : i = n
    · subst e; exact ⟨catN f i, [], by simp, rfl⟩
    · obtain ⟨A, C, e1, e2⟩ := catN_seg f n i (by omega)
      exact ⟨A, C ++ f n, by rw [e1]; simp [List.append_assoc], e2⟩
theorem Seg.trans {L M D : List Int} {p q : Nat} (h : Seg L p M) (k : Seg M q D) : Seg L (p + q) D := by
  obtain ⟨A, C, e1, e2⟩ := h
  obtain ⟨A', C', e3, e4⟩ := k
  exact ⟨A ++ A', C' ++ C, by rw [e1, e3]; simp [List.append_assoc], by rw [List.length_append, e2, e4]⟩
theorem trL_length (T : Tr) : (trL T).length = sizeN T.S T.nS := catN_sm T.S T.nS
theorem offN_cat (T : Nat → Tr) (k : Nat) : (catN (fun i => trL (T i)) k).length = offN T k := by
  induction k with
  | zero => rfl
  | succ k ih => simp only [catN, offN, List.length_append, ih, trL_length]
/-- Where the file's first sample lies. -/
def f0 (F : Fl) : Nat := (firstOf F).toNat
theorem f0_int (F : Fl) : ((f0 F : Nat) : Int) = firstOf F := by unfold f0; rw [first_nat]; omega
theorem put_data (F : Fl) : Seg (putL F) (f0 F) (dataL F.T F.nT) := by
  have e : f0 F = ftypB.length + (boxP nMoov (catB (moovB F (firstOf F)))).length + 8 := by have h1 := f0_int F; rw [first_nat] at h1; omega
  rw [e]
  have h : Seg (putL F) (ftypB.length + (boxP nMoov (catB (moovB F (firstOf F)))).length) (boxP nMdat (dataL F.T F.nT)) := by
    unfold putL
    rw [moov_cat]
    exact ⟨ftypB ++ boxP nMoov (catB (moovB F (firstOf F))), [], by simp, by rw [List.length_append]⟩
  exact box_inner h rfl
/-- Where a sample lies. -/
theorem put_sample (F : Fl) {k i : Nat} (hk : k < F.nT) (hi : i < (F.T k).nS) : Seg (putL F) (f0 F + offN F.T k + sizeN (F.T k).S i) (smL ((F.T k).S i)) := by
  have h1 := catN_seg (fun i => trL (F.T i)) F.nT k hk
  rw [offN_cat] at h1
  have h2 := catN_seg (fun j => smL ((F.T k).S j)) (F.T k).nS i hi
  rw [catN_sm] at h2
  exact ((put_data F).trans h1).trans h2
theorem put_fit (F : Fl) {k : Nat} (hk : k < F.nT) : f0 F + offN F.T k + sizeN (F.T k).S (F.T k).nS ≤ (putL F).length := by
  have h1 := catN_seg (fun i => trL (F.T i)) F.nT k hk
  rw [offN_cat] at h1
  have := ((put_data F).trans h1).le
  rw [trL_length] at this
  exact this
end Go.Proofs.Ytkhjkemllgjfmaa

/- The reader's media. -/
namespace Go.Proofs.Ytkhjkemllgjfmaa
open Go.RowKit
set_option linter.unusedVariables false
set_option linter.unusedSimpArgs false
/-- Bytes in blocks of a range. -/
def BR (w : World) (v : Value) (D : List Int) (lo hi : Nat) : Prop := ∃ ao c, v = .slice ao D.length c ∧ D.length ≤ c ∧ ∀ i u, D[i]? = some u → ∃ b o, ao = some ⟨b, o, none⟩ ∧ lo ≤ b ∧ b < hi ∧ w.cell? ⟨b, o + i, none⟩ = some (.int .u8 u)
theorem BR.of {w : World} {v : Value} {D : List Int} {lo : Nat} (h : BL w v D) (hn : ∀ a n c, v = .slice (some a) n c → lo ≤ a.block) : BR w v D lo w.heap.size := by
  obtain ⟨ao, c, rfl, hc, H⟩ := h
  refine ⟨ao, c, rfl, hc, fun i u hu => ?_⟩
  obtain ⟨b, o, rfl, hcell⟩ := H i u hu
  exact ⟨b, o, rfl, hn _ _ _ rfl, block_lt_of_cell hcell, hcell⟩
theorem BR.but {w w' : World} {v : Value} {D : List Int} {lo hi n g : Nat} (h : BR w v D lo hi) (hb : But n g w w') (hn : hi ≤ n) (hg : g < lo ∨ hi ≤ g) : BR w' v D lo hi := by
  obtain ⟨ao, c, rfl, hc, H⟩ := h
  refine ⟨ao, c, rfl, hc, fun i u hu => ?_⟩
  obtain ⟨b, o, e, h1, h2, h3⟩ := H i u hu
  exact ⟨b, o, e, h1, h2, (World.cell?_of_block (a := ⟨b, o + i, none⟩) (hb.block b (Nat.lt_of_lt_of_le h2 hn) (by omega))).trans h3⟩
theorem BR.bl {w : World} {v : Value} {D : List Int} {lo hi : Nat} (h : BR w v D lo hi) : BL w v D := by
  obtain ⟨ao, c, rfl, hc, H⟩ := h
  refine ⟨ao, c, rfl, hc, fun i u hu => ?_⟩
  obtain ⟨b, o, e, _, _, h3⟩ := H i u hu
  exact ⟨b, o, e, h3⟩
theorem BR.mono {w : World} {v : Value} {D : List Int} {lo hi lo' hi' : Nat} (h : BR w v D lo hi) (h1 : lo' ≤ lo) (h2 : hi ≤ hi') : BR w v D lo' hi' := by
  obtain ⟨ao, c, rfl, hc, H⟩ := h
  refine ⟨ao, c, rfl, hc, fun i u hu => ?_⟩
  obtain ⟨b, o, e, h3, h4, h5⟩ := H i u hu
  exact ⟨b, o, e, by omega, by omega, h5⟩
theorem BR.shape {w : World} {v : Value} {D : List Int} {lo hi : Nat} (h : BR w v D lo hi) : ∃ a c, v = .slice a D.length c := by obtain ⟨a, c, e, _⟩ := h; exact ⟨a, c, e⟩
theorem TV.ne_dir {w : World} {tb : Nat} {h : ByteArray} {sc : Int} {cv sv ev : Value} {B mb : Nat} {l : List Bx} (k : TV w tb h sc cv sv ev) (hd : DirA w B mb l) : tb ≠ mb := by
  intro e
  subst e
  obtain ⟨es, clock, hm, _⟩ := hd
  have k0 := k.k0
  simp [World.cell?, hm] at k0
theorem pick_named {L : List Int} {bs : List (ByteArray × List Int)} {p i : Nat} {nm : ByteArray} {D : List Int} (h : Seg L p (catB bs)) (hi : bs[i]? = some (nm, D)) (h4 : nm.size = 4) (hd : (bs.map (·.1.data.toList)).Nodup) :
    ∃ b : Bx, pick nm (lay p bs) = [b] ∧ Seg L (b.p + 8) D ∧ b.sz = 8 + D.length :=
  lay_pick h hi h4 (fun j y hj e => by
    have h1 : (bs.map (·.1.data.toList))[i]? = some nm.data.toList := by rw [List.getElem?_map, hi]; rfl
    have h2 : (bs.map (·.1.data.toList))[j]? = some nm.data.toList := by rw [List.getElem?_map, hj, ← e]; rfl
    have hl := (List.getElem?_eq_some_iff.1 h2).1
    exact (List.getElem?_inj hl hd).1 (h2.trans h1.symm))
theorem conv_seg {w : World} {b o n c p m : Nat} {D : List Int} {nm : ByteArray} (h : BY w (.slice (some ⟨b, o, none⟩) n c) D) (hs : Seg D p (strB nm)) (h4 : nm.size = 4) : (convert 22 9 (.slice (some ⟨b, o + p, none⟩) 4 m)).run Try.prog w = .ok (.string nm) w := by
  have hl : (strB nm).length = 4 := by rw [strB_len, h4]
  have hle := hs.le
  obtain ⟨b', o', c', e, hc, h1, h2⟩ := BA.open h (by omega)
  simp only [Value.slice.injEq, Option.some.injEq, Addr.mk.injEq, and_true] at e
  obtain ⟨⟨rfl, rfl⟩, -, -⟩ := e
  have e4 : strB nm = [D.getD p 0, D.getD (p + 1) 0, D.getD (p + 2) 0, D.getD (p + 3) 0] := by
    have g := fun i (hi : i < (strB nm).length) => hs.at hi
    refine List.ext_getElem? (fun i => ?_)
    rcases (show i = 0 ∨ i = 1 ∨ i = 2 ∨ i = 3 ∨ 4 ≤ i by omega) with rfl | rfl | rfl | rfl | hi
    · have := g 0 (by omega); rw [List.getD_eq_getElem?_getD (l := strB nm), List.getElem?_eq_getElem (by omega)] at this; simp only [Option.getD_some, Nat.add_zero] at this; rw [List.getElem?_eq_getElem (by omega), ← this]; simp
    · have := g 1 (by omega); rw [List.getD_eq_getElem?_getD (l := strB nm), List.getElem?_eq_getElem (by omega)] at this; simp only [Option.getD_some] at this; rw [List.getElem?_eq_getElem (by omega), ← this]; simp
    · have := g 2 (by omega); rw [List.getD_eq_getElem?_getD (l := strB nm), List.getElem?_eq_getElem (by omega)] at this; simp only [Option.getD_some] at this; rw [List.getElem?_eq_getElem (by omega), ← this]; simp
    · have := g 3 (by omega); rw [List.getD_eq_getElem?_getD (l := strB nm), List.getElem?_eq_getElem (by omega)] at this; simp only [Option.getD_some] at this; rw [List.getElem?_eq_getElem (by omega), ← this]; simp
    · rw [List.getElem?_eq_none (by omega), List.getElem?_eq_none (by simpa using hi)]
  have hr := run_convert_bytes_arg (P := Try.prog) w 22 5 Try.underlying22 Try.underlying5 b (o + p) 4 m [D.getD p 0, D.getD (p + 1) 0, D.getD (p + 2) 0, D.getD (p + 3) 0] rfl (fun i hi => by
    have hx := h1 (p + i) (by omega)
    rcases (show i = 0 ∨ i = 1 ∨ i = 2 ∨ i = 3 by omega) with rfl | rfl | rfl | rfl <;> simpa [Nat.add_assoc] using hx) 9 Try.underlying9
  rw [← e4, strOf_strB] at hr
  exact hr
end Go.Proofs.Ytkhjkemllgjfmaa
