/- Texts of this claim joined: A B C Plan E F G L. -/
import Derived.Test.YtnnobdcbmagbaaaRows
import Derived.WalkKit
import Derived.WalkSpells
import Derived.WalkLawsBesides
import Derived.Deep.LoopGhost
import Derived.Lib.Hide
import Derived.BigRegion
import Derived.BigQuiet
import Derived.Deep.RegionHeld3
import Derived.Handy
import Derived.OrdersHeld
import Derived.Tactics
import Derived.Defers
import Derived.Recover
set_option linter.unusedVariables false
set_option linter.unusedSimpArgs false

/- Reading predicates for byte planes and frames, and the contracts of the size and share tests of the packages compose, cutroomref26 and cutroomref20. -/
namespace Go.Proofs.Ytnnobdcbmagbaaa
open Go.RowKit

theorem info5 : (Try.prog.info? 5).map (fun i => (i.zero, i.size, i.bytes)) = some (some (.int .u8 0), 1, 1) := by kernel_rfl

/-- v reads in w as a byte slice of n bytes f 0, .., f (n-1). -/
def BA (w : World) (v : Value) (n : Nat) (f : Nat → Int) : Prop :=
  ∃ ao c, v = .slice ao n c ∧ n ≤ c ∧ ∀ i, i < n → (∃ b o, ao = some ⟨b, o, none⟩ ∧ w.cell? ⟨b, o + i, none⟩ = some (.int .u8 (f i))) ∧ 0 ≤ f i ∧ f i < 256

theorem BA.open {w : World} {v : Value} {n : Nat} {f : Nat → Int} (h : BA w v n f) (hn : 0 < n) :
    ∃ b o c, v = .slice (some ⟨b, o, none⟩) n c ∧ n ≤ c ∧ (∀ i, i < n → w.cell? ⟨b, o + i, none⟩ = some (.int .u8 (f i))) ∧ ∀ i, i < n → 0 ≤ f i ∧ f i < 256 := by
  obtain ⟨ao, c, rfl, hc, H⟩ := h
  obtain ⟨⟨b, o, rfl, _⟩, _⟩ := H 0 hn
  refine ⟨b, o, c, rfl, hc, fun i hi => ?_, fun i hi => (H i hi).2⟩
  obtain ⟨⟨b', o', he, hcell⟩, _⟩ := H i hi
  simp only [Option.some.injEq, Addr.mk.injEq, and_true] at he
  obtain ⟨rfl, rfl⟩ := he
  exact hcell

theorem BA.mk {w : World} {b o n c : Nat} {f : Nat → Int} (hc : n ≤ c) (h : ∀ i, i < n → w.cell? ⟨b, o + i, none⟩ = some (.int .u8 (f i))) (hb : ∀ i, i < n → 0 ≤ f i ∧ f i < 256) :
    BA w (.slice (some ⟨b, o, none⟩) n c) n f := ⟨_, _, rfl, hc, fun i hi => ⟨⟨b, o, rfl, h i hi⟩, hb i hi⟩⟩

theorem BA.below {w w' : World} {v : Value} {n : Nat} {f : Nat → Int} (h : BA w v n f) (hb : Below w.heap.size w w') : BA w' v n f := by
  obtain ⟨ao, c, rfl, hc, H⟩ := h
  refine ⟨ao, c, rfl, hc, fun i hi => ?_⟩
  obtain ⟨⟨b, o, he, hcell⟩, h2⟩ := H i hi
  exact ⟨⟨b, o, he, (hb.cell (p := ⟨b, o + i, none⟩) (block_lt_of_cell hcell)).trans hcell⟩, h2⟩

theorem BA.congr {w : World} {v : Value} {n : Nat} {f g : Nat → Int} (h : BA w v n f) (e : ∀ i, i < n → f i = g i) : BA w v n g := by
  obtain ⟨ao, c, rfl, hc, H⟩ := h
  refine ⟨ao, c, rfl, hc, fun i hi => ?_⟩
  rw [← e i hi]
  exact H i hi

theorem BA.bd {w : World} {v : Value} {n : Nat} {f : Nat → Int} (h : BA w v n f) : ∀ i, i < n → 0 ≤ f i ∧ f i < 256 := by
  obtain ⟨ao, c, rfl, hc, H⟩ := h
  exact fun i hi => (H i hi).2

/-- A frame's data. -/
structure Fr where
  W : Int
  H : Int
  nY : Nat
  nU : Nat
  nV : Nat
  Y : Nat → Int
  U : Nat → Int
  V : Nat → Int

/-- v reads in w as the frame F. -/
def FA (w : World) (v : Value) (F : Fr) : Prop := ∃ y u z, v = .agg #[.int .i64 F.W, .int .i64 F.H, y, u, z] ∧ BA w y F.nY F.Y ∧ BA w u F.nU F.U ∧ BA w z F.nV F.V

theorem FA.below {w w' : World} {v : Value} {F : Fr} (h : FA w v F) (hb : Below w.heap.size w w') : FA w' v F := by
  obtain ⟨y, u, z, rfl, h1, h2, h3⟩ := h
  exact ⟨y, u, z, rfl, h1.below hb, h2.below hb, h3.below hb⟩

def okSize (w h : Int) : Bool := decide (16 ≤ w ∧ w ≤ 64 ∧ w % 16 = 0 ∧ 16 ≤ h ∧ h ≤ 64 ∧ h % 16 = 0)
def okShare (num den : Int) : Bool := decide (1 ≤ den ∧ den ≤ 2147483648 ∧ 0 ≤ num ∧ num ≤ den)
def Fr.ok (F : Fr) : Bool := okSize F.W F.H && decide ((F.nY : Int) = F.W * F.H) && decide ((F.nU : Int) = (F.W / 2) * (F.H / 2)) && decide ((F.nV : Int) = (F.W / 2) * (F.H / 2))

theorem ret_bool {a b : Bool} (h : a = b) : Ending.returned (.bool a) = Ending.returned (.bool b) := by rw [h]

set_option maxHeartbeats 400000 in
theorem validSize_any (a b : Int) (w : World) :
    Calls Try.prog 39 #[.int .i64 a, .int .i64 b] w fun e w' => e = .returned (.bool (okSize a b)) ∧ w = w' := by
  go_enter Try.func39, Try.ntmps39
  go_wp2
  all_goals go_ret
  all_goals exact ⟨ret_bool (by unfold okSize; rw [Bool.eq_iff_iff]; simp; try omega), rfl⟩

set_option maxHeartbeats 400000 in
theorem size_any (a b : Int) (w : World) :
    Calls Try.prog 41 #[.int .i64 a, .int .i64 b] w fun e w' => e = .returned (.bool (okSize a b)) ∧ w = w' := by
  go_enter Try.func41, Try.ntmps41
  go_wp2
  all_goals go_ret
  all_goals exact ⟨ret_bool (by unfold okSize; rw [Bool.eq_iff_iff]; simp; try omega), rfl⟩

set_option maxHeartbeats 400000 in
theorem validShare_any (a b : Int) (w : World) :
    Calls Try.prog 47 #[.int .i64 a, .int .i64 b] w fun e w' => e = .returned (.bool (okShare a b)) ∧ w = w' := by
  go_enter Try.func47, Try.ntmps47
  go_wp2
  all_goals go_ret
  all_goals exact ⟨ret_bool (by unfold okShare; rw [Bool.eq_iff_iff]; simp; try omega), rfl⟩

set_option maxHeartbeats 400000 in
theorem ratio_any (a b : Int) (w : World) :
    Calls Try.prog 50 #[.int .i64 a, .int .i64 b] w fun e w' => e = .returned (.bool (okShare a b)) ∧ w = w' := by
  go_enter Try.func50, Try.ntmps50
  go_wp2
  all_goals go_ret
  all_goals exact ⟨ret_bool (by unfold okShare; rw [Bool.eq_iff_iff]; simp; try omega), rfl⟩

theorem okSize_bd {a b : Int} (h : okSize a b = true) : 16 ≤ a ∧ a ≤ 64 ∧ 16 ≤ b ∧ b ≤ 64 ∧ a % 16 = 0 ∧ b % 16 = 0 ∧ 256 ≤ a * b ∧ a * b ≤ 4096 := by
  simp [okSize] at h
  have h1 : 16 * 16 ≤ a * b := Int.mul_le_mul (by omega) (by omega) (by omega) (by omega)
  have h2 : a * b ≤ 64 * 64 := Int.mul_le_mul (by omega) (by omega) (by omega) (by omega)
  exact ⟨h.1, h.2.1, h.2.2.2.1, h.2.2.2.2.1, h.2.2.1, h.2.2.2.2.2, by omega, by omega⟩

end Go.Proofs.Ytnnobdcbmagbaaa

/- The contracts of the frame tests: valid, matching, cutroomref20.Valid, Alike, pair, Same. -/
namespace Go.Proofs.Ytnnobdcbmagbaaa
open Go.RowKit

theorem ok_false {F : Fr} (h : ¬ okSize F.W F.H = true) : F.ok = false := by simp [Fr.ok, h]
theorem ok_size {F : Fr} (h : F.ok = true) : okSize F.W F.H = true := by simp [Fr.ok] at h; exact h.1.1.1
theorem below_box (w : World) (o : Obj) : Below w.heap.size w (w.alloc o) := (Below.refl _ _).alloc (Nat.le_refl _) _

set_option maxHeartbeats 400000 in
theorem valid_any (v : Value) (F : Fr) (w : World) (hv : FA w v F) :
    Calls Try.prog 57 #[v] w fun e w' => e = .returned (.bool F.ok) ∧ w.alloc (.cells v.cells 26) = w' := by
  obtain ⟨y, u, z, rfl, ⟨ay, cy, rfl, _, _⟩, ⟨au, cu, rfl, _, _⟩, ⟨az, cz, rfl, _, _⟩⟩ := hv
  obtain ⟨W, H, nY, nU, nV, fY, fU, fV⟩ := F
  simp only at *
  by_cases hs : okSize W H = true
  · have hb := okSize_bd hs
    obtain ⟨b1, b2, b3, b4, b5, b6, b7, b8⟩ := hb
    have e1 := IntWalk.i64_in (W * H) (by omega)
    have c1 : 0 ≤ W / 2 * (H / 2) := Int.mul_nonneg (by omega) (by omega)
    have c2 : W / 2 * (H / 2) ≤ 32 * 32 := Int.mul_le_mul (by omega) (by omega) (by omega) (by omega)
    have e2 := IntWalk.i64_in (W / 2 * (H / 2)) (by omega)
    have HS := Lib.hid hs
    clear hs
    go_enter Try.func57, Try.ntmps57
    go_wp2_with (go_at_call 39; refine (validSize_any _ _ _).mono ?_; rintro e w' ⟨rfl, rfl⟩; rw [HS.out])
    all_goals go_ret
    all_goals exact ⟨ret_bool (by rw [Bool.eq_iff_iff]; simp [Fr.ok, HS.out, *]), rfl⟩
  · have hs' : okSize W H = false := by simpa using hs
    have HS := Lib.hid hs'
    have HK := Lib.hid (ok_false (F := ⟨W, H, nY, nU, nV, fY, fU, fV⟩) hs)
    clear hs hs'
    go_enter Try.func57, Try.ntmps57
    go_wp2_with (go_at_call 39; refine (validSize_any _ _ _).mono ?_; rintro e w' ⟨rfl, rfl⟩; rw [HS.out])
    all_goals go_ret
    all_goals exact ⟨ret_bool HK.out.symm, rfl⟩

theorem quarter {W H : Int} (h : okSize W H = true) : W * H / 4 = W / 2 * (H / 2) := by
  obtain ⟨h1, _, h2, _, _, _⟩ := okSize_bd h
  simp [okSize] at h
  obtain ⟨a, rfl⟩ : ∃ a, W = 2 * a := ⟨W / 2, by omega⟩
  obtain ⟨b, rfl⟩ : ∃ b, H = 2 * b := ⟨H / 2, by omega⟩
  rw [Int.mul_ediv_cancel_left _ (by decide), Int.mul_ediv_cancel_left _ (by decide)]
  rw [show 2 * a * (2 * b) = 4 * (a * b) by rw [Int.mul_assoc, Int.mul_left_comm a 2 b, ← Int.mul_assoc]; rfl]
  rw [Int.mul_ediv_cancel_left _ (by decide)]

set_option maxHeartbeats 800000 in
theorem r20valid_any (v : Value) (F : Fr) (w : World) (hv : FA w v F) :
    Calls Try.prog 38 #[v] w fun e w' => e = .returned (.bool F.ok) ∧ w.alloc (.cells v.cells 26) = w' := by
  obtain ⟨y, u, z, rfl, ⟨ay, cy, rfl, _, _⟩, ⟨au, cu, rfl, _, _⟩, ⟨az, cz, rfl, _, _⟩⟩ := hv
  obtain ⟨W, H, nY, nU, nV, fY, fU, fV⟩ := F
  simp only at *
  by_cases hs : okSize W H = true
  · have hb := okSize_bd hs
    obtain ⟨b1, b2, b3, b4, b5, b6, b7, b8⟩ := hb
    have e1 := IntWalk.i64_in (W * H) (by omega)
    have q := quarter hs
    have q0 : 0 ≤ W * H := by omega
    have HS := Lib.hid hs
    have HQ := Lib.hid q
    clear hs q
    go_enter Try.func38, Try.ntmps38
    go_wp2
    all_goals go_ret
    all_goals refine ⟨ret_bool ?_, rfl⟩
    all_goals rw [Bool.eq_iff_iff]; simp [Fr.ok, HS.out, ← HQ.out, *]
  · have HK := Lib.hid (ok_false (F := ⟨W, H, nY, nU, nV, fY, fU, fV⟩) hs)
    simp only [okSize, decide_eq_true_eq] at hs
    go_enter Try.func38, Try.ntmps38
    go_wp2
    all_goals try (exfalso; simp only [bne_iff_ne, ne_eq, bne_eq_false_iff_eq] at *; omega)
    all_goals go_ret
    all_goals exact ⟨ret_bool HK.out.symm, rfl⟩

end Go.Proofs.Ytnnobdcbmagbaaa

/- The contracts of matching, Alike, pair, Same. -/
namespace Go.Proofs.Ytnnobdcbmagbaaa
open Go.RowKit

def pairOk (F G : Fr) : Bool := F.ok && G.ok && F.W == G.W && F.H == G.H

set_option maxHeartbeats 800000 in
theorem matching_any (v u : Value) (F G : Fr) (w : World) (hv : FA w v F) (hu : FA w u G) :
    Calls Try.prog 46 #[v, u] w fun e w' => e = .returned (.bool (pairOk F G)) ∧ Below w.heap.size w w' := by
  have hv0 := hv
  have hu0 := hu
  obtain ⟨y, u1, z, rfl, _, _, _⟩ := hv
  obtain ⟨y', u', z', rfl, _, _, _⟩ := hu
  have b0 : Below w.heap.size w ((w.alloc (.cells #[.int .i64 F.W, .int .i64 F.H, y, u1, z] 26)).alloc (.cells #[.int .i64 G.W, .int .i64 G.H, y', u', z'] 26)) := (below_box w _).alloc (by simp) _
  have hv1 := Lib.hid (hv0.below b0)
  have hu1 := Lib.hid ((hu0.below b0).below (below_box _ (.cells #[.int .i64 F.W, .int .i64 F.H, y, u1, z] 26)))
  clear hv0 hu0 b0
  by_cases h1 : F.ok = true
  · have H1 := Lib.hid h1
    clear h1
    by_cases h2 : G.ok = true
    · have H2 := Lib.hid h2
      clear h2
      go_enter Try.func46, Try.ntmps46
      go_wp2_with (first | (go_at_call_of 57 (#[Value.agg #[Value.int IntKind.i64 F.W, Value.int IntKind.i64 F.H, y, u1, z]]); refine (valid_any _ F _ hv1.out).mono ?_; rintro e w1 ⟨rfl, rfl⟩; rw [H1.out]) | (refine (valid_any _ G _ hu1.out).mono ?_; rintro e w1 ⟨rfl, rfl⟩; rw [H2.out]))
      all_goals go_ret
      all_goals refine ⟨ret_bool ?_, by go_grown⟩
      all_goals rw [Bool.eq_iff_iff]; simp [pairOk, H1.out, H2.out, *]
    · have h2' : G.ok = false := by simpa using h2
      have H2 := Lib.hid h2'
      clear h2 h2'
      go_enter Try.func46, Try.ntmps46
      go_wp2_with (first | (go_at_call_of 57 (#[Value.agg #[Value.int IntKind.i64 F.W, Value.int IntKind.i64 F.H, y, u1, z]]); refine (valid_any _ F _ hv1.out).mono ?_; rintro e w1 ⟨rfl, rfl⟩; rw [H1.out]) | (refine (valid_any _ G _ hu1.out).mono ?_; rintro e w1 ⟨rfl, rfl⟩; rw [H2.out]))
      all_goals go_ret
      all_goals exact ⟨ret_bool (by simp [pairOk, H2.out]), by go_grown⟩
  · have h1' : F.ok = false := by simpa using h1
    have H1 := Lib.hid h1'
    clear h1 h1'
    go_enter Try.func46, Try.ntmps46
    go_wp2_with (refine (valid_any _ F _ hv1.out).mono ?_; rintro e w1 ⟨rfl, rfl⟩; rw [H1.out])
    all_goals go_ret
    all_goals exact ⟨ret_bool (by simp [pairOk, H1.out]), by go_grown⟩

end Go.Proofs.Ytnnobdcbmagbaaa

/- A region whose order Go leaves open, walked once: a plan lists its operations in one order; those marked pure yield one value in every world that meets a condition S, the others come up in one forced order. -/
namespace Go.Plan
open Go

/-- The plan is carried out from 'listed' on; what is listed behind it; none: the plan does not fit. -/
def planGo (ops : Array Oper) (z : Nat) : Array Bool → List (Nat × Bool) → Option (Array Bool)
  | listed, [] => some listed
  | listed, (i, true) :: r => if Region.free .any ops listed i && (Region.ready .any ops listed).contains i && !listed.getD z false then planGo ops z (listed.setIfInBounds i true) r else none
  | listed, (i, false) :: r => if Region.ready .any ops listed == [i] then planGo ops z (listed.setIfInBounds i true) r else none

def planOK (ops : Array Oper) (z : Nat) (listed : Array Bool) (plan : List (Nat × Bool)) : Bool :=
  match planGo ops z listed plan with
  | some l => (Region.ready .any ops l).isEmpty
  | none => false

section
variable {P : Program} {ops : Array Oper} {Q : Exit → Act → World → Prop} {S : World → Prop} {z : Nat} {C : Act → World → Prop}

/-- Operation z waits for all others. -/
def lastOK (ops : Array Oper) (z : Nat) : Bool :=
  match ops[z]? with
  | some o => (List.range ops.size).all fun i => i == z || o.after.any fun e => Region.binds .any e && e.on == i
  | none => true

theorem lastOK_spec {z : Nat} (h : lastOK ops z = true) {o : Oper} (ho : ops[z]? = some o) {i : Nat} (hi : i < ops.size) (hne : i ≠ z) : ∃ e ∈ o.after, Region.binds .any e = true ∧ e.on = i := by
  simp only [lastOK, ho, List.all_eq_true, List.mem_range] at h
  have := h i hi
  simp only [Bool.or_eq_true, beq_iff_eq, hne, false_or] at this
  obtain ⟨e, he, hb⟩ := Array.any_eq_true'.1 this
  simp only [Bool.and_eq_true, beq_iff_eq] at hb
  exact ⟨e, he, hb.1, hb.2⟩

/-- Whatever order is picked from here on; S holds behind every operation but z. -/
def anyS (P : Program) (ops : Array Oper) (Q : Exit → Act → World → Prop) (S : World → Prop) (z : Nat) : Nat → Array Bool → Act → World → Prop
  | 0, listed, a, w => Region.ready .any ops listed = [] ∧ Q .normal a w
  | fuel + 1, listed, a, w => (Region.ready .any ops listed = [] → Q .normal a w) ∧
    ∀ i ∈ Region.ready .any ops listed, wpOp P ops Q i (fun a' w' => (i ≠ z → S w') ∧ anyS P ops Q S z fuel (listed.setIfInBounds i true) a' w') a w

theorem any_of_anyS : ∀ (fuel : Nat) (listed : Array Bool) (a : Act) (w : World), anyS P ops Q S z fuel listed a w → wpAny P .any ops Q fuel listed a w
  | 0, _, _, _, h => h
  | fuel + 1, _, _, _, h => ⟨h.1, fun i hi => wpOp_mono (fun a' w' h' => any_of_anyS fuel _ a' w' h'.2) (h.2 i hi)⟩

theorem anyS_done {listed : Array Bool} {a : Act} {w : World} (hr : Region.ready .any ops listed = []) (h : Q .normal a w) : ∀ fuel, anyS P ops Q S z fuel listed a w
  | 0 => ⟨hr, h⟩
  | _ + 1 => ⟨fun _ => h, by rw [hr]; simp⟩

theorem anyS_take {i : Nat} {oi : Oper} {v : Value} (hi : ops[i]? = some oi) (hs : Region.noSelect ops = true) (hz : lastOK ops z = true) (hQ : ∀ c a w, Q (.panic c) (a.put oi.dst v) w → Q (.panic c) a w) :
    ∀ (fuel : Nat) (listed : Array Bool) (a : Act) (w : World), Region.free .any ops listed i = true → i ∈ Region.ready .any ops listed → YieldsIf P ops S oi v a → S w →
      anyS P ops Q S z fuel (listed.setIfInBounds i true) (a.put oi.dst v) w → anyS P ops Q S z (fuel + 1) listed a w := by
  have hsel := Region.noSelect_spec hs
  have hilt := (Array.getElem?_eq_some_iff.1 hi).1
  have key : ∀ (fuel : Nat) (listed : Array Bool) (a : Act) (w : World),
      (∀ j oj, ops[j]? = some oj → j ≠ i → listed.getD j true = false → (∀ e ∈ oj.after, Region.binds .any e = true → e.on ≠ i) → oi.apart ops oj = true) →
      i ∈ Region.ready .any ops listed → YieldsIf P ops S oi v a → S w → anyS P ops Q S z fuel (listed.setIfInBounds i true) (a.put oi.dst v) w → anyS P ops Q S z (fuel + 1) listed a w := by
    intro fuel
    induction fuel with
    | zero =>
      intro listed a w _ hr hy hS H
      refine ⟨fun h => absurd (h ▸ hr) (by simp), fun j hj => ?_⟩
      by_cases hji : j = i
      · subst hji; exact hy.wpOp hi hS ⟨fun _ => hS, H⟩
      · have := ready_mono hj hji
        rw [H.1] at this
        cases this
    | succ fuel ih =>
      intro listed a w hfree hr hy hS H
      refine ⟨fun h => absurd (h ▸ hr) (by simp), fun j hj => ?_⟩
      by_cases hji : j = i
      · subst hji; exact hy.wpOp hi hS ⟨fun _ => hS, H⟩
      · have h1 := H.2 j (ready_mono hj hji)
        obtain ⟨hjun, oj, hoj, hall⟩ := mem_ready.1 hj
        have hnot : ∀ e ∈ oj.after, Region.binds .any e = true → e.on ≠ i := fun e he hb heq => by
          have h3 := hall e he hb
          have h0 := (mem_ready.1 hr).1
          rw [heq] at h3
          by_cases hlt : i < listed.size
          · simp [hlt] at h0 h3; rw [h0] at h3; cases h3
          · simp [Array.getElem?_eq_none (Nat.le_of_not_lt hlt)] at h3
        have hjz : j ≠ z := by
          rintro rfl
          obtain ⟨e, he, hb, hei⟩ := lastOK_spec hz hoj hilt (Ne.symm hji)
          exact hnot e he hb hei
        have h2 := wpOp_putIf hoj (hfree j oj hoj hji hjun hnot) (fun cs b => hsel i oi cs b hi) (fun cs b => hsel j oj cs b hoj) hQ hy h1
        refine wpOp_mono (fun a' w' h3 => ?_) h2
        obtain ⟨hy', himp, hrest⟩ := h3
        have hr' : i ∈ Region.ready .any ops (listed.setIfInBounds j true) := ready_mono hr (Ne.symm hji)
        have hS' : S w' := himp hjz
        refine ⟨fun _ => hS', ih (listed.setIfInBounds j true) a' w' (fun k ok hk hki hun hno => ?_) hr' hy' hS' ?_⟩
        · refine hfree k ok hk hki ?_ hno
          by_cases hjk : j = k
          · subst hjk; exact hjun
          · rw [getD_set_ne true hjk] at hun; exact hun
        · rw [Array.setIfInBounds_comm _ _ hji]
          exact hrest
  intro fuel listed a w hf hr hy hS H
  exact key fuel listed a w (Region.free_spec hi hf) hr hy hS H

def wpPlan (P : Program) (ops : Array Oper) (Q : Exit → Act → World → Prop) (S : World → Prop) (z : Nat) (C : Act → World → Prop) : List (Nat × Bool) → Act → World → Prop
  | [], a, w => C a w
  | (i, true) :: r, a, w => ∃ o, ops[i]? = some o ∧ ∃ v, YieldsIf P ops S o v a ∧ wpPlan P ops Q S z C r (a.put o.dst v) w
  | (i, false) :: r, a, w => wpOp P ops Q i (fun a' w' => (i ≠ z → S w') ∧ wpPlan P ops Q S z C r a' w') a w

theorem held_of_plan (hs : Region.noSelect ops = true) (hz : lastOK ops z = true) (hQ : ∀ c a d v w, Q (.panic c) (a.put d v) w → Q (.panic c) a w) (listed' : Array Bool) (fuel : Nat)
    (hC : ∀ a w, (¬ listed'.getD z false = true → S w) → C a w → anyS P ops Q S z fuel listed' a w) :
    ∀ (plan : List (Nat × Bool)) (listed : Array Bool) (a : Act) (w : World), planGo ops z listed plan = some listed' → listed.size = ops.size → (¬ listed.getD z false = true → S w) → wpPlan P ops Q S z C plan a w →
      anyS P ops Q S z (fuel + plan.length) listed a w
  | [], listed, a, w, hp, _, hS, h => by
    simp only [planGo, Option.some.injEq] at hp
    subst hp
    exact hC a w hS h
  | (i, true) :: r, listed, a, w, hp, hl, hS, h => by
    simp only [planGo] at hp
    split at hp
    · rename_i hc
      simp only [Bool.and_eq_true, List.contains_eq_mem, decide_eq_true_eq, Bool.not_eq_true'] at hc
      obtain ⟨o, ho, v, hy, hr⟩ := h
      have hSw : S w := hS (by rw [hc.2]; simp)
      exact anyS_take ho hs hz (fun c a w => hQ c a _ _ w) _ _ _ _ hc.1.1 hc.1.2 hy hSw (held_of_plan hs hz hQ listed' fuel hC r _ _ _ hp (by simp [hl]) (fun _ => hSw) hr)
    · cases hp
  | (i, false) :: r, listed, a, w, hp, hl, hS, h => by
    simp only [planGo] at hp
    split at hp
    · rename_i hc
      simp only [beq_iff_eq] at hc
      refine ⟨fun h0 => by rw [hc] at h0; simp at h0, fun j hj => ?_⟩
      rw [hc] at hj
      obtain rfl := List.mem_singleton.1 hj
      refine wpOp_mono (fun a' w' h' => ⟨h'.1, held_of_plan hs hz hQ listed' fuel hC r _ _ _ hp (by simp [hl]) (fun hnz => h'.1 (fun e => hnz ?_)) h'.2⟩) h
      subst e
      have hmem : j ∈ Region.ready .any ops listed := by rw [hc]; simp
      obtain ⟨_, o, ho, _⟩ := mem_ready.1 hmem
      have : j < listed.size := by rw [hl]; exact (Array.getElem?_eq_some_iff.1 ho).1
      simp [this]
    · cases hp

/-! ### The operations that are values -/
def valued : Op → Bool
  | .move _ | .assign _ | .pick .. | .load .. | .binOp .. | .unOp .. | .convert .. | .fieldAddr .. | .indexAddr .. | .index .. | .field .. | .build .. | .extract .. | .slice .. | .lookup .. => true
  | .nilCheck _ => true
  | .call { callee := .builtin .len, .. } | .call { callee := .builtin .min, .. } | .call { callee := .builtin .max, .. } => true
  | _ => false

theorem value_of_map {s : Sem Value} {w w' : World} {n : Next} (h : (do pure (.value (← s)) : Sem Next).run P w = .ok n w') : ∃ v, n = .value v := by
  simp only [Sem.run_bind] at h
  cases hs : s.run P w with
  | ok v w1 => rw [hs] at h; simp only [Result.andThen_ok, Sem.run_pure, Result.ok.injEq] at h; exact ⟨v, h.1.symm⟩
  | halt x w1 => rw [hs] at h; simp [Result.andThen] at h

theorem bind_ok {α : Type} {s : Sem α} {f : α → Sem Next} {w w' : World} {n : Next} (h : (s >>= f).run P w = .ok n w') : ∃ a w1, (f a).run P w1 = .ok n w' := by
  simp only [Sem.run_bind] at h
  cases hs : s.run P w with
  | ok v w1 => rw [hs] at h; exact ⟨v, w1, h⟩
  | halt x w1 => rw [hs] at h; simp [Result.andThen] at h

theorem valued_spec {o : Oper} {ρ : Operand → Value} {w w' : World} {n : Next} (hv : valued o.op = true) (h : (execOp ρ o).run P w = .ok n w') : ∃ v, n = .value v := by
  obtain ⟨dst, op, type, pos, after, guard⟩ := o
  cases op <;> simp only [valued] at hv <;> simp only [execOp] at h
  case move => simp only [Sem.run_pure, Result.ok.injEq] at h; exact ⟨_, h.1.symm⟩
  case assign => simp only [Sem.run_pure, Result.ok.injEq] at h; exact ⟨_, h.1.symm⟩
  case pick c a b =>
    simp only [Sem.run_bind] at h
    cases hs : (asBool (ρ c)).run P w with
    | ok v w1 => rw [hs] at h; simp only [Result.andThen_ok, Sem.run_pure, Result.ok.injEq] at h; exact ⟨_, h.1.symm⟩
    | halt x w1 => rw [hs] at h; simp [Result.andThen] at h
  case call c =>
    obtain ⟨cl, args, ts⟩ := c
    cases cl with
    | builtin b =>
      cases b <;> simp at hv
      all_goals
        simp only [resolve, invoke, builtin, Sem.run_bind, Sem.run_pure, Result.andThen_ok] at h
        exact value_of_map (by simpa using h)
    | _ => simp at hv
  case nilCheck x =>
    have bad : ∀ (w1 w2 : World) (m : Next), (runtimePanic .nilDeref : Sem Next).run P w1 ≠ .ok m w2 := by
      intro w1 w2 m he
      simp [runtimePanic, goPanic] at he
    split at h
    · exact (bad _ _ _ h).elim
    · exact (bad _ _ _ h).elim
    · exact (bad _ _ _ h).elim
    · split at h
      · exact (bad _ _ _ h).elim
      · obtain ⟨_, w1, h⟩ := bind_ok h
        obtain ⟨_, w2, h⟩ := bind_ok h
        split at h
        · obtain ⟨_, w3, h⟩ := bind_ok h
          simp only [Sem.run_pure, Result.ok.injEq] at h; exact ⟨_, h.1.symm⟩
        · simp only [Sem.run_pure, Result.ok.injEq] at h; exact ⟨_, h.1.symm⟩
      · simp only [Sem.run_pure, Result.ok.injEq] at h; exact ⟨_, h.1.symm⟩
    · simp only [Sem.run_pure, Result.ok.injEq] at h; exact ⟨_, h.1.symm⟩
  all_goals first
    | exact value_of_map h
    | (exact absurd hv (by simp))

/-! ### A run of such operations, walked in an arbitrary world that meets S -/
def noEnd : Exit → Act → World → Prop := fun _ _ _ => False

def Seg (P : Program) (ops : Array Oper) (wx : World) (A : Act) : List Oper → Act → World → Prop
  | [], a, w => a = A ∧ w = wx
  | o :: r, a, w => w = wx ∧ wpList P ops (Exit.then (fun a' w' => Seg P ops wx A r a' w') noEnd) [o] a w

theorem seg_nil {wx : World} {A : Act} : Seg P ops wx A [] A wx := ⟨rfl, rfl⟩
theorem seg_cons {wx : World} {A : Act} {o : Oper} {r : List Oper} {a : Act}
    (h : ∀ K : Act → World → Prop, (∀ a' w', Seg P ops wx A r a' w' → K a' w') → wpList P ops (Exit.then K noEnd) [o] a wx) : Seg P ops wx A (o :: r) a wx :=
  ⟨rfl, h _ fun _ _ h => h⟩

theorem Seg.world {wx : World} {A : Act} : ∀ {l : List Oper} {a : Act} {w : World}, Seg P ops wx A l a w → w = wx
  | [], _, _, h => h.2
  | _ :: _, _, _, h => h.1

/-- One step of a segment: the operation is passed over, or it yields a value and leaves the world alone. -/
theorem Seg.step {wx : World} {A : Act} {o : Oper} {r : List Oper} {a : Act} {w : World} (hv : valued o.op = true) (h : Seg P ops wx A (o :: r) a w) :
    w = wx ∧ ((Region.wanted o (yielded ops a.tmps) = true ∧ ∃ v, (execOp a.eval o).run P wx = .ok (.value v) wx ∧ Seg P ops wx A r (a.put o.dst v) wx) ∨
      (Region.wanted o (yielded ops a.tmps) = false ∧ Seg P ops wx A r (a.put o.dst undef) wx)) := by
  obtain ⟨rfl, h⟩ := h
  refine ⟨rfl, ?_⟩
  unfold wpList at h
  split at h
  · rename_i hw
    refine .inl ⟨hw, ?_⟩
    rcases h with h | ⟨_, a1, w1, h⟩
    · unfold Oper.wp at h
      generalize hr : (execOp a.eval o).run P w = x at h
      cases x with
      | halt y w1 => cases y <;> simp [Oper.upon, Exit.then, noEnd] at h
      | ok n w1 =>
        obtain ⟨v, rfl⟩ := valued_spec hv hr
        have h' : Seg P ops w A r (a.put o.dst v) w1 := h
        have hw1 := h'.world
        subst hw1
        exact ⟨v, rfl, h'⟩
    · exact h.elim
  · rename_i hw
    exact .inr ⟨by simpa using hw, h⟩

def dstsFree (d : Tmp) (l : List Oper) : Bool := l.all fun o => o.dst != some d
/-- Every operation is a value, writes a slot of its own below n. -/
def segOK (n : Nat) : List Oper → Bool
  | [] => true
  | o :: r => valued o.op && (match o.dst with | some d => decide (d < n) && dstsFree d r | none => false) && segOK n r

theorem put_size (a : Act) (d : Option Tmp) (v : Value) : (a.put d v).tmps.size = a.tmps.size := by cases d <;> simp [Act.put]

theorem Seg.keeps {wx : World} {A : Act} {n : Nat} (d : Tmp) : ∀ (l : List Oper) (a : Act) (w : World), segOK n l = true → dstsFree d l = true → Seg P ops wx A l a w → A.tmps[d]? = a.tmps[d]?
  | [], a, w, _, _, h => by rw [h.1]
  | o :: r, a, w, hs, hd, h => by
    simp only [segOK, Bool.and_eq_true] at hs
    simp only [dstsFree, List.all_cons, Bool.and_eq_true, bne_iff_ne, ne_eq] at hd
    have put : ∀ v, (a.put o.dst v).tmps[d]? = a.tmps[d]? := by
      intro v
      cases ho : o.dst with
      | none => rfl
      | some e => simp only [Act.put]; exact Array.getElem?_setIfInBounds_ne (fun he => hd.1 (by rw [ho, he]))
    obtain ⟨_, ⟨_, v, _, h'⟩ | ⟨_, h'⟩⟩ := h.step hs.1.1
    · rw [Seg.keeps d r _ _ hs.2 (by simpa [dstsFree] using hd.2) h', put]
    · rw [Seg.keeps d r _ _ hs.2 (by simpa [dstsFree] using hd.2) h', put]

/-- A segment that ends in one frame A in every world that meets S goes by values. -/
theorem plan_of_seg {n : Nat} {A : Act} {w : World} (hS : S w) (rest : List (Nat × Bool)) (hrest : wpPlan P ops Q S z C rest A w) :
    ∀ (is : List Nat) (l : List Oper) (a : Act), is.map (ops[·]?) = l.map some → segOK n l = true → a.tmps.size = n → (∀ wx, S wx → Seg P ops wx A l a wx) →
      wpPlan P ops Q S z C (is.map (·, true) ++ rest) a w
  | [], [], a, _, _, _, h => by
    have := (h w hS).1
    subst this
    exact hrest
  | [], _ :: _, _, h, _, _, _ => by simp at h
  | _ :: _, [], _, h, _, _, _ => by simp at h
  | i :: is, o :: l, a, he, hs, hn, h => by
    simp only [List.map_cons, List.cons.injEq] at he
    have hs' := hs
    simp only [segOK, Bool.and_eq_true] at hs'
    obtain ⟨⟨hv, hd⟩, hr⟩ := hs'
    cases ho : o.dst with
    | none => rw [ho] at hd; simp at hd
    | some d =>
      rw [ho] at hd
      simp only [Bool.and_eq_true, decide_eq_true_eq] at hd
      by_cases hw : Region.wanted o (yielded ops a.tmps) = true
      · have hval : ∀ wx, S wx → ∃ v, (execOp a.eval o).run P wx = .ok (.value v) wx ∧ Seg P ops wx A l (a.put o.dst v) wx := by
          intro wx hx
          obtain ⟨_, ⟨_, v, h1, h2⟩ | ⟨h1, _⟩⟩ := (h wx hx).step hv
          · exact ⟨v, h1, h2⟩
          · rw [hw] at h1; cases h1
        have hA : ∀ wx v, Seg P ops wx A l (a.put o.dst v) wx → v = A.tmps.getD d undef := by
          intro wx v h2
          have := h2.keeps d l _ _ hr hd.2
          rw [ho] at this
          simp only [Act.put] at this
          rw [Array.getElem?_setIfInBounds_self_of_lt (by rw [hn]; exact hd.1)] at this
          simp [Array.getD_eq_getD_getElem?, this]
        refine ⟨o, he.1, A.tmps.getD d undef, .inl ⟨hw, fun wx hx => ?_⟩, ?_⟩
        · obtain ⟨v, h1, h2⟩ := hval wx hx
          rw [h1, hA wx v h2]
        · refine plan_of_seg hS rest hrest is l _ he.2 hr (by rw [put_size]; exact hn) (fun wx hx => ?_)
          obtain ⟨v, h1, h2⟩ := hval wx hx
          rw [← hA wx v h2]
          exact h2
      · have hw' : Region.wanted o (yielded ops a.tmps) = false := by simpa using hw
        refine ⟨o, he.1, undef, .inr ⟨hw', rfl⟩, ?_⟩
        refine plan_of_seg hS rest hrest is l _ he.2 hr (by rw [put_size]; exact hn) (fun wx hx => ?_)
        obtain ⟨_, ⟨h1, _⟩ | ⟨_, h2⟩⟩ := (h wx hx).step hv
        · rw [h1] at hw'; cases hw'
        · exact h2

/-- An effect, walked as ever. -/
theorem plan_of_effect' {i : Nat} {o : Oper} {rest : List (Nat × Bool)} {a : Act} {w : World} (ho : ops[i]? = some o)
    (h : ∀ K : Act → World → Prop, (∀ a' w', (i ≠ z → S w') ∧ wpPlan P ops Q S z C rest a' w' → K a' w') → wpList P ops (Exit.then K Q) [o] a w) : wpPlan P ops Q S z C ((i, false) :: rest) a w := by
  have := h _ (fun _ _ h => h)
  show wpOp P ops Q i _ a w
  unfold wpOp
  rw [ho]
  simp only
  unfold wpList at this
  split at this
  · rename_i hw
    rw [if_pos hw]
    refine this.imp (fun h1 => ?_) (fun h1 => ⟨h1.1, h1.2⟩)
    unfold Oper.wp at *
    generalize (execOp a.eval o).run P w = x at *
    cases x with
    | ok n w1 =>
      cases n <;> simp only [Oper.upon] at h1 ⊢ <;> first
        | exact h1
        | exact Calls.mono h1 (fun e w'' he => by cases e <;> exact he)
        | exact Rows.mono h1 (fun _ _ he => he)
    | halt y w1 => cases y <;> simp only [Oper.upon] at h1 ⊢ <;> exact h1
  · rename_i hw
    rw [if_neg hw]
    exact this

theorem plan_of_effect {i : Nat} {o : Oper} {rest : List (Nat × Bool)} {a : Act} {w : World} (ho : ops[i]? = some o)
    (h : ∀ K : Act → World → Prop, (∀ a' w', S w' ∧ wpPlan P ops Q S z C rest a' w' → K a' w') → wpList P ops (Exit.then K Q) [o] a w) : wpPlan P ops Q S z C ((i, false) :: rest) a w :=
  plan_of_effect' ho fun K hK => h K fun a' w' h' => hK a' w' ⟨fun _ => h'.1, h'.2⟩

/-- The operation that waits for all others: S need not hold behind it. -/
theorem plan_of_last {o : Oper} {rest : List (Nat × Bool)} {a : Act} {w : World} (ho : ops[z]? = some o)
    (h : ∀ K : Act → World → Prop, (∀ a' w', wpPlan P ops Q S z C rest a' w' → K a' w') → wpList P ops (Exit.then K Q) [o] a w) : wpPlan P ops Q S z C ((z, false) :: rest) a w :=
  plan_of_effect' ho fun K hK => h K fun a' w' h' => hK a' w' ⟨fun hz => absurd rfl hz, h'⟩

theorem wp_region_planz {id : Nat} {l : List Oper} {a : Act} {w : World} (S : World → Prop) (z : Nat) (plan : List (Nat × Bool)) (hm : P.follows .mixedOrders = true)
    (hs : Region.noSelect l.toArray = true) (hp : (lastOK l.toArray z && planOK l.toArray z (Array.replicate l.toArray.size false) plan && decide (plan.length = l.toArray.size)) = true)
    (hS : S w.drew) (h : wpPlan P l.toArray (NoPanic Q) S z (NoPanic Q .normal) plan a w.drew) : (Code.region id l.toArray true).wp P Q a w := by
  simp only [Bool.and_eq_true, decide_eq_true_eq, planOK] at hp
  split at hp
  · rename_i l' hl'
    refine wp_region_noPanic (wp_region_any hm (any_of_anyS (S := S) (z := z) _ _ _ _ ?_))
    have := held_of_plan (P := P) (Q := NoPanic Q) (S := S) (C := NoPanic Q .normal) hs hp.1.1 (fun c a d v w h => h.elim) l' 0 (fun a w _ h => anyS_done (by simpa using hp.1.2) h 0) plan _ a w.drew hl' (by simp) (fun _ => hS) h
    rw [Nat.zero_add, hp.2] at this
    exact this
  · simp at hp

theorem lastOK_none (ops : Array Oper) : lastOK ops ops.size = true := by simp [lastOK]

theorem wp_region_plan {id : Nat} {l : List Oper} {a : Act} {w : World} (S : World → Prop) (plan : List (Nat × Bool)) (hm : P.follows .mixedOrders = true)
    (hs : Region.noSelect l.toArray = true) (hp : (planOK l.toArray l.toArray.size (Array.replicate l.toArray.size false) plan && decide (plan.length = l.toArray.size)) = true)
    (hS : S w.drew) (h : wpPlan P l.toArray (NoPanic Q) S l.toArray.size (NoPanic Q .normal) plan a w.drew) : (Code.region id l.toArray true).wp P Q a w :=
  wp_region_planz S l.toArray.size plan hm hs (by rw [lastOK_none, Bool.true_and]; exact hp) hS h

/-! ### Fresh operations: they come up in any order; each leaves a value of which G says what holds from then on -/
abbrev Ext (w w' : World) : Prop := RowKit.Below w.heap.size w w'
theorem Ext.refl (w : World) : Ext w w := RowKit.Below.refl _ _
theorem Ext.trans {a b c : World} (h : Ext a b) (k : Ext b c) : Ext a c := RowKit.Below.trans h (k.mono h.size)

/-- The slots of the operations T hold vs. -/
def over (ops : Array Oper) (vs : Nat → Value) : List Nat → Act → Act
  | [], a => a
  | i :: r, a => over ops vs r (a.put ((ops[i]?).bind (·.dst)) (vs i))

def dstOf (ops : Array Oper) (i : Nat) : Option Tmp := (ops[i]?).bind (·.dst)

/-- All that an operation waits for, directly or through others. -/
def waits (ops : Array Oper) : Nat → Nat → List Nat
  | 0, _ => []
  | f + 1, j => match ops[j]? with
    | some o => (o.after.toList.filter (Region.binds .any)).flatMap fun e => e.on :: waits ops f e.on
    | none => []

/-- T stands in an order in which each waits for none behind it. -/
def topo (ops : Array Oper) : Array Bool → List Nat → Bool
  | _, [] => true
  | listed, t :: r => (match ops[t]? with
    | some o => o.after.all fun e => !Region.binds .any e || listed.getD e.on false
    | none => false) && topo ops (listed.setIfInBounds t true) r

/-- The checks on a set T of fresh operations that come up from 'listed' on. -/
def freshOK (ops : Array Oper) (listed : Array Bool) (n : Nat) (T : List Nat) : Bool :=
  (T.all fun t => match ops[t]? with
    | some o => (match o.dst with | some d => decide (d < n) && !(o.looksAt ops).contains d | none => false) && o.guard.isNone && (match o.op with | .select .. => false | _ => true) && !listed.getD t true &&
        (T.all fun k => k == t || ((match dstOf ops k with | some d => o.dst != some d && (!(o.looksAt ops).contains d || o.after.any fun e => Region.binds .any e && e.on == k) | none => false)))
    | none => false) &&
  ((List.range ops.size).all fun j => T.contains j || listed.getD j true ||
    T.all fun t => (waits ops ops.size j).contains t) &&
  ((List.range ops.size).all fun j => !listed.getD j false || match ops[j]? with
    | some o => o.after.all fun e => !Region.binds .any e || listed.getD e.on false
    | none => true) && decide (listed.size = ops.size) && decide T.Nodup && topo ops listed T

theorem wp_carry {o : Oper} {a b : Act} {w : World} {K K2 : Act → World → Prop} (he : execOp a.eval o = execOp b.eval o) (hP : ∀ c a w, ¬ Q (.panic c) a w)
    (hK : ∀ v w', K (a.put o.dst v) w' → K2 (b.put o.dst v) w') (hD : ∀ d w', ¬ K ({ a with defers := d :: a.defers }.put o.dst undef) w') (h : o.wp P a w K Q) : o.wp P b w K2 Q := by
  unfold Oper.wp at *
  rw [← he]
  generalize (execOp a.eval o).run P w = r at *
  cases r with
  | ok n w' =>
    cases n <;> simp only [Oper.upon] at h ⊢
    case value v => exact hK _ _ h
    case skip => exact hK _ _ h
    case defer d => exact (hD _ _ h).elim
    case enter f args =>
      refine Calls.mono h fun e w'' he => ?_
      cases e with
      | returned v => exact hK _ _ he
      | panicked c => exact (hP _ _ _ he).elim
      | outgrown => exact he
    case row row args => exact Rows.mono h fun v w'' hv => hK _ _ hv
  | halt x w' =>
    cases x <;> simp only [Oper.upon] at h ⊢
    case panic v => exact (hP _ _ _ h).elim

/-- What a slot holds when the operations D have come up. -/
def slotBy (ops : Array Oper) (vs : Nat → Value) (D : List Nat) (a0 : Act) (k : Tmp) : Option Value :=
  match D.find? (fun i => dstOf ops i == some k) with
  | some i => if k < a0.tmps.size then some (vs i) else none
  | none => a0.tmps[k]?

theorem put_get (a : Act) (d : Option Tmp) (v : Value) (k : Tmp) : (a.put d v).tmps[k]? = if d = some k ∧ k < a.tmps.size then some v else a.tmps[k]? := by
  cases d with
  | none => simp [Act.put]
  | some e =>
    simp only [Act.put, Option.some.injEq]
    by_cases hek : e = k
    · subst hek
      by_cases hlt : e < a.tmps.size
      · simp [hlt]
      · simp [hlt]
    · rw [Array.getElem?_setIfInBounds_ne hek]; simp [hek]

theorem over_size (vs : Nat → Value) : ∀ (T : List Nat) (a : Act), (over ops vs T a).tmps.size = a.tmps.size
  | [], _ => rfl
  | i :: r, a => by rw [over, over_size vs r, put_size]

theorem over_defers (vs : Nat → Value) : ∀ (T : List Nat) (a : Act), (over ops vs T a).defers = a.defers
  | [], _ => rfl
  | i :: r, a => by
    rw [over, over_defers vs r]
    cases (ops[i]?).bind (·.dst) <;> rfl

theorem over_get (vs : Nat → Value) (k : Tmp) : ∀ (T : List Nat) (a : Act), (∀ i ∈ T, ∀ j ∈ T, i ≠ j → dstOf ops i ≠ dstOf ops j ∨ dstOf ops i = none) → T.Nodup →
    (over ops vs T a).tmps[k]? = slotBy ops vs T a k
  | [], a, _, _ => rfl
  | i :: r, a, hd, hn => by
    rw [over, over_get vs k r _ (fun x hx y hy => hd x (List.mem_cons_of_mem _ hx) y (List.mem_cons_of_mem _ hy)) (List.nodup_cons.1 hn).2]
    unfold slotBy
    rw [put_size, List.find?_cons]
    by_cases hi : dstOf ops i = some k
    · have hi' : (dstOf ops i == some k) = true := by simp [hi]
      rw [hi']
      have hnone : r.find? (fun i => dstOf ops i == some k) = none := by
        rw [List.find?_eq_none]
        intro j hj hjk
        simp only [beq_iff_eq] at hjk
        have hij : i ≠ j := fun e => (List.nodup_cons.1 hn).1 (e ▸ hj)
        rcases hd i (List.mem_cons_self ..) j (List.mem_cons_of_mem _ hj) hij with h | h
        · exact h (by rw [hi, hjk])
        · rw [hi] at h; cases h
      rw [hnone]
      simp only
      rw [put_get, show (ops[i]?).bind (·.dst) = some k from hi]
      by_cases hlt : k < a.tmps.size
      · simp [hlt]
      · simp [hlt]
    · have hi' : (dstOf ops i == some k) = false := by simp [hi]
      rw [hi']
      simp only
      cases r.find? (fun i => dstOf ops i == some k) with
      | some j => rfl
      | none =>
        simp only
        rw [put_get, if_neg (fun h => hi h.1)]

theorem find_dst {D : List Nat} {k : Tmp} {i : Nat} (hi : i ∈ D) (hk : dstOf ops i = some k) (hd : ∀ x ∈ D, dstOf ops x = some k → x = i) :
    D.find? (fun i => dstOf ops i == some k) = some i := by
  cases h : D.find? (fun i => dstOf ops i == some k) with
  | none => rw [List.find?_eq_none] at h; exact absurd (by simp [hk]) (h i hi)
  | some j =>
    have h1 := List.find?_some h
    simp only [beq_iff_eq] at h1
    rw [hd j (List.mem_of_find?_eq_some h) h1]

theorem slotBy_agree {vs : Nat → Value} {D T : List Nat} {a0 : Act} {t : Tmp} (hsub : ∀ x ∈ D, x ∈ T) (hdist : ∀ i ∈ T, ∀ j ∈ T, dstOf ops i = some t → dstOf ops j = some t → i = j)
    (h : ∀ k ∈ T, dstOf ops k = some t → k ∈ D) : slotBy ops vs D a0 t = slotBy ops vs T a0 t := by
  unfold slotBy
  by_cases he : ∃ k ∈ T, dstOf ops k = some t
  · obtain ⟨k, hk, hkt⟩ := he
    rw [find_dst hk hkt (fun x hx hxt => hdist x hx k hk hxt hkt), find_dst (h k hk hkt) hkt (fun x hx hxt => hdist x (hsub x hx) k hk hxt hkt)]
  · have n1 : T.find? (fun i => dstOf ops i == some t) = none := by
      rw [List.find?_eq_none]; intro x hx hxt; exact he ⟨x, hx, by simpa using hxt⟩
    have n2 : D.find? (fun i => dstOf ops i == some t) = none := by
      rw [List.find?_eq_none]; intro x hx hxt; exact he ⟨x, hsub x hx, by simpa using hxt⟩
    rw [n1, n2]

theorem waits_listed {listed : Array Bool} (hc : ∀ (j : Nat) (o : Oper), ops[j]? = some o → listed.getD j false = true → ∀ e ∈ o.after, Region.binds .any e = true → listed.getD e.on false = true) :
    ∀ (f j : Nat) (o : Oper), ops[j]? = some o → (∀ e ∈ o.after, Region.binds .any e = true → listed.getD e.on false = true) → ∀ t ∈ waits ops f j, listed.getD t false = true
  | 0, _, _, _, _, t, ht => by simp [waits] at ht
  | f + 1, j, o, ho, h, t, ht => by
    simp only [waits, ho, List.mem_flatMap, List.mem_filter, Array.mem_toList_iff, List.mem_cons] at ht
    obtain ⟨e, ⟨he, hb⟩, ht⟩ := ht
    have hl := h e he hb
    rcases ht with rfl | ht
    · exact hl
    · cases hoe : ops[e.on]? with
      | none => cases f <;> simp [waits, hoe] at ht
      | some o' => exact waits_listed hc f e.on o' hoe (hc e.on o' hoe hl) t ht

structure FreshInv (ops : Array Oper) (S : World → Prop) (G : Nat → Nat → Nat → Value → World → Prop) (listed0 : Array Bool) (T : List Nat) (a0 : Act) (w0 : World)
    (D : List Nat) (vs : Nat → Value) (lo hi : Nat → Nat) (listed : Array Bool) (a : Act) (w : World) : Prop where
  sub : ∀ x ∈ D, x ∈ T
  nodup : D.Nodup
  size : listed.size = ops.size
  marks : ∀ j, j < ops.size → listed.getD j false = (listed0.getD j false || D.contains j)
  closed : ∀ (j : Nat) (o : Oper), ops[j]? = some o → listed.getD j false = true → ∀ e ∈ o.after, Region.binds .any e = true → listed.getD e.on false = true
  defers : a.defers = a0.defers
  tmps : a.tmps.size = a0.tmps.size
  slots : ∀ k, a.tmps[k]? = slotBy ops vs D a0 k
  held : ∀ k ∈ D, G k (lo k) (hi k) (vs k) w ∧ w0.heap.size ≤ lo k ∧ hi k ≤ w.heap.size
  apart : ∀ i ∈ D, ∀ k ∈ D, i ≠ k → hi i ≤ lo k ∨ hi k ≤ lo i
  ext : Ext w0 w
  S : S w

def markAll (listed : Array Bool) (T : List Nat) : Array Bool := T.foldl (fun l t => l.setIfInBounds t true) listed

theorem markAll_size : ∀ (T : List Nat) (l : Array Bool), (markAll l T).size = l.size
  | [], _ => rfl
  | t :: r, l => by
    show (markAll (l.setIfInBounds t true) r).size = _
    rw [markAll_size r]; simp

theorem markAll_get (j : Nat) : ∀ (T : List Nat) (l : Array Bool), j < l.size → (markAll l T).getD j false = (l.getD j false || T.contains j)
  | [], l, _ => by simp [markAll]
  | t :: r, l, hj => by
    show (markAll (l.setIfInBounds t true) r).getD j false = _
    rw [markAll_get j r _ (by simpa using hj)]
    by_cases htj : t = j
    · subst htj; simp [hj]
    · have : (l.setIfInBounds t true).getD j false = l.getD j false := getD_set_ne false htj
      rw [this]
      simp [Ne.symm htj]

structure FreshFacts (ops : Array Oper) (listed0 : Array Bool) (n : Nat) (T : List Nat) : Prop where
  op : ∀ t ∈ T, ∃ o d, ops[t]? = some o ∧ o.dst = some d ∧ d < n ∧ d ∉ o.looksAt ops ∧ o.guard = none ∧ (∀ cs b, o.op ≠ .select cs b) ∧ listed0.getD t true = false ∧
    ∀ k ∈ T, k ≠ t → ∃ e, dstOf ops k = some e ∧ e ≠ d ∧ (e ∈ o.looksAt ops → ∃ x ∈ o.after, Region.binds .any x = true ∧ x.on = k)
  rest : ∀ j, j < ops.size → j ∈ T ∨ listed0.getD j true = true ∨ ∀ t ∈ T, t ∈ waits ops ops.size j
  closed : ∀ (j : Nat) (o : Oper), ops[j]? = some o → listed0.getD j false = true → ∀ e ∈ o.after, Region.binds .any e = true → listed0.getD e.on false = true
  size : listed0.size = ops.size
  nodup : T.Nodup
  topo : topo ops listed0 T = true

theorem freshOK_spec {listed0 : Array Bool} {n : Nat} {T : List Nat} (h : freshOK ops listed0 n T = true) : FreshFacts ops listed0 n T := by
  simp only [freshOK, Bool.and_eq_true, List.all_eq_true, decide_eq_true_eq, List.mem_range] at h
  obtain ⟨⟨⟨⟨⟨h1, h2⟩, h3⟩, h4⟩, h5⟩, h6⟩ := h
  refine ⟨fun t ht => ?_, fun j hj => ?_, fun j o ho hl e he hb => ?_, h4, h5, h6⟩
  · have ht1 := h1 t ht
    cases ho : ops[t]? with
    | none => rw [ho] at ht1; cases ht1
    | some o =>
      rw [ho] at ht1
      simp only [Bool.and_eq_true] at ht1
      obtain ⟨⟨⟨⟨a1, a2⟩, a3⟩, a4⟩, a5⟩ := ht1
      cases hd : o.dst with
      | none => rw [hd] at a1; cases a1
      | some d =>
        rw [hd] at a1
        simp only [Bool.and_eq_true, decide_eq_true_eq, Bool.not_eq_true', List.contains_eq_mem, decide_eq_false_iff_not] at a1
        refine ⟨o, d, rfl, hd, a1.1, a1.2, by simpa using a2, (fun cs b e => by rw [e] at a3; cases a3), by simpa using a4, fun k hk hkt => ?_⟩
        have a6 := (List.all_eq_true.1 a5) k hk
        simp only [Bool.or_eq_true, beq_iff_eq, hkt, false_or] at a6
        cases hkd : dstOf ops k with
        | none => rw [hkd] at a6; cases a6
        | some e =>
          rw [hkd] at a6
          simp only [Bool.and_eq_true, bne_iff_ne, ne_eq, Bool.or_eq_true, Bool.not_eq_true', List.contains_eq_mem, decide_eq_false_iff_not] at a6
          refine ⟨e, rfl, fun hed => a6.1 (by rw [hd, hed]), fun hl => ?_⟩
          rcases a6.2 with h | h
          · exact absurd hl h
          · obtain ⟨x, hx, hxx⟩ := Array.any_eq_true'.1 h
            simp only [Bool.and_eq_true, beq_iff_eq] at hxx
            exact ⟨x, hx, hxx.1, hxx.2⟩
  · have := h2 j hj
    simp only [Bool.or_eq_true, List.contains_eq_mem, decide_eq_true_eq, List.all_eq_true] at this
    rcases this with (h | h) | h
    · exact .inl h
    · exact .inr (.inl h)
    · exact .inr (.inr h)
  · have hj : j < ops.size := (Array.getElem?_eq_some_iff.1 ho).1
    have := h3 j hj
    simp only [hl, ho, Bool.not_true, Bool.false_or] at this
    have := (Array.all_eq_true'.1 this) e he
    simpa [hb] using this

theorem topo_next {T : List Nat} : ∀ {listed0 : Array Bool}, topo ops listed0 T = true → ∀ (D : List Nat) (listed : Array Bool), (∀ j, listed0.getD j false = true → listed.getD j false = true) →
    (∀ j ∈ D, listed.getD j false = true) → (∃ t ∈ T, t ∉ D) → ∃ t ∈ T, t ∉ D ∧ ∃ o, ops[t]? = some o ∧ ∀ e ∈ o.after, Region.binds .any e = true → listed.getD e.on false = true := by
  induction T with
  | nil => intro _ _ _ _ _ _ ⟨t, ht, _⟩; cases ht
  | cons t r ih =>
    intro listed0 h D listed h0 hD hex
    simp only [topo, Bool.and_eq_true] at h
    by_cases htD : t ∈ D
    · obtain ⟨x, hx, hxD⟩ := hex
      have hx' : x ∈ r := by
        rcases List.mem_cons.1 hx with rfl | hx
        · exact absurd htD hxD
        · exact hx
      obtain ⟨y, hy, hyD, ho⟩ := ih h.2 D listed (fun j hj => by
        by_cases hjt : t = j
        · subst hjt; exact hD t htD
        · rw [getD_set_ne false hjt] at hj; exact h0 j hj) hD ⟨x, hx', hxD⟩
      exact ⟨y, List.mem_cons_of_mem _ hy, hyD, ho⟩
    · refine ⟨t, List.mem_cons_self .., htD, ?_⟩
      cases ho : ops[t]? with
      | none => rw [ho] at h; simp at h
      | some o =>
        rw [ho] at h
        refine ⟨o, rfl, fun e he hb => h0 _ ?_⟩
        have := (Array.all_eq_true'.1 h.1) e he
        simpa [hb] using this

theorem fresh_phase {G : Nat → Nat → Nat → Value → World → Prop} {listed0 : Array Bool} {n : Nat} {T : List Nat} (F : FreshFacts ops listed0 n T) (hP : ∀ c a w, ¬ Q (.panic c) a w) {a0 : Act} (hn : a0.tmps.size = n) {w0 : World}
    (hSm : ∀ w w', S w → Ext w w' → S w') (hGm : ∀ i lo hi v w w', G i lo hi v w → Ext w w' → G i lo hi v w')
    (hstep : ∀ i o, i ∈ T → ops[i]? = some o → ∀ (vs : Nat → Value) (w : World) (lo hi : Nat → Nat), S w → Ext w0 w → (∀ k ∈ T, ∀ e, dstOf ops k = some e → e ∈ o.looksAt ops → G k (lo k) (hi k) (vs k) w) →
      o.wp P (over ops vs T a0) w (fun a' w' => ∃ v, a' = (over ops vs T a0).put o.dst v ∧ G i w.heap.size w'.heap.size v w' ∧ Ext w w') Q ∨ (o.asks P (over ops vs T a0) w ∧ LetsOut Q)) (fuel : Nat)
    (hfin : ∀ (vs : Nat → Value) (lo hi : Nat → Nat) (w : World), S w → Ext w0 w → (∀ k ∈ T, G k (lo k) (hi k) (vs k) w ∧ w0.heap.size ≤ lo k ∧ hi k ≤ w.heap.size) → (∀ i ∈ T, ∀ k ∈ T, i ≠ k → hi i ≤ lo k ∨ hi k ≤ lo i) →
      anyS P ops Q S z fuel (markAll listed0 T) (over ops vs T a0) w) :
    ∀ (m : Nat) (D : List Nat) (vs : Nat → Value) (lo hi : Nat → Nat) (listed : Array Bool) (a : Act) (w : World), D.length + m = T.length →
      FreshInv ops S G listed0 T a0 w0 D vs lo hi listed a w → anyS P ops Q S z (fuel + m) listed a w := by
  have hdist : ∀ t, ∀ i ∈ T, ∀ j ∈ T, dstOf ops i = some t → dstOf ops j = some t → i = j := by
    intro t i hi j hj h1 h2
    by_cases hij : i = j
    · exact hij
    · obtain ⟨o, d, ho, hd, _, _, _, _, _, hk⟩ := F.op j hj
      obtain ⟨e, he, hed, _⟩ := hk i hi hij
      have : dstOf ops j = some d := by simp [dstOf, ho, hd]
      rw [this] at h2
      rw [he] at h1
      cases h1; cases h2
      exact absurd rfl hed
  have hdist' : ∀ i ∈ T, ∀ j ∈ T, i ≠ j → dstOf ops i ≠ dstOf ops j ∨ dstOf ops i = none := by
    intro i hi j hj hij
    cases h : dstOf ops i with
    | none => exact .inr rfl
    | some t => exact .inl fun e => hij (hdist t i hi j hj h e.symm)
  intro m
  induction m with
  | zero =>
    intro D vs lo hi listed a w hlen I
    have hall : ∀ t ∈ T, t ∈ D := by
      intro t ht
      by_cases htD : t ∈ D
      · exact htD
      · exfalso
        have hsub : (t :: D).Nodup := List.nodup_cons.2 ⟨htD, I.nodup⟩
        have := List.Nodup.length_le_of_subset hsub (l₂ := T) (fun x hx => by
          rcases List.mem_cons.1 hx with rfl | hx
          · exact ht
          · exact I.sub x hx)
        simp only [List.length_cons] at this
        omega
    have ea : a = over ops vs T a0 := by
      have h1 : a.tmps = (over ops vs T a0).tmps := by
        apply Array.ext_getElem?
        intro k
        rw [I.slots k, over_get vs k T a0 hdist' F.nodup]
        exact slotBy_agree I.sub (hdist k) (fun x hx _ => hall x hx)
      have h2 : a.defers = (over ops vs T a0).defers := by rw [I.defers, over_defers]
      cases a; cases hov : over ops vs T a0; rw [hov] at h1 h2; simp only at h1 h2; rw [h1, h2]
    have el : listed = markAll listed0 T := by
      apply Array.ext
      · rw [markAll_size, I.size, F.size]
      · intro j h1 h2
        have h3 := I.marks j (by rw [← I.size]; exact h1)
        have h4 := markAll_get (l := listed0) j T (by rw [F.size, ← I.size]; exact h1)
        have h5 : D.contains j = T.contains j := by
          rw [Bool.eq_iff_iff]; simp only [List.contains_eq_mem, decide_eq_true_eq]
          exact ⟨I.sub j, hall j⟩
        rw [h5, ← h4] at h3
        simpa [h1, h2] using h3
    rw [ea, el]
    exact hfin vs lo hi w I.S I.ext (fun k hk => I.held k (hall k hk)) (fun i hi' k hk => I.apart i (hall i hi') k (hall k hk))
  | succ m ih =>
    intro D vs lo hi listed a w hlen I
    have hex : ∃ t ∈ T, t ∉ D := by
      refine Classical.byContradiction fun hno => ?_
      have hall : ∀ t ∈ T, t ∈ D := fun t ht => Classical.byContradiction fun h => hno ⟨t, ht, h⟩
      have := List.Nodup.length_le_of_subset F.nodup (l₂ := D) hall
      omega
    have up : ∀ j, listed0.getD j false = true → listed.getD j false = true := by
      intro j hj
      have hlt : j < ops.size := by
        rw [← F.size]
        exact Classical.byContradiction fun h => by simp [Array.getElem?_eq_none (Nat.le_of_not_lt h)] at hj
      rw [I.marks j hlt, hj]; rfl
    have upD : ∀ j ∈ D, listed.getD j false = true := by
      intro j hj
      obtain ⟨o, _, ho, _⟩ := F.op j (I.sub j hj)
      rw [I.marks j (Array.getElem?_eq_some_iff.1 ho).1]
      simp [hj]
    have undone : ∀ t ∈ T, t ∉ D → listed.getD t true = false := by
      intro t ht htD
      obtain ⟨o, _, ho, _, _, _, _, _, h0, _⟩ := F.op t ht
      have hlt := (Array.getElem?_eq_some_iff.1 ho).1
      have h1 := I.marks t hlt
      have h0' : listed0.getD t false = false := by
        have : t < listed0.size := by rw [F.size]; exact hlt
        simpa [this] using h0
      rw [h0'] at h1
      have : t < listed.size := by rw [I.size]; exact hlt
      simpa [this, htD] using h1
    obtain ⟨t0, ht0, ht0D, o0, ho0, hall0⟩ := topo_next F.topo D listed up upD hex
    have hne : Region.ready .any ops listed ≠ [] := by
      intro h
      have : t0 ∈ Region.ready .any ops listed := mem_ready.2 ⟨undone t0 ht0 ht0D, o0, ho0, hall0⟩
      rw [h] at this
      cases this
    refine ⟨fun h => absurd h hne, fun i hir => ?_⟩
    obtain ⟨hun, o, ho, hafter⟩ := mem_ready.1 hir
    have hlt := (Array.getElem?_eq_some_iff.1 ho).1
    have hiT : i ∈ T := by
      rcases F.rest i hlt with h | h | h
      · exact h
      · exfalso
        have h' : listed0.getD i false = true := by
          have : i < listed0.size := by rw [F.size]; exact hlt
          simpa [this] using h
        have h2 := up i h'
        have : i < listed.size := by rw [I.size]; exact hlt
        simp [this] at h2 hun
        rw [h2] at hun; cases hun
      · exfalso
        have h1 := waits_listed I.closed ops.size i o ho hafter t0 (h t0 ht0)
        have h2 := undone t0 ht0 ht0D
        obtain ⟨_, _, hot, _⟩ := F.op t0 ht0
        have : t0 < listed.size := by rw [I.size]; exact (Array.getElem?_eq_some_iff.1 hot).1
        simp [this] at h1 h2
        rw [h1] at h2; cases h2
    have hiD : i ∉ D := by
      intro h
      have h1 := upD i h
      have : i < listed.size := by rw [I.size]; exact hlt
      simp [this] at h1 hun
      rw [h1] at hun; cases hun
    obtain ⟨o', d, ho', hd, hdn, hdl, hg, hsel, _, hk⟩ := F.op i hiT
    obtain rfl : o = o' := Option.some.inj (ho.symm.trans ho')
    have hid : dstOf ops i = some d := by simp [dstOf, ho, hd]
    -- a slot that o looks at holds what 'over' says
    have same : ∀ t, t ∈ o.looksAt ops → a.tmps[t]? = (over ops vs T a0).tmps[t]? := by
      intro t ht
      rw [I.slots t, over_get vs t T a0 hdist' F.nodup]
      refine slotBy_agree I.sub (hdist t) (fun k hkT hkt => ?_)
      by_cases hki : k = i
      · subst hki
        rw [hid] at hkt; cases hkt
        exact absurd ht hdl
      · obtain ⟨e, he, _, hl⟩ := hk k hkT hki
        rw [hkt] at he; cases he
        obtain ⟨x, hx, hxb, hxk⟩ := hl ht
        have := hafter x hx hxb
        rw [hxk] at this
        exact Classical.byContradiction fun hkD => by
          have h2 := undone k hkT hkD
          obtain ⟨_, _, hot, _⟩ := F.op k hkT
          have h3 : k < listed.size := by rw [I.size]; exact (Array.getElem?_eq_some_iff.1 hot).1
          simp [h3] at this h2
          rw [this] at h2; cases h2
    have heval : execOp (over ops vs T a0).eval o = execOp a.eval o := execOp_congr o hsel fun x hx => by
      cases x with
      | tmp t =>
        have := same t (List.mem_append_left _ (List.mem_filterMap.2 ⟨.tmp t, by simpa using hx, rfl⟩))
        simp [Act.eval, Array.getD_eq_getD_getElem?, this]
      | _ => rfl
    have hst := hstep i o hiT ho vs w lo hi I.S I.ext (fun k hkT e he hel => by
      by_cases hki : k = i
      · subst hki
        rw [hid] at he; cases he
        exact absurd hel hdl
      · obtain ⟨e', he', _, hl⟩ := hk k hkT hki
        rw [he] at he'; cases he'
        obtain ⟨x, hx, hxb, hxk⟩ := hl hel
        have := hafter x hx hxb
        rw [hxk] at this
        have hkD : k ∈ D := Classical.byContradiction fun hkD => by
          have h2 := undone k hkT hkD
          obtain ⟨_, _, hot, _⟩ := F.op k hkT
          have h3 : k < listed.size := by rw [I.size]; exact (Array.getElem?_eq_some_iff.1 hot).1
          simp [h3] at this h2
          rw [this] at h2; cases h2
        exact (I.held k hkD).1)
    have hput : ∀ (b : Act) (v u : Value), b.tmps.size = n → b.put o.dst v = b.put o.dst u → v = u := by
      intro b v u hb h
      have h1 : (b.put o.dst v).tmps[d]? = (b.put o.dst u).tmps[d]? := by rw [h]
      rw [put_get, put_get, if_pos ⟨hd, by rw [hb]; exact hdn⟩, if_pos ⟨hd, by rw [hb]; exact hdn⟩] at h1
      exact Option.some.inj h1
    have hov : (over ops vs T a0).tmps.size = n := by rw [over_size]; exact hn
    have hwp : o.wp P a w (fun a' w' => ∃ v, a' = a.put o.dst v ∧ G i w.heap.size w'.heap.size v w' ∧ Ext w w') Q ∨ (o.asks P a w ∧ LetsOut Q) := by
      refine hst.imp (fun hst => ?_) (fun h => ⟨by unfold Oper.asks at *; rw [← heval]; exact h.1, h.2⟩)
      refine wp_carry (a := over ops vs T a0) heval hP (fun v w' h => ?_) (fun dd w' h => ?_) hst
      · obtain ⟨u, hu, h2⟩ := h
        obtain rfl := hput _ _ _ hov hu
        exact ⟨v, rfl, h2⟩
      · obtain ⟨u, hu, _⟩ := h
        have : ({ over ops vs T a0 with defers := dd :: (over ops vs T a0).defers }.put o.dst undef).defers = ((over ops vs T a0).put o.dst u).defers := by rw [hu]
        rw [hd] at this
        simp [Act.put] at this
    unfold wpOp
    rw [ho]
    simp only
    rw [if_pos (by simp [Region.wanted, hg])]
    refine hwp.imp (fun hwp => Oper.wp_mono (fun a' w' h => ?_) hwp) id
    obtain ⟨v, rfl, hG, hE⟩ := h
    have hS' := hSm _ _ I.S hE
    refine ⟨fun _ => hS', ?_⟩
    refine ih (i :: D) (fun j => if j = i then v else vs j) (fun j => if j = i then w.heap.size else lo j) (fun j => if j = i then w'.heap.size else hi j) _ _ w' (by simp only [List.length_cons]; omega) ?_
    refine ⟨fun x hx => ?_, List.nodup_cons.2 ⟨hiD, I.nodup⟩, by simp [I.size], fun j hj => ?_, fun j oj hoj hl e he hb => ?_, ?_, by rw [put_size]; exact I.tmps, fun k => ?_, fun k hk' => ?_, fun x hx y hy hxy => ?_, I.ext.trans hE, hS'⟩
    · rcases List.mem_cons.1 hx with rfl | hx
      · exact hiT
      · exact I.sub x hx
    · by_cases hij : i = j
      · subst hij
        have : i < listed.size := by rw [I.size]; exact hlt
        simp [this]
      · rw [getD_set_ne false hij, I.marks j hj]
        simp [Ne.symm hij]
    · by_cases hij : i = j
      · subst hij
        obtain rfl : o = oj := Option.some.inj (ho.symm.trans hoj)
        exact getD_set_true (hafter e he hb)
      · rw [getD_set_ne false hij] at hl
        exact getD_set_true (I.closed j oj hoj hl e he hb)
    · rw [hd]; exact I.defers
    · rw [put_get, hd]
      by_cases hdk : d = k
      · subst hdk
        unfold slotBy
        rw [List.find?_cons, show (dstOf ops i == some d) = true by simp [hid]]
        simp only [true_and, if_true]
        rw [I.tmps]
        by_cases hlt2 : d < a0.tmps.size
        · rw [if_pos hlt2, if_pos hlt2]
        · rw [hn] at hlt2; exact absurd hdn hlt2
      · rw [if_neg (fun h => hdk (Option.some.inj h.1)), I.slots k]
        unfold slotBy
        rw [List.find?_cons, show (dstOf ops i == some k) = false by simp [hid, hdk]]
        cases hf : D.find? (fun i => dstOf ops i == some k) with
        | none => rfl
        | some j =>
          have hji : j ≠ i := fun e => hiD (e ▸ List.mem_of_find?_eq_some hf)
          simp [hji]
    · rcases List.mem_cons.1 hk' with rfl | hk'
      · simp only [if_true]
        exact ⟨hG, I.ext.size, Nat.le_refl _⟩
      · have hki : k ≠ i := fun e => hiD (e ▸ hk')
        simp only [hki, if_false]
        have := I.held k hk'
        exact ⟨hGm _ _ _ _ _ _ this.1 hE, this.2.1, Nat.le_trans this.2.2 hE.size⟩
    · rcases List.mem_cons.1 hx with hxi | hxD
      · subst hxi
        rcases List.mem_cons.1 hy with hyx | hyD
        · exact absurd hyx.symm hxy
        · have hyi : y ≠ x := Ne.symm hxy
          simp only [if_true, hyi, if_false]
          exact .inr (I.held y hyD).2.2
      · have hxi : x ≠ i := fun e => hiD (e ▸ hxD)
        rcases List.mem_cons.1 hy with hyi | hyD
        · subst hyi
          simp only [if_true, hxi, if_false]
          exact .inl (I.held x hxD).2.2
        · have hyi : y ≠ i := fun e => hiD (e ▸ hyD)
          simp only [hxi, hyi, if_false]
          exact I.apart x hxD y hyD hxy

/-- The same by the slots' numbers. -/
def puts (vs : Nat → Value) : List (Nat × Tmp) → Act → Act
  | [], a => a
  | p :: r, a => puts vs r (a.put (some p.2) (vs p.1))

theorem over_eq_puts (vs : Nat → Value) : ∀ (TS : List (Nat × Tmp)) (a : Act), (∀ p ∈ TS, dstOf ops p.1 = some p.2) → over ops vs (TS.map (·.1)) a = puts vs TS a
  | [], _, _ => rfl
  | p :: r, a, h => by
    simp only [List.map_cons, over, puts]
    rw [show (ops[p.1]?).bind (·.dst) = some p.2 from h p (List.mem_cons_self ..)]
    exact over_eq_puts vs r _ (fun q hq => h q (List.mem_cons_of_mem _ hq))

theorem wp_of_list {o : Oper} {K : Act → World → Prop} {a : Act} {w : World} (hg : o.guard = none) (h : wpList P ops (Exit.then K Q) [o] a w) : o.wp P a w K Q ∨ (o.asks P a w ∧ LetsOut Q) := by
  unfold wpList at h
  rw [if_pos (by simp [Region.wanted, hg])] at h
  refine h.imp (fun h1 => ?_) (fun h1 => ⟨h1.1, h1.2⟩)
  unfold Oper.wp at *
  generalize (execOp a.eval o).run P w = x at *
  cases x with
  | ok n w1 =>
    cases n <;> simp only [Oper.upon] at h1 ⊢ <;> first
      | exact h1
      | exact Calls.mono h1 (fun e w'' he => by cases e <;> exact he)
      | exact Rows.mono h1 (fun _ _ he => he)
  | halt y w1 => cases y <;> simp only [Oper.upon] at h1 ⊢ <;> exact h1

/-- What is asked where the fresh operations begin. -/
def FreshAt (P : Program) (ops : Array Oper) (Q : Exit → Act → World → Prop) (S : World → Prop) (z : Nat) (G : Nat → Nat → Nat → Value → World → Prop) (TS : List (Nat × Tmp)) (plan2 : List (Nat × Bool)) (n : Nat) (a1 : Act) (w1 : World) : Prop :=
  a1.tmps.size = n ∧
  (∀ p ∈ TS, ∀ o, ops[p.1]? = some o → ∀ (vs : Nat → Value) (w : World) (lo hi : Nat → Nat), S w → Ext w1 w → (∀ k ∈ TS, k.2 ∈ o.looksAt ops → G k.1 (lo k.1) (hi k.1) (vs k.1) w) →
    ∀ K : Act → World → Prop, (∀ v w', G p.1 w.heap.size w'.heap.size v w' → Ext w w' → K ((puts vs TS a1).put (some p.2) v) w') → wpList P ops (Exit.then K Q) [o] (puts vs TS a1) w) ∧
  (∀ (vs : Nat → Value) (lo hi : Nat → Nat) (w : World), S w → Ext w1 w → (∀ k ∈ TS, G k.1 (lo k.1) (hi k.1) (vs k.1) w ∧ w1.heap.size ≤ lo k.1 ∧ hi k.1 ≤ w.heap.size) →
    (∀ i ∈ TS, ∀ k ∈ TS, i.1 ≠ k.1 → hi i.1 ≤ lo k.1 ∨ hi k.1 ≤ lo i.1) → wpPlan P ops Q S z (Q .normal) plan2 (puts vs TS a1) w)

def freshRegion (ops : Array Oper) (z : Nat) (plan1 : List (Nat × Bool)) (TS : List (Nat × Tmp)) (plan2 : List (Nat × Bool)) (n : Nat) : Bool :=
  match planGo ops z (Array.replicate ops.size false) plan1 with
  | some l1 => freshOK ops l1 n (TS.map (·.1)) && planOK ops z (markAll l1 (TS.map (·.1))) plan2 && (TS.all fun p => dstOf ops p.1 == some p.2) && decide (plan1.length + TS.length + plan2.length = ops.size) && lastOK ops z && !l1.getD z false
  | none => false

theorem wp_region_fresh {id : Nat} {l : List Oper} {a : Act} {w : World} (S : World → Prop) (z : Nat) (G : Nat → Nat → Nat → Value → World → Prop) (plan1 : List (Nat × Bool)) (TS : List (Nat × Tmp)) (plan2 : List (Nat × Bool)) (n : Nat)
    (hm : P.follows .mixedOrders = true) (hs : Region.noSelect l.toArray = true) (hp : freshRegion l.toArray z plan1 TS plan2 n = true) (hS : S w.drew)
    (hSm : ∀ w w', S w → Ext w w' → S w') (hGm : ∀ i lo hi v w w', G i lo hi v w → Ext w w' → G i lo hi v w')
    (h : wpPlan P l.toArray (NoPanic Q) S z (FreshAt P l.toArray (NoPanic Q) S z G TS plan2 n) plan1 a w.drew) : (Code.region id l.toArray true).wp P Q a w := by
  unfold freshRegion at hp
  split at hp
  · rename_i l1 hl1
    simp only [Bool.and_eq_true, decide_eq_true_eq, List.all_eq_true, beq_iff_eq, Bool.not_eq_true'] at hp
    obtain ⟨⟨⟨⟨⟨hf, hp2⟩, hd⟩, hlen⟩, hz⟩, hzl⟩ := hp
    have F := freshOK_spec hf
    refine wp_region_noPanic (wp_region_any hm (any_of_anyS (S := S) (z := z) _ _ _ _ ?_))
    have key := held_of_plan (P := P) (Q := NoPanic Q) (S := S) (C := FreshAt P l.toArray (NoPanic Q) S z G TS plan2 n) hs hz (fun c a d v w h => h.elim) l1 (plan2.length + TS.length) (fun a1 w1 hS1 hC => ?_) plan1 _ a w.drew hl1 (by simp) (fun _ => hS) h
    · rw [show plan2.length + TS.length + plan1.length = l.toArray.size by omega] at key
      exact key
    · have hS1' : S w1 := hS1 (by rw [hzl]; simp)
      obtain ⟨hn, hst, hfin⟩ := hC
      have hT : TS.length = (TS.map (·.1)).length := by simp
      rw [hT]
      have hdst : ∀ p ∈ TS, dstOf l.toArray p.1 = some p.2 := hd
      refine fresh_phase (Q := NoPanic Q) (w0 := w1) F (fun c a w h => h) hn hSm hGm (fun i o hi ho vs w lo hi' hSw hE hdep => ?_) plan2.length (fun vs lo hi w hSw hE hall hap => ?_) (TS.map (·.1)).length [] (fun _ => undef) (fun _ => 0) (fun _ => 0) l1 a1 w1 (by simp) ?_
      · obtain ⟨p, hpT, rfl⟩ := List.mem_map.1 hi
        obtain ⟨o', d, ho', hod, _, _, hg, _⟩ := F.op p.1 hi
        obtain rfl : o = o' := Option.some.inj (ho.symm.trans ho')
        have hd2 : o.dst = some p.2 := by
          have := hdst p hpT
          simp only [dstOf, ho, Option.bind_some] at this
          exact this
        rw [over_eq_puts vs TS a1 hdst]
        refine wp_of_list hg (hst p hpT o ho vs w lo hi' hSw hE (fun k hk hkl => hdep k.1 (List.mem_map.2 ⟨k, hk, rfl⟩) k.2 (hdst k hk) hkl) _ (fun v w' hG hE' => ?_))
        rw [hd2]
        exact ⟨v, rfl, hG, hE'⟩
      · rw [over_eq_puts vs TS a1 hdst]
        have hw := hfin vs lo hi w hSw hE (fun k hk => hall k.1 (List.mem_map.2 ⟨k, hk, rfl⟩)) (fun i hi k hk hne => hap i.1 (List.mem_map.2 ⟨i, hi, rfl⟩) k.1 (List.mem_map.2 ⟨k, hk, rfl⟩) hne)
        unfold planOK at hp2
        split at hp2
        · rename_i l2 hl2
          have := held_of_plan (P := P) (Q := NoPanic Q) (S := S) (C := NoPanic Q .normal) hs hz (fun c a d v w h => h.elim) l2 0 (fun a w _ h => anyS_done (by simpa using hp2) h 0) plan2 _ _ w hl2 (by rw [markAll_size, F.size]) (fun _ => hSw) hw
          rw [Nat.zero_add] at this
          exact this
        · cases hp2
      · exact ⟨(fun x hx => by cases hx), List.nodup_nil, F.size, (fun j hj => by simp), F.closed, rfl, rfl, (fun k => rfl), (fun k hk => by cases hk), (fun i hi => by cases hi), Ext.refl _, hS1'⟩
  · cases hp

theorem plan_nil {a : Act} {w : World} (h : C a w) : wpPlan P ops Q S z C [] a w := h

theorem fresh_at {G : Nat → Nat → Nat → Value → World → Prop} {TS : List (Nat × Tmp)} {plan2 : List (Nat × Bool)} {n : Nat} {a1 : Act} {w1 : World} (hn : a1.tmps.size = n)
    (h : ∀ p ∈ TS, ∀ o, ops[p.1]? = some o → ∀ (vs : Nat → Value) (w : World) (lo hi : Nat → Nat), S w → Ext w1 w → (∀ k ∈ TS, k.2 ∈ o.looksAt ops → G k.1 (lo k.1) (hi k.1) (vs k.1) w) →
      ∀ K : Act → World → Prop, (∀ v w', G p.1 w.heap.size w'.heap.size v w' → Ext w w' → K ((puts vs TS a1).put (some p.2) v) w') → wpList P ops (Exit.then K Q) [o] (puts vs TS a1) w)
    (hfin : ∀ (vs : Nat → Value) (lo hi : Nat → Nat) (w : World), S w → Ext w1 w → (∀ k ∈ TS, G k.1 (lo k.1) (hi k.1) (vs k.1) w ∧ w1.heap.size ≤ lo k.1 ∧ hi k.1 ≤ w.heap.size) →
      (∀ i ∈ TS, ∀ k ∈ TS, i.1 ≠ k.1 → hi i.1 ≤ lo k.1 ∨ hi k.1 ≤ lo i.1) → wpPlan P ops Q S z (Q .normal) plan2 (puts vs TS a1) w) : FreshAt P ops Q S z G TS plan2 n a1 w1 := ⟨hn, h, hfin⟩

theorem plan_done {a : Act} {w : World} (h : Q .normal a w) : wpPlan P ops (NoPanic Q) S z (NoPanic Q .normal) [] a w := h

/-! ### For the hand: segments by the operations' numbers -/
def pick (L : List Oper) (is : List Nat) : List Oper := is.filterMap (L[·]?)

theorem seg_pick {L : List Oper} {wx : World} {A : Act} {i : Nat} {is : List Nat} {o : Oper} {a : Act} (ho : L[i]? = some o)
    (h : ∀ K : Act → World → Prop, (∀ a' w', Seg P L.toArray wx A (pick L is) a' w' → K a' w') → wpList P L.toArray (Exit.then K noEnd) [o] a wx) : Seg P L.toArray wx A (pick L (i :: is)) a wx := by
  have e : pick L (i :: is) = o :: pick L is := by simp [pick, ho]
  rw [e]
  exact seg_cons h

theorem plan_seg {L : List Oper} {A : Act} {a : Act} {w : World} (n : Nat) (ps : List Nat) (rest : List (Nat × Bool)) (hb : ps.all (decide <| · < L.length) = true)
    (hs : segOK n (pick L ps) = true) (hn : a.tmps.size = n) (hS : S w) (h : ∀ wx, S wx → Seg P L.toArray wx A (pick L ps) a wx)
    (hrest : wpPlan P L.toArray Q S z C rest A w) : wpPlan P L.toArray Q S z C (ps.map (·, true) ++ rest) a w := by
  refine plan_of_seg hS rest hrest ps (pick L ps) a ?_ hs hn h
  clear h hs hrest
  induction ps with
  | nil => rfl
  | cons i is ih =>
    simp only [List.all_cons, Bool.and_eq_true, decide_eq_true_eq] at hb
    have := ih hb.2
    have e : pick L (i :: is) = L[i] :: pick L is := by simp [pick, hb.1]
    rw [e]
    simp only [List.map_cons]
    rw [this]
    simp [hb.1]

end
end Go.Plan

/- The deferred closures of compose where the caller returns; rows that the call made. -/
namespace Go.Proofs.Ytnnobdcbmagbaaa
open Go.RowKit

theorem idle45 (p q : Addr) (w : World) : CallsD Try.prog 45 #[.pointer (some p), .pointer (some q)] .returning w fun e u' w' => e = .returned (.tuple #[]) ∧ u' = .returning ∧ w' = w := by
  refine callsD_of_wpS Try.func45 rfl fun c₀ cs hu => ?_
  apply wpS_seq
  apply wpS_region
  simp [wpOpsS, go_sem, recoverD, hu, Try.ntmps45, Exit.thenS]
  refine wpS_cond (t := false) (by simp [Act.eval, Array.replicate]) ?_
  simp only [Bool.false_eq_true, if_false]
  refine wpS_of_wp (wp_skip ?_)
  cases c₀
  simp_all [bodyPostS, results, Try.results45]

theorem idle51 (p q : Addr) (w : World) : CallsD Try.prog 51 #[.pointer (some p), .pointer (some q)] .returning w fun e u' w' => e = .returned (.tuple #[]) ∧ u' = .returning ∧ w' = w := by
  refine callsD_of_wpS Try.func51 rfl fun c₀ cs hu => ?_
  apply wpS_seq
  apply wpS_region
  simp [wpOpsS, go_sem, recoverD, hu, Try.ntmps51, Exit.thenS]
  refine wpS_cond (t := false) (by simp [Act.eval, Array.replicate]) ?_
  simp only [Bool.false_eq_true, if_false]
  refine wpS_of_wp (wp_skip ?_)
  cases c₀
  simp_all [bodyPostS, results, Try.results51]

theorem idle54 (p q : Addr) (w : World) : CallsD Try.prog 54 #[.pointer (some p), .pointer (some q)] .returning w fun e u' w' => e = .returned (.tuple #[]) ∧ u' = .returning ∧ w' = w := by
  refine callsD_of_wpS Try.func54 rfl fun c₀ cs hu => ?_
  apply wpS_seq
  apply wpS_region
  simp [wpOpsS, go_sem, recoverD, hu, Try.ntmps54, Exit.thenS]
  refine wpS_cond (t := false) (by simp [Act.eval, Array.replicate]) ?_
  simp only [Bool.false_eq_true, if_false]
  refine wpS_of_wp (wp_skip ?_)
  cases c₀
  simp_all [bodyPostS, results, Try.results54]

theorem idle56 (p q : Addr) (w : World) : CallsD Try.prog 56 #[.pointer (some p), .pointer (some q)] .returning w fun e u' w' => e = .returned (.tuple #[]) ∧ u' = .returning ∧ w' = w := by
  refine callsD_of_wpS Try.func56 rfl fun c₀ cs hu => ?_
  apply wpS_seq
  apply wpS_region
  simp [wpOpsS, go_sem, recoverD, hu, Try.ntmps56, Exit.thenS]
  refine wpS_cond (t := false) (by simp [Act.eval, Array.replicate]) ?_
  simp only [Bool.false_eq_true, if_false]
  refine wpS_of_wp (wp_skip ?_)
  cases c₀
  simp_all [bodyPostS, results, Try.results56]

theorem idle62 (p q : Addr) (w : World) : CallsD Try.prog 62 #[.pointer (some p), .pointer (some q)] .returning w fun e u' w' => e = .returned (.tuple #[]) ∧ u' = .returning ∧ w' = w := by
  refine callsD_of_wpS Try.func62 rfl fun c₀ cs hu => ?_
  apply wpS_seq
  apply wpS_region
  simp [wpOpsS, go_sem, recoverD, hu, Try.ntmps62, Exit.thenS]
  refine wpS_cond (t := false) (by simp [Act.eval, Array.replicate]) ?_
  simp only [Bool.false_eq_true, if_false]
  refine wpS_of_wp (wp_skip ?_)
  cases c₀
  simp_all [bodyPostS, results, Try.results62]

/-! Rows of bytes that the call made: the row's cells as a function. -/
def Row (w : World) (B : Nat) (g n c : Nat) (F : Nat → Int) : Prop := w.ownsRow B 5 1 (.slice (some ⟨g, 0, none⟩) n c) n ((List.range n).map fun i => .int .u8 (F i))

theorem Row.cell {w : World} {B g n c : Nat} {F : Nat → Int} (h : Row w B g n c F) (k : Nat) (hk : k < n) : w.cell? ⟨g, k, none⟩ = some (.int .u8 (F k)) := by
  rw [World.ownsRow.cellAt h k (by omega), List.getElem?_map, List.getElem?_range hk]; rfl

theorem Row.store {w : World} {B g n c : Nat} {F F' : Nat → Int} (h : Row w B g n c F) (k : Nat) {u : Int} (hu : F' k = u) (ho : ∀ i, i < n → i ≠ k → F' i = F i) :
    Row (w.setCell ⟨g, k, none⟩ (.int .u8 u)) B g n c F' := by
  have h1 := (World.ownsRow.stored h k (.int .u8 u)).1
  have e : ((List.range n).map fun i => Value.int .u8 (F i)).set k (.int .u8 u) = (List.range n).map fun i => Value.int .u8 (F' i) := by
    apply List.ext_getElem?
    intro i
    by_cases hi : i < n
    · by_cases hik : i = k
      · subst hik; simp [hi, hu]
      · simp [Ne.symm hik, hi, ho i hi hik]
    · simp [hi]
  rw [e] at h1
  exact h1

theorem Row.of_made {w : World} {B g n c : Nat} (h : w.ownsRow B 5 1 (.slice (some ⟨g, 0, none⟩) n c) n (madeCells #[.int .u8 0] n).toList) : Row w B g n c (fun _ => 0) := by
  rw [toList_madeCells_one] at h
  have e : List.replicate n (Value.int .u8 0) = (List.range n).map fun _ => Value.int .u8 0 := by
    apply List.ext_getElem?
    intro i
    by_cases hi : i < n <;> simp [hi]
  rw [e] at h
  exact h

theorem Row.congr {w : World} {B g n c : Nat} {F F' : Nat → Int} (h : Row w B g n c F) (e : ∀ i, i < n → F i = F' i) : Row w B g n c F' := by
  have : ((List.range n).map fun i => Value.int .u8 (F i)) = (List.range n).map fun i => Value.int .u8 (F' i) :=
    List.map_congr_left fun i hi => by rw [e i (List.mem_range.1 hi)]
  unfold Row at *
  rw [← this]
  exact h

theorem Row.le {w : World} {B g n c : Nat} {F : Nat → Int} (h : Row w B g n c F) : B ≤ g ∧ g < w.heap.size ∧ n ≤ c := by
  have h1 := World.ownsRow.lt h g rfl
  rcases h.2 with ⟨h', _⟩ | ⟨g', cap', cur, h', _, _, hnc, _⟩
  · simp at h'
  · simp only [Value.slice.injEq, Option.some.injEq, Addr.mk.injEq, and_true, true_and] at h'
    exact ⟨h1.1, h1.2, by omega⟩

theorem Row.BA {w : World} {B g n c : Nat} {F : Nat → Int} (h : Row w B g n c F) (hb : ∀ i, i < n → 0 ≤ F i ∧ F i < 256) : BA w (.slice (some ⟨g, 0, none⟩) n c) n F :=
  BA.mk h.le.2.2 (fun i hi => by simpa using h.cell i hi) hb

theorem Row.below {w w' : World} {B g n c : Nat} {F : Nat → Int} (h : Row w B g n c F) (hb : Below w.heap.size w w') : Row w' B g n c F := by
  have hl := h.le
  refine ⟨h.1, ?_⟩
  rcases h.2 with ⟨h', _⟩ | ⟨g', cap', cur, h', h1, h2, h3⟩
  · simp at h'
  · simp only [Value.slice.injEq, Option.some.injEq, Addr.mk.injEq, and_true, true_and] at h'
    obtain ⟨rfl, rfl⟩ := h'
    exact .inr ⟨g, c, cur, rfl, h1, by rw [hb.block g hl.2.1]; exact h2, h3⟩

theorem Row.mono {w : World} {B B' g n c : Nat} {F : Nat → Int} (h : Row w B g n c F) (hB : B' ≤ B) : Row w B' g n c F := by
  refine ⟨h.1, ?_⟩
  rcases h.2 with h' | ⟨g', cap', cur, h', h1, h2⟩
  · exact .inl h'
  · exact .inr ⟨g', cap', cur, h', Nat.le_trans hB h1, h2⟩

theorem Row.far {w : World} {B g n c : Nat} {F : Nat → Int} (h : Row w B g n c F) {p : Addr} (hp : p.block ≠ g) (u : Value) : Row (w.setCell p u) B g n c F := by
  refine ⟨h.1, ?_⟩
  rcases h.2 with ⟨h', _⟩ | ⟨g', cap', cur, h', h1, h2, h3⟩
  · simp at h'
  · simp only [Value.slice.injEq, Option.some.injEq, Addr.mk.injEq, and_true, true_and] at h'
    obtain ⟨rfl, rfl⟩ := h'
    exact .inr ⟨g, c, cur, rfl, h1, by rw [Below.heap_setCell _ _ _ _ (Ne.symm hp)]; exact h2, h3⟩

end Go.Proofs.Ytnnobdcbmagbaaa

/- The contracts of flat and of Mix's blend. -/
namespace Go.Proofs.Ytnnobdcbmagbaaa
open Go.RowKit

theorem ite_iff {α : Type} {c d : Prop} [Decidable c] [Decidable d] (h : c ↔ d) {a b : α} : (if c then a else b) = if d then a else b := by by_cases hd : d <;> simp [h, hd]

def blend1 (num den x y : Int) : Int := ((x * (den - num) + y * num + den / 2) / den) % 256
theorem blend1_lt (num den x y : Int) : 0 ≤ blend1 num den x y ∧ blend1 num den x y < 256 := by unfold blend1; omega
def mixF (num den : Int) (X Y : Nat → Int) (i : Nat) : Int := blend1 num den (X i) (Y i)

theorem blend_bd {x y num den : Int} (hx0 : 0 ≤ x) (hx : x < 256) (hy0 : 0 ≤ y) (hy : y < 256) (hd1 : 1 ≤ den) (hd2 : den ≤ 2147483648) (hn1 : 0 ≤ num) (hn2 : num ≤ den) :
    0 ≤ x * (den - num) ∧ x * (den - num) ≤ 255 * 2147483648 ∧ 0 ≤ y * num ∧ y * num ≤ 255 * 2147483648 := by
  have h1 : 0 ≤ x * (den - num) := Int.mul_nonneg hx0 (by omega)
  have h2 : x * (den - num) ≤ 255 * 2147483648 := Int.mul_le_mul (by omega) (by omega) (by omega) (by omega)
  have h3 : 0 ≤ y * num := Int.mul_nonneg hy0 hn1
  have h4 : y * num ≤ 255 * 2147483648 := Int.mul_le_mul (by omega) (by omega) (by omega) (by omega)
  exact ⟨h1, h2, h3, h4⟩

set_option maxHeartbeats 400000 in
theorem flat_any (n : Nat) (s : Int) (w : World) (hn : n ≤ 4096) :
    Calls Try.prog 40 #[.int .i64 n, .int .u8 s] w fun e w' => ∃ g, e = .returned (.slice (some ⟨g, 0, none⟩) n n) ∧ Row w' w.heap.size g n n (fun _ => s) ∧ Below w.heap.size w w' := by
  obtain ⟨i0, hi, hz0, hz1, hz2⟩ := info_parts info5
  go_enter Try.func40, Try.ntmps40
  go_wp2_with (at_make; refine wpList_make_full _ rfl _ _ 24 rfl w.heap.size 5 i0 (.int .u8 0) 1 Try.underlying24 hi hz0 hz1 _ _ _ _ n rfl rfl rfl rfl ?_ ?_ (Nat.le_refl _) ?_)
  · rw [hz2]; omega
  · unfold maxLen; omega
  · intro w1 hown hg
    have hr := Row.of_made hown
    have hb1 : Below w.heap.size w w1 := (Below.refl _ _).grown hg (Nat.le_refl _) (fun k h => by cases h)
    clear hg hown
    go_wp2
    go_loopw [11] (fun i wr => ∃ k : Nat, k ≤ n ∧ i = .int .i64 k ∧ Row wr w.heap.size w.heap.size n n (fun i => if i < k then s else 0) ∧ Below w.heap.size w wr) (fun i _ => n - (intOf i).toNat)
    case atStart => exact ⟨0, Nat.zero_le _, rfl, by simpa using hr, hb1⟩
    case round =>
      obtain ⟨k, hk, rfl, ho, hb⟩ := hrel
      by_cases hlt : k < n
      · have hc := ho.cell k hlt
        have hf := World.ownsRow.frozenAt ho k
        have HO := Lib.hid ho
        clear ho hr hb1
        go_wp2
        go_roundw
        case rel => exact ⟨k+1, by omega, by go_num, HO.out.store k (by simp) (fun i _ hik => ite_iff (by omega)), hb.setCell (Nat.le_refl _) _⟩
        case measure => simp [intOf]; omega
      · obtain rfl : k = n := by omega
        have HO := Lib.hid (ho.congr (F' := fun _ => s) (fun i hi => if_pos hi))
        clear ho hr hb1
        go_wp2
        go_ret
        exact ⟨_, rfl, HO.out, hb⟩

set_option maxRecDepth 100000 in
set_option maxHeartbeats 1000000 in
theorem mix2_any (n : Nat) (X Y : Nat → Int) (num den : Int) (bn bd bx ox cx by' oy cy : Nat) (w : World) (hn : n ≤ 4096)
    (hX : ∀ i, i < n → w.cell? ⟨bx, ox + i, none⟩ = some (.int .u8 (X i))) (hXb : ∀ i, i < n → 0 ≤ X i ∧ X i < 256) (hcx : n ≤ cx)
    (hY : ∀ i, i < n → w.cell? ⟨by', oy + i, none⟩ = some (.int .u8 (Y i))) (hYb : ∀ i, i < n → 0 ≤ Y i ∧ Y i < 256) (hcy : n ≤ cy)
    (hd1 : 1 ≤ den) (hd2 : den ≤ 2147483648) (hn1 : 0 ≤ num) (hn2 : num ≤ den)
    (hcd : w.cell? ⟨bd, 0, none⟩ = some (.int .i64 den)) (hcn : w.cell? ⟨bn, 0, none⟩ = some (.int .i64 num)) :
    Calls Try.prog 48 #[.slice (some ⟨bx, ox, none⟩) n cx, .slice (some ⟨by', oy, none⟩) n cy, .pointer (some ⟨bd, 0, none⟩), .pointer (some ⟨bn, 0, none⟩)] w fun e w' => ∃ g,
       e = .returned (.slice (some ⟨g, 0, none⟩) n n) ∧ Row w' w.heap.size g n n (mixF num den X Y) ∧ Below w.heap.size w w' := by
  obtain ⟨i0, hi, hz0, hz1, hz2⟩ := info_parts info5
  have lt1 := block_lt_of_cell hcd
  have lt2 := block_lt_of_cell hcn
  simp only at lt1 lt2
  go_enter Try.func48, Try.ntmps48
  go_wp2_with (at_make; refine wpList_make_full _ rfl _ _ 24 rfl w.heap.size 5 i0 (.int .u8 0) 1 Try.underlying24 hi hz0 hz1 _ _ _ _ n rfl rfl rfl rfl ?_ ?_ (Nat.le_refl _) ?_)
  · rw [hz2]; omega
  · unfold maxLen; omega
  · intro w1 hown hg
    have hr := Row.of_made hown
    have hb1 : Below w.heap.size w w1 := (Below.refl _ _).grown hg (Nat.le_refl _) (fun k h => by cases h)
    clear hg hown
    go_wp2
    go_loopw [14] (fun i wr => ∃ k : Nat, k ≤ n ∧ i = .int .i64 k ∧ Row wr w.heap.size w.heap.size n n (fun i => if i < k then mixF num den X Y i else 0) ∧ Below w.heap.size w wr) (fun i _ => n - (intOf i).toNat)
    case atStart => exact ⟨0, Nat.zero_le _, rfl, by simpa using hr, hb1⟩
    case round =>
      obtain ⟨k, hk, rfl, ho, hb⟩ := hrel
      by_cases hlt : k < n
      · have hc := ho.cell k hlt
        rw [if_neg (by omega)] at hc
        have hf := World.ownsRow.frozenAt ho k
        have lt3 := block_lt_of_cell (hX k hlt)
        have lt4 := block_lt_of_cell (hY k hlt)
        simp only at lt3 lt4
        have hXk := (hb.cell (p := ⟨bx, ox + k, none⟩) lt3).trans (hX k hlt)
        have hYk := (hb.cell (p := ⟨by', oy + k, none⟩) lt4).trans (hY k hlt)
        have hcd' := (hb.cell (p := ⟨bd, 0, none⟩) lt1).trans hcd
        have hcn' := (hb.cell (p := ⟨bn, 0, none⟩) lt2).trans hcn
        have b1 := hXb k hlt
        have b2 := hYb k hlt
        have bb := blend_bd b1.1 b1.2 b2.1 b2.2 hd1 hd2 hn1 hn2
        have w1 := IntWalk.i64_in (X k * (den - num)) (by omega)
        have w2 := IntWalk.i64_in (Y k * num) (by omega)
        have w3 := IntWalk.i64_in (X k * (den - num) + Y k * num) (by omega)
        have w4 := IntWalk.i64_in (X k * (den - num) + Y k * num + den / 2) (by omega)
        have HO := Lib.hid ho
        clear hX hY hXb hYb hr hb1 hcd hcn ho
        go_wp2
        refine Plan.wp_region_plan (fun w' => w'.cell? ⟨bx, ox + k, none⟩ = some (.int .u8 (X k)) ∧ w'.cell? ⟨by', oy + k, none⟩ = some (.int .u8 (Y k)) ∧ w'.cell? ⟨bd, 0, none⟩ = some (.int .i64 den) ∧ w'.cell? ⟨bn, 0, none⟩ = some (.int .i64 num)) (([0, 1, 2, 3, 4, 5, 6, 7, 8, 9, 10, 11, 12, 13, 14, 15, 16, 17, 18, 19, 20, 21, 22, 23, 24, 25].map (·, true)) ++ ([26].map (·, false))) (by kernel_rfl) (by kernel_rfl) (by kernel_rfl) ⟨hXk, hYk, hcd', hcn'⟩ ?_
        refine' Plan.plan_seg _ [0, 1, 2, 3, 4, 5, 6, 7, 8, 9, 10, 11, 12, 13, 14, 15, 16, 17, 18, 19, 20, 21, 22, 23, 24, 25] (([26].map (·, false))) (by kernel_rfl) (by kernel_rfl) rfl ⟨hXk, hYk, hcd', hcn'⟩ (fun wx hS => ?_) ?_
        rotate_left
        · obtain ⟨s1, s2, s3, s4⟩ := hS
          iterate 26 (apply Plan.seg_pick; rfl; intro K hK; go_wp)
          exact Plan.seg_nil
        refine Plan.plan_of_effect rfl (fun K hK => ?_)
        go_wp2
        refine ⟨⟨?_, ?_, ?_, ?_⟩, Plan.plan_done ?_⟩
        · rw [World.cell?_drew, World.cell?_setCell_far _ _ _ _ (by simp; omega)]; exact hXk
        · rw [World.cell?_drew, World.cell?_setCell_far _ _ _ _ (by simp; omega)]; exact hYk
        · rw [World.cell?_drew, World.cell?_setCell_far _ _ _ _ (by simp; omega)]; exact hcd'
        · rw [World.cell?_drew, World.cell?_setCell_far _ _ _ _ (by simp; omega)]; exact hcn'
        go_wp2
        go_roundw
        case rel =>
          refine ⟨k+1, by omega, by go_num, (HO.out.store k (F' := fun i => if i < k + 1 then mixF num den X Y i else 0) ?_ ?_), (hb.setCell (Nat.le_refl _) _).drew⟩
          · simp [mixF, blend1]
          · intro i _ hik; exact ite_iff (by omega)
        case measure => simp [intOf]; omega
      · obtain rfl : k = n := by omega
        have HO := Lib.hid (ho.congr (F' := mixF num den X Y) (fun i hi => if_pos hi))
        clear ho hr hb1
        go_wp2
        go_ret
        exact ⟨_, rfl, HO.out, hb⟩

end Go.Proofs.Ytnnobdcbmagbaaa

/- The contract of Mix. -/
namespace Go.Proofs.Ytnnobdcbmagbaaa
open Go.RowKit

def Fr.zero : Fr := ⟨0, 0, 0, 0, 0, fun _ => 0, fun _ => 0, fun _ => 0⟩
def zeroV : Value := .agg #[.int .i64 0, .int .i64 0, .slice none 0 0, .slice none 0 0, .slice none 0 0]
theorem FA.zero (w : World) : FA w zeroV Fr.zero := ⟨_, _, _, rfl, ⟨_, _, rfl, Nat.le_refl _, fun i hi => absurd hi (Nat.not_lt_zero i)⟩, ⟨_, _, rfl, Nat.le_refl _, fun i hi => absurd hi (Nat.not_lt_zero i)⟩, ⟨_, _, rfl, Nat.le_refl _, fun i hi => absurd hi (Nat.not_lt_zero i)⟩⟩
def mixFr (num den : Int) (F G : Fr) : Fr := ⟨F.W, F.H, F.nY, F.nU, F.nV, mixF num den F.Y G.Y, mixF num den F.U G.U, mixF num den F.V G.V⟩

theorem ok_dims {F : Fr} (h : F.ok = true) : okSize F.W F.H = true ∧ (F.nY : Int) = F.W * F.H ∧ (F.nU : Int) = (F.W / 2) * (F.H / 2) ∧ (F.nV : Int) = (F.W / 2) * (F.H / 2) := by
  simpa [Fr.ok, and_assoc] using h

theorem ok_bd {F : Fr} (h : F.ok = true) : 256 ≤ F.nY ∧ F.nY ≤ 4096 ∧ 64 ≤ F.nU ∧ F.nU ≤ 1024 ∧ F.nV = F.nU := by
  obtain ⟨hs, h1, h2, h3⟩ := ok_dims h
  have hb := okSize_bd hs
  have c1 : 8 * 8 ≤ F.W / 2 * (F.H / 2) := Int.mul_le_mul (by omega) (by omega) (by omega) (by omega)
  have c2 : F.W / 2 * (F.H / 2) ≤ 32 * 32 := Int.mul_le_mul (by omega) (by omega) (by omega) (by omega)
  omega

theorem pair_dims {F G : Fr} (h : pairOk F G = true) : F.ok = true ∧ G.ok = true ∧ F.W = G.W ∧ F.H = G.H ∧ G.nY = F.nY ∧ G.nU = F.nU ∧ G.nV = F.nV := by
  simp only [pairOk, Bool.and_eq_true, beq_iff_eq] at h
  obtain ⟨⟨⟨h1, h2⟩, h3⟩, h4⟩ := h
  obtain ⟨_, a1, a2, a3⟩ := ok_dims h1
  obtain ⟨_, b1, b2, b3⟩ := ok_dims h2
  rw [← h3, ← h4] at b1 b2 b3
  exact ⟨h1, h2, h3, h4, by omega, by omega, by omega⟩

set_option maxRecDepth 100000 in
set_option maxHeartbeats 400000 in
theorem mix_yes (v u : Value) (F G : Fr) (num den : Int) (w : World) (hv : FA w v F) (hu : FA w u G) (hp : pairOk F G = true) (hs : okShare num den = true) :
    Calls Try.prog 22 #[v, u, .int .i64 num, .int .i64 den] w fun e w' => ∃ r, e = .returned (.tuple #[r, .int .i64 0]) ∧ FA w' r (mixFr num den F G) ∧ Below w.heap.size w w' := by
  have hmf : ∀ (fn : Fn) (first cap : Array Value) (w : World), (Instr.makeFunc fn first cap).run Try.prog w = .ok (.func fn first cap) w := fun _ _ _ _ => rfl
  have hv0 := hv
  have hu0 := hu
  obtain ⟨y, u1, z, rfl, hy, hu1, hz⟩ := hv
  obtain ⟨y', u', z', rfl, hy', hu', hz'⟩ := hu
  have B0 : ∀ o1 o2 o3 o4 o5 o6, Below w.heap.size w ((((((w.alloc o1).alloc o2).alloc o3).alloc o4).alloc o5).alloc o6) := fun _ _ _ _ _ _ => by go_grown
  have HP := Lib.hid hp
  have HS := Lib.hid hs
  obtain ⟨f1, f2, f3, f4, f5, f6, f7⟩ := pair_dims hp
  have fb := ok_bd f1
  rw [f5] at hy'
  rw [f6] at hu'
  rw [f7] at hz'
  simp only [okShare, decide_eq_true_eq] at hs
  obtain ⟨p1, q1, k1, rfl, l1, X1, Z1⟩ := hy.open (by omega)
  obtain ⟨p2, q2, k2, rfl, l2, X2, Z2⟩ := hu1.open (by omega)
  obtain ⟨p3, q3, k3, rfl, l3, X3, Z3⟩ := hz.open (by omega)
  obtain ⟨p4, q4, k4, rfl, l4, X4, Z4⟩ := hy'.open (by omega)
  obtain ⟨p5, q5, k5, rfl, l5, X5, Z5⟩ := hu'.open (by omega)
  obtain ⟨p6, q6, k6, rfl, l6, X6, Z6⟩ := hz'.open (by omega)
  obtain ⟨d1, d2, d3, d4⟩ := hs
  obtain ⟨e1, e2, e3, e4, e5⟩ := fb
  have e6 : F.nV ≤ 1024 := by omega
  clear e5
  have HH := Lib.hid (And.intro hp (And.intro f3 (And.intro f4 (And.intro f5 (And.intro f6 f7)))))
  clear hp f1 f2 f3 f4 f5 f6 f7 hy hu1 hz hy' hu' hz'
  go_enter_defers Try.func22, Try.ntmps22
  go_wp2_with fail
  refine (matching_any _ _ F G _ ?_ ?_).mono ?_
  · exact hv0.below (by go_grown)
  · exact hu0.below (by go_grown)
  rintro e w1 ⟨rfl, hb⟩
  rw [HP.out]
  have hc := fun (p : Addr) (h : p.block < w.heap.size + 6) => hb.cell (p := p) (by simpa using h)
  have hz := fun (p : Addr) (h : p.block < w.heap.size + 6) => hb.frozen (p := p) (by simpa using h)
  have a0 : w1.cell? ⟨w.heap.size, 0, none⟩ = some (.int .i64 F.W) := (hc _ (by simp)).trans (by simp [go_sem])
  have a1 : w1.cell? ⟨w.heap.size, 1, none⟩ = some (.int .i64 F.H) := (hc _ (by simp)).trans (by simp [go_sem])
  have a2 : w1.cell? ⟨w.heap.size, 2, none⟩ = some (.slice (some ⟨p1, q1, none⟩) F.nY k1) := (hc _ (by simp)).trans (by simp [go_sem])
  have a3 : w1.cell? ⟨w.heap.size, 3, none⟩ = some (.slice (some ⟨p2, q2, none⟩) F.nU k2) := (hc _ (by simp)).trans (by simp [go_sem])
  have a4 : w1.cell? ⟨w.heap.size, 4, none⟩ = some (.slice (some ⟨p3, q3, none⟩) F.nV k3) := (hc _ (by simp)).trans (by simp [go_sem])
  have b2 : w1.cell? ⟨w.heap.size + 1, 2, none⟩ = some (.slice (some ⟨p4, q4, none⟩) F.nY k4) := (hc _ (by simp)).trans (by simp [go_sem])
  have b3 : w1.cell? ⟨w.heap.size + 1, 3, none⟩ = some (.slice (some ⟨p5, q5, none⟩) F.nU k5) := (hc _ (by simp)).trans (by simp [go_sem])
  have b4 : w1.cell? ⟨w.heap.size + 1, 4, none⟩ = some (.slice (some ⟨p6, q6, none⟩) F.nV k6) := (hc _ (by simp)).trans (by simp [go_sem])
  have cn : w1.cell? ⟨w.heap.size + 2, 0, none⟩ = some (.int .i64 num) := (hc _ (by simp)).trans (by simp [go_sem])
  have cd : w1.cell? ⟨w.heap.size + 3, 0, none⟩ = some (.int .i64 den) := (hc _ (by simp)).trans (by simp [go_sem])
  have r0 : w1.cell? ⟨w.heap.size + 4, 0, none⟩ = some (.int .i64 0) := (hc _ (by simp)).trans (by simp [go_sem])
  have r1 : w1.cell? ⟨w.heap.size + 4, 1, none⟩ = some (.int .i64 0) := (hc _ (by simp)).trans (by simp [go_sem])
  have r2 : w1.cell? ⟨w.heap.size + 4, 2, none⟩ = some (.slice none 0 0) := (hc _ (by simp)).trans (by simp [go_sem])
  have r3 : w1.cell? ⟨w.heap.size + 4, 3, none⟩ = some (.slice none 0 0) := (hc _ (by simp)).trans (by simp [go_sem])
  have r4 : w1.cell? ⟨w.heap.size + 4, 4, none⟩ = some (.slice none 0 0) := (hc _ (by simp)).trans (by simp [go_sem])
  have s0 : w1.cell? ⟨w.heap.size + 5, 0, none⟩ = some (.int .i64 0) := (hc _ (by simp)).trans (by simp [go_sem])
  have z4 : ∀ o, w1.frozen? ⟨w.heap.size + 4, o, none⟩ = false := fun o => (hz _ (by simp)).trans (by simp [go_sem])
  have z5 : w1.frozen? ⟨w.heap.size + 5, 0, none⟩ = false := (hz _ (by simp)).trans (by simp [go_sem])
  have hN : w.heap.size + 6 ≤ w1.heap.size := by have := hb.size; simpa using this
  have W1 : Below w.heap.size w w1.drew := ((B0 _ _ _ _ _ _).trans (hb.mono (by simp; omega))).drew
  clear hb hc hz
  go_wp2
  refine Plan.wp_region_plan (fun w' => Below (w.heap.size + 4) w1 w') (([0, 1, 2, 3, 4, 5, 6, 7, 8, 10, 11, 12, 13, 14, 16, 17, 18, 19, 20].map (·, true)) ++ ([9, 15, 21].map (·, false)) ++ ([22].map (·, true)) ++ ([23, 24].map (·, false))) (by kernel_rfl) (by kernel_rfl) (by kernel_rfl) (Below.refl _ _).drew ?_
  refine' Plan.plan_seg _ [0, 1, 2, 3, 4, 5, 6, 7, 8, 10, 11, 12, 13, 14, 16, 17, 18, 19, 20] (([9, 15, 21].map (·, false)) ++ ([22].map (·, true)) ++ ([23, 24].map (·, false))) (by kernel_rfl) (by kernel_rfl) rfl (Below.refl _ _).drew (fun wx hS => ?_) ?_
  rotate_left
  · have x0 := (hS.cell (p := ⟨w.heap.size, 0, none⟩) (by simp)).trans a0
    have x1 := (hS.cell (p := ⟨w.heap.size, 1, none⟩) (by simp)).trans a1
    have x2 := (hS.cell (p := ⟨w.heap.size, 2, none⟩) (by simp)).trans a2
    have x3 := (hS.cell (p := ⟨w.heap.size, 3, none⟩) (by simp)).trans a3
    have x4 := (hS.cell (p := ⟨w.heap.size, 4, none⟩) (by simp)).trans a4
    have y2 := (hS.cell (p := ⟨w.heap.size + 1, 2, none⟩) (by simp)).trans b2
    have y3 := (hS.cell (p := ⟨w.heap.size + 1, 3, none⟩) (by simp)).trans b3
    have y4 := (hS.cell (p := ⟨w.heap.size + 1, 4, none⟩) (by simp)).trans b4
    clear hS
    iterate 19 (apply Plan.seg_pick; rfl; intro K hK; go_wp)
    exact Plan.seg_nil
  refine Plan.plan_of_effect rfl (fun K hK => ?_)
  go_wp2_with fail
  refine (mix2_any _ _ _ num den _ _ _ _ _ _ _ _ _ (by omega) ?_ Z1 l1 ?_ Z4 l4 d1 d2 d3 d4 ?_ ?_).mono ?_
  · intro i hi; rw [W1.cell (block_lt_of_cell (X1 i hi))]; exact X1 i hi
  · intro i hi; rw [W1.cell (block_lt_of_cell (X4 i hi))]; exact X4 i hi
  · exact cd
  · exact cn
  rintro e w2 ⟨g1, rfl, row1, hb1⟩
  have hN2 : w1.heap.size ≤ w2.heap.size := hb1.size
  have W2 : Below w.heap.size w w2 := W1.trans (hb1.mono (by simp; omega))
  have S2 : Below (w.heap.size + 4) w1 w2 := ((Below.refl _ _).drew).trans (hb1.mono (by simp; omega))
  have cd2 := (hb1.cell (p := ⟨w.heap.size + 3, 0, none⟩) (by simp; omega)).trans cd
  have cn2 := (hb1.cell (p := ⟨w.heap.size + 2, 0, none⟩) (by simp; omega)).trans cn
  go_wp2_with fail
  refine ⟨S2, ?_⟩
  refine Plan.plan_of_effect rfl (fun K hK => ?_)
  go_wp2_with fail
  refine (mix2_any _ _ _ num den _ _ _ _ _ _ _ _ _ (by omega) ?_ Z2 l2 ?_ Z5 l5 d1 d2 d3 d4 ?_ ?_).mono ?_
  · intro i hi; rw [W2.cell (block_lt_of_cell (X2 i hi))]; exact X2 i hi
  · intro i hi; rw [W2.cell (block_lt_of_cell (X5 i hi))]; exact X5 i hi
  · exact cd2
  · exact cn2
  rintro e w3 ⟨g2, rfl, row2, hb2⟩
  have hN3 : w2.heap.size ≤ w3.heap.size := hb2.size
  have W3 : Below w.heap.size w w3 := W2.trans (hb2.mono (by omega))
  have S3 : Below (w.heap.size + 4) w1 w3 := S2.trans (hb2.mono (by omega))
  have cd3 := (hb2.cell (p := ⟨w.heap.size + 3, 0, none⟩) (by simp; omega)).trans cd2
  have cn3 := (hb2.cell (p := ⟨w.heap.size + 2, 0, none⟩) (by simp; omega)).trans cn2
  go_wp2_with fail
  refine ⟨S3, ?_⟩
  refine Plan.plan_of_effect rfl (fun K hK => ?_)
  go_wp2_with fail
  refine (mix2_any _ _ _ num den _ _ _ _ _ _ _ _ _ (by omega) ?_ Z3 l3 ?_ Z6 l6 d1 d2 d3 d4 ?_ ?_).mono ?_
  · intro i hi; rw [W3.cell (block_lt_of_cell (X3 i hi))]; exact X3 i hi
  · intro i hi; rw [W3.cell (block_lt_of_cell (X6 i hi))]; exact X6 i hi
  · exact cd3
  · exact cn3
  rintro e w4 ⟨g3, rfl, row3, hb3⟩
  have hN4 : w3.heap.size ≤ w4.heap.size := hb3.size
  have W4 : Below w.heap.size w w4 := W3.trans (hb3.mono (by omega))
  have S4 : Below (w.heap.size + 4) w1 w4 := S3.trans (hb3.mono (by omega))
  have S46 : Below (w.heap.size + 6) w1.drew w4 := ((hb1.mono (by simp; omega)).trans (hb2.mono (by omega))).trans (hb3.mono (by omega))
  have ry := (row1.below hb2).below hb3
  have ru := row2.below hb3
  have rv := row3
  have gg1 := row1.le
  have gg2 := row2.le
  have gg3 := row3.le
  have HR := Lib.hid (And.intro ry (And.intro ru rv))
  have r0' := (S46.cell (p := ⟨w.heap.size + 4, 0, none⟩) (by simp)).trans r0
  have r1' := (S46.cell (p := ⟨w.heap.size + 4, 1, none⟩) (by simp)).trans r1
  have r2' := (S46.cell (p := ⟨w.heap.size + 4, 2, none⟩) (by simp)).trans r2
  have r3' := (S46.cell (p := ⟨w.heap.size + 4, 3, none⟩) (by simp)).trans r3
  have r4' := (S46.cell (p := ⟨w.heap.size + 4, 4, none⟩) (by simp)).trans r4
  have s0' := (S46.cell (p := ⟨w.heap.size + 5, 0, none⟩) (by simp)).trans s0
  have z4' := fun o => (S46.frozen (p := ⟨w.heap.size + 4, o, none⟩) (by simp)).trans (z4 o)
  have z5' := (S46.frozen (p := ⟨w.heap.size + 5, 0, none⟩) (by simp)).trans z5
  clear row1 row2 row3 hb1 hb2 hb3 W1 W2 W3 S2 S3 cd2 cn2 cd3 cn3 S46 ry ru rv r0 r1 r2 r3 r4 s0 z4 z5 X1 X2 X3 X4 X5 X6 Z1 Z2 Z3 Z4 Z5 Z6
  go_wp2_with fail
  refine ⟨S4, ?_⟩
  refine' Plan.plan_seg _ [22] (([23, 24].map (·, false))) (by kernel_rfl) (by kernel_rfl) rfl S4 (fun wx hS => ?_) ?_
  rotate_left
  · iterate 1 (apply Plan.seg_pick; rfl; intro K hK; go_wp)
    exact Plan.seg_nil
  refine Plan.plan_of_effect rfl (fun K hK => ?_)
  go_wp2_with fail
  refine ⟨by go_grown, ?_⟩
  refine Plan.plan_of_effect rfl (fun K hK => ?_)
  go_wp2_with fail
  refine ⟨by go_grown, ?_⟩
  refine Plan.plan_done ?_
  go_wp2_with fail
  refine leaves_cons (f := 45) (args := #[.pointer (some ⟨w.heap.size + 1 + 1 + 1 + 1, 0, none⟩), .pointer (some ⟨w.heap.size + 1 + 1 + 1 + 1 + 1, 0, none⟩)]) (by simp) (by simp [go_sem]) ?_
  refine (idle45 _ _ _).mono ?_
  rintro e u' w'' ⟨rfl, rfl, rfl⟩
  simp [Leaves, settle, results, Try.results22, go_sem, r0', r1', r2', r3', r4', s0']
  simp at gg1
  obtain ⟨h1, h2, h3⟩ := HR.out
  refine ⟨⟨_, _, _, rfl, ?_, ?_, ?_⟩, by go_grown⟩
  · refine Row.BA (B := w1.drew.heap.size) ?_ (fun i _ => blend1_lt _ _ _ _)
    repeat (refine Row.far ?_ (by simp; omega) _)
    exact h1
  · refine Row.BA (B := w2.heap.size) ?_ (fun i _ => blend1_lt _ _ _ _)
    repeat (refine Row.far ?_ (by simp; omega) _)
    exact h2
  · refine Row.BA (B := w3.heap.size) ?_ (fun i _ => blend1_lt _ _ _ _)
    repeat (refine Row.far ?_ (by simp; omega) _)
    exact h3

set_option maxRecDepth 100000 in
set_option maxHeartbeats 2000000 in
theorem mix_no (v u : Value) (F G : Fr) (num den : Int) (w : World) (hv : FA w v F) (hu : FA w u G) (hp : (pairOk F G && okShare num den) = false) :
    Calls Try.prog 22 #[v, u, .int .i64 num, .int .i64 den] w fun e w' => e = .returned (.tuple #[zeroV, .int .i64 1]) ∧ Below w.heap.size w w' := by
  have hmf : ∀ (fn : Fn) (first cap : Array Value) (w : World), (Instr.makeFunc fn first cap).run Try.prog w = .ok (.func fn first cap) w := fun _ _ _ _ => rfl
  have hv0 := hv
  have hu0 := hu
  obtain ⟨y, u1, z, rfl, _, _, _⟩ := hv
  obtain ⟨y', u', z', rfl, _, _, _⟩ := hu
  have B0 : ∀ o1 o2 o3 o4 o5 o6, Below w.heap.size w ((((((w.alloc o1).alloc o2).alloc o3).alloc o4).alloc o5).alloc o6) := fun _ _ _ _ _ _ => by go_grown
  have HV := Lib.hid hv0
  have HU := Lib.hid hu0
  have HP := Lib.hid hp
  clear hv0 hu0 hp
  go_enter_defers Try.func22, Try.ntmps22
  go_wp2_with fail
  refine (matching_any _ _ F G _ ?_ ?_).mono ?_
  · exact HV.out.below (by go_grown)
  · exact HU.out.below (by go_grown)
  rintro e w1 ⟨rfl, hb⟩
  have hc := fun (p : Addr) (h : p.block < w.heap.size + 6) => hb.cell (p := p) (by simpa using h)
  have hz := fun (p : Addr) (h : p.block < w.heap.size + 6) => hb.frozen (p := p) (by simpa using h)
  have cn : w1.cell? ⟨w.heap.size + 2, 0, none⟩ = some (.int .i64 num) := (hc _ (by simp)).trans (by simp [go_sem])
  have cd : w1.cell? ⟨w.heap.size + 3, 0, none⟩ = some (.int .i64 den) := (hc _ (by simp)).trans (by simp [go_sem])
  have r0 : w1.cell? ⟨w.heap.size + 4, 0, none⟩ = some (.int .i64 0) := (hc _ (by simp)).trans (by simp [go_sem])
  have r1 : w1.cell? ⟨w.heap.size + 4, 1, none⟩ = some (.int .i64 0) := (hc _ (by simp)).trans (by simp [go_sem])
  have r2 : w1.cell? ⟨w.heap.size + 4, 2, none⟩ = some (.slice none 0 0) := (hc _ (by simp)).trans (by simp [go_sem])
  have r3 : w1.cell? ⟨w.heap.size + 4, 3, none⟩ = some (.slice none 0 0) := (hc _ (by simp)).trans (by simp [go_sem])
  have r4 : w1.cell? ⟨w.heap.size + 4, 4, none⟩ = some (.slice none 0 0) := (hc _ (by simp)).trans (by simp [go_sem])
  have s0 : w1.cell? ⟨w.heap.size + 5, 0, none⟩ = some (.int .i64 0) := (hc _ (by simp)).trans (by simp [go_sem])
  have z4 : ∀ o, w1.frozen? ⟨w.heap.size + 4, o, none⟩ = false := fun o => (hz _ (by simp)).trans (by simp [go_sem])
  have z5 : w1.frozen? ⟨w.heap.size + 5, 0, none⟩ = false := (hz _ (by simp)).trans (by simp [go_sem])
  have hN : w.heap.size + 6 ≤ w1.heap.size := by have := hb.size; simpa using this
  have W1 : Below w.heap.size w w1 := (B0 _ _ _ _ _ _).trans (hb.mono (by simp; omega))
  clear hb hc hz
  cases hpk : pairOk F G
  · have HK := Lib.hid hpk
    clear hpk
    go_wp2_with fail
    refine leaves_cons (f := 45) (args := #[.pointer (some ⟨w.heap.size + 1 + 1 + 1 + 1, 0, none⟩), .pointer (some ⟨w.heap.size + 1 + 1 + 1 + 1 + 1, 0, none⟩)]) (by simp) (by simp [go_sem]) ?_
    refine (idle45 _ _ _).mono ?_
    rintro e u' w'' ⟨rfl, rfl, rfl⟩
    simp [Leaves, settle, results, Try.results22, go_sem, r0, r1, r2, r3, r4, s0, zeroV]
    go_grown
  · have hs : okShare num den = false := by have := HP.out; simpa [hpk] using this
    have HK := Lib.hid hpk
    have HS := Lib.hid hs
    clear hpk hs
    go_wp2_with fail
    refine (validShare_any _ _ _).mono ?_
    rintro e w2 ⟨rfl, rfl⟩
    rw [HS.out]
    go_wp2_with fail
    refine leaves_cons (f := 45) (args := #[.pointer (some ⟨w.heap.size + 1 + 1 + 1 + 1, 0, none⟩), .pointer (some ⟨w.heap.size + 1 + 1 + 1 + 1 + 1, 0, none⟩)]) (by simp) (by simp [go_sem]) ?_
    refine (idle45 _ _ _).mono ?_
    rintro e u' w'' ⟨rfl, rfl, rfl⟩
    simp [Leaves, settle, results, Try.results22, go_sem, r0, r1, r2, r3, r4, s0, zeroV]
    go_grown
end Go.Proofs.Ytnnobdcbmagbaaa

/- The contract of compose.Black. -/
namespace Go.Proofs.Ytnnobdcbmagbaaa
open Go.RowKit

def blackFr (W H : Int) : Fr := ⟨W, H, (W * H).toNat, (W / 2 * (H / 2)).toNat, (W / 2 * (H / 2)).toNat, fun _ => 16, fun _ => 128, fun _ => 128⟩

theorem flat_int (m s : Int) (w : World) (h0 : 0 ≤ m) (hm : m ≤ 4096) :
    Calls Try.prog 40 #[.int .i64 m, .int .u8 s] w fun e w' => ∃ g, e = .returned (.slice (some ⟨g, 0, none⟩) m.toNat m.toNat) ∧ Row w' w.heap.size g m.toNat m.toNat (fun _ => s) ∧ Below w.heap.size w w' := by
  obtain ⟨n, rfl⟩ := Int.eq_ofNat_of_zero_le h0
  rw [Int.toNat_natCast]
  exact flat_any n s w (by omega)


set_option maxRecDepth 100000 in
set_option maxHeartbeats 2000000 in
theorem black_yes (W H : Int) (w : World) (hs : okSize W H = true) :
    Calls Try.prog 17 #[.int .i64 W, .int .i64 H] w fun e w' => ∃ r, e = .returned (.tuple #[r, .int .i64 0]) ∧ FA w' r (blackFr W H) ∧ Below w.heap.size w w' := by
  obtain ⟨b1, b2, b3, b4, b5, b6, b7, b8⟩ := okSize_bd hs
  have c1 : 0 ≤ W / 2 * (H / 2) := Int.mul_nonneg (by omega) (by omega)
  have c2 : W / 2 * (H / 2) ≤ 32 * 32 := Int.mul_le_mul (by omega) (by omega) (by omega) (by omega)
  have e1 := IntWalk.i64_in (W * H) (by omega)
  have e2 := IntWalk.i64_in (W / 2 * (H / 2)) (by omega)
  have HS := Lib.hid hs
  clear hs
  go_enter Try.func17, Try.ntmps17
  go_wp2_with fail
  refine (validSize_any _ _ _).mono ?_
  rintro e w0 ⟨rfl, rfl⟩
  rw [HS.out]
  go_wp2_with fail
  refine (flat_int _ _ _ (by omega) (by omega)).mono ?_
  rintro e w1 ⟨g1, rfl, r1, hb1⟩
  go_wp2_with fail
  refine (flat_int _ _ _ (by omega) (by omega)).mono ?_
  rintro e w2 ⟨g2, rfl, r2, hb2⟩
  go_wp2_with fail
  refine (flat_int _ _ _ (by omega) (by omega)).mono ?_
  rintro e w3 ⟨g3, rfl, r3, hb3⟩
  have n1 : w.heap.size + 1 ≤ w1.heap.size := by have := hb1.size; simpa using this
  have n2 := hb2.size
  have n3 := hb3.size
  have BB : Below (w.heap.size + 1) (w.alloc (.cells #[.int .i64 0, .int .i64 0, .slice none 0 0, .slice none 0 0, .slice none 0 0] 26)) w3 := ((hb1.mono (by simp)).trans (hb2.mono (by omega))).trans (hb3.mono (by omega))
  have k0 : w3.cell? ⟨w.heap.size, 0, none⟩ = some (.int .i64 0) := (BB.cell (by simp)).trans (by simp [go_sem])
  have k1 : w3.cell? ⟨w.heap.size, 1, none⟩ = some (.int .i64 0) := (BB.cell (by simp)).trans (by simp [go_sem])
  have k2 : w3.cell? ⟨w.heap.size, 2, none⟩ = some (.slice none 0 0) := (BB.cell (by simp)).trans (by simp [go_sem])
  have k3 : w3.cell? ⟨w.heap.size, 3, none⟩ = some (.slice none 0 0) := (BB.cell (by simp)).trans (by simp [go_sem])
  have k4 : w3.cell? ⟨w.heap.size, 4, none⟩ = some (.slice none 0 0) := (BB.cell (by simp)).trans (by simp [go_sem])
  have z : ∀ o, w3.frozen? ⟨w.heap.size, o, none⟩ = false := fun o => (BB.frozen (by simp)).trans (by simp [go_sem])
  have W3 : Below w.heap.size w w3 := (below_box w _).trans (BB.mono (by omega))
  have l1 := r1.le
  have l2 := r2.le
  have l3 := r3.le
  simp at l1
  have HR := Lib.hid (And.intro ((r1.below hb2).below hb3) (And.intro (r2.below hb3) r3))
  clear r1 r2 r3 hb1 hb2 hb3 BB
  go_wp2_with fail
  refine bodyPost_ret (v := .tuple #[.agg #[.int .i64 W, .int .i64 H, .slice (some ⟨g1, 0, none⟩) (W * H).toNat (W * H).toNat, .slice (some ⟨g2, 0, none⟩) (W / 2 * (H / 2)).toNat (W / 2 * (H / 2)).toNat, .slice (some ⟨g3, 0, none⟩) (W / 2 * (H / 2)).toNat (W / 2 * (H / 2)).toNat], .int .i64 0]) (by simp [results, Try.results17, go_sem, k0, k1, k2, k3, k4]) rfl ?_
  obtain ⟨h1, h2, h3⟩ := HR.out
  refine ⟨_, rfl, ⟨_, _, _, rfl, ?_, ?_, ?_⟩, by go_grown⟩
  · refine Row.BA (B := (w.alloc (.cells #[.int .i64 0, .int .i64 0, .slice none 0 0, .slice none 0 0, .slice none 0 0] 26)).heap.size) ?_ (fun i _ => by simp [blackFr])
    repeat (refine Row.far ?_ (by simp; omega) _)
    exact h1
  · refine Row.BA (B := w1.heap.size) ?_ (fun i _ => by simp [blackFr])
    repeat (refine Row.far ?_ (by simp; omega) _)
    exact h2
  · refine Row.BA (B := w2.heap.size) ?_ (fun i _ => by simp [blackFr])
    repeat (refine Row.far ?_ (by simp; omega) _)
    exact h3

set_option maxRecDepth 100000 in
set_option maxHeartbeats 1000000 in
theorem black_no (W H : Int) (w : World) (hs : okSize W H = false) :
    Calls Try.prog 17 #[.int .i64 W, .int .i64 H] w fun e w' => e = .returned (.tuple #[zeroV, .int .i64 1]) ∧ Below w.heap.size w w' := by
  have HS := Lib.hid hs
  clear hs
  go_enter Try.func17, Try.ntmps17
  go_wp2_with fail
  refine (validSize_any _ _ _).mono ?_
  rintro e w0 ⟨rfl, rfl⟩
  rw [HS.out]
  go_wp2_with fail
  refine bodyPost_ret (v := .tuple #[zeroV, .int .i64 1]) (by simp [results, Try.results17, go_sem, zeroV]) rfl ⟨rfl, by go_grown⟩

end Go.Proofs.Ytnnobdcbmagbaaa
