/- Texts of this claim joined: Q S R H I. -/
import Derived.Test.YtnnobdcbmagbaaaEv00
import Derived.Test.YtnnobdcbmagbaaaEv02
set_option linter.unusedVariables false
set_option linter.unusedSimpArgs false

/- The contracts of the stage's eval and of Eval at the black expression. -/
namespace Go.Proofs.Ytnnobdcbmagbaaa
open Go.RowKit

theorem info26 : (Try.prog.info? 26).map (fun i => (i.zero, i.size, i.bytes)) = some (some (.agg #[.int .i64 0, .int .i64 0, .slice none 0 0, .slice none 0 0, .slice none 0 0]), 5, 88) := by kernel_rfl

theorem FA.shape {w : World} {v : Value} {F : Fr} (h : FA w v F) : ∃ ay cy au cu av cv, v = .agg #[.int .i64 F.W, .int .i64 F.H, .slice ay F.nY cy, .slice au F.nU cu, .slice av F.nV cv] := by
  obtain ⟨y, u, z, rfl, ⟨ay, cy, rfl, _⟩, ⟨au, cu, rfl, _⟩, ⟨av, cv, rfl, _⟩⟩ := h
  exact ⟨ay, cy, au, cu, av, cv, rfl⟩

theorem BA.put {w : World} {v : Value} {n : Nat} {f : Nat → Int} (h : BA w v n f) {a : Addr} {u : Value} (ha : w.cell? a = some u) (hu : ∀ k, u ≠ .int .u8 k) (x : Value) : BA (w.setCell a x) v n f := by
  obtain ⟨ao, c, rfl, hc, H⟩ := h
  refine ⟨ao, c, rfl, hc, fun i hi => ?_⟩
  obtain ⟨⟨b, o, rfl, hcell⟩, hbd⟩ := H i hi
  refine ⟨⟨b, o, rfl, ?_⟩, hbd⟩
  rw [World.cell?_setCell_other]
  · exact hcell
  · intro he
    rw [← he, ha] at hcell
    exact hu _ (by injection hcell)

theorem FA.put {w : World} {v : Value} {F : Fr} (h : FA w v F) {a : Addr} {u : Value} (ha : w.cell? a = some u) (hu : ∀ k, u ≠ .int .u8 k) (x : Value) : FA (w.setCell a x) v F := by
  obtain ⟨y, u, z, rfl, h1, h2, h3⟩ := h
  exact ⟨y, u, z, rfl, h1.put ha hu x, h2.put ha hu x, h3.put ha hu x⟩

/-- A frame is stored over a frame's cells: what reads as bytes stays. -/
theorem FA.put5 {w : World} {v : Value} {F : Fr} (h : FA w v F) {g : Nat} {a0 a1 : Int} {s2 s3 s4 : Option Addr} {l2 c2 l3 c3 l4 c4 : Nat} (k0 : w.cell? ⟨g, 0, none⟩ = some (.int .i64 a0)) (k1 : w.cell? ⟨g, 1, none⟩ = some (.int .i64 a1))
    (k2 : w.cell? ⟨g, 2, none⟩ = some (.slice s2 l2 c2)) (k3 : w.cell? ⟨g, 3, none⟩ = some (.slice s3 l3 c3)) (k4 : w.cell? ⟨g, 4, none⟩ = some (.slice s4 l4 c4)) {x0 x1 x2 x3 x4 : Value} :
    FA (((((w.setCell ⟨g, 0, none⟩ x0).setCell ⟨g, 1, none⟩ x1).setCell ⟨g, 2, none⟩ x2).setCell ⟨g, 3, none⟩ x3).setCell ⟨g, 4, none⟩ x4) v F := by
  have f1 : ∀ (w : World) (i j : Nat) (x : Value), i ≠ j → (w.setCell ⟨g, i, none⟩ x).cell? ⟨g, j, none⟩ = w.cell? ⟨g, j, none⟩ := fun w i j x hij => World.cell?_setCell_other w _ _ _ (fun h => hij (by cases h; rfl))
  refine ((((h.put k0 (by simp) _).put (u := .int .i64 a1) ?_ (by simp) _).put (u := .slice s2 l2 c2) ?_ (by simp) _).put (u := .slice s3 l3 c3) ?_ (by simp) _).put (u := .slice s4 l4 c4) ?_ (by simp) _
  all_goals simp only [f1 _ _ _ _ (by decide : (0:Nat) ≠ 1), f1 _ _ _ _ (by decide : (0:Nat) ≠ 2), f1 _ _ _ _ (by decide : (0:Nat) ≠ 3), f1 _ _ _ _ (by decide : (0:Nat) ≠ 4), f1 _ _ _ _ (by decide : (1:Nat) ≠ 2), f1 _ _ _ _ (by decide : (1:Nat) ≠ 3), f1 _ _ _ _ (by decide : (1:Nat) ≠ 4), f1 _ _ _ _ (by decide : (2:Nat) ≠ 3), f1 _ _ _ _ (by decide : (2:Nat) ≠ 4), f1 _ _ _ _ (by decide : (3:Nat) ≠ 4)]
  · exact k1
  · exact k2
  · exact k3
  · exact k4

set_option maxRecDepth 100000 in
set_option maxHeartbeats 2000000 in
theorem seval_black (W H : Int) (m : Value) (w : World) (hs : okSize W H = true) :
    Calls Try.prog 64 #[.agg #[.int .i64 W, .int .i64 H, m], blackV] w fun e w' => ∃ r, e = .returned (.tuple #[r, .int .i64 0]) ∧ FA w' r (blackFr W H) ∧ Below w.heap.size w w' := by
  obtain ⟨i0, hi, hz0, hz1, hz2⟩ := info_parts info26
  unfold blackV
  go_enter Try.func64, Try.ntmps64
  go_wp2_with (at_make; refine wpList_make_full _ rfl _ _ 99 rfl w.heap.size 26 i0 (.agg #[.int .i64 0, .int .i64 0, .slice none 0 0, .slice none 0 0, .slice none 0 0]) 5 Try.underlying99 hi hz0 hz1 _ _ _ _ 0 rfl rfl rfl rfl ?_ ?_ ?_ ?_)
  · rw [hz2]; omega
  · unfold maxLen; omega
  · simp; omega
  · intro w1 hown hg
    clear hown
    have hb1 := (Below.refl _ _).grown hg (Nat.le_refl _) (fun k h => by cases h)
    clear hg
    have c0 : w1.cell? ⟨w.heap.size, 0, none⟩ = some (.int .i64 W) := (hb1.cell (by simp; omega)).trans (by simp [go_sem])
    have c1 : w1.cell? ⟨w.heap.size, 1, none⟩ = some (.int .i64 H) := (hb1.cell (by simp; omega)).trans (by simp [go_sem])
    have c2 : w1.cell? ⟨w.heap.size + 1, 0, none⟩ = some (.int .i64 0) := (hb1.cell (by simp)).trans (by simp [go_sem])
    have c3 : w1.cell? ⟨w.heap.size + 1, 7, none⟩ = some (.slice none 0 0) := (hb1.cell (by simp)).trans (by simp [go_sem])
    have n1 := hb1.size
    simp at n1
    go_wp2_with fail
    refine wp_loop_rounds 1 ?_
    rw [rounds_succ]
    go_wp2_with fail
    refine (black_yes W H _ hs).mono ?_
    rintro e w2 ⟨r, rfl, hf, hb2⟩
    have HR := Lib.hid hf
    obtain ⟨ay, cy, au, cu, av, cv, rfl⟩ := hf.shape
    clear hf
    have BB := hb1.trans (hb2.mono (by simp; omega))
    have k0 : w2.cell? ⟨w.heap.size + 1 + 1, 0, none⟩ = some (.int .i64 0) := (BB.cell (by simp)).trans (by simp [go_sem])
    have k1 : w2.cell? ⟨w.heap.size + 1 + 1, 1, none⟩ = some (.int .i64 0) := (BB.cell (by simp)).trans (by simp [go_sem])
    have k2 : w2.cell? ⟨w.heap.size + 1 + 1, 2, none⟩ = some (.slice none 0 0) := (BB.cell (by simp)).trans (by simp [go_sem])
    have k3 : w2.cell? ⟨w.heap.size + 1 + 1, 3, none⟩ = some (.slice none 0 0) := (BB.cell (by simp)).trans (by simp [go_sem])
    have k4 : w2.cell? ⟨w.heap.size + 1 + 1, 4, none⟩ = some (.slice none 0 0) := (BB.cell (by simp)).trans (by simp [go_sem])
    have z0 : ∀ o, w2.frozen? ⟨w.heap.size + 1 + 1, o, none⟩ = false := fun o => (BB.frozen (by simp)).trans (by simp [go_sem])
    have n2 := hb2.size
    have W2 : Below w.heap.size w w2 := (((below_box w _).trans ((below_box _ _).mono (by simp))).trans ((below_box _ _).mono (by simp; omega))).trans (BB.mono (by simp; omega))
    clear BB hb1 hb2 c0 c1 c2 c3
    go_wp2_with fail
    refine bodyPost_ret (v := .tuple #[.agg #[.int .i64 W, .int .i64 H, .slice ay (blackFr W H).nY cy, .slice au (blackFr W H).nU cu, .slice av (blackFr W H).nV cv], .int .i64 0]) (by simp [results, Try.results64, go_sem, k0, k1, k2, k3, k4]; exact ⟨rfl, rfl⟩) rfl ?_
    exact ⟨_, rfl, HR.out.put5 k0 k1 k2 k3 k4, by go_grown⟩


set_option maxRecDepth 100000 in
set_option maxHeartbeats 4000000 in
theorem eval_black (W H : Int) (w : World) (hs : okSize W H = true) :
    Calls Try.prog 35 #[blackV, .slice none 0 0, .int .i64 W, .int .i64 H] w fun e w' => ∃ r, e = .returned (.tuple #[r, .int .i64 0]) ∧ FA w' r (blackFr W H) ∧ Below w.heap.size w w' := by
  have hmf : ∀ (fn : Fn) (first cap : Array Value) (w : World), (Instr.makeFunc fn first cap).run Try.prog w = .ok (.func fn first cap) w := fun _ _ _ _ => rfl
  have hmm : ∀ (n : Int) (w : World), (Instr.makeMap 91 (some (.int .i64 n))).run Try.prog w = .ok (.map (some w.heap.size)) (w.alloc (.map #[] 0)) := fun n w => by
    simp [Instr.makeMap, run_underlying Try.underlying91, asInt, asIntOf, Result.andThen]
  have HS := Lib.hid hs
  clear hs
  unfold blackV
  go_enter_defers Try.func35, Try.ntmps35
  go_wp2_with fail
  refine (dvalid_black _).mono ?_
  rintro e w1 ⟨rfl, hb⟩
  have BB : Below (w.heap.size + 3) _ w1 := hb.mono (by simp)
  have b0 : ∀ i, w1.cell? ⟨w.heap.size, i, none⟩ = (#[Value.int .i64 0, .string ByteArray.empty, .int .i64 0, .int .i64 0, .int .i64 0, .int .i64 0, .string ByteArray.empty, .slice none 0 0] : Array Value)[i]? := fun i => (BB.cell (by simp)).trans (by simp [go_sem])
  have n1 := BB.size
  simp at n1
  have W1 : Below w.heap.size w w1 := Below.trans (by go_grown) (BB.mono (by omega))
  have k0 : w1.cell? ⟨w.heap.size + 1, 0, none⟩ = some (.int .i64 0) := (BB.cell (by simp)).trans (by simp [go_sem])
  have k1 : w1.cell? ⟨w.heap.size + 1, 1, none⟩ = some (.int .i64 0) := (BB.cell (by simp)).trans (by simp [go_sem])
  have k2 : w1.cell? ⟨w.heap.size + 1, 2, none⟩ = some (.slice none 0 0) := (BB.cell (by simp)).trans (by simp [go_sem])
  have k3 : w1.cell? ⟨w.heap.size + 1, 3, none⟩ = some (.slice none 0 0) := (BB.cell (by simp)).trans (by simp [go_sem])
  have k4 : w1.cell? ⟨w.heap.size + 1, 4, none⟩ = some (.slice none 0 0) := (BB.cell (by simp)).trans (by simp [go_sem])
  have k5 : w1.cell? ⟨w.heap.size + 2, 0, none⟩ = some (.int .i64 0) := (BB.cell (by simp)).trans (by simp [go_sem])
  have z1 : ∀ o, w1.frozen? ⟨w.heap.size + 1, o, none⟩ = false := fun o => (BB.frozen (by simp)).trans (by simp [go_sem])
  have z2 : ∀ o, w1.frozen? ⟨w.heap.size + 2, o, none⟩ = false := fun o => (BB.frozen (by simp)).trans (by simp [go_sem])
  clear BB hb
  go_wp2_with fail
  refine (validSize_any _ _ _).mono ?_
  rintro e w2 ⟨rfl, rfl⟩
  rw [HS.out]
  go_wp2_with fail
  refine wp_loop_rounds 1 ?_
  rw [rounds_succ]
  have P2 : ∀ o1 o2, Below w1.heap.size w1 ((w1.alloc o1).alloc o2) := fun _ _ => by go_grown
  have b00 : ∀ o1 o2, ((w1.alloc o1).alloc o2).cell? ⟨w.heap.size, 0, none⟩ = some (.int .i64 0) := fun o1 o2 => ((P2 o1 o2).cell (by simp; omega)).trans (b0 0)
  have b01 : ∀ o1 o2, ((w1.alloc o1).alloc o2).cell? ⟨w.heap.size, 1, none⟩ = some (.string ByteArray.empty) := fun o1 o2 => ((P2 o1 o2).cell (by simp; omega)).trans (b0 1)
  have b02 : ∀ o1 o2, ((w1.alloc o1).alloc o2).cell? ⟨w.heap.size, 2, none⟩ = some (.int .i64 0) := fun o1 o2 => ((P2 o1 o2).cell (by simp; omega)).trans (b0 2)
  have b03 : ∀ o1 o2, ((w1.alloc o1).alloc o2).cell? ⟨w.heap.size, 3, none⟩ = some (.int .i64 0) := fun o1 o2 => ((P2 o1 o2).cell (by simp; omega)).trans (b0 3)
  have b04 : ∀ o1 o2, ((w1.alloc o1).alloc o2).cell? ⟨w.heap.size, 4, none⟩ = some (.int .i64 0) := fun o1 o2 => ((P2 o1 o2).cell (by simp; omega)).trans (b0 4)
  have b05 : ∀ o1 o2, ((w1.alloc o1).alloc o2).cell? ⟨w.heap.size, 5, none⟩ = some (.int .i64 0) := fun o1 o2 => ((P2 o1 o2).cell (by simp; omega)).trans (b0 5)
  have b06 : ∀ o1 o2, ((w1.alloc o1).alloc o2).cell? ⟨w.heap.size, 6, none⟩ = some (.string ByteArray.empty) := fun o1 o2 => ((P2 o1 o2).cell (by simp; omega)).trans (b0 6)
  have b07 : ∀ o1 o2, ((w1.alloc o1).alloc o2).cell? ⟨w.heap.size, 7, none⟩ = some (.slice none 0 0) := fun o1 o2 => ((P2 o1 o2).cell (by simp; omega)).trans (b0 7)
  clear b0
  go_wp2_with fail
  refine (seval_black W H _ _ HS.out).mono ?_
  rintro e w3 ⟨r, rfl, hf, hb3⟩
  have HR := Lib.hid hf
  obtain ⟨ay, cy, au, cu, av, cv, rfl⟩ := hf.shape
  clear hf
  have B3 : Below w1.heap.size w1 w3 := (P2 _ _).trans (hb3.mono (by simp; omega))
  clear P2
  have n3 := B3.size
  replace k0 := (B3.cell (by simp; omega)).trans k0
  replace k1 := (B3.cell (by simp; omega)).trans k1
  replace k2 := (B3.cell (by simp; omega)).trans k2
  replace k3 := (B3.cell (by simp; omega)).trans k3
  replace k4 := (B3.cell (by simp; omega)).trans k4
  replace k5 := (B3.cell (by simp; omega)).trans k5
  replace z1 := fun o => (B3.frozen (p := ⟨w.heap.size + 1, o, none⟩) (by simp; omega)).trans (z1 o)
  replace z2 := fun o => (B3.frozen (p := ⟨w.heap.size + 2, o, none⟩) (by simp; omega)).trans (z2 o)
  have W3 := W1.trans (B3.mono (by omega))
  clear hb3 B3 W1 b00 b01 b02 b03 b04 b05 b06 b07
  go_wp2_with fail
  refine leaves_cons (f := 62) (args := #[.pointer (some ⟨w.heap.size + 1, 0, none⟩), .pointer (some ⟨w.heap.size + 1 + 1, 0, none⟩)]) (by simp) (by simp [go_sem]) ?_
  refine (idle62 _ _ _).mono ?_
  rintro e u' w'' ⟨rfl, rfl, rfl⟩
  simp [Leaves, settle, results, Try.results35, go_sem, k0, k1, k2, k3, k4, k5]
  refine ⟨FA.put (u := .int .i64 0) (HR.out.put5 k0 k1 k2 k3 k4) ?_ (by simp) _, by go_grown⟩
  iterate 5 rw [World.cell?_setCell_far _ _ _ _ (by simp)]
  exact k5

end Go.Proofs.Ytnnobdcbmagbaaa

/- A copy of bytes by append to a fresh empty slice, in any order of the region. -/
namespace Go.Proofs.Ytnnobdcbmagbaaa
open Go.RowKit

theorem wpList_clone2 (w : World) {ops : Array Oper} {rest : List Oper} {o : Oper} {a : Act} {Q : Exit → Act → World → Prop} (hgd : o.guard = none) (s x : Operand)
    (ho : o.op = .call { callee := .builtin .append, args := #[s, x], argTypes := #[24, 24] }) (e b off n c : Nat) (F : Nat → Int) (hs : a.eval s = .slice (some ⟨e, 0, none⟩) 0 0)
    (hx : a.eval x = .slice (some ⟨b, off, none⟩) n c) (hX : ∀ i, i < n → w.cell? ⟨b, off + i, none⟩ = some (.int .u8 (F i))) (hn : n ≤ 1048576) (hn0 : 0 < n)
    (h : ∀ g c' w', Row w' w.heap.size g n c' F → Plan.Ext w w' → wpList Try.prog ops Q rest (a.put o.dst (.slice (some ⟨g, 0, none⟩) n c')) w') : wpList Try.prog ops Q (o :: rest) a w := by
  obtain ⟨i0, hi, hz0, hz1, hz2⟩ := info_parts info5
  have hlen : ((List.range n).map fun i => Value.int .u8 (F i)).length = n * i0.size := by rw [hz1]; simp
  have hnews : ∀ j u, ((List.range n).map fun i => Value.int .u8 (F i))[j]? = some u → w.cell? ((⟨b, off, none⟩ : Addr).add j) = some u := fun j u hj => by
    have hjn : j < n := by
      have := (List.getElem?_eq_some_iff.1 hj).1
      simpa using this
    rw [List.getElem?_map, List.getElem?_range hjn] at hj
    simp only [Option.map_some, Option.some.injEq] at hj
    rw [Addr.add_lit, hX j hjn, hj]
  have r1 := run_append_nil (P := Try.prog) w 24 o.type 5 i0 (.int .u8 0) Try.underlying24 hi hz0 ⟨b, off, none⟩ n c _ hlen hnews hn0 (by omega) (by rw [hz2]; omega)
  have r2 := run_append_grow (P := Try.prog) w 24 o.type 5 i0 (.int .u8 0) Try.underlying24 hi hz0 ⟨e, 0, none⟩ 0 0 [] (by simp) (fun j v h => by simp at h) ⟨b, off, none⟩ n c _ hlen hnews (by omega) (by omega) (by rw [Nat.zero_add, nextslicecap_zero hn0, hz2]; omega)
  simp only [Nat.zero_add, Array.empty_append] at r2
  refine wpList_plain hgd fun K hK' => ?_
  obtain ⟨v', w', hr, hown', hg, hnil⟩ := run_append_own (P := Try.prog) w w.heap.size 24 o.type 5 i0 (.int .u8 0) 1 1 Try.underlying24 hi hz0 hz1 hz2 rfl (by decide) (.slice none 0 0) 0 [] ⟨rfl, .inl ⟨rfl, rfl⟩⟩ ⟨b, off, none⟩ n c ((List.range n).map fun i => .int .u8 (F i)) (by simp) hnews (fun u hu => by obtain ⟨i, _, rfl⟩ := List.mem_map.1 hu; rfl) (by unfold maxLen; omega) (by omega) (Nat.le_refl _)
  replace hr := r2.trans (r1.symm.trans hr)
  simp only [Nat.zero_add, List.nil_append] at hown'
  have hex : ∃ g cap, v' = .slice (some ⟨g, 0, none⟩) n cap := by
    rcases hown'.2 with ⟨rfl, hn0'⟩ | ⟨g, cap, cur, rfl, _⟩
    · exfalso; omega
    · exact ⟨g, cap, rfl⟩
  obtain ⟨g, cap, rfl⟩ := hex
  unfold Oper.wp execOp
  simp only [ho, resolve, invoke, builtin, Sem.run_bind, Sem.run_pure, Result.andThen_ok, List.map_toArray, List.map_cons, List.map_nil, hs, hx, hr]
  exact hK' _ _ (h g cap w' hown' ((Below.refl _ _).grown hg (Nat.le_refl _) (fun k h => by cases h)))
end Go.Proofs.Ytnnobdcbmagbaaa

/- The contracts of compose.Glyph and of the reference's Glyph: the rows of the font at the letter. -/
namespace Go.Proofs.Ytnnobdcbmagbaaa
open Go.RowKit

def fontL : List Int := [65, 50, 53, 55, 53, 53, 66, 54, 53, 54, 53, 54, 67, 51, 52, 52, 52, 51, 68, 54, 53, 53, 53, 54, 69, 55, 52, 54, 52, 55, 70, 55, 52, 54, 52, 52, 71, 51, 52, 53, 53, 51, 72, 53, 53, 55, 53, 53, 73, 55, 50, 50, 50, 55, 74, 49, 49, 49, 53, 50, 75, 53, 53, 54, 53, 53, 76, 52, 52, 52, 52, 55, 77, 53, 55, 55, 53, 53, 78, 54, 53, 53, 53, 53, 79, 50, 53, 53, 53, 50, 80, 54, 53, 54, 52, 52, 81, 50, 53, 53, 54, 51, 82, 54, 53, 54, 53, 53, 83, 51, 52, 50, 49, 54, 84, 55, 50, 50, 50, 50, 85, 53, 53, 53, 53, 55, 86, 53, 53, 53, 53, 50, 87, 53, 53, 55, 55, 53, 88, 53, 53, 50, 53, 53, 89, 53, 53, 50, 50, 50, 90, 55, 49, 50, 52, 55, 48, 55, 53, 53, 53, 55, 49, 50, 54, 50, 50, 55, 50, 54, 49, 50, 52, 55, 51, 54, 49, 50, 49, 54, 52, 53, 53, 55, 49, 49, 53, 55, 52, 54, 49, 54, 54, 51, 52, 55, 53, 55, 55, 55, 49, 50, 50, 50, 56, 55, 53, 55, 53, 55, 57, 55, 53, 55, 49, 54, 32, 48, 48, 48, 48, 48, 46, 48, 48, 48, 48, 50, 44, 48, 48, 48, 50, 52, 58, 48, 50, 48, 50, 48, 45, 48, 48, 55, 48, 48, 33, 50, 50, 50, 48, 50, 63, 54, 49, 50, 48, 50]
def fl (i : Nat) : Int := fontL.getD i 0

theorem font_at : ((List.range 258).all fun i => decide ((({ data := #[65, 50, 53, 55, 53, 53, 66, 54, 53, 54, 53, 54, 67, 51, 52, 52, 52, 51, 68, 54, 53, 53, 53, 54, 69, 55, 52, 54, 52, 55, 70, 55, 52, 54, 52, 52, 71, 51, 52, 53, 53, 51, 72, 53, 53, 55, 53, 53, 73, 55, 50, 50, 50, 55, 74, 49, 49, 49, 53, 50, 75, 53, 53, 54, 53, 53, 76, 52, 52, 52, 52, 55, 77, 53, 55, 55, 53, 53, 78, 54, 53, 53, 53, 53, 79, 50, 53, 53, 53, 50, 80, 54, 53, 54, 52, 52, 81, 50, 53, 53, 54, 51, 82, 54, 53, 54, 53, 53, 83, 51, 52, 50, 49, 54, 84, 55, 50, 50, 50, 50, 85, 53, 53, 53, 53, 55, 86, 53, 53, 53, 53, 50, 87, 53, 53, 55, 55, 53, 88, 53, 53, 50, 53, 53, 89, 53, 53, 50, 50, 50, 90, 55, 49, 50, 52, 55, 48, 55, 53, 53, 53, 55, 49, 50, 54, 50, 50, 55, 50, 54, 49, 50, 52, 55, 51, 54, 49, 50, 49, 54, 52, 53, 53, 55, 49, 49, 53, 55, 52, 54, 49, 54, 54, 51, 52, 55, 53, 55, 55, 55, 49, 50, 50, 50, 56, 55, 53, 55, 53, 55, 57, 55, 53, 55, 49, 54, 32, 48, 48, 48, 48, 48, 46, 48, 48, 48, 48, 50, 44, 48, 48, 48, 50, 52, 58, 48, 50, 48, 50, 48, 45, 48, 48, 55, 48, 48, 33, 50, 50, 50, 48, 50, 63, 54, 49, 50, 48, 50] } : ByteArray)[i]?).map (fun b => (b.toNat : Int)) = some (fl i))) = true := by kernel_rfl

set_option maxRecDepth 100000 in
theorem font_index (k : Int) (n : Nat) (w : World) (hk : k = (n : Int)) (hn : n < 258) : (Instr.index 9 (.string { data := #[65, 50, 53, 55, 53, 53, 66, 54, 53, 54, 53, 54, 67, 51, 52, 52, 52, 51, 68, 54, 53, 53, 53, 54, 69, 55, 52, 54, 52, 55, 70, 55, 52, 54, 52, 52, 71, 51, 52, 53, 53, 51, 72, 53, 53, 55, 53, 53, 73, 55, 50, 50, 50, 55, 74, 49, 49, 49, 53, 50, 75, 53, 53, 54, 53, 53, 76, 52, 52, 52, 52, 55, 77, 53, 55, 55, 53, 53, 78, 54, 53, 53, 53, 53, 79, 50, 53, 53, 53, 50, 80, 54, 53, 54, 52, 52, 81, 50, 53, 53, 54, 51, 82, 54, 53, 54, 53, 53, 83, 51, 52, 50, 49, 54, 84, 55, 50, 50, 50, 50, 85, 53, 53, 53, 53, 55, 86, 53, 53, 53, 53, 50, 87, 53, 53, 55, 55, 53, 88, 53, 53, 50, 53, 53, 89, 53, 53, 50, 50, 50, 90, 55, 49, 50, 52, 55, 48, 55, 53, 53, 53, 55, 49, 50, 54, 50, 50, 55, 50, 54, 49, 50, 52, 55, 51, 54, 49, 50, 49, 54, 52, 53, 53, 55, 49, 49, 53, 55, 52, 54, 49, 54, 54, 51, 52, 55, 53, 55, 55, 55, 49, 50, 50, 50, 56, 55, 53, 55, 53, 55, 57, 55, 53, 55, 49, 54, 32, 48, 48, 48, 48, 48, 46, 48, 48, 48, 48, 50, 44, 48, 48, 48, 50, 52, 58, 48, 50, 48, 50, 48, 45, 48, 48, 55, 48, 48, 33, 50, 50, 50, 48, 50, 63, 54, 49, 50, 48, 50] }) (.int .i64 k)).run Try.prog w = .ok (.int .u8 (fl n)) w := by
  subst hk
  have h := List.all_eq_true.mp font_at n (by simpa using hn)
  simp only [decide_eq_true_eq] at h
  have hs : ({ data := #[65, 50, 53, 55, 53, 53, 66, 54, 53, 54, 53, 54, 67, 51, 52, 52, 52, 51, 68, 54, 53, 53, 53, 54, 69, 55, 52, 54, 52, 55, 70, 55, 52, 54, 52, 52, 71, 51, 52, 53, 53, 51, 72, 53, 53, 55, 53, 53, 73, 55, 50, 50, 50, 55, 74, 49, 49, 49, 53, 50, 75, 53, 53, 54, 53, 53, 76, 52, 52, 52, 52, 55, 77, 53, 55, 55, 53, 53, 78, 54, 53, 53, 53, 53, 79, 50, 53, 53, 53, 50, 80, 54, 53, 54, 52, 52, 81, 50, 53, 53, 54, 51, 82, 54, 53, 54, 53, 53, 83, 51, 52, 50, 49, 54, 84, 55, 50, 50, 50, 50, 85, 53, 53, 53, 53, 55, 86, 53, 53, 53, 53, 50, 87, 53, 53, 55, 55, 53, 88, 53, 53, 50, 53, 53, 89, 53, 53, 50, 50, 50, 90, 55, 49, 50, 52, 55, 48, 55, 53, 53, 53, 55, 49, 50, 54, 50, 50, 55, 50, 54, 49, 50, 52, 55, 51, 54, 49, 50, 49, 54, 52, 53, 53, 55, 49, 49, 53, 55, 52, 54, 49, 54, 54, 51, 52, 55, 53, 55, 55, 55, 49, 50, 50, 50, 56, 55, 53, 55, 53, 55, 57, 55, 53, 55, 49, 54, 32, 48, 48, 48, 48, 48, 46, 48, 48, 48, 48, 50, 44, 48, 48, 48, 50, 52, 58, 48, 50, 48, 50, 48, 45, 48, 48, 55, 48, 48, 33, 50, 50, 50, 48, 50, 63, 54, 49, 50, 48, 50] } : ByteArray).size = 258 := by kernel_rfl
  rw [run_index_string _ _ _ _ _ Try.underlying9]
  have hc : 0 ≤ (n : Int) ∧ (n : Int) < (({ data := #[65, 50, 53, 55, 53, 53, 66, 54, 53, 54, 53, 54, 67, 51, 52, 52, 52, 51, 68, 54, 53, 53, 53, 54, 69, 55, 52, 54, 52, 55, 70, 55, 52, 54, 52, 52, 71, 51, 52, 53, 53, 51, 72, 53, 53, 55, 53, 53, 73, 55, 50, 50, 50, 55, 74, 49, 49, 49, 53, 50, 75, 53, 53, 54, 53, 53, 76, 52, 52, 52, 52, 55, 77, 53, 55, 55, 53, 53, 78, 54, 53, 53, 53, 53, 79, 50, 53, 53, 53, 50, 80, 54, 53, 54, 52, 52, 81, 50, 53, 53, 54, 51, 82, 54, 53, 54, 53, 53, 83, 51, 52, 50, 49, 54, 84, 55, 50, 50, 50, 50, 85, 53, 53, 53, 53, 55, 86, 53, 53, 53, 53, 50, 87, 53, 53, 55, 55, 53, 88, 53, 53, 50, 53, 53, 89, 53, 53, 50, 50, 50, 90, 55, 49, 50, 52, 55, 48, 55, 53, 53, 53, 55, 49, 50, 54, 50, 50, 55, 50, 54, 49, 50, 52, 55, 51, 54, 49, 50, 49, 54, 52, 53, 53, 55, 49, 49, 53, 55, 52, 54, 49, 54, 54, 51, 52, 55, 53, 55, 55, 55, 49, 50, 50, 50, 56, 55, 53, 55, 53, 55, 57, 55, 53, 55, 49, 54, 32, 48, 48, 48, 48, 48, 46, 48, 48, 48, 48, 50, 44, 48, 48, 48, 50, 52, 58, 48, 50, 48, 50, 48, 45, 48, 48, 55, 48, 48, 33, 50, 50, 50, 48, 50, 63, 54, 49, 50, 48, 50] } : ByteArray).size : Int) := by rw [hs]; omega
  rw [dif_pos hc]
  simp only [Int.toNat_natCast]
  rw [getElem?_pos _ n (by rw [hs]; exact hn)] at h
  simp only [Option.map_some, Option.some.injEq] at h
  rw [← h]

theorem font_small : ((List.range 258).all fun i => decide (32 ≤ fl i ∧ fl i < 128 ∧ (i % 6 = 0 ∨ 48 ≤ fl i ∧ fl i ≤ 55))) = true := by kernel_rfl

theorem fl_bd (n : Nat) (hn : n < 258) : 32 ≤ fl n ∧ fl n < 128 ∧ (n % 6 = 0 ∨ 48 ≤ fl n ∧ fl n ≤ 55) := by
  have h := List.all_eq_true.mp font_small n (by simpa using hn)
  simpa using h

def rowAt (k j : Nat) : Int := fl (6 * k + 1 + j) - 48
def rowsAt (k : Nat) : Value := .agg #[.int .i64 (rowAt k 0), .int .i64 (rowAt k 1), .int .i64 (rowAt k 2), .int .i64 (rowAt k 3), .int .i64 (rowAt k 4)]
def upper (c : Int) : Int := if 97 ≤ c ∧ c ≤ 122 then c - 32 else c
/-- The glyph's number in the font, if it is there. -/
def glyphK (c : Int) : Option Nat := (List.range 43).find? fun k => fl (6 * k) == upper c
def glyphV (c : Int) : Value := match glyphK c with
  | some k => rowsAt k
  | none => .agg #[.int .i64 7, .int .i64 7, .int .i64 7, .int .i64 7, .int .i64 7]

theorem glyphV_at (c : Int) (k : Nat) (hk : k < 43) (ho : ∀ j, j < k → fl (6 * j) ≠ upper c) (h : fl (6 * k) = upper c) : glyphV c = rowsAt k := by
  have : glyphK c = some k := by
    unfold glyphK
    rw [List.find?_range_eq_some]
    refine ⟨by simpa using h, by simpa using hk, fun j hj => by simpa using ho j hj⟩
  unfold glyphV
  rw [this]

theorem glyphV_no (c : Int) (ho : ∀ j, j < 43 → fl (6 * j) ≠ upper c) : glyphV c = .agg #[.int .i64 7, .int .i64 7, .int .i64 7, .int .i64 7, .int .i64 7] := by
  have : glyphK c = none := by
    unfold glyphK
    rw [List.find?_eq_none]
    intro j hj
    simpa using ho j (by simpa using hj)
  unfold glyphV
  rw [this]

set_option maxRecDepth 100000 in
set_option maxHeartbeats 4000000 in
theorem glyph_low (c : Int) (w : World) (h0 : 0 ≤ c) (h1 : c < 256) (h2 : c < 97) : Calls Try.prog 28 #[.int .u8 c] w fun e w' => e = .returned (glyphV c) ∧ Below w.heap.size w w' := by
  have hd : upper c = c := by unfold upper; rw [if_neg (by omega)]
  go_enter Try.func28, Try.ntmps28
  go_wp2_with fail
  (go_loopw [3] (fun i wr => ∃ k : Nat, k ≤ 43 ∧ i = .int .i64 ((6 * k : Nat) : Int) ∧ (∀ j, j < k → fl (6 * j) ≠ upper c) ∧ Below (w.heap.size + 1) (w.alloc (.cells #[.int .i64 0, .int .i64 0, .int .i64 0, .int .i64 0, .int .i64 0] 49)) wr) (fun i _ => 43 - (intOf i).toNat / 6))
  case atStart => exact ⟨0, by omega, rfl, fun j hj => by omega, Below.refl _ _⟩
  case round =>
    obtain ⟨k, hk, rfl, ho, hb⟩ := hrel
    by_cases hlt : k < 43
    · have hx0 := fun w => font_index (6 * (k : Int)) (6 * k) w (by simp) (by omega)
      have hx1 := fun w => font_index (6 * (k : Int) + 1) (6 * k + 1) w (by simp) (by omega)
      have hx2 := fun w => font_index (6 * (k : Int) + 1 + 1) (6 * k + 1 + 1) w (by simp) (by omega)
      have hx3 := fun w => font_index (6 * (k : Int) + 1 + 2) (6 * k + 1 + 2) w (by simp) (by omega)
      have hx4 := fun w => font_index (6 * (k : Int) + 1 + 3) (6 * k + 1 + 3) w (by simp) (by omega)
      have hx5 := fun w => font_index (6 * (k : Int) + 1 + 4) (6 * k + 1 + 4) w (by simp) (by omega)
      have hlt' : 6 * (k : Int) + 6 ≤ 258 := by omega
      have hc : ∀ j, wr.cell? ⟨w.heap.size, j, none⟩ = (#[Value.int .i64 0, .int .i64 0, .int .i64 0, .int .i64 0, .int .i64 0] : Array Value)[j]? := fun j => (hb.cell (by simp)).trans (by simp [go_sem])
      have k0 := hc 0
      have k1 := hc 1
      have k2 := hc 2
      have k3 := hc 3
      have k4 := hc 4
      simp at k0 k1 k2 k3 k4
      have z : ∀ o, wr.frozen? ⟨w.heap.size, o, none⟩ = false := fun o => (hb.frozen (by simp)).trans (by simp [go_sem])
      have W1 : Below w.heap.size w wr := Below.trans (by go_grown) (hb.mono (by omega))
      have nb := hb.size
      simp at nb
      have nb1 : w.heap.size < wr.heap.size := by omega
      have nb2 : ¬ wr.heap.size = w.heap.size := by omega
      clear hc
      by_cases he : fl (6 * k) = c
      · have g1 := fl_bd (6 * k + 1) (by omega)
        have g2 := fl_bd (6 * k + 1 + 1) (by omega)
        have g3 := fl_bd (6 * k + 1 + 2) (by omega)
        have g4 := fl_bd (6 * k + 1 + 3) (by omega)
        have g5 := fl_bd (6 * k + 1 + 4) (by omega)
        replace g1 : 48 ≤ fl (6 * k + 1) ∧ fl (6 * k + 1) ≤ 55 := by omega
        replace g2 : 48 ≤ fl (6 * k + 1 + 1) ∧ fl (6 * k + 1 + 1) ≤ 55 := by omega
        replace g3 : 48 ≤ fl (6 * k + 1 + 2) ∧ fl (6 * k + 1 + 2) ≤ 55 := by omega
        replace g4 : 48 ≤ fl (6 * k + 1 + 3) ∧ fl (6 * k + 1 + 3) ≤ 55 := by omega
        replace g5 : 48 ≤ fl (6 * k + 1 + 4) ∧ fl (6 * k + 1 + 4) ≤ 55 := by omega
        clear hb
        go_wp2_with fail
        refine wp_loop_rounds 6 ?_
        iterate 6
          rw [rounds_succ]
          go_wp2_with fail
        refine bodyPost_ret (v := rowsAt k) (by simp [results, Try.results28, go_sem, k0, k1, k2, k3, k4, rowsAt, rowAt, nb1]) rfl ?_
        exact ⟨by rw [glyphV_at c k (by omega) ho (by rw [hd]; exact he)], by go_grown⟩
      · have HB := Lib.hid hb
        clear hb
        go_wp2_with fail
        go_roundw
        case rel => exact ⟨k + 1, by omega, by go_num, fun j hj => by by_cases hjk : j = k; (subst hjk; rw [hd]; exact he); exact ho j (by omega), HB.out⟩
        case measure => simp [intOf]; omega
    · obtain rfl : k = 43 := by omega
      have hc : ∀ j, wr.cell? ⟨w.heap.size, j, none⟩ = (#[Value.int .i64 0, .int .i64 0, .int .i64 0, .int .i64 0, .int .i64 0] : Array Value)[j]? := fun j => (hb.cell (by simp)).trans (by simp [go_sem])
      have k0 := hc 0
      have k1 := hc 1
      have k2 := hc 2
      have k3 := hc 3
      have k4 := hc 4
      simp at k0 k1 k2 k3 k4
      have z : ∀ o, wr.frozen? ⟨w.heap.size, o, none⟩ = false := fun o => (hb.frozen (by simp)).trans (by simp [go_sem])
      have W1 : Below w.heap.size w wr := Below.trans (by go_grown) (hb.mono (by omega))
      clear hc hb
      go_wp2_with fail
      refine bodyPost_ret (v := .agg #[.int .i64 7, .int .i64 7, .int .i64 7, .int .i64 7, .int .i64 7]) (by simp [results, Try.results28, go_sem, k0, k1, k2, k3, k4]) rfl ?_
      exact ⟨by rw [glyphV_no c ho], by go_grown⟩

end Go.Proofs.Ytnnobdcbmagbaaa

/- A copy of bytes by append; the contracts of Wipe's place and cover. -/
namespace Go.Proofs.Ytnnobdcbmagbaaa
open Go.RowKit

/-- 'append([]byte{}, x...)': the empty slice lies at block e. -/
theorem wpList_clone (w : World) {ops : Array Oper} {rest : List Oper} {o : Oper} {a : Act} {Q : Exit → Act → World → Prop} (hgd : o.guard = none) (s x : Operand)
    (ho : o.op = .call { callee := .builtin .append, args := #[s, x], argTypes := #[24, 24] }) (B e b off n c : Nat) (F : Nat → Int) (hs : a.eval s = .slice (some ⟨e, 0, none⟩) 0 0)
    (he : w.heap[e]? = some (.cells #[] 5 (0, 0))) (hB : B ≤ e) (hx : a.eval x = .slice (some ⟨b, off, none⟩) n c) (hX : ∀ i, i < n → w.cell? ⟨b, off + i, none⟩ = some (.int .u8 (F i))) (hn : n ≤ 1048576)
    (h : ∀ g c' w', Row w' B g n c' F → w.grownBy w' (some e) → wpList Try.prog ops Q rest (a.put o.dst (.slice (some ⟨g, 0, none⟩) n c')) w') : wpList Try.prog ops Q (o :: rest) a w := by
  obtain ⟨i0, hi, hz0, hz1, hz2⟩ := info_parts info5
  have hlt : e < w.heap.size := (Array.getElem?_eq_some_iff.1 he).1
  have hown : w.ownsRow B 5 1 (.slice (some ⟨e, 0, none⟩) 0 0) 0 [] := ⟨rfl, .inr ⟨e, 0, #[], rfl, hB, he, Nat.le_refl _, by unfold maxLen; omega, rfl, rfl⟩⟩
  refine wpList_append_own _ hgd s x 24 ho B 5 i0 (.int .u8 0) 1 1 Try.underlying24 hi hz0 hz1 hz2 rfl (by decide) _ 0 [] hs hown ⟨b, off, none⟩ n c ((List.range n).map fun i => .int .u8 (F i)) hx (by simp) (fun j u hj => ?_) (fun u hu => ?_) (by unfold maxLen; omega) (by omega) (by omega) ?_
  · have hjn : j < n := by
      have := (List.getElem?_eq_some_iff.1 hj).1
      simpa using this
    rw [List.getElem?_map, List.getElem?_range hjn] at hj
    simp only [Option.map_some, Option.some.injEq] at hj
    rw [Addr.add_lit, hX j hjn, hj]
  · obtain ⟨i, _, rfl⟩ := List.mem_map.1 hu
    rfl
  · intro v' w' hown' hg hnil
    simp only [Nat.zero_add, List.nil_append] at hown'
    have hex : ∃ g cap, v' = .slice (some ⟨g, 0, none⟩) n cap := by
      rcases hown'.2 with ⟨rfl, hn0⟩ | ⟨g, cap, cur, rfl, _⟩
      · exfalso
        have := hnil.1 rfl
        simp at this
      · exact ⟨g, cap, rfl⟩
    obtain ⟨g, cap, rfl⟩ := hex
    exact h g cap w' hown' hg

def placeF (x y w h d : Int) : Int × Int := if d = 0 then (x, w) else if d = 1 then (w - 1 - x, w) else if d = 2 then (y, h) else (h - 1 - y, h)

theorem ret_pair {a b c d : Int} (h : (a, b) = (c, d)) : Ending.returned (.tuple #[.int .i64 a, .int .i64 b]) = Ending.returned (.tuple #[.int .i64 c, .int .i64 d]) := by cases h; rfl

set_option maxHeartbeats 400000 in
theorem place_any (x y ww hh d : Int) (w : World) (hx : 0 ≤ x) (hx2 : x < 64) (hy : 0 ≤ y) (hy2 : y < 64) (hw : 1 ≤ ww) (hw2 : ww ≤ 64) (hh1 : 1 ≤ hh) (hh2 : hh ≤ 64) :
    Calls Try.prog 53 #[.int .i64 x, .int .i64 y, .int .i64 ww, .int .i64 hh, .int .i64 d] w fun e w' => e = .returned (.tuple #[.int .i64 (placeF x y ww hh d).1, .int .i64 (placeF x y ww hh d).2]) ∧ w = w' := by
  by_cases h0 : d = 0
  · subst h0
    go_enter Try.func53, Try.ntmps53
    go_wp2
    go_ret2
    exact ⟨rfl, rfl⟩
  by_cases h1 : d = 1
  · subst h1
    go_enter Try.func53, Try.ntmps53
    go_wp2
    go_ret2
    exact ⟨rfl, rfl⟩
  by_cases h2 : d = 2
  · subst h2
    go_enter Try.func53, Try.ntmps53
    go_wp2
    go_ret2
    exact ⟨rfl, rfl⟩
  have e0 : (d == 0) = false := by simpa using h0
  have e1 : (d == 1) = false := by simpa using h1
  have e2 : (d == 2) = false := by simpa using h2
  have HF := Lib.hid (show placeF x y ww hh d = (hh - 1 - y, hh) by simp [placeF, h0, h1, h2])
  clear h0 h1 h2
  go_enter Try.func53, Try.ntmps53
  go_wp2
  go_ret2
  exact ⟨by rw [HF.out]; rfl, rfl⟩

end Go.Proofs.Ytnnobdcbmagbaaa

/- The contract of Wipe's cover. -/
namespace Go.Proofs.Ytnnobdcbmagbaaa
open Go.RowKit

def wipeF (W H d num den : Int) (X Y : Nat → Int) (i : Nat) : Int :=
  if (placeF ((i : Int) % W) ((i : Int) / W) W H d).1 * den < (placeF ((i : Int) % W) ((i : Int) / W) W H d).2 * num then Y i else X i

theorem div_bd {k : Nat} {W H : Int} (hW : 1 ≤ W) (hk : (k : Int) < W * H) : 0 ≤ (k : Int) % W ∧ (k : Int) % W < W ∧ 0 ≤ (k : Int) / W ∧ (k : Int) / W < H := by
  refine ⟨Int.emod_nonneg _ (by omega), Int.emod_lt_of_pos _ (by omega), Int.ediv_nonneg (by omega) (by omega), ?_⟩
  exact Int.ediv_lt_of_lt_mul (by omega) (by rw [Int.mul_comm]; exact hk)

theorem place_bd {x y w h d : Int} (hx : 0 ≤ x) (hx2 : x < w) (hy : 0 ≤ y) (hy2 : y < h) (hw2 : w ≤ 64) (hh2 : h ≤ 64) :
    0 ≤ (placeF x y w h d).1 ∧ (placeF x y w h d).1 < 64 ∧ 0 ≤ (placeF x y w h d).2 ∧ (placeF x y w h d).2 ≤ 64 := by
  unfold placeF
  split
  · exact ⟨by simp; omega, by simp; omega, by simp; omega, by simp; omega⟩
  split
  · exact ⟨by simp; omega, by simp; omega, by simp; omega, by simp; omega⟩
  split
  · exact ⟨by simp; omega, by simp; omega, by simp; omega, by simp; omega⟩
  · exact ⟨by simp; omega, by simp; omega, by simp; omega, by simp; omega⟩

theorem mul_bd {x y : Int} (h1 : 0 ≤ x) (h2 : x ≤ 64) (h3 : 0 ≤ y) (h4 : y ≤ 2147483648) : 0 ≤ x * y ∧ x * y ≤ 64 * 2147483648 :=
  ⟨Int.mul_nonneg h1 h3, Int.mul_le_mul h2 h4 h3 (by omega)⟩

set_option maxRecDepth 100000 in
set_option maxHeartbeats 1000000 in
theorem cover_any (n : Nat) (X Y : Nat → Int) (W H d num den : Int) (bn be bd bx ox cx by' oy cy : Nat) (w : World) (hn0 : 1 ≤ n) (hn : n ≤ 4096) (hW : 1 ≤ W) (hW2 : W ≤ 64) (hH : 1 ≤ H) (hH2 : H ≤ 64) (hWH : (n : Int) = W * H)
    (hX : ∀ i, i < n → w.cell? ⟨bx, ox + i, none⟩ = some (.int .u8 (X i))) (hcx : n ≤ cx)
    (hY : ∀ i, i < n → w.cell? ⟨by', oy + i, none⟩ = some (.int .u8 (Y i))) (hcy : n ≤ cy)
    (hd1 : 1 ≤ den) (hd2 : den ≤ 2147483648) (hn1 : 0 ≤ num) (hn2 : num ≤ den)
    (hcd : w.cell? ⟨bd, 0, none⟩ = some (.int .i64 d)) (hce : w.cell? ⟨be, 0, none⟩ = some (.int .i64 den)) (hcn : w.cell? ⟨bn, 0, none⟩ = some (.int .i64 num)) :
    Calls Try.prog 52 #[.slice (some ⟨bx, ox, none⟩) n cx, .slice (some ⟨by', oy, none⟩) n cy, .int .i64 W, .int .i64 H, .pointer (some ⟨bd, 0, none⟩), .pointer (some ⟨be, 0, none⟩), .pointer (some ⟨bn, 0, none⟩)] w fun e w' => ∃ g c,
       e = .returned (.slice (some ⟨g, 0, none⟩) n c) ∧ Row w' w.heap.size g n c (wipeF W H d num den X Y) ∧ Below w.heap.size w w' := by
  have lt1 := block_lt_of_cell hcd
  have lt2 := block_lt_of_cell hcn
  have lt0 := block_lt_of_cell hce
  have lt3 := block_lt_of_cell (hX 0 hn0)
  have lt4 := block_lt_of_cell (hY 0 hn0)
  simp only at lt0 lt1 lt2 lt3 lt4
  have HW := Lib.hid hWH
  clear hWH
  go_enter Try.func52, Try.ntmps52
  go_wp2_with (at_builtin; refine wpList_clone _ rfl _ _ rfl w.heap.size w.heap.size bx ox n cx X rfl (heap_alloc_new _ _) (Nat.le_refl _) rfl ?_ (by omega) ?_)
  · intro i hi; rw [World.cell?_alloc_past _ _ _ (by omega)]; exact hX i hi
  · intro g c w1 hr hg
    have hb1 : Below w.heap.size w w1 := (below_box w _).grown hg (by simp) (fun k h => by cases h; exact Nat.le_refl _)
    have hgl := hr.le
    clear hg
    go_wp2
    go_loopw [21] (fun i wr => ∃ k : Nat, k ≤ n ∧ i = .int .i64 k ∧ Row wr w.heap.size g n c (fun i => if i < k then wipeF W H d num den X Y i else X i) ∧ Below w.heap.size w wr) (fun i _ => n - (intOf i).toNat)
    case atStart => exact ⟨0, Nat.zero_le _, rfl, hr.congr (fun i _ => by simp), hb1⟩
    case round =>
      obtain ⟨k, hk, rfl, ho, hb⟩ := hrel
      by_cases hlt : k < n
      · have hc := ho.cell k hlt
        rw [if_neg (by omega)] at hc
        have hf := World.ownsRow.frozenAt ho k
        have hYk := (hb.cell (p := ⟨by', oy + k, none⟩) lt4).trans (hY k hlt)
        have hcd' := (hb.cell (p := ⟨bd, 0, none⟩) lt1).trans hcd
        have hce' := (hb.cell (p := ⟨be, 0, none⟩) lt0).trans hce
        have hcn' := (hb.cell (p := ⟨bn, 0, none⟩) lt2).trans hcn
        have cdr : wr.drew.cell? ⟨bd, 0, none⟩ = some (.int .i64 d) := hcd'
        obtain ⟨m1, m2, m3, m4⟩ := div_bd (k := k) (H := H) hW (by rw [← HW.out]; omega)
        have pb := place_bd (d := d) m1 m2 m3 m4 hW2 hH2
        have HO := Lib.hid ho
        have HD : Hid (wipeF W H d num den X Y k = if (placeF ((k : Int) % W) ((k : Int) / W) W H d).1 * den < (placeF ((k : Int) % W) ((k : Int) / W) W H d).2 * num then Y k else X k) := Lib.hid rfl
        generalize hq : placeF ((k : Int) % W) ((k : Int) / W) W H d = q at *
        obtain ⟨p, s⟩ := q
        have HQ := Lib.hid hq
        obtain ⟨pb1, pb2, pb3, pb4⟩ := pb
        simp only at pb1 pb2 pb3 pb4
        have u1 := mul_bd (x := p) (y := den) (by omega) (by omega) (by omega) (by omega)
        have u2 := mul_bd (x := s) (y := num) (by omega) (by omega) (by omega) (by omega)
        have v1 := IntWalk.i64_in (p * den) (by omega)
        have v2 := IntWalk.i64_in (s * num) (by omega)
        clear hX hY hr hb1 hcd hcn hce ho hq
        by_cases ht : p * den < s * num
        · have HT : Hid (wipeF W H d num den X Y k = Y k) := Lib.hid (by rw [HD.out]; exact if_pos ht)
          go_wp2
          refine Plan.wp_region_plan (fun w' => w'.cell? ⟨bd, 0, none⟩ = some (.int .i64 d)) (([0, 1, 2, 3, 4, 5, 6, 7, 8].map (·, true)) ++ (([9].map (·, false)) ++ (([10, 11, 12, 13, 14].map (·, true))))) (by kernel_rfl) (by kernel_rfl) (by kernel_rfl) cdr ?_
          refine' Plan.plan_seg _ [0, 1, 2, 3, 4, 5, 6, 7, 8] (([9].map (·, false)) ++ (([10, 11, 12, 13, 14].map (·, true)))) (by kernel_rfl) (by kernel_rfl) rfl (by exact cdr) (fun wx hS => ?_) ?_
          rotate_left
          · iterate 9 (apply Plan.seg_pick; rfl; intro K hK; go_wp)
            exact Plan.seg_nil
          refine Plan.plan_of_effect rfl (fun K hK => ?_)
          go_wp2_with fail
          refine (place_any _ _ _ _ _ _ (by omega) (by omega) (by omega) (by omega) (by omega) (by omega) (by omega) (by omega)).mono ?_
          rintro e wz ⟨rfl, rfl⟩
          rw [HQ.out]
          go_wp2_with fail
          refine ⟨cdr, ?_⟩
          refine' Plan.plan_seg _ [10, 11, 12, 13, 14] ([]) (by kernel_rfl) (by kernel_rfl) rfl (by exact cdr) (fun wx hS => ?_) ?_
          rotate_left
          · iterate 5 (apply Plan.seg_pick; rfl; intro K hK; go_wp)
            exact Plan.seg_nil
          refine Plan.plan_done ?_
          go_wp2
          go_roundw
          case rel =>
            refine ⟨k+1, by omega, by go_num, (HO.out.store k (F' := fun i => if i < k + 1 then wipeF W H d num den X Y i else X i) ?_ ?_), (hb.setCell (by simp; omega) _).drew⟩
            · simp [HT.out]
            · intro i _ hik; exact ite_iff (by omega)
          case measure => simp [intOf]; omega
        · have HT : Hid (wipeF W H d num den X Y k = X k) := Lib.hid (by rw [HD.out]; exact if_neg ht)
          go_wp2
          refine Plan.wp_region_plan (fun w' => w'.cell? ⟨bd, 0, none⟩ = some (.int .i64 d)) (([0, 1, 2, 3, 4, 5, 6, 7, 8].map (·, true)) ++ (([9].map (·, false)) ++ (([10, 11, 12, 13, 14].map (·, true))))) (by kernel_rfl) (by kernel_rfl) (by kernel_rfl) cdr ?_
          refine' Plan.plan_seg _ [0, 1, 2, 3, 4, 5, 6, 7, 8] (([9].map (·, false)) ++ (([10, 11, 12, 13, 14].map (·, true)))) (by kernel_rfl) (by kernel_rfl) rfl (by exact cdr) (fun wx hS => ?_) ?_
          rotate_left
          · iterate 9 (apply Plan.seg_pick; rfl; intro K hK; go_wp)
            exact Plan.seg_nil
          refine Plan.plan_of_effect rfl (fun K hK => ?_)
          go_wp2_with fail
          refine (place_any _ _ _ _ _ _ (by omega) (by omega) (by omega) (by omega) (by omega) (by omega) (by omega) (by omega)).mono ?_
          rintro e wz ⟨rfl, rfl⟩
          rw [HQ.out]
          go_wp2_with fail
          refine ⟨cdr, ?_⟩
          refine' Plan.plan_seg _ [10, 11, 12, 13, 14] ([]) (by kernel_rfl) (by kernel_rfl) rfl (by exact cdr) (fun wx hS => ?_) ?_
          rotate_left
          · iterate 5 (apply Plan.seg_pick; rfl; intro K hK; go_wp)
            exact Plan.seg_nil
          refine Plan.plan_done ?_
          go_wp2
          go_roundw
          case rel =>
            refine ⟨k+1, by omega, by go_num, HO.out.congr (fun i hi => ?_), hb.drew⟩
            by_cases hik : i = k
            · subst hik; simp [HT.out]
            · exact ite_iff (by omega)
          case measure => simp [intOf]; omega
      · obtain rfl : k = n := by omega
        have HO := Lib.hid (ho.congr (F' := wipeF W H d num den X Y) (fun i hi => if_pos hi))
        clear ho hr hb1
        go_wp2
        go_ret
        exact ⟨_, _, rfl, HO.out, hb⟩

end Go.Proofs.Ytnnobdcbmagbaaa
