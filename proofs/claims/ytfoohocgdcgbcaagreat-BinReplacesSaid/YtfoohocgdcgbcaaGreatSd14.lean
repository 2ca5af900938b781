/- Rows.BinSidesSaid is proved here, for every input; the walk is law_sides. -/
import Derived.Handy
import Derived.OwnWalk
import Derived.ProofKit
import Derived.OpenShut
import Derived.Carry
import Derived.ChangeSlices
import Derived.ChangeSame
import Derived.Test.YtfoohocgdcgbcaaGreatRows
import Derived.WalkKit
import Derived.Test.YtfoohocgdcgbcaaGreatSd01
import Derived.Test.YtfoohocgdcgbcaaGreatSd11
import Derived.Test.YtfoohocgdcgbcaaGreatSd12
import Derived.Test.YtfoohocgdcgbcaaGreatSd13
set_option linter.unusedVariables false
set_option linter.unusedSimpArgs false

/- Step at the empty state. -/
namespace Go.Proofs.YtfoohocgdcgbcaaGreat
open Go.RowKit
set_option linter.unusedVariables false
set_option linter.unusedSimpArgs false
def evB (w : World) : World := w.alloc (.cells #[.int .i64 7, .string ⟨#[]⟩, .string ⟨#[]⟩, .int .i64 0, .int .i64 1, .slice none 0 0] 59)
set_option maxRecDepth 100000 in
set_option maxHeartbeats 8000000 in
theorem docs_nil (w : World) : Calls Tryz.prog 102 #[.slice none 0 0] w fun e w' => e = .returned (.slice none 0 0) ∧ w' = w := by
  have hnil := fun w => Go.run_eql_slice_nil (P := Tryz.prog) w 53 65 none 0 0 Tryz.underlying53
  go_enter Tryz.func102, Tryz.ntmps102
  go_wp2_with fail
  go_ret
  exact ⟨rfl, rfl⟩
set_option maxRecDepth 100000 in
set_option maxHeartbeats 8000000 in
theorem fields_tick (w : World) : Calls Tryz.prog 101 #[.agg #[.int .i64 7, .string ⟨#[]⟩, .string ⟨#[]⟩, .int .i64 0, .int .i64 1, .slice none 0 0]] w fun e w' => e = .returned (.bool true) ∧ w' = w.alloc (.cells #[.int .i64 7, .string ⟨#[]⟩, .string ⟨#[]⟩, .int .i64 0, .int .i64 1, .slice none 0 0] 59) := by
  go_enter Tryz.func101, Tryz.ntmps101
  go_wp2_with fail
  go_ret
  exact ⟨rfl, rfl⟩
set_option maxRecDepth 100000 in
set_option maxHeartbeats 8000000 in
theorem convert_tick (w : World) : Calls Tryz.prog 62 #[.agg #[.int .i64 7, .string ⟨#[]⟩, .string ⟨#[]⟩, .int .i64 0, .int .i64 1, .slice none 0 0]] w fun e w' => e = .returned (.tuple #[.iface 154 (.agg #[.int .i64 1]), .bool true]) ∧ w' = ((w.alloc (.cells #[.int .i64 7, .string ⟨#[]⟩, .string ⟨#[]⟩, .int .i64 0, .int .i64 1, .slice none 0 0] 59)).alloc (.cells #[.int .i64 7, .string ⟨#[]⟩, .string ⟨#[]⟩, .int .i64 0, .int .i64 1, .slice none 0 0] 59)).alloc (.cells #[.int .i64 7, .string ⟨#[]⟩, .string ⟨#[]⟩] 142) := by
  go_enter Tryz.func62, Tryz.ntmps62
  go_wp2_with fail
  refine (fields_tick _).mono ?_
  rintro e w1 ⟨rfl, rfl⟩
  go_wp2_with fail
  go_ret2
  exact ⟨rfl, rfl⟩
set_option maxRecDepth 100000 in
set_option maxHeartbeats 8000000 in
theorem tick_none (w : World) : Calls Tryz.prog 103 #[.agg #[.int .i64 0, .slice none 0 0], .int .i64 1] w fun e w' => e = .returned (.tuple #[.agg #[.int .i64 1, .slice none 0 0], .slice none 0 0, .int .i64 0]) ∧ w' = (w.alloc (.cells #[.int .i64 1, .slice none 0 0] 55)).alloc (.cells #[.int .i64 1, .slice none 0 0] 55) := by
  go_enter Tryz.func103, Tryz.ntmps103
  go_wp2_with fail
  go_loop [7, 24] (fun v7 i => v7 = .slice none 0 0 ∧ i = .int .i64 0) (fun _ _ => 0)
  case atStart => exact ⟨rfl, rfl⟩
  case round =>
    obtain ⟨rfl, rfl⟩ := hrel
    go_wp2_with fail
    go_returns
    exact ⟨rfl, rfl⟩
set_option maxRecDepth 100000 in
set_option maxHeartbeats 8000000 in
theorem clone_none (n : Int) (w : World) : Calls Tryz.prog 64 #[.agg #[.int .i64 n, .slice none 0 0]] w fun e w' => e = .returned (.agg #[.int .i64 n, .slice none 0 0]) ∧ w' = (w.alloc (.cells #[.int .i64 n, .slice none 0 0] 55)).alloc (.cells #[.int .i64 n, .slice none 0 0] 55) := by
  go_enter Tryz.func64, Tryz.ntmps64
  go_wp2_with fail
  refine (docs_nil _).mono ?_
  rintro e w1 ⟨rfl, rfl⟩
  go_wp2_with fail
  go_loop [13] (fun i => i = .int .i64 0) (fun _ => 0)
  case atStart => rfl
  case round =>
    subst hrel
    go_wp2_with fail
    go_returns
    exact ⟨rfl, rfl⟩
set_option maxRecDepth 100000 in
set_option maxHeartbeats 8000000 in
theorem valid_none (w : World) : Calls Tryz.prog 38 #[.agg #[.int .i64 0, .slice none 0 0]] w fun e w' => e = .returned (.bool true) ∧ w' = (w.alloc (.cells #[.int .i64 0, .slice none 0 0] 55)).alloc (.map #[] 0) := by
  have hmm := @run_makeMap Tryz.prog
  go_enter Tryz.func38, Tryz.ntmps38
  go_wp2_with fail
  go_loop [24] (fun i => i = .int .i64 0) (fun _ => 0)
  case atStart => rfl
  case round =>
    subst hrel
    go_wp2_with fail
    go_returns
    exact ⟨rfl, rfl⟩
theorem ta_154_154 (x : Value) (w : World) : (Instr.typeAssert (.iface 154 x) 20 154 true).run Tryz.prog w = .ok (.tuple #[x, .bool true]) w := by
  simp [Instr.typeAssert, run_underlying Tryz.underlying154]
set_option maxRecDepth 100000 in
set_option maxHeartbeats 8000000 in
theorem step_none (w : World) : Calls Tryz.prog 63 #[.agg #[.int .i64 0, .slice none 0 0], .iface 154 (.agg #[.int .i64 1])] w fun e w' => e = .returned (.tuple #[.agg #[.int .i64 1, .slice none 0 0], .slice none 0 0, .int .i64 0]) ∧ w' = ((((w.alloc (.cells #[.int .i64 0, .slice none 0 0] 55)).alloc (.cells #[.int .i64 1, .slice none 0 0] 55)).alloc (.cells #[.int .i64 1] 154)).alloc (.cells #[.int .i64 1, .slice none 0 0] 55)).alloc (.cells #[.int .i64 1, .slice none 0 0] 55) := by
  have hta := ta_154_154
  go_enter Tryz.func63, Tryz.ntmps63
  go_wp2_with fail
  refine (docs_nil _).mono ?_
  rintro e w1 ⟨rfl, rfl⟩
  go_wp2_with fail
  refine (tick_none _).mono ?_
  rintro e w1 ⟨rfl, rfl⟩
  go_wp2_with fail
  go_returns
  exact ⟨rfl, rfl⟩
set_option maxRecDepth 100000 in
set_option maxHeartbeats 8000000 in
theorem step_tick (w : World) : Calls Tryz.prog 26 #[.agg #[.int .i64 0, .slice none 0 0], .agg #[.int .i64 7, .string ⟨#[]⟩, .string ⟨#[]⟩, .int .i64 0, .int .i64 1, .slice none 0 0]] w fun e w' => e = .returned (.tuple #[.agg #[.int .i64 1, .slice none 0 0], .slice none 0 0, .int .i64 0]) ∧ Below w.heap.size w w' := by
  go_enter Tryz.func26, Tryz.ntmps26
  go_wp2_with fail
  refine (valid_none _).mono ?_
  rintro e w1 ⟨rfl, rfl⟩
  go_wp2_with fail
  refine (convert_tick _).mono ?_
  rintro e w1 ⟨rfl, rfl⟩
  go_wp2_with fail
  refine (step_none _).mono ?_
  rintro e w1 ⟨rfl, rfl⟩
  go_wp2_with fail
  refine (clone_none _ _).mono ?_
  rintro e w1 ⟨rfl, rfl⟩
  go_wp2_with fail
  go_returns
  exact ⟨rfl, by go_grown⟩
end Go.Proofs.YtfoohocgdcgbcaaGreat

/- The law of sides: long, awake, the law. -/
namespace Go.Proofs.YtfoohocgdcgbcaaGreat
open Go.RowKit
set_option linter.unusedVariables false
set_option linter.unusedSimpArgs false
def longC : Trk.Clip := ⟨150, 1, ⟨1, ⟨#[122]⟩, 0, 1, 1, 1, false⟩, Trk.black, 0, 0, 0, ByteArray.empty, 0, []⟩
theorem nf_long : Trk.nf [longC] = [longC] := rfl
theorem nf_gap1 : Trk.nf [Trk.gap 1] = [] := rfl
theorem nf_nil0 : Trk.nf [] = [] := rfl
theorem long_vt : VT 1000000 [longC] := by
  refine ⟨fun c hc => ?_, by decide, by decide⟩
  rw [List.mem_singleton] at hc
  subst hc
  have hn : Trk.okName ⟨#[122]⟩ := .inr ⟨122, rfl, by decide, by decide⟩
  have ha : TapeS longC.a := tape_src (.inl rfl) hn ⟨by decide, by decide, by decide, by decide, by decide⟩ ⟨by decide, by decide, by decide, by decide, by decide⟩
  have hs : Trk.SrcIn 1000000 150 longC.a := by
    rcases ha with h | ⟨h1, h2, h3, -, -, -, -⟩
    · exact absurd h (by decide)
    · exact .inr ⟨h1, h2, h3, by decide, by decide, by decide, by decide, by decide, by decide⟩
  exact ⟨⟨hs, .inl rfl, rfl, rfl, .inr (.inl ⟨rfl, rfl, rfl, rfl, rfl, rfl⟩)⟩, by decide, by decide, fun h => by simp [longC, Trk.shares] at h⟩
theorem gap1_vt : VT 1000000 [Trk.gap 1] := by
  refine ⟨fun c hc => ?_, by decide, by decide⟩
  rw [List.mem_singleton] at hc
  subst hc
  exact ⟨⟨.inl rfl, .inl rfl, rfl, rfl, .inl ⟨rfl, rfl, rfl, rfl, rfl, rfl, rfl⟩⟩, by decide, by decide, fun h => by simp [Trk.gap, Trk.shares] at h⟩
theorem nil_vt : VT 1000000 [] := ⟨Trk.VL.nil, by decide, by decide⟩
set_option maxRecDepth 100000 in
set_option maxHeartbeats 8000000 in
theorem long_any (w : World) : Calls Tryz.prog 23 #[] w (OTPost w [longC]) := by
  go_enter Tryz.func23, Tryz.ntmps23
  go_wp2_with fail
  go_ret
  exact ⟨_, rfl, OT.box w longC, below_box _ _⟩
set_option maxRecDepth 100000 in
set_option maxHeartbeats 8000000 in
theorem awake_any (w : World) : Calls Tryz.prog 20 #[] w fun e w' => e = .returned (.bool true) ∧ Below w.heap.size w w' := by
  go_enter Tryz.func20, Tryz.ntmps20
  go_wp2_with fail
  refine (long_any _).mono ?_
  rintro e w1 ⟨v1, rfl, ho, hb⟩
  have HO := Lib.hid ho
  have HB := Lib.hid hb
  clear ho hb
  go_wp2_with fail
  refine (merge_short (.slice none 0 0) (.slice none 0 0) v1 [] [] [longC] w1 (OT.nil _ 0).tk (OT.nil _ 0).tk HO.out.tk nil_vt nil_vt long_vt (by decide) (.inr (.inr rfl))).mono ?_
  rintro e w2 ⟨m1, rfl, ho, hb⟩
  have e1 : shortL [] [] [longC] = [longC] := rfl
  rw [e1] at ho
  have HM := Lib.hid ho
  replace HB := Lib.hid (HB.out.trans (hb.mono HB.out.size))
  clear ho hb e1
  go_wp2_with fail
  refine (long_any _).mono ?_
  rintro e w3 ⟨v2, rfl, ho, hb⟩
  replace HO := Lib.hid ho
  replace HM := Lib.hid (HM.out.below hb)
  replace HB := Lib.hid (HB.out.trans (hb.mono HB.out.size))
  clear ho hb
  go_wp2_with fail
  have hgv : OT (w3.alloc (.cells (clipC (Trk.gap 1)).toArray 48)) w3.heap.size (.slice (some ⟨w3.heap.size, 0, none⟩) 1 1) [Trk.gap 1] := OT.box w3 (Trk.gap 1)
  have hbb : Below w3.heap.size w3 (w3.alloc (.cells (clipC (Trk.gap 1)).toArray 48)) := below_box _ _
  refine (merge_short v2 (.slice (some ⟨w3.heap.size, 0, none⟩) 1 1) (.slice none 0 0) [longC] [Trk.gap 1] [] _ (HO.out.below hbb).tk hgv.tk (OT.nil _ 0).tk long_vt gap1_vt nil_vt (by decide) (.inr (.inl rfl))).mono ?_
  rintro e w4 ⟨m2, rfl, ho, hb⟩
  replace HM := Lib.hid ((HM.out.below hbb).below hb)
  replace HB := Lib.hid ((HB.out.trans (hbb.mono HB.out.size)).trans (hb.mono (Nat.le_trans HB.out.size hbb.size)))
  clear ho hb hbb hgv HO
  go_wp2_with fail
  refine (step_tick _).mono ?_
  rintro e w5 ⟨rfl, hb⟩
  replace HM := Lib.hid (HM.out.below hb)
  replace HB := Lib.hid (HB.out.trans (hb.mono HB.out.size))
  clear hb
  go_upto_region 4 with fail
  obtain ⟨w6, hw6⟩ : ∃ y, y = w5.alloc (.cells #[.int .i64 1, .slice none 0 0] 55) := ⟨_, rfl⟩
  obtain ⟨g, hg⟩ : ∃ y, y = w5.heap.size := ⟨_, rfl⟩
  rw [← hw6]
  have hb : Below w5.heap.size w5 w6 := by rw [hw6]; exact below_box _ _
  have C0 := Lib.hid (show w6.cell? ⟨g, 0, none⟩ = some (.int .i64 1) by rw [hw6, hg]; simp [go_sem])
  have C1 := Lib.hid (show w6.cell? ⟨g, 1, none⟩ = some (.slice none 0 0) by rw [hw6, hg]; simp [go_sem])
  rw [← hg]
  replace HM := Lib.hid (HM.out.below hb)
  replace HB := Lib.hid (HB.out.trans (hb.mono HB.out.size))
  have HG := Lib.hid (block_lt_of_cell C0.out)
  clear hb hw6 hg
  go_wp2_with fail
  refine (long_any _).mono ?_
  rintro e w7 ⟨v3, rfl, ho, hb⟩
  have HO := Lib.hid ho
  replace HM := Lib.hid (HM.out.below hb)
  replace HB := Lib.hid (HB.out.trans (hb.mono HB.out.size))
  replace C0 := Lib.hid ((hb.cell (p := ⟨g, 0, none⟩) HG.out).trans C0.out)
  replace C1 := Lib.hid ((hb.cell (p := ⟨g, 1, none⟩) HG.out).trans C1.out)
  replace HG := Lib.hid (Nat.lt_of_lt_of_le HG.out hb.size)
  clear ho hb
  go_wp2_with fail
  refine (equal_self m1 v3 [longC] w7 HM.out.tk HO.out.tk).mono ?_
  rintro e w8 ⟨rfl, hb⟩
  replace HB := Lib.hid (HB.out.trans (hb.mono HB.out.size))
  have c0 := (hb.cell (p := ⟨g, 0, none⟩) HG.out).trans C0.out
  have c1 := (hb.cell (p := ⟨g, 1, none⟩) HG.out).trans C1.out
  clear hb C0 C1 HG
  go_wp2_with fail
  go_ret
  exact ⟨rfl, HB.out⟩
theorem Mk.vtk {t : List Trk.Clip} (h : Mk 3 t) : VT (Lk 3) t := h.vt (by decide)
set_option maxRecDepth 100000 in
set_option maxHeartbeats 8000000 in
theorem law_sides (v : Value) (w : World) (h : Ints w v) : Calls Tryz.prog 5 #[v] w fun e w' => e = .returned (.bool true) ∧ Below w.heap.size w w' := by
  have H3 := Lib.hid (three_any v w h)
  clear h
  go_enter Tryz.func5, Tryz.ntmps5
  go_wp2_with fail
  refine H3.out.mono ?_
  rintro e w1 ⟨x, a, b, l, m, n, rfl, hol, hom, -, hl, hm, -, hb⟩
  have HL := Lib.hid hol
  have HM := Lib.hid hom
  have VL := Lib.hid hl.vtk
  have VM := Lib.hid hm.vtk
  have HB := Lib.hid hb
  clear hol hom hl hm hb H3
  obtain ⟨u, hu⟩ : ∃ u, u = Trk.nf m := ⟨_, rfl⟩
  have e1 : shortL l m l = u := by rw [hu]; unfold shortL; rw [if_pos (.inl rfl)]
  have e2 : shortL l l m = u := by
    rw [hu]; unfold shortL
    split
    · rename_i h
      rcases h with h | h <;> exact h.symm
    · rfl
  have e3 : shortL l m m = u := by rw [hu]; unfold shortL; rw [if_pos (.inr rfl)]
  have M1 := Lib.hid (fun (w : World) (h : Tk w x l) (k : Tk w a m) => e1 ▸ merge_short (L := Lk 3) x a x l m l w h k h VL.out VM.out VL.out (by decide) (.inl rfl))
  have M2 := Lib.hid (fun (w : World) (h : Tk w x l) (k : Tk w a m) => e2 ▸ merge_short (L := Lk 3) x x a l l m w h h k VL.out VL.out VM.out (by decide) (.inr (.inr rfl)))
  have M3 := Lib.hid (fun (w : World) (h : Tk w x l) (k : Tk w a m) => e3 ▸ merge_short (L := Lk 3) x a a l m m w h k k VL.out VM.out VM.out (by decide) (.inr (.inl rfl)))
  have NO := Lib.hid (fun (w : World) (k : Tk w a m) => hu ▸ normal_any (L := Lk 3) a m w k VM.out (by decide))
  clear hu e1 e2 e3 VL VM
  go_wp2_with fail
  refine (M1.out _ HL.out.tk HM.out.tk).mono ?_
  rintro e w2 ⟨r1, rfl, ho, hb⟩
  have R1 := Lib.hid ho
  replace HL := Lib.hid (HL.out.below hb)
  replace HM := Lib.hid (HM.out.below hb)
  replace HB := Lib.hid (HB.out.trans (hb.mono HB.out.size))
  clear ho hb
  go_wp2_with fail
  refine (M2.out _ HL.out.tk HM.out.tk).mono ?_
  rintro e w3 ⟨r2, rfl, ho, hb⟩
  have R2 := Lib.hid ho
  replace R1 := Lib.hid (R1.out.below hb)
  replace HL := Lib.hid (HL.out.below hb)
  replace HM := Lib.hid (HM.out.below hb)
  replace HB := Lib.hid (HB.out.trans (hb.mono HB.out.size))
  clear ho hb
  go_wp2_with fail
  refine (M3.out _ HL.out.tk HM.out.tk).mono ?_
  rintro e w4 ⟨r3, rfl, ho, hb⟩
  have R3 := Lib.hid ho
  replace R1 := Lib.hid (R1.out.below hb)
  replace R2 := Lib.hid (R2.out.below hb)
  replace HM := Lib.hid (HM.out.below hb)
  replace HB := Lib.hid (HB.out.trans (hb.mono HB.out.size))
  clear ho hb HL
  go_wp2_with fail
  refine (NO.out _ HM.out.tk).mono ?_
  rintro e w5 ⟨r4, rfl, ho, hb⟩
  have R4 := Lib.hid ho
  replace R1 := Lib.hid (R1.out.below hb)
  replace R2 := Lib.hid (R2.out.below hb)
  replace R3 := Lib.hid (R3.out.below hb)
  replace HB := Lib.hid (HB.out.trans (hb.mono HB.out.size))
  clear ho hb HM M1 M2 M3 NO
  go_wp2_with fail
  refine (equal_self r1 r4 u _ R1.out.tk R4.out.tk).mono ?_
  rintro e w6 ⟨rfl, hb⟩
  replace R2 := Lib.hid (R2.out.below hb)
  replace R3 := Lib.hid (R3.out.below hb)
  replace R4 := Lib.hid (R4.out.below hb)
  replace HB := Lib.hid (HB.out.trans (hb.mono HB.out.size))
  clear hb R1
  go_wp2_with fail
  refine (equal_self r2 r4 u _ R2.out.tk R4.out.tk).mono ?_
  rintro e w7 ⟨rfl, hb⟩
  replace R3 := Lib.hid (R3.out.below hb)
  replace R4 := Lib.hid (R4.out.below hb)
  replace HB := Lib.hid (HB.out.trans (hb.mono HB.out.size))
  clear hb R2
  go_wp2_with fail
  refine (equal_self r3 r4 u _ R3.out.tk R4.out.tk).mono ?_
  rintro e w8 ⟨rfl, hb⟩
  replace HB := Lib.hid (HB.out.trans (hb.mono HB.out.size))
  clear hb R3 R4
  go_wp2_with fail
  refine (awake_any _).mono ?_
  rintro e w9 ⟨rfl, hb⟩
  replace HB := Lib.hid (HB.out.trans (hb.mono HB.out.size))
  clear hb
  go_wp2_with fail
  go_ret
  exact ⟨rfl, HB.out⟩
end Go.Proofs.YtfoohocgdcgbcaaGreat

/- Aid for the rows: arguments that stay as they were; a tape's numbers. -/
namespace Go.Proofs.YtfoohocgdcgbcaaGreat
open Go.ChangeShapes Go.WideShapes Go.ChangeAt Go.RowKit
set_option linter.unusedVariables false

theorem laid_out : laidOutB Tryz.prog = true := by kernel_rfl
theorem cells3 : Tryz.prog.cellsOf 3 = 1 := by kernel_rfl
theorem cells5 : Tryz.prog.cellsOf 5 = 1 := by kernel_rfl
section
variable {P : Program} {H : Type} {enc : TypeId × Value → H}
/-- The row's post where all that was there when the call began is as it was. -/
theorem post_of_below {f : Func} {s : ChangeSpec} {apart fresh handsOn again : Bool} {W W' : World} {args : Array Value} {v : Value} {ds gs : List (DataW H)} {before pa pv : List MemPlace}
    (hW : DataW.Whole enc P f.params.toList s.vars apart W args.toList ds gs before)
    (hres : ∀ (b : Nat) (sp : Nat → Bool) (hd : Bool), DataW.TrodAll enc P W' b sp hd f.resultTypes.toList (v.resultList f.resultTypes.size) (s.fn H (ds ++ gs)).results [])
    (hargs : ∀ sp : Nat → Bool, (∀ p ∈ before, sp p.block = true) → DataW.TrodAll enc P W' 0 sp true f.params.toList args.toList (s.fn H (ds ++ gs)).args pa)
    (hvars : ∀ sp : Nat → Bool, (∀ p ∈ before, sp p.block = true) → DataW.TrodVars enc P W' sp s.vars (s.fn H (ds ++ gs)).vars pv)
    (hps : before = pa ++ pv) (hb : Below W.heap.size W W')
    (hok : ∀ (j : Nat) (t : TypeId) (r : Value), f.resultTypes[j]? = some t → (v.resultList f.resultTypes.size)[j]? = some r → Value.okWide P W' .any 0 t r) :
    s.post enc P f apart fresh handsOn again W args v W' := by
  have old : ∀ p ∈ before, (fun b => decide (b < W.heap.size)) p.block = true := fun p hp => by simpa using hW.lt p hp
  have kept : W.keptBut W' (· ∈ before) := hb.frame _
  refine ⟨ds, gs, before, [], pa, pv, hW, hres _ _ _, hargs _ old, hvars _ old, World.keptBut_mono (fun p hp => ⟨hp, by rw [hps, List.mem_append] at hp; exact Or.inr hp⟩) kept, fun _ => ?_⟩
  have lt := hW.lt
  obtain ⟨_, _, _, _, _, hz, hn⟩ := hW
  refine ⟨hok, _, _, ([] ++ pa) ++ pv, ⟨[] ++ pa, pv, trodAll_append (hargs _ (fun _ _ => rfl)) (hres _ _ _), hvars _ (fun _ _ => rfl), rfl, ?_, ?_⟩, ?_⟩
  · intro b off hp
    have hp' : MemPlace.cell b off ∈ before := by rw [hps]; simpa using hp
    rw [hb.frozen (p := ⟨b, off, none⟩) (lt _ hp')]
    exact hz b off hp'
  · intro ha
    have h := hn ha
    rw [hps] at h
    simpa using h
  · intro p hp _
    rw [hps]
    simpa using hp

end
section
variable {H : Type} {enc : TypeId × Value → H}
theorem trodAll_stays {P : Program} (hl : laidOutB P = true) {W W' : World} {sp : Nat → Bool} (hb : Below W.heap.size W W') : ∀ {ts : List TypeId} {vs : List Value} {ds : List (DataW H)} {ps : List MemPlace}, (ts.all fun t => P.readableRec t && decide (t < P.types.size)) = true →
    DataW.TrodAll enc P W 0 (fun _ => true) true ts vs ds ps → (∀ x ∈ ps, x.block < W.heap.size) → (∀ x ∈ ps, sp x.block = true) → DataW.TrodAll enc P W' 0 sp true ts vs ds ps := by
  intro ts
  induction ts with
  | nil =>
    intro vs ds ps _ h _ _
    cases vs with
    | nil => cases ds with
      | nil => exact h
      | cons => exact h.elim
    | cons => exact h.elim
  | cons t ts ih =>
    intro vs ds ps hr h hlt hs
    cases vs with
    | nil => exact h.elim
    | cons v vs => cases ds with
      | nil => exact h.elim
      | cons d ds =>
        obtain ⟨p, q, h1, h2, rfl⟩ := h
        simp only [List.all_cons, Bool.and_eq_true, decide_eq_true_eq] at hr
        exact ⟨p, q, WideElems.Trod_stays hl hr.1.1 hr.1.2 h1 (fun x hx => hb.same (hlt x (List.mem_append_left _ hx))) (fun x hx => hs x (List.mem_append_left _ hx)),
          ih hr.2 h2 (fun x hx => hlt x (List.mem_append_right _ hx)) (fun x hx => hs x (List.mem_append_right _ hx)), rfl⟩


set_option maxRecDepth 100000 in
theorem open_tape {W : World} {base : Nat} {v : Value} {d : DataW H} {p : List MemPlace} (hval : Value.okWide Tryz.prog W .any base 24 v) (h : DataW.Trod enc Tryz.prog W 0 (fun _ => true) true 24 v d p) : Ints W v := by
  obtain ⟨a1, len, cap, rfl⟩ := okWide_slice Tryz.underlying24 hval
  obtain ⟨fuel, hf⟩ := h
  rcases open_ints Tryz.underlying24 Tryz.underlying3 cells3 hf with ⟨hcs, hx⟩ | ⟨a, len', cap', zs, hcs, _, hl, hm, hz, hx, hcell, hwz⟩
  · simp [Value.cells] at hcs
    obtain ⟨rfl, rfl, rfl⟩ := hcs
    exact ⟨none, 0, 0, rfl, Nat.le_refl _, by omega, fun i hi => absurd hi (Nat.not_lt_zero i)⟩
  · simp [Value.cells] at hcs
    obtain ⟨rfl, rfl, rfl⟩ := hcs
    simp only [if_true] at hz
    refine ⟨_, _, _, rfl, hl, by unfold maxLen at hm; omega, fun i hi => ?_⟩
    obtain ⟨ab, ao, spot⟩ := a
    have hspot : spot = none := by simpa [Addr.add] using World.cell?_spot (hcell 0 (by omega))
    subst hspot
    have hc := hcell i (by omega)
    rw [Addr.add_lit] at hc
    exact ⟨ab, ao, _, rfl, hc⟩

end
end Go.Proofs.YtfoohocgdcgbcaaGreat


namespace Go.Proofs.YtfoohocgdcgbcaaGreat.binSides
open Go.ChangeShapes Go.WideShapes Go.ChangeAt Go.RowKit
set_option linter.unusedVariables false

theorem own : ownKnob Tryz.prog.godebug = none := by kernel_rfl

set_option maxRecDepth 100000 in
theorem lifted (os : Os) (started : os.Started) (H : Type) (enc : TypeId × Value → H) :
    ReturnsInHanded {} Tryz.checked os 5 .any (Rows.binSidesSpec.pre6 enc Tryz.prog Tryz.f5 Rows.binSidesRow.domain false) (Rows.binSidesSpec.post enc Tryz.prog Tryz.f5 false true false false) := by
  refine returnsInHanded_of_change (C := Tryz.checked) own started (by kernel_rfl) Tryz.func5
    (ChangeSpec.witness6 (enc := enc) (C := Tryz.checked) false ⟨#[], #[.slice none 0 0], []⟩ 8 (by kernel_rfl) (by kernel_rfl) (by kernel_rfl) (by kernel_rfl)) ?_
  intro W base args ds gs before hval0 hW hcnd _
  have hval : ∀ (j : Nat) t v, Tryz.f5.params[j]? = some t → args[j]? = some v → Value.okWide Tryz.prog W .any base t v := hval0
  have hW' := hW
  obtain ⟨p, q, hA0, hV, rfl, hfz, hnd⟩ := hW
  have hA : DataW.TrodAll enc Tryz.prog W 0 (fun _ => true) true Tryz.f5.params.toList args.toList ds p := hA0
  have hAk := hA
  rw [Tryz.params5] at hA hval
  obtain ⟨v0, vs0, d0, ds0, p0, q0, hargs, rfl, rfl, h0, r0⟩ := trodAll_cons hA
  obtain ⟨rfl, rfl, rfl⟩ := trodAll_nil r0
  obtain rfl : args = #[v0] := by cases args; simp_all
  obtain ⟨rfl, rfl⟩ := trodVars_none hV
  have hr0 := open_tape (hval 0 24 v0 rfl rfl) h0
  simp only [List.append_nil] at hW' hAk
  refine (law_sides v0 W hr0).mono fun e W' ⟨he, hg⟩ => ?_
  subst he
  exact ⟨_, rfl, post_of_below (pv := []) hW' (fun _ _ _ => (trodAll_cons_mk (shut_bool Tryz.underlying4 _) trodAll_mk0)) (fun sp hsp => trodAll_stays laid_out hg (by kernel_rfl) hAk (fun x hx => hW'.lt x (by simpa using hx)) (fun x hx => hsp x (by simpa using hx))) (fun _ _ => rfl) (by simp)
    hg (ok_one (by kernel_rfl) rfl (okWide_bool_mk Tryz.underlying4 _))⟩

theorem over : Rows.binSidesRow.holds Tryz.pinned (OpenSpec.ofChange Rows.binSidesSpec) :=
  OpenClaim.holds_of_wide 5 Tryz.f5 rfl rfl rfl rfl rfl rfl rfl ⟨rfl, rfl, rfl, rfl, rfl⟩ rfl rfl rfl rfl rfl (by kernel_rfl) Tryz.func5 (by kernel_rfl)
    (of_decide_eq_true (by kernel_rfl)) (by unfold Func.isWrapper; first | (rw [if_pos (by decide +kernel)]; kernel_rfl) | (rw [if_neg (by decide +kernel)]; exact ⟨rfl, rfl⟩))
    (fun os started H enc _ => lifted os started H enc)

/-- The statement. -/
theorem proved : Rows.BinSidesSaid :=
  over
end Go.Proofs.YtfoohocgdcgbcaaGreat.binSides
