/- Texts of this claim joined: SF SG SH SI SJ SK MA MB MC. -/
import Derived.Stop.Asserts
import Derived.Handy
import Derived.OwnWalk
import Derived.Test.YtfoohocgdcgbcaaGreatHb11
set_option linter.unusedVariables false
set_option linter.unusedSimpArgs false
namespace Go.Proofs.YtfoohocgdcgbcaaGreat
open Go.RowKit
set_option maxRecDepth 100000 in
set_option maxHeartbeats 8000000 in
theorem fields_lock (u d : ByteArray) (n : Int) (w : World) (hu : okWord u) (hd : okWord d) (n0 : 1 ≤ n) (n1 : n ≤ 1000) : Calls Tryz.prog 101 #[.agg #[.int .i64 2, .string u, .string d, .int .i64 0, .int .i64 n, .slice none 0 0]] w fun e w' => e = .returned (.bool true) ∧ w' = w.alloc (.cells #[.int .i64 2, .string u, .string d, .int .i64 0, .int .i64 n, .slice none 0 0] 59) := by
 have HU := Lib.hid (fun w => word_any u w hu)
 have HD := Lib.hid (fun w => word_any d w hd)
 clear hu hd
 go_enter Tryz.func101, Tryz.ntmps101
 go_wp2_with fail
 refine (HU.out _).mono ?_
 rintro e w2 ⟨rfl, rfl⟩
 go_wp2_with fail
 refine (HD.out _).mono ?_
 rintro e w2 ⟨rfl, rfl⟩
 go_wp2_with fail
 go_ret
 exact ⟨ret_bool (by simp <;> omega), rfl⟩
set_option maxRecDepth 100000 in
set_option maxHeartbeats 8000000 in
theorem convert_lock (u d : ByteArray) (n : Int) (w : World) (hu : okWord u) (hd : okWord d) (n0 : 1 ≤ n) (n1 : n ≤ 1000) : Calls Tryz.prog 62 #[.agg #[.int .i64 2, .string u, .string d, .int .i64 0, .int .i64 n, .slice none 0 0]] w fun e w' => e = .returned (.tuple #[.iface 146 (.agg #[.int .i64 2, .string u, .string d, .int .i64 n]), .bool true]) ∧ Below w.heap.size w w' := by
 have HF := Lib.hid (fun w => fields_lock u d n w hu hd n0 n1)
 clear hu hd
 go_enter Tryz.func62, Tryz.ntmps62
 go_wp2_with fail
 refine (HF.out _).mono ?_
 rintro e w1 ⟨rfl, rfl⟩
 go_wp2_with fail
 go_ret2
 exact ⟨rfl, by go_grown⟩
set_option maxRecDepth 100000 in
set_option maxHeartbeats 8000000 in
theorem fields_unlock (u d : ByteArray) (w : World) (hu : okWord u) (hd : okWord d) : Calls Tryz.prog 101 #[.agg #[.int .i64 3, .string u, .string d, .int .i64 0, .int .i64 0, .slice none 0 0]] w fun e w' => e = .returned (.bool true) ∧ w' = w.alloc (.cells #[.int .i64 3, .string u, .string d, .int .i64 0, .int .i64 0, .slice none 0 0] 59) := by
 have HU := Lib.hid (fun w => word_any u w hu)
 have HD := Lib.hid (fun w => word_any d w hd)
 clear hu hd
 go_enter Tryz.func101, Tryz.ntmps101
 go_wp2_with fail
 refine (HU.out _).mono ?_
 rintro e w2 ⟨rfl, rfl⟩
 go_wp2_with fail
 refine (HD.out _).mono ?_
 rintro e w2 ⟨rfl, rfl⟩
 go_wp2_with fail
 go_ret
 exact ⟨ret_bool (by simp <;> omega), rfl⟩
set_option maxRecDepth 100000 in
set_option maxHeartbeats 8000000 in
theorem convert_unlock (u d : ByteArray) (w : World) (hu : okWord u) (hd : okWord d) : Calls Tryz.prog 62 #[.agg #[.int .i64 3, .string u, .string d, .int .i64 0, .int .i64 0, .slice none 0 0]] w fun e w' => e = .returned (.tuple #[.iface 148 (.agg #[.int .i64 3, .string u, .string d]), .bool true]) ∧ Below w.heap.size w w' := by
 have HF := Lib.hid (fun w => fields_unlock u d w hu hd )
 clear hu hd
 go_enter Tryz.func62, Tryz.ntmps62
 go_wp2_with fail
 refine (HF.out _).mono ?_
 rintro e w1 ⟨rfl, rfl⟩
 go_wp2_with fail
 go_ret2
 exact ⟨rfl, by go_grown⟩
set_option maxRecDepth 100000 in
set_option maxHeartbeats 8000000 in
theorem fields_undo (u d : ByteArray) (w : World) (hu : okWord u) (hd : okWord d) : Calls Tryz.prog 101 #[.agg #[.int .i64 5, .string u, .string d, .int .i64 0, .int .i64 0, .slice none 0 0]] w fun e w' => e = .returned (.bool true) ∧ w' = w.alloc (.cells #[.int .i64 5, .string u, .string d, .int .i64 0, .int .i64 0, .slice none 0 0] 59) := by
 have HU := Lib.hid (fun w => word_any u w hu)
 have HD := Lib.hid (fun w => word_any d w hd)
 clear hu hd
 go_enter Tryz.func101, Tryz.ntmps101
 go_wp2_with fail
 refine (HU.out _).mono ?_
 rintro e w2 ⟨rfl, rfl⟩
 go_wp2_with fail
 refine (HD.out _).mono ?_
 rintro e w2 ⟨rfl, rfl⟩
 go_wp2_with fail
 go_ret
 exact ⟨ret_bool (by simp <;> omega), rfl⟩
set_option maxRecDepth 100000 in
set_option maxHeartbeats 8000000 in
theorem convert_undo (u d : ByteArray) (w : World) (hu : okWord u) (hd : okWord d) : Calls Tryz.prog 62 #[.agg #[.int .i64 5, .string u, .string d, .int .i64 0, .int .i64 0, .slice none 0 0]] w fun e w' => e = .returned (.tuple #[.iface 151 (.agg #[.int .i64 5, .string u, .string d]), .bool true]) ∧ Below w.heap.size w w' := by
 have HF := Lib.hid (fun w => fields_undo u d w hu hd )
 clear hu hd
 go_enter Tryz.func62, Tryz.ntmps62
 go_wp2_with fail
 refine (HF.out _).mono ?_
 rintro e w1 ⟨rfl, rfl⟩
 go_wp2_with fail
 go_ret2
 exact ⟨rfl, by go_grown⟩
set_option maxRecDepth 100000 in
set_option maxHeartbeats 8000000 in
theorem fields_redo (u d : ByteArray) (w : World) (hu : okWord u) (hd : okWord d) : Calls Tryz.prog 101 #[.agg #[.int .i64 6, .string u, .string d, .int .i64 0, .int .i64 0, .slice none 0 0]] w fun e w' => e = .returned (.bool true) ∧ w' = w.alloc (.cells #[.int .i64 6, .string u, .string d, .int .i64 0, .int .i64 0, .slice none 0 0] 59) := by
 have HU := Lib.hid (fun w => word_any u w hu)
 have HD := Lib.hid (fun w => word_any d w hd)
 clear hu hd
 go_enter Tryz.func101, Tryz.ntmps101
 go_wp2_with fail
 refine (HU.out _).mono ?_
 rintro e w2 ⟨rfl, rfl⟩
 go_wp2_with fail
 refine (HD.out _).mono ?_
 rintro e w2 ⟨rfl, rfl⟩
 go_wp2_with fail
 go_ret
 exact ⟨ret_bool (by simp <;> omega), rfl⟩
set_option maxRecDepth 100000 in
set_option maxHeartbeats 8000000 in
theorem convert_redo (u d : ByteArray) (w : World) (hu : okWord u) (hd : okWord d) : Calls Tryz.prog 62 #[.agg #[.int .i64 6, .string u, .string d, .int .i64 0, .int .i64 0, .slice none 0 0]] w fun e w' => e = .returned (.tuple #[.iface 152 (.agg #[.int .i64 6, .string u, .string d]), .bool true]) ∧ Below w.heap.size w w' := by
 have HF := Lib.hid (fun w => fields_redo u d w hu hd )
 clear hu hd
 go_enter Tryz.func62, Tryz.ntmps62
 go_wp2_with fail
 refine (HF.out _).mono ?_
 rintro e w1 ⟨rfl, rfl⟩
 go_wp2_with fail
 go_ret2
 exact ⟨rfl, by go_grown⟩
set_option maxRecDepth 100000 in
set_option maxHeartbeats 8000000 in
theorem fields_create {L : Int} (u d : ByteArray) (v : Value) (l : List Trk.Clip) (w : World) (hu : okWord u) (hd : okWord d) (h : Tk w v l) (hV : VT L l) (hL : L ≤ 140737488355328) : Calls Tryz.prog 101 #[.agg #[.int .i64 1, .string u, .string d, .int .i64 0, .int .i64 0, v]] w fun e w' => e = .returned (.bool true) ∧ Below w.heap.size w w' := by
 have HU := Lib.hid (fun w => word_any u w hu)
 have HD := Lib.hid (fun w => word_any d w hd)
 have HT := Lib.hid h
 have HVT := Lib.hid (fun (w : World) (h : Tk w v l) => vtrack_any v l w h hV hL)
 clear hu hd hV
 obtain ⟨ta, tc, rfl, -⟩ := h
 obtain ⟨tn, htn⟩ : ∃ n, n = l.length := ⟨_, rfl⟩
 rw [← htn] at HT HVT ⊢
 clear htn
 obtain ⟨w1, hw1⟩ : ∃ y, y = w.alloc (.cells #[.int .i64 1, .string u, .string d, .int .i64 0, .int .i64 0, .slice ta tn tc] 59) := ⟨_, rfl⟩
 obtain ⟨g, hg⟩ : ∃ y, y = w.heap.size := ⟨_, rfl⟩
 have hb : Below w.heap.size w w1 := by rw [hw1]; exact below_box _ _
 have c0 : w1.cell? ⟨g, 0, none⟩ = some (.int .i64 1) := by rw [hw1, hg]; simp [go_sem]
 have c1 : w1.cell? ⟨g, 1, none⟩ = some (.string u) := by rw [hw1, hg]; simp [go_sem]
 have c2 : w1.cell? ⟨g, 2, none⟩ = some (.string d) := by rw [hw1, hg]; simp [go_sem]
 have c3 : w1.cell? ⟨g, 3, none⟩ = some (.int .i64 0) := by rw [hw1, hg]; simp [go_sem]
 have c4 : w1.cell? ⟨g, 4, none⟩ = some (.int .i64 0) := by rw [hw1, hg]; simp [go_sem]
 have c5 : w1.cell? ⟨g, 5, none⟩ = some (.slice ta tn tc) := by rw [hw1, hg]; simp [go_sem]
 have C0 := Lib.hid c0
 have C1 := Lib.hid c1
 have C2 := Lib.hid c2
 have C3 := Lib.hid c3
 have C4 := Lib.hid c4
 have C5 := Lib.hid c5
 have HG := Lib.hid (block_lt_of_cell c0)
 have HB := Lib.hid hb
 replace HT := Lib.hid (HT.out.below hb)
 go_enter Tryz.func101, Tryz.ntmps101
 go_upto_region 1 with fail
 rw [← hw1, ← hg]
 clear hw1 hg hb
 go_wp2_with fail
 refine (HU.out _).mono ?_
 rintro e w2 ⟨rfl, rfl⟩
 go_wp2_with fail
 refine (HD.out _).mono ?_
 rintro e w2 ⟨rfl, rfl⟩
 go_wp2_with fail
 refine (HVT.out _ HT.out).mono ?_
 rintro e w3 ⟨rfl, hb⟩
 have e0 := (hb.cell (p := ⟨g, 0, none⟩) HG.out).trans C0.out
 have e1 := (hb.cell (p := ⟨g, 1, none⟩) HG.out).trans C1.out
 have e2 := (hb.cell (p := ⟨g, 2, none⟩) HG.out).trans C2.out
 have e3 := (hb.cell (p := ⟨g, 3, none⟩) HG.out).trans C3.out
 have e4 := (hb.cell (p := ⟨g, 4, none⟩) HG.out).trans C4.out
 have e5 := (hb.cell (p := ⟨g, 5, none⟩) HG.out).trans C5.out
 replace HB := Lib.hid (HB.out.trans (hb.mono HB.out.size))
 clear c0 c1 c2 c3 c4 c5 hb
 go_wp2_with fail
 go_ret
 exact ⟨rfl, HB.out⟩
set_option maxRecDepth 100000 in
set_option maxHeartbeats 8000000 in
theorem convert_create {L : Int} (u d : ByteArray) (v : Value) (l : List Trk.Clip) (w : World) (hu : okWord u) (hd : okWord d) (h : Tk w v l) (hV : VT L l) (hL : L ≤ 140737488355328) : Calls Tryz.prog 62 #[.agg #[.int .i64 1, .string u, .string d, .int .i64 0, .int .i64 0, v]] w fun e w' => e = .returned (.tuple #[.iface 144 (.agg #[.int .i64 1, .string u, .string d, v]), .bool true]) ∧ Below w.heap.size w w' := by
 have HT := Lib.hid h
 have HF := Lib.hid (fun (w : World) (h : Tk w v l) => fields_create u d v l w hu hd h hV hL)
 clear hu hd hV
 obtain ⟨ta, tc, rfl, -⟩ := h
 obtain ⟨tn, htn⟩ : ∃ n, n = l.length := ⟨_, rfl⟩
 rw [← htn] at HT HF ⊢
 clear htn
 obtain ⟨w1, hw1⟩ : ∃ y, y = w.alloc (.cells #[.int .i64 1, .string u, .string d, .int .i64 0, .int .i64 0, .slice ta tn tc] 59) := ⟨_, rfl⟩
 obtain ⟨g, hg⟩ : ∃ y, y = w.heap.size := ⟨_, rfl⟩
 have hb : Below w.heap.size w w1 := by rw [hw1]; exact below_box _ _
 have c0 : w1.cell? ⟨g, 0, none⟩ = some (.int .i64 1) := by rw [hw1, hg]; simp [go_sem]
 have c1 : w1.cell? ⟨g, 1, none⟩ = some (.string u) := by rw [hw1, hg]; simp [go_sem]
 have c2 : w1.cell? ⟨g, 2, none⟩ = some (.string d) := by rw [hw1, hg]; simp [go_sem]
 have c3 : w1.cell? ⟨g, 3, none⟩ = some (.int .i64 0) := by rw [hw1, hg]; simp [go_sem]
 have c4 : w1.cell? ⟨g, 4, none⟩ = some (.int .i64 0) := by rw [hw1, hg]; simp [go_sem]
 have c5 : w1.cell? ⟨g, 5, none⟩ = some (.slice ta tn tc) := by rw [hw1, hg]; simp [go_sem]
 have C0 := Lib.hid c0
 have C1 := Lib.hid c1
 have C2 := Lib.hid c2
 have C3 := Lib.hid c3
 have C4 := Lib.hid c4
 have C5 := Lib.hid c5
 have HG := Lib.hid (block_lt_of_cell c0)
 have HB := Lib.hid hb
 replace HT := Lib.hid (HT.out.below hb)
 go_enter Tryz.func62, Tryz.ntmps62
 go_upto_region 1 with fail
 rw [← hw1, ← hg]
 clear hw1 hg hb
 go_wp2_with fail
 refine (HF.out _ HT.out).mono ?_
 rintro e w3 ⟨rfl, hb⟩
 have e0 := (hb.cell (p := ⟨g, 0, none⟩) HG.out).trans C0.out
 have e1 := (hb.cell (p := ⟨g, 1, none⟩) HG.out).trans C1.out
 have e2 := (hb.cell (p := ⟨g, 2, none⟩) HG.out).trans C2.out
 have e3 := (hb.cell (p := ⟨g, 3, none⟩) HG.out).trans C3.out
 have e4 := (hb.cell (p := ⟨g, 4, none⟩) HG.out).trans C4.out
 have e5 := (hb.cell (p := ⟨g, 5, none⟩) HG.out).trans C5.out
 have hb2 := HB.out.trans (hb.mono HB.out.size)
 have hsz := hb2.size
 have HG3 := Lib.hid (Nat.lt_of_lt_of_le HG.out hb.size)
 clear hb c0 c1 c2 c3 c4 c5
 go_upto_region 4 with fail
 obtain ⟨w4, hw4⟩ : ∃ y, y = w3.alloc (.cells #[.int .i64 1, .string u, .string d] 142) := ⟨_, rfl⟩
 obtain ⟨q, hq⟩ : ∃ y, y = w3.heap.size := ⟨_, rfl⟩
 have hb : Below w3.heap.size w3 w4 := by rw [hw4]; exact below_box _ _
 have m0 : w4.cell? ⟨q, 0, none⟩ = some (.int .i64 1) := by rw [hw4, hq]; simp [go_sem]
 have m1 : w4.cell? ⟨q, 1, none⟩ = some (.string u) := by rw [hw4, hq]; simp [go_sem]
 have m2 : w4.cell? ⟨q, 2, none⟩ = some (.string d) := by rw [hw4, hq]; simp [go_sem]
 have f0 := (hb.cell (p := ⟨g, 0, none⟩) HG3.out).trans e0
 have f3 := (hb.cell (p := ⟨g, 3, none⟩) HG3.out).trans e3
 have f5 := (hb.cell (p := ⟨g, 5, none⟩) HG3.out).trans e5
 rw [← hw4, ← hq]
 have HB4 := Lib.hid (hb2.trans (hb.mono hsz))
 clear hw4 hq hb hb2 hsz e0 e1 e2 e3 e4 e5
 go_wp2_with fail
 go_ret2
 exact ⟨rfl, HB4.out⟩
set_option maxRecDepth 100000 in
set_option maxHeartbeats 8000000 in
theorem fields_commit {L : Int} (u d : ByteArray) (bs : Int) (v : Value) (l : List Trk.Clip) (w : World) (hu : okWord u) (hd : okWord d) (h : Tk w v l) (hV : VT L l) (hL : L ≤ 140737488355328) : Calls Tryz.prog 101 #[.agg #[.int .i64 4, .string u, .string d, .int .i64 bs, .int .i64 0, v]] w fun e w' => e = .returned (.bool true) ∧ Below w.heap.size w w' := by
 have HU := Lib.hid (fun w => word_any u w hu)
 have HD := Lib.hid (fun w => word_any d w hd)
 have HT := Lib.hid h
 have HVT := Lib.hid (fun (w : World) (h : Tk w v l) => vtrack_any v l w h hV hL)
 clear hu hd hV
 obtain ⟨ta, tc, rfl, -⟩ := h
 obtain ⟨tn, htn⟩ : ∃ n, n = l.length := ⟨_, rfl⟩
 rw [← htn] at HT HVT ⊢
 clear htn
 obtain ⟨w1, hw1⟩ : ∃ y, y = w.alloc (.cells #[.int .i64 4, .string u, .string d, .int .i64 bs, .int .i64 0, .slice ta tn tc] 59) := ⟨_, rfl⟩
 obtain ⟨g, hg⟩ : ∃ y, y = w.heap.size := ⟨_, rfl⟩
 have hb : Below w.heap.size w w1 := by rw [hw1]; exact below_box _ _
 have c0 : w1.cell? ⟨g, 0, none⟩ = some (.int .i64 4) := by rw [hw1, hg]; simp [go_sem]
 have c1 : w1.cell? ⟨g, 1, none⟩ = some (.string u) := by rw [hw1, hg]; simp [go_sem]
 have c2 : w1.cell? ⟨g, 2, none⟩ = some (.string d) := by rw [hw1, hg]; simp [go_sem]
 have c3 : w1.cell? ⟨g, 3, none⟩ = some (.int .i64 bs) := by rw [hw1, hg]; simp [go_sem]
 have c4 : w1.cell? ⟨g, 4, none⟩ = some (.int .i64 0) := by rw [hw1, hg]; simp [go_sem]
 have c5 : w1.cell? ⟨g, 5, none⟩ = some (.slice ta tn tc) := by rw [hw1, hg]; simp [go_sem]
 have C0 := Lib.hid c0
 have C1 := Lib.hid c1
 have C2 := Lib.hid c2
 have C3 := Lib.hid c3
 have C4 := Lib.hid c4
 have C5 := Lib.hid c5
 have HG := Lib.hid (block_lt_of_cell c0)
 have HB := Lib.hid hb
 replace HT := Lib.hid (HT.out.below hb)
 go_enter Tryz.func101, Tryz.ntmps101
 go_upto_region 1 with fail
 rw [← hw1, ← hg]
 clear hw1 hg hb
 go_wp2_with fail
 refine (HU.out _).mono ?_
 rintro e w2 ⟨rfl, rfl⟩
 go_wp2_with fail
 refine (HD.out _).mono ?_
 rintro e w2 ⟨rfl, rfl⟩
 go_wp2_with fail
 refine (HVT.out _ HT.out).mono ?_
 rintro e w3 ⟨rfl, hb⟩
 have e0 := (hb.cell (p := ⟨g, 0, none⟩) HG.out).trans C0.out
 have e1 := (hb.cell (p := ⟨g, 1, none⟩) HG.out).trans C1.out
 have e2 := (hb.cell (p := ⟨g, 2, none⟩) HG.out).trans C2.out
 have e3 := (hb.cell (p := ⟨g, 3, none⟩) HG.out).trans C3.out
 have e4 := (hb.cell (p := ⟨g, 4, none⟩) HG.out).trans C4.out
 have e5 := (hb.cell (p := ⟨g, 5, none⟩) HG.out).trans C5.out
 replace HB := Lib.hid (HB.out.trans (hb.mono HB.out.size))
 clear c0 c1 c2 c3 c4 c5 hb
 go_wp2_with fail
 go_ret
 exact ⟨rfl, HB.out⟩
set_option maxRecDepth 100000 in
set_option maxHeartbeats 8000000 in
theorem convert_commit {L : Int} (u d : ByteArray) (bs : Int) (v : Value) (l : List Trk.Clip) (w : World) (hu : okWord u) (hd : okWord d) (h : Tk w v l) (hV : VT L l) (hL : L ≤ 140737488355328) : Calls Tryz.prog 62 #[.agg #[.int .i64 4, .string u, .string d, .int .i64 bs, .int .i64 0, v]] w fun e w' => e = .returned (.tuple #[.iface 150 (.agg #[.int .i64 4, .string u, .string d, .int .i64 bs, v]), .bool true]) ∧ Below w.heap.size w w' := by
 have HT := Lib.hid h
 have HF := Lib.hid (fun (w : World) (h : Tk w v l) => fields_commit u d bs v l w hu hd h hV hL)
 clear hu hd hV
 obtain ⟨ta, tc, rfl, -⟩ := h
 obtain ⟨tn, htn⟩ : ∃ n, n = l.length := ⟨_, rfl⟩
 rw [← htn] at HT HF ⊢
 clear htn
 obtain ⟨w1, hw1⟩ : ∃ y, y = w.alloc (.cells #[.int .i64 4, .string u, .string d, .int .i64 bs, .int .i64 0, .slice ta tn tc] 59) := ⟨_, rfl⟩
 obtain ⟨g, hg⟩ : ∃ y, y = w.heap.size := ⟨_, rfl⟩
 have hb : Below w.heap.size w w1 := by rw [hw1]; exact below_box _ _
 have c0 : w1.cell? ⟨g, 0, none⟩ = some (.int .i64 4) := by rw [hw1, hg]; simp [go_sem]
 have c1 : w1.cell? ⟨g, 1, none⟩ = some (.string u) := by rw [hw1, hg]; simp [go_sem]
 have c2 : w1.cell? ⟨g, 2, none⟩ = some (.string d) := by rw [hw1, hg]; simp [go_sem]
 have c3 : w1.cell? ⟨g, 3, none⟩ = some (.int .i64 bs) := by rw [hw1, hg]; simp [go_sem]
 have c4 : w1.cell? ⟨g, 4, none⟩ = some (.int .i64 0) := by rw [hw1, hg]; simp [go_sem]
 have c5 : w1.cell? ⟨g, 5, none⟩ = some (.slice ta tn tc) := by rw [hw1, hg]; simp [go_sem]
 have C0 := Lib.hid c0
 have C1 := Lib.hid c1
 have C2 := Lib.hid c2
 have C3 := Lib.hid c3
 have C4 := Lib.hid c4
 have C5 := Lib.hid c5
 have HG := Lib.hid (block_lt_of_cell c0)
 have HB := Lib.hid hb
 replace HT := Lib.hid (HT.out.below hb)
 go_enter Tryz.func62, Tryz.ntmps62
 go_upto_region 1 with fail
 rw [← hw1, ← hg]
 clear hw1 hg hb
 go_wp2_with fail
 refine (HF.out _ HT.out).mono ?_
 rintro e w3 ⟨rfl, hb⟩
 have e0 := (hb.cell (p := ⟨g, 0, none⟩) HG.out).trans C0.out
 have e1 := (hb.cell (p := ⟨g, 1, none⟩) HG.out).trans C1.out
 have e2 := (hb.cell (p := ⟨g, 2, none⟩) HG.out).trans C2.out
 have e3 := (hb.cell (p := ⟨g, 3, none⟩) HG.out).trans C3.out
 have e4 := (hb.cell (p := ⟨g, 4, none⟩) HG.out).trans C4.out
 have e5 := (hb.cell (p := ⟨g, 5, none⟩) HG.out).trans C5.out
 have hb2 := HB.out.trans (hb.mono HB.out.size)
 have hsz := hb2.size
 have HG3 := Lib.hid (Nat.lt_of_lt_of_le HG.out hb.size)
 clear hb c0 c1 c2 c3 c4 c5
 go_upto_region 4 with fail
 obtain ⟨w4, hw4⟩ : ∃ y, y = w3.alloc (.cells #[.int .i64 4, .string u, .string d] 142) := ⟨_, rfl⟩
 obtain ⟨q, hq⟩ : ∃ y, y = w3.heap.size := ⟨_, rfl⟩
 have hb : Below w3.heap.size w3 w4 := by rw [hw4]; exact below_box _ _
 have m0 : w4.cell? ⟨q, 0, none⟩ = some (.int .i64 4) := by rw [hw4, hq]; simp [go_sem]
 have m1 : w4.cell? ⟨q, 1, none⟩ = some (.string u) := by rw [hw4, hq]; simp [go_sem]
 have m2 : w4.cell? ⟨q, 2, none⟩ = some (.string d) := by rw [hw4, hq]; simp [go_sem]
 have f0 := (hb.cell (p := ⟨g, 0, none⟩) HG3.out).trans e0
 have f3 := (hb.cell (p := ⟨g, 3, none⟩) HG3.out).trans e3
 have f5 := (hb.cell (p := ⟨g, 5, none⟩) HG3.out).trans e5
 rw [← hw4, ← hq]
 have HB4 := Lib.hid (hb2.trans (hb.mono hsz))
 clear hw4 hq hb hb2 hsz e0 e1 e2 e3 e4 e5
 go_wp2_with fail
 go_ret2
 exact ⟨rfl, HB4.out⟩
def Row (w : World) (v : Value) (n s : Nat) (xs : List Value) : Prop := ∃ b o cap, v = .slice (some ⟨b, o, none⟩) n cap ∧ n ≤ cap ∧ cap ≤ maxLen ∧ xs.length = n * s ∧ ∀ j u, xs[j]? = some u → w.cell? ⟨b, o + j, none⟩ = some u
theorem Row.below {w w' : World} {v : Value} {n s : Nat} {xs : List Value} (h : Row w v n s xs) (hb : Below w.heap.size w w') : Row w' v n s xs := by
 obtain ⟨b, o, cap, e, h1, h2, h3, h4⟩ := h
 refine ⟨b, o, cap, e, h1, h2, h3, fun j u hj => ?_⟩
 have := h4 j u hj
 exact (hb.cell (p := ⟨b, o + j, none⟩) (block_lt_of_cell this)).trans this
def z65 : Value := .agg #[.string ⟨#[]⟩, .string ⟨#[]⟩, .int .i64 0, .slice none 0 0]
set_option maxRecDepth 100000 in
theorem info65 : (Tryz.prog.info? 65).map (fun i => (i.zero, i.size, i.bytes)) = some (some z65, 4, 64) := by kernel_rfl
theorem zeros65 (n : Nat) : (Builtin.zeroCells z65.cells n).size = n * 4 := by simp [Builtin.zeroCells, z65, Value.cells]
set_option maxRecDepth 100000 in
set_option maxHeartbeats 8000000 in
theorem clonedocs_any (v : Value) (n : Nat) (xs : List Value) (w : World) (h : Row w v n 4 xs) (hn : 0 < n) (hn2 : n ≤ 1024) (ho : ∀ u ∈ xs, u.oneCell' = true) :
  Calls Tryz.prog 102 #[v] w fun e w' => ∃ v', e = .returned v' ∧ RowX w' w.heap.size 65 4 v' n xs ∧ Below w.heap.size w w' := by
 have HT := Lib.hid h
 obtain ⟨b, o, cap, rfl, h1, h2, h3, -⟩ := h
 have hnil := fun w => Go.run_eql_slice_nil (P := Tryz.prog) w 53 65 (some ⟨b, o, none⟩) n cap Tryz.underlying53
 simp only [Option.isNone_some] at hnil
 have HO1 := Lib.hid ho
 clear ho
 go_enter Tryz.func102, Tryz.ntmps102
 go_upto_region 3 with fail
 apply wp_region_lit
 iterate 3 go_step
 have hb := below_box w (.cells #[] 65)
 have hbo : RowX (w.alloc (.cells #[] 65)) w.heap.size 65 4 (.slice (some ⟨w.heap.size, 0, none⟩) 0 0) 0 [] := .inr ⟨w.heap.size, 0, #[], rfl, Nat.le_refl _, (MapKept.heap_alloc w _).1, Nat.le_refl _, by unfold maxLen; omega, by simp, by simp, by simp⟩
 obtain ⟨w1, hw1⟩ : ∃ x, x = w.alloc (.cells #[] 65) := ⟨_, rfl⟩
 rw [← hw1] at hb hbo ⊢
 replace HT := Lib.hid (HT.out.below hb)
 clear hw1 hnil
 iterate 3 go_step
 obtain ⟨b', o', cap', e, -, -, -, hc⟩ := HT.out
 simp only [Value.slice.injEq, Option.some.injEq, Addr.mk.injEq, and_true, true_and] at e
 obtain ⟨⟨rfl, rfl⟩, rfl⟩ := e
 obtain ⟨v', w', hrun, r1, r2, r3, r4, r5⟩ := append_x w1 w.heap.size 53 65 4 64 z65 Tryz.underlying53 info65 zeros65 (.slice (some ⟨w.heap.size, 0, none⟩) 0 0) 0 [] hbo hb.size ⟨b, o, none⟩ n cap xs h3 (fun j u hu => by rw [Addr.add_mid]; exact hc j u hu) HO1.out hn (by unfold maxLen; omega) (fun cap h1 h2 => growslice_fits h2 (by omega))
 rw [Nat.zero_add, List.nil_append] at r1
 have HQ := Lib.hid (And.intro r1 (hb.trans r2))
 clear r1 r2 r3 r4 r5 hb hbo hc HT HO1 h3
 refine Lib.wpList_append_run (P := Tryz.prog) w1 rfl (.tmp 5) (.tmp 6) 53 53 rfl (.slice (some ⟨w.heap.size, 0, none⟩) 0 0) (.slice (some ⟨b, o, none⟩) n cap) rfl rfl _ _ hrun ?_
 simp only [Act.put, List.setIfInBounds_toArray, List.set_cons_succ, List.set_cons_zero]
 go_wp2_with fail
 go_ret
 exact ⟨_, rfl, HQ.out.1, HQ.out.2⟩
def z67 : Value := .agg #[.int .i64 0, .string ⟨#[]⟩, .int .i64 0, .bool false, .slice none 0 0]
set_option maxRecDepth 100000 in
theorem info67 : (Tryz.prog.info? 67).map (fun i => (i.zero, i.size, i.bytes)) = some (some z67, 5, 64) := by kernel_rfl
theorem zeros67 (n : Nat) : (Builtin.zeroCells z67.cells n).size = n * 5 := by simp [Builtin.zeroCells, z67, Value.cells]
set_option maxRecDepth 100000 in
set_option maxHeartbeats 8000000 in
theorem clonerevs_any (v : Value) (n : Nat) (xs : List Value) (w : World) (h : Row w v n 5 xs) (hn : 0 < n) (hn2 : n ≤ 1024) (ho : ∀ u ∈ xs, u.oneCell' = true) :
  Calls Tryz.prog 106 #[v] w fun e w' => ∃ v', e = .returned v' ∧ RowX w' w.heap.size 67 5 v' n xs ∧ Below w.heap.size w w' := by
 have HT := Lib.hid h
 obtain ⟨b, o, cap, rfl, h1, h2, h3, -⟩ := h
 have hnil := fun w => Go.run_eql_slice_nil (P := Tryz.prog) w 63 67 (some ⟨b, o, none⟩) n cap Tryz.underlying63
 simp only [Option.isNone_some] at hnil
 have HO1 := Lib.hid ho
 clear ho
 go_enter Tryz.func106, Tryz.ntmps106
 go_upto_region 3 with fail
 apply wp_region_lit
 iterate 3 go_step
 have hb := below_box w (.cells #[] 67)
 have hbo : RowX (w.alloc (.cells #[] 67)) w.heap.size 67 5 (.slice (some ⟨w.heap.size, 0, none⟩) 0 0) 0 [] := .inr ⟨w.heap.size, 0, #[], rfl, Nat.le_refl _, (MapKept.heap_alloc w _).1, Nat.le_refl _, by unfold maxLen; omega, by simp, by simp, by simp⟩
 obtain ⟨w1, hw1⟩ : ∃ x, x = w.alloc (.cells #[] 67) := ⟨_, rfl⟩
 rw [← hw1] at hb hbo ⊢
 replace HT := Lib.hid (HT.out.below hb)
 clear hw1 hnil
 iterate 3 go_step
 obtain ⟨b', o', cap', e, -, -, -, hc⟩ := HT.out
 simp only [Value.slice.injEq, Option.some.injEq, Addr.mk.injEq, and_true, true_and] at e
 obtain ⟨⟨rfl, rfl⟩, rfl⟩ := e
 obtain ⟨v', w', hrun, r1, r2, r3, r4, r5⟩ := append_x w1 w.heap.size 63 67 5 64 z67 Tryz.underlying63 info67 zeros67 (.slice (some ⟨w.heap.size, 0, none⟩) 0 0) 0 [] hbo hb.size ⟨b, o, none⟩ n cap xs h3 (fun j u hu => by rw [Addr.add_mid]; exact hc j u hu) HO1.out hn (by unfold maxLen; omega) (fun cap h1 h2 => growslice_fits h2 (by omega))
 rw [Nat.zero_add, List.nil_append] at r1
 have HQ := Lib.hid (And.intro r1 (hb.trans r2))
 clear r1 r2 r3 r4 r5 hb hbo hc HT HO1 h3
 refine Lib.wpList_append_run (P := Tryz.prog) w1 rfl (.tmp 5) (.tmp 6) 63 63 rfl (.slice (some ⟨w.heap.size, 0, none⟩) 0 0) (.slice (some ⟨b, o, none⟩) n cap) rfl rfl _ _ hrun ?_
 simp only [Act.put, List.setIfInBounds_toArray, List.set_cons_succ, List.set_cons_zero]
 go_wp2_with fail
 go_ret
 exact ⟨_, rfl, HQ.out.1, HQ.out.2⟩
theorem pick_list {α β : Type} (l : List α) (P : Nat → α → β → Prop) (h : ∀ i a, l[i]? = some a → ∃ b, P i a b) : ∃ m : List β, m.length = l.length ∧ ∀ i a b, l[i]? = some a → m[i]? = some b → P i a b := by
 induction l generalizing P with
 | nil => exact ⟨[], rfl, fun i a b h => by simp at h⟩
 | cons x l ih =>
  obtain ⟨y, hy⟩ := h 0 x rfl
  obtain ⟨m, hm, hp⟩ := ih (fun i => P (i + 1)) (fun i a hi => h (i + 1) a hi)
  refine ⟨y :: m, by simp [hm], fun i a b hi hb => ?_⟩
  cases i with
  | zero =>
   simp only [List.getElem?_cons_zero, Option.some.injEq] at hi hb
   subst hi hb
   exact hy
  | succ i => exact hp i a b (by simpa using hi) (by simpa using hb)
theorem flat_len {s : Nat} : ∀ (ls : List (List Value)), (∀ x ∈ ls, x.length = s) → ls.flatten.length = ls.length * s
 | [], _ => by simp
 | x :: ls, h => by
  have h1 := h x List.mem_cons_self
  have h2 := flat_len ls fun y hy => h y (List.mem_cons_of_mem _ hy)
  rw [List.flatten_cons, List.length_append, h1, h2, List.length_cons, Nat.succ_mul]
  omega
theorem flat_get {s : Nat} : ∀ (ls : List (List Value)), (∀ x ∈ ls, x.length = s) → ∀ (i j : Nat) (x : List Value), ls[i]? = some x → j < s → ls.flatten[i * s + j]? = x[j]?
 | [], _, i, j, x, hi, _ => by simp at hi
 | y :: ls, h, i, j, x, hi, hj => by
  have h1 := h y List.mem_cons_self
  rw [List.flatten_cons]
  cases i with
  | zero =>
   simp only [List.getElem?_cons_zero, Option.some.injEq] at hi
   subst hi
   rw [Nat.zero_mul, Nat.zero_add, List.getElem?_append_left (by omega)]
  | succ i =>
   rw [List.getElem?_append_right (by rw [h1, Nat.succ_mul]; omega), h1, show (i + 1) * s + j - s = i * s + j by rw [Nat.succ_mul]; omega]
   exact flat_get ls (fun z hz => h z (List.mem_cons_of_mem _ hz)) i j x (by simpa using hi) hj
def flatC {α : Type} (f : α → Value → List Value) (l : List α) (m : List Value) : List Value := (List.zipWith f l m).flatten
theorem flatC_len {α : Type} {f : α → Value → List Value} {s : Nat} (hf : ∀ a v, (f a v).length = s) (l : List α) (m : List Value) (h : m.length = l.length) : (flatC f l m).length = l.length * s := by
 unfold flatC
 rw [flat_len (s := s)]
 ·rw [List.length_zipWith, h, Nat.min_self]
 ·intro x hx
  obtain ⟨i, hi, e⟩ := List.getElem_of_mem hx
  rw [← e, List.getElem_zipWith]
  exact hf _ _
theorem flatC_get {α : Type} {f : α → Value → List Value} {s : Nat} (hf : ∀ a v, (f a v).length = s) (l : List α) (m : List Value) {i j : Nat} {a : α} {v : Value} (hi : l[i]? = some a) (hm : m[i]? = some v) (hj : j < s) : (flatC f l m)[i * s + j]? = (f a v)[j]? := by
 unfold flatC
 refine flat_get _ (fun x hx => ?_) i j _ ?_ hj
 ·obtain ⟨i, hi, e⟩ := List.getElem_of_mem hx
  rw [← e, List.getElem_zipWith]
  exact hf _ _
 ·rw [List.getElem?_zipWith, hi, hm]
theorem Rvs.row {w : World} {v : Value} {rs : List Rv} (h : Rvs w v rs) (hn : rs ≠ []) : ∃ ts : List Value, ts.length = rs.length ∧ Row w v rs.length 5 (flatC revL rs ts) ∧ ∀ (i : Nat) (r : Rv) (t : Value), rs[i]? = some r → ts[i]? = some t → Tk w t r.t := by
 obtain ⟨ao, cap, rfl, h1, h2, h3⟩ := h
 obtain ⟨r0, rs', rfl⟩ : ∃ r0 rs', rs = r0 :: rs' := by
  cases rs with
  | nil => exact absurd rfl hn
  | cons a l => exact ⟨a, l, rfl⟩
 obtain ⟨b, o, _, rfl, _, _⟩ := h3 0 r0 rfl
 obtain ⟨ts, ht, hp⟩ := pick_list (r0 :: rs') (fun i r tv => w.rangeAt b (o + i * 5) (revL r tv) ∧ Tk w tv r.t) (fun i r hi => by
  obtain ⟨b', o', tv, e, hr, hk⟩ := h3 i r hi
  simp only [Option.some.injEq, Addr.mk.injEq, and_true] at e
  obtain ⟨rfl, rfl⟩ := e
  exact ⟨tv, hr, hk⟩)
 have hf : ∀ r t, (revL r t).length = 5 := fun _ _ => rfl
 refine ⟨ts, ht, ⟨b, o, cap, rfl, h1, h2, flatC_len hf _ _ ht, fun j u hj => ?_⟩, fun i r t hi hj => (hp i r t hi hj).2⟩
 have hlt := (List.getElem?_eq_some_iff.1 hj).1
 rw [flatC_len hf _ _ ht] at hlt
 have hi : j / 5 < (r0 :: rs').length := by omega
 obtain ⟨r, hr⟩ : ∃ r, (r0 :: rs')[j / 5]? = some r := ⟨_, List.getElem?_eq_getElem hi⟩
 obtain ⟨t, htt⟩ : ∃ t, ts[j / 5]? = some t := ⟨_, List.getElem?_eq_getElem (by omega)⟩
 have hg := flatC_get hf _ _ hr htt (Nat.mod_lt j (show 0 < 5 by decide))
 rw [show j / 5 * 5 + j % 5 = j by omega, hj] at hg
 have hc := (hp _ r t hr htt).1 (j % 5) u hg.symm
 rw [show o + j / 5 * 5 + j % 5 = o + j by omega] at hc
 exact hc
theorem Dcs.row {w : World} {v : Value} {rs : List Dc} (h : Dcs w v rs) (hn : rs ≠ []) : ∃ ts : List Value, ts.length = rs.length ∧ Row w v rs.length 4 (flatC docL rs ts) ∧ ∀ (i : Nat) (r : Dc) (t : Value), rs[i]? = some r → ts[i]? = some t → Rvs w t r.revs := by
 obtain ⟨ao, cap, rfl, h1, h2, h3⟩ := h
 obtain ⟨r0, rs', rfl⟩ : ∃ r0 rs', rs = r0 :: rs' := by
  cases rs with
  | nil => exact absurd rfl hn
  | cons a l => exact ⟨a, l, rfl⟩
 obtain ⟨b, o, _, rfl, _, _⟩ := h3 0 r0 rfl
 obtain ⟨ts, ht, hp⟩ := pick_list (r0 :: rs') (fun i r tv => w.rangeAt b (o + i * 4) (docL r tv) ∧ Rvs w tv r.revs) (fun i r hi => by
  obtain ⟨b', o', tv, e, hr, hk⟩ := h3 i r hi
  simp only [Option.some.injEq, Addr.mk.injEq, and_true] at e
  obtain ⟨rfl, rfl⟩ := e
  exact ⟨tv, hr, hk⟩)
 have hf : ∀ r t, (docL r t).length = 4 := fun _ _ => rfl
 refine ⟨ts, ht, ⟨b, o, cap, rfl, h1, h2, flatC_len hf _ _ ht, fun j u hj => ?_⟩, fun i r t hi hj => (hp i r t hi hj).2⟩
 have hlt := (List.getElem?_eq_some_iff.1 hj).1
 rw [flatC_len hf _ _ ht] at hlt
 have hi : j / 4 < (r0 :: rs').length := by omega
 obtain ⟨r, hr⟩ : ∃ r, (r0 :: rs')[j / 4]? = some r := ⟨_, List.getElem?_eq_getElem hi⟩
 obtain ⟨t, htt⟩ : ∃ t, ts[j / 4]? = some t := ⟨_, List.getElem?_eq_getElem (by omega)⟩
 have hg := flatC_get hf _ _ hr htt (Nat.mod_lt j (show 0 < 4 by decide))
 rw [show j / 4 * 4 + j % 4 = j by omega, hj] at hg
 have hc := (hp _ r t hr htt).1 (j % 4) u hg.symm
 rw [show o + j / 4 * 4 + j % 4 = o + j by omega] at hc
 exact hc
theorem Rvs.ofRow {w : World} {B : Nat} {v : Value} {rs : List Rv} {ts : List Value} (h : RowX w B 67 5 v rs.length (flatC revL rs ts)) (ht : ts.length = rs.length) (hT : ∀ (i : Nat) (r : Rv) (t : Value), rs[i]? = some r → ts[i]? = some t → Tk w t r.t) : Rvs w v rs := by
 rcases h with ⟨rfl, h0, -⟩ | ⟨g, cap, cur, rfl, hB, hg, hk, hc, hs, hx, hl⟩
 ·have e : rs = [] := List.length_eq_zero_iff.1 h0
  subst e
  exact ⟨none, 0, rfl, Nat.le_refl _, by unfold maxLen; omega, fun i r hi => by simp at hi⟩
 ·refine ⟨_, cap, rfl, hk, hc, fun i r hi => ?_⟩
  have hlt := (List.getElem?_eq_some_iff.1 hi).1
  obtain ⟨t, htt⟩ : ∃ t, ts[i]? = some t := ⟨_, List.getElem?_eq_getElem (by omega)⟩
  have hf : ∀ r t, (revL r t).length = 5 := fun _ _ => rfl
  refine ⟨g, 0, t, rfl, fun j u hj => ?_, hT i r t hi htt⟩
  have hj5 : j < 5 := by rw [← hf r t]; exact (List.getElem?_eq_some_iff.1 hj).1
  have hgx := flatC_get hf _ _ hi htt hj5
  rw [hj, ← hx] at hgx
  exact RowX.cell (B := B) (E := 67) (s := 5) (cap := cap) (k := rs.length) (xs := flatC revL rs ts) (.inr ⟨g, cap, cur, rfl, hB, hg, hk, hc, hs, hx, hl⟩) (j := 0 + i * 5 + j) (by rw [← hx, Nat.zero_add]; exact hgx)
theorem Dcs.ofRow {w : World} {B : Nat} {v : Value} {rs : List Dc} {ts : List Value} (h : RowX w B 65 4 v rs.length (flatC docL rs ts)) (ht : ts.length = rs.length) (hT : ∀ (i : Nat) (r : Dc) (t : Value), rs[i]? = some r → ts[i]? = some t → Rvs w t r.revs) : Dcs w v rs := by
 rcases h with ⟨rfl, h0, -⟩ | ⟨g, cap, cur, rfl, hB, hg, hk, hc, hs, hx, hl⟩
 ·have e : rs = [] := List.length_eq_zero_iff.1 h0
  subst e
  exact ⟨none, 0, rfl, Nat.le_refl _, by unfold maxLen; omega, fun i r hi => by simp at hi⟩
 ·refine ⟨_, cap, rfl, hk, hc, fun i r hi => ?_⟩
  have hlt := (List.getElem?_eq_some_iff.1 hi).1
  obtain ⟨t, htt⟩ : ∃ t, ts[i]? = some t := ⟨_, List.getElem?_eq_getElem (by omega)⟩
  have hf : ∀ r t, (docL r t).length = 4 := fun _ _ => rfl
  refine ⟨g, 0, t, rfl, fun j u hj => ?_, hT i r t hi htt⟩
  have hj5 : j < 4 := by rw [← hf r t]; exact (List.getElem?_eq_some_iff.1 hj).1
  have hgx := flatC_get hf _ _ hi htt hj5
  rw [hj, ← hx] at hgx
  exact RowX.cell (B := B) (E := 65) (s := 4) (cap := cap) (k := rs.length) (xs := flatC docL rs ts) (.inr ⟨g, cap, cur, rfl, hB, hg, hk, hc, hs, hx, hl⟩) (j := 0 + i * 4 + j) (by rw [← hx, Nat.zero_add]; exact hgx)
theorem infoT144 : (Tryz.prog.info? 144).map (fun i => (i.zero, i.size, i.bytes)) = some (some (.agg #[.int .i64 0, .string ⟨#[]⟩, .string ⟨#[]⟩, .slice none 0 0]), 4, 64) := by kernel_rfl
theorem ta_hit144 (x : Value) (w : World) : (Instr.typeAssert (.iface 144 x) 20 144 true).run Tryz.prog w = .ok (.tuple #[x, .bool true]) w := by
 simp [Instr.typeAssert, run_underlying Tryz.underlying144]
theorem ta_miss144 (a : TypeId) (h : a ≠ 144) (x : Value) (w : World) : (Instr.typeAssert (.iface a x) 20 144 true).run Tryz.prog w = .ok (.tuple #[.agg #[.int .i64 0, .string ⟨#[]⟩, .string ⟨#[]⟩, .slice none 0 0], .bool false]) w := by
 obtain ⟨i0, hi, hz0, _, _⟩ := info_parts infoT144
 simp [Instr.typeAssert, run_underlying Tryz.underlying144, zeroValue, typeInfo, hi, hz0, h]
theorem ta_addr144 (x : Value) (w : World) : (Instr.typeAssert (.iface 144 x) 20 159 true).run Tryz.prog w = .ok (.tuple #[.iface 144 x, .bool true]) w := run_typeAssert_hasB Tryz.underlying159 (by kernel_rfl) x 20 w
theorem infoT146 : (Tryz.prog.info? 146).map (fun i => (i.zero, i.size, i.bytes)) = some (some (.agg #[.int .i64 0, .string ⟨#[]⟩, .string ⟨#[]⟩, .int .i64 0]), 4, 48) := by kernel_rfl
theorem ta_hit146 (x : Value) (w : World) : (Instr.typeAssert (.iface 146 x) 20 146 true).run Tryz.prog w = .ok (.tuple #[x, .bool true]) w := by
 simp [Instr.typeAssert, run_underlying Tryz.underlying146]
theorem ta_miss146 (a : TypeId) (h : a ≠ 146) (x : Value) (w : World) : (Instr.typeAssert (.iface a x) 20 146 true).run Tryz.prog w = .ok (.tuple #[.agg #[.int .i64 0, .string ⟨#[]⟩, .string ⟨#[]⟩, .int .i64 0], .bool false]) w := by
 obtain ⟨i0, hi, hz0, _, _⟩ := info_parts infoT146
 simp [Instr.typeAssert, run_underlying Tryz.underlying146, zeroValue, typeInfo, hi, hz0, h]
theorem ta_addr146 (x : Value) (w : World) : (Instr.typeAssert (.iface 146 x) 20 159 true).run Tryz.prog w = .ok (.tuple #[.iface 146 x, .bool true]) w := run_typeAssert_hasB Tryz.underlying159 (by kernel_rfl) x 20 w
theorem infoT148 : (Tryz.prog.info? 148).map (fun i => (i.zero, i.size, i.bytes)) = some (some (.agg #[.int .i64 0, .string ⟨#[]⟩, .string ⟨#[]⟩]), 3, 40) := by kernel_rfl
theorem ta_hit148 (x : Value) (w : World) : (Instr.typeAssert (.iface 148 x) 20 148 true).run Tryz.prog w = .ok (.tuple #[x, .bool true]) w := by
 simp [Instr.typeAssert, run_underlying Tryz.underlying148]
theorem ta_miss148 (a : TypeId) (h : a ≠ 148) (x : Value) (w : World) : (Instr.typeAssert (.iface a x) 20 148 true).run Tryz.prog w = .ok (.tuple #[.agg #[.int .i64 0, .string ⟨#[]⟩, .string ⟨#[]⟩], .bool false]) w := by
 obtain ⟨i0, hi, hz0, _, _⟩ := info_parts infoT148
 simp [Instr.typeAssert, run_underlying Tryz.underlying148, zeroValue, typeInfo, hi, hz0, h]
theorem ta_addr148 (x : Value) (w : World) : (Instr.typeAssert (.iface 148 x) 20 159 true).run Tryz.prog w = .ok (.tuple #[.iface 148 x, .bool true]) w := run_typeAssert_hasB Tryz.underlying159 (by kernel_rfl) x 20 w
theorem infoT150 : (Tryz.prog.info? 150).map (fun i => (i.zero, i.size, i.bytes)) = some (some (.agg #[.int .i64 0, .string ⟨#[]⟩, .string ⟨#[]⟩, .int .i64 0, .slice none 0 0]), 5, 72) := by kernel_rfl
theorem ta_hit150 (x : Value) (w : World) : (Instr.typeAssert (.iface 150 x) 20 150 true).run Tryz.prog w = .ok (.tuple #[x, .bool true]) w := by
 simp [Instr.typeAssert, run_underlying Tryz.underlying150]
theorem ta_miss150 (a : TypeId) (h : a ≠ 150) (x : Value) (w : World) : (Instr.typeAssert (.iface a x) 20 150 true).run Tryz.prog w = .ok (.tuple #[.agg #[.int .i64 0, .string ⟨#[]⟩, .string ⟨#[]⟩, .int .i64 0, .slice none 0 0], .bool false]) w := by
 obtain ⟨i0, hi, hz0, _, _⟩ := info_parts infoT150
 simp [Instr.typeAssert, run_underlying Tryz.underlying150, zeroValue, typeInfo, hi, hz0, h]
theorem ta_addr150 (x : Value) (w : World) : (Instr.typeAssert (.iface 150 x) 20 159 true).run Tryz.prog w = .ok (.tuple #[.iface 150 x, .bool true]) w := run_typeAssert_hasB Tryz.underlying159 (by kernel_rfl) x 20 w
theorem infoT151 : (Tryz.prog.info? 151).map (fun i => (i.zero, i.size, i.bytes)) = some (some (.agg #[.int .i64 0, .string ⟨#[]⟩, .string ⟨#[]⟩]), 3, 40) := by kernel_rfl
theorem ta_hit151 (x : Value) (w : World) : (Instr.typeAssert (.iface 151 x) 20 151 true).run Tryz.prog w = .ok (.tuple #[x, .bool true]) w := by
 simp [Instr.typeAssert, run_underlying Tryz.underlying151]
theorem ta_miss151 (a : TypeId) (h : a ≠ 151) (x : Value) (w : World) : (Instr.typeAssert (.iface a x) 20 151 true).run Tryz.prog w = .ok (.tuple #[.agg #[.int .i64 0, .string ⟨#[]⟩, .string ⟨#[]⟩], .bool false]) w := by
 obtain ⟨i0, hi, hz0, _, _⟩ := info_parts infoT151
 simp [Instr.typeAssert, run_underlying Tryz.underlying151, zeroValue, typeInfo, hi, hz0, h]
theorem ta_addr151 (x : Value) (w : World) : (Instr.typeAssert (.iface 151 x) 20 159 true).run Tryz.prog w = .ok (.tuple #[.iface 151 x, .bool true]) w := run_typeAssert_hasB Tryz.underlying159 (by kernel_rfl) x 20 w
theorem ta_hit152 (x : Value) (w : World) : (Instr.typeAssert (.iface 152 x) 20 152 true).run Tryz.prog w = .ok (.tuple #[x, .bool true]) w := by
 simp [Instr.typeAssert, run_underlying Tryz.underlying152]
theorem ta_addr152 (x : Value) (w : World) : (Instr.typeAssert (.iface 152 x) 20 159 true).run Tryz.prog w = .ok (.tuple #[.iface 152 x, .bool true]) w := run_typeAssert_hasB Tryz.underlying159 (by kernel_rfl) x 20 w
theorem infoT154 : (Tryz.prog.info? 154).map (fun i => (i.zero, i.size, i.bytes)) = some (some (.agg #[.int .i64 0]), 1, 8) := by kernel_rfl
theorem ta_hit154 (x : Value) (w : World) : (Instr.typeAssert (.iface 154 x) 20 154 true).run Tryz.prog w = .ok (.tuple #[x, .bool true]) w := by
 simp [Instr.typeAssert, run_underlying Tryz.underlying154]
theorem ta_miss154 (a : TypeId) (h : a ≠ 154) (x : Value) (w : World) : (Instr.typeAssert (.iface a x) 20 154 true).run Tryz.prog w = .ok (.tuple #[.agg #[.int .i64 0], .bool false]) w := by
 obtain ⟨i0, hi, hz0, _, _⟩ := info_parts infoT154
 simp [Instr.typeAssert, run_underlying Tryz.underlying154, zeroValue, typeInfo, hi, hz0, h]
set_option maxRecDepth 100000 in
set_option maxHeartbeats 8000000 in
theorem find_none (s : ByteArray) (now : Int) (w : World) : Calls Tryz.prog 104 #[.agg #[.int .i64 now, .slice none 0 0], .string s] w fun e w' => e = .returned (.int .i64 (-1)) ∧ Below w.heap.size w w' := by
 have HI : ∀ (g : Nat) (w1 : World), Calls Tryz.prog 145 #[.slice none 0 0, .func (.func 146) #[] #[.pointer (some ⟨g, 0, none⟩)]] w1 fun e w' => e = .returned (.int .i64 (-1)) ∧ w' = w1 := by
  intro g w1
  go_enter Tryz.func145, Tryz.ntmps145
  go_upto_region 2 with fail
  go_loopw [8] (fun i wr => i = .int .i64 0 ∧ wr = w1) (fun _ _ => 0)
  case atStart => exact ⟨rfl, rfl⟩
  case round =>
   obtain ⟨rfl, rfl⟩ := hrel
   go_wp2_with fail
   go_ret
   exact ⟨rfl, rfl⟩
 have H := Lib.hid HI
 clear HI
 go_enter Tryz.func104, Tryz.ntmps104
 go_wp2_with fail
 refine (H.out _ _).mono ?_
 rintro e w3 ⟨rfl, rfl⟩
 go_wp2_with fail
 go_ret
 exact ⟨rfl, by go_grown⟩
theorem gcd_tmod {a b : Int} (h : a ≠ 0) : (b.tmod a).natAbs.gcd a.natAbs = a.natAbs.gcd b.natAbs := by
 rw [Int.natAbs_tmod, Nat.gcd_rec a.natAbs b.natAbs]
theorem tmod_small {a b : Int} (h : a ≠ 0) : (b.tmod a).natAbs < a.natAbs := by
 rw [Int.natAbs_tmod]
 exact Nat.mod_lt _ (by omega)
set_option maxHeartbeats 2000000 in
theorem bdivisor_any (x y : Int) (w : World) (x0 : -4611686018427387904 ≤ x) (x1 : x ≤ 4611686018427387904) (y0 : -4611686018427387904 ≤ y) (y1 : y ≤ 4611686018427387904) :
  Calls Tryz.prog 179 #[.int .i64 x, .int .i64 y] w fun e w' => e = .returned (.int .i64 ((x.natAbs.gcd y.natAbs : Nat) : Int)) ∧ ∃ m, w' = w.drewN m := by
 obtain ⟨g, hg⟩ : ∃ g, g = x.natAbs.gcd y.natAbs := ⟨_, rfl⟩
 rw [← hg]
 replace hg := Lib.hid hg
 go_enter Tryz.func179, Tryz.ntmps179
 go_wp2
 go_loopw [0, 1] (fun i j wr => ∃ a b : Int, i = .int .i64 a ∧ j = .int .i64 b ∧ (-4611686018427387904 ≤ a ∧ a ≤ 4611686018427387904) ∧ (-4611686018427387904 ≤ b ∧ b ≤ 4611686018427387904) ∧ Hid (g = a.natAbs.gcd b.natAbs) ∧ ∃ m, wr = w.drewN m) (fun i j _ => (intOf i).natAbs)
 case atStart => exact ⟨x, y, rfl, rfl, ⟨x0, x1⟩, ⟨y0, y1⟩, hg, 0, rfl⟩
 case round =>
  obtain ⟨a, b, rfl, rfl, ⟨a0, a1⟩, ⟨b0, b1⟩, hG, m, rfl⟩ := hrel
  by_cases h0 : a = 0
  ·subst h0
   go_wp2
   all_goals
    go_ret
    refine ⟨ret_int ?_, m, rfl⟩
    rw [hG.out]
    simp only [Int.natAbs_zero, Nat.gcd_zero_left]
    omega
  ·have hm := tmod_small (b := b) h0
   have hG2 := Lib.hid (show g = (b.tmod a).natAbs.gcd a.natAbs by rw [hG.out, gcd_tmod h0])
   go_wp2
   go_roundw
   case rel => exact ⟨b.tmod a, a, rfl, rfl, ⟨by omega, by omega⟩, ⟨a0, a1⟩, hG2, m, rfl⟩
   case measure => exact hm
theorem results_rat {fn : Func} {tmps : Array Value} {w : World} {t : Tmp} {g : Nat} {n d : Int} (hr : fn.results = #[.cell t 38]) (ht : tmps.getD t undef = .pointer (some ⟨g, 0, none⟩)) (h0 : w.cell? ⟨g, 0, none⟩ = some (.int .i64 n)) (h1 : w.cell? ⟨g, 1, none⟩ = some (.int .i64 d)) :
  (results fn tmps).run Tryz.prog w = .ok (.agg #[.int .i64 n, .int .i64 d]) w := by
 have hc : w.rangeAt g 0 [.int .i64 n, .int .i64 d] := by
  intro j u hj
  have hl : j < 2 := (List.getElem?_eq_some_iff.1 hj).1
  rcases (show j = 0 ∨ j = 1 by omega) with rfl | rfl
  ·simp only [List.getElem?_cons_zero, Option.some.injEq] at hj
   rw [← hj]; exact h0
  ·simp only [List.getElem?_cons_succ, List.getElem?_cons_zero, Option.some.injEq] at hj
   rw [← hj]; exact h1
 have h := run_loadVar_mid (P := Tryz.prog) w g 0 38 [.int .i64 n, .int .i64 d] _ hc Tryz.underlying38 rfl (by kernel_rfl)
 unfold results
 rw [hr]
 have ht2 : tmps[t]?.getD undef = .pointer (some ⟨g, 0, none⟩) := by rw [← Array.getD_eq_getD_getElem?]; exact ht
 simp [ht2, asAddr, h]
set_option maxRecDepth 100000 in
set_option maxHeartbeats 4000000 in
theorem pos_core (kd : Int) (nm : ByteArray) (an ad sn sd : Int) (sm : Bool) (k g a d base num t1 t2 t3 c : Int) (w : World) (hk : (kd == 0) = false)
  (hg : g = ((ad.natAbs.gcd sd.natAbs : Nat) : Int)) (hc : c = ((num.natAbs.gcd base.natAbs : Nat) : Int)) (g1 : 1 ≤ g) (c1 : 1 ≤ c)
  (a1 : 1 ≤ ad) (a2 : ad ≤ 65536) (s1 : 1 ≤ sd) (s2 : sd ≤ 65536) (b1 : 1 ≤ base) (b2 : base ≤ 65536)
  (q1 : ad.tdiv g = a) (p1 : a * sd = base) (q2 : base.tdiv ad = d) (p2 : an * d = t1) (p3 : k * sn = t2) (q3 : base.tdiv sd = a) (p4 : t2 * a = t3) (p5 : t1 + t3 = num)
  (a3 : 0 ≤ a) (a4 : a ≤ 65536) (d3 : 0 ≤ d) (d4 : d ≤ 65536) (x1 : -1152921504606846976 ≤ num.tdiv c) (x2 : num.tdiv c ≤ 1152921504606846976) (y1 : 0 ≤ base.tdiv c) (y2 : base.tdiv c ≤ 65536) (m1 : -1152921504606846976 ≤ t1 ∧ t1 ≤ 1152921504606846976) (m2 : -1152921504606846976 ≤ t2 ∧ t2 ≤ 1152921504606846976) (m3 : -1152921504606846976 ≤ t3 ∧ t3 ≤ 1152921504606846976) :
  Calls Tryz.prog 173 #[.agg #[.int .i64 kd, .string nm, .int .i64 an, .int .i64 ad, .int .i64 sn, .int .i64 sd, .bool sm], .int .i64 k] w fun e w' => e = .returned (.agg #[.int .i64 (num.tdiv c), .int .i64 (base.tdiv c)]) ∧ Below w.heap.size w w' := by
 have D1 := Lib.hid (fun w => hg ▸ bdivisor_any ad sd w (by omega) (by omega) (by omega) (by omega))
 have D2 := Lib.hid (fun w => hc ▸ bdivisor_any num base w (by omega) (by omega) (by omega) (by omega))
 clear hg hc
 go_enter Tryz.func173, Tryz.ntmps173
 go_upto_region 1 with fail
 obtain ⟨w1, hw1⟩ : ∃ z, z = (w.alloc (.cells #[.int .i64 kd, .string nm, .int .i64 an, .int .i64 ad, .int .i64 sn, .int .i64 sd, .bool sm] 46)).alloc (.cells #[.int .i64 0, .int .i64 0] 38) := ⟨_, rfl⟩
 have hb1 : Below w.heap.size w w1 := by rw [hw1]; go_grown
 have u0 : w1.cell? ⟨w.heap.size, 0, none⟩ = some (.int .i64 kd) := by rw [hw1]; simp [go_sem]
 have u2 : w1.cell? ⟨w.heap.size, 2, none⟩ = some (.int .i64 an) := by rw [hw1]; simp [go_sem]
 have u3 : w1.cell? ⟨w.heap.size, 3, none⟩ = some (.int .i64 ad) := by rw [hw1]; simp [go_sem]
 have u4 : w1.cell? ⟨w.heap.size, 4, none⟩ = some (.int .i64 sn) := by rw [hw1]; simp [go_sem]
 have u5 : w1.cell? ⟨w.heap.size, 5, none⟩ = some (.int .i64 sd) := by rw [hw1]; simp [go_sem]
 have v0 : w1.cell? ⟨w.heap.size + 1, 0, none⟩ = some (.int .i64 0) := by rw [hw1]; simp [go_sem]
 have v1 : w1.cell? ⟨w.heap.size + 1, 1, none⟩ = some (.int .i64 0) := by rw [hw1]; simp [go_sem]
 have z0 : w1.frozen? ⟨w.heap.size + 1, 0, none⟩ = false := by rw [hw1]; simp [go_sem]
 have z1 : w1.frozen? ⟨w.heap.size + 1, 1, none⟩ = false := by rw [hw1]; simp [go_sem]
 rw [← hw1]
 have HB := Lib.hid hb1
 obtain ⟨p, hp⟩ : ∃ p, p = w.heap.size := ⟨_, rfl⟩
 obtain ⟨r, hr⟩ : ∃ r, r = w.heap.size + 1 := ⟨_, rfl⟩
 rw [← hr] at v0 v1 z0 z1 ⊢
 rw [← hp] at u0 u2 u3 u4 u5 ⊢
 have HR := Lib.hid (show w.heap.size ≤ r by omega)
 clear hw1 hb1 hp hr
 go_wp2_with fail
 go_quiet (first | (go_at_call 179; refine Calls.quiet_of (D1.out _)))
 have e1 : wrap64 a = a := by simp only [wrap64]; omega
 go_upto_region 4 with fail
 go_quiet (fail)
 go_wp2_with fail
 refine (D2.out _).mono ?_
 rintro e w2 ⟨rfl, m, rfl⟩
 go_upto_region 6 with fail
 go_region
 go_wp2_with fail
 refine bodyPost_ret (results_rat (g := r) Tryz.results173 rfl (by simp [go_sem, v0, z0]) (by simp [go_sem, v1, z1])) rfl ⟨rfl, ?_⟩
 exact ((below_drewN HB.out _).setCell (p := ⟨r, 0, none⟩) HR.out _).setCell (p := ⟨r, 1, none⟩) HR.out _
structure PosB (s : Trk.Src) (k : Int) : Prop where
 a : s.ad ≤ 65536
 d : s.sd ≤ 65536
 b : Trk.baseN s ≤ 65536
 n0 : -(1099511627776 * s.ad) ≤ s.an
 n1 : s.an ≤ 1099511627776 * s.ad
 v0 : -(1024 * s.sd) ≤ s.sn
 v1 : s.sn ≤ 1024 * s.sd
 k0 : -4294967296 ≤ k
 k1 : k ≤ 4294967296
theorem abs_mul {x y X Y : Int} (h0 : -X ≤ x) (h1 : x ≤ X) (k0 : -Y ≤ y) (k1 : y ≤ Y) : -(X * Y) ≤ x * y ∧ x * y ≤ X * Y := by
 have hx : x.natAbs ≤ X.natAbs := by omega
 have hy : y.natAbs ≤ Y.natAbs := by omega
 have h := Nat.mul_le_mul hx hy
 rw [← Int.natAbs_mul, ← Int.natAbs_mul] at h
 have hX : 0 ≤ X := by omega
 have hY : 0 ≤ Y := by omega
 have hp := Int.mul_nonneg hX hY
 omega
theorem position_good (s : Trk.Src) (k : Int) (w : World) (h : Trk.Good s) (hb : PosB s k) :
  Calls Tryz.prog 173 #[.agg (srcC s).toArray, .int .i64 k] w fun e w' => e = .returned (.agg #[.int .i64 (Trk.moved s k).an, .int .i64 (Trk.moved s k).ad]) ∧ Below w.heap.size w w' := by
 obtain ⟨m1, m2⟩ := Trk.moved_num h k
 have hB := Trk.base_pos h
 obtain ⟨A, hA⟩ := Int.eq_ofNat_of_zero_le (show 0 ≤ s.ad by have := h.a0; omega)
 obtain ⟨D, hD⟩ := Int.eq_ofNat_of_zero_le (show 0 ≤ s.sd by have := h.s0; omega)
 have a0 : 0 < A := by have := h.a0; omega
 have d0 : 0 < D := by have := h.s0; omega
 obtain ⟨b1, b2, b3, b4⟩ := Trk.base_nat a0 d0
 have hbase : Trk.baseN s = A / A.gcd D * D := by unfold Trk.baseN; rw [hA, hD, Int.toNat_natCast, Int.toNat_natCast]
 have hpos : Trk.posN s k = s.an * ((D / A.gcd D : Nat) : Int) + k * s.sn * ((A / A.gcd D : Nat) : Int) := by unfold Trk.posN; rw [hA, hD, Int.toNat_natCast, Int.toNat_natCast]
 have g0 : 0 < A.gcd D := Nat.gcd_pos_of_pos_left _ a0
 have la : A / A.gcd D ≤ A := Nat.div_le_self _ _
 have ld : D / A.gcd D ≤ D := Nat.div_le_self _ _
 have ha := hb.a
 have hd := hb.d
 have hbb := hb.b
 rw [hA] at ha
 rw [hD] at hd
 have n0 := hb.n0
 have n1 := hb.n1
 have v0 := hb.v0
 have v1 := hb.v1
 have k0 := hb.k0
 have k1 := hb.k1
 rw [hA] at n0 n1
 rw [hD] at v0 v1
 obtain ⟨B, eB⟩ : ∃ B, B = Trk.baseN s := ⟨_, rfl⟩
 obtain ⟨N, eN⟩ : ∃ N, N = Trk.posN s k := ⟨_, rfl⟩
 rw [← eB] at m1 m2 hB hbase hbb
 rw [← eN] at m1 m2 hpos
 obtain ⟨G, eG⟩ : ∃ G, G = A.gcd D := ⟨_, rfl⟩
 rw [← eG] at b1 b2 b3 b4 hbase hpos g0 la ld
 obtain ⟨a, ea⟩ : ∃ a, a = A / G := ⟨_, rfl⟩
 obtain ⟨d, ed⟩ : ∃ d, d = D / G := ⟨_, rfl⟩
 rw [← ea] at b1 b2 b3 b4 hbase hpos la
 rw [← ed] at b1 b2 hpos ld
 rw [← hbase] at b1 b2 b3 b4
 have c0 : 0 < N.natAbs.gcd B := Nat.gcd_pos_of_pos_right _ hB
 have cN : ((N.natAbs.gcd B : Nat) : Int) ∣ N := Int.ofNat_dvd_left.2 (Nat.gcd_dvd_left _ _)
 have cB : ((N.natAbs.gcd B : Nat) : Int) ∣ (B : Int) := by exact_mod_cast Nat.gcd_dvd_right _ _
 obtain ⟨c, ec⟩ : ∃ c, c = N.natAbs.gcd B := ⟨_, rfl⟩
 rw [← ec] at c0 cN cB m1 m2
 have t1 := abs_mul n0 n1 (show -(d : Int) ≤ (d : Int) by omega) (Int.le_refl _)
 have e1 : 1099511627776 * (A : Int) * (d : Int) = 1099511627776 * (B : Int) := by
  rw [Int.mul_assoc]; congr 1; rw [b1]; simp
 rw [e1] at t1
 have t2 := abs_mul (show -(4294967296 : Int) ≤ k by omega) k1 v0 v1
 have t3 := abs_mul t2.1 t2.2 (show -(a : Int) ≤ (a : Int) by omega) (Int.le_refl _)
 have e3 : 4294967296 * (1024 * (D : Int)) * (a : Int) = 4398046511104 * (B : Int) := by
  rw [← Int.mul_assoc, show (4294967296 * 1024 : Int) = 4398046511104 from rfl, Int.mul_assoc]; congr 1; rw [hbase, Int.mul_comm]; simp
 rw [e3] at t3
 have xN : (N.tdiv (c : Int)).natAbs ≤ N.natAbs := by rw [Int.natAbs_tdiv]; exact Nat.div_le_self _ _
 obtain ⟨q, eq⟩ : ∃ q, q = B / c := ⟨_, rfl⟩
 have xB : ((B : Int).tdiv (c : Int)) = (q : Int) := by rw [eq]; simp
 have lB : q ≤ B := by rw [eq]; exact Nat.div_le_self _ _
 have key := pos_core s.kind s.name s.an (A : Int) s.sn (D : Int) s.smooth k (G : Int) (a : Int) (d : Int) (B : Int) N (s.an * (d : Int)) (k * s.sn) (k * s.sn * (a : Int)) (c : Int) w (by simpa using h.k)
  (by rw [eG]; simp) (by rw [ec]; simp) (by omega) (by omega) (by omega) (by omega) (by omega) (by omega) (by omega) (by omega)
  (by rw [ea]; simp) (by rw [hbase]; simp) (by rw [← b2]; simp) rfl rfl (by rw [← b3]; simp) rfl hpos.symm
  (by omega) (by omega) (by omega) (by omega) (by omega) (by omega) (by rw [xB]; omega) (by rw [xB]; omega) (by omega) (by omega) (by omega)
 rw [m1, m2, ← Int.tdiv_eq_ediv_of_dvd cN, ← Int.tdiv_eq_ediv_of_dvd cB]
 unfold srcC
 rw [hA, hD]
 exact key
set_option maxRecDepth 100000 in
set_option maxHeartbeats 4000000 in
theorem position_black (k : Int) (w : World) :
  Calls Tryz.prog 173 #[.agg (srcC Trk.black).toArray, .int .i64 k] w fun e w' => e = .returned (.agg #[.int .i64 0, .int .i64 0]) ∧ Below w.heap.size w w' := by
 unfold srcC Trk.black
 go_enter Tryz.func173, Tryz.ntmps173
 go_wp2_with fail
 exact bodyPost_ret (results_rat (g := w.heap.size + 1) Tryz.results173 rfl (by simp [go_sem]) (by simp [go_sem])) rfl ⟨rfl, by go_grown⟩
theorem position_any (s : Trk.Src) (k : Int) (w : World) (h : Trk.Okay s) (hb : s = Trk.black ∨ PosB s k) :
  Calls Tryz.prog 173 #[.agg (srcC s).toArray, .int .i64 k] w fun e w' => e = .returned (.agg #[.int .i64 (Trk.moved s k).an, .int .i64 (Trk.moved s k).ad]) ∧ Below w.heap.size w w' := by
 by_cases e : s = Trk.black
 ·subst e
  rw [Trk.moved_black]
  exact position_black k w
 ·exact position_good s k w (h.resolve_left e) (hb.resolve_left e)
def srcN (s : Trk.Src) : Trk.Src := { s with an := 0, ad := 0 }
def ratV (n d : Int) : Value := .agg #[.int .i64 n, .int .i64 d]
def ssG (x y : Value) (i lo hi : Nat) (v : Value) (w : World) : Prop := v = if i = 2 then x else y
theorem ssG.ext {x y : Value} (i lo hi : Nat) (v : Value) (w w' : World) (h : ssG x y i lo hi v w) (hb : Plan.Ext w w') : ssG x y i lo hi v w' := h
def ssS : List (Nat × Tmp) := [(2, 11), (5, 14)]
theorem ratV_eq (n d n' d' : Int) (w : World) : (Op.equalIn 10000 38 (.agg #[.int .i64 n, .int .i64 d]) (.agg #[.int .i64 n', .int .i64 d'])).run Tryz.prog w = .ok (decide (n = n' ∧ d = d')) w := by
 simp [go_sem]
 by_cases h1 : n = n' <;> by_cases h2 : d = d' <;> simp [h1, h2]
theorem srcN_eq (a b : Trk.Src) : srcN a = srcN b ↔ a.kind = b.kind ∧ a.name = b.name ∧ a.sn = b.sn ∧ a.sd = b.sd ∧ a.smooth = b.smooth := by
 constructor
 ·intro h
  have h1 : (srcN a).kind = (srcN b).kind := by rw [h]
  have h2 : (srcN a).name = (srcN b).name := by rw [h]
  have h3 : (srcN a).sn = (srcN b).sn := by rw [h]
  have h4 : (srcN a).sd = (srcN b).sd := by rw [h]
  have h5 : (srcN a).smooth = (srcN b).smooth := by rw [h]
  exact ⟨h1, h2, h3, h4, h5⟩
 ·rintro ⟨h1, h2, h3, h4, h5⟩
  exact Trk.Src.ext2 h1 h2 rfl rfl h3 h4 h5
set_option maxRecDepth 100000 in
set_option maxHeartbeats 8000000 in
theorem samesource_any (a b : Trk.Src) (j k : Int) (w : World) (ha : Trk.Okay a) (hb : Trk.Okay b) (Ba : a = Trk.black ∨ PosB a j) (Bb : b = Trk.black ∨ PosB b k) :
  Calls Tryz.prog 159 #[.agg (srcC a).toArray, .int .i64 j, .agg (srcC b).toArray, .int .i64 k] w fun e w' => e = .returned (.bool (decide (Trk.moved a j = Trk.moved b k))) ∧ Below w.heap.size w w' := by
 have P1 := Lib.hid (fun w => position_any a j w ha Ba)
 have P2 := Lib.hid (fun w => position_any b k w hb Bb)
 have HE := Lib.hid (Trk.moved_eq (a := a) (b := b) j k)
 clear ha hb Ba Bb
 obtain ⟨D, hD⟩ : ∃ D, D = decide (Trk.moved a j = Trk.moved b k) := ⟨_, rfl⟩
 rw [← hD]
 have HD := Lib.hid hD
 clear hD
 obtain ⟨xn, hxn⟩ : ∃ x, x = (Trk.moved a j).an := ⟨_, rfl⟩
 obtain ⟨xd, hxd⟩ : ∃ x, x = (Trk.moved a j).ad := ⟨_, rfl⟩
 obtain ⟨yn, hyn⟩ : ∃ x, x = (Trk.moved b k).an := ⟨_, rfl⟩
 obtain ⟨yd, hyd⟩ : ∃ x, x = (Trk.moved b k).ad := ⟨_, rfl⟩
 rw [← hxn, ← hxd] at P1
 rw [← hyn, ← hyd] at P2
 rw [← hxn, ← hxd, ← hyn, ← hyd] at HE
 clear hxn hxd hyn hyd
 have HQ := Lib.hid (fun w => run_eq_src (srcN a) (srcN b) w)
 obtain ⟨c1, hc1⟩ : ∃ c, c = decide (srcN a = srcN b) := ⟨_, rfl⟩
 have HC1 := Lib.hid hc1
 rw [← hc1] at HQ
 clear hc1
 unfold srcC at P1 P2 ⊢
 go_enter Tryz.func159, Tryz.ntmps159
 go_upto_region 1 with fail
 obtain ⟨w1, hw1⟩ : ∃ z, z = (w.alloc (.cells #[.int .i64 a.kind, .string a.name, .int .i64 a.an, .int .i64 a.ad, .int .i64 a.sn, .int .i64 a.sd, .bool a.smooth] 46)).alloc (.cells #[.int .i64 b.kind, .string b.name, .int .i64 b.an, .int .i64 b.ad, .int .i64 b.sn, .int .i64 b.sd, .bool b.smooth] 46) := ⟨_, rfl⟩
 have hb1 : Below w.heap.size w w1 := by rw [hw1]; go_grown
 obtain ⟨p, hp⟩ : ∃ p, p = w.heap.size := ⟨_, rfl⟩
 obtain ⟨r, hr⟩ : ∃ r, r = w.heap.size + 1 := ⟨_, rfl⟩
 have x : C7 w1 p 0 (.int .i64 a.kind) (.string a.name) (.int .i64 a.an) (.int .i64 a.ad) (.int .i64 a.sn) (.int .i64 a.sd) (.bool a.smooth) := by rw [hw1, hp]; constructor <;> simp [go_sem]
 have y : C7 w1 r 0 (.int .i64 b.kind) (.string b.name) (.int .i64 b.an) (.int .i64 b.ad) (.int .i64 b.sn) (.int .i64 b.sd) (.bool b.smooth) := by rw [hw1, hr]; constructor <;> simp [go_sem]
 have f : (∀ o, w1.frozen? ⟨p, o, none⟩ = false) ∧ ∀ o, w1.frozen? ⟨r, o, none⟩ = false := by rw [hw1, hp, hr]; exact ⟨fun o => by simp [go_sem], fun o => by simp [go_sem]⟩
 rw [← hw1, ← hr, ← hp]
 have HX := Lib.hid x
 have HY := Lib.hid y
 have HF := Lib.hid f
 have HB := Lib.hid hb1
 have HP := Lib.hid (show w.heap.size ≤ p ∧ w.heap.size ≤ r ∧ p ≠ r by omega)
 clear hw1 hp hr hb1 x y f
 refine Plan.wp_region_fresh (fun w' => Below w1.heap.size w1 w') 7 (ssG (ratV xn xd) (ratV yn yd)) ([0, 1, 3, 4].map (·, true)) ssS ([6].map (·, true)) 23 (by kernel_rfl) (by kernel_rfl) (by kernel_rfl) (Below.refl _ _).drew (fun wa wb ha hb => ha.trans (hb.mono ha.size)) ssG.ext ?_
 refine' Plan.plan_seg _ [0, 1, 3, 4] [] (by kernel_rfl) (by kernel_rfl) rfl (by exact (Below.refl _ _).drew) (fun wx hS => ?_) ?_
 rotate_left
 ·obtain ⟨x0, x1, x2, x3, x4, x5, x6⟩ := HX.out.below hS
  obtain ⟨y0, y1, y2, y3, y4, y5, y6⟩ := HY.out.below hS
  simp only [Nat.zero_add] at x1 x2 x3 x4 x5 x6 y1 y2 y3 y4 y5 y6
  clear hS
  go_light
  iterate 4 (apply Plan.seg_pick; rfl; intro K hK; go_wp)
  exact Plan.seg_nil
 refine Plan.plan_nil ?_
 refine Plan.fresh_at_gen (fun A => A.tmps.size = 23 ∧ A.tmps[9]? = some (.agg (srcC a).toArray) ∧ A.tmps[10]? = some (.int .i64 j) ∧ A.tmps[12]? = some (.agg (srcC b).toArray) ∧ A.tmps[13]? = some (.int .i64 k)) ⟨rfl, rfl, rfl, rfl, rfl⟩ rfl (fun Aq hA => ?_) ?_
 ·obtain ⟨hsz, e9, e10, e12, e13⟩ := hA
  intro p' hp o ho vs wx lo hi hS hE hG K hK
  simp only [ssS, List.mem_cons, List.not_mem_nil, or_false] at hp
  rcases hp with rfl | rfl
  all_goals obtain rfl := Option.some.inj ho
  ·have t9 : (Plan.puts vs ssS Aq).eval (.tmp 9) = .agg (srcC a).toArray := by rw [Plan.eval_out (by decide)]; simp [Act.eval, Array.getD_eq_getD_getElem?, e9]
   have t10 : (Plan.puts vs ssS Aq).eval (.tmp 10) = .int .i64 j := by rw [Plan.eval_out (by decide)]; simp [Act.eval, Array.getD_eq_getD_getElem?, e10]
   refine Plan.one_call rfl 173 Tryz.func173 (by kernel_rfl) (by kernel_rfl) #[.tmp 9, .tmp 10] #[46, 2] rfl #[.agg (srcC a).toArray, .int .i64 j] (by simp only [List.map_toArray, List.map_cons, List.map_nil, t9, t10]) (fun r w' => r = ratV xn xd ∧ Below wx.heap.size wx w') ?_ (fun r w' hR => hK _ _ hR.1 hR.2)
   refine (P1.out wx).mono ?_
   rintro e w' ⟨rfl, hb⟩
   exact ⟨_, rfl, rfl, hb⟩
  ·have t9 : (Plan.puts vs ssS Aq).eval (.tmp 12) = .agg (srcC b).toArray := by rw [Plan.eval_out (by decide)]; simp [Act.eval, Array.getD_eq_getD_getElem?, e12]
   have t10 : (Plan.puts vs ssS Aq).eval (.tmp 13) = .int .i64 k := by rw [Plan.eval_out (by decide)]; simp [Act.eval, Array.getD_eq_getD_getElem?, e13]
   refine Plan.one_call rfl 173 Tryz.func173 (by kernel_rfl) (by kernel_rfl) #[.tmp 12, .tmp 13] #[46, 2] rfl #[.agg (srcC b).toArray, .int .i64 k] (by simp only [List.map_toArray, List.map_cons, List.map_nil, t9, t10]) (fun r w' => r = ratV yn yd ∧ Below wx.heap.size wx w') ?_ (fun r w' hR => hK _ _ hR.1 hR.2)
   refine (P2.out wx).mono ?_
   rintro e w' ⟨rfl, hb⟩
   exact ⟨_, rfl, rfl, hb⟩
 ·intro vs lo hi wx hS hE hall hap
  have h2 : vs 2 = ratV xn xd := (hall (2, 11) (by decide)).1
  have h5 : vs 5 = ratV yn yd := (hall (5, 14) (by decide)).1
  have HF2 := Lib.hid (show (∀ o, wx.frozen? ⟨p, o, none⟩ = false) ∧ ∀ o, wx.frozen? ⟨r, o, none⟩ = false from ⟨fun o => (hS.frozen (p := ⟨p, o, none⟩) HX.out.lt).trans (HF.out.1 o), fun o => (hS.frozen (p := ⟨r, o, none⟩) HY.out.lt).trans (HF.out.2 o)⟩)
  replace HX := Lib.hid (HX.out.below hS)
  replace HY := Lib.hid (HY.out.below hS)
  replace HB := Lib.hid (HB.out.trans (hS.mono HB.out.size))
  have hSk := Lib.hid hS
  simp only [ssS, Plan.puts, h2, h5, ratV]
  clear hall hap hE hS h2 h5 HF
  have heq := fun w => ratV_eq xn xd yn yd w
  refine' Plan.plan_seg _ [6] [] (by kernel_rfl) (by kernel_rfl) rfl (by exact hSk.out) (fun wy hS => ?_) ?_
  rotate_left
  ·clear hS
   go_light
   iterate 1 (apply Plan.seg_pick; rfl; intro K hK; go_wp)
   exact Plan.seg_nil
  refine Plan.plan_done ?_
  clear heq
  by_cases hpe : xn = yn ∧ xd = yd
  ·have hpd : (!decide (xn = yn) || !decide (xd = yd)) = false := by simp [hpe.1, hpe.2]
   rw [hpd]
   have HN := Lib.hid hpe
   clear hpe hpd
   obtain ⟨x0, x1, x2, x3, x4, x5, x6⟩ := HX.out
   obtain ⟨y0, y1, y2, y3, y4, y5, y6⟩ := HY.out
   simp only [Nat.zero_add] at x1 x2 x3 x4 x5 x6 y1 y2 y3 y4 y5 y6
   obtain ⟨f, g⟩ := HF2.out
   have hne := HP.out.2.2
   have hne2 := Ne.symm hne
   have hq := HQ.out
   simp only [srcN] at hq
   go_wp2_with fail
   go_ret
   refine ⟨ret_bool ?_, ?_⟩
   ·rw [HC1.out, HD.out]
    have h1 := HE.out
    have h2 := srcN_eq a b
    simp only [HN.out.1, HN.out.2, and_self, true_and] at h1
    exact decide_eq_decide.2 (h2.trans h1.symm)
   ·have hp := HP.out.1
    have hr := HP.out.2.1
    have hbx := HB.out
    exact (((hbx.setCell (p := ⟨p, 2, none⟩) hp _).setCell (p := ⟨p, 3, none⟩) hp _).setCell (p := ⟨r, 2, none⟩) hr _).setCell (p := ⟨r, 3, none⟩) hr _
  ·have hpd : (!decide (xn = yn) || !decide (xd = yd)) = true := by
    by_cases h1 : xn = yn
    ·have h2 : xd ≠ yd := fun h => hpe ⟨h1, h⟩
     simp [h2]
    ·simp [h1]
   rw [hpd]
   have HN := Lib.hid hpe
   clear hpe hpd
   go_wp2_with fail
   go_ret
   refine ⟨ret_bool ?_, HB.out⟩
   rw [HD.out]
   exact (decide_eq_false fun h => HN.out (HE.out.1 h).1).symm
structure FrB (c : Trk.Clip) (k : Int) : Prop where
 a : Trk.Okay c.a
 b : Trk.Okay c.b
 pa : c.a = Trk.black ∨ PosB c.a k
 pb : c.b = Trk.black ∨ PosB c.b k
 z : Trk.shares c.kind = false → c.off = 0
 o0 : 0 ≤ c.off
 o1 : c.off ≤ 2147483647
 k0 : -4294967296 ≤ k
 k1 : k ≤ 4294967296
set_option maxRecDepth 100000 in
set_option maxHeartbeats 40000000 in
theorem sameframe_any (c d : Trk.Clip) (j k : Int) (w : World) (hc : c.chan = []) (hd : d.chan = []) (fc : FrB c j) (fd : FrB d k) :
  Calls Tryz.prog 136 #[clipV c, .int .i64 j, clipV d, .int .i64 k] w fun e w' => e = .returned (.bool (decide (Trk.one c j = Trk.one d k))) ∧ Below w.heap.size w w' := by
 have HCH := Lib.hid (hc.trans hd.symm)
 have S1 := Lib.hid (fun w => samesource_any c.a d.a j k w fc.a fd.a fc.pa fd.pa)
 have S2 := Lib.hid (fun w => samesource_any c.b d.b j k w fc.b fd.b fc.pb fd.pb)
 have HE := Lib.hid (Trk.one_eq (c := c) (d := d) j k fc.z fd.z)
 have o0 := fc.o0
 have o1 := fc.o1
 have o2 := fd.o0
 have o3 := fd.o1
 have j0 := fc.k0
 have j1 := fc.k1
 have k0 := fd.k0
 have k1 := fd.k1
 clear hc hd fc fd
 obtain ⟨D, hD⟩ : ∃ D, D = decide (Trk.one c j = Trk.one d k) := ⟨_, rfl⟩
 rw [← hD]
 have HD := Lib.hid hD
 clear hD
 obtain ⟨sa, hsa⟩ : ∃ s, s = decide (Trk.moved c.a j = Trk.moved d.a k) := ⟨_, rfl⟩
 obtain ⟨sb, hsb⟩ : ∃ s, s = decide (Trk.moved c.b j = Trk.moved d.b k) := ⟨_, rfl⟩
 rw [← hsa] at S1
 rw [← hsb] at S2
 have HSA := Lib.hid hsa
 have HSB := Lib.hid hsb
 clear hsa hsb
 unfold clipV
 obtain ⟨C, hC⟩ : ∃ C, C = (clipC c).toArray := ⟨_, rfl⟩
 obtain ⟨DD, hDD⟩ : ∃ DD, DD = (clipC d).toArray := ⟨_, rfl⟩
 rw [← hC, ← hDD]
 have HCC := Lib.hid hC
 have HDD := Lib.hid hDD
 clear hC hDD
 go_enter Tryz.func136, Tryz.ntmps136
 go_upto_region 1 with fail
 obtain ⟨w1, hw1⟩ : ∃ x, x = (w.alloc (.cells C 48)).alloc (.cells DD 48) := ⟨_, rfl⟩
 rw [← hw1]
 rw [HCC.out, HDD.out] at hw1
 obtain ⟨hx, hy, hb1⟩ := box2_facts hw1
 obtain ⟨g1, hg1⟩ : ∃ g, g = w.heap.size := ⟨_, rfl⟩
 obtain ⟨g2, hg2⟩ : ∃ g, g = w.heap.size + 1 := ⟨_, rfl⟩
 rw [← hg2] at hy ⊢
 rw [← hg1] at hx ⊢
 have HB := Lib.hid hb1
 have HX := Lib.hid hx
 have HY := Lib.hid hy
 clear hw1 hb1 hg1 hg2
 obtain ⟨x0, x1, x2, x3, x4, x5, x6, x7, x8, x9, x10, x11, x12, x13, x14, x15, x16, x17, x18, x19, x20, x21⟩ := hx.at0
 obtain ⟨y0, y1, y2, y3, y4, y5, y6, y7, y8, y9, y10, y11, y12, y13, y14, y15, y16, y17, y18, y19, y20, y21⟩ := hy.at0
 clear hx hy x0 y0
 have HNO : ¬ (Trk.one c j = Trk.one d k) → false = D := fun h => by rw [HD.out]; exact (decide_eq_false h).symm
 replace HNO := Lib.hid HNO
 go_upto_region 3 with (go_at_call 107; refine (equal_nil _).mono ?_; rintro e w' ⟨rfl, rfl⟩)
 all_goals try
  go_ret
  refine ⟨ret_bool (HNO.out fun h => ?_), HB.out⟩
  obtain ⟨⟨h1, h2, h3, h4, h5, h6⟩, h7, h8, h9⟩ := HE.out.1 h
  first
  | contradiction
  | exact absurd (congrArg ByteArray.toList h4) (by assumption)
  | (exfalso; simp_all; done)
 rename_i hk ht hp htx hg K1 a1 K2 a2
 have HEQ := Lib.hid (show (Trk.shares c.kind = true → c.off + j = d.off + k) → D = (sa && sb) from fun hs => by
  have h := HE.out
  rw [HD.out, HSA.out, HSB.out, ← Bool.decide_and]
  exact decide_eq_decide.2 (h.trans ⟨fun h => h.2.2, fun h2 => ⟨⟨hk, ht, hp, bytes_inj2 htx, hg, HCH.out⟩, hs, h2.1, h2.2⟩⟩))
 clear ht hp htx hg x17 x18 x19 x20 x21 y17 y18 y19 y20 y21
 have HK := Lib.hid hk
 unfold srcC at S1 S2
 go_upto_region 5 with fail
 all_goals try
  go_ret
  refine ⟨ret_bool (HNO.out fun h => ?_), HB.out⟩
  obtain ⟨⟨h1, h2, h3, h4, h5, h6⟩, h7, h8, h9⟩ := HE.out.1 h
  first
  | contradiction
  | (exact absurd (h7 (by rw [h1]; simp_all [Trk.shares])) (by assumption))
  | (exfalso; simp_all [Trk.shares]; done)
 all_goals
  have hd : D = (sa && sb) := HEQ.out fun hs => by
   rw [hk] at hs
   first
   | (simp_all [Trk.shares]; done)
   | (have h2 : (c.off + j != d.off + k) = false := by assumption
      simpa using h2)
  have HDS := Lib.hid hd
  clear hd hk
  clear y1 x1 x16 y16
  go_wp2_with fail
  refine (S1.out _).mono ?_
  rintro e w2 ⟨rfl, hb⟩
  replace HX := Lib.hid (HX.out.below hb)
  replace HY := Lib.hid (HY.out.below hb)
  replace HB := Lib.hid (HB.out.trans (hb.mono HB.out.size))
  clear hb x2 x3 x4 x5 x6 x7 x8 x9 x10 x11 x12 x13 x14 x15 y2 y3 y4 y5 y6 y7 y8 y9 y10 y11 y12 y13 y14 y15
  obtain ⟨x0, x1, x2, x3, x4, x5, x6, x7, x8, x9, x10, x11, x12, x13, x14, x15, x16, x17, x18, x19, x20, x21⟩ := HX.out.at0
  obtain ⟨y0, y1, y2, y3, y4, y5, y6, y7, y8, y9, y10, y11, y12, y13, y14, y15, y16, y17, y18, y19, y20, y21⟩ := HY.out.at0
  cases sa
  ·go_wp2_with fail
   go_ret
   exact ⟨ret_bool (by rw [HDS.out]; rfl), HB.out⟩
  ·go_wp2_with fail
   refine (S2.out _).mono ?_
   rintro e w3 ⟨rfl, hb⟩
   replace HB := Lib.hid (HB.out.trans (hb.mono HB.out.size))
   clear hb
   go_wp2_with fail
   go_ret
   exact ⟨ret_bool (by rw [HDS.out]; rfl), HB.out⟩
end Go.Proofs.YtfoohocgdcgbcaaGreat
