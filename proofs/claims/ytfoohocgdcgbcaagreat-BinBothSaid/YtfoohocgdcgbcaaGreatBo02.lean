/- Texts of this claim joined: QC QE QG RA. -/
import Derived.Handy
import Derived.OwnWalk
import Derived.ProofKit
import Derived.OpenShut
import Derived.Carry
import Derived.ChangeSlices
import Derived.ChangeSame
import Derived.Test.YtfoohocgdcgbcaaGreatSd01
import Derived.Test.YtfoohocgdcgbcaaGreatSd06
import Derived.Test.YtfoohocgdcgbcaaGreatBo01
set_option linter.unusedVariables false
set_option linter.unusedSimpArgs false

/- A track cloned; Merge by its shortcuts. -/
namespace Go.Proofs.YtfoohocgdcgbcaaGreat
open Go.RowKit
set_option linter.unusedVariables false
set_option linter.unusedSimpArgs false
theorem OT.chan {w : World} {B g cap kk : Nat} {l : List Trk.Clip} {i : Nat} {x : Trk.Clip} (h : OT w B (.slice (some ⟨g, 0, none⟩) kk cap) l) (hx : l[i]? = some x) : OT (w.setCell ⟨g, i * 22 + 21, none⟩ (.slice none 0 0)) B (.slice (some ⟨g, 0, none⟩) kk cap) l := by
  have h1 := h.range (i := i) (j := 21) (x := x) (x' := x) (vs := [.slice none 0 0]) hx (by decide) rfl
  have e : l.set i x = l := by
    refine List.ext_getElem? (fun j => ?_)
    rw [List.getElem?_set]
    split
    · rename_i e
      subst e
      split
      · exact hx.symm
      · rename_i hn
        exact absurd (List.getElem?_eq_some_iff.1 hx).1 hn
    · rfl
  rw [e] at h1
  exact h1
set_option maxRecDepth 100000 in
set_option maxHeartbeats 8000000 in
theorem clonetrack_any (v : Value) (l : List Trk.Clip) (w : World) (h : Tk w v l) (hl : l.length ≤ 1048576) : Calls Tryz.prog 48 #[v] w (OTPost w l) := by
  have HT := Lib.hid h
  obtain ⟨ao, cap, rfl, -⟩ := h
  obtain ⟨N, hN⟩ : ∃ N, N = l.length := ⟨_, rfl⟩
  rw [← hN] at HT hl ⊢
  have HN := Lib.hid hN
  clear hN
  go_enter Tryz.func48, Tryz.ntmps48
  go_wp2_with fail
  refine (clonel_any _ l w HT.out (by rw [← HN.out]; exact hl)).mono ?_
  rintro e w1 ⟨r, rfl, ho, hb⟩
  have HO := Lib.hid ho
  have HB := Lib.hid hb
  obtain ⟨ra, rc, rfl, -⟩ := ho.tk
  rw [← HN.out] at HO ⊢
  clear ho hb
  go_upto_region 3 with fail
  go_loopw [9] (fun i wr => ∃ k : Nat, k ≤ N ∧ i = .int .i64 (k : Int) ∧ OT wr w.heap.size (.slice ra N rc) l ∧ Below w.heap.size w wr) (fun i _ => N - (intOf i).toNat)
  case atStart => exact ⟨0, Nat.zero_le _, rfl, HO.out, HB.out⟩
  case round =>
    obtain ⟨k, hk, rfl, ho, hb⟩ := hrel
    have HOK := Lib.hid ho
    have HBK := Lib.hid hb
    clear ho hb
    by_cases hlt : k < N
    · have hlt' : (k : Int) < (N : Int) := by omega
      obtain ⟨c, hc⟩ : ∃ c, l[k]? = some c := ⟨_, List.getElem?_eq_getElem (by have := HN.out; omega)⟩
      rcases HOK.out.shape with ⟨-, e⟩ | ⟨g, cp, e⟩
      · have := HN.out
        rw [e] at this
        simp only [List.length_nil] at this
        omega
      simp only [Value.slice.injEq] at e
      obtain ⟨rfl, -, rfl⟩ := e
      have k21 := (HOK.out.own.2.2.2 k c hc).k21
      have kf := HOK.out.frozen (k * 22 + 21)
      have HC := Lib.hid hc
      clear hc
      go_upto_region 5 with fail
      go_wp2_with fail
      refine (clone_nil wr).mono ?_
      rintro e w2 ⟨rfl, rfl⟩
      have HO2 := Lib.hid (HOK.out.chan HC.out)
      have HB2 := Lib.hid (HBK.out.setCell (p := ⟨g, k * 22 + 21, none⟩) HOK.out.own.1 (.slice none 0 0))
      go_wp2_with fail
      go_roundw
      case rel => exact ⟨k + 1, by omega, by simp, HO2.out, HB2.out⟩
      case measure =>
        simp [intOf]
        omega
    · have hkn : k = N := by omega
      go_wp2_with fail
      go_ret
      exact ⟨_, rfl, HOK.out, HBK.out⟩
/-- What Merge answers by its shortcuts. -/
def shortL (n a b : List Trk.Clip) : List Trk.Clip := if Trk.nf b = Trk.nf n ∨ Trk.nf b = Trk.nf a then Trk.nf a else Trk.nf b
set_option maxRecDepth 100000 in
set_option maxHeartbeats 8000000 in
theorem merge_short {L : Int} (vn va vb : Value) (n a b : List Trk.Clip) (w : World) (hn : Tk w vn n) (ha : Tk w va a) (hb : Tk w vb b) (Vn : VT L n) (Va : VT L a) (Vb : VT L b) (hL : L ≤ 140737488355328)
    (hs : Trk.nf b = Trk.nf n ∨ Trk.nf b = Trk.nf a ∨ Trk.nf a = Trk.nf n) :
    Calls Tryz.prog 17 #[vn, va, vb] w fun e w' => ∃ v', e = .returned (.tuple #[v', .int .i64 0]) ∧ OT w' w.heap.size v' (shortL n a b) ∧ Below w.heap.size w w' := by
  have HN := Lib.hid hn
  have HA := Lib.hid ha
  have HBB := Lib.hid hb
  have V1 := Lib.hid (fun (w : World) (h : Tk w vn n) => vtrack_any vn n w h Vn hL)
  have V2 := Lib.hid (fun (w : World) (h : Tk w va a) => vtrack_any va a w h Va hL)
  have V3 := Lib.hid (fun (w : World) (h : Tk w vb b) => vtrack_any vb b w h Vb hL)
  have S1 := Lib.hid (fun (w : World) (h : Tk w vb b) (h' : Tk w vn n) => same_any vb vn b n w h h' Vb Vn hL)
  have S2 := Lib.hid (fun (w : World) (h : Tk w vb b) (h' : Tk w va a) => same_any vb va b a w h h' Vb Va hL)
  have S3 := Lib.hid (fun (w : World) (h : Tk w va a) (h' : Tk w vn n) => same_any va vn a n w h h' Va Vn hL)
  have NA := Lib.hid (fun (w : World) (h : Tk w va a) => normal_any va a w h Va hL)
  have NB := Lib.hid (fun (w : World) (h : Tk w vb b) => normal_any vb b w h Vb hL)
  have CA' := Lib.hid (fun (v : Value) (w : World) (h : Tk w v (Trk.nf a)) => clonetrack_any v (Trk.nf a) w h (by have := (nf_vt Va).n; omega))
  have CB' := Lib.hid (fun (v : Value) (w : World) (h : Tk w v (Trk.nf b)) => clonetrack_any v (Trk.nf b) w h (by have := (nf_vt Vb).n; omega))
  obtain ⟨xn, cn, rfl, -⟩ := hn
  obtain ⟨xa, ca, rfl, -⟩ := ha
  obtain ⟨xb, cb, rfl, -⟩ := hb
  obtain ⟨nn, hnn⟩ : ∃ k, k = n.length := ⟨_, rfl⟩
  obtain ⟨na, hna⟩ : ∃ k, k = a.length := ⟨_, rfl⟩
  obtain ⟨nb, hnb⟩ : ∃ k, k = b.length := ⟨_, rfl⟩
  rw [← hnn] at HN V1 S1 S3 ⊢
  rw [← hna] at HA V2 S2 S3 NA ⊢
  rw [← hnb] at HBB V3 S1 S2 NB ⊢
  obtain ⟨R, hR⟩ : ∃ R, R = shortL n a b := ⟨_, rfl⟩
  rw [← hR]
  have HR := Lib.hid hR
  have HS := Lib.hid hs
  clear Vn Va Vb hnn hna hnb hs hR
  go_enter Tryz.func17, Tryz.ntmps17
  go_wp2_with fail
  refine (V1.out w HN.out).mono ?_
  rintro e w1 ⟨rfl, hb⟩
  have HB := Lib.hid hb
  clear hb
  go_wp2_with fail
  refine (V2.out w1 (HA.out.below HB.out)).mono ?_
  rintro e w2 ⟨rfl, hb⟩
  replace HB := Lib.hid (HB.out.trans (hb.mono HB.out.size))
  clear hb
  go_wp2_with fail
  refine (V3.out w2 (HBB.out.below HB.out)).mono ?_
  rintro e w3 ⟨rfl, hb⟩
  replace HB := Lib.hid (HB.out.trans (hb.mono HB.out.size))
  clear hb
  go_wp2_with fail
  refine (S1.out w3 (HBB.out.below HB.out) (HN.out.below HB.out)).mono ?_
  rintro e w4 ⟨rfl, hb⟩
  replace HB := Lib.hid (HB.out.trans (hb.mono HB.out.size))
  clear hb
  by_cases c1 : Trk.nf b = Trk.nf n
  · have HC1 := Lib.hid c1
    have d1 : decide (Trk.nf b = Trk.nf n) = true := decide_eq_true c1
    rw [d1]
    clear c1 d1
    go_wp2_with fail
    refine (NA.out w4 (HA.out.below HB.out)).mono ?_
    rintro e wp ⟨r1, rfl, ho, hb⟩
    replace HB := Lib.hid (HB.out.trans (hb.mono HB.out.size))
    have HO := Lib.hid ho.tk
    clear hb ho
    go_wp2_with fail
    refine (CA'.out r1 wp HO.out).mono ?_
    rintro e wq ⟨r2, rfl, ho, hb⟩
    have HO2 := Lib.hid ho
    have HB2 := Lib.hid (HB.out.trans (hb.mono HB.out.size))
    have HLE := Lib.hid HB.out.size
    clear hb ho
    go_wp2_with fail
    go_ret2
    exact ⟨_, rfl, by rw [HR.out]; unfold shortL; rw [if_pos (Or.inl HC1.out)]; exact HO2.out.lower HLE.out, HB2.out⟩
  have HC1 := Lib.hid c1
  have d1 : decide (Trk.nf b = Trk.nf n) = false := decide_eq_false c1
  rw [d1]
  clear c1 d1
  go_wp2_with fail
  refine (S2.out w4 (HBB.out.below HB.out) (HA.out.below HB.out)).mono ?_
  rintro e w5 ⟨rfl, hb⟩
  replace HB := Lib.hid (HB.out.trans (hb.mono HB.out.size))
  clear hb
  by_cases c2 : Trk.nf b = Trk.nf a
  · have HC2 := Lib.hid c2
    have d1 : decide (Trk.nf b = Trk.nf a) = true := decide_eq_true c2
    rw [d1]
    clear c2 d1
    go_wp2_with fail
    refine (NA.out w5 (HA.out.below HB.out)).mono ?_
    rintro e wp ⟨r1, rfl, ho, hb⟩
    replace HB := Lib.hid (HB.out.trans (hb.mono HB.out.size))
    have HO := Lib.hid ho.tk
    clear hb ho
    go_wp2_with fail
    refine (CA'.out r1 wp HO.out).mono ?_
    rintro e wq ⟨r2, rfl, ho, hb⟩
    have HO2 := Lib.hid ho
    have HB2 := Lib.hid (HB.out.trans (hb.mono HB.out.size))
    have HLE := Lib.hid HB.out.size
    clear hb ho
    go_wp2_with fail
    go_ret2
    exact ⟨_, rfl, by rw [HR.out]; unfold shortL; rw [if_pos (Or.inr HC2.out)]; exact HO2.out.lower HLE.out, HB2.out⟩
  have HC2 := Lib.hid c2
  have d1 : decide (Trk.nf b = Trk.nf a) = false := decide_eq_false c2
  have c3 : Trk.nf a = Trk.nf n := by rcases HS.out with h | h | h; exact absurd h HC1.out; exact absurd h c2; exact h
  have d3 : decide (Trk.nf a = Trk.nf n) = true := decide_eq_true c3
  rw [d1]
  clear c2 d1 c3
  go_wp2_with fail
  refine (S3.out w5 (HA.out.below HB.out) (HN.out.below HB.out)).mono ?_
  rintro e w6 ⟨rfl, hb⟩
  replace HB := Lib.hid (HB.out.trans (hb.mono HB.out.size))
  clear hb
  rw [d3]
  clear d3
  go_wp2_with fail
  refine (NB.out w6 (HBB.out.below HB.out)).mono ?_
  rintro e wp ⟨r1, rfl, ho, hb⟩
  replace HB := Lib.hid (HB.out.trans (hb.mono HB.out.size))
  have HO := Lib.hid ho.tk
  clear hb ho
  go_wp2_with fail
  refine (CB'.out r1 wp HO.out).mono ?_
  rintro e wq ⟨r2, rfl, ho, hb⟩
  have HO2 := Lib.hid ho
  have HB2 := Lib.hid (HB.out.trans (hb.mono HB.out.size))
  have HLE := Lib.hid HB.out.size
  clear hb ho
  go_wp2_with fail
  go_ret2
  exact ⟨_, rfl, by rw [HR.out]; unfold shortL; rw [if_neg (fun h => h.elim HC1.out HC2.out)]; exact HO2.out.lower HLE.out, HB2.out⟩
end Go.Proofs.YtfoohocgdcgbcaaGreat

/- Step at the empty state. -/
namespace Go.Proofs.YtfoohocgdcgbcaaGreat
open Go.RowKit
set_option linter.unusedVariables false
set_option linter.unusedSimpArgs false
def evB (w : World) : World := w.alloc (.cells #[.int .i64 7, .string ⟨#[]⟩, .string ⟨#[]⟩, .int .i64 0, .int .i64 1, .slice none 0 0] 59)
set_option maxRecDepth 100000 in
set_option maxHeartbeats 8000000 in
theorem docs_nil (w : World) : Calls Tryz.prog 102 #[.slice none 0 0] w fun e w' => e = .returned (.slice none 0 0) ∧ w' = w := by
  have hnil := fun w => Go.run_eql_slice_nil (P := Tryz.prog) w 53 65 none 0 0 Tryz.underlying53
  go_enter Tryz.func102, Tryz.ntmps102
  go_wp2_with fail
  go_ret
  exact ⟨rfl, rfl⟩
set_option maxRecDepth 100000 in
set_option maxHeartbeats 8000000 in
theorem fields_tick (w : World) : Calls Tryz.prog 101 #[.agg #[.int .i64 7, .string ⟨#[]⟩, .string ⟨#[]⟩, .int .i64 0, .int .i64 1, .slice none 0 0]] w fun e w' => e = .returned (.bool true) ∧ w' = w.alloc (.cells #[.int .i64 7, .string ⟨#[]⟩, .string ⟨#[]⟩, .int .i64 0, .int .i64 1, .slice none 0 0] 59) := by
  go_enter Tryz.func101, Tryz.ntmps101
  go_wp2_with fail
  go_ret
  exact ⟨rfl, rfl⟩
set_option maxRecDepth 100000 in
set_option maxHeartbeats 8000000 in
theorem convert_tick (w : World) : Calls Tryz.prog 62 #[.agg #[.int .i64 7, .string ⟨#[]⟩, .string ⟨#[]⟩, .int .i64 0, .int .i64 1, .slice none 0 0]] w fun e w' => e = .returned (.tuple #[.iface 154 (.agg #[.int .i64 1]), .bool true]) ∧ w' = ((w.alloc (.cells #[.int .i64 7, .string ⟨#[]⟩, .string ⟨#[]⟩, .int .i64 0, .int .i64 1, .slice none 0 0] 59)).alloc (.cells #[.int .i64 7, .string ⟨#[]⟩, .string ⟨#[]⟩, .int .i64 0, .int .i64 1, .slice none 0 0] 59)).alloc (.cells #[.int .i64 7, .string ⟨#[]⟩, .string ⟨#[]⟩] 142) := by
  go_enter Tryz.func62, Tryz.ntmps62
  go_wp2_with fail
  refine (fields_tick _).mono ?_
  rintro e w1 ⟨rfl, rfl⟩
  go_wp2_with fail
  go_ret2
  exact ⟨rfl, rfl⟩
set_option maxRecDepth 100000 in
set_option maxHeartbeats 8000000 in
theorem tick_none (w : World) : Calls Tryz.prog 103 #[.agg #[.int .i64 0, .slice none 0 0], .int .i64 1] w fun e w' => e = .returned (.tuple #[.agg #[.int .i64 1, .slice none 0 0], .slice none 0 0, .int .i64 0]) ∧ w' = (w.alloc (.cells #[.int .i64 1, .slice none 0 0] 55)).alloc (.cells #[.int .i64 1, .slice none 0 0] 55) := by
  go_enter Tryz.func103, Tryz.ntmps103
  go_wp2_with fail
  go_loop [7, 24] (fun v7 i => v7 = .slice none 0 0 ∧ i = .int .i64 0) (fun _ _ => 0)
  case atStart => exact ⟨rfl, rfl⟩
  case round =>
    obtain ⟨rfl, rfl⟩ := hrel
    go_wp2_with fail
    go_returns
    exact ⟨rfl, rfl⟩
set_option maxRecDepth 100000 in
set_option maxHeartbeats 8000000 in
theorem clone_none (n : Int) (w : World) : Calls Tryz.prog 64 #[.agg #[.int .i64 n, .slice none 0 0]] w fun e w' => e = .returned (.agg #[.int .i64 n, .slice none 0 0]) ∧ w' = (w.alloc (.cells #[.int .i64 n, .slice none 0 0] 55)).alloc (.cells #[.int .i64 n, .slice none 0 0] 55) := by
  go_enter Tryz.func64, Tryz.ntmps64
  go_wp2_with fail
  refine (docs_nil _).mono ?_
  rintro e w1 ⟨rfl, rfl⟩
  go_wp2_with fail
  go_loop [13] (fun i => i = .int .i64 0) (fun _ => 0)
  case atStart => rfl
  case round =>
    subst hrel
    go_wp2_with fail
    go_returns
    exact ⟨rfl, rfl⟩
set_option maxRecDepth 100000 in
set_option maxHeartbeats 8000000 in
theorem valid_none (w : World) : Calls Tryz.prog 38 #[.agg #[.int .i64 0, .slice none 0 0]] w fun e w' => e = .returned (.bool true) ∧ w' = (w.alloc (.cells #[.int .i64 0, .slice none 0 0] 55)).alloc (.map #[] 0) := by
  have hmm := @run_makeMap Tryz.prog
  go_enter Tryz.func38, Tryz.ntmps38
  go_wp2_with fail
  go_loop [24] (fun i => i = .int .i64 0) (fun _ => 0)
  case atStart => rfl
  case round =>
    subst hrel
    go_wp2_with fail
    go_returns
    exact ⟨rfl, rfl⟩
theorem ta_154_154 (x : Value) (w : World) : (Instr.typeAssert (.iface 154 x) 20 154 true).run Tryz.prog w = .ok (.tuple #[x, .bool true]) w := by
  simp [Instr.typeAssert, run_underlying Tryz.underlying154]
set_option maxRecDepth 100000 in
set_option maxHeartbeats 8000000 in
theorem step_none (w : World) : Calls Tryz.prog 63 #[.agg #[.int .i64 0, .slice none 0 0], .iface 154 (.agg #[.int .i64 1])] w fun e w' => e = .returned (.tuple #[.agg #[.int .i64 1, .slice none 0 0], .slice none 0 0, .int .i64 0]) ∧ w' = ((((w.alloc (.cells #[.int .i64 0, .slice none 0 0] 55)).alloc (.cells #[.int .i64 1, .slice none 0 0] 55)).alloc (.cells #[.int .i64 1] 154)).alloc (.cells #[.int .i64 1, .slice none 0 0] 55)).alloc (.cells #[.int .i64 1, .slice none 0 0] 55) := by
  have hta := ta_154_154
  go_enter Tryz.func63, Tryz.ntmps63
  go_wp2_with fail
  refine (docs_nil _).mono ?_
  rintro e w1 ⟨rfl, rfl⟩
  go_wp2_with fail
  refine (tick_none _).mono ?_
  rintro e w1 ⟨rfl, rfl⟩
  go_wp2_with fail
  go_returns
  exact ⟨rfl, rfl⟩
set_option maxRecDepth 100000 in
set_option maxHeartbeats 8000000 in
theorem step_tick (w : World) : Calls Tryz.prog 26 #[.agg #[.int .i64 0, .slice none 0 0], .agg #[.int .i64 7, .string ⟨#[]⟩, .string ⟨#[]⟩, .int .i64 0, .int .i64 1, .slice none 0 0]] w fun e w' => e = .returned (.tuple #[.agg #[.int .i64 1, .slice none 0 0], .slice none 0 0, .int .i64 0]) ∧ Below w.heap.size w w' := by
  go_enter Tryz.func26, Tryz.ntmps26
  go_wp2_with fail
  refine (valid_none _).mono ?_
  rintro e w1 ⟨rfl, rfl⟩
  go_wp2_with fail
  refine (convert_tick _).mono ?_
  rintro e w1 ⟨rfl, rfl⟩
  go_wp2_with fail
  refine (step_none _).mono ?_
  rintro e w1 ⟨rfl, rfl⟩
  go_wp2_with fail
  refine (clone_none _ _).mono ?_
  rintro e w1 ⟨rfl, rfl⟩
  go_wp2_with fail
  go_returns
  exact ⟨rfl, by go_grown⟩
end Go.Proofs.YtfoohocgdcgbcaaGreat

/- long and awake. -/
namespace Go.Proofs.YtfoohocgdcgbcaaGreat
open Go.RowKit
set_option linter.unusedVariables false
set_option linter.unusedSimpArgs false
def longC : Trk.Clip := ⟨150, 1, ⟨1, ⟨#[122]⟩, 0, 1, 1, 1, false⟩, Trk.black, 0, 0, 0, ByteArray.empty, 0, []⟩
theorem nf_long : Trk.nf [longC] = [longC] := rfl
theorem nf_gap1 : Trk.nf [Trk.gap 1] = [] := rfl
theorem nf_nil0 : Trk.nf [] = [] := rfl
theorem long_vt : VT 1000000 [longC] := by
  refine ⟨fun c hc => ?_, by decide, by decide⟩
  rw [List.mem_singleton] at hc
  subst hc
  have hn : Trk.okName ⟨#[122]⟩ := .inr ⟨122, rfl, by decide, by decide⟩
  have ha := tape_src0 (nm := ⟨#[122]⟩) (k := 1) (n := 0) (d := 1) (sn := 1) (sd := 1) (sm := false) (.inl rfl) hn ⟨by decide, by decide, by decide, by decide, by decide⟩ ⟨by decide, by decide, by decide, by decide, by decide⟩
  have hs : Trk.SrcIn 1000000 150 longC.a := by
    obtain ⟨h1, h2, h3, -, -, -, -⟩ := ha
    exact .inr ⟨h1, h2, h3, by decide, by decide, by decide, by decide, by decide, by decide⟩
  exact ⟨⟨hs, .inl rfl, rfl, rfl, .inr (.inl ⟨rfl, rfl, rfl, rfl, rfl, rfl⟩)⟩, by decide, by decide, fun h => by simp [longC, Trk.shares] at h⟩
theorem gap1_vt : VT 1000000 [Trk.gap 1] := by
  refine ⟨fun c hc => ?_, by decide, by decide⟩
  rw [List.mem_singleton] at hc
  subst hc
  exact ⟨⟨.inl rfl, .inl rfl, rfl, rfl, .inl ⟨rfl, rfl, rfl, rfl, rfl, rfl, rfl⟩⟩, by decide, by decide, fun h => by simp [Trk.gap, Trk.shares] at h⟩
theorem nil_vt : VT 1000000 [] := ⟨Trk.VL.nil, by decide, by decide⟩
set_option maxRecDepth 100000 in
set_option maxHeartbeats 8000000 in
theorem long_any (w : World) : Calls Tryz.prog 23 #[] w (OTPost w [longC]) := by
  go_enter Tryz.func23, Tryz.ntmps23
  go_wp2_with fail
  go_ret
  exact ⟨_, rfl, OT.box w longC, below_box _ _⟩
set_option maxRecDepth 100000 in
set_option maxHeartbeats 8000000 in
theorem awake_any (w : World) : Calls Tryz.prog 20 #[] w fun e w' => e = .returned (.bool true) ∧ Below w.heap.size w w' := by
  go_enter Tryz.func20, Tryz.ntmps20
  go_wp2_with fail
  refine (long_any _).mono ?_
  rintro e w1 ⟨v1, rfl, ho, hb⟩
  have HO := Lib.hid ho
  have HB := Lib.hid hb
  clear ho hb
  go_wp2_with fail
  refine (merge_short (.slice none 0 0) (.slice none 0 0) v1 [] [] [longC] w1 (OT.nil _ 0).tk (OT.nil _ 0).tk HO.out.tk nil_vt nil_vt long_vt (by decide) (.inr (.inr rfl))).mono ?_
  rintro e w2 ⟨m1, rfl, ho, hb⟩
  have e1 : shortL [] [] [longC] = [longC] := rfl
  rw [e1] at ho
  have HM := Lib.hid ho
  replace HB := Lib.hid (HB.out.trans (hb.mono HB.out.size))
  clear ho hb e1
  go_wp2_with fail
  refine (long_any _).mono ?_
  rintro e w3 ⟨v2, rfl, ho, hb⟩
  replace HO := Lib.hid ho
  replace HM := Lib.hid (HM.out.below hb)
  replace HB := Lib.hid (HB.out.trans (hb.mono HB.out.size))
  clear ho hb
  go_wp2_with fail
  have hgv : OT (w3.alloc (.cells (clipC (Trk.gap 1)).toArray 48)) w3.heap.size (.slice (some ⟨w3.heap.size, 0, none⟩) 1 1) [Trk.gap 1] := OT.box w3 (Trk.gap 1)
  have hbb : Below w3.heap.size w3 (w3.alloc (.cells (clipC (Trk.gap 1)).toArray 48)) := below_box _ _
  refine (merge_short v2 (.slice (some ⟨w3.heap.size, 0, none⟩) 1 1) (.slice none 0 0) [longC] [Trk.gap 1] [] _ (HO.out.below hbb).tk hgv.tk (OT.nil _ 0).tk long_vt gap1_vt nil_vt (by decide) (.inr (.inl rfl))).mono ?_
  rintro e w4 ⟨m2, rfl, ho, hb⟩
  replace HM := Lib.hid ((HM.out.below hbb).below hb)
  replace HB := Lib.hid ((HB.out.trans (hbb.mono HB.out.size)).trans (hb.mono (Nat.le_trans HB.out.size hbb.size)))
  clear ho hb hbb hgv HO
  go_wp2_with fail
  refine (step_tick _).mono ?_
  rintro e w5 ⟨rfl, hb⟩
  replace HM := Lib.hid (HM.out.below hb)
  replace HB := Lib.hid (HB.out.trans (hb.mono HB.out.size))
  clear hb
  go_upto_region 4 with fail
  obtain ⟨w6, hw6⟩ : ∃ y, y = w5.alloc (.cells #[.int .i64 1, .slice none 0 0] 55) := ⟨_, rfl⟩
  obtain ⟨g, hg⟩ : ∃ y, y = w5.heap.size := ⟨_, rfl⟩
  rw [← hw6]
  have hb : Below w5.heap.size w5 w6 := by rw [hw6]; exact below_box _ _
  have C0 := Lib.hid (show w6.cell? ⟨g, 0, none⟩ = some (.int .i64 1) by rw [hw6, hg]; simp [go_sem])
  have C1 := Lib.hid (show w6.cell? ⟨g, 1, none⟩ = some (.slice none 0 0) by rw [hw6, hg]; simp [go_sem])
  rw [← hg]
  replace HM := Lib.hid (HM.out.below hb)
  replace HB := Lib.hid (HB.out.trans (hb.mono HB.out.size))
  have HG := Lib.hid (block_lt_of_cell C0.out)
  clear hb hw6 hg
  go_wp2_with fail
  refine (long_any _).mono ?_
  rintro e w7 ⟨v3, rfl, ho, hb⟩
  have HO := Lib.hid ho
  replace HM := Lib.hid (HM.out.below hb)
  replace HB := Lib.hid (HB.out.trans (hb.mono HB.out.size))
  replace C0 := Lib.hid ((hb.cell (p := ⟨g, 0, none⟩) HG.out).trans C0.out)
  replace C1 := Lib.hid ((hb.cell (p := ⟨g, 1, none⟩) HG.out).trans C1.out)
  replace HG := Lib.hid (Nat.lt_of_lt_of_le HG.out hb.size)
  clear ho hb
  go_wp2_with fail
  refine (equal_self m1 v3 [longC] w7 HM.out.tk HO.out.tk).mono ?_
  rintro e w8 ⟨rfl, hb⟩
  replace HB := Lib.hid (HB.out.trans (hb.mono HB.out.size))
  have c0 := (hb.cell (p := ⟨g, 0, none⟩) HG.out).trans C0.out
  have c1 := (hb.cell (p := ⟨g, 1, none⟩) HG.out).trans C1.out
  clear hb C0 C1 HG
  go_wp2_with fail
  go_ret
  exact ⟨rfl, HB.out⟩
end Go.Proofs.YtfoohocgdcgbcaaGreat

/- Aid for the rows: arguments that stay as they were; a tape's numbers. -/
namespace Go.Proofs.YtfoohocgdcgbcaaGreat
open Go.ChangeShapes Go.WideShapes Go.ChangeAt Go.RowKit
set_option linter.unusedVariables false

theorem laid_out : laidOutB Tryz.prog = true := by kernel_rfl
theorem cells3 : Tryz.prog.cellsOf 3 = 1 := by kernel_rfl
theorem cells5 : Tryz.prog.cellsOf 5 = 1 := by kernel_rfl
section
variable {P : Program} {H : Type} {enc : TypeId × Value → H}
/-- The row's post where all that was there when the call began is as it was. -/
theorem post_of_below {f : Func} {s : ChangeSpec} {apart fresh handsOn again : Bool} {W W' : World} {args : Array Value} {v : Value} {ds gs : List (DataW H)} {before pa pv : List MemPlace}
    (hW : DataW.Whole enc P f.params.toList s.vars apart W args.toList ds gs before)
    (hres : ∀ (b : Nat) (sp : Nat → Bool) (hd : Bool), DataW.TrodAll enc P W' b sp hd f.resultTypes.toList (v.resultList f.resultTypes.size) (s.fn H (ds ++ gs)).results [])
    (hargs : ∀ sp : Nat → Bool, (∀ p ∈ before, sp p.block = true) → DataW.TrodAll enc P W' 0 sp true f.params.toList args.toList (s.fn H (ds ++ gs)).args pa)
    (hvars : ∀ sp : Nat → Bool, (∀ p ∈ before, sp p.block = true) → DataW.TrodVars enc P W' sp s.vars (s.fn H (ds ++ gs)).vars pv)
    (hps : before = pa ++ pv) (hb : Below W.heap.size W W')
    (hok : ∀ (j : Nat) (t : TypeId) (r : Value), f.resultTypes[j]? = some t → (v.resultList f.resultTypes.size)[j]? = some r → Value.okWide P W' .any 0 t r) :
    s.post enc P f apart fresh handsOn again W args v W' := by
  have old : ∀ p ∈ before, (fun b => decide (b < W.heap.size)) p.block = true := fun p hp => by simpa using hW.lt p hp
  have kept : W.keptBut W' (· ∈ before) := hb.frame _
  refine ⟨ds, gs, before, [], pa, pv, hW, hres _ _ _, hargs _ old, hvars _ old, World.keptBut_mono (fun p hp => ⟨hp, by rw [hps, List.mem_append] at hp; exact Or.inr hp⟩) kept, fun _ => ?_⟩
  have lt := hW.lt
  obtain ⟨_, _, _, _, _, hz, hn⟩ := hW
  refine ⟨hok, _, _, ([] ++ pa) ++ pv, ⟨[] ++ pa, pv, trodAll_append (hargs _ (fun _ _ => rfl)) (hres _ _ _), hvars _ (fun _ _ => rfl), rfl, ?_, ?_⟩, ?_⟩
  · intro b off hp
    have hp' : MemPlace.cell b off ∈ before := by rw [hps]; simpa using hp
    rw [hb.frozen (p := ⟨b, off, none⟩) (lt _ hp')]
    exact hz b off hp'
  · intro ha
    have h := hn ha
    rw [hps] at h
    simpa using h
  · intro p hp _
    rw [hps]
    simpa using hp

end
section
variable {H : Type} {enc : TypeId × Value → H}
theorem trodAll_stays {P : Program} (hl : laidOutB P = true) {W W' : World} {sp : Nat → Bool} (hb : Below W.heap.size W W') : ∀ {ts : List TypeId} {vs : List Value} {ds : List (DataW H)} {ps : List MemPlace}, (ts.all fun t => P.readableRec t && decide (t < P.types.size)) = true →
    DataW.TrodAll enc P W 0 (fun _ => true) true ts vs ds ps → (∀ x ∈ ps, x.block < W.heap.size) → (∀ x ∈ ps, sp x.block = true) → DataW.TrodAll enc P W' 0 sp true ts vs ds ps := by
  intro ts
  induction ts with
  | nil =>
    intro vs ds ps _ h _ _
    cases vs with
    | nil => cases ds with
      | nil => exact h
      | cons => exact h.elim
    | cons => exact h.elim
  | cons t ts ih =>
    intro vs ds ps hr h hlt hs
    cases vs with
    | nil => exact h.elim
    | cons v vs => cases ds with
      | nil => exact h.elim
      | cons d ds =>
        obtain ⟨p, q, h1, h2, rfl⟩ := h
        simp only [List.all_cons, Bool.and_eq_true, decide_eq_true_eq] at hr
        exact ⟨p, q, WideElems.Trod_stays hl hr.1.1 hr.1.2 h1 (fun x hx => hb.same (hlt x (List.mem_append_left _ hx))) (fun x hx => hs x (List.mem_append_left _ hx)),
          ih hr.2 h2 (fun x hx => hlt x (List.mem_append_right _ hx)) (fun x hx => hs x (List.mem_append_right _ hx)), rfl⟩


set_option maxRecDepth 100000 in
theorem open_tape {W : World} {base : Nat} {v : Value} {d : DataW H} {p : List MemPlace} (hval : Value.okWide Tryz.prog W .any base 24 v) (h : DataW.Trod enc Tryz.prog W 0 (fun _ => true) true 24 v d p) : Ints W v := by
  obtain ⟨a1, len, cap, rfl⟩ := okWide_slice Tryz.underlying24 hval
  obtain ⟨fuel, hf⟩ := h
  rcases open_ints Tryz.underlying24 Tryz.underlying3 cells3 hf with ⟨hcs, hx⟩ | ⟨a, len', cap', zs, hcs, _, hl, hm, hz, hx, hcell, hwz⟩
  · simp [Value.cells] at hcs
    obtain ⟨rfl, rfl, rfl⟩ := hcs
    exact ⟨none, 0, 0, rfl, Nat.le_refl _, by omega, fun i hi => absurd hi (Nat.not_lt_zero i)⟩
  · simp [Value.cells] at hcs
    obtain ⟨rfl, rfl, rfl⟩ := hcs
    simp only [if_true] at hz
    refine ⟨_, _, _, rfl, hl, by unfold maxLen at hm; omega, fun i hi => ?_⟩
    obtain ⟨ab, ao, spot⟩ := a
    have hspot : spot = none := by simpa [Addr.add] using World.cell?_spot (hcell 0 (by omega))
    subst hspot
    have hc := hcell i (by omega)
    rw [Addr.add_lit] at hc
    exact ⟨ab, ao, _, rfl, hc⟩

end
end Go.Proofs.YtfoohocgdcgbcaaGreat
