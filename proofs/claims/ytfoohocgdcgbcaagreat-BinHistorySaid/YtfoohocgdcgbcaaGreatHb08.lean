/- Texts of this claim joined: VD VE VF VG VH VI VJ VK VL VM VN VO. -/
import Derived.Deep.CutRange
import Derived.Deep.QuietTactic
import Derived.BigQuiet
import Derived.Lib.AppendZeros
import Derived.Test.YtfoohocgdcgbcaaGreatHb07
set_option linter.unusedVariables false
set_option linter.unusedSimpArgs false
namespace Go.Proofs.YtfoohocgdcgbcaaGreat
open Go.RowKit
structure VT (L : Int) (l : List Trk.Clip) : Prop where
 v : Trk.VL L l
 n : l.length ≤ 64
 t : Trk.total l ≤ 2147483647
theorem VC.yes {L : Int} {c : Trk.Clip} (h : Trk.VC L c) (hL : L ≤ 140737488355328) (w : World) : Calls Tryz.prog 89 #[clipV c] w fun e w' => e = .returned (.bool true) ∧ Below w.heap.size w w' := by
 have ho := off_le h
 have hl := h.l.1
 have hl2 := h.l.2.1
 refine (vclip_any c w h.c hL (by omega) (by omega) (by omega) (by omega) (by omega) (by omega)).mono ?_
 rintro e w' ⟨rfl, hb⟩
 rw [decide_eq_true h.l]
 exact ⟨rfl, hb⟩
set_option maxRecDepth 100000 in
set_option maxHeartbeats 8000000 in
theorem vtrack_any {L : Int} (v : Value) (l : List Trk.Clip) (w : World) (h : Tk w v l) (hV : VT L l) (hL : L ≤ 140737488355328) :
  Calls Tryz.prog 47 #[v] w fun e w' => e = .returned (.bool true) ∧ Below w.heap.size w w' := by
 obtain ⟨ao, cap, rfl, hc1, hc2, hT⟩ := h
 have HT := Lib.hid (show Tk w (.slice ao l.length cap) l from ⟨ao, cap, rfl, hc1, hc2, hT⟩)
 clear hT
 have HG := Lib.hid hV.v
 have HTT := Lib.hid hV.t
 have hl := hV.n
 obtain ⟨N, hN⟩ : ∃ N, N = l.length := ⟨_, rfl⟩
 rw [← hN] at hl hc1
 have HLe := Lib.hid hN
 rw [← hN]
 clear hV hN hc2
 go_enter Tryz.func47, Tryz.ntmps47
 go_wp2_with fail
 go_loopw [3, 11] (fun v3 v8 wr => ∃ k : Nat, k ≤ N ∧ v8 = .int .i64 (k : Int) ∧ v3 = .int .i64 (Trk.total (l.take k)) ∧ Below w.heap.size w wr) (fun _ i _ => N - (intOf i).toNat)
 case atStart => exact ⟨0, Nat.zero_le _, rfl, rfl, Below.refl _ _⟩
 case round =>
  obtain ⟨k, hk, rfl, rfl, hb⟩ := hrel
  by_cases hlt : k < N
  ·have hlt' : (k : Int) < (N : Int) := by omega
   have hkl : k < l.length := by rw [← HLe.out]; exact hlt
   obtain ⟨c, hc⟩ : ∃ c, l[k]? = some c := ⟨_, List.getElem?_eq_getElem hkl⟩
   obtain ⟨ao', cap', e, _, _, hT⟩ := HT.out.below hb
   simp only [Value.slice.injEq, true_and] at e
   obtain ⟨rfl, rfl⟩ := e
   obtain ⟨b, o, rfl, hA⟩ := hT k c hc
   clear hT
   have hn : Trk.total (l.take (k + 1)) = Trk.total (l.take k) + c.len := by
    rw [List.take_add_one, hc]
    show Trk.total (l.take k ++ [c]) = _
    rw [Trk.total_append]
    show _ + (c.len + 0) = _
    omega
   have h1 := total_take l HG.out.good (k + 1)
   have h2 := Trk.total_nonneg (l := l.take k) (fun x hx => HG.out.good x (List.mem_of_mem_take hx))
   have hvc := HG.out c (List.mem_of_getElem? hc)
   have h3 := hvc.good.l
   have h4 := HTT.out
   obtain ⟨s, hs⟩ : ∃ s, s = Trk.total (l.take k) := ⟨_, rfl⟩
   rw [← hs] at hn h2 ⊢
   have h5 : s + c.len ≤ 2147483647 := by omega
   have HN := Lib.hid hn
   have HA := Lib.hid hA
   have HB := Lib.hid hb
   have HC := Lib.hid hc
   have HVC := Lib.hid (fun w => VC.yes hvc hL w)
   unfold clipV at HVC
   clear hA hb hc hkl hn h1 h4 hs hvc
   go_upto_region 6 with fail
   apply wp_region_lit
   iterate 3 go_step
   refine wpl_load HA.out rfl rfl rfl ?_
   refine wpl_alloc rfl rfl (fun w2 hg hb2 hs2 => ?_)
   obtain ⟨g, hgg⟩ : ∃ g, g = wr.heap.size := ⟨_, rfl⟩
   rw [← hgg] at hg ⊢
   have hgn : w.heap.size ≤ g := by rw [hgg]; exact HB.out.size
   have HB2 := Lib.hid (HB.out.trans (hb2.mono HB.out.size))
   clear hb2 hs2 hgg HA
   refine wpl_store c hg rfl rfl rfl rfl ?_
   intro w3 hv ho3 hb3
   have HB3 := Lib.hid (hb3 _ _ hgn HB2.out)
   clear ho3 hb3 hg HB2
   have HV := Lib.hid hv
   clear hv
   simp only [Act.put, List.setIfInBounds_toArray, List.set_cons_succ, List.set_cons_zero]
   obtain ⟨C, hC⟩ : ∃ C, C = (clipC c).toArray := ⟨_, rfl⟩
   rw [← hC] at HVC ⊢
   have HCC := Lib.hid hC
   clear hC
   go_upto_region 7 with fail
   apply wp_region_lit
   refine wpl_load HV.out.c rfl rfl rfl ?_
   rw [← HCC.out]
   simp only [Act.put, List.setIfInBounds_toArray, List.set_cons_succ, List.set_cons_zero]
   go_wp2_with fail
   refine (HVC.out _).mono ?_
   rintro e w4 ⟨rfl, hb⟩
   have HV4 := Lib.hid (HV.out.below hb)
   have HB4 := Lib.hid (HB3.out.trans (hb.mono HB3.out.size))
   clear hb HV HB3
   have x0 := HV4.out.c.at0.1
   go_wp2_with fail
   go_roundw
   case rel => exact ⟨k + 1, by omega, by simp, by rw [HN.out], HB4.out⟩
   case measure =>
    show N - (intOf (.int .i64 ((k : Int) + 1))).toNat < N - (intOf (.int .i64 (k : Int))).toNat
    simp [intOf]
    omega
  ·have hkl : k = N := by omega
   have e : l.take k = l := List.take_of_length_le (by rw [← HLe.out]; omega)
   rw [e]
   have HB := Lib.hid hb
   have ht := HTT.out
   obtain ⟨s, hs⟩ : ∃ s, s = Trk.total l := ⟨_, rfl⟩
   rw [← hs] at ht ⊢
   clear hb e hs
   subst hkl
   go_wp2_with fail
   go_ret
   first | exact ⟨rfl, HB.out⟩ | exact ⟨ret_bool (by simpa using ht), HB.out⟩
theorem VT.okc {L : Int} {l : List Trk.Clip} (h : VT L l) (hL : L ≤ 140737488355328) : ∀ c ∈ l, OkC c := fun c hc => VC.okC (h.v c hc) hL
def OTPost (w : World) (l : List Trk.Clip) (e : Ending) (w' : World) : Prop := ∃ v', e = .returned v' ∧ OT w' w.heap.size v' l ∧ Below w.heap.size w w'
set_option maxRecDepth 100000 in
set_option maxHeartbeats 4000000 in
theorem packs_any {L : Int} (v : Value) (l : List Trk.Clip) (w : World) (h : Tk w v l) (hV : VT L l) (hL : L ≤ 140737488355328) :
  Calls Tryz.prog 60 #[v] w (OTPost w (Trk.pk l)) := by
 have HT := Lib.hid h
 have H1 := Lib.hid (fun w (h : Tk w v l) => vtrack_any v l w h hV hL)
 have H2 := Lib.hid (fun w (h : Tk w v l) => pack_any v l w h (hV.okc hL) (by have := hV.n; omega) (by have := hV.t; omega))
 clear h hV
 go_enter Tryz.func60, Tryz.ntmps60
 go_wp2_with fail
 refine (H1.out _ HT.out).mono ?_
 rintro e w1 ⟨rfl, hb⟩
 have HB := Lib.hid hb
 clear hb
 go_wp2_with fail
 refine (H2.out _ (HT.out.below HB.out)).mono ?_
 rintro e w2 ⟨v', rfl, ho, hb⟩
 have HO := Lib.hid (And.intro ho hb)
 clear ho hb
 go_wp2_with fail
 go_ret
 have ho := HO.out.1
 refine ⟨_, rfl, ?_, HB.out.trans (HO.out.2.mono HB.out.size)⟩
 rcases ho with ⟨a, b, c⟩ | ⟨g, cap, cur, a, b, c⟩
 ·exact .inl ⟨a, b, c⟩
 ·exact .inr ⟨g, cap, cur, a, Nat.le_trans HB.out.size b, c⟩
set_option maxRecDepth 100000 in
set_option maxHeartbeats 4000000 in
theorem length_any {L : Int} (v : Value) (l : List Trk.Clip) (w : World) (h : Tk w v l) (hV : VT L l) (hL : L ≤ 140737488355328) :
  Calls Tryz.prog 31 #[v] w fun e w' => e = .returned (.int .i64 (Trk.total l)) ∧ Below w.heap.size w w' := by
 have HT := Lib.hid h
 have H1 := Lib.hid (fun w (h : Tk w v l) => vtrack_any v l w h hV hL)
 have H2 := Lib.hid (fun w (h : Tk w v l) => total_any v l w h hV.v.good (by have := hV.t; omega) (by have := hV.n; omega))
 clear h hV
 go_enter Tryz.func31, Tryz.ntmps31
 go_wp2_with fail
 refine (H1.out _ HT.out).mono ?_
 rintro e w1 ⟨rfl, hb⟩
 have HB := Lib.hid hb
 clear hb
 go_wp2_with fail
 refine (H2.out _ (HT.out.below HB.out)).mono ?_
 rintro e w2 ⟨rfl, hb⟩
 have HO := Lib.hid hb
 clear hb
 go_wp2_with fail
 go_ret
 exact ⟨rfl, HB.out.trans (HO.out.mono HB.out.size)⟩
theorem OT.drop {w : World} {B g cap k : Nat} {q : List Trk.Clip} {p : Trk.Clip} (h : OT w B (.slice (some ⟨g, 0, none⟩) k cap) (q ++ [p])) : OT w B (.slice (some ⟨g, 0, none⟩) q.length cap) q := by
 rcases h with ⟨e, _⟩ | ⟨g', cap', cur, e, hB, hg, hk, hc, hs, ht, hl⟩
 ·simp at e
 ·simp only [Value.slice.injEq, Option.some.injEq, Addr.mk.injEq, and_true, true_and] at e
  obtain ⟨rfl, rfl, rfl⟩ := e
  have hlen : (q ++ [p]).length = q.length + 1 := by simp
  refine Or.inr ⟨g, cap, cur, rfl, hB, hg, by omega, hc, hs, ?_, cells_length q⟩
  rw [hlen, cells_append] at ht
  have h2 := congrArg (List.take (q.length * 22)) ht
  rw [List.take_take, Nat.min_eq_left (by omega), List.take_append_of_le_length (by rw [cells_length]; exact Nat.le_refl _), List.take_of_length_le (l := cells q) (by rw [cells_length]; exact Nat.le_refl _)] at h2
  exact h2
set_option maxRecDepth 100000 in
set_option maxHeartbeats 4000000 in
theorem normal_any {L : Int} (v : Value) (l : List Trk.Clip) (w : World) (h : Tk w v l) (hV : VT L l) (hL : L ≤ 140737488355328) :
  Calls Tryz.prog 21 #[v] w (OTPost w (Trk.nf l)) := by
 have HT := Lib.hid h
 have H1 := Lib.hid (fun w (h : Tk w v l) => packs_any v l w h hV hL)
 have hn : (Trk.pk l).length ≤ 64 := Nat.le_trans (Trk.pk_of hV.v.good).n hV.n
 unfold Trk.nf
 obtain ⟨P, hP⟩ : ∃ P, P = Trk.pk l := ⟨_, rfl⟩
 rw [← hP] at H1 hn ⊢
 clear h hV hP
 go_enter Tryz.func21, Tryz.ntmps21
 go_wp2_with fail
 refine (H1.out _ HT.out).mono ?_
 rintro e w1 ⟨v', rfl, ho, hb⟩
 have HB := Lib.hid hb
 have HO := Lib.hid ho
 clear hb ho
 obtain ⟨rfl, rfl⟩ | ⟨g, cap, rfl⟩ := HO.out.shape
 ·go_wp2_with fail
  go_ret
  exact ⟨_, rfl, HO.out, HB.out⟩
 ·cases hp : P.getLast? with
  | none =>
   have e0 : P = [] := List.getLast?_eq_none_iff.1 hp
   subst e0
   clear hp
   simp only [List.length_nil]
   go_wp2_with fail
   go_ret
   exact ⟨_, rfl, HO.out, HB.out⟩
  | some p =>
   have hs := Trk.getLast_split hp
   have HD := Lib.hid (show Trk.dropGap P = if p.kind = 0 then P.dropLast else P by unfold Trk.dropGap; rw [hp])
   obtain ⟨q, hq⟩ : ∃ q, q = P.dropLast := ⟨_, rfl⟩
   rw [← hq] at hs HD
   clear hp hq
   subst hs
   have hlen : (q ++ [p]).length = q.length + 1 := by simp
   rw [hlen] at hn HO ⊢
   obtain ⟨hB2, _, _, hcs⟩ := HO.out.own
   have HCP := Lib.hid (hcs q.length p (by simp))
   have HDR := Lib.hid HO.out.drop
   obtain ⟨n, hn2⟩ : ∃ n, n = q.length := ⟨_, rfl⟩
   rw [← hn2] at hn HO HCP HDR ⊢
   have hcap : n + 1 ≤ cap := by
    obtain ⟨ao, c', e, h1, h2, _⟩ := HO.out.tk
    simp only [Value.slice.injEq] at e
    rw [hlen, ← hn2] at h1
    omega
   have z1 := HCP.out.k1
   clear hlen hcs hn2 HT H1 HCP
   by_cases hk : p.kind = 0
   ·have HR := Lib.hid (HD.out.trans (if_pos hk))
    rw [hk] at z1
    clear hk HD
    go_wp2_with fail
    go_ret
    rw [HR.out]
    exact ⟨_, rfl, HDR.out, HB.out⟩
   ·have HR := Lib.hid (HD.out.trans (if_neg hk))
    clear HD
    go_wp2_with fail
    go_ret
    rw [HR.out]
    exact ⟨_, rfl, HO.out, HB.out⟩
def findL : List Trk.Clip → Int → Nat → Option (Nat × Int)
 | [], _, _ => none
 | c :: l, n, i => if n < c.len then some (i, n) else findL l (n - c.len) (i + 1)
theorem findL_some : ∀ {l : List Trk.Clip} {n : Int} {i : Nat}, 0 ≤ n → n < Trk.total l → ∃ j m, findL l n i = some (i + j, m) ∧ j < l.length ∧ 0 ≤ m ∧ m = n - Trk.total (l.take j) ∧ ∃ c, l[j]? = some c ∧ m < c.len
 | [], n, i, h0, h1 => by simp [Trk.total] at h1; omega
 | c :: l, n, i, h0, h1 => by
  unfold findL
  by_cases h : n < c.len
  ·rw [if_pos h]
   exact ⟨0, n, rfl, by simp, h0, by simp [Trk.total], c, rfl, h⟩
  ·rw [if_neg h]
   rw [Trk.total_cons] at h1
   obtain ⟨j, m, e, hj, hm, hm2, d, hd, hd2⟩ := findL_some (l := l) (n := n - c.len) (i := i + 1) (by omega) (by omega)
   refine ⟨j + 1, m, by rw [e]; congr 2; omega, by simp; omega, hm, ?_, d, by simpa using hd, hd2⟩
   rw [List.take_succ_cons, Trk.total_cons]
   omega
theorem findL_none : ∀ {l : List Trk.Clip} {n : Int} {i : Nat}, Trk.GoodL l → Trk.total l ≤ n → findL l n i = none
 | [], n, i, _, h1 => rfl
 | c :: l, n, i, g, h1 => by
  unfold findL
  rw [Trk.total_cons] at h1
  have := Trk.total_nonneg g.tail
  rw [if_neg (by omega)]
  exact findL_none g.tail (by omega)
def findV (r : Option (Nat × Int)) : Value := match r with
 | some (i, m) => .tuple #[.int .i64 (i : Int), .int .i64 m, .bool true]
 | none => .tuple #[.int .i64 0, .int .i64 0, .bool false]
theorem findL_drop (l : List Trk.Clip) (n : Int) (k : Nat) {c : Trk.Clip} (h : l[k]? = some c) (r : Int) (i : Nat) : findL (l.drop k) r i = if r < c.len then some (i, r) else findL (l.drop (k + 1)) (r - c.len) (i + 1) := by
 have hk := (List.getElem?_eq_some_iff.1 h).1
 have e : l.drop k = c :: l.drop (k + 1) := by
  rw [List.drop_eq_getElem_cons hk]
  congr 1
  exact Option.some.inj ((List.getElem?_eq_getElem hk).symm.trans h)
 rw [e]
 rfl
set_option maxRecDepth 100000 in
set_option maxHeartbeats 8000000 in
theorem find_any {L : Int} (v : Value) (l : List Trk.Clip) (n : Int) (w : World) (h : Tk w v l) (hV : VT L l) (n0 : 0 ≤ n) (n1 : n ≤ 2147483647) :
  Calls Tryz.prog 68 #[v, .int .i64 n] w fun e w' => e = .returned (findV (findL l n 0)) ∧ Below w.heap.size w w' := by
 obtain ⟨ao, cap, rfl, hc1, hc2, hT⟩ := h
 have HT := Lib.hid (show Tk w (.slice ao l.length cap) l from ⟨ao, cap, rfl, hc1, hc2, hT⟩)
 clear hT
 have HG := Lib.hid hV.v
 have hl := hV.n
 obtain ⟨R, hR⟩ : ∃ R, R = findV (findL l n 0) := ⟨_, rfl⟩
 rw [← hR]
 have HR := Lib.hid hR
 clear hR
 obtain ⟨N, hN⟩ : ∃ N, N = l.length := ⟨_, rfl⟩
 rw [← hN] at hl hc1
 have HLe := Lib.hid hN
 rw [← hN]
 clear hV hN hc2
 go_enter Tryz.func68, Tryz.ntmps68
 go_wp2_with fail
 go_loopw [1, 13] (fun v1 v13 wr => ∃ (k : Nat) (r : Int), k ≤ N ∧ v13 = .int .i64 (k : Int) ∧ v1 = .int .i64 r ∧ 0 ≤ r ∧ r ≤ 2147483647 ∧ Hid (R = findV (findL (l.drop k) r k)) ∧ Below w.heap.size w wr) (fun _ i _ => N - (intOf i).toNat)
 case atStart => exact ⟨0, n, Nat.zero_le _, rfl, rfl, n0, n1, HR, Below.refl _ _⟩
 case round =>
  obtain ⟨k, r, hk, rfl, rfl, r0, r1, HQ, hb⟩ := hrel
  by_cases hlt : k < N
  ·have hlt' : (k : Int) < (N : Int) := by omega
   have hkl : k < l.length := by rw [← HLe.out]; exact hlt
   obtain ⟨c, hc⟩ : ∃ c, l[k]? = some c := ⟨_, List.getElem?_eq_getElem hkl⟩
   obtain ⟨ao', cap', e, _, _, hT⟩ := HT.out.below hb
   simp only [Value.slice.injEq, true_and] at e
   obtain ⟨rfl, rfl⟩ := e
   obtain ⟨b, o, rfl, hA⟩ := hT k c hc
   clear hT
   have h3 := (HG.out c (List.mem_of_getElem? hc)).good.l
   have h4 := (HG.out c (List.mem_of_getElem? hc)).l.2.1
   have HF := Lib.hid (HQ.out.trans (congrArg findV (findL_drop l n k hc r k)))
   have HA := Lib.hid hA
   have HB := Lib.hid hb
   have HC := Lib.hid hc
   clear hA hb hc hkl
   go_upto_region 5 with fail
   apply wp_region_lit
   iterate 6 go_step
   refine wpl_load HA.out rfl rfl rfl ?_
   refine wpl_alloc rfl rfl (fun w2 hg hb2 hs2 => ?_)
   obtain ⟨g, hgg⟩ : ∃ g, g = wr.heap.size := ⟨_, rfl⟩
   rw [← hgg] at hg ⊢
   have hgn : w.heap.size ≤ g := by rw [hgg]; exact HB.out.size
   have HB2 := Lib.hid (HB.out.trans (hb2.mono HB.out.size))
   clear hb2 hs2 hgg HA
   obtain ⟨C, hC⟩ : ∃ C, C = (clipC c).toArray := ⟨_, rfl⟩
   rw [← hC]
   have HCC := Lib.hid hC
   clear hC
   simp only [Act.put, List.setIfInBounds_toArray, List.set_cons_succ, List.set_cons_zero]
   iterate 3 go_step
   refine wpl_store c hg rfl rfl rfl (by rw [← HCC.out]; rfl) ?_
   intro w3 hv ho3 hb3
   have HB3 := Lib.hid (hb3 _ _ hgn HB2.out)
   have x0 := hv.c.at0.1
   clear hv ho3 hb3 hg HB2 HCC
   simp only [Act.put, List.setIfInBounds_toArray, List.set_cons_succ, List.set_cons_zero]
   by_cases hr : r < c.len
   ·have HF2 := Lib.hid (HF.out.trans (congrArg findV (if_pos hr)))
    go_wp2_with fail
    refine bodyPost_ret (v := findV (some (k, r))) (by simp [results, Tryz.results68, go_sem, findV]) rfl ⟨?_, HB3.out⟩
    rw [HF2.out]
   ·have HF2 := Lib.hid (HF.out.trans (congrArg findV (if_neg hr)))
    go_wp2_with fail
    go_roundw
    case rel => exact ⟨k + 1, r - c.len, by omega, by simp, rfl, by omega, by omega, HF2, HB3.out⟩
    case measure =>
     show N - (intOf (.int .i64 ((k : Int) + 1))).toNat < N - (intOf (.int .i64 (k : Int))).toNat
     simp [intOf]
     omega
  ·have hkl : k = N := by omega
   have e : l.drop k = [] := List.drop_eq_nil_of_le (by rw [← HLe.out]; omega)
   have HF2 := Lib.hid (show R = findV none by rw [HQ.out, e]; rfl)
   have HB := Lib.hid hb
   clear hb e
   subst hkl
   go_wp2_with fail
   refine bodyPost_ret (v := findV none) (by simp [results, Tryz.results68, go_sem, findV]) rfl ⟨?_, HB.out⟩
   rw [HF2.out]
set_option maxRecDepth 100000 in
set_option maxHeartbeats 4000000 in
theorem placed_any {L n : Int} (s : Trk.Src) (w : World) (h : Trk.SrcIn L n s) (hL : L ≤ 140737488355328) :
  Calls Tryz.prog 111 #[srcV s] w fun e w' => e = .returned (.bool true) ∧ Below w.heap.size w w' := by
 rcases h with rfl | h
 ·simp only [srcV, srcC, Trk.black]
  go_enter Tryz.func111, Tryz.ntmps111
  go_upto_region 1 with fail
  obtain ⟨w1, hw1⟩ : ∃ x, x = w.alloc (.cells #[.int .i64 0, .string ByteArray.empty, .int .i64 0, .int .i64 0, .int .i64 0, .int .i64 0, .bool false] 46) := ⟨_, rfl⟩
  rw [← hw1]
  have hb1 : Below w.heap.size w w1 := by rw [hw1]; exact below_box _ _
  obtain ⟨b, hb⟩ : ∃ b, b = w.heap.size := ⟨_, rfl⟩
  have c0 : C7 w1 b 0 (.int .i64 0) (.string ByteArray.empty) (.int .i64 0) (.int .i64 0) (.int .i64 0) (.int .i64 0) (.bool false) := by rw [hw1, hb]; constructor <;> simp [go_sem]
  rw [← hb]
  have HB := Lib.hid hb1
  clear hw1 hb1
  obtain ⟨x0, x1, x2, x3, x4, x5, x6⟩ := c0.at0
  have hq := run_eq_src Trk.black Trk.black w1
  simp only [Trk.black] at hq
  clear c0 hb
  go_wp2_with fail
  all_goals go_ret
  all_goals exact ⟨rfl, HB.out⟩
 ·obtain ⟨a0, a1, s0, s1, n0, n1, v0, v1⟩ := h.nums
  obtain ⟨f0, f1⟩ := h.far hL
  have HA := Lib.hid (fun w => bounded_at s.an s.ad w a0 (by omega) h.lat.g.a1 (by omega) (by omega))
  have hk := h.k
  clear a0 a1 s0 s1 n0 n1 v0 v1 f0 f1 h
  obtain ⟨k, nm, an, ad, sn, sd, sm⟩ := s
  simp only at HA hk
  simp only [srcV, srcC]
  go_enter Tryz.func111, Tryz.ntmps111
  go_upto_region 1 with fail
  obtain ⟨w1, hw1⟩ : ∃ x, x = w.alloc (.cells #[.int .i64 k, .string nm, .int .i64 an, .int .i64 ad, .int .i64 sn, .int .i64 sd, .bool sm] 46) := ⟨_, rfl⟩
  rw [← hw1]
  have hb1 : Below w.heap.size w w1 := by rw [hw1]; exact below_box _ _
  obtain ⟨b, hb⟩ : ∃ b, b = w.heap.size := ⟨_, rfl⟩
  have c0 : C7 w1 b 0 (.int .i64 k) (.string nm) (.int .i64 an) (.int .i64 ad) (.int .i64 sn) (.int .i64 sd) (.bool sm) := by rw [hw1, hb]; constructor <;> simp [go_sem]
  rw [← hb]
  have HB := Lib.hid hb1
  clear hw1 hb1
  obtain ⟨x0, x1, x2, x3, x4, x5, x6⟩ := c0.at0
  clear c0 hb
  rcases hk with rfl | rfl
  all_goals
   go_wp2_with fail
   refine (HA.out _).mono ?_
   rintro e w2 ⟨rfl, hb⟩
   go_wp2_with fail
   go_ret
   exact ⟨rfl, HB.out.trans (hb.mono HB.out.size)⟩
theorem results_clip2 {fn : Func} {tmps : Array Value} {w : World} {s t : Tmp} {b : Nat} {c : Trk.Clip} {v : Value} (hr : fn.results = #[.cell s 48, .tmp t]) (ht : tmps.getD s undef = .pointer (some ⟨b, 0, none⟩)) (hv : tmps.getD t undef = v) (hc : CA w b 0 c) : (results fn tmps).run Tryz.prog w = .ok (.tuple #[.agg (clipC c).toArray, v]) w := by
 have h := run_loadVar_mid (P := Tryz.prog) w b 0 48 (clipC c) _ hc.range Tryz.underlying48 rfl (by kernel_rfl)
 obtain ⟨C, hC⟩ : ∃ C, C = (clipC c).toArray := ⟨_, rfl⟩
 rw [← hC] at h ⊢
 unfold results
 rw [hr]
 have ht2 : tmps[s]?.getD undef = .pointer (some ⟨b, 0, none⟩) := by rw [← Array.getD_eq_getD_getElem?]; exact ht
 have hv2 : tmps[t]?.getD undef = v := by rw [← Array.getD_eq_getD_getElem?]; exact hv
 simp [ht2, hv2, asAddr, h]
theorem CV.src_b {w : World} {b : Nat} {c : Trk.Clip} (h : CV w b c) : C7 w b 9 (.int .i64 c.b.kind) (.string c.b.name) (.int .i64 c.b.an) (.int .i64 c.b.ad) (.int .i64 c.b.sn) (.int .i64 c.b.sd) (.bool c.b.smooth) := by
 obtain ⟨x0, x1, x2, x3, x4, x5, x6, x7, x8, x9, x10, x11, x12, x13, x14, x15, x16, x17, x18, x19, x20, x21⟩ := h.c.at0
 exact ⟨x9, x10, x11, x12, x13, x14, x15⟩
set_option maxRecDepth 100000 in
set_option maxHeartbeats 8000000 in
theorem advance_any {L : Int} (c : Trk.Clip) (n : Int) (w : World) (hV : Trk.VC L c) (hL : L ≤ 140737488355328) (n0 : 0 ≤ n) (n1 : n < c.len) :
  Calls Tryz.prog 69 #[clipV c, .int .i64 n] w fun e w' => e = .returned (.tuple #[clipV (Trk.withLen (Trk.shift c n) (c.len - n)), .int .i64 0]) ∧ Below w.heap.size w w' := by
 have hl := hV.l.2.1
 have ho := off_le hV
 have HVC := Lib.hid (fun w => VC.yes hV hL w)
 have HCP := Lib.hid (fun w => copied_any c w)
 have HMA := Lib.hid (fun w => moved_any c.a n w (SrcIn.oks hV.c.a hL) (by omega))
 have HMB := Lib.hid (fun w => moved_any c.b n w (SrcIn.oks hV.c.b hL) (by omega))
 have hp : Trk.VC L (Trk.withLen (Trk.shift c n) (c.len - n)) := hV.piece n0 (by omega) (by omega)
 have HPA := Lib.hid (fun w => placed_any _ w hp.c.a hL)
 have HPB := Lib.hid (fun w => placed_any _ w hp.c.b hL)
 have HSH := Lib.hid (fun w => share_any c.kind w)
 have hea : (Trk.withLen (Trk.shift c n) (c.len - n)).a = Trk.moved c.a n := rfl
 have heb : (Trk.withLen (Trk.shift c n) (c.len - n)).b = Trk.moved c.b n := rfl
 rw [hea] at HPA
 rw [heb] at HPB
 obtain ⟨ma, hma⟩ : ∃ s, s = Trk.moved c.a n := ⟨_, rfl⟩
 obtain ⟨mb, hmb⟩ : ∃ s, s = Trk.moved c.b n := ⟨_, rfl⟩
 obtain ⟨of, hof2⟩ : ∃ x, x = (if Trk.shares c.kind = true then c.off + n else c.off) := ⟨_, rfl⟩
 have hres : Trk.withLen (Trk.shift c n) (c.len - n) = { c with len := c.len - n, a := ma, b := mb, off := of } := by rw [hma, hmb, hof2]; rfl
 rw [hres]
 rw [← hma] at HMA HPA
 rw [← hmb] at HMB HPB
 clear hma hmb hres hea heb hp hV
 unfold clipV at HVC HCP ⊢
 simp only [srcV, srcC] at HMA HMB HPA HPB
 have HOF := Lib.hid hof2
 clear hof2
 obtain ⟨C, hC⟩ : ∃ C, C = (clipC c).toArray := ⟨_, rfl⟩
 rw [← hC] at HVC HCP ⊢
 have HC := Lib.hid hC
 clear hC
 obtain ⟨E, hE⟩ : ∃ E, E = (clipC { c with len := c.len - n, a := ma, b := mb, off := of }).toArray := ⟨_, rfl⟩
 rw [← hE]
 have HE := Lib.hid hE
 clear hE
 go_enter Tryz.func69, Tryz.ntmps69
 go_upto_region 1 with fail
 obtain ⟨w1, hw1⟩ : ∃ x, x = (w.alloc (.cells C 48)).alloc (.cells (clipC (Trk.gap 0)).toArray 48) := ⟨_, rfl⟩
 have hw1' := hw1
 simp only [clipC, Trk.gap, Trk.black, show (ByteArray.empty : ByteArray) = ⟨#[]⟩ from rfl] at hw1'
 rw [← hw1']
 clear hw1'
 rw [HC.out] at hw1
 obtain ⟨hx, hy, hb1⟩ : CV w1 w.heap.size c ∧ CV w1 (w.heap.size + 1) (Trk.gap 0) ∧ Below w.heap.size w w1 := by
  subst hw1
  refine ⟨(CV.box w c 48).below (below_box _ _), ?_, by go_grown⟩
  have h2 := CV.box (w.alloc (.cells (clipC c).toArray 48)) (Trk.gap 0) 48
  rw [show (w.alloc (.cells (clipC c).toArray 48)).heap.size = w.heap.size + 1 by simp] at h2
  exact h2
 obtain ⟨g1, hg1⟩ : ∃ g, g = w.heap.size := ⟨_, rfl⟩
 obtain ⟨g2, hg2⟩ : ∃ g, g = w.heap.size + 1 := ⟨_, rfl⟩
 rw [← hg2] at hy ⊢
 rw [← hg1] at hx ⊢
 have hne : g1 ≠ g2 := by omega
 have hn1 : w.heap.size ≤ g1 := by omega
 have hn2 : w.heap.size ≤ g2 := by omega
 clear hw1 hg1 hg2
 apply wp_region_lit
 refine wpl_load hx.c rfl rfl rfl ?_
 rw [← HC.out]
 simp only [Act.put, List.setIfInBounds_toArray, List.set_cons_succ, List.set_cons_zero]
 have HX := Lib.hid hx
 have HY := Lib.hid hy
 have HB := Lib.hid hb1
 clear hx hy hb1
 go_wp2_with fail
 refine (HVC.out _).mono ?_
 rintro e w2 ⟨rfl, hb⟩
 replace HX := Lib.hid (HX.out.below hb)
 replace HY := Lib.hid (HY.out.below hb)
 replace HB := Lib.hid (HB.out.trans (hb.mono HB.out.size))
 clear hb
 have x0 := HX.out.c.at0.1
 go_upto_region 3 with fail
 apply wp_region_lit
 refine wpl_load HX.out.c rfl rfl rfl ?_
 rw [← HC.out]
 simp only [Act.put, List.setIfInBounds_toArray, List.set_cons_succ, List.set_cons_zero]
 iterate 2 go_step
 refine (HCP.out _).mono ?_
 rintro e w3 ⟨rfl, hb⟩
 replace HX := Lib.hid (HX.out.below hb)
 replace HY := Lib.hid (HY.out.below hb)
 replace HB := Lib.hid (HB.out.trans (hb.mono HB.out.size))
 clear hb x0
 dsimp only
 go_step
 refine wpl_store c HX.out rfl rfl rfl (by rw [← HC.out]; rfl) ?_
 intro w4 hv ho4 hb4
 replace HY := Lib.hid (ho4 _ _ hne.symm HY.out)
 replace HB := Lib.hid (hb4 _ _ hn1 HB.out)
 replace HX := Lib.hid hv
 clear hv ho4 hb4
 simp only [Act.put, List.setIfInBounds_toArray, List.set_cons_succ, List.set_cons_zero]
 have x0 := HX.out.c.at0.1
 have xf := HX.out.f
 go_upto_region 5 with fail
 replace HY := Lib.hid (HY.out.other hne.symm 0 (.int .i64 (c.len - n)))
 replace HB := Lib.hid (HB.out.setCell (p := ⟨g1, 0, none⟩) hn1 (.int .i64 (c.len - n)))
 replace HX := Lib.hid (HX.out.set_len (c.len - n))
 clear x0 xf
 obtain ⟨w5, hw5⟩ : ∃ x, x = w4.setCell ⟨g1, 0, none⟩ (.int .i64 (c.len - n)) := ⟨_, rfl⟩
 rw [← hw5] at HX HY HB ⊢
 clear hw5
 go_cut [] from 28 (fun wx => CV wx g1 { c with len := c.len - n, a := ma, b := mb } ∧ CV wx g2 (Trk.gap 0) ∧ Below w.heap.size w wx)
 case first J K' h1 h2 =>
  refine Plan.wp_region_planz (fun w' => C7 w' g1 9 (.int .i64 c.b.kind) (.string c.b.name) (.int .i64 c.b.an) (.int .i64 c.b.ad) (.int .i64 c.b.sn) (.int .i64 c.b.sd) (.bool c.b.smooth)) 11 (([0, 2, 4, 5, 6].map (·, true)) ++ (([1, 3].map (·, false)) ++ (([8].map (·, true)) ++ (([7, 9].map (·, false)) ++ (([10].map (·, true)) ++ ([11].map (·, false))))))) (by kernel_rfl) (by kernel_rfl) (by kernel_rfl) (HX.out.src_b.below (Below.refl _ _).drew) ?_
  refine' Plan.plan_seg _ [0, 2, 4, 5, 6] (([1, 3].map (·, false)) ++ (([8].map (·, true)) ++ (([7, 9].map (·, false)) ++ (([10].map (·, true)) ++ ([11].map (·, false)))))) (by kernel_rfl) (by kernel_rfl) rfl (by exact HX.out.src_b.below (Below.refl _ _).drew) (fun wx hS => ?_) ?_
  rotate_left
  ·obtain ⟨x9, x10, x11, x12, x13, x14, x15⟩ := hS
   simp only [show 9 + 1 = 10 from rfl, show 9 + 2 = 11 from rfl, show 9 + 3 = 12 from rfl, show 9 + 4 = 13 from rfl, show 9 + 5 = 14 from rfl, show 9 + 6 = 15 from rfl] at x10 x11 x12 x13 x14 x15
   go_light
   iterate 5 (apply Plan.seg_pick; rfl; intro K hK; go_wp)
   exact Plan.seg_nil
  obtain ⟨w6, hw6⟩ : ∃ x, x = w5.drew := ⟨_, rfl⟩
  rw [← hw6]
  have hb : Below w5.heap.size w5 w6 := by rw [hw6]; exact (Below.refl _ _).drew
  replace HX := Lib.hid (HX.out.below hb)
  replace HY := Lib.hid (HY.out.below hb)
  replace HB := Lib.hid (HB.out.trans (hb.mono HB.out.size))
  clear hb hw6
  refine Plan.plan_of_effect rfl (fun K hK => ?_)
  obtain ⟨_, _, x2, x3, x4, x5, x6, x7, x8, _⟩ := HX.out.c.at0
  go_wp2_with fail
  clear x2 x3 x4 x5 x6 x7 x8
  refine ⟨HX.out.src_b, ?_⟩
  refine Plan.plan_of_effect rfl (fun K hK => ?_)
  go_wp2_with fail
  refine (HMA.out _).mono ?_
  rintro e w7 ⟨rfl, hb⟩
  replace HX := Lib.hid (HX.out.below hb)
  replace HY := Lib.hid (HY.out.below hb)
  replace HB := Lib.hid (HB.out.trans (hb.mono HB.out.size))
  clear hb
  go_wp2_with fail
  refine ⟨HX.out.src_b, ?_⟩
  refine' Plan.plan_seg (S := (fun w' => C7 w' g1 9 (.int .i64 c.b.kind) (.string c.b.name) (.int .i64 c.b.an) (.int .i64 c.b.ad) (.int .i64 c.b.sn) (.int .i64 c.b.sd) (.bool c.b.smooth))) _ [8] (([7, 9].map (·, false)) ++ (([10].map (·, true)) ++ ([11].map (·, false)))) (by kernel_rfl) (by kernel_rfl) rfl (by exact HX.out.src_b) (fun wx hS => ?_) ?_
  rotate_left
  ·clear hS
   go_light
   iterate 1 (apply Plan.seg_pick; rfl; intro K hK; go_wp)
   exact Plan.seg_nil
  refine Plan.plan_of_effect rfl (fun K hK => ?_)
  go_wp2_with fail
  refine (HMB.out _).mono ?_
  rintro e w8 ⟨rfl, hb⟩
  replace HX := Lib.hid (HX.out.below hb)
  replace HY := Lib.hid (HY.out.below hb)
  replace HB := Lib.hid (HB.out.trans (hb.mono HB.out.size))
  clear hb
  go_wp2_with fail
  refine ⟨HX.out.src_b, ?_⟩
  refine Plan.plan_of_effect rfl (fun K hK => ?_)
  obtain ⟨_, _, x2, x3, x4, x5, x6, x7, x8, _⟩ := HX.out.c.at0
  have xf := HX.out.f
  go_wp2_with fail
  clear x2 x3 x4 x5 x6 x7 x8 xf
  replace HY := Lib.hid (HY.out.other_a hne.symm ma)
  replace HB := Lib.hid (below_set_a HB.out hn1 ma)
  replace HX := Lib.hid (HX.out.set_a ma)
  obtain ⟨w9, hw9⟩ : ∃ x, x = (((((((w8.setCell ⟨g1, 2, none⟩ (.int .i64 ma.kind)).setCell ⟨g1, 3, none⟩ (.string ma.name)).setCell ⟨g1, 4, none⟩ (.int .i64 ma.an)).setCell ⟨g1, 5, none⟩ (.int .i64 ma.ad)).setCell ⟨g1, 6, none⟩ (.int .i64 ma.sn)).setCell ⟨g1, 7, none⟩ (.int .i64 ma.sd)).setCell ⟨g1, 8, none⟩ (.bool ma.smooth)) := ⟨_, rfl⟩
  rw [← hw9] at HX HY HB ⊢
  clear hw9
  refine ⟨HX.out.src_b, ?_⟩
  refine' Plan.plan_seg (S := (fun w' => C7 w' g1 9 (.int .i64 c.b.kind) (.string c.b.name) (.int .i64 c.b.an) (.int .i64 c.b.ad) (.int .i64 c.b.sn) (.int .i64 c.b.sd) (.bool c.b.smooth))) _ [10] ([11].map (·, false)) (by kernel_rfl) (by kernel_rfl) rfl (by exact HX.out.src_b) (fun wx hS => ?_) ?_
  rotate_left
  ·clear hS
   go_light
   iterate 1 (apply Plan.seg_pick; rfl; intro K hK; go_wp)
   exact Plan.seg_nil
  refine Plan.plan_of_last rfl (fun K hK => ?_)
  obtain ⟨_, _, _, _, _, _, _, _, _, x9, x10, x11, x12, x13, x14, x15, _⟩ := HX.out.c.at0
  have xf := HX.out.f
  go_wp2_with fail
  replace HY := Lib.hid (HY.out.other_b hne.symm mb)
  replace HB := Lib.hid (below_set_b HB.out hn1 mb)
  replace HX := Lib.hid (HX.out.set_b mb)
  clear x9 x10 x11 x12 x13 x14 x15 xf
  refine Plan.plan_done ?_
  refine h2 _ _ (Met.intro (h1 _ _ ?_))
  (repeat apply Exists.intro)
  exact ⟨⟨HX.out, HY.out, HB.out⟩, rfl⟩
 clear HX HY HB
 have HX := Lib.hid hcut.1
 have HY := Lib.hid hcut.2.1
 have HB := Lib.hid hcut.2.2
 clear hcut
 have y1 := HX.out.c.k1
 simp only [Nat.zero_add] at y1
 go_upto_if 40 with (go_at_call 110; refine (HSH.out _).mono ?_; rintro e w' ⟨rfl, rfl⟩)
 clear y1
 go_cut [] from 41 (fun wx => CV wx g1 { c with len := c.len - n, a := ma, b := mb, off := of } ∧ CV wx g2 (Trk.gap 0) ∧ Below w.heap.size w wx)
 case first =>
  have x16 := HX.out.c.k16
  simp only [Nat.zero_add] at x16
  have xf := HX.out.f
  go_wp2_with fail
  all_goals go_meet
  case rel =>
   rename_i hsh
   have e := HOF.out
   simp only [hsh, if_true] at e
   rw [e]
   exact ⟨HX.out.set_off _, HY.out.other hne.symm _ _, HB.out.setCell (p := ⟨g1, 16, none⟩) hn1 _⟩
  case rel =>
   rename_i hsh
   have e := HOF.out
   simp only [hsh, Bool.false_eq_true, if_false] at e
   rw [e]
   exact ⟨HX.out, HY.out, HB.out⟩
 clear HX HY HB
 have HX := Lib.hid hcut.1
 have HY := Lib.hid hcut.2.1
 have HB := Lib.hid hcut.2.2
 clear hcut
 obtain ⟨_, _, x2, x3, x4, x5, x6, x7, x8, _⟩ := HX.out.c.at0
 go_wp2_with fail
 refine (HPA.out _).mono ?_
 rintro e w10 ⟨rfl, hb⟩
 replace HX := Lib.hid (HX.out.below hb)
 replace HY := Lib.hid (HY.out.below hb)
 replace HB := Lib.hid (HB.out.trans (hb.mono HB.out.size))
 clear hb x2 x3 x4 x5 x6 x7 x8
 obtain ⟨_, _, _, _, _, _, _, _, _, x9, x10, x11, x12, x13, x14, x15, _⟩ := HX.out.c.at0
 go_wp2_with fail
 refine (HPB.out _).mono ?_
 rintro e w11 ⟨rfl, hb⟩
 replace HX := Lib.hid (HX.out.below hb)
 replace HY := Lib.hid (HY.out.below hb)
 replace HB := Lib.hid (HB.out.trans (hb.mono HB.out.size))
 clear hb x9 x10 x11 x12 x13 x14 x15
 go_upto_region 10 with fail
 apply wp_region_lit
 refine wpl_load HX.out.c rfl rfl rfl ?_
 rw [← HE.out]
 simp only [Act.put, List.setIfInBounds_toArray, List.set_cons_succ, List.set_cons_zero]
 refine wpl_store _ HY.out rfl rfl rfl (by rw [← HE.out]; rfl) ?_
 intro w12 hv ho4 hb4
 replace HB := Lib.hid (hb4 _ _ hn2 HB.out)
 replace HY := Lib.hid hv
 clear hv ho4 hb4
 simp only [Act.put, List.setIfInBounds_toArray, List.set_cons_succ, List.set_cons_zero]
 go_wp2_with fail
 refine bodyPost_ret (v := .tuple #[.agg E, .int .i64 0]) (by rw [HE.out]; exact results_clip2 Tryz.results69 rfl rfl HY.out.c) rfl ⟨rfl, HB.out⟩
theorem cutRaw_zero {c : Trk.Clip} {l : List Trk.Clip} {n : Int} (h : Trk.GoodC c) (hn : 0 < n) : Trk.cutRaw (c :: l) 0 n = Trk.withLen c (min c.len n) :: Trk.cutRaw l 0 (n - min c.len n) := by
 have := h.l
 conv => lhs; unfold Trk.cutRaw
 rw [if_neg (by omega), if_neg (by omega), Trk.shift_zero h.a h.b, Int.sub_zero]
theorem cutRaw_done (l : List Trk.Clip) (f : Int) {n : Int} (hn : n ≤ 0) (h0 : 0 ≤ n) (g : Trk.GoodL l) (hf : 0 ≤ f) : Trk.cutRaw l f n = [] := by
 induction l generalizing f with
 | nil => unfold Trk.cutRaw; rw [if_neg (by omega)]
 | cons c l ih => unfold Trk.cutRaw; rw [if_pos hn]
theorem cutRaw_out : ∀ {l : List Trk.Clip} {f n : Int}, Trk.GoodL l → Trk.total l ≤ f → 0 ≤ n → Trk.cutRaw l f n = if 0 < n then [Trk.gap n] else []
 | [], f, n, _, _, _ => rfl
 | c :: l, f, n, g, h, hn => by
  rw [Trk.total_cons] at h
  have := Trk.total_nonneg g.tail
  unfold Trk.cutRaw
  by_cases h0 : n ≤ 0
  ·rw [if_pos h0, if_neg (by omega)]
  ·rw [if_neg h0, if_pos (by omega)]
   exact cutRaw_out g.tail (by omega) hn
theorem cutRaw_at : ∀ {l : List Trk.Clip} {j : Nat} {c : Trk.Clip} {m n : Int}, Trk.GoodL l → l[j]? = some c → 0 ≤ m → m < c.len → 0 < n →
  Trk.cutRaw l (Trk.total (l.take j) + m) n = Trk.withLen (Trk.shift c m) (min (c.len - m) n) :: Trk.cutRaw (l.drop (j + 1)) 0 (n - min (c.len - m) n)
 | [], j, c, m, n, _, h, _, _, _ => by simp at h
 | d :: l, 0, c, m, n, g, h, h0, h1, hn => by
  simp only [List.getElem?_cons_zero, Option.some.injEq] at h
  subst h
  have e : Trk.total (List.take 0 (d :: l)) + m = m := by show (0 : Int) + m = m; omega
  rw [e]
  conv => lhs; unfold Trk.cutRaw
  rw [if_neg (by omega), if_neg (by omega)]
  rfl
 | d :: l, j + 1, c, m, n, g, h, h0, h1, hn => by
  simp only [List.getElem?_cons_succ] at h
  have hd := g.head.l
  have ht := Trk.total_nonneg (l := l.take j) (fun x hx => g.tail x (List.mem_of_mem_take hx))
  have ih := cutRaw_at (l := l) g.tail h h0 h1 hn
  rw [List.take_succ_cons, Trk.total_cons, List.drop_succ_cons, ← ih]
  conv => lhs; unfold Trk.cutRaw
  rw [if_neg (by omega), if_pos (by omega)]
  congr 1
  omega
theorem wpList_appT (T : TypeId) (hT : Tryz.prog.underlying T = some (.slice 48)) (w : World) {ops : Array Oper} {rest : List Oper} {op : Oper} {a : Act} {Q : Exit → Act → World → Prop} (hg : op.guard = none) (s x : Operand)
  (hop : op.op = .call { callee := .builtin .append, args := #[s, x], argTypes := #[T, T] }) (hty : op.type = T) (B : Nat) (v : Value) (l : List Trk.Clip) (hs : a.eval s = v) (h : OT w B v l) (hB : B ≤ w.heap.size)
  (b m : Nat) (c : Trk.Clip) (hx : a.eval x = .slice (some ⟨b, 0, none⟩) 1 m) (hc : CA w b 0 c) (hl : l.length ≤ 1048576)
  (hK : ∀ v' w', OT w' B v' (l ++ [c]) → Below B w w' → (∀ b, b < w.heap.size → (∀ g cap, v = .slice (some ⟨g, 0, none⟩) l.length cap → b ≠ g) → w'.heap[b]? = w.heap[b]?) → w.heap.size ≤ w'.heap.size → wpList Tryz.prog ops Q rest (a.put op.dst v') w') : wpList Tryz.prog ops Q (op :: rest) a w := by
 refine wpList_plain hg fun K hK' => ?_
 have hadd : ∀ j, (⟨b, 0, none⟩ : Addr).add j = ⟨b, 0 + j, none⟩ := fun j => Addr.add_mid b 0 j
 obtain ⟨v', w', hrun, r1, r2, r3, r4, r5⟩ := append_x w B T 48 22 216 zClip hT info53 zeros53 v l.length (cells l) h hB ⟨b, 0, none⟩ 1 m (clipC c) (by rw [clipC_length]) (fun j u hu => by rw [hadd]; exact hc.get j u hu) (clip_one c) (by omega) (by unfold maxLen; omega) (fun cap h1 h2 => growslice_fits h2 (by omega))
 unfold Oper.wp
 simp [execOp, hop, resolve, invoke, builtin, hs, hx, hty, hrun, Result.andThen]
 refine hK' _ _ (hK v' w' ?_ r2 r4 r5)
 show RowX w' B 48 22 v' (l ++ [c]).length (cells (l ++ [c]))
 rw [cells_append, List.length_append]
 simpa [cells] using r1
structure RV (w : World) (g1 g2 : Nat) (v e : Value) : Prop where
 c1 : w.cell? ⟨g1, 0, none⟩ = some v
 c2 : w.cell? ⟨g2, 0, none⟩ = some e
 f1 : w.frozen? ⟨g1, 0, none⟩ = false
 f2 : w.frozen? ⟨g2, 0, none⟩ = false
theorem RV.below {w w' : World} {n g1 g2 : Nat} {v e : Value} (h : RV w g1 g2 v e) (hb : Below n w w') (h1 : g1 < n) (h2 : g2 < n) : RV w' g1 g2 v e :=
 ⟨(hb.cell (p := ⟨g1, 0, none⟩) h1).trans h.c1, (hb.cell (p := ⟨g2, 0, none⟩) h2).trans h.c2, (hb.frozen (p := ⟨g1, 0, none⟩) h1).trans h.f1, (hb.frozen (p := ⟨g2, 0, none⟩) h2).trans h.f2⟩
theorem RV.lt1 {w : World} {g1 g2 : Nat} {v e : Value} (h : RV w g1 g2 v e) : g1 < w.heap.size := block_lt_of_cell h.c1
theorem RV.lt2 {w : World} {g1 g2 : Nat} {v e : Value} (h : RV w g1 g2 v e) : g2 < w.heap.size := block_lt_of_cell h.c2
theorem RV.up {w w' : World} {g1 g2 : Nat} {v e : Value} (h : RV w g1 g2 v e) (hb : Below w.heap.size w w') : RV w' g1 g2 v e := h.below hb h.lt1 h.lt2
theorem OT.far {w : World} {B : Nat} {v : Value} {l : List Trk.Clip} (h : OT w B v l) {p : Addr} (hp : p.block < B) (u : Value) : OT (w.setCell p u) B v l := by
 obtain ⟨rfl, rfl⟩ | ⟨g, cap, rfl⟩ := h.shape
 ·exact OT.nil _ _
 ·refine h.same ?_
  have := h.own.1
  simp [World.setCell, Array.getElem?_modify, show ¬ p.block = g by omega]
theorem OT.apart {w : World} {B : Nat} {v : Value} {l : List Trk.Clip} (h : OT w B v l) {p : Addr} (hp : ∀ g k cap, v = .slice (some ⟨g, 0, none⟩) k cap → p.block ≠ g) (u : Value) : OT (w.setCell p u) B v l := by
 obtain ⟨rfl, rfl⟩ | ⟨g, cap, rfl⟩ := h.shape
 ·exact OT.nil _ _
 ·refine h.same ?_
  simp [World.setCell, Array.getElem?_modify, hp g _ _ rfl]
theorem OT.lower {w : World} {B C : Nat} {v : Value} {l : List Trk.Clip} (h : OT w B v l) (hC : C ≤ B) : OT w C v l := by
 rcases h with ⟨a, b, c⟩ | ⟨g, cap, cur, a, b, c⟩
 ·exact .inl ⟨a, b, c⟩
 ·exact .inr ⟨g, cap, cur, a, Nat.le_trans hC b, c⟩
theorem OT.lim {w w' : World} {B n : Nat} {v : Value} {l : List Trk.Clip} (h : OT w B v l) (hv : ∀ g k cap, v = .slice (some ⟨g, 0, none⟩) k cap → g < n) (hb : Below n w w') : OT w' B v l := by
 obtain ⟨rfl, rfl⟩ | ⟨g, cap, rfl⟩ := h.shape
 ·exact OT.nil _ _
 ·exact h.same (hb.block g (hv g _ _ rfl))
theorem RV.set2 {w : World} {g1 g2 : Nat} {v e : Value} (h : RV w g1 g2 v e) (hne : g1 ≠ g2) (u : Value) : RV (w.setCell ⟨g2, 0, none⟩ u) g1 g2 v u := by
 obtain ⟨h1, h2, h3, h4⟩ := h
 exact ⟨by simp [go_sem, h1, hne, hne.symm], by simp [go_sem, h2], by simp [go_sem, h3], by simp [go_sem, h4]⟩
theorem RV.other {w : World} {g1 g2 : Nat} {v e : Value} (h : RV w g1 g2 v e) {g : Nat} (n1 : g1 ≠ g) (n2 : g2 ≠ g) (o : Nat) (u : Value) : RV (w.setCell ⟨g, o, none⟩ u) g1 g2 v e := by
 obtain ⟨h1, h2, h3, h4⟩ := h
 exact ⟨by simp [go_sem, h1, n1, n1.symm], by simp [go_sem, h2, n2, n2.symm], by simp [go_sem, h3], by simp [go_sem, h4]⟩
theorem CV.same {w w' : World} {b : Nat} {c : Trk.Clip} (h : CV w b c) (hs : w'.heap[b]? = w.heap[b]?) : CV w' b c :=
 ⟨h.c.same hs, fun o => (World.frozen?_of_block hs).trans (h.f o)⟩
theorem idle50 (p q : Addr) (w : World) : CallsD Tryz.prog 67 #[.pointer (some p), .pointer (some q)] .returning w fun e u' w' => e = .returned (.tuple #[]) ∧ u' = .returning ∧ w' = w := by
 refine callsD_of_wpS Tryz.func67 rfl fun c₀ cs hu => ?_
 apply wpS_seq
 apply wpS_region
 simp [wpOpsS, go_sem, recoverD, hu, Tryz.ntmps67, Exit.thenS]
 refine wpS_cond (t := false) (by simp [Act.eval, Array.replicate]) ?_
 simp only [Bool.false_eq_true, if_false]
 refine wpS_of_wp (wp_skip ?_)
 cases c₀
 simp_all [bodyPostS, results, Tryz.results67]
def CutPost (w : World) (l : List Trk.Clip) (a b : Int) (e : Ending) (w' : World) : Prop := ∃ v', e = .returned (.tuple #[v', .int .i64 0]) ∧ OT w' w.heap.size v' (Trk.cut l a b) ∧ Below w.heap.size w w'
structure Col (RAW : List Trk.Clip) (acc : List Trk.Clip) (left : Int) : Prop where
 e : RAW = acc ++ (if 0 < left then [Trk.gap left] else [])
 n : acc.length ≤ 1048576
 l : 0 ≤ left
 m : left ≤ 2147483647
set_option maxRecDepth 100000 in
set_option maxHeartbeats 16000000 in
theorem cut_any {L : Int} (v : Value) (l : List Trk.Clip) (a b : Int) (w : World) (h : Tk w v l) (hV : VT L l) (hL : L ≤ 140737488355328) (a0 : 0 ≤ a) (ab : a ≤ b) (b1 : b ≤ 2147483647) (hlen : (Trk.cut l a b).length ≤ 64) :
  Calls Tryz.prog 30 #[v, .int .i64 a, .int .i64 b] w (CutPost w l a b) := by
 obtain ⟨ao, cap, rfl, hc1, hc2, hT⟩ := h
 have HT := Lib.hid (show Tk w (.slice ao l.length cap) l from ⟨ao, cap, rfl, hc1, hc2, hT⟩)
 clear hT
 have HVT := Lib.hid (fun w (h : Tk w (.slice ao l.length cap) l) => vtrack_any _ l w h hV hL)
 have HFI := Lib.hid (fun w (h : Tk w (.slice ao l.length cap) l) => find_any _ l a w h hV a0 (by omega))
 have HV := Lib.hid hV.v
 have HG := Lib.hid hV.v.good
 have hl := hV.n
 have HRV := Lib.hid (Trk.cutRaw_vl (f := a) (n := b - a) hV.v a0 (by omega))
 have HRT := Lib.hid (Trk.cutRaw_spec (f := a) (n := b - a) hV.v.good a0 (by omega)).2.1
 have HRL := Lib.hid (Trk.cutRaw_length l a (b - a))
 unfold CutPost
 unfold Trk.cut at hlen ⊢
 obtain ⟨RAW, hRAW⟩ : ∃ R, R = Trk.cutRaw l a (b - a) := ⟨_, rfl⟩
 rw [← hRAW] at hlen HRV HRT HRL ⊢
 have HRAW := Lib.hid hRAW
 obtain ⟨N, hN⟩ : ∃ N, N = l.length := ⟨_, rfl⟩
 rw [← hN] at hl hc1 HRL HFI HVT HT ⊢
 have HLe := Lib.hid hN
 clear hV hN hc2 hRAW
 go_enter_defers Tryz.func30, Tryz.ntmps30
 go_upto_region 2 with fail
 obtain ⟨w1, hw1⟩ : ∃ x, x = (w.alloc (.cells #[.slice none 0 0] 23)).alloc (.cells #[.int .i64 0] 30) := ⟨_, rfl⟩
 rw [← hw1]
 have hE1 : Below w.heap.size w w1 := by rw [hw1]; go_grown
 obtain ⟨g1, hg1⟩ : ∃ g, g = w.heap.size := ⟨_, rfl⟩
 obtain ⟨g2, hg2⟩ : ∃ g, g = w.heap.size + 1 := ⟨_, rfl⟩
 have hr : RV w1 g1 g2 (.slice none 0 0) (.int .i64 0) := by rw [hw1, hg1, hg2]; constructor <;> simp [go_sem]
 have hz : w1.heap.size = g2 + 1 := by rw [hw1, hg2]; simp [go_sem]
 rw [← hg2, ← hg1]
 have hn1 : w.heap.size ≤ g1 := by omega
 have hn2 : w.heap.size ≤ g2 := by omega
 have h12 : g1 < g2 := by omega
 have HR := Lib.hid hr
 have HB := Lib.hid hE1
 have HS := Lib.hid (Nat.le_of_eq hz.symm)
 clear hw1 hE1 hg1 hg2 hr hz
 go_wp2_with fail
 refine (HVT.out _ (HT.out.below HB.out)).mono ?_
 rintro e w2 ⟨rfl, hb⟩
 replace HR := Lib.hid (HR.out.up hb)
 replace HB := Lib.hid (HB.out.trans (hb.mono HB.out.size))
 replace HS := Lib.hid (Nat.le_trans HS.out hb.size)
 clear hb HVT
 go_wp2_with fail
 refine (HFI.out _ (HT.out.below HB.out)).mono ?_
 rintro e w3 ⟨rfl, hb⟩
 replace HR := Lib.hid (HR.out.up hb)
 replace HB := Lib.hid (HB.out.trans (hb.mono HB.out.size))
 replace HS := Lib.hid (Nat.le_trans HS.out hb.size)
 clear hb HFI
 obtain ⟨n, hn⟩ : ∃ n, n = b - a := ⟨_, rfl⟩
 rw [← hn] at HRT HRAW
 have n0 : 0 ≤ n := by omega
 have n1 : n ≤ 2147483647 := by omega
 have HN := Lib.hid hn
 clear hn
 by_cases hat : a < Trk.total l
 ·obtain ⟨j, m, ef, hj, hm0, hm, c, hc, hmc⟩ := findL_some (l := l) (n := a) (i := 0) a0 hat
  rw [ef]
  simp only [findV, Nat.zero_add]
  rw [← HLe.out] at hj
  by_cases hnz : 0 < n
  ·have hnz' : 0 < b - a := by have := HN.out; omega
   obtain ⟨ao', cap', e, _, _, hT⟩ := HT.out
   simp only [Value.slice.injEq] at e
   obtain ⟨rfl, eN, rfl⟩ := e
   clear eN
   obtain ⟨bb, oo, rfl, _⟩ := hT j c hc
   clear hT
   have HJ := Lib.hid (And.intro ef (And.intro hm hc))
   clear ef hm hc hat
   have hab : decide (a < b) = true := decide_eq_true (by omega)
   go_upto_if 46 with fail
   go_cut [8, 9] from 47 (fun v8 v9 wx => ∃ acc left, v8 = .int .i64 left ∧ Col RAW acc left ∧ OT wx (g2 + 1) v9 acc ∧ RV wx g1 g2 (.slice none 0 0) (.int .i64 0) ∧ Below w.heap.size w wx ∧ g2 + 1 ≤ wx.heap.size)
   case first J K' h1 h2 =>
    have hjc : (j : Int) < (cap : Int) := by omega
    go_wp2_with fail
    obtain ⟨M, hM⟩ : ∃ M, M = N - j := ⟨_, rfl⟩
    rw [← hM]
    have hMb : M ≤ 64 := by omega
    have hMj : M + j = N := by omega
    have HM := Lib.hid hM
    clear hM
    go_loopw [8, 9, 51] (fun v8 v9 v51 wr => ∃ (k : Nat) (acc : List Trk.Clip) (left : Int), k ≤ M ∧ v51 = .int .i64 (k : Int) ∧ v8 = .int .i64 left ∧ 0 ≤ left ∧ left ≤ 2147483647 ∧ Hid (k = 0 → acc = [] ∧ left = b - a) ∧ Hid (0 < k → RAW = acc ++ Trk.cutRaw (l.drop (j + k)) 0 left) ∧ acc.length ≤ k ∧ OT wr (g2 + 1) v9 acc ∧ RV wr g1 g2 (.slice none 0 0) (.int .i64 0) ∧ Below w.heap.size w wr ∧ g2 + 1 ≤ wr.heap.size) (fun _ _ i _ => M - (intOf i).toNat)
    case atStart => exact ⟨0, [], b - a, Nat.zero_le _, rfl, rfl, by omega, by omega, Lib.hid (fun _ => ⟨rfl, rfl⟩), Lib.hid (fun h => absurd h (by omega)), by simp, OT.nil _ _, HR.out, HB.out, HS.out⟩
    case round =>
     clear HR HB HS
     obtain ⟨k, acc, left, hk, rfl, rfl, left0, left1, HK0, HK1, hak, ho, hr, hb, hs⟩ := hrel
     by_cases hlt : k < M
     ·have hlt' : (k : Int) < (M : Int) := by omega
      have hjk : j + k < l.length := by have := HLe.out; omega
      obtain ⟨d, hd⟩ : ∃ d, l[j + k]? = some d := ⟨_, List.getElem?_eq_getElem hjk⟩
      obtain ⟨ao', cap', e, _, _, hT⟩ := HT.out.below hb
      simp only [Value.slice.injEq] at e
      obtain ⟨e1, eN, rfl⟩ := e
      clear eN
      subst e1
      obtain ⟨bb', oo', e, hA⟩ := hT (j + k) d hd
      simp only [Option.some.injEq, Addr.mk.injEq, and_true] at e
      obtain ⟨rfl, rfl⟩ := e
      rw [Nat.add_mul, ← Nat.add_assoc] at hA
      have hvd := HV.out d (List.mem_of_getElem? hd)
      have hd0 := hvd.l.1
      have hd1 := hvd.l.2.1
      have HA := Lib.hid hA
      have HO := Lib.hid ho
      have HR := Lib.hid hr
      have HB := Lib.hid hb
      have HS := Lib.hid hs
      have HD := Lib.hid hd
      have HVD := Lib.hid hvd
      clear hT hA ho hr hb hs hd hvd hjk
      go_upto_region 10 with fail
      apply wp_region_lit
      iterate 6 go_step
      refine wpl_load HA.out rfl rfl rfl ?_
      refine wpl_alloc rfl rfl (fun w4 hg hb2 hs2 => ?_)
      obtain ⟨g, hgg⟩ : ∃ g, g = wr.heap.size := ⟨_, rfl⟩
      rw [← hgg] at hg ⊢
      have hgn : w.heap.size ≤ g := by rw [hgg]; exact HB.out.size
      have hgo : ∀ g' k' cap', u9 = .slice (some ⟨g', 0, none⟩) k' cap' → g' < g := fun g' k' cap' e => by
       subst e
       have := HO.out.own.2.1
       omega
      have hg1 : g1 < g := by have := HR.out.lt1; omega
      have hg2 : g2 < g := by have := HR.out.lt2; omega
      have HGO := Lib.hid hgo
      have HBX := Lib.hid (And.intro hb2 hgg)
      clear hb2 hs2 hgg HA hgo
      obtain ⟨D, hD⟩ : ∃ D, D = (clipC d).toArray := ⟨_, rfl⟩
      rw [← hD]
      have HDD := Lib.hid hD
      clear hD
      simp only [Act.put, List.setIfInBounds_toArray, List.set_cons_succ, List.set_cons_zero]
      iterate 3 go_step
      refine wpl_store d hg rfl rfl rfl (by rw [← HDD.out]; rfl) ?_
      intro w5 hv ho3 hb3
      have hbw : Below wr.heap.size wr w5 := hb3 _ _ (Nat.le_of_eq HBX.out.2.symm) HBX.out.1
      replace HR := Lib.hid (HR.out.up hbw)
      replace HO := Lib.hid (HO.out.below hbw)
      replace HB := Lib.hid (HB.out.trans (hbw.mono HB.out.size))
      replace HS := Lib.hid (Nat.le_trans HS.out hbw.size)
      have HX := Lib.hid hv
      clear hv ho3 hb3 hbw HBX hg
      simp only [Act.put, List.setIfInBounds_toArray, List.set_cons_succ, List.set_cons_zero]
      by_cases hl0 : left = 0
      ·have hk0 : 0 < k := by
        rcases Nat.eq_zero_or_pos k with e | e
        ·have := (HK0.out e).2
         omega
        ·exact e
       have hcol : Col RAW acc 0 := by
        refine ⟨?_, by omega, Int.le_refl _, by omega⟩
        rw [if_neg (by omega), List.append_nil, HK1.out hk0, hl0, cutRaw_done _ _ (Int.le_refl _) (Int.le_refl _) (fun x hx => HG.out x (List.mem_of_mem_drop hx)) (Int.le_refl _), List.append_nil]
       have HC := Lib.hid hcol
       clear hcol
       subst hl0
       go_wp2_with fail
       refine Met.intro (h1 _ _ ?_)
       (repeat apply Exists.intro)
       exact ⟨⟨acc, 0, rfl, HC.out, HO.out, HR.out, HB.out, HS.out⟩, rfl⟩
      ·have hl1 : 0 < left := by omega
       have hlb : (left == 0) = false := by simpa using hl0
       clear hl0
       obtain ⟨x, hx⟩ : ∃ x, x = (if k = 0 then Trk.withLen (Trk.shift c m) (c.len - m) else d) := ⟨_, rfl⟩
       have HXX := Lib.hid hx
       clear hx
       go_upto_if 59 with fail
       go_cut [] from 60 to 82 (fun wx => CV wx g x ∧ OT wx (g2 + 1) u9 acc ∧ RV wx g1 g2 (.slice none 0 0) (.int .i64 0) ∧ Below w.heap.size w wx ∧ g2 + 1 ≤ wx.heap.size)
       case first J2 K2 h3 h4 =>
        by_cases hk0 : k = 0
        ·subst hk0
         have hdc : d = c := by
          have h := HD.out
          rw [Nat.add_zero, HJ.out.2.2] at h
          exact (Option.some.inj h).symm
         have hxe := HXX.out
         rw [if_pos rfl] at hxe
         subst hdc
         subst hxe
         have HAD := Lib.hid (fun w => advance_any d m w HVD.out hL hm0 hmc)
         unfold clipV at HAD
         rw [← HDD.out] at HAD
         obtain ⟨E, hE⟩ : ∃ E, E = (clipC (Trk.withLen (Trk.shift d m) (d.len - m))).toArray := ⟨_, rfl⟩
         rw [← hE] at HAD
         have HE := Lib.hid hE
         clear hE
         go_upto_region 13 with fail
         apply wp_region_lit
         refine wpl_load HX.out.c rfl rfl rfl ?_
         rw [← HDD.out]
         simp only [Act.put, List.setIfInBounds_toArray, List.set_cons_succ, List.set_cons_zero]
         go_wp2_with fail
         refine (HAD.out _).mono ?_
         rintro e w6 ⟨rfl, hb⟩
         replace HX := Lib.hid (HX.out.below hb)
         replace HR := Lib.hid (HR.out.up hb)
         replace HO := Lib.hid (HO.out.below hb)
         replace HB := Lib.hid (HB.out.trans (hb.mono HB.out.size))
         replace HS := Lib.hid (Nat.le_trans HS.out hb.size)
         clear hb
         dsimp only
         iterate 10 go_step
         refine wpl_store _ HX.out rfl rfl rfl (by rw [← HE.out]; rfl) ?_
         intro w7 hv ho3 hb3
         have hbw : Below g w6 w7 := hb3 _ _ (Nat.le_refl _) (Below.refl _ _)
         replace HR := Lib.hid (HR.out.below hbw hg1 hg2)
         replace HO := Lib.hid (HO.out.lim HGO.out hbw)
         replace HB := Lib.hid (hb3 _ _ hgn HB.out)
         replace HS := Lib.hid (Nat.le_trans HS.out hbw.size)
         replace HX := Lib.hid hv
         clear hv ho3 hb3 hbw
         simp only [Act.put, List.setIfInBounds_toArray, List.set_cons_succ, List.set_cons_zero]
         have y2 := HR.out.c2
         have f2 := HR.out.f2
         go_wp2_with fail
         have hne12 : g1 ≠ g2 := by omega
         have hng2 : g ≠ g2 := by omega
         exact Met.intro (h3 _ _ ⟨_, _, _, _, _, _, _, _, _, _, _, _, _, _, _, _, _, _, _, _, _, _, _, ⟨HX.out.other hng2 _ _, HO.out.far (p := ⟨g2, 0, none⟩) (Nat.lt_succ_self _) _, HR.out.set2 hne12 _, HB.out.setCell (p := ⟨g2, 0, none⟩) hn2 _, by rw [World.size_setCell]; exact HS.out⟩, rfl⟩)
        ·have hxe := HXX.out
         rw [if_neg hk0] at hxe
         subst hxe
         have hk0' : (k == 0) = false := by simpa using hk0
         go_wp2_with fail
         exact Met.intro (h3 _ _ ⟨_, _, _, _, _, _, _, _, _, _, _, _, _, _, _, _, _, _, _, _, _, _, _, ⟨HX.out, HO.out, HR.out, HB.out, HS.out⟩, rfl⟩)
       clear HX HO HR HB HS
       obtain ⟨hx, ho, hr, hb, hs⟩ := hcut
       have HX := Lib.hid hx
       have HO := Lib.hid ho
       have HR := Lib.hid hr
       have HB := Lib.hid hb
       have HS := Lib.hid hs
       clear hx ho hr hb hs
       have x0 := HX.out.c.at0.1
       have xf := HX.out.f
       go_upto_region 17 with fail
       have hgb : g ≠ g1 ∧ g ≠ g2 := by omega
       replace HR := Lib.hid (HR.out.other (fun e => hgb.1 e.symm) (fun e => hgb.2 e.symm) 0 (.int .i64 (min x.len left)))
       replace HO := Lib.hid (HO.out.apart (p := ⟨g, 0, none⟩) (fun g' k' cap' e => Nat.ne_of_gt (HGO.out g' k' cap' e)) (.int .i64 (min x.len left)))
       replace HB := Lib.hid (HB.out.setCell (p := ⟨g, 0, none⟩) hgn (.int .i64 (min x.len left)))
       replace HS := Lib.hid (show g2 + 1 ≤ (wc.setCell ⟨g, 0, none⟩ (.int .i64 (min x.len left))).heap.size by rw [World.size_setCell]; exact HS.out)
       replace HX := Lib.hid (HX.out.set_len (min x.len left))
       clear x0 xf
       obtain ⟨w8, hw8⟩ : ∃ y, y = wc.setCell ⟨g, 0, none⟩ (.int .i64 (min x.len left)) := ⟨_, rfl⟩
       rw [← hw8] at HX HO HR HB HS ⊢
       clear hw8
       obtain ⟨y, hy⟩ : ∃ y : Trk.Clip, y = { x with len := min x.len left } := ⟨_, rfl⟩
       rw [← hy] at HX
       have hyl : y.len = min x.len left := by rw [hy]
       have HY := Lib.hid hy
       rw [← hyl]
       have hx1 : 1 ≤ x.len ∧ x.len ≤ 2147483647 := by
        rw [HXX.out]
        split
        ·show 1 ≤ c.len - m ∧ c.len - m ≤ 2147483647
         have h := HJ.out.2.2
         have := (HV.out c (List.mem_of_getElem? h)).l.2.1
         omega
        ·exact ⟨hd0, hd1⟩
       have hy1 : 1 ≤ y.len := by omega
       have hy2 : y.len ≤ left := by omega
       clear hy hyl hx1
       apply wp_region_lit
       iterate 3 go_step
       refine wpl_load HX.out.c rfl rfl rfl ?_
       simp only [Act.put, List.setIfInBounds_toArray, List.set_cons_succ, List.set_cons_zero]
       obtain ⟨Y, hYY⟩ : ∃ Y, Y = (clipC y).toArray := ⟨_, rfl⟩
       rw [← hYY]
       have HYY := Lib.hid hYY
       clear hYY
       refine Great.wpList_buildSliceTo rfl 22 48 1 #[(0, .tmp 75)] rfl w8.heap.size rfl _ rfl Tryz.underlying22 Y ?_ ?_
       ·simp only [List.map_toArray, List.map_cons, List.map_nil, List.toList_toArray]
        rw [HYY.out]
        exact built_clip y
       have hb : Below w8.heap.size w8 (w8.alloc (.cells Y 48)) := below_box _ _
       have hbx : CA (w8.alloc (.cells Y 48)) w8.heap.size 0 y := by rw [HYY.out]; exact CA.box w8 y 48
       replace HX := Lib.hid (HX.out.below hb)
       replace HR := Lib.hid (HR.out.up hb)
       replace HO := Lib.hid (HO.out.below hb)
       replace HB := Lib.hid (HB.out.trans (hb.mono HB.out.size))
       replace HS := Lib.hid (Nat.le_trans HS.out hb.size)
       clear hb
       simp only [Act.put, List.setIfInBounds_toArray, List.set_cons_succ, List.set_cons_zero]
       refine wpList_appT 22 Tryz.underlying22 _ rfl (.tmp 74) (.tmp 76) rfl rfl (g2 + 1) u9 acc rfl HO.out HS.out w8.heap.size 1 y rfl hbx (by omega) ?_
       intro v' w9 r1 r2 r3 r4
       simp only [Act.put, List.setIfInBounds_toArray, List.set_cons_succ, List.set_cons_zero]
       have HGL := Lib.hid HX.out.lt
       replace HX := Lib.hid (HX.out.same (r3 g HX.out.lt (fun g' cap' e => Nat.ne_of_gt (HGO.out g' _ cap' e))))
       replace HO := Lib.hid r1
       replace HR := Lib.hid (HR.out.below r2 (by omega) (by omega))
       replace HB := Lib.hid (HB.out.trans (r2.mono (by omega)))
       replace HS := Lib.hid (Nat.le_trans HS.out r4)
       clear r1 r2 r3 r4 hbx
       have x0 := HX.out.c.at0.1
       have hraw : RAW = (acc ++ [y]) ++ Trk.cutRaw (l.drop (j + (k + 1))) 0 (left - y.len) := by
        rcases Nat.eq_zero_or_pos k with e | e
        ·subst e
         obtain ⟨ha, hb⟩ := HK0.out rfl
         have h := HJ.out
         have hy : y = Trk.withLen (Trk.shift c m) (min (c.len - m) left) := by rw [HY.out, HXX.out, if_pos rfl]; rfl
         have hn := HN.out
         have hyl : y.len = min (c.len - m) (b - a) := by rw [hy, hb]; rfl
         rw [HRAW.out, ha, hyl, hy, hb, hn, show a = Trk.total (l.take j) + m by omega]
         exact cutRaw_at HG.out h.2.2 hm0 hmc (by omega)
        ·have hx : x = d := by rw [HXX.out, if_neg (by omega)]
         have hjk := (List.getElem?_eq_some_iff.1 HD.out)
         have hdr : l.drop (j + k) = d :: l.drop (j + (k + 1)) := by
          obtain ⟨h1, h2⟩ := hjk
          rw [List.drop_eq_getElem_cons h1, h2, Nat.add_assoc]
         have hy : y = Trk.withLen d (min d.len left) := by rw [HY.out, hx]; rfl
         have hyl : y.len = min d.len left := by rw [hy]; rfl
         rw [HK1.out e, hdr, cutRaw_zero HVD.out.good hl1, hyl, hy, List.append_assoc]
         rfl
       have HRW := Lib.hid hraw
       clear hraw
       go_wp2_with fail
       refine ⟨⟨k + 1, acc ++ [y], left - y.len, by omega, by simp, rfl, by omega, by omega, Lib.hid (fun h => absurd h (by omega)), Lib.hid (fun _ => HRW.out), by simp; omega, HO.out, HR.out, HB.out, HS.out⟩, ?_⟩
       show M - (intOf (.int .i64 ((k : Int) + 1))).toNat < M - (intOf (.int .i64 (k : Int))).toNat
       simp [intOf]
       omega
     ·have hkM : k = M := by omega
      have hk0 : 0 < k := by omega
      have hcol : Col RAW acc left := by
       refine ⟨?_, by omega, left0, left1⟩
       rw [HK1.out hk0, List.drop_eq_nil_of_le (by have := HLe.out; omega)]
       rfl
      have HC := Lib.hid hcol
      have HO := Lib.hid ho
      have HR := Lib.hid hr
      have HB := Lib.hid hb
      have HS := Lib.hid hs
      clear HT hcol ho hr hb hs
      subst hkM
      go_wp2_with fail
      refine Met.intro (h1 _ _ ?_)
      (repeat apply Exists.intro)
      exact ⟨⟨acc, left, rfl, HC.out, HO.out, HR.out, HB.out, HS.out⟩, rfl⟩
   obtain ⟨acc, left, e8, hcol, ho, hr, hb, hs⟩ := hcut
   subst e8
   have HC := Lib.hid hcol
   have HO := Lib.hid ho
   clear HR HB HS
   have HR := Lib.hid hr
   have HB := Lib.hid hb
   have HS := Lib.hid hs
   clear hcol ho hr hb hs
   have HPK := Lib.hid (fun (l' : List Trk.Clip) v' w' (h : Tk w' v' l') (hV : Trk.VL L l') (hn : l'.length ≤ 1048576) (ht : Trk.total l' ≤ 4611686018427387904) => pack_any v' l' w' h (fun c hc => VC.okC (hV c hc) hL) hn ht)
   have hlf := HC.out.l
   have hlm := HC.out.m
   have han := HC.out.n
   have hrt : Trk.total RAW ≤ 2147483647 := by have := HRT.out; omega
   have hrn : RAW.length ≤ 65 := by have := HRL.out; omega
   have HRB := Lib.hid (And.intro hrt hrn)
   clear hrt hrn
   have hne12 : g1 ≠ g2 := by omega
   by_cases hlp : 0 < left
   ·go_upto_region 21 with fail
    apply wp_region_lit
    iterate 6 go_step
    iterate 3 go_step
    refine Great.wpList_buildSliceTo rfl 22 48 1 #[(0, .tmp 87)] rfl _ rfl _ rfl Tryz.underlying22 (clipC (Trk.gap left)).toArray ?_ ?_
    ·simp only [List.map_toArray, List.map_cons, List.map_nil, List.toList_toArray]
     exact built_clip (Trk.gap left)
    obtain ⟨WW, hWW⟩ : ∃ W : World, W = wc := ⟨_, rfl⟩
    rw [← hWW] at HR HO HB HS ⊢
    clear hWW
    have hb : Below WW.heap.size WW (WW.alloc (.cells (clipC (Trk.gap left)).toArray 48)) := below_box _ _
    have hbx : CA (WW.alloc (.cells (clipC (Trk.gap left)).toArray 48)) WW.heap.size 0 (Trk.gap left) := CA.box WW (Trk.gap left) 48
    replace HR := Lib.hid (HR.out.up hb)
    replace HO := Lib.hid (HO.out.below hb)
    replace HB := Lib.hid (HB.out.trans (hb.mono HB.out.size))
    replace HS := Lib.hid (Nat.le_trans HS.out hb.size)
    clear hb
    simp only [Act.put, List.setIfInBounds_toArray, List.set_cons_succ, List.set_cons_zero]
    refine wpList_appT 22 Tryz.underlying22 _ rfl (.tmp 85) (.tmp 88) rfl rfl (g2 + 1) u9 acc rfl HO.out HS.out WW.heap.size 1 (Trk.gap left) rfl hbx han ?_
    intro v9 w9 q1 q2 q3 q4
    simp only [Act.put, List.setIfInBounds_toArray, List.set_cons_succ, List.set_cons_zero]
    replace HO := Lib.hid q1
    replace HR := Lib.hid (HR.out.below q2 (by omega) (by omega))
    replace HB := Lib.hid (HB.out.trans (q2.mono (by omega)))
    replace HS := Lib.hid (Nat.le_trans HS.out q4)
    clear q1 q2 q3 q4 hbx
    have HE := Lib.hid (show RAW = acc ++ [Trk.gap left] by have h := HC.out.e; rw [if_pos hlp] at h; exact h)
    go_wp2_with fail
    refine (HPK.out RAW _ _ (by rw [HE.out]; exact HO.out.tk) HRV.out (by have := HRB.out; omega) (by have := HRB.out; omega)).mono ?_
    rintro e w10 ⟨v', rfl, ho, hb⟩
    obtain ⟨ar, cr, rfl, hcr, hcr2, _⟩ := ho.tk
    obtain ⟨nr, hnr⟩ : ∃ nr, nr = (Trk.pk RAW).length := ⟨_, rfl⟩
    rw [← hnr] at ho hlen hcr ⊢
    replace HR := Lib.hid (HR.out.up hb)
    replace HB := Lib.hid (HB.out.trans (hb.mono HB.out.size))
    have HP := Lib.hid (ho.lower HS.out)
    clear ho hb hnr
    have r1 := HR.out.c1
    have r2 := HR.out.f1
    have r3 := HR.out.c2
    have r4 := HR.out.f2
    go_wp2_with fail
    refine leaves_cons (f := 67) (args := #[.pointer (some ⟨g1, 0, none⟩), .pointer (some ⟨g2, 0, none⟩)]) (by simp) (by simp [go_sem]) ?_
    refine (idle50 _ _ _).mono ?_
    rintro e u' w'' ⟨rfl, rfl, rfl⟩
    have hne21 : g2 ≠ g1 := hne12.symm
    simp [Leaves, settle, results, Tryz.results30, go_sem, r1, r3, hne12, hne21]
    exact ⟨(((HP.out.far (p := ⟨g1, 0, none⟩) (by show g1 < g2 + 1; omega) _).far (p := ⟨g1, 0, none⟩) (by show g1 < g2 + 1; omega) _).far (p := ⟨g2, 0, none⟩) (by show g2 < g2 + 1; omega) _).lower (by omega),
     ((HB.out.setCell (p := ⟨g1, 0, none⟩) hn1 _).setCell (p := ⟨g1, 0, none⟩) hn1 _).setCell (p := ⟨g2, 0, none⟩) hn2 _⟩
   ·have HE := Lib.hid (show RAW = acc by have h := HC.out.e; rw [if_neg hlp, List.append_nil] at h; exact h)
    go_wp2_with fail
    refine (HPK.out RAW _ _ (by rw [HE.out]; exact HO.out.tk) HRV.out (by have := HRB.out; omega) (by have := HRB.out; omega)).mono ?_
    rintro e w10 ⟨v', rfl, ho, hb⟩
    obtain ⟨ar, cr, rfl, hcr, hcr2, _⟩ := ho.tk
    obtain ⟨nr, hnr⟩ : ∃ nr, nr = (Trk.pk RAW).length := ⟨_, rfl⟩
    rw [← hnr] at ho hlen hcr ⊢
    replace HR := Lib.hid (HR.out.up hb)
    replace HB := Lib.hid (HB.out.trans (hb.mono HB.out.size))
    have HP := Lib.hid (ho.lower HS.out)
    clear ho hb hnr
    have r1 := HR.out.c1
    have r2 := HR.out.f1
    have r3 := HR.out.c2
    have r4 := HR.out.f2
    go_wp2_with fail
    refine leaves_cons (f := 67) (args := #[.pointer (some ⟨g1, 0, none⟩), .pointer (some ⟨g2, 0, none⟩)]) (by simp) (by simp [go_sem]) ?_
    refine (idle50 _ _ _).mono ?_
    rintro e u' w'' ⟨rfl, rfl, rfl⟩
    have hne21 : g2 ≠ g1 := hne12.symm
    simp [Leaves, settle, results, Tryz.results30, go_sem, r1, r3, hne12, hne21]
    exact ⟨(((HP.out.far (p := ⟨g1, 0, none⟩) (by show g1 < g2 + 1; omega) _).far (p := ⟨g1, 0, none⟩) (by show g1 < g2 + 1; omega) _).far (p := ⟨g2, 0, none⟩) (by show g2 < g2 + 1; omega) _).lower (by omega),
     ((HB.out.setCell (p := ⟨g1, 0, none⟩) hn1 _).setCell (p := ⟨g1, 0, none⟩) hn1 _).setCell (p := ⟨g2, 0, none⟩) hn2 _⟩
  ·have hn0 : n = 0 := by omega
   have hab : decide (a < b) = false := decide_eq_false (by have := HN.out; omega)
   have hcol : Col RAW [] (b - a) := by
    have h := HN.out
    refine ⟨?_, by simp, by omega, by omega⟩
    rw [if_neg (by omega), HRAW.out, cutRaw_done _ _ (by omega) n0 HG.out a0]
    rfl
   have HC := Lib.hid hcol
   clear ef hcol hm hc hat
   go_upto_if 46 with fail
   go_upto_region 20 with fail
   obtain ⟨acc, hacc⟩ : ∃ acc : List Trk.Clip, acc = [] := ⟨_, rfl⟩
   rw [← hacc] at HC
   have HO := Lib.hid (show OT w3 (g2 + 1) (.slice none 0 0) acc by rw [hacc]; exact OT.nil _ _)
   clear hacc
   obtain ⟨left, hleft⟩ : ∃ left, left = b - a := ⟨_, rfl⟩
   rw [← hleft] at HC ⊢
   clear hleft hab
   have HPK := Lib.hid (fun (l' : List Trk.Clip) v' w' (h : Tk w' v' l') (hV : Trk.VL L l') (hn : l'.length ≤ 1048576) (ht : Trk.total l' ≤ 4611686018427387904) => pack_any v' l' w' h (fun c hc => VC.okC (hV c hc) hL) hn ht)
   have hlf := HC.out.l
   have hlm := HC.out.m
   have han := HC.out.n
   have hrt : Trk.total RAW ≤ 2147483647 := by have := HRT.out; omega
   have hrn : RAW.length ≤ 65 := by have := HRL.out; omega
   have HRB := Lib.hid (And.intro hrt hrn)
   clear hrt hrn
   have hne12 : g1 ≠ g2 := by omega
   by_cases hlp : 0 < left
   ·go_upto_region 21 with fail
    apply wp_region_lit
    iterate 6 go_step
    iterate 3 go_step
    refine Great.wpList_buildSliceTo rfl 22 48 1 #[(0, .tmp 87)] rfl _ rfl _ rfl Tryz.underlying22 (clipC (Trk.gap left)).toArray ?_ ?_
    ·simp only [List.map_toArray, List.map_cons, List.map_nil, List.toList_toArray]
     exact built_clip (Trk.gap left)
    obtain ⟨WW, hWW⟩ : ∃ W : World, W = w3 := ⟨_, rfl⟩
    rw [← hWW] at HR HO HB HS ⊢
    clear hWW
    have hb : Below WW.heap.size WW (WW.alloc (.cells (clipC (Trk.gap left)).toArray 48)) := below_box _ _
    have hbx : CA (WW.alloc (.cells (clipC (Trk.gap left)).toArray 48)) WW.heap.size 0 (Trk.gap left) := CA.box WW (Trk.gap left) 48
    replace HR := Lib.hid (HR.out.up hb)
    replace HO := Lib.hid (HO.out.below hb)
    replace HB := Lib.hid (HB.out.trans (hb.mono HB.out.size))
    replace HS := Lib.hid (Nat.le_trans HS.out hb.size)
    clear hb
    simp only [Act.put, List.setIfInBounds_toArray, List.set_cons_succ, List.set_cons_zero]
    refine wpList_appT 22 Tryz.underlying22 _ rfl (.tmp 85) (.tmp 88) rfl rfl (g2 + 1) (.slice none 0 0) acc rfl HO.out HS.out WW.heap.size 1 (Trk.gap left) rfl hbx han ?_
    intro v9 w9 q1 q2 q3 q4
    simp only [Act.put, List.setIfInBounds_toArray, List.set_cons_succ, List.set_cons_zero]
    replace HO := Lib.hid q1
    replace HR := Lib.hid (HR.out.below q2 (by omega) (by omega))
    replace HB := Lib.hid (HB.out.trans (q2.mono (by omega)))
    replace HS := Lib.hid (Nat.le_trans HS.out q4)
    clear q1 q2 q3 q4 hbx
    have HE := Lib.hid (show RAW = acc ++ [Trk.gap left] by have h := HC.out.e; rw [if_pos hlp] at h; exact h)
    go_wp2_with fail
    refine (HPK.out RAW _ _ (by rw [HE.out]; exact HO.out.tk) HRV.out (by have := HRB.out; omega) (by have := HRB.out; omega)).mono ?_
    rintro e w10 ⟨v', rfl, ho, hb⟩
    obtain ⟨ar, cr, rfl, hcr, hcr2, _⟩ := ho.tk
    obtain ⟨nr, hnr⟩ : ∃ nr, nr = (Trk.pk RAW).length := ⟨_, rfl⟩
    rw [← hnr] at ho hlen hcr ⊢
    replace HR := Lib.hid (HR.out.up hb)
    replace HB := Lib.hid (HB.out.trans (hb.mono HB.out.size))
    have HP := Lib.hid (ho.lower HS.out)
    clear ho hb hnr
    have r1 := HR.out.c1
    have r2 := HR.out.f1
    have r3 := HR.out.c2
    have r4 := HR.out.f2
    go_wp2_with fail
    refine leaves_cons (f := 67) (args := #[.pointer (some ⟨g1, 0, none⟩), .pointer (some ⟨g2, 0, none⟩)]) (by simp) (by simp [go_sem]) ?_
    refine (idle50 _ _ _).mono ?_
    rintro e u' w'' ⟨rfl, rfl, rfl⟩
    have hne21 : g2 ≠ g1 := hne12.symm
    simp [Leaves, settle, results, Tryz.results30, go_sem, r1, r3, hne12, hne21]
    exact ⟨(((HP.out.far (p := ⟨g1, 0, none⟩) (by show g1 < g2 + 1; omega) _).far (p := ⟨g1, 0, none⟩) (by show g1 < g2 + 1; omega) _).far (p := ⟨g2, 0, none⟩) (by show g2 < g2 + 1; omega) _).lower (by omega),
     ((HB.out.setCell (p := ⟨g1, 0, none⟩) hn1 _).setCell (p := ⟨g1, 0, none⟩) hn1 _).setCell (p := ⟨g2, 0, none⟩) hn2 _⟩
   ·have HE := Lib.hid (show RAW = acc by have h := HC.out.e; rw [if_neg hlp, List.append_nil] at h; exact h)
    go_wp2_with fail
    refine (HPK.out RAW _ _ (by rw [HE.out]; exact HO.out.tk) HRV.out (by have := HRB.out; omega) (by have := HRB.out; omega)).mono ?_
    rintro e w10 ⟨v', rfl, ho, hb⟩
    obtain ⟨ar, cr, rfl, hcr, hcr2, _⟩ := ho.tk
    obtain ⟨nr, hnr⟩ : ∃ nr, nr = (Trk.pk RAW).length := ⟨_, rfl⟩
    rw [← hnr] at ho hlen hcr ⊢
    replace HR := Lib.hid (HR.out.up hb)
    replace HB := Lib.hid (HB.out.trans (hb.mono HB.out.size))
    have HP := Lib.hid (ho.lower HS.out)
    clear ho hb hnr
    have r1 := HR.out.c1
    have r2 := HR.out.f1
    have r3 := HR.out.c2
    have r4 := HR.out.f2
    go_wp2_with fail
    refine leaves_cons (f := 67) (args := #[.pointer (some ⟨g1, 0, none⟩), .pointer (some ⟨g2, 0, none⟩)]) (by simp) (by simp [go_sem]) ?_
    refine (idle50 _ _ _).mono ?_
    rintro e u' w'' ⟨rfl, rfl, rfl⟩
    have hne21 : g2 ≠ g1 := hne12.symm
    simp [Leaves, settle, results, Tryz.results30, go_sem, r1, r3, hne12, hne21]
    exact ⟨(((HP.out.far (p := ⟨g1, 0, none⟩) (by show g1 < g2 + 1; omega) _).far (p := ⟨g1, 0, none⟩) (by show g1 < g2 + 1; omega) _).far (p := ⟨g2, 0, none⟩) (by show g2 < g2 + 1; omega) _).lower (by omega),
     ((HB.out.setCell (p := ⟨g1, 0, none⟩) hn1 _).setCell (p := ⟨g1, 0, none⟩) hn1 _).setCell (p := ⟨g2, 0, none⟩) hn2 _⟩
 ·have ef := findL_none (l := l) (n := a) (i := 0) HG.out (by omega)
  rw [ef]
  simp only [findV]
  have hcol : Col RAW [] (b - a) := by
   have h := HN.out
   refine ⟨?_, by simp, by omega, by omega⟩
   rw [HRAW.out, cutRaw_out HG.out (by omega) n0, ← h]
   rfl
  have HC := Lib.hid hcol
  clear ef hcol hat
  go_upto_if 46 with fail
  go_upto_region 20 with fail
  obtain ⟨acc, hacc⟩ : ∃ acc : List Trk.Clip, acc = [] := ⟨_, rfl⟩
  rw [← hacc] at HC
  have HO := Lib.hid (show OT w3 (g2 + 1) (.slice none 0 0) acc by rw [hacc]; exact OT.nil _ _)
  clear hacc
  obtain ⟨left, hleft⟩ : ∃ left, left = b - a := ⟨_, rfl⟩
  rw [← hleft] at HC ⊢
  clear hleft
  have HPK := Lib.hid (fun (l' : List Trk.Clip) v' w' (h : Tk w' v' l') (hV : Trk.VL L l') (hn : l'.length ≤ 1048576) (ht : Trk.total l' ≤ 4611686018427387904) => pack_any v' l' w' h (fun c hc => VC.okC (hV c hc) hL) hn ht)
  have hlf := HC.out.l
  have hlm := HC.out.m
  have han := HC.out.n
  have hrt : Trk.total RAW ≤ 2147483647 := by have := HRT.out; omega
  have hrn : RAW.length ≤ 65 := by have := HRL.out; omega
  have HRB := Lib.hid (And.intro hrt hrn)
  clear hrt hrn
  have hne12 : g1 ≠ g2 := by omega
  by_cases hlp : 0 < left
  ·go_upto_region 21 with fail
   apply wp_region_lit
   iterate 6 go_step
   iterate 3 go_step
   refine Great.wpList_buildSliceTo rfl 22 48 1 #[(0, .tmp 87)] rfl _ rfl _ rfl Tryz.underlying22 (clipC (Trk.gap left)).toArray ?_ ?_
   ·simp only [List.map_toArray, List.map_cons, List.map_nil, List.toList_toArray]
    exact built_clip (Trk.gap left)
   obtain ⟨WW, hWW⟩ : ∃ W : World, W = w3 := ⟨_, rfl⟩
   rw [← hWW] at HR HO HB HS ⊢
   clear hWW
   have hb : Below WW.heap.size WW (WW.alloc (.cells (clipC (Trk.gap left)).toArray 48)) := below_box _ _
   have hbx : CA (WW.alloc (.cells (clipC (Trk.gap left)).toArray 48)) WW.heap.size 0 (Trk.gap left) := CA.box WW (Trk.gap left) 48
   replace HR := Lib.hid (HR.out.up hb)
   replace HO := Lib.hid (HO.out.below hb)
   replace HB := Lib.hid (HB.out.trans (hb.mono HB.out.size))
   replace HS := Lib.hid (Nat.le_trans HS.out hb.size)
   clear hb
   simp only [Act.put, List.setIfInBounds_toArray, List.set_cons_succ, List.set_cons_zero]
   refine wpList_appT 22 Tryz.underlying22 _ rfl (.tmp 85) (.tmp 88) rfl rfl (g2 + 1) (.slice none 0 0) acc rfl HO.out HS.out WW.heap.size 1 (Trk.gap left) rfl hbx han ?_
   intro v9 w9 q1 q2 q3 q4
   simp only [Act.put, List.setIfInBounds_toArray, List.set_cons_succ, List.set_cons_zero]
   replace HO := Lib.hid q1
   replace HR := Lib.hid (HR.out.below q2 (by omega) (by omega))
   replace HB := Lib.hid (HB.out.trans (q2.mono (by omega)))
   replace HS := Lib.hid (Nat.le_trans HS.out q4)
   clear q1 q2 q3 q4 hbx
   have HE := Lib.hid (show RAW = acc ++ [Trk.gap left] by have h := HC.out.e; rw [if_pos hlp] at h; exact h)
   go_wp2_with fail
   refine (HPK.out RAW _ _ (by rw [HE.out]; exact HO.out.tk) HRV.out (by have := HRB.out; omega) (by have := HRB.out; omega)).mono ?_
   rintro e w10 ⟨v', rfl, ho, hb⟩
   obtain ⟨ar, cr, rfl, hcr, hcr2, _⟩ := ho.tk
   obtain ⟨nr, hnr⟩ : ∃ nr, nr = (Trk.pk RAW).length := ⟨_, rfl⟩
   rw [← hnr] at ho hlen hcr ⊢
   replace HR := Lib.hid (HR.out.up hb)
   replace HB := Lib.hid (HB.out.trans (hb.mono HB.out.size))
   have HP := Lib.hid (ho.lower HS.out)
   clear ho hb hnr
   have r1 := HR.out.c1
   have r2 := HR.out.f1
   have r3 := HR.out.c2
   have r4 := HR.out.f2
   go_wp2_with fail
   refine leaves_cons (f := 67) (args := #[.pointer (some ⟨g1, 0, none⟩), .pointer (some ⟨g2, 0, none⟩)]) (by simp) (by simp [go_sem]) ?_
   refine (idle50 _ _ _).mono ?_
   rintro e u' w'' ⟨rfl, rfl, rfl⟩
   have hne21 : g2 ≠ g1 := hne12.symm
   simp [Leaves, settle, results, Tryz.results30, go_sem, r1, r3, hne12, hne21]
   exact ⟨(((HP.out.far (p := ⟨g1, 0, none⟩) (by show g1 < g2 + 1; omega) _).far (p := ⟨g1, 0, none⟩) (by show g1 < g2 + 1; omega) _).far (p := ⟨g2, 0, none⟩) (by show g2 < g2 + 1; omega) _).lower (by omega),
    ((HB.out.setCell (p := ⟨g1, 0, none⟩) hn1 _).setCell (p := ⟨g1, 0, none⟩) hn1 _).setCell (p := ⟨g2, 0, none⟩) hn2 _⟩
  ·have HE := Lib.hid (show RAW = acc by have h := HC.out.e; rw [if_neg hlp, List.append_nil] at h; exact h)
   go_wp2_with fail
   refine (HPK.out RAW _ _ (by rw [HE.out]; exact HO.out.tk) HRV.out (by have := HRB.out; omega) (by have := HRB.out; omega)).mono ?_
   rintro e w10 ⟨v', rfl, ho, hb⟩
   obtain ⟨ar, cr, rfl, hcr, hcr2, _⟩ := ho.tk
   obtain ⟨nr, hnr⟩ : ∃ nr, nr = (Trk.pk RAW).length := ⟨_, rfl⟩
   rw [← hnr] at ho hlen hcr ⊢
   replace HR := Lib.hid (HR.out.up hb)
   replace HB := Lib.hid (HB.out.trans (hb.mono HB.out.size))
   have HP := Lib.hid (ho.lower HS.out)
   clear ho hb hnr
   have r1 := HR.out.c1
   have r2 := HR.out.f1
   have r3 := HR.out.c2
   have r4 := HR.out.f2
   go_wp2_with fail
   refine leaves_cons (f := 67) (args := #[.pointer (some ⟨g1, 0, none⟩), .pointer (some ⟨g2, 0, none⟩)]) (by simp) (by simp [go_sem]) ?_
   refine (idle50 _ _ _).mono ?_
   rintro e u' w'' ⟨rfl, rfl, rfl⟩
   have hne21 : g2 ≠ g1 := hne12.symm
   simp [Leaves, settle, results, Tryz.results30, go_sem, r1, r3, hne12, hne21]
   exact ⟨(((HP.out.far (p := ⟨g1, 0, none⟩) (by show g1 < g2 + 1; omega) _).far (p := ⟨g1, 0, none⟩) (by show g1 < g2 + 1; omega) _).far (p := ⟨g2, 0, none⟩) (by show g2 < g2 + 1; omega) _).lower (by omega),
    ((HB.out.setCell (p := ⟨g1, 0, none⟩) hn1 _).setCell (p := ⟨g1, 0, none⟩) hn1 _).setCell (p := ⟨g2, 0, none⟩) hn2 _⟩
set_option maxRecDepth 100000 in
set_option maxHeartbeats 16000000 in
theorem sameclip_self (c : Trk.Clip) (w : World) : Calls Tryz.prog 59 #[clipV c, clipV c] w fun e w' => e = .returned (.bool true) ∧ Below w.heap.size w w' := by
 unfold clipV
 obtain ⟨C, hC⟩ : ∃ C, C = (clipC c).toArray := ⟨_, rfl⟩
 rw [← hC]
 have HCC := Lib.hid hC
 clear hC
 have hqa := fun w => run_eq_src c.a c.a w
 have hqb := fun w => run_eq_src c.b c.b w
 simp only [decide_true] at hqa hqb
 go_enter Tryz.func59, Tryz.ntmps59
 go_upto_region 1 with fail
 obtain ⟨w1, hw1⟩ : ∃ x, x = (w.alloc (.cells C 48)).alloc (.cells C 48) := ⟨_, rfl⟩
 rw [← hw1]
 rw [HCC.out] at hw1
 obtain ⟨hx, hy, hb1⟩ := box2_facts hw1
 obtain ⟨g1, hg1⟩ : ∃ g, g = w.heap.size := ⟨_, rfl⟩
 obtain ⟨g2, hg2⟩ : ∃ g, g = w.heap.size + 1 := ⟨_, rfl⟩
 rw [← hg2] at hy ⊢
 rw [← hg1] at hx ⊢
 have HB := Lib.hid hb1
 clear hw1 hb1 hg1 hg2
 obtain ⟨x0, x1, x2, x3, x4, x5, x6, x7, x8, x9, x10, x11, x12, x13, x14, x15, x16, x17, x18, x19, x20, x21⟩ := hx.at0
 obtain ⟨y0, y1, y2, y3, y4, y5, y6, y7, y8, y9, y10, y11, y12, y13, y14, y15, y16, y17, y18, y19, y20, y21⟩ := hy.at0
 clear hx hy
 go_wp2_with fail
 go_loop [5] (fun i => i = .int .i64 0) (fun _ => 0)
 case atStart => rfl
 case round =>
  subst hrel
  go_wp2_with fail
  go_ret
  exact ⟨rfl, HB.out⟩
set_option maxRecDepth 100000 in
set_option maxHeartbeats 8000000 in
theorem equal_self (v u : Value) (l : List Trk.Clip) (w : World) (h : Tk w v l) (h' : Tk w u l) :
  Calls Tryz.prog 19 #[v, u] w fun e w' => e = .returned (.bool true) ∧ Below w.heap.size w w' := by
 obtain ⟨ao, cap, rfl, hc1, hc2, hT⟩ := h
 obtain ⟨bo, dap, rfl, hd1, hd2, hU⟩ := h'
 have HT := Lib.hid (show Tk w (.slice ao l.length cap) l from ⟨ao, cap, rfl, hc1, hc2, hT⟩)
 have HU := Lib.hid (show Tk w (.slice bo l.length dap) l from ⟨bo, dap, rfl, hd1, hd2, hU⟩)
 clear hT hU
 obtain ⟨N, hN⟩ : ∃ N, N = l.length := ⟨_, rfl⟩
 rw [← hN] at hc1 hd1
 have hNm : N ≤ 9223372036854775807 := Nat.le_trans hc1 (by unfold maxLen at hc2; omega)
 have HLe := Lib.hid hN
 rw [← hN]
 clear hN hc2 hd2
 go_enter Tryz.func19, Tryz.ntmps19
 go_wp2_with fail
 go_loopw [5] (fun v5 wr => ∃ k : Nat, k ≤ N ∧ v5 = .int .i64 (k : Int) ∧ Below w.heap.size w wr) (fun i _ => N - (intOf i).toNat)
 case atStart => exact ⟨0, Nat.zero_le _, rfl, Below.refl _ _⟩
 case round =>
  obtain ⟨k, hk, rfl, hb⟩ := hrel
  by_cases hlt : k < N
  ·have hlt' : (k : Int) < (N : Int) := by omega
   have hkl : k < l.length := by rw [← HLe.out]; exact hlt
   obtain ⟨c, hc⟩ : ∃ c, l[k]? = some c := ⟨_, List.getElem?_eq_getElem hkl⟩
   obtain ⟨ao', cap', e, _, _, hT⟩ := HT.out.below hb
   simp only [Value.slice.injEq, true_and] at e
   obtain ⟨rfl, rfl⟩ := e
   obtain ⟨b, o, rfl, hA⟩ := hT k c hc
   obtain ⟨bo', dap', e, _, _, hU⟩ := HU.out.below hb
   simp only [Value.slice.injEq, true_and] at e
   obtain ⟨rfl, rfl⟩ := e
   obtain ⟨b2, o2, rfl, hA2⟩ := hU k c hc
   have HA := Lib.hid hA
   have HA2 := Lib.hid hA2
   have HB := Lib.hid hb
   have HSC := Lib.hid (fun w => sameclip_self c w)
   unfold clipV at HSC
   clear hT hU hA hA2 hb hc hkl
   go_upto_region 6 with fail
   refine Plan.wp_region_plan (fun w' => CA w' b (o + k * 22) c ∧ CA w' b2 (o2 + k * 22) c) (([0, 1, 2, 3, 4, 5, 6, 7].map (·, true)) ++ (([8].map (·, false)) ++ ([9].map (·, true)))) (by kernel_rfl) (by kernel_rfl) (by kernel_rfl) ⟨HA.out.below (Below.refl _ _).drew, HA2.out.below (Below.refl _ _).drew⟩ ?_
   refine' Plan.plan_seg _ [0, 1, 2, 3, 4, 5, 6, 7] (([8].map (·, false)) ++ ([9].map (·, true))) (by kernel_rfl) (by kernel_rfl) rfl (by exact ⟨HA.out.below (Below.refl _ _).drew, HA2.out.below (Below.refl _ _).drew⟩) (fun wx hS => ?_) ?_
   rotate_left
   ·obtain ⟨S1, S2⟩ := hS
    have HS1 := Lib.hid S1
    have HS2 := Lib.hid S2
    clear S1 S2
    go_light
    iterate 3 (apply Plan.seg_pick; rfl; intro K hK; go_wp)
    (apply Plan.seg_pick; rfl; intro K hK)
    refine wpl_load HS1.out rfl rfl rfl ?_
    go_wp
    iterate 3 (apply Plan.seg_pick; rfl; intro K hK; go_wp)
    (apply Plan.seg_pick; rfl; intro K hK)
    refine wpl_load HS2.out rfl rfl rfl ?_
    go_wp
    exact Plan.seg_nil
   obtain ⟨w4, hw4⟩ : ∃ x, x = wr.drew := ⟨_, rfl⟩
   rw [← hw4]
   have hb : Below wr.heap.size wr w4 := by rw [hw4]; exact (Below.refl _ _).drew
   replace HA := Lib.hid (HA.out.below hb)
   replace HA2 := Lib.hid (HA2.out.below hb)
   replace HB := Lib.hid (HB.out.trans (hb.mono HB.out.size))
   clear hb hw4
   refine Plan.plan_of_effect rfl (fun K hK => ?_)
   go_wp2_with fail
   refine (HSC.out _).mono ?_
   rintro e w5 ⟨rfl, hb⟩
   replace HA := Lib.hid (HA.out.below hb)
   replace HA2 := Lib.hid (HA2.out.below hb)
   replace HB := Lib.hid (HB.out.trans (hb.mono HB.out.size))
   clear hb
   go_wp2_with fail
   refine ⟨⟨HA.out, HA2.out⟩, ?_⟩
   refine' Plan.plan_seg _ [9] [] (by kernel_rfl) (by kernel_rfl) rfl (by exact ⟨HA.out, HA2.out⟩) (fun wx hS => ?_) ?_
   rotate_left
   ·clear hS
    go_light
    iterate 1 (apply Plan.seg_pick; rfl; intro K hK; go_wp)
    exact Plan.seg_nil
   refine Plan.plan_done ?_
   go_wp2_with fail
   go_roundw
   case rel => exact ⟨k + 1, by omega, by simp, HB.out⟩
   case measure =>
    show N - (intOf (.int .i64 ((k : Int) + 1))).toNat < N - (intOf (.int .i64 (k : Int))).toNat
    simp [intOf]
    omega
  ·have hkl : k = N := by omega
   have HB := Lib.hid hb
   clear hb
   subst hkl
   go_wp2_with fail
   go_ret
   exact ⟨rfl, HB.out⟩
theorem Tk.cell {w : World} {b o k cap : Nat} {l : List Trk.Clip} (h : Tk w (.slice (some ⟨b, o, none⟩) k cap) l) {j : Nat} {u : Value} (hu : (cells l)[j]? = some u) : w.cell? ((⟨b, o, none⟩ : Addr).add j) = some u := by
 obtain ⟨ao, c, e, h1, h2, h3⟩ := h
 simp only [Value.slice.injEq] at e
 obtain ⟨e1, _, _⟩ := e
 have hj : j < l.length * 22 := by rw [← cells_length]; exact (List.getElem?_eq_some_iff.1 hu).1
 have hi : j / 22 < l.length := by omega
 obtain ⟨c, hc⟩ : ∃ c, l[j / 22]? = some c := ⟨_, List.getElem?_eq_getElem hi⟩
 obtain ⟨b', o', e', hA⟩ := h3 _ c hc
 rw [← e1] at e'
 simp only [Option.some.injEq, Addr.mk.injEq, and_true] at e'
 obtain ⟨rfl, rfl⟩ := e'
 have hm : j % 22 < 22 := Nat.mod_lt _ (by decide)
 have hg := cells_get hc hm
 rw [show j / 22 * 22 + j % 22 = j by omega, hu] at hg
 rw [Addr.add_mid, show o + j = o + j / 22 * 22 + j % 22 by omega]
 exact hA.get _ _ hg.symm
theorem append_same (T1 T2 ty : TypeId) (h1 : Tryz.prog.underlying T1 = some (.slice 48)) (h2 : Tryz.prog.underlying T2 = some (.slice 48)) (base : Option Addr) (n c : Nat) (u : Value) (w : World) :
  (Builtin.append_ #[T1, T2] ty #[.slice base n c, u]).run Tryz.prog w = (Builtin.append_ #[23, 23] 23 #[.slice base n c, u]).run Tryz.prog w := by
 simp [Builtin.append_, run_underlying h1, run_underlying h2, run_underlying Tryz.underlying23]
theorem run_appM (w : World) (B : Nat) (v u : Value) (l m : List Trk.Clip) (h : OT w B v l) (hB : B ≤ w.heap.size) (hm : Tk w u m) (hl : l.length + m.length ≤ 1048576) :
  ∃ v' w', (Builtin.append_ #[23, 23] 23 #[v, u]).run Tryz.prog w = .ok v' w' ∧ OT w' B v' (l ++ m) ∧ Below B w w' ∧ (∀ b, b < w.heap.size → (∀ g cap, v = .slice (some ⟨g, 0, none⟩) l.length cap → b ≠ g) → w'.heap[b]? = w.heap[b]?) ∧ w.heap.size ≤ w'.heap.size := by
 obtain ⟨i0, hi, hz0, hz1, hz2⟩ := info_parts info53
 cases m with
 | nil =>
  obtain ⟨ao, c, rfl, _⟩ := hm
  rw [List.append_nil]
  refine ⟨v, w, ?_, h, Below.refl _ _, fun _ _ _ => rfl, Nat.le_refl _⟩
  have hf : ∀ w : World, (Builtin.firstCells i0.size 0 (.slice ao 0 c)).run Tryz.prog w = .ok #[] w := by
   intro w
   cases ao with
   | none => simp [Builtin.firstCells]
   | some a => simp [Builtin.firstCells, loadCells, loadCellsFrom]
  obtain ⟨rfl, rfl⟩ | ⟨g, cap, rfl⟩ := h.shape
  ·simp [Builtin.append_, run_underlying Tryz.underlying23, sizeOf, typeInfo, hi, Builtin.lenOf, hf]
  ·have hk : l.length ≤ cap := by
    obtain ⟨ao', c', e, h1, _⟩ := h.tk
    simp only [Value.slice.injEq] at e
    omega
   simp [Builtin.append_, run_underlying Tryz.underlying23, sizeOf, typeInfo, hi, Builtin.lenOf, hf, hk, storeCells]
 | cons d m =>
  obtain ⟨ao, c, rfl, h1, h2, h3⟩ := hm
  obtain ⟨b, o, rfl, _⟩ := h3 0 d rfl
  have hT : Tk w (.slice (some ⟨b, o, none⟩) (d :: m).length c) (d :: m) := ⟨_, c, rfl, h1, h2, h3⟩
  obtain ⟨v', w', hrun, r1, r2, r3, r4, r5⟩ := append_x w B 23 48 22 216 zClip Tryz.underlying23 info53 zeros53 v l.length (cells l) h hB ⟨b, o, none⟩ (d :: m).length c (cells (d :: m)) (cells_length _) (fun j u hu => hT.cell hu)
   (fun u hu => by
    obtain ⟨x, _, hx⟩ := List.mem_flatMap.1 hu
    exact clip_one x u hx) (by simp) (by unfold maxLen; omega) (fun cap h1 h2 => growslice_fits h2 (by omega))
  refine ⟨v', w', hrun, ?_, r2, r4, r5⟩
  show RowX w' B 48 22 v' (l ++ d :: m).length (cells (l ++ d :: m))
  rw [cells_append, List.length_append]
  exact r1
theorem wpList_appM (w : World) {ops : Array Oper} {rest : List Oper} {op : Oper} {a : Act} {Q : Exit → Act → World → Prop} (T1 T2 : TypeId) (h1 : Tryz.prog.underlying T1 = some (.slice 48)) (h2 : Tryz.prog.underlying T2 = some (.slice 48)) (hg : op.guard = none) (s x : Operand)
  (hop : op.op = .call { callee := .builtin .append, args := #[s, x], argTypes := #[T1, T2] }) (B : Nat) (v u : Value) (l m : List Trk.Clip) (hs : a.eval s = v) (hx : a.eval x = u) (h : OT w B v l) (hB : B ≤ w.heap.size) (hm : Tk w u m) (hl : l.length + m.length ≤ 1048576)
  (hK : ∀ v' w', OT w' B v' (l ++ m) → Below B w w' → (∀ b, b < w.heap.size → (∀ g cap, v = .slice (some ⟨g, 0, none⟩) l.length cap → b ≠ g) → w'.heap[b]? = w.heap[b]?) → w.heap.size ≤ w'.heap.size → wpList Tryz.prog ops Q rest (a.put op.dst v') w') : wpList Tryz.prog ops Q (op :: rest) a w := by
 refine wpList_plain hg fun K hK' => ?_
 obtain ⟨v', w', hrun, r2, r3, r4, r5⟩ := run_appM w B v u l m h hB hm hl
 obtain ⟨ao, ca, e, _⟩ := h.tk
 have hrun' : (Builtin.append_ #[T1, T2] op.type #[v, u]).run Tryz.prog w = .ok v' w' := by
  rw [e] at hrun ⊢
  exact (append_same T1 T2 op.type h1 h2 ao l.length ca u w).trans hrun
 unfold Oper.wp
 simp [execOp, hop, resolve, invoke, builtin, hs, hx, hrun', Result.andThen]
 exact hK' _ _ (hK v' w' r2 r3 r4 r5)
theorem OT.box (w : World) (c : Trk.Clip) : OT (w.alloc (.cells (clipC c).toArray 48)) w.heap.size (.slice (some ⟨w.heap.size, 0, none⟩) 1 1) [c] := by
 have hh := (MapKept.heap_alloc w (.cells (clipC c).toArray 48)).1
 refine Or.inr ⟨w.heap.size, 1, _, rfl, Nat.le_refl _, hh, Nat.le_refl _, by unfold maxLen; omega, by simp [clipC_length], ?_, by rw [cells_length]⟩
 simp only [List.length_cons, List.length_nil, Nat.zero_add, Nat.one_mul, cells_one]
 exact List.take_of_length_le (by simp [clipC_length])
set_option maxRecDepth 100000 in
set_option maxHeartbeats 4000000 in
theorem gap_any (n : Int) (w : World) : Calls Tryz.prog 124 #[.int .i64 n] w (OTPost w (if 0 < n then [Trk.gap n] else [])) := by
 by_cases hn : 0 < n
 ·rw [if_pos hn]
  go_enter Tryz.func124, Tryz.ntmps124
  go_upto_region 3 with fail
  apply wp_region_lit
  iterate 3 go_step
  iterate 3 go_step
  refine Great.wpList_buildSliceTo rfl 22 48 1 #[(0, .tmp 6)] rfl _ rfl _ rfl Tryz.underlying22 (clipC (Trk.gap n)).toArray ?_ ?_
  ·simp only [List.map_toArray, List.map_cons, List.map_nil, List.toList_toArray]
   exact built_clip (Trk.gap n)
  have HO := Lib.hid (OT.box w (Trk.gap n))
  have hb := Lib.hid (below_box w (.cells (clipC (Trk.gap n)).toArray 48))
  obtain ⟨w1, hw1⟩ : ∃ x, x = w.alloc (.cells (clipC (Trk.gap n)).toArray 48) := ⟨_, rfl⟩
  rw [← hw1] at HO hb ⊢
  clear hw1
  simp only [Act.put, List.setIfInBounds_toArray, List.set_cons_succ, List.set_cons_zero]
  go_wp2_with fail
  go_ret
  exact ⟨_, rfl, HO.out, hb.out⟩
 ·rw [if_neg hn]
  go_enter Tryz.func124, Tryz.ntmps124
  go_wp2_with fail
  go_ret
  exact ⟨_, rfl, OT.nil _ _, Below.refl _ _⟩
theorem OT.room (w : World) (B g cap : Nat) (cur : Array Value) (hB : B ≤ g) (hg : w.heap[g]? = some (.cells cur 48 (0, 0))) (hs : cur.size = cap * 22) (hc : cap ≤ maxLen) : OT w B (.slice (some ⟨g, 0, none⟩) 0 cap) [] :=
 Or.inr ⟨g, cap, cur, rfl, hB, hg, Nat.zero_le _, hc, hs, by simp [cells], by simp [cells]⟩
set_option maxRecDepth 100000 in
set_option maxHeartbeats 4000000 in
theorem grow_nil (n : Nat) (w : World) (hn : n ≤ 1048576) : Calls Tryz.prog 113 #[.slice none 0 0, .int .i64 (n : Int)] w (OTPost w []) := by
 by_cases h0 : 0 < n
 ·obtain ⟨i0, hi, hz0, hz1, hz2⟩ := info_parts info53
  have hrun := Lib.run_append_nil_zeros (P := Tryz.prog) w 23 3 23 48 i0 zClip .i64 .i64 Tryz.underlying23 Tryz.underlying3 hi hz0 n h0 (by omega) (by omega) (by rw [hz2]; omega)
  have hcap : n ≤ grownCap w n 0 48 := grownCap_ge w n 0 48
  have hcm := grownCap_le_maxLen w n 0 48 (by unfold maxLen; omega)
  have HRUN := Lib.hid hrun
  have hn' : (0 : Int) < (n : Int) := by omega
  clear hrun hi hz0 hz1 hz2
  go_enter Tryz.func113, Tryz.ntmps113
  go_upto_region 5 with fail
  apply wp_region_lit
  iterate 15 go_step
  refine Lib.wpList_append_run (P := Tryz.prog) w rfl (.tmp 20) (.tmp 21) 23 3 rfl (.slice none 0 0) (.int .i64 (n : Int)) rfl rfl _ _ HRUN.out ?_
  obtain ⟨w1, hw1⟩ : ∃ x, x = w.drew.alloc (.cells (Builtin.zeroCells zClip.cells n ++ Builtin.zeroCells zClip.cells (grownCap w n 0 48 - n)) 48) := ⟨_, rfl⟩
  rw [← hw1]
  have hb : Below w.heap.size w w1 := by rw [hw1]; exact ((Below.refl _ w).drew).alloc (by simp) _
  have ho : OT w1 w.heap.size (.slice (some ⟨w.heap.size, 0, none⟩) 0 (grownCap w n 0 48)) [] := by
   rw [hw1]
   refine OT.room _ _ _ _ _ (Nat.le_refl _) (MapKept.heap_alloc w.drew _).1 ?_ hcm
   rw [Array.size_append, zeros53, zeros53, ← Nat.add_mul, Nat.add_sub_cancel' hcap]
  have HO := Lib.hid (And.intro ho hb)
  obtain ⟨C, hC⟩ : ∃ C, C = grownCap w n 0 48 := ⟨_, rfl⟩
  rw [← hC] at HO hcap ⊢
  obtain ⟨g, hg⟩ : ∃ g, g = w.heap.size := ⟨_, rfl⟩
  rw [← hg] at HO ⊢
  have HGG := Lib.hid hg
  clear hw1 hb ho hC hcm HRUN hg
  simp only [Act.put, List.setIfInBounds_toArray, List.set_cons_succ, List.set_cons_zero]
  go_wp2_with fail
  go_ret
  unfold OTPost
  rw [← HGG.out]
  exact ⟨_, rfl, HO.out.1, HO.out.2⟩
 ·obtain rfl : n = 0 := by omega
  go_enter Tryz.func113, Tryz.ntmps113
  go_wp2_with fail
  go_ret
  exact ⟨_, rfl, OT.nil _ _, Below.refl _ _⟩
theorem OTPost.tk {w w' : World} {l : List Trk.Clip} {e : Ending} (h : OTPost w l e w') : ∃ v', e = .returned v' ∧ Tk w' v' l ∧ Below w.heap.size w w' := by
 obtain ⟨v', e, ho, hb⟩ := h
 exact ⟨v', e, ho.tk, hb⟩
set_option maxRecDepth 100000 in
set_option maxHeartbeats 8000000 in
theorem concat_two (b o c : Nat) (v1 v2 : Value) (l1 l2 : List Trk.Clip) (w : World) (c1 : w.cell? ⟨b, o, none⟩ = some v1) (c2 : w.cell? ⟨b, o + 1, none⟩ = some v2) (h1 : Tk w v1 l1) (h2 : Tk w v2 l2) (hc : 2 ≤ c) (hl : l1.length + l2.length ≤ 1048576) :
  Calls Tryz.prog 73 #[.slice (some ⟨b, o, none⟩) 2 c] w (OTPost w (l1 ++ l2)) := by
 have HT1 := Lib.hid h1
 have HT2 := Lib.hid h2
 obtain ⟨a1, k1, rfl, _⟩ := h1
 obtain ⟨a2, k2, rfl, _⟩ := h2
 have HG := Lib.hid (fun w => grow_nil (l1.length + l2.length) w hl)
 rw [Int.natCast_add] at HG
 obtain ⟨n1, e1⟩ : ∃ n, n = l1.length := ⟨_, rfl⟩
 obtain ⟨n2, e2⟩ : ∃ n, n = l2.length := ⟨_, rfl⟩
 rw [← e1, ← e2] at hl HG
 rw [← e1] at c1 HT1
 rw [← e2] at c2 HT2
 have HL := Lib.hid (And.intro e1 e2)
 have HC := Lib.hid (And.intro c1 c2)
 clear e1 e2
 go_enter Tryz.func73, Tryz.ntmps73
 go_wp2_with fail
 go_loop [3, 11] (fun v3 v11 => (v11 = .int .i64 0 ∧ v3 = .int .i64 0) ∨ (v11 = .int .i64 1 ∧ v3 = .int .i64 (n1 : Int)) ∨ (v11 = .int .i64 2 ∧ v3 = .int .i64 ((n1 : Int) + (n2 : Int)))) (fun _ i => 2 - (intOf i).toNat)
 case atStart => exact .inl ⟨rfl, rfl⟩
 case round =>
  have hs : (n1 : Int) + (n2 : Int) ≤ 1048576 := by omega
  have hs1 : (n1 : Int) ≤ 1048576 := by omega
  rcases hrel with ⟨rfl, rfl⟩ | ⟨rfl, rfl⟩ | ⟨rfl, rfl⟩
  ·go_wp2_with fail
   exact ⟨.inr (.inl ⟨rfl, by simp⟩), by simp [intOf]⟩
  ·go_wp2_with fail
   exact ⟨.inr (.inr ⟨rfl, rfl⟩), by simp [intOf]⟩
  ·go_wp2_with fail
   refine (HG.out _).mono ?_
   rintro e w1 ⟨v', rfl, ho, hb⟩
   have HO := Lib.hid ho
   have HB := Lib.hid hb
   clear c1 c2 ho hb
   go_wp2_with fail
   go_loopw [6, 27] (fun v6 v27 wr => ((v27 = .int .i64 0 ∧ OT wr w.heap.size v6 []) ∨ (v27 = .int .i64 1 ∧ OT wr w.heap.size v6 l1) ∨ (v27 = .int .i64 2 ∧ OT wr w.heap.size v6 (l1 ++ l2))) ∧ Below w.heap.size w wr ∧ w.heap.size ≤ wr.heap.size) (fun _ i _ => 2 - (intOf i).toNat)
   case atStart => exact ⟨.inl ⟨rfl, HO.out⟩, HB.out, HB.out.size⟩
   case round =>
    clear HO HB
    obtain ⟨hrel, hb, hsz⟩ := hrel
    rcases hrel with ⟨rfl, ho⟩ | ⟨rfl, ho⟩ | ⟨rfl, ho⟩
    ·replace HT1 := Lib.hid (HT1.out.below hb)
     have d1 := (hb.cell (block_lt_of_cell HC.out.1)).trans HC.out.1
     have HO := Lib.hid ho
     have HB := Lib.hid hb
     have HS := Lib.hid hsz
     clear ho hb hsz
     go_upto_region 13 with fail
     apply wp_region_lit
     iterate 6 go_step
     refine wpList_appM _ 23 23 Tryz.underlying23 Tryz.underlying23 rfl (.tmp 31) (.tmp 32) rfl w.heap.size u6 _ [] l1 rfl rfl HO.out HS.out HT1.out (by have := HL.out; simp only [List.length_nil]; omega) ?_
     intro v9 w9 q1 q2 q3 q4
     simp only [Act.put, List.setIfInBounds_toArray, List.set_cons_succ, List.set_cons_zero]
     have HQ := Lib.hid q1
     have HB9 := Lib.hid (HB.out.trans q2)
     have HS9 := Lib.hid (Nat.le_trans HS.out q4)
     clear q1 q2 q3 q4
     go_wp2_with fail
     exact ⟨⟨.inr (.inl ⟨rfl, HQ.out⟩), HB9.out, HS9.out⟩, by simp [intOf]⟩
    ·replace HT2 := Lib.hid (HT2.out.below hb)
     have d2 := (hb.cell (block_lt_of_cell HC.out.2)).trans HC.out.2
     have HO := Lib.hid ho
     have HB := Lib.hid hb
     have HS := Lib.hid hsz
     clear ho hb hsz
     go_upto_region 13 with fail
     apply wp_region_lit
     iterate 6 go_step
     refine wpList_appM _ 23 23 Tryz.underlying23 Tryz.underlying23 rfl (.tmp 31) (.tmp 32) rfl w.heap.size u6 _ l1 l2 rfl rfl HO.out HS.out HT2.out (by have := HL.out; omega) ?_
     intro v9 w9 q1 q2 q3 q4
     simp only [Act.put, List.setIfInBounds_toArray, List.set_cons_succ, List.set_cons_zero]
     have HQ := Lib.hid q1
     have HB9 := Lib.hid (HB.out.trans q2)
     have HS9 := Lib.hid (Nat.le_trans HS.out q4)
     clear q1 q2 q3 q4
     go_wp2_with fail
     exact ⟨⟨.inr (.inr ⟨rfl, HQ.out⟩), HB9.out, HS9.out⟩, by simp [intOf]⟩
    ·have HO := Lib.hid ho
     have HB := Lib.hid hb
     clear ho hb
     go_wp2_with fail
     go_ret
     exact ⟨_, rfl, HO.out, HB.out⟩
set_option maxRecDepth 100000 in
set_option maxHeartbeats 8000000 in
theorem clonel_any (v : Value) (l : List Trk.Clip) (w : World) (h : Tk w v l) (hl : l.length ≤ 1048576) : Calls Tryz.prog 90 #[v] w (OTPost w l) := by
 have HT := Lib.hid h
 obtain ⟨ao, cap, rfl, h1, h2, h3⟩ := h
 have hnil := fun w => Go.run_eql_slice_nil (P := Tryz.prog) w 23 48 ao l.length cap Tryz.underlying23
 cases ao with
 | none =>
  have e : l = [] := by
   cases l with
   | nil => rfl
   | cons c l => obtain ⟨b, o, e, _⟩ := h3 0 c rfl; cases e
  clear h3
  subst e
  simp only [List.length_nil, Option.isNone_none] at hnil HT ⊢
  go_enter Tryz.func90, Tryz.ntmps90
  go_wp2_with fail
  go_ret
  exact ⟨_, rfl, OT.nil _ _, Below.refl _ _⟩
 | some a =>
  clear h3
  simp only [Option.isNone_some] at hnil
  go_enter Tryz.func90, Tryz.ntmps90
  go_upto_region 3 with fail
  apply wp_region_lit
  iterate 3 go_step
  have hb := below_box w (.cells #[] 48)
  have hbo : OT (w.alloc (.cells #[] 48)) w.heap.size (.slice (some ⟨w.heap.size, 0, none⟩) 0 0) [] := OT.room _ _ _ _ _ (Nat.le_refl _) (MapKept.heap_alloc w _).1 (by simp) (by unfold maxLen; omega)
  obtain ⟨w1, hw1⟩ : ∃ x, x = w.alloc (.cells #[] 48) := ⟨_, rfl⟩
  rw [← hw1] at hb hbo ⊢
  replace HT := Lib.hid (HT.out.below hb)
  have HO := Lib.hid hbo
  have HB := Lib.hid hb
  clear hb hbo hw1 hnil
  iterate 3 go_step
  refine wpList_appM _ 23 23 Tryz.underlying23 Tryz.underlying23 rfl (.tmp 5) (.tmp 6) rfl w.heap.size (.slice (some ⟨w.heap.size, 0, none⟩) 0 0) _ [] l rfl rfl HO.out HB.out.size HT.out (by simpa using hl) ?_
  intro v9 w9 q1 q2 q3 q4
  simp only [Act.put, List.setIfInBounds_toArray, List.set_cons_succ, List.set_cons_zero]
  have HQ := Lib.hid (And.intro q1 (HB.out.trans q2))
  clear q1 q2 q3 q4
  go_wp2_with fail
  go_ret
  exact ⟨_, rfl, HQ.out.1, HQ.out.2⟩
set_option maxRecDepth 100000 in
set_option maxHeartbeats 8000000 in
theorem rest_any {L : Int} (v : Value) (l : List Trk.Clip) (a : Int) (w : World) (h : Tk w v l) (hV : VT L l) (hL : L ≤ 140737488355328) (a0 : 0 ≤ a) (a1 : a ≤ 2147483647) (hlen : (Trk.cut l a (Trk.total l)).length ≤ 64) :
  Calls Tryz.prog 123 #[v, .int .i64 a] w fun e w' => ∃ v', e = .returned (.tuple #[v', .int .i64 0]) ∧ OT w' w.heap.size v' (if a < Trk.total l then Trk.cut l a (Trk.total l) else []) ∧ Below w.heap.size w w' := by
 have HT := Lib.hid h
 have H1 := Lib.hid (fun w (h : Tk w v l) => etotal_any v l w h hV.v.good (by have := hV.t; omega) (by have := hV.n; omega))
 have H2 := Lib.hid (fun w (h : Tk w v l) (hlt : a < Trk.total l) => cut_any v l a (Trk.total l) w h hV hL a0 (by omega) hV.t hlen)
 unfold CutPost at H2
 obtain ⟨T, hT⟩ : ∃ T, T = Trk.total l := ⟨_, rfl⟩
 rw [← hT] at H1 H2 ⊢
 clear h hV hT hlen
 by_cases hlt : a < T
 ·rw [if_pos hlt]
  go_enter Tryz.func123, Tryz.ntmps123
  go_wp2_with fail
  refine (H1.out _ HT.out).mono ?_
  rintro e w1 ⟨rfl, hb⟩
  have HB := Lib.hid hb
  clear hb
  go_wp2_with fail
  refine (H2.out _ (HT.out.below HB.out) hlt).mono ?_
  rintro e w2 ⟨v', rfl, ho, hb⟩
  replace HB' := Lib.hid (HB.out.trans (hb.mono HB.out.size))
  have HO := Lib.hid (ho.lower HB.out.size)
  clear ho hb
  go_wp2_with fail
  go_ret2
  exact ⟨_, rfl, HO.out, HB'.out⟩
 ·rw [if_neg hlt]
  go_enter Tryz.func123, Tryz.ntmps123
  go_wp2_with fail
  refine (H1.out _ HT.out).mono ?_
  rintro e w1 ⟨rfl, hb⟩
  have HB := Lib.hid hb
  clear hb
  go_wp2_with fail
  go_ret2
  exact ⟨_, rfl, OT.nil _ _, HB.out⟩
theorem RowX.setCell {w : World} {B k s g cap : Nat} {E : TypeId} {xs : List Value} (h : RowX w B E s (.slice (some ⟨g, 0, none⟩) k cap) k xs) {o : Nat} (ho : o < xs.length) (u : Value) :
  RowX (w.setCell ⟨g, o, none⟩ u) B E s (.slice (some ⟨g, 0, none⟩) k cap) k (xs.set o u) := by
 rcases h with ⟨e, _⟩ | ⟨g', cap', cur, e, hB, hg, hk, hc, hs, ht, hl⟩
 ·simp at e
 ·simp only [Value.slice.injEq, Option.some.injEq, Addr.mk.injEq, and_true, true_and] at e
  obtain ⟨rfl, rfl⟩ := e
  have hh : (w.setCell ⟨g, o, none⟩ u).heap[g]? = some (.cells (cur.setIfInBounds o u) E (0, 0)) := by
   simp [World.setCell, Array.getElem?_modify, hg]
  refine Or.inr ⟨g, cap, _, rfl, hB, hh, hk, hc, by simpa using hs, ?_, by simpa using hl⟩
  rw [Array.toList_setIfInBounds, List.take_set, ht]
theorem RowX.setCells {B k s g cap : Nat} {E : TypeId} : ∀ (vs : List Value) {w : World} {xs : List Value} {o : Nat}, RowX w B E s (.slice (some ⟨g, 0, none⟩) k cap) k xs → o + vs.length ≤ xs.length →
  RowX (w.setCells g o vs) B E s (.slice (some ⟨g, 0, none⟩) k cap) k (xs.take o ++ vs ++ xs.drop (o + vs.length))
 | [], w, xs, o, h, ho => by
  simp only [World.setCells, List.append_nil, List.length_nil, Nat.add_zero, List.take_append_drop]
  exact h
 | v :: vs, w, xs, o, h, ho => by
  simp only [List.length_cons] at ho
  have h1 := h.setCell (o := o) (by omega) v
  have h2 := RowX.setCells vs (o := o + 1) h1 (by simp; omega)
  rw [World.setCells]
  have e : (xs.set o v).take (o + 1) ++ vs ++ (xs.set o v).drop (o + 1 + vs.length) = xs.take o ++ v :: vs ++ xs.drop (o + (v :: vs).length) := by
   have e1 : (xs.set o v).take (o + 1) = xs.take o ++ [v] := by
    rw [List.take_set, List.take_add_one, List.getElem?_eq_getElem (by omega), List.set_append_right _ _ (by simp; omega)]
    simp [Nat.min_eq_left (show o ≤ xs.length by omega)]
   have e2 : (xs.set o v).drop (o + 1 + vs.length) = xs.drop (o + (v :: vs).length) := by
    rw [List.drop_set, if_pos (by omega), List.length_cons]
    congr 1
    omega
   rw [e1, e2]
   simp
  rw [← e]
  exact h2
theorem OT.setLast {w : World} {B g cap k : Nat} {q : List Trk.Clip} {p : Trk.Clip} (h : OT w B (.slice (some ⟨g, 0, none⟩) k cap) (q ++ [p])) (e : Trk.Clip) :
  OT (w.setCells g (q.length * 22) (clipC e)) B (.slice (some ⟨g, 0, none⟩) k cap) (q ++ [e]) := by
 have hk := h.own.2.2.1
 subst hk
 unfold OT at h ⊢
 have hl : (q ++ [e]).length = (q ++ [p]).length := by simp
 have h2 := RowX.setCells (clipC e) (o := q.length * 22) h (by rw [cells_length, clipC_length]; simp; omega)
 have hx : (cells (q ++ [p])).take (q.length * 22) ++ clipC e ++ (cells (q ++ [p])).drop (q.length * 22 + (clipC e).length) = cells (q ++ [e]) := by
  rw [cells_append, cells_append, cells_one, cells_one, List.take_append_of_le_length (by rw [cells_length]; exact Nat.le_refl _), List.take_of_length_le (by rw [cells_length]; exact Nat.le_refl _),
   List.drop_eq_nil_of_le (by rw [List.length_append, cells_length, clipC_length, clipC_length]; exact Nat.le_refl _), List.append_nil]
 rw [hx] at h2
 rw [hl]
 exact h2
theorem OT.there {w : World} {B g cap k : Nat} {l : List Trk.Clip} (h : OT w B (.slice (some ⟨g, 0, none⟩) k cap) l) {i : Nat} (hi : i < l.length) : w.there g (i * 22) 22 := fun j hj => by
 obtain ⟨c, hc⟩ : ∃ c, l[i]? = some c := ⟨_, List.getElem?_eq_getElem hi⟩
 have hA := h.own.2.2.2 i c hc
 have hj' : j < (clipC c).length := hj
 exact ⟨by rw [hA.get j _ (List.getElem?_eq_getElem hj')]; rfl, h.frozen _⟩
theorem wpl_storeLast {ops : Array Oper} {rest : List Oper} {op : Oper} {a : Act} {w : World} {Q : Exit → Act → World → Prop} {B g cap k : Nat} {q : List Trk.Clip} {p : Trk.Clip} (e : Trk.Clip) {x y : Operand}
  (h : OT w B (.slice (some ⟨g, 0, none⟩) k cap) (q ++ [p])) (hgd : op.guard = none) (ho : op.op = .store 48 x y)
  (hx : a.eval x = .pointer (some ⟨g, q.length * 22, none⟩)) (hy : a.eval y = .agg (clipC e).toArray)
  (hK : ∀ w', OT w' B (.slice (some ⟨g, 0, none⟩) k cap) (q ++ [e]) → (∀ b2 c2, b2 ≠ g → CV w b2 c2 → CV w' b2 c2) → (∀ n w0, n ≤ g → Below n w0 w → Below n w0 w') → wpList Tryz.prog ops Q rest (a.put op.dst undef) w') : wpList Tryz.prog ops Q (op :: rest) a w :=
 wpList_store_mid hgd 48 x y ho g (q.length * 22) (clipC e).toArray hx hy (h.there (by simp)) (by kernel_rfl) (clip_oneCell e)
  (hK _ (h.setLast e) (fun b2 c2 hne h2 => h2.apart hne _ _) (fun n w0 hn hb => below_setCells g hn _ _ _ hb))
set_option maxRecDepth 100000 in
theorem built_two (p c : Trk.Clip) : Tryz.prog.builtSlice 48 2 [(0, .agg (clipC p).toArray), (1, .agg (clipC c).toArray)] = some (cells [p, c]).toArray := by kernel_rfl
theorem OT.of (w : World) (l : List Trk.Clip) (hl : l.length ≤ 1048576) : OT (w.alloc (.cells (cells l).toArray 48)) w.heap.size (.slice (some ⟨w.heap.size, 0, none⟩) l.length l.length) l := by
 have hh := (MapKept.heap_alloc w (.cells (cells l).toArray 48)).1
 refine Or.inr ⟨w.heap.size, l.length, _, rfl, Nat.le_refl _, hh, Nat.le_refl _, by unfold maxLen; omega, by simp [cells_length], ?_, cells_length l⟩
 exact List.take_of_length_le (by simp [cells_length])
theorem pk_two (p c : Trk.Clip) : Trk.pk [p, c] = if Trk.cont c p then [Trk.withLen p (p.len + c.len)] else [p, c] := by
 show Trk.snoc (Trk.snoc [] p) c = _
 unfold Trk.snoc
 simp
end Go.Proofs.YtfoohocgdcgbcaaGreat
