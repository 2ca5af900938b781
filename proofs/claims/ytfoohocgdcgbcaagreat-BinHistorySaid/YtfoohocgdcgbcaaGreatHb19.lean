/- Texts of this claim joined: OA OB OC OD. -/
import Derived.Test.YtfoohocgdcgbcaaGreatHb18
set_option linter.unusedVariables false
set_option linter.unusedSimpArgs false
namespace Go.Proofs.YtfoohocgdcgbcaaGreat
open Go.RowKit
structure EvT (L : Int) (e : Ev) : Prop where
 k : e.kind = 7 ∨ EvOK L e
 s : e.kind = 7 → e.user = ⟨#[]⟩ ∧ e.doc = ⟨#[]⟩ ∧ e.base = 0 ∧ e.t = [] ∧ 1 ≤ e.ticks ∧ e.ticks ≤ 1000
structure StOK (L now : Int) (ds : List Dc) : Prop where
 h0 : 0 ≤ now
 h1 : now ≤ 1099511627776
 l : ds.length ≤ 16
 d : ∀ d ∈ ds, DocOK L now d
 n : ∀ (k : Nat) (d : Dc), ds[k]? = some d → d.name ∉ (ds.take k).map Dc.name
def StpH (now : Int) (ds : List Dc) (e : Ev) : Int → Int → List Dc → List Rpt → Prop :=
 if e.kind = 7 then TickR now e.ticks ds else if e.kind = 1 then MakeR now e.user e.doc e.t ds else OneR now ds e.kind e.user e.doc (ChR now e)
def StepPost2 (w : World) (R : Int → Int → List Dc → List Rpt → Prop) (e : Ending) (w' : World) : Prop :=
 ∃ code now v ov ds os, e = .returned (.tuple #[.agg #[.int .i64 now, v], ov, .int .i64 code]) ∧ R code now ds os ∧ Dcs w' v ds ∧ (code = 0 → ds = [] → v = .slice none 0 0) ∧ Outs w' ov os ∧ Below w.heap.size w w'
theorem StepPost.two {w w' : World} {R S : Int → Int → List Dc → List Rpt → Prop} {e : Ending} (h : StepPost w R e w') (hi : ∀ c n ds os, R c n ds os → S c n ds os) (hn : ∀ n ds os, R 0 n ds os → ds ≠ []) : StepPost2 w S e w' := by
 obtain ⟨c, n, v, ov, ds, os, h1, h2, h3, h4, h5⟩ := h
 exact ⟨c, n, v, ov, ds, os, h1, hi _ _ _ _ h2, h3, fun hz he => absurd he (hn _ _ _ (hz ▸ h2)), h4, h5⟩
theorem ChR.name {now c : Int} {e : Ev} {d d' : Dc} (h : ChR now e d c d') : d'.name = d.name := by
 have add : ∀ (d : Dc) cur r, (addR d cur r).name = d.name := fun d cur r => by unfold addR; split <;> rfl
 have rev : ∀ {d d' : Dc} {j : Nat} {k : Int} {u : ByteArray} {c : Int}, RevertR d j k u c d' → d'.name = d.name := fun h => by cases h <;> rfl
 unfold ChR at h
 split at h
 ·cases h <;> rfl
 split at h
 ·cases h <;> rfl
 split at h
 ·cases h <;> first | rfl | exact add _ _ _
 split at h
 ·cases h with
  | locked _ => rfl
  | none _ _ => rfl
  | some _ _ _ _ _ _ _ _ hr => exact rev hr
 ·cases h with
  | locked _ => rfl
  | none _ _ => rfl
  | hit _ _ _ _ _ => rfl
  | fails _ _ _ _ _ _ _ _ _ _ hr => exact rev hr
  | done _ _ _ _ _ _ _ d1 hr _ _ _ _ =>
   have h9 := rev hr
   unfold unback
   split <;> exact h9
theorem StOK.val {L now : Int} {ds : List Dc} {v : Value} {w : World} (h : StOK L now ds) (hL : L ≤ 140737488355328) (hv : Dcs w v ds) : ∀ w1, Below w.heap.size w w1 → Calls Tryz.prog 38 #[.agg #[.int .i64 now, v]] w1 fun e w' => e = .returned (.bool true) ∧ Below w1.heap.size w1 w' := by
 intro w1 hb
 refine (valid_docs (fun _ => true) ds v now w1 (hv.below hb) (fun d hd => (h.d d hd).n.len) (fun d rv w2 hd hr => vrevs_any d rv now w2 hr (h.d d hd) hL h.h0 h.h1)).mono fun e w' hh => ?_
 rw [validSB_yes ⟨h.h0, h.h1, h.l, fun k d hk => ⟨h.n k d hk, rfl⟩⟩] at hh
 exact hh
theorem StpH.keeps {L now now' : Int} {ds ds' : List Dc} {e : Ev} {os : List Rpt} (h : StOK L now ds) (he : EvT L e) (hs : StpH now ds e 0 now' ds' os) : StOK L now' ds' := by
 unfold StpH at hs
 split at hs
 ·rename_i h7
  obtain ⟨-, -, -, -, n0, n1⟩ := he.s h7
  rcases hs with ⟨-, hz, -⟩ | ⟨hle, -, rfl, rfl, -⟩
  ·cases hz
  ·refine ⟨by have := h.h0; omega, hle, by rw [List.length_map]; exact h.l, fun d hd => ?_, fun k d hk => ?_⟩
   ·obtain ⟨x, hx, rfl⟩ := List.mem_map.1 hd
    exact (h.d x hx).tick (by omega)
   ·rw [List.getElem?_map] at hk
    cases hx : ds[k]? with
    | none => rw [hx] at hk; cases hk
    | some x =>
     rw [hx] at hk
     obtain rfl := Option.some.inj hk
     have hn : ∀ y, (tickD (now + e.ticks) y).name = y.name := fun y => by unfold tickD; split <;> rfl
     rw [hn, ← List.map_take, List.map_map, show (Dc.name ∘ tickD (now + e.ticks)) = Dc.name from funext hn]
     exact h.n k x hx
 ·rename_i h7
  have hok := he.k.resolve_left h7
  split at hs
  ·generalize hz : (0 : Int) = z at hs
   cases hs with
   | exists_ _ _ => cases hz
   | full _ _ => cases hz
   | done hf hl =>
    refine ⟨h.h0, h.h1, by rw [List.length_append, List.length_singleton]; omega, fun d hd => ?_, fun k d hk => ?_⟩
    ·rcases List.mem_append.1 hd with h1 | h1
     ·exact h.d d h1
     ·rw [List.mem_singleton.1 h1]
      exact madeD.ok hok.u hok.d hok.v
    ·by_cases hlt : k < ds.length
     ·rw [List.getElem?_append_left hlt] at hk
      rw [List.take_append_of_le_length (Nat.le_of_lt hlt)]
      exact h.n k d hk
     ·have hk2 : k = ds.length := by have := (List.getElem?_eq_some_iff.1 hk).1; rw [List.length_append, List.length_singleton] at this; omega
      subst hk2
      rw [List.getElem?_append_right (Nat.le_refl _), Nat.sub_self] at hk
      obtain rfl := Option.some.inj hk
      rw [List.take_append_of_le_length (Nat.le_refl _), List.take_length]
      intro hm
      obtain ⟨x, hx, e1⟩ := List.mem_map.1 hm
      obtain ⟨i, hi, e2⟩ := List.getElem_of_mem hx
      generalize hz1 : (-1 : Int) = z1 at hf
      cases hf with
      | «at» i x => omega
      | none hf => exact hf i x (by rw [List.getElem?_eq_getElem hi, e2]) e1
  ·generalize hz : (0 : Int) = z at hs
   cases hs with
   | none _ => cases hz
   | fails _ _ _ _ _ _ _ hne => exact absurd hz.symm hne
   | done i d hf hd d' hc =>
    rw [← hz] at hc
    have hil := (List.getElem?_eq_some_iff.1 hd).1
    refine ⟨h.h0, h.h1, by rw [List.length_set]; exact h.l, fun x hx => ?_, fun k x hk => ?_⟩
    ·rcases List.mem_or_eq_of_mem_set hx with h1 | rfl
     ·exact h.d x h1
     ·exact hc.keeps (h.d d (List.mem_of_getElem? hd)) hok
    ·have hmap : (ds.set i d').map Dc.name = ds.map Dc.name := by
      rw [List.map_set, hc.name]
      refine List.ext_getElem? fun n => ?_
      rw [List.getElem?_set]
      by_cases hin : i = n
      ·subst hin
       rw [if_pos rfl, if_pos (by rw [List.length_map]; exact hil), List.getElem?_map, hd]
       rfl
      ·rw [if_neg hin]
     have hkn : ds[k]?.map Dc.name = some x.name := by
      have h1 : ((ds.set i d').map Dc.name)[k]? = some x.name := by rw [List.getElem?_map, hk]; rfl
      rw [hmap, List.getElem?_map] at h1
      exact h1
     cases hy : ds[k]? with
     | none => rw [hy] at hkn; cases hkn
     | some y =>
      rw [hy] at hkn
      have := h.n k y hy
      rw [List.map_take, hmap, ← List.map_take, ← Option.some.inj hkn]
      exact this
theorem evx_of {L : Int} {e : Ev} {tv : Value} (he : EvOK L e) (h1 : e.kind ≠ 1) (htv : ∃ a k c, tv = .slice a k c) : EvX (cvT e) e.kind e.user e.doc (cvX e tv) := by
 obtain ⟨k, u, nm, bs, tk, t⟩ := e
 obtain ⟨hk, -⟩ := he
 obtain ⟨a, kk, c, rfl⟩ := htv
 dsimp only at hk h1
 unfold cvT cvX
 dsimp only
 rcases hk with rfl | rfl | rfl | rfl | rfl | rfl
 ·exact absurd rfl h1
 ·exact ⟨show (146 : TypeId) ≠ 154 by decide, show (146 : TypeId) ≠ 144 by decide, ta_addr146, fun _ => by kernel_rfl⟩
 ·exact ⟨show (148 : TypeId) ≠ 154 by decide, show (148 : TypeId) ≠ 144 by decide, ta_addr148, fun _ => by kernel_rfl⟩
 ·exact ⟨show (150 : TypeId) ≠ 154 by decide, show (150 : TypeId) ≠ 144 by decide, ta_addr150, fun _ => by kernel_rfl⟩
 ·exact ⟨show (151 : TypeId) ≠ 154 by decide, show (151 : TypeId) ≠ 144 by decide, ta_addr151, fun _ => by kernel_rfl⟩
 ·exact ⟨show (152 : TypeId) ≠ 154 by decide, show (152 : TypeId) ≠ 144 by decide, ta_addr152, fun _ => by kernel_rfl⟩
theorem stepD_any {L : Int} (e : Ev) (tv : Value) (now : Int) (v : Value) (ds : List Dc) (w : World) (he : EvOK L e) (h1 : e.kind ≠ 1) (hd : StOK L now ds) (hL : L ≤ 140737488355328) (h0 : ds ≠ []) (ht : Tk w tv e.t) (hv : Dcs w v ds) :
  Calls Tryz.prog 63 #[.agg #[.int .i64 now, v], .iface (cvT e) (cvX e tv)] w (StepPost w (OneR now ds e.kind e.user e.doc (ChR now e))) := by
 obtain ⟨k, u, nm, bs, tk, t⟩ := e
 obtain ⟨hk, hu, hdn, hvt, hb, htk, hn2⟩ := he
 dsimp only at hk hu hdn hvt hb htk hn2 ht h1
 unfold cvT cvX
 dsimp only
 have hds : ∀ x ∈ ds, ownOK x ∧ RvsOK L x.revs := fun x hx => ⟨(hd.d x hx).own, (hd.d x hx).rvs⟩
 rcases hk with rfl | rfl | rfl | rfl | rfl | rfl
 ·exact absurd rfl h1
 ·exact step_lock (L := L) ds v now u nm tk w hv h0 hd.l hds ⟨hd.h0, hd.h1⟩ ⟨by have := (hn2 rfl).1; omega, (hn2 rfl).2⟩ hL
 ·exact step_unlock (L := L) ds v now u nm w hv h0 hd.l hds hL
 ·obtain ⟨ta, tc, rfl, -⟩ := id ht
  exact step_commit (L := L) ds v now u nm bs ta _ tc t w hv h0 hd.l hds ht hvt hL
 ·exact step_undo (L := L) ds v now u nm w hv h0 hd.l hds hL
 ·exact step_redo (L := L) ds v now u nm w hv h0 hd.l hds (fun x hx => (hd.d x hx).base4) hL
theorem MakeR.fine {L now : Int} {u nm : ByteArray} {t : List Trk.Clip} {ds : List Dc} (h : StOK L now ds) (hu : okWord u) (hn : okWord nm) (Vt : VT L t) : Fine (MakeR now u nm t ds) := by
 refine ⟨fun now' ds' os hs => ?_, fun code now' ds' os hs hz => ?_⟩
 ·generalize hz : (0 : Int) = z at hs
  cases hs with
  | exists_ _ _ => cases hz
  | full _ _ => cases hz
  | done hf hl =>
   refine ⟨by simp, by rw [List.length_append, List.length_singleton]; omega, fun d hd => ?_⟩
   rcases List.mem_append.1 hd with h1 | h1
   ·exact docs_small (h.d d h1)
   ·rw [List.mem_singleton.1 h1]
    exact docs_small (madeD.ok (now := now) hu hn Vt)
 ·cases hs with
  | exists_ _ _ => exact ⟨rfl, rfl, rfl⟩
  | full _ _ => exact ⟨rfl, rfl, rfl⟩
  | done _ _ => exact absurd rfl hz
theorem FirstR.make {now : Int} {u nm : ByteArray} {t : List Trk.Clip} {c n : Int} {ds : List Dc} {os : List Rpt} (h : FirstR now u nm t c n ds os) : MakeR now u nm t [] c n ds os := by
 obtain ⟨rfl, rfl, rfl, rfl⟩ := h
 exact .done (.none fun j x h => by simp at h) (by decide)
set_option maxRecDepth 100000 in
set_option maxHeartbeats 8000000 in
theorem valid_zero (now : Int) (w : World) (h0 : 0 ≤ now) (h1 : now ≤ 1099511627776) : Calls Tryz.prog 38 #[.agg #[.int .i64 now, .slice none 0 0]] w fun e w' => e = .returned (.bool true) ∧ w' = (w.alloc (.cells #[.int .i64 now, .slice none 0 0] 55)).alloc (.map #[] 0) := by
 have hmm := @run_makeMap Tryz.prog
 have h0' : ¬ now < 0 := by omega
 have h1' : ¬ 1099511627776 < now := by omega
 go_enter Tryz.func38, Tryz.ntmps38
 go_wp2_with fail
 go_loop [24] (fun i => i = .int .i64 0) (fun _ => 0)
 case atStart => rfl
 case round =>
  subst hrel
  go_wp2_with fail
  go_returns
  exact ⟨rfl, rfl⟩
set_option maxRecDepth 100000 in
set_option maxHeartbeats 8000000 in
theorem convert_ticks2 (n : Int) (w : World) (n0 : 1 ≤ n) (n1 : n ≤ 1000) : Calls Tryz.prog 62 #[.agg #[.int .i64 7, .string ⟨#[]⟩, .string ⟨#[]⟩, .int .i64 0, .int .i64 n, .slice none 0 0]] w fun e w' => e = .returned (.tuple #[.iface 154 (.agg #[.int .i64 n]), .bool true]) ∧ w' = ((w.alloc (.cells #[.int .i64 7, .string ⟨#[]⟩, .string ⟨#[]⟩, .int .i64 0, .int .i64 n, .slice none 0 0] 59)).alloc (.cells #[.int .i64 7, .string ⟨#[]⟩, .string ⟨#[]⟩, .int .i64 0, .int .i64 n, .slice none 0 0] 59)).alloc (.cells #[.int .i64 7, .string ⟨#[]⟩, .string ⟨#[]⟩] 142) := by
 go_enter Tryz.func62, Tryz.ntmps62
 go_wp2_with fail
 refine (fields_ticks n _ n0 n1).mono ?_
 rintro e w1 ⟨rfl, rfl⟩
 go_wp2_with fail
 go_ret2
 exact ⟨rfl, rfl⟩
def tickW (w : World) (T : Int) : World := (w.alloc (.cells #[.int .i64 T, .slice none 0 0] 55)).alloc (.cells #[.int .i64 T, .slice none 0 0] 55)
set_option maxRecDepth 100000 in
set_option maxHeartbeats 8000000 in
theorem tick_pass (now n T : Int) (w : World) (hT : now + n = T) (h0 : 0 ≤ now) (h1 : 1 ≤ n) (hr : T ≤ 1099511627776) : Calls Tryz.prog 103 #[.agg #[.int .i64 now, .slice none 0 0], .int .i64 n] w fun e w' => e = .returned (.tuple #[.agg #[.int .i64 T, .slice none 0 0], .slice none 0 0, .int .i64 0]) ∧ w' = tickW w T := by
 have hT3 : T ≤ 9223372036854775807 := by omega
 have hT4 : -9223372036854775808 ≤ T := by omega
 have hr' : ¬ 1099511627776 < T := by omega
 clear h0 h1 hr
 unfold tickW
 go_enter Tryz.func103, Tryz.ntmps103
 go_wp2_with fail
 go_loop [7, 24] (fun v7 i => v7 = .slice none 0 0 ∧ i = .int .i64 0) (fun _ _ => 0)
 case atStart => exact ⟨rfl, rfl⟩
 case round =>
  obtain ⟨rfl, rfl⟩ := hrel
  go_wp2_with fail
  go_returns
  exact ⟨rfl, rfl⟩
set_option maxRecDepth 100000 in
set_option maxHeartbeats 8000000 in
theorem tick_late (now n T : Int) (w : World) (hT : now + n = T) (h0 : 0 ≤ now ∧ now ≤ 1099511627776) (h1 : 1 ≤ n ∧ n ≤ 1000) (hr : 1099511627776 < T) : Calls Tryz.prog 103 #[.agg #[.int .i64 now, .slice none 0 0], .int .i64 n] w fun e w' => e = .returned (.tuple #[.agg #[.int .i64 0, .slice none 0 0], .slice none 0 0, .int .i64 2]) ∧ w' = (w.alloc (.cells #[.int .i64 now, .slice none 0 0] 55)).alloc (.cells #[.int .i64 0, .slice none 0 0] 55) := by
 have hT3 : T ≤ 9223372036854775807 := by omega
 have hT4 : -9223372036854775808 ≤ T := by omega
 clear h0 h1
 go_enter Tryz.func103, Tryz.ntmps103
 go_wp2_with fail
 go_returns
 exact ⟨rfl, rfl⟩
set_option maxRecDepth 100000 in
set_option maxHeartbeats 16000000 in
theorem bigtick_zero (now n : Int) (w : World) (h0 : 0 ≤ now) (h1 : now ≤ 1099511627776) (n0 : 1 ≤ n) (n1 : n ≤ 1000) :
  Calls Tryz.prog 26 #[.agg #[.int .i64 now, .slice none 0 0], .agg #[.int .i64 7, .string ⟨#[]⟩, .string ⟨#[]⟩, .int .i64 0, .int .i64 n, .slice none 0 0]] w (StepPost2 w (TickR now n [])) := by
 obtain ⟨T, hT⟩ : ∃ T, now + n = T := ⟨_, rfl⟩
 have HT := Lib.hid hT
 have VZ := Lib.hid (fun w => valid_zero now w h0 h1)
 have CT := Lib.hid (fun w => convert_ticks2 n w n0 n1)
 by_cases hr : T ≤ 1099511627776
 ·have HR := Lib.hid hr
  have TP := Lib.hid (fun w => tick_pass now n T w hT h0 n0 hr)
  clear hr hT h0 h1 n0 n1
  have HS := Lib.hid (show ∀ w, Calls Tryz.prog 63 #[.agg #[.int .i64 now, .slice none 0 0], .iface 154 (.agg #[.int .i64 n])] w fun e w' => e = .returned (.tuple #[.agg #[.int .i64 T, .slice none 0 0], .slice none 0 0, .int .i64 0]) ∧ w' = tickW (((w.alloc (.cells #[.int .i64 now, .slice none 0 0] 55)).alloc (.cells #[.int .i64 T, .slice none 0 0] 55)).alloc (.cells #[.int .i64 n] 154)) T by
   intro w
   unfold tickW at TP ⊢
   have hta := ta_154_154
   go_enter Tryz.func63, Tryz.ntmps63
   go_wp2_with fail
   refine (docs_nil _).mono ?_
   rintro e w1 ⟨rfl, rfl⟩
   go_wp2_with fail
   refine (TP.out _).mono ?_
   rintro e w1 ⟨rfl, rfl⟩
   go_wp2_with fail
   go_returns
   exact ⟨rfl, rfl⟩)
  unfold tickW at HS
  go_enter Tryz.func26, Tryz.ntmps26
  go_wp2_with fail
  refine (VZ.out _).mono ?_
  rintro e w1 ⟨rfl, rfl⟩
  go_wp2_with fail
  refine (CT.out _).mono ?_
  rintro e w1 ⟨rfl, rfl⟩
  go_wp2_with fail
  refine (HS.out _).mono ?_
  rintro e w1 ⟨rfl, rfl⟩
  go_wp2_with fail
  refine (clone_none _ _).mono ?_
  rintro e w1 ⟨rfl, rfl⟩
  go_wp2_with fail
  go_returns
  exact ⟨0, T, _, _, [], [], rfl, .inr ⟨by rw [HT.out]; exact HR.out, rfl, HT.out.symm, rfl, rfl⟩, Dcs.nil _, fun _ _ => rfl, Outs.nil _, by go_grown⟩
 ·have HR := Lib.hid hr
  have TP := Lib.hid (fun w => tick_late now n T w hT ⟨h0, h1⟩ ⟨n0, n1⟩ (by omega))
  clear hr hT h0 h1 n0 n1
  have HS := Lib.hid (show ∀ w, Calls Tryz.prog 63 #[.agg #[.int .i64 now, .slice none 0 0], .iface 154 (.agg #[.int .i64 n])] w fun e w' => e = .returned (.tuple #[.agg #[.int .i64 0, .slice none 0 0], .slice none 0 0, .int .i64 2]) ∧ w' = ((((w.alloc (.cells #[.int .i64 now, .slice none 0 0] 55)).alloc (.cells #[.int .i64 0, .slice none 0 0] 55)).alloc (.cells #[.int .i64 n] 154)).alloc (.cells #[.int .i64 now, .slice none 0 0] 55)).alloc (.cells #[.int .i64 0, .slice none 0 0] 55) by
   intro w
   have hta := ta_154_154
   go_enter Tryz.func63, Tryz.ntmps63
   go_wp2_with fail
   refine (docs_nil _).mono ?_
   rintro e w1 ⟨rfl, rfl⟩
   go_wp2_with fail
   refine (TP.out _).mono ?_
   rintro e w1 ⟨rfl, rfl⟩
   go_wp2_with fail
   go_returns
   exact ⟨rfl, rfl⟩)
  go_enter Tryz.func26, Tryz.ntmps26
  go_wp2_with fail
  refine (VZ.out _).mono ?_
  rintro e w1 ⟨rfl, rfl⟩
  go_wp2_with fail
  refine (CT.out _).mono ?_
  rintro e w1 ⟨rfl, rfl⟩
  go_wp2_with fail
  refine (HS.out _).mono ?_
  rintro e w1 ⟨rfl, rfl⟩
  go_wp2_with fail
  go_returns
  exact ⟨2, 0, _, _, [], [], rfl, .inl ⟨by rw [HT.out]; have := HR.out; omega, rfl, rfl, rfl, rfl⟩, Dcs.nil _, fun _ _ => rfl, Outs.nil _, by go_grown⟩
theorem hist_step {L : Int} (e : Ev) (tv : Value) (now : Int) (v : Value) (ds : List Dc) (w : World) (he : EvT L e) (hd : StOK L now ds) (hL : L ≤ 140737488355328) (ht : Tk w tv e.t) (hn : e.kind ≠ 1 → e.kind ≠ 4 → tv = .slice none 0 0) (hv : Dcs w v ds) (hnil : ds = [] → v = .slice none 0 0) :
  Calls Tryz.prog 26 #[.agg #[.int .i64 now, v], .agg (evtL e tv).toArray] w (StepPost2 w (StpH now ds e)) := by
 obtain ⟨ta, tc, rfl, -⟩ := id ht
 unfold StpH
 by_cases h7 : e.kind = 7
 ·rw [if_pos h7]
  obtain ⟨e1, e2, e3, e4, n0, n1⟩ := he.s h7
  obtain ⟨k, u, nm, bs, tk, t⟩ := e
  dsimp only at h7 e1 e2 e3 e4 n0 n1 ht hn ⊢
  subst h7 e1 e2 e3 e4
  have htv := hn (by decide) (by decide)
  unfold evtL
  dsimp only
  rw [htv]
  by_cases h0 : ds = []
  ·rw [hnil h0, h0]
   exact bigtick_zero now tk w hd.h0 hd.h1 n0 n1
  ·refine (bigstep_docs now v ds 7 ⟨#[]⟩ ⟨#[]⟩ 0 tk none 0 0 154 (.agg #[.int .i64 tk]) _ w hv (hd.val hL hv) (TickR.fine (L := L) hd.l h0 (by omega) hd.d) (fun w1 hb => convert_ticks tk w1 n0 n1)
    (fun w1 hb => step_ticks ds v now tk w1 (hv.below hb) h0 hd.l (fun x hx => ⟨(hd.d x hx).own, (hd.d x hx).l0, (hd.d x hx).l1⟩) ⟨hd.h0, hd.h1⟩ ⟨by omega, n1⟩)).mono fun e w' hs => hs.two (fun _ _ _ _ h => h) fun n ds' os h => ?_
   rcases h with ⟨-, hz, -⟩ | ⟨-, -, -, rfl, -⟩
   ·cases hz
   ·simpa using h0
 rw [if_neg h7]
 have hok := he.k.resolve_left h7
 have hcv := fun w1 (hb : Below w.heap.size w w1) => conv_any e (.slice ta e.t.length tc) w1 hok hL (ht.below hb) hn
 by_cases hk1 : e.kind = 1
 ·rw [if_pos hk1]
  have hu := hok.u
  have hdn := hok.d
  have hvt := hok.v
  obtain ⟨k, u, nm, bs, tk, t⟩ := e
  dsimp only at hk1 ht hn hu hdn hvt hcv ⊢
  subst hk1
  unfold cvT cvX at hcv
  dsimp only at hcv
  by_cases h0 : ds = []
  ·have hv0 := hnil h0
   subst h0 hv0
   refine (bigstep_docs now (.slice none 0 0) [] 1 u nm bs tk ta t.length tc 144 (.agg #[.int .i64 1, .string u, .string nm, .slice ta t.length tc]) (FirstR now u nm t) w hv (hd.val hL hv) ?_ hcv
    (fun w1 hb => step_create0 (L := L) now u nm ta _ tc t w1 (ht.below hb) hvt hL)).mono fun e w' hs => hs.two (fun _ _ _ _ h => h.make) fun n ds' os h => by rw [h.2.2.1]; simp
   refine ⟨fun now' ds' os h => ?_, fun code now' ds' os h hz => absurd h.1 hz⟩
   rw [h.2.2.1]
   exact ⟨by simp, by simp, fun x hx => by rw [List.mem_singleton.1 hx]; exact docs_small (madeD.ok (now := now) hu hdn hvt)⟩
  ·exact (bigstep_docs now v ds 1 u nm bs tk ta t.length tc 144 (.agg #[.int .i64 1, .string u, .string nm, .slice ta t.length tc]) (MakeR now u nm t ds) w hv (hd.val hL hv) (MakeR.fine hd hu hdn hvt) hcv
    (fun w1 hb => step_create (L := L) ds v now u nm ta _ tc t w1 (hv.below hb) h0 hd.l (ht.below hb) hvt hL)).mono fun e w' hs => hs.two (fun _ _ _ _ h => h) fun n ds' os h => ((MakeR.fine hd hu hdn hvt).ok _ _ _ h).1
 ·rw [if_neg hk1]
  have hfine : Fine (OneR now ds e.kind e.user e.doc (ChR now e)) := OneR.fine (L := L) hd.l hd.d fun d d' h hr => ChR.keeps h hok hr
  have hstep : ∀ w1, Below w.heap.size w w1 → Calls Tryz.prog 63 #[.agg #[.int .i64 now, v], .iface (cvT e) (cvX e (.slice ta e.t.length tc))] w1 (StepPost w1 (OneR now ds e.kind e.user e.doc (ChR now e))) := by
   intro w1 hb
   by_cases h0 : ds = []
   ·rw [hnil h0, h0]
    exact step_empty now e.kind e.user e.doc _ _ _ w1 (evx_of hok hk1 ⟨_, _, _, rfl⟩)
   ·exact stepD_any e _ now v ds w1 hok hk1 hd hL h0 (ht.below hb) (hv.below hb)
  exact (bigstep_docs now v ds e.kind e.user e.doc e.base e.ticks ta e.t.length tc (cvT e) (cvX e (.slice ta e.t.length tc)) _ w hv (hd.val hL hv) hfine hcv hstep).mono fun e w' hs => hs.two (fun _ _ _ _ h => h) fun n ds' os h => (hfine.ok _ _ _ h).1
end Go.Proofs.YtfoohocgdcgbcaaGreat
namespace Go.Trk
theorem exL_length1 {n ins : List Clip} {p rem : Int} (gn : GoodL n) (hp : 0 ≤ p) (hr : 0 ≤ rem) : (exL n p rem ins).length ≤ n.length + 1 + ins.length := by
 have tn := total_nonneg gn
 unfold exL
 simp only [List.length_append]
 have hb := (pk_of (cutRaw_spec (l := n) (f := 0) (n := min p (total n) - 0) gn (Int.le_refl 0) (by omega)).1).n
 have hb' : (cut n 0 (min p (total n))).length ≤ (cutRaw n 0 (min p (total n))).length := by
  have e : min p (total n) - 0 = min p (total n) := by omega
  unfold cut
  rw [e] at hb ⊢
  exact hb
 by_cases hlt : p < total n
 ·have hg : gapL (p - total n) = [] := by unfold gapL; rw [if_neg (by omega)]
  rw [hg]
  unfold aft
  split
  ·rename_i h
   have h2 := (pk_of (cutRaw_spec (l := n) (f := p + rem) (n := total n - (p + rem)) gn (by omega) (by omega)).1).n
   have h3 := cutRaw_both (l := n) (a := min p (total n)) (b := p + rem) (n := total n - (p + rem)) gn (by omega) (by omega) (by omega) (by omega)
   have h4 : (cut n (p + rem) (total n)).length ≤ (cutRaw n (p + rem) (total n - (p + rem))).length := h2
   simp only [List.length_nil]
   omega
  ·have h3 := cutRaw_length n 0 (min p (total n))
   simp only [List.length_nil]
   omega
 ·have ha : aft n (p + rem) = [] := by unfold aft; rw [if_neg (by omega)]
  have lg := gapL_len (p - total n)
  have h3 := cutRaw_len2 (l := n) (f := 0) (n := min p (total n)) gn (Int.le_refl 0) (by omega)
  rw [ha]
  simp only [List.length_nil]
  omega
end Go.Trk
namespace Go.Proofs.YtfoohocgdcgbcaaGreat
open Go.RowKit
def evKinds : Array Value := #[.int .i64 1, .int .i64 2, .int .i64 3, .int .i64 4, .int .i64 4, .int .i64 4, .int .i64 4, .int .i64 5, .int .i64 5, .int .i64 6, .int .i64 7]
def evUsers : Array Value := #[.string ⟨#[97, 110, 110]⟩, .string ⟨#[98, 111, 98]⟩]
def evDocs : Array Value := #[.string ⟨#[114, 101, 101, 108]⟩, .string ⟨#[99, 117, 116, 50]⟩]
def evZ : Ev := ⟨0, ⟨#[]⟩, ⟨#[]⟩, 0, 0, []⟩
def EB (w : World) (g : Nat) (e : Ev) (tv : Value) : Prop := w.heap[g]? = some (.cells (evtL e tv).toArray 59 (0, 0))
def KindOK (x : Int) : Prop := 1 ≤ x ∧ x ≤ 7
def evG (p i lo hi : Nat) (v : Value) (w : World) : Prop :=
 if i = 0 then v = .slice (some ⟨lo, 0, none⟩) 11 11 ∧ lo ≠ p ∧ lo < w.heap.size ∧ w.heap[lo]? = some (.cells evKinds 3 (0, 0))
 else if i = 5 then v = .slice (some ⟨lo, 0, none⟩) 2 2 ∧ lo ≠ p ∧ lo < w.heap.size ∧ w.heap[lo]? = some (.cells evUsers 9 (0, 0))
 else if i = 10 then v = .slice (some ⟨lo, 0, none⟩) 2 2 ∧ lo ≠ p ∧ lo < w.heap.size ∧ w.heap[lo]? = some (.cells evDocs 9 (0, 0))
 else if i = 2 then ∃ r : Int, v = .int .i64 r ∧ 0 ≤ r ∧ r < 11
 else if i = 7 ∨ i = 13 then ∃ r : Int, v = .int .i64 r ∧ 0 ≤ r ∧ r < 2
 else if i = 12 then ∃ r : Int, v = .int .i64 r ∧ 0 ≤ r ∧ r < 8
 else if i = 3 then ∃ b o x, v = .pointer (some ⟨b, o, none⟩) ∧ b ≠ p ∧ w.cell? ⟨b, o, none⟩ = some (.int .i64 x) ∧ KindOK x
 else if i = 4 then ∃ x, v = .int .i64 x ∧ KindOK x
 else if i = 8 ∨ i = 14 then ∃ b o s, v = .pointer (some ⟨b, o, none⟩) ∧ b ≠ p ∧ w.cell? ⟨b, o, none⟩ = some (.string s) ∧ okWord s
 else if i = 9 ∨ i = 15 then ∃ s, v = .string s ∧ okWord s
 else if i = 16 then ∃ x u d, v = .agg (evtL ⟨x, u, d, 0, 0, []⟩ (.slice none 0 0)).toArray ∧ KindOK x ∧ okWord u ∧ okWord d
 else v = .pointer (some ⟨lo, 0, none⟩) ∧ lo ≠ p ∧ lo < w.heap.size ∧ EB w lo evZ (.slice none 0 0)
theorem evG.turn {p : Nat} (i lo hi : Nat) (v : Value) (w w' : World) (h : evG p i lo hi v w) (ht : Turn p w w') : evG p i lo hi v w' := by
 have key : ∀ {C : Array Value} {T : TypeId}, lo ≠ p → lo < w.heap.size → w.heap[lo]? = some (.cells C T (0, 0)) → lo ≠ p ∧ lo < w'.heap.size ∧ w'.heap[lo]? = some (.cells C T (0, 0)) := fun h1 h2 h3 => ⟨h1, Nat.lt_of_lt_of_le h2 ht.s, (ht.o lo h2 h1).trans h3⟩
 have kc : ∀ {b o : Nat} {x : Value}, b ≠ p → w.cell? ⟨b, o, none⟩ = some x → w'.cell? ⟨b, o, none⟩ = some x := fun h1 h2 => ht.get h1 h2
 unfold evG at h ⊢
 by_cases h0 : i = 0
 ·rw [if_pos h0] at h ⊢; exact ⟨h.1, key h.2.1 h.2.2.1 h.2.2.2⟩
 rw [if_neg h0] at h ⊢
 by_cases h1 : i = 5
 ·rw [if_pos h1] at h ⊢; exact ⟨h.1, key h.2.1 h.2.2.1 h.2.2.2⟩
 rw [if_neg h1] at h ⊢
 by_cases h2 : i = 10
 ·rw [if_pos h2] at h ⊢; exact ⟨h.1, key h.2.1 h.2.2.1 h.2.2.2⟩
 rw [if_neg h2] at h ⊢
 by_cases h3 : i = 2
 ·rw [if_pos h3] at h ⊢; exact h
 rw [if_neg h3] at h ⊢
 by_cases h4 : i = 7 ∨ i = 13
 ·rw [if_pos h4] at h ⊢; exact h
 rw [if_neg h4] at h ⊢
 by_cases h5 : i = 12
 ·rw [if_pos h5] at h ⊢; exact h
 rw [if_neg h5] at h ⊢
 by_cases h6 : i = 3
 ·rw [if_pos h6] at h ⊢
  obtain ⟨b, o, x, e, hb, hc, hx⟩ := h
  exact ⟨b, o, x, e, hb, kc hb hc, hx⟩
 rw [if_neg h6] at h ⊢
 by_cases h7 : i = 4
 ·rw [if_pos h7] at h ⊢; exact h
 rw [if_neg h7] at h ⊢
 by_cases h8 : i = 8 ∨ i = 14
 ·rw [if_pos h8] at h ⊢
  obtain ⟨b, o, x, e, hb, hc, hx⟩ := h
  exact ⟨b, o, x, e, hb, kc hb hc, hx⟩
 rw [if_neg h8] at h ⊢
 by_cases h9 : i = 9 ∨ i = 15
 ·rw [if_pos h9] at h ⊢; exact h
 rw [if_neg h9] at h ⊢
 by_cases h10 : i = 16
 ·rw [if_pos h10] at h ⊢; exact h
 rw [if_neg h10] at h ⊢
 exact ⟨h.1, key h.2.1 h.2.2.1 h.2.2.2⟩
section
variable {p lo hi : Nat} {v : Value} {w : World}
theorem evG0 : evG p 0 lo hi v w = (v = .slice (some ⟨lo, 0, none⟩) 11 11 ∧ lo ≠ p ∧ lo < w.heap.size ∧ w.heap[lo]? = some (.cells evKinds 3 (0, 0))) := rfl
theorem evG5 : evG p 5 lo hi v w = (v = .slice (some ⟨lo, 0, none⟩) 2 2 ∧ lo ≠ p ∧ lo < w.heap.size ∧ w.heap[lo]? = some (.cells evUsers 9 (0, 0))) := rfl
theorem evG10 : evG p 10 lo hi v w = (v = .slice (some ⟨lo, 0, none⟩) 2 2 ∧ lo ≠ p ∧ lo < w.heap.size ∧ w.heap[lo]? = some (.cells evDocs 9 (0, 0))) := rfl
theorem evG2 : evG p 2 lo hi v w = (∃ r : Int, v = .int .i64 r ∧ 0 ≤ r ∧ r < 11) := rfl
theorem evG7 : evG p 7 lo hi v w = (∃ r : Int, v = .int .i64 r ∧ 0 ≤ r ∧ r < 2) := rfl
theorem evG13 : evG p 13 lo hi v w = (∃ r : Int, v = .int .i64 r ∧ 0 ≤ r ∧ r < 2) := rfl
theorem evG12 : evG p 12 lo hi v w = (∃ r : Int, v = .int .i64 r ∧ 0 ≤ r ∧ r < 8) := rfl
theorem evG3 : evG p 3 lo hi v w = (∃ b o x, v = .pointer (some ⟨b, o, none⟩) ∧ b ≠ p ∧ w.cell? ⟨b, o, none⟩ = some (.int .i64 x) ∧ KindOK x) := rfl
theorem evG4 : evG p 4 lo hi v w = (∃ x, v = .int .i64 x ∧ KindOK x) := rfl
theorem evG8 : evG p 8 lo hi v w = (∃ b o s, v = .pointer (some ⟨b, o, none⟩) ∧ b ≠ p ∧ w.cell? ⟨b, o, none⟩ = some (.string s) ∧ okWord s) := rfl
theorem evG14 : evG p 14 lo hi v w = (∃ b o s, v = .pointer (some ⟨b, o, none⟩) ∧ b ≠ p ∧ w.cell? ⟨b, o, none⟩ = some (.string s) ∧ okWord s) := rfl
theorem evG9 : evG p 9 lo hi v w = (∃ s, v = .string s ∧ okWord s) := rfl
theorem evG15 : evG p 15 lo hi v w = (∃ s, v = .string s ∧ okWord s) := rfl
theorem evG16 : evG p 16 lo hi v w = (∃ x u d, v = .agg (evtL ⟨x, u, d, 0, 0, []⟩ (.slice none 0 0)).toArray ∧ KindOK x ∧ okWord u ∧ okWord d) := rfl
theorem evG17 : evG p 17 lo hi v w = (v = .pointer (some ⟨lo, 0, none⟩) ∧ lo ≠ p ∧ lo < w.heap.size ∧ EB w lo evZ (.slice none 0 0)) := rfl
end
theorem cell_of {w : World} {b n : Nat} {C : Array Value} {T : TypeId} {x : Value} (h : w.heap[b]? = some (.cells C T (0, 0))) (hx : C[n]? = some x) : w.cell? ⟨b, n, none⟩ = some x := by
 unfold World.cell?
 simp only [h]
 exact hx
def evS : List (Nat × Tmp) := [(0, 22), (2, 24), (3, 25), (4, 26), (5, 27), (7, 29), (8, 30), (9, 31), (10, 32), (12, 34), (13, 35), (14, 36), (15, 37), (16, 38), (17, 8)]
theorem sc_below {w w' : World} {B p k n : Nat} (h : ∃ k2, k2 ≤ k + n ∧ TP w B p k2) (hb : Below w.heap.size w w') : ∃ k2, k2 ≤ k + (n + 1) ∧ TP w' B p k2 := by
 obtain ⟨k2, h1, h2⟩ := h
 exact ⟨k2, by omega, h2.low (n := w.heap.size) (by have := h2.1; have := h2.2.1; omega) h2.2.1 hb⟩
theorem sc_same {w : World} {B p k n : Nat} (h : ∃ k2, k2 ≤ k + n ∧ TP w B p k2) : ∃ k2, k2 ≤ k + (n + 1) ∧ TP w B p k2 := by
 obtain ⟨k2, h1, h2⟩ := h
 exact ⟨k2, by omega, h2⟩
theorem run_ix (t : TypeId) (h : Tryz.prog.underlying t = some (.slice (Tryz.prog.elem t))) (w : World) (hs : (sizeOf (Tryz.prog.elem t)).run Tryz.prog w = .ok 1 w) (b n cap : Nat) (r : Int) (r0 : 0 ≤ r) (r1 : r < n) :
  (Instr.indexAt t (.slice (some ⟨b, 0, none⟩) n cap) (.int .i64 r)).run Tryz.prog w = .ok (.pointer (some ⟨b, r.toNat, none⟩)) w := by
 rw [run_indexAt_slice _ t _ _ _ _ _ h, if_pos ⟨r0, r1⟩, hs]
 show Result.ok (Value.pointer (some (Addr.add ⟨b, 0, none⟩ (r.toNat * 1)))) w = _
 rw [Addr.add_mid, Nat.zero_add, Nat.mul_one]
theorem kinds_get (r : Int) (r0 : 0 ≤ r) (r1 : r < 11) : ∃ x, evKinds[r.toNat]? = some (.int .i64 x) ∧ KindOK x := by
 obtain ⟨n, rfl⟩ : ∃ n : Nat, r = n := ⟨r.toNat, by omega⟩
 have hn : n < 11 := by omega
 rw [Int.toNat_natCast]
 unfold KindOK
 match n, hn with
 | 0, _ => exact ⟨1, rfl, by omega⟩
 | 1, _ => exact ⟨2, rfl, by omega⟩
 | 2, _ => exact ⟨3, rfl, by omega⟩
 | 3, _ => exact ⟨4, rfl, by omega⟩
 | 4, _ => exact ⟨4, rfl, by omega⟩
 | 5, _ => exact ⟨4, rfl, by omega⟩
 | 6, _ => exact ⟨4, rfl, by omega⟩
 | 7, _ => exact ⟨5, rfl, by omega⟩
 | 8, _ => exact ⟨5, rfl, by omega⟩
 | 9, _ => exact ⟨6, rfl, by omega⟩
 | 10, _ => exact ⟨7, rfl, by omega⟩
theorem users_get (r : Int) (r0 : 0 ≤ r) (r1 : r < 2) : ∃ x, evUsers[r.toNat]? = some (.string x) ∧ okWord x := by
 obtain ⟨n, rfl⟩ : ∃ n : Nat, r = n := ⟨r.toNat, by omega⟩
 have hn : n < 2 := by omega
 rw [Int.toNat_natCast]
 match n, hn with
 | 0, _ => exact ⟨_, rfl, okWord_of [97, 110, 110] (by decide) (by decide) (by decide)⟩
 | 1, _ => exact ⟨_, rfl, okWord_of [98, 111, 98] (by decide) (by decide) (by decide)⟩
theorem docs_get (r : Int) (r0 : 0 ≤ r) (r1 : r < 2) : ∃ x, evDocs[r.toNat]? = some (.string x) ∧ okWord x := by
 obtain ⟨n, rfl⟩ : ∃ n : Nat, r = n := ⟨r.toNat, by omega⟩
 have hn : n < 2 := by omega
 rw [Int.toNat_natCast]
 match n, hn with
 | 0, _ => exact ⟨_, rfl, okWord_of [114, 101, 101, 108] (by decide) (by decide) (by decide)⟩
 | 1, _ => exact ⟨_, rfl, okWord_of [99, 117, 116, 50] (by decide) (by decide) (by decide)⟩
theorem built_event (x : Int) (u d : ByteArray) : Tryz.prog.built 59 [(0, .int .i64 x), (1, .string u), (2, .string d)] = some (evtL ⟨x, u, d, 0, 0, []⟩ (.slice none 0 0)).toArray := by kernel_rfl
section
variable {ops : Array Oper} {o : Oper} {A : Act} {w : World} {K : Act → World → Prop} {Q : Exit → Act → World → Prop}
theorem one_index (t : TypeId) (hu : Tryz.prog.underlying t = some (.slice (Tryz.prog.elem t))) (hs : (sizeOf (Tryz.prog.elem t)).run Tryz.prog w = .ok 1 w) (x ix : Operand) (hg : o.guard = none) (hop : o.op = .indexAddr t x ix) (b n cap : Nat) (r : Int)
  (hx : A.eval x = .slice (some ⟨b, 0, none⟩) n cap) (hi : A.eval ix = .int .i64 r) (r0 : 0 ≤ r) (r1 : r < n) (h : K (A.put o.dst (.pointer (some ⟨b, r.toNat, none⟩))) w) : wpList Tryz.prog ops (Exit.then K Q) [o] A w := by
 refine Plan.one_value hg (w' := w) (v := .pointer (some ⟨b, r.toNat, none⟩)) ?_ h
 simp only [execOp, hop, hx, hi]
 simp [run_ix t hu w hs b n cap r r0 r1, Result.andThen]
theorem one_load3 (x : Operand) (hg : o.guard = none) (hop : o.op = .load 3 x) (b n : Nat) (v : Int) (hx : A.eval x = .pointer (some ⟨b, n, none⟩)) (hc : w.cell? ⟨b, n, none⟩ = some (.int .i64 v)) (h : K (A.put o.dst (.int .i64 v)) w) : wpList Tryz.prog ops (Exit.then K Q) [o] A w := by
 refine Plan.one_value hg (w' := w) ?_ h
 simp only [execOp, hop, hx]
 simp [go_sem, hc, Result.andThen]
theorem one_load9 (x : Operand) (hg : o.guard = none) (hop : o.op = .load 9 x) (b n : Nat) (v : ByteArray) (hx : A.eval x = .pointer (some ⟨b, n, none⟩)) (hc : w.cell? ⟨b, n, none⟩ = some (.string v)) (h : K (A.put o.dst (.string v)) w) : wpList Tryz.prog ops (Exit.then K Q) [o] A w := by
 refine Plan.one_value hg (w' := w) ?_ h
 simp only [execOp, hop, hx]
 simp [go_sem, hc, Result.andThen]
theorem one_build (x y z : Operand) (hg : o.guard = none) (hop : o.op = .build 59 #[(0, x), (1, y), (2, z)]) (k : Int) (u d : ByteArray) (hx : A.eval x = .int .i64 k) (hy : A.eval y = .string u) (hz : A.eval z = .string d)
  (h : K (A.put o.dst (.agg (evtL ⟨k, u, d, 0, 0, []⟩ (.slice none 0 0)).toArray)) w) : wpList Tryz.prog ops (Exit.then K Q) [o] A w := by
 refine Plan.one_value hg (w' := w) ?_ h
 simp only [execOp, hop, List.map_toArray, List.map_cons, List.map_nil, hx, hy, hz]
 have := run_build (P := Tryz.prog) w 59 #[(0, .int .i64 k), (1, .string u), (2, .string d)] _ (built_event k u d)
 simp only [Sem.run_bind, this, Result.andThen_ok, Sem.run_pure]
theorem one_alloc (hg : o.guard = none) (hop : o.op = .alloc 59) (h : K (A.put o.dst (.pointer (some ⟨w.heap.size, 0, none⟩))) (w.alloc (.cells (evtL evZ (.slice none 0 0)).toArray 59))) : wpList Tryz.prog ops (Exit.then K Q) [o] A w := by
 refine Plan.one_value hg (w' := w.alloc (.cells (evtL evZ (.slice none 0 0)).toArray 59)) (v := .pointer (some ⟨w.heap.size, 0, none⟩)) ?_ h
 simp only [execOp, hop]
 kernel_rfl
theorem one_quo7 (x : Operand) (hg : o.guard = none) (hop : o.op = .binOp .quo 3 x (.const (.int .i64 7)) 3) (r : Int) (hx : A.eval x = .int .i64 r) (r0 : 0 ≤ r) (r1 : r < 8) (h : ∀ q : Int, 0 ≤ q → q < 2 → K (A.put o.dst (.int .i64 q)) w) : wpList Tryz.prog ops (Exit.then K Q) [o] A w := by
 refine Plan.one_value hg (w' := w) (v := .int .i64 (r.tdiv 7)) ?_ (h _ (by rw [Int.tdiv_eq_ediv_of_nonneg r0]; omega) (by rw [Int.tdiv_eq_ediv_of_nonneg r0]; omega))
 have hk : A.eval (.const (.int .i64 7)) = .int .i64 7 := rfl
 simp only [execOp, hop, hx, hk]
 obtain ⟨n, rfl⟩ : ∃ n : Nat, r = n := ⟨r.toNat, by omega⟩
 have hn : n = 0 ∨ n = 1 ∨ n = 2 ∨ n = 3 ∨ n = 4 ∨ n = 5 ∨ n = 6 ∨ n = 7 := by omega
 clear h hx r0 r1
 rcases hn with rfl | rfl | rfl | rfl | rfl | rfl | rfl | rfl
 all_goals rfl
end
structure Pool (j : Nat) (t : List Trk.Clip) : Prop where
 v : VT 1000000 t
 n : Trk.Norm t
 l : t.length ≤ 1 + 4 * j
 t : Trk.total t ≤ 150 + 127 * j
structure EL (w wr : World) (v5 v6 : Value) (L : List (Ev × Value)) (T : List (Value × List Trk.Clip)) (n : Nat) : Prop where
 o : RowX wr w.heap.size 59 6 v5 L.length (L.flatMap fun x => evtL x.1 x.2)
 e : ∀ x ∈ L, EvT 1000000 x.1 ∧ OT wr w.heap.size x.2 x.1.t ∧ (x.1.kind ≠ 1 → x.1.kind ≠ 4 → x.2 = .slice none 0 0)
 r : RowX wr w.heap.size 23 1 v6 T.length (T.map (·.1))
 t : ∀ x ∈ T, OT wr w.heap.size x.1 x.2 ∧ Pool n x.2
 n : 1 ≤ T.length ∧ T.length ≤ n + 1
theorem RowX.turn {w w' : World} {B k s p : Nat} {E : TypeId} {v : Value} {xs : List Value} (h : RowX w B E s v k xs) (ht : Turn p w w') (hp : p < B) : RowX w' B E s v k xs := by
 rcases h with h | ⟨g, cap, cur, h1, h2, h3, h⟩
 ·exact Or.inl h
 ·exact Or.inr ⟨g, cap, cur, h1, h2, (ht.o g (Array.getElem?_eq_some_iff.1 h3).1 (by omega)).trans h3, h⟩
theorem EL.turn {w wr w' : World} {p n : Nat} {v5 v6 : Value} {L : List (Ev × Value)} {T : List (Value × List Trk.Clip)} (h : EL w wr v5 v6 L T n) (ht : Turn p wr w') (hp : p < w.heap.size) : EL w w' v5 v6 L T n :=
 ⟨h.o.turn ht hp, fun x hx => ⟨(h.e x hx).1, (h.e x hx).2.1.turn ht hp, (h.e x hx).2.2⟩, h.r.turn ht hp, fun x hx => ⟨(h.t x hx).1.turn ht hp, (h.t x hx).2⟩, h.n⟩
theorem Pool.up {n m : Nat} {t : List Trk.Clip} (h : Pool n t) (hm : n ≤ m) : Pool m t := ⟨h.v, h.n, by have := h.l; omega, by have := h.t; omega⟩
theorem EL.up {w wr : World} {n m : Nat} {v5 v6 : Value} {L : List (Ev × Value)} {T : List (Value × List Trk.Clip)} (h : EL w wr v5 v6 L T n) (hm : n ≤ m) : EL w wr v5 v6 L T m :=
 ⟨h.o, h.e, h.r, fun x hx => ⟨(h.t x hx).1, (h.t x hx).2.up hm⟩, ⟨h.n.1, by have := h.n.2; omega⟩⟩
theorem RowX.keep {w w' : World} {B k s B0 k0 s0 : Nat} {E E0 : TypeId} {v v0 : Value} {xs ys : List Value} (h : RowX w B E s v k xs) (h0 : RowX w B0 E0 s0 v0 k0 ys) (hE : E ≠ E0)
  (hk : ∀ b, b < w.heap.size → (∀ g cap, v0 = .slice (some ⟨g, 0, none⟩) k0 cap → b ≠ g) → w'.heap[b]? = w.heap[b]?) : RowX w' B E s v k xs := by
 rcases h with h | ⟨g, cap, cur, h1, h2, h3, h⟩
 ·exact Or.inl h
 refine Or.inr ⟨g, cap, cur, h1, h2, (hk g (Array.getElem?_eq_some_iff.1 h3).1 fun g' cap' e' => ?_).trans h3, h⟩
 rintro rfl
 rcases h0 with ⟨e0, -⟩ | ⟨g0, cap0, cur0, e0, -, h5, -⟩
 ·rw [e0] at e'; simp at e'
 ·rw [e0] at e'
  simp only [Value.slice.injEq, Option.some.injEq, Addr.mk.injEq, and_true, true_and] at e'
  obtain ⟨rfl, -⟩ := e'
  rw [h3] at h5
  simp only [Option.some.injEq, Obj.cells.injEq] at h5
  exact hE h5.2.1
theorem EB.keep {w w' : World} {g B0 k0 s0 : Nat} {e : Ev} {tv : Value} {E0 : TypeId} {v0 : Value} {ys : List Value} (h : EB w g e tv) (h0 : RowX w B0 E0 s0 v0 k0 ys) (hE : 59 ≠ E0)
  (hk : ∀ b, b < w.heap.size → (∀ g cap, v0 = .slice (some ⟨g, 0, none⟩) k0 cap → b ≠ g) → w'.heap[b]? = w.heap[b]?) : EB w' g e tv := by
 refine (hk g (Array.getElem?_eq_some_iff.1 h).1 fun g' cap' e' => ?_).trans h
 rintro rfl
 rcases h0 with ⟨e0, -⟩ | ⟨g0, cap0, cur0, e0, -, h5, -⟩
 ·rw [e0] at e'; simp at e'
 ·rw [e0] at e'
  simp only [Value.slice.injEq, Option.some.injEq, Addr.mk.injEq, and_true, true_and] at e'
  obtain ⟨rfl, -⟩ := e'
  unfold EB at h
  rw [h] at h5
  simp only [Option.some.injEq, Obj.cells.injEq] at h5
  exact hE h5.2.1
theorem EL.track {w wr w' : World} {n : Nat} {v5 v6 v6' tv : Value} {t : List Trk.Clip} {L : List (Ev × Value)} {T : List (Value × List Trk.Clip)} (h : EL w wr v5 v6 L T n) (ht : OT wr w.heap.size tv t) (hp : Pool (n + 1) t)
  (hr : RowX w' w.heap.size 23 1 v6' (T.length + 1) (T.map (·.1) ++ [tv])) (hk : ∀ b, b < wr.heap.size → (∀ g cap, v6 = .slice (some ⟨g, 0, none⟩) T.length cap → b ≠ g) → w'.heap[b]? = wr.heap[b]?) :
  EL w w' v5 v6' L (T ++ [(tv, t)]) (n + 1) ∧ OT w' w.heap.size tv t := by
 have keep : ∀ {x l}, OT wr w.heap.size x l → OT w' w.heap.size x l := fun hx => RowX.keep hx h.r (by decide) hk
 refine ⟨⟨h.o.keep h.r (by decide) hk, fun x hx => ⟨(h.e x hx).1, keep (h.e x hx).2.1, (h.e x hx).2.2⟩, by simpa using hr, fun x hx => ?_, by have := h.n; simp; omega⟩, keep ht⟩
 rcases List.mem_append.1 hx with h1 | h1
 ·exact ⟨keep (h.t x h1).1, (h.t x h1).2.up (by omega)⟩
 ·rw [List.mem_singleton.1 h1]
  exact ⟨keep ht, hp⟩
theorem EL.event {w wr w' : World} {n : Nat} {v5 v5' v6 tv : Value} {e : Ev} {L : List (Ev × Value)} {T : List (Value × List Trk.Clip)} (h : EL w wr v5 v6 L T n) (he : EvT 1000000 e) (ht : OT wr w.heap.size tv e.t) (hn : e.kind ≠ 1 → e.kind ≠ 4 → tv = .slice none 0 0)
  (hr : RowX w' w.heap.size 59 6 v5' (L.length + 1) ((L.flatMap fun x => evtL x.1 x.2) ++ evtL e tv)) (hk : ∀ b, b < wr.heap.size → (∀ g cap, v5 = .slice (some ⟨g, 0, none⟩) L.length cap → b ≠ g) → w'.heap[b]? = wr.heap[b]?) :
  EL w w' v5' v6 (L ++ [(e, tv)]) T n := by
 have keep : ∀ {x l}, OT wr w.heap.size x l → OT w' w.heap.size x l := fun hx => RowX.keep hx h.o (by decide) hk
 refine ⟨by simpa using hr, fun x hx => ?_, h.r.keep h.o (by decide) hk, fun x hx => ⟨keep (h.t x hx).1, (h.t x hx).2⟩, h.n⟩
 rcases List.mem_append.1 hx with h1 | h1
 ·exact ⟨(h.e x h1).1, keep (h.e x h1).2.1, (h.e x h1).2.2⟩
 ·rw [List.mem_singleton.1 h1]
  exact ⟨he, keep ht, hn⟩
structure EvQ (e : Ev) : Prop where
 y : e.kind ≠ 7 → EvOK 1000000 e
 s : e.kind = 7 → e.base = 0 ∧ e.t = [] ∧ 1 ≤ e.ticks ∧ e.ticks ≤ 1000
section
variable {w : World} {g : Nat} {e : Ev} {tv : Value}
theorem EB.set (h : EB w g e tv) (n : Nat) (x : Value) {e' : Ev} {tv' : Value} (hx : (evtL e tv).toArray.setIfInBounds n x = (evtL e' tv').toArray) : EB (w.setCell ⟨g, n, none⟩ x) g e' tv' := by
 unfold EB at h ⊢
 rw [← hx]
 simp [World.setCell, Array.getElem?_modify, h]
theorem EB.lt (h : EB w g e tv) : g < w.heap.size := (Array.getElem?_eq_some_iff.1 h).1
theorem EB.turn {w' : World} {p : Nat} (h : EB w g e tv) (ht : Turn p w w') (hg : g ≠ p) : EB w' g e tv := (ht.o g h.lt hg).trans h
theorem EB.range (h : EB w g e tv) : w.rangeAt g 0 (evtL e tv) := by
 intro j u hj
 rw [Nat.zero_add]
 exact cell_of h (by simpa using hj)
theorem EB.fz (h : EB w g e tv) (n : Nat) : w.frozen? ⟨g, n, none⟩ = false := by
 unfold EB at h
 simp [World.frozen?, h]
theorem EB.there (h : EB w g e tv) : w.there g 0 6 := fun j hj => ⟨by
  have := h.range j _ (List.getElem?_eq_getElem (show j < (evtL e tv).length from hj))
  rw [this]; rfl, h.fz _⟩
theorem EB.put (h : EB w g e tv) (e' : Ev) (tv' : Value) : EB (w.setCells g 0 (evtL e' tv')) g e' tv' := by
 have h0 := h.set 0 (.int .i64 e'.kind) (e' := ⟨e'.kind, e.user, e.doc, e.base, e.ticks, e.t⟩) (tv' := tv) rfl
 have h1 := h0.set 1 (.string e'.user) (e' := ⟨e'.kind, e'.user, e.doc, e.base, e.ticks, e.t⟩) (tv' := tv) rfl
 have h2 := h1.set 2 (.string e'.doc) (e' := ⟨e'.kind, e'.user, e'.doc, e.base, e.ticks, e.t⟩) (tv' := tv) rfl
 have h3 := h2.set 3 (.int .i64 e'.base) (e' := ⟨e'.kind, e'.user, e'.doc, e'.base, e.ticks, e.t⟩) (tv' := tv) rfl
 have h4 := h3.set 4 (.int .i64 e'.ticks) (e' := ⟨e'.kind, e'.user, e'.doc, e'.base, e'.ticks, e.t⟩) (tv' := tv) rfl
 exact h4.set 5 tv' (e' := e') (tv' := tv') rfl
end
structure EBc (w : World) (g : Nat) (e : Ev) (tv : Value) : Prop where
 c0 : w.cell? ⟨g, 0, none⟩ = some (.int .i64 e.kind)
 c5 : w.cell? ⟨g, 5, none⟩ = some tv
theorem EB.c {w : World} {g : Nat} {e : Ev} {tv : Value} (h : EB w g e tv) : EBc w g e tv := ⟨cell_of h rfl, cell_of h rfl⟩
theorem RowX.form {w : World} {B k s : Nat} {E : TypeId} {v : Value} {xs : List Value} (h : RowX w B E s v k xs) : ∃ ao cap, v = .slice ao k cap ∧ k ≤ cap ∧ cap ≤ maxLen := by
 rcases h with ⟨rfl, rfl, -⟩ | ⟨g, cap, cur, rfl, -, -, h1, h2, -⟩
 ·exact ⟨none, 0, rfl, Nat.le_refl _, by unfold maxLen; omega⟩
 ·exact ⟨_, cap, rfl, h1, h2⟩
def SwPost (w : World) (B p g k n : Nat) (v5 : Value) (L : List (Ev × Value)) (u d : ByteArray) (v6 : Value) (wx : World) : Prop :=
 ∃ (e : Ev) (tv : Value) (T : List (Value × List Trk.Clip)) (k5 : Nat), EB wx g e tv ∧ EvQ e ∧ OT wx w.heap.size tv e.t ∧ (e.kind ≠ 1 → e.kind ≠ 4 → tv = .slice none 0 0) ∧ EL w wx v5 v6 L T (n + 1) ∧ TP wx B p k5 ∧ k5 ≤ k + 90 ∧ Turn p w wx
theorem Pool.edit {n : Nat} {t : List Trk.Clip} {E : Trk.Ed} {a en b : Int} (h : Pool n t) (hn : n ≤ 13) (hi : Iv a E en b) (a0 : 0 ≤ a) (a1 : a ≤ 100) :
  t.length + 2 + E.put.length ≤ 63 ∧ (if E.k = 1 then max E.p (Trk.total t) else E.p) + E.T ≤ 2147483647 ∧ Pool (n + 1) (Trk.nf (E.exl t)) := by
 have hl := h.l
 have hp := hi.l
 have ht := h.t
 have hT := hi.t1
 have ep := hi.p
 have h1 : t.length + 2 + E.put.length ≤ 63 := by omega
 have h2 : (if E.k = 1 then max E.p (Trk.total t) else E.p) + E.T ≤ 2147483647 := by split <;> omega
 have hx := exch_of h.v hi.v (by omega) h2
 have hlen : (E.exl t).length ≤ t.length + 1 + E.put.length := Trk.exL_length1 h.v.v.good hi.v.x.p hi.v.x.rem_nonneg
 have hn2 := Trk.nf_length (exl_vl h.v hi.v h2).1.good
 have tt := hx.tt
 have u1 := hi.u1
 exact ⟨h1, h2, hx.v, hx.n, by omega, by omega⟩
theorem info23 : (Tryz.prog.info? 23).map (fun i => (i.zero, i.size, i.bytes)) = some (some (.slice none 0 0), 1, 24) := by kernel_rfl
theorem info59 : (Tryz.prog.info? 59).map (fun i => (i.zero, i.size, i.bytes)) = some (some (.agg (evtL evZ (.slice none 0 0)).toArray), 6, 80) := by kernel_rfl
theorem zeros23 (n : Nat) : (Builtin.zeroCells (Value.cells (.slice none 0 0)) n).size = n * 1 := by simp [Builtin.zeroCells, Value.cells]
theorem zeros59 (n : Nat) : (Builtin.zeroCells (Value.cells (.agg (evtL evZ (.slice none 0 0)).toArray)) n).size = n * 6 := by simp [Builtin.zeroCells, Value.cells, evtL]
theorem built_event1 (e : Ev) (tv : Value) : Tryz.prog.builtSlice 59 1 [(0, .agg (evtL e tv).toArray)] = some (evtL e tv).toArray := by kernel_rfl
theorem RowX.cell59 {w : World} {B k s0 g n : Nat} {E : TypeId} {v x : Value} {xs : List Value} {e : Ev} {tv : Value} (h : RowX w B E s0 v k xs) (he : EB w g e tv) (hE : E ≠ 59) : RowX (w.setCell ⟨g, n, none⟩ x) B E s0 v k xs := by
 rcases h with h | ⟨b, cap, cur, h1, h2, h3, h⟩
 ·exact Or.inl h
 refine Or.inr ⟨b, cap, cur, h1, h2, (setCells_other g b ?_ [x] n w).trans h3, h⟩
 rintro rfl
 unfold EB at he
 rw [he] at h3
 simp only [Option.some.injEq, Obj.cells.injEq] at h3
 exact hE h3.2.1.symm
theorem EL.store {w wr : World} {n g i : Nat} {v5 v6 x : Value} {L : List (Ev × Value)} {T : List (Value × List Trk.Clip)} {e : Ev} {tv : Value} (h : EL w wr v5 v6 L T n) (he : EB wr g e tv) (ho : ∀ b cap, v5 = .slice (some ⟨b, 0, none⟩) L.length cap → b ≠ g) :
  EL w (wr.setCell ⟨g, i, none⟩ x) v5 v6 L T n := by
 have keep : ∀ {u l}, OT wr w.heap.size u l → OT (wr.setCell ⟨g, i, none⟩ x) w.heap.size u l := fun hx => RowX.cell59 hx he (by decide)
 refine ⟨?_, fun y hy => ⟨(h.e y hy).1, keep (h.e y hy).2.1, (h.e y hy).2.2⟩, h.r.cell59 he (by decide), fun y hy => ⟨keep (h.t y hy).1, (h.t y hy).2⟩, h.n⟩
 rcases h.o with h | ⟨b, cap, cur, h1, h2, h3, h⟩
 ·exact Or.inl h
 ·exact Or.inr ⟨b, cap, cur, h1, h2, (setCells_other g b (ho b cap h1) [x] i wr).trans h3, h⟩
def EventsPost (w : World) (B p k m : Nat) (e : Ending) (w' : World) : Prop :=
 (∃ (v : Value) (L : List (Ev × Value)), e = .returned v ∧ L.length ≤ m ∧ RowX w' w.heap.size 59 6 v L.length (L.flatMap fun x => evtL x.1 x.2) ∧
  ∀ x ∈ L, EvT 1000000 x.1 ∧ OT w' w.heap.size x.2 x.1.t ∧ (x.1.kind ≠ 1 → x.1.kind ≠ 4 → x.2 = .slice none 0 0)) ∧ TQ w B p k (1 + m * 100) w'
set_option maxRecDepth 100000 in
set_option maxHeartbeats 16000000 in
theorem events_any (B p k m : Nat) (w : World) (ht : TP w B p k) (hk : k < 100000) (hm : m ≤ 14) :
  Calls Tryz.prog 25 #[.pointer (some ⟨p, 0, none⟩), .int .i64 (m : Int)] w (EventsPost w B p k m) := by
 have HT := Lib.hid ht
 have hB := ht.1
 have hp := ht.2.1
 clear ht
 go_enter Tryz.func25, Tryz.ntmps25
 go_wp2_with fail
 refine (long_any _).mono ?_
 rintro e w1 ⟨v1, rfl, ho, hb⟩
 obtain ⟨ga, ca, e1, -⟩ := ho.tk
 have HO := Lib.hid ho
 have HU := Lib.hid (Turn.of (g := p) (Nat.le_of_lt hp) hb)
 replace HT := Lib.hid (HT.out.low (n := w.heap.size) (by omega) hp hb)
 clear ho hb
 subst e1
 go_wp2_with fail
 have hb : Below w1.heap.size w1 (w1.alloc (.cells #[.slice ga 1 ca] 23)) := below_box _ _
 have hrow : RowX (w1.alloc (.cells #[.slice ga 1 ca] 23)) w.heap.size 23 1 (.slice (some ⟨w1.heap.size, 0, none⟩) 1 1) 1 [.slice ga 1 ca] := .inr ⟨w1.heap.size, 1, #[.slice ga 1 ca], rfl, HU.out.s, (MapKept.heap_alloc w1 _).1, Nat.le_refl _, by unfold maxLen; omega, rfl, rfl, rfl⟩
 have HE := Lib.hid (show EL w (w1.alloc (.cells #[.slice ga 1 ca] 23)) (.slice none 0 0) (.slice (some ⟨w1.heap.size, 0, none⟩) 1 1) [] [(.slice ga 1 ca, [longC])] 0 from
  ⟨.inl ⟨rfl, rfl, rfl⟩, fun x hx => (by cases hx), hrow, fun x hx => (by rw [List.mem_singleton.1 hx]; exact ⟨HO.out.below hb, long_vt, norm_long, Nat.le_refl _, (show Trk.total [longC] ≤ 150 + 127 * ((0 : Nat) : Int) by decide)⟩), Nat.le_refl _, Nat.le_refl _⟩)
 have HS1 := Lib.hid HU.out.s
 replace HU := Lib.hid (HU.out.trans (Turn.of (g := p) (by have := HT.out.2.1; omega) hb))
 replace HT := Lib.hid (HT.out.low (n := w.heap.size) (by omega) hp (hb.mono HS1.out))
 obtain ⟨w2, hw2⟩ : ∃ y, y = w1.alloc (.cells #[.slice ga 1 ca] 23) := ⟨_, rfl⟩
 rw [← hw2] at HE HU HT ⊢
 clear hw2 hb hrow HO HS1
 refine (next_any B p k ((m : Int) + 1) _ HT.out (by omega) (by omega) (by omega)).mono ?_
 rintro e w3 ⟨r, rfl, r0, r1, hT_, hg_⟩
 obtain ⟨r, rfl⟩ : ∃ n : Nat, r = n := ⟨r.toNat, by omega⟩
 have htn := Turn.grown hg_ HT.out.2.1
 replace HE := Lib.hid (HE.out.turn htn hp)
 replace HU := Lib.hid (HU.out.trans htn)
 replace HT := Lib.hid hT_
 have hrm : r ≤ m := by omega
 clear hT_ hg_ r0 r1 htn
 go_wp2_with fail
 go_loopw [5, 6, 7] (fun v5 v6 v7 wr => ∃ (j k' : Nat) (L : List (Ev × Value)) (T : List (Value × List Trk.Clip)), L.length + j ≤ m ∧ v7 = .int .i64 (j : Int) ∧ EL w wr v5 v6 L T L.length ∧ k' + j * 100 ≤ k + 1 + m * 100 ∧ TP wr B p k' ∧ Turn p w wr) (fun _ _ i _ => (intOf i).toNat)
 case atStart => exact ⟨r, k + 1, [], _, by simpa using hrm, rfl, HE.out, by have : r * 100 ≤ m * 100 := Nat.mul_le_mul_right _ hrm; omega, HT.out, HU.out⟩
 case round =>
  clear HT HU HE
  obtain ⟨j, k', L, T, hj, rfl, he, hk', ht, hu⟩ := hrel
  have HE := Lib.hid he
  have HT := Lib.hid ht
  have HU := Lib.hid hu
  have HK := Lib.hid (show k' ≤ k + 1 + m * 100 by omega)
  clear he ht hu
  by_cases hj0 : 0 < j
  ·have hj0' : (0 : Int) < (j : Int) := by omega
   go_upto_region 6 with fail
   have hbd : Below wr.heap.size wr wr.drew := (Below.refl _ _).drew
   refine Plan.wp_region_freshe (Turn p) (fun n wx => ∃ k2, k2 ≤ k' + n ∧ TP wx B p k2) 18 (evG p) ([1, 6, 11].map (·, true)) evS ([18].map (·, false)) 101 (by kernel_rfl) (by kernel_rfl) (by kernel_rfl) (Turn.refl p) (fun _ _ _ => Turn.trans) (fun _ _ h => h.s) (fun i lo hi v wa wb h => evG.turn i lo hi v wa wb h) ?_
   refine' Plan.plan_seg _ [1, 6, 11] [] (by kernel_rfl) (by kernel_rfl) rfl (by exact trivial) (fun wx hS => ?_) ?_
   rotate_left
   ·clear hS
    go_light
    iterate 3 (apply Plan.seg_pick; rfl; intro K hK; go_wp)
    exact Plan.seg_nil
   refine Plan.plan_nil ?_
   refine Plan.fresh_atE_gen (fun A => A.tmps.size = 101 ∧ A.tmps[23]? = some (.pointer (some ⟨p, 0, none⟩)) ∧ A.tmps[28]? = some (.pointer (some ⟨p, 0, none⟩)) ∧ A.tmps[33]? = some (.pointer (some ⟨p, 0, none⟩))) ⟨rfl, rfl, rfl, rfl⟩ rfl ⟨k', Nat.le_refl _, HT.out.low (n := w.heap.size) (by omega) hp (hbd.mono HU.out.s)⟩ (fun Aq hA => ?_) ?_
   ·obtain ⟨hsz, e23, e28, e33⟩ := hA
    intro p' hp' o ho vs wx lo hi jj hjj hS hE hG K hK
    have hK2 : jj < 15 := hjj
    have tin : ∀ i s, (i, s) ∈ evS → (∀ q ∈ evS, q.2 = s → q.1 = i) → s < 101 → (Plan.puts vs evS Aq).eval (.tmp s) = vs i := fun i s h1 h2 h3 => Plan.eval_in h1 h2 (by rw [hsz]; exact h3)
    have tout : ∀ s x, (∀ q ∈ evS, q.2 ≠ s) → Aq.tmps[s]? = some x → (Plan.puts vs evS Aq).eval (.tmp s) = x := fun s x h1 h2 => by rw [Plan.eval_out h1]; simp [Act.eval, Array.getD_eq_getD_getElem?, h2]
    have hpx : p < wx.heap.size := by obtain ⟨_, _, h⟩ := hS; exact h.2.1
    have next : ∀ (n : Int) (i : Nat), 1 ≤ n → n ≤ 1000 → (∀ r : Int, 0 ≤ r → r < n → ∀ lo' hi' w', evG p i lo' hi' (.int .i64 r) w') → ∀ (K2 : Value → World → Prop), (∀ v w', evG p i wx.heap.size w'.heap.size v w' → Turn p wx w' → (∃ k2, k2 ≤ k' + (jj + 1) ∧ TP w' B p k2) → K2 v w') →
      Calls Tryz.prog 39 #[.pointer (some ⟨p, 0, none⟩), .int .i64 n] wx (fun e w' => ∃ r, e = .returned r ∧ K2 r w') := by
     intro n i n0 n1 hg K2 hK3
     obtain ⟨k2, hk2, ht2⟩ := hS
     refine (next_any B p k2 n wx ht2 (by have := HK.out; omega) n0 (by omega)).mono ?_
     rintro e w' ⟨r, rfl, r0, r1, h1, h2⟩
     exact ⟨_, rfl, hK3 _ _ (hg r r0 r1 _ _ _) (Turn.grown h2 hpx) ⟨k2 + 1, by omega, h1⟩⟩
    have fresh : ∀ (C : Array Value) (T : TypeId), Turn p wx (wx.alloc (.cells C T)) ∧ (∃ k2, k2 ≤ k' + (jj + 1) ∧ TP (wx.alloc (.cells C T)) B p k2) ∧ wx.heap.size ≠ p ∧ wx.heap.size < (wx.alloc (.cells C T)).heap.size ∧ (wx.alloc (.cells C T)).heap[wx.heap.size]? = some (.cells C T (0, 0)) := fun C T =>
     ⟨Turn.of (Nat.le_of_lt hpx) (below_box _ _), sc_below hS (below_box _ _), by omega, by simp [go_sem], (MapKept.heap_alloc wx _).1⟩
    clear hjj
    simp only [evS, List.mem_cons, List.not_mem_nil, or_false] at hp'
    rcases hp' with rfl | rfl | rfl | rfl | rfl | rfl | rfl | rfl | rfl | rfl | rfl | rfl | rfl | rfl | rfl
    all_goals obtain rfl := Option.some.inj ho
    ·obtain ⟨f1, f2, f3, f4, f5⟩ := fresh evKinds 3
     refine Great.wpList_buildSliceTo rfl 24 3 11 _ rfl wx.heap.size rfl (some 22) rfl Tryz.underlying24 evKinds ?_ ?_
     ·kernel_rfl
     refine wpList_nil ?_
     exact hK _ _ (by rw [evG0]; exact ⟨rfl, f3, f4, f5⟩) f1 f2
    ·have t23 := tout 23 _ (by decide) e23
     refine Plan.one_call rfl 39 Tryz.func39 (by kernel_rfl) (by kernel_rfl) #[.tmp 23, .const (.int .i64 11)] #[50, 3] rfl #[.pointer (some ⟨p, 0, none⟩), .int .i64 11] (by simp only [List.map_toArray, List.map_cons, List.map_nil, t23]; rfl) (fun v w' => K ((Plan.puts vs evS Aq).put (some 24) v) w') ?_ (fun v w' h => h)
     exact next 11 2 (by omega) (by omega) (fun r r0 r1 _ _ _ => by rw [evG2]; exact ⟨r, rfl, r0, r1⟩) _ hK
    ·have t1 := tin 0 22 (by decide) (by decide) (by decide)
     have t2 := tin 2 24 (by decide) (by decide) (by decide)
     have g1 := hG (0, 22) (by decide) (by decide)
     have g2 := hG (2, 24) (by decide) (by decide)
     rw [evG0] at g1
     rw [evG2] at g2
     obtain ⟨q1, q2, q3, q4⟩ := g1
     obtain ⟨r, q5, r0, r1⟩ := g2
     obtain ⟨x, hx, hok⟩ := kinds_get r r0 r1
     refine one_index 24 Tryz.underlying24 (by kernel_rfl) _ _ rfl rfl (lo 0) 11 11 r (t1.trans q1) (t2.trans q5) r0 r1 ?_
     exact hK _ _ (by rw [evG3]; exact ⟨_, _, x, rfl, q2, cell_of q4 hx, hok⟩) (Turn.refl _ _) (sc_same hS)
    ·have t1 := tin 3 25 (by decide) (by decide) (by decide)
     have g1 := hG (3, 25) (by decide) (by decide)
     rw [evG3] at g1
     obtain ⟨b, o, x, q1, q2, q3, q4⟩ := g1
     refine one_load3 _ rfl rfl b o x (t1.trans q1) q3 ?_
     exact hK _ _ (by rw [evG4]; exact ⟨x, rfl, q4⟩) (Turn.refl _ _) (sc_same hS)
    ·obtain ⟨f1, f2, f3, f4, f5⟩ := fresh evUsers 9
     refine Great.wpList_buildSliceTo rfl 107 9 2 _ rfl wx.heap.size rfl (some 27) rfl Tryz.underlying107 evUsers ?_ ?_
     ·kernel_rfl
     refine wpList_nil ?_
     exact hK _ _ (by rw [evG5]; exact ⟨rfl, f3, f4, f5⟩) f1 f2
    ·have t1 := tout 28 _ (by decide) e28
     refine Plan.one_call rfl 39 Tryz.func39 (by kernel_rfl) (by kernel_rfl) #[.tmp 28, .const (.int .i64 2)] #[50, 3] rfl #[.pointer (some ⟨p, 0, none⟩), .int .i64 2] (by simp only [List.map_toArray, List.map_cons, List.map_nil, t1]; rfl) (fun v w' => K ((Plan.puts vs evS Aq).put (some 29) v) w') ?_ (fun v w' h => h)
     exact next 2 7 (by omega) (by omega) (fun r r0 r1 _ _ _ => by rw [evG7]; exact ⟨r, rfl, r0, r1⟩) _ hK
    ·have t1 := tin 5 27 (by decide) (by decide) (by decide)
     have t2 := tin 7 29 (by decide) (by decide) (by decide)
     have g1 := hG (5, 27) (by decide) (by decide)
     have g2 := hG (7, 29) (by decide) (by decide)
     rw [evG5] at g1
     rw [evG7] at g2
     obtain ⟨q1, q2, q3, q4⟩ := g1
     obtain ⟨r, q5, r0, r1⟩ := g2
     obtain ⟨x, hx, hok⟩ := users_get r r0 r1
     refine one_index 107 Tryz.underlying107 (by kernel_rfl) _ _ rfl rfl (lo 5) 2 2 r (t1.trans q1) (t2.trans q5) r0 r1 ?_
     exact hK _ _ (by rw [evG8]; exact ⟨_, _, x, rfl, q2, cell_of q4 hx, hok⟩) (Turn.refl _ _) (sc_same hS)
    ·have t1 := tin 8 30 (by decide) (by decide) (by decide)
     have g1 := hG (8, 30) (by decide) (by decide)
     rw [evG8] at g1
     obtain ⟨b, o, x, q1, q2, q3, q4⟩ := g1
     refine one_load9 _ rfl rfl b o x (t1.trans q1) q3 ?_
     exact hK _ _ (by rw [evG9]; exact ⟨x, rfl, q4⟩) (Turn.refl _ _) (sc_same hS)
    ·obtain ⟨f1, f2, f3, f4, f5⟩ := fresh evDocs 9
     refine Great.wpList_buildSliceTo rfl 107 9 2 _ rfl wx.heap.size rfl (some 32) rfl Tryz.underlying107 evDocs ?_ ?_
     ·kernel_rfl
     refine wpList_nil ?_
     exact hK _ _ (by rw [evG10]; exact ⟨rfl, f3, f4, f5⟩) f1 f2
    ·have t1 := tout 33 _ (by decide) e33
     refine Plan.one_call rfl 39 Tryz.func39 (by kernel_rfl) (by kernel_rfl) #[.tmp 33, .const (.int .i64 8)] #[50, 3] rfl #[.pointer (some ⟨p, 0, none⟩), .int .i64 8] (by simp only [List.map_toArray, List.map_cons, List.map_nil, t1]; rfl) (fun v w' => K ((Plan.puts vs evS Aq).put (some 34) v) w') ?_ (fun v w' h => h)
     exact next 8 12 (by omega) (by omega) (fun r r0 r1 _ _ _ => by rw [evG12]; exact ⟨r, rfl, r0, r1⟩) _ hK
    ·have t1 := tin 12 34 (by decide) (by decide) (by decide)
     have g1 := hG (12, 34) (by decide) (by decide)
     rw [evG12] at g1
     obtain ⟨r, q1, r0, r1⟩ := g1
     refine one_quo7 _ rfl rfl r (t1.trans q1) r0 r1 fun q h0 h1 => ?_
     exact hK _ _ (by rw [evG13]; exact ⟨q, rfl, h0, h1⟩) (Turn.refl _ _) (sc_same hS)
    ·have t1 := tin 10 32 (by decide) (by decide) (by decide)
     have t2 := tin 13 35 (by decide) (by decide) (by decide)
     have g1 := hG (10, 32) (by decide) (by decide)
     have g2 := hG (13, 35) (by decide) (by decide)
     rw [evG10] at g1
     rw [evG13] at g2
     obtain ⟨q1, q2, q3, q4⟩ := g1
     obtain ⟨r, q5, r0, r1⟩ := g2
     obtain ⟨x, hx, hok⟩ := docs_get r r0 r1
     refine one_index 107 Tryz.underlying107 (by kernel_rfl) _ _ rfl rfl (lo 10) 2 2 r (t1.trans q1) (t2.trans q5) r0 r1 ?_
     exact hK _ _ (by rw [evG14]; exact ⟨_, _, x, rfl, q2, cell_of q4 hx, hok⟩) (Turn.refl _ _) (sc_same hS)
    ·have t1 := tin 14 36 (by decide) (by decide) (by decide)
     have g1 := hG (14, 36) (by decide) (by decide)
     rw [evG14] at g1
     obtain ⟨b, o, x, q1, q2, q3, q4⟩ := g1
     refine one_load9 _ rfl rfl b o x (t1.trans q1) q3 ?_
     exact hK _ _ (by rw [evG15]; exact ⟨x, rfl, q4⟩) (Turn.refl _ _) (sc_same hS)
    ·have t1 := tin 4 26 (by decide) (by decide) (by decide)
     have t2 := tin 9 31 (by decide) (by decide) (by decide)
     have t3 := tin 15 37 (by decide) (by decide) (by decide)
     have g1 := hG (4, 26) (by decide) (by decide)
     have g2 := hG (9, 31) (by decide) (by decide)
     have g3 := hG (15, 37) (by decide) (by decide)
     rw [evG4] at g1
     rw [evG9] at g2
     rw [evG15] at g3
     obtain ⟨x, q1, qx⟩ := g1
     obtain ⟨u, q2, qu⟩ := g2
     obtain ⟨d, q3, qd⟩ := g3
     refine one_build _ _ _ rfl rfl x u d (t1.trans q1) (t2.trans q2) (t3.trans q3) ?_
     exact hK _ _ (by rw [evG16]; exact ⟨x, u, d, rfl, qx, qu, qd⟩) (Turn.refl _ _) (sc_same hS)
    ·obtain ⟨f1, f2, f3, f4, f5⟩ := fresh (evtL evZ (.slice none 0 0)).toArray 59
     refine one_alloc rfl rfl ?_
     exact hK _ _ (by rw [evG17]; exact ⟨rfl, f3, f4, f5⟩) f1 f2
   ·intro vs lo hi w4 hS hE4 hall hap
    have h16 := (hall (16, 38) (by decide)).1
    have h17 := (hall (17, 8) (by decide)).1
    have l17 := (hall (17, 8) (by decide)).2.1
    clear hall hap
    rw [evG16] at h16
    rw [evG17] at h17
    obtain ⟨x, u, d, e16, hx, hu, hd⟩ := h16
    obtain ⟨e17, hgp, hgl, heb⟩ := h17
    obtain ⟨k3, hk3, ht3⟩ := hS
    have hk3' : k3 ≤ k' + 15 := hk3
    obtain ⟨g, hg⟩ : ∃ g, g = lo 17 := ⟨_, rfl⟩
    rw [← hg] at e17 hgp hgl heb l17
    have hu4 : Turn p wr w4 := (Turn.of (g := p) (Nat.le_of_lt HT.out.2.1) hbd).trans hE4
    have l17' : wr.heap.size ≤ g := l17
    simp only [evS, Plan.puts, Act.put, List.setIfInBounds_toArray, List.set_cons_succ, List.set_cons_zero]
    rw [e16, e17]
    refine Plan.plan_of_last rfl (fun K hK => ?_)
    refine wpList_store_mid rfl 59 _ _ rfl g 0 (evtL ⟨x, u, d, 0, 0, []⟩ (.slice none 0 0)).toArray rfl rfl heb.there (by kernel_rfl) (by simp [evtL, Value.oneCell']) ?_
    refine wpList_nil ?_
    refine hK _ _ ?_
    refine Plan.plan_done ?_
    rw [List.toList_toArray]
    have heb5 := heb.put ⟨x, u, d, 0, 0, []⟩ (.slice none 0 0)
    have htc : Turn g w4 (w4.setCells g 0 (evtL ⟨x, u, d, 0, 0, []⟩ (.slice none 0 0))) := Turn.cells g 0 _ w4
    obtain ⟨w5, hw5⟩ : ∃ y, y = w4.setCells g 0 (evtL ⟨x, u, d, 0, 0, []⟩ (.slice none 0 0)) := ⟨_, rfl⟩
    rw [← hw5] at heb5 htc ⊢
    have hpw := HT.out.2.1
    have HT5 := Lib.hid (show TP w5 B p k3 from ht3.turn htc (by omega) (by omega))
    have HU5 := Lib.hid (show Turn p wr w5 from hu4.into l17' (by omega) htc)
    have HB5 := Lib.hid heb5
    have HG := Lib.hid (show wr.heap.size ≤ g ∧ g ≠ p ∧ k3 ≤ k' + 15 from ⟨l17', hgp, hk3'⟩)
    have HX := Lib.hid (And.intro hx (And.intro hu hd))
    clear heb5 htc hw5 hu4 l17' l17 hE4 hgp hgl heb ht3 hk3 hk3' hx hu hd e16 e17 hg hbd hpw
    clear hK K
    simp only [List.getElem_toArray, List.getElem_cons_succ, List.getElem_cons_zero, Act.put]
    apply_assumption
    obtain ⟨a5, c5, e5, h5, h5'⟩ := HE.out.o.form
    subst e5
    refine wp_seq_k (fun K7 hK7 => ?_)
    obtain ⟨N, hN⟩ : ∃ N, N = L.length := ⟨_, rfl⟩
    rw [← hN]
    have HN := Lib.hid hN
    clear hN h5 h5'
    go_cut [] from 22 to 47 (fun wx => ∃ (x' : Int) (k4 : Nat), KindOK x' ∧ EB wx g ⟨x', u, d, 0, 0, []⟩ (.slice none 0 0) ∧ TP wx B p k4 ∧ k4 ≤ k' + 16 ∧ Turn p wr wx)
    case first =>
     by_cases hL : N = 0
     ·have hL0 : ((N : Int) == 0) = true := by rw [hL]; rfl
      clear hL
      go_wp2_with fail
      refine (next_any B p k3 8 w5 HT5.out (by have := HK.out; have := HG.out; omega) (by omega) (by omega)).mono ?_
      rintro e w6 ⟨r2, rfl, r20, r21, hT_, hg_⟩
      have htn := Turn.grown hg_ HT5.out.2.1
      have heb := HB5.out.turn htn HG.out.2.1
      have hu6 := HU5.out.trans htn
      clear hg_ htn
      by_cases hr2 : 0 < r2
      ·have c0 := heb.c.c0
       have f0 := heb.fz 0
       have hset := heb.set 0 (.int .i64 1) (e' := ⟨1, u, d, 0, 0, []⟩) (tv' := .slice none 0 0) rfl
       have HQ := Lib.hid (show ∃ (x' : Int) (k4 : Nat), KindOK x' ∧ EB (w6.setCell ⟨g, 0, none⟩ (.int .i64 1)) g ⟨x', u, d, 0, 0, []⟩ (.slice none 0 0) ∧ TP (w6.setCell ⟨g, 0, none⟩ (.int .i64 1)) B p k4 ∧ k4 ≤ k' + 16 ∧ Turn p wr (w6.setCell ⟨g, 0, none⟩ (.int .i64 1)) from
        ⟨1, k3 + 1, ⟨by omega, by omega⟩, hset, hT_.turn (Turn.cell g 0 _ w6) (by have := HG.out; have := HT.out.2.1; have := HT.out.1; omega) (by have := HG.out; have := HT.out.2.1; omega), by have := HG.out; omega, hu6.into HG.out.1 (by have := HG.out; have := HT.out.2.1; omega) (Turn.cell g 0 _ w6)⟩)
       clear heb hset hT_ hu6 r20 r21
       go_wp2_with fail
       all_goals go_meet
       exact HQ.out
      ·have hr2' : ¬ 0 < r2 := hr2
       have HQ := Lib.hid (show ∃ (x' : Int) (k4 : Nat), KindOK x' ∧ EB w6 g ⟨x', u, d, 0, 0, []⟩ (.slice none 0 0) ∧ TP w6 B p k4 ∧ k4 ≤ k' + 16 ∧ Turn p wr w6 from
        ⟨x, k3 + 1, HX.out.1, heb, hT_, by have := HG.out; omega, hu6⟩)
       clear heb hT_ hu6 r20 r21
       go_wp2_with fail
       all_goals go_meet
       exact HQ.out
     ·have hL0 : ((N : Int) == 0) = false := by
       have : (N : Int) ≠ 0 := by omega
       simpa using this
      clear hL
      go_wp2_with fail
      all_goals go_meet
      exact ⟨x, k3, HX.out.1, HB5.out, HT5.out, by have := HG.out; omega, HU5.out⟩
    clear HT5 HU5 HB5
    obtain ⟨x', k4, hx', heb, ht4, hk4, hu4⟩ := hcut
    have HE4 := Lib.hid (HE.out.turn hu4 hp)
    have HT4 := Lib.hid ht4
    have HU4 := Lib.hid (HU.out.trans hu4)
    have HR4 := Lib.hid hu4
    have HB4 := Lib.hid heb
    have HK4 := Lib.hid (show k4 ≤ k' + 16 ∧ wr.heap.size ≤ g ∧ g ≠ p ∧ w.heap.size ≤ g from ⟨hk4, HG.out.1, HG.out.2.1, Nat.le_trans HU.out.s HG.out.1⟩)
    have HX4 := Lib.hid (And.intro hx' HX.out.2)
    obtain ⟨M, hM⟩ : ∃ M, M = T.length := ⟨_, rfl⟩
    have hM1 : 1 ≤ M := by rw [hM]; exact HE.out.n.1
    obtain ⟨a6, c6, e6, h6, h6'⟩ := HE.out.r.form
    rw [← hM] at e6 h6
    obtain ⟨g6, rfl⟩ : ∃ g6, a6 = some ⟨g6, 0, none⟩ := by
     rcases HE.out.r with ⟨_, e2, _⟩ | ⟨g', cap', cur, e, _⟩
     ·omega
     ·rw [e6] at e
      simp only [Value.slice.injEq] at e
      exact ⟨g', e.1⟩
    subst e6
    have hcell : ∀ (i : Nat) (x : Value × List Trk.Clip), T[i]? = some x → ∀ wz, Turn p wr wz → wz.cell? ⟨g6, i, none⟩ = some x.1 := fun i x hi wz hz => by
     have := hM ▸ (HE.out.turn hz hp).r
     exact this.cell (by rw [List.getElem?_map, hi]; rfl)
    have HCT := Lib.hid hcell
    have HM := Lib.hid (And.intro hM (And.intro h6 h6'))
    clear ht4 hu4 heb hk4 hx' HG HX hcell hM h6 h6'
    apply hK7
    clear hK7 K7
    refine wp_seq_k (fun K8 hK8 => ?_)
    go_cut [6, 9, 10, 11] from 22 to 90 (fun v6 v9 v10 v11 wx => SwPost w B p g k' N (.slice a5 N c5) L u d v6 wx)
    case first =>
     clear hK8
     have c0 := HB4.out.c.c0
     dsimp only at c0
     have quiet := fun (h : x' = 3 ∨ x' = 5 ∨ x' = 6) => show SwPost w B p g k' N (.slice a5 N c5) L u d (.slice (some ⟨g6, 0, none⟩) M c6) _ from
      ⟨⟨x', u, d, 0, 0, []⟩, .slice none 0 0, T, k4, HB4.out, ⟨fun _ => ⟨by dsimp only; omega, HX4.out.2.1, HX4.out.2.2, vt_nil, fun _ => rfl, fun _ => rfl, fun h2 => by dsimp only at h2; omega⟩, fun h2 => by dsimp only at h2; omega⟩, OT.nil _ _, fun _ _ => rfl, by rw [HN.out]; exact HE4.out.up (Nat.le_succ _), HT4.out, by have := HK4.out; omega, HU4.out⟩
     have HQ := Lib.hid quiet
     clear quiet
     rcases (show x' = 1 ∨ x' = 2 ∨ x' = 3 ∨ x' = 4 ∨ x' = 5 ∨ x' = 6 ∨ x' = 7 by have := HX4.out.1; unfold KindOK at this; omega) with rfl | rfl | rfl | rfl | rfl | rfl | rfl
     ·obtain ⟨⟨tv, t⟩, hT0⟩ : ∃ x, T[0]? = some x := ⟨_, List.getElem?_eq_getElem (by have := HM.out.1; omega)⟩
      have y0 := HCT.out 0 _ hT0 _ HR4.out
      dsimp only at y0
      have f5 := HB4.out.fz 5
      have c5' := HB4.out.c.c5
      have hst := HB4.out.set 5 tv (e' := ⟨1, u, d, 0, 0, t⟩) (tv' := tv) rfl
      have hin := HR4.out.into HK4.out.2.1 (by have := HK4.out; have := HT.out.2.1; omega) (Turn.cell g 5 tv _)
      have hmem := List.mem_of_getElem? hT0
      have HQ1 := Lib.hid (show SwPost w B p g k' N (.slice a5 N c5) L u d (.slice (some ⟨g6, 0, none⟩) M c6) _ from
       ⟨⟨1, u, d, 0, 0, t⟩, tv, T, k4, hst, ⟨fun _ => ⟨.inl rfl, HX4.out.2.1, HX4.out.2.2, ((HE.out.t _ hmem).2).v, fun _ => rfl, fun _ => rfl, fun h2 => absurd h2 (show (1 : Int) ≠ 2 by decide)⟩, fun h2 => absurd h2 (show (1 : Int) ≠ 7 by decide)⟩, ((HE.out.turn hin hp).t _ hmem).1, fun h2 => absurd rfl h2, by rw [HN.out]; exact (HE.out.turn hin hp).up (Nat.le_succ _), HT4.out.turn (Turn.cell g 5 tv _) (by have := HK4.out; have := HT.out; have := HT.out.1; have := HT.out.2.1; omega) (by have := HK4.out; omega), by have := HK4.out; omega, HU.out.trans hin⟩)
      obtain ⟨ta, tk, tc, rfl⟩ : ∃ ta tk tc, tv = .slice ta tk tc := by
       obtain ⟨q1, q2, q3, -⟩ := ((HE.out.t _ hmem).1).tk
       exact ⟨_, _, _, q3⟩
      have hM0 : (0 : Int) < (M : Int) := by omega
      clear hst hin hmem HQ
      go_wp2_with fail
      all_goals go_meet
      exact HQ1.out
     ·clear HQ
      go_wp2_with fail
      refine (next_any B p k4 9 _ HT4.out (by have := HK.out; have := HK4.out; omega) (by omega) (by omega)).mono ?_
      rintro e wy ⟨r2, rfl, r20, r21, hT_, hg_⟩
      have htn := Turn.grown hg_ HT4.out.2.1
      have heb := HB4.out.turn htn HK4.out.2.2.1
      obtain ⟨q, hq⟩ : ∃ q, q = 1 + r2 := ⟨_, rfl⟩
      have hq' : 1 + r2 = q := hq.symm
      have q1 : 1 ≤ q := by omega
      have q2 : q ≤ 1000 := by omega
      have f4 := heb.fz 4
      have c4' : wy.cell? ⟨g, 4, none⟩ = some (.int .i64 0) := cell_of heb rfl
      have hst := heb.set 4 (.int .i64 q) (e' := ⟨2, u, d, 0, q, []⟩) (tv' := .slice none 0 0) rfl
      have hin := (HR4.out.trans htn).into HK4.out.2.1 (by have := HK4.out; have := HT.out.2.1; omega) (Turn.cell g 4 (.int .i64 q) _)
      have HQ1 := Lib.hid (show SwPost w B p g k' N (.slice a5 N c5) L u d (.slice (some ⟨g6, 0, none⟩) M c6) _ from
       ⟨⟨2, u, d, 0, q, []⟩, .slice none 0 0, T, k4 + 1, hst, ⟨fun _ => ⟨.inr (.inl rfl), HX4.out.2.1, HX4.out.2.2, vt_nil, fun _ => rfl, fun h2 => absurd rfl h2, fun _ => ⟨by dsimp only; omega, by dsimp only; omega⟩⟩, fun h2 => absurd h2 (show (2 : Int) ≠ 7 by decide)⟩, OT.nil _ _, fun _ _ => rfl, by rw [HN.out]; exact (HE.out.turn hin hp).up (Nat.le_succ _), hT_.turn (Turn.cell g 4 (.int .i64 q) _) (by have := HK4.out; have := HT.out.1; have := HT.out.2.1; omega) (by have := HK4.out; omega), by have := HK4.out; omega, HU.out.trans hin⟩)
      have q3 : -9223372036854775808 ≤ q := by omega
      have q4 : q ≤ 9223372036854775807 := by omega
      clear hst hin hT_ hg_ htn heb r20 r21 hq q1 q2
      go_wp2_with fail
      all_goals go_meet
      exact HQ1.out
     ·go_wp2_with fail
      all_goals go_meet
      exact HQ.out (by simp)
     ·clear HQ
      go_wp2_with fail
      refine (next_any B p k4 100 _ HT4.out (by have := HK.out; have := HK4.out; omega) (by omega) (by omega)).mono ?_
      rintro e wy ⟨a1, rfl, a10, a11, hT_, hg_⟩
      have htn := Turn.grown hg_ HT4.out.2.1
      have HRy := Lib.hid (HR4.out.trans htn)
      have HBy := Lib.hid (HB4.out.turn htn HK4.out.2.2.1)
      have HTy := Lib.hid hT_
      clear hT_ hg_ htn c0
      go_wp2_with fail
      refine (interval_any B p (k4 + 1) a1 _ HTy.out (by have := HK.out; have := HK4.out; omega) (by omega) (by omega)).mono ?_
      rintro e wz ⟨⟨E, V, n1, b1, rfl, hiv, hov⟩, ⟨k6, hk6, hT_⟩, hgr⟩
      have HRz := Lib.hid (HRy.out.trans hgr)
      have HBz := Lib.hid (HBy.out.turn hgr HK4.out.2.2.1)
      have HTz := Lib.hid hT_
      have HVz := Lib.hid (hov.lower (show w.heap.size ≤ wy.heap.size from Nat.le_trans HU.out.s HRy.out.s))
      have HIV := Lib.hid (And.intro hiv (And.intro a10 a11))
      have HK6 := Lib.hid hk6
      obtain ⟨bo, dp, rfl, -⟩ := hov.tk
      clear hiv hov hk6 hT_ hgr a10 a11
      unfold EdV edV
      obtain ⟨ni, hni⟩ : ∃ n, n = E.ins.length := ⟨_, rfl⟩
      rw [← hni] at HVz ⊢
      have HNI := Lib.hid hni
      clear hni
      dsimp only
      iterate 16 go_step
      refine wpl_storeE E.k E.p E.m E.c E.d E.sn E.sd bo ni dp (ED.box wz 0 0 0 0 0 0 0 (.slice none 0 0) rfl 40) rfl rfl rfl rfl (fun w6 he6 hk6 hs6 hb6 _ => ?_)
      have hbx : Below wz.heap.size wz (wz.alloc (.cells (edC 0 0 0 0 0 0 0 (.slice none 0 0)) 40)) := below_box _ _
      have hpz : p < wz.heap.size := HTz.out.2.1
      have hst : Turn wz.heap.size (wz.alloc (.cells (edC 0 0 0 0 0 0 0 (.slice none 0 0)) 40)) w6 := ⟨Nat.le_of_eq hs6.symm, fun b _ hn => hk6 b hn, fun n w0 hn hb => hb6 n w0 hn hb⟩
      have ht6 : Turn p wz w6 := (Turn.of (Nat.le_of_lt hpz) hbx).into (Nat.le_refl _) (by omega) hst
      have HE6 := Lib.hid he6
      have HR6 := Lib.hid (HRz.out.trans ht6)
      have HB6 := Lib.hid (HBz.out.turn ht6 HK4.out.2.2.1)
      have HV6 := Lib.hid (HVz.out.turn ht6 hp)
      have HT6 := Lib.hid (show TP w6 B p k6 from (HTz.out.low (n := wz.heap.size) (by omega) hpz hbx).turn hst (by omega) (by omega))
      obtain ⟨g9, hg9⟩ : ∃ y, y = wz.heap.size := ⟨_, rfl⟩
      have HG9 := Lib.hid (show g9 ≠ p ∧ g9 < w6.heap.size ∧ wr.heap.size ≤ g9 by have := ht6.s; have := HRz.out.s; have := he6.lt; omega)
      rw [← hg9] at HE6 ⊢
      clear he6 hk6 hs6 hb6 hbx hpz hst ht6 HBz HTz HVz HRz HBy HTy HRy hg9 HT4 HB4 HR4 HU4 HE4
      simp only [Act.put, List.setIfInBounds_toArray, List.set_cons_succ, List.set_cons_zero]
      go_upto_region 17 with fail
      have HD6 := Lib.hid (show Turn p w6 w6.drew from Turn.of (Nat.le_of_lt HT6.out.2.1) (Below.refl _ _).drew)
      refine Plan.wp_region_planz (fun wx => Turn p w6 wx) 10 ([0, 1, 2, 3, 7].map (·, true) ++ ([4].map (·, false) ++ ([5, 6].map (·, true) ++ ([8].map (·, false) ++ ([9].map (·, true) ++ [10].map (·, false)))))) (by kernel_rfl) (by kernel_rfl) (by kernel_rfl) HD6.out ?_
      refine' Plan.plan_seg _ [0, 1, 2, 3, 7] _ (by kernel_rfl) (by kernel_rfl) rfl (by exact HD6.out) (fun wx hS => ?_) ?_
      rotate_left
      ·have he := hS.ed HG9.out.1 HE6.out
       clear hS
       go_light
       iterate 4 (apply Plan.seg_pick; rfl; intro K hK; go_wp)
       (apply Plan.seg_pick; rfl; intro K hK)
       refine wpl_loadE he rfl rfl rfl ?_
       go_wp
       exact Plan.seg_nil
      have HT7 := Lib.hid (show TP w6.drew B p k6 from HT6.out.low (n := w.heap.size) (by omega) hp ((Below.refl _ _).drew.mono (by have := HR6.out.s; have := HU.out.s; omega)))
      refine Plan.plan_of_effect rfl (fun K hK => ?_)
      go_wp2_with fail
      refine (next_any B p k6 (M : Int) _ HT7.out (by have := HK.out; have := HK4.out; have := HK6.out; omega) (by omega) (by have := HM.out.1; have := HE.out.n.2; omega)).mono ?_
      rintro e w7 ⟨q, rfl, q0, q1, hT_, hg_⟩
      have HD7 := Lib.hid (HD6.out.trans (Turn.grown hg_ HT7.out.2.1))
      obtain ⟨q, rfl⟩ : ∃ n : Nat, q = n := ⟨q.toNat, by omega⟩
      have HQ0 := Lib.hid q0
      clear q0
      obtain ⟨⟨tv, t⟩, hTq⟩ : ∃ x, T[q]? = some x := ⟨_, List.getElem?_eq_getElem (by have := HM.out.1; omega)⟩
      have hmem := List.mem_of_getElem? hTq
      obtain ⟨ta, tc, e3, -⟩ := ((HE.out.t _ hmem).1).tk
      dsimp only at e3
      subst e3
      have HT8 := Lib.hid hT_
      clear hT_ hg_ HT7
      have HMM := Lib.hid hmem
      have HTQ := Lib.hid hTq
      clear hmem hTq
      go_wp2_with fail
      refine ⟨HD7.out, ?_⟩
      refine' Plan.plan_seg _ [5, 6] _ (by kernel_rfl) (by kernel_rfl) rfl (by exact HD7.out) (fun wx hS => ?_) ?_
      rotate_left
      ·have y0 := HCT.out q _ HTQ.out _ (HR6.out.trans hS)
       dsimp only at y0
       clear hS
       go_light
       iterate 2 (apply Plan.seg_pick; rfl; intro K hK; go_wp)
       exact Plan.seg_nil
      refine Plan.plan_of_effect rfl (fun K hK => ?_)
      go_wp2_with fail
      obtain ⟨l1, l2, hpl⟩ := (HE.out.t _ HMM.out).2.edit (show L.length ≤ 13 by omega) HIV.out.1 HIV.out.2.1 (by have := HIV.out.2.2; omega)
      refine (applyx_any (.slice ta t.length tc) (.slice bo ni dp) t E w7 ((HE.out.turn (HR6.out.trans HD7.out) hp).t _ HMM.out).1.tk (HV6.out.turn HD7.out hp).tk (HE.out.t _ HMM.out).2.v (HE.out.t _ HMM.out).2.n HIV.out.1.v l1 l2).mono ?_
      rintro e w8 ⟨v8, rfl, ho8, hb8⟩
      obtain ⟨U, hU⟩ : ∃ U, U = Trk.nf (E.exl t) := ⟨_, rfl⟩
      rw [← hU] at ho8 hpl
      obtain ⟨ua, uc, rfl, -⟩ := ho8.tk
      have ht8 : Turn p w7 w8 := Turn.of (Nat.le_of_lt HT8.out.2.1) hb8
      have HD8 := Lib.hid (HD7.out.trans ht8)
      have HO8 := Lib.hid (ho8.lower (show w.heap.size ≤ w7.heap.size by have := HU.out.s; have := HR6.out.s; have := HD7.out.s; omega))
      have HT9 := Lib.hid (show TP w8 B p (k6 + 1) from HT8.out.low (n := w7.heap.size) (by have := HT8.out.1; have := HT8.out.2.1; omega) HT8.out.2.1 hb8)
      have HPL := Lib.hid hpl
      obtain ⟨un, hun⟩ : ∃ n, n = U.length := ⟨_, rfl⟩
      rw [← hun] at HO8 ⊢
      have HB8 := Lib.hid (HB6.out.turn HD8.out HK4.out.2.2.1)
      have hg7 : g < w7.heap.size := (HB6.out.turn HD7.out HK4.out.2.2.1).lt
      have HO9 := Lib.hid (show OT (w8.setCell ⟨g, 5, none⟩ (.slice ua un uc)) w.heap.size (.slice ua un uc) U from
       HO8.out.blocks fun x kk cp e => setCells_other g x (by have := ((hun ▸ ho8).blk e).1; omega) [_] 5 w8)
      clear l1 l2 hpl hU ho8 hb8 ht8 HT8 hg7
      go_wp2_with fail
      refine ⟨HD8.out, ?_⟩
      refine' Plan.plan_seg _ [9] _ (by kernel_rfl) (by kernel_rfl) rfl (by exact HD8.out) (fun wx hS => ?_) ?_
      rotate_left
      ·clear hS
       go_light
       iterate 1 (apply Plan.seg_pick; rfl; intro K hK; go_wp)
       exact Plan.seg_nil
      refine Plan.plan_of_last rfl (fun K hK => ?_)
      have c5' := HB8.out.c.c5
      have f5 := HB8.out.fz 5
      go_wp2_with fail
      refine Plan.plan_done ?_
      have HB9 := Lib.hid (HB8.out.set 5 (.slice ua un uc) (e' := ⟨4, u, d, 0, 0, U⟩) (tv' := .slice ua un uc) rfl)
      have HR9 := Lib.hid ((HR6.out.trans HD8.out).into HK4.out.2.1 (by have := HK4.out; have := HT.out.2.1; omega) (Turn.cell g 5 (.slice ua un uc) w8))
      have HT10 := Lib.hid (HT9.out.turn (Turn.cell g 5 (.slice ua un uc) w8) (by have := HK4.out; have := HT.out.1; have := HT.out.2.1; omega) (by have := HK4.out; omega))
      rw [← hun]
      go_upto_region 18 with fail
      obtain ⟨w9, hw9⟩ : ∃ y, y = w8.setCell ⟨g, 5, none⟩ (.slice ua un uc) := ⟨_, rfl⟩
      rw [← hw9] at HB9 HR9 HT10 HO9 ⊢
      have y5 := HB9.out.c.c5
      clear hw9 c5' f5 HT9 HB8 HO8 HD8 HD7 HD6 HB6 HV6 HE6
      apply wp_region_lit
      iterate 12 go_step
      rw [← hun]
      have hbx : Below w9.heap.size w9 (w9.alloc (.cells #[.slice ua un uc] 23)) := below_box _ _
      have hnew : (w9.alloc (.cells #[.slice ua un uc] 23)).heap[w9.heap.size]? = some (.cells #[.slice ua un uc] 23 (0, 0)) := (MapKept.heap_alloc w9 _).1
      have ht10 : Turn p w9 (w9.alloc (.cells #[.slice ua un uc] 23)) := Turn.of (Nat.le_of_lt HT10.out.2.1) hbx
      obtain ⟨w10, hw10⟩ : ∃ y, y = w9.alloc (.cells #[.slice ua un uc] 23) := ⟨_, rfl⟩
      rw [← hw10] at hbx hnew ht10 ⊢
      have hel := HE.out.turn (HR9.out.trans ht10) hp
      have hr := hel.r
      have hMM := HM.out.1
      rw [← hMM] at hr
      have hNL : L.length ≤ 13 := by omega
      have hM2 : M ≤ 15 := by have := hel.n.2; omega
      have hB10 : w.heap.size ≤ w10.heap.size := by have := HU.out.s; have := HR9.out.s; have := ht10.s; omega
      obtain ⟨v', w11, hrun, r1, r2, r3, r4, r5⟩ := append_x w10 w.heap.size 68 23 1 24 (.slice none 0 0) Tryz.underlying68 info23 zeros23 (.slice (some ⟨g6, 0, none⟩) M c6) M (T.map (·.1)) hr hB10 ⟨w9.heap.size, 0, none⟩ 1 1 [.slice ua un uc] rfl
       (fun j u hj => by
        have : j = 0 := by have := (List.getElem?_eq_some_iff.1 hj).1; simp at this; omega
        subst this
        obtain rfl := Option.some.inj hj
        rw [Addr.add_mid]
        exact cell_of hnew rfl) (by simp [Value.oneCell']) (by omega) (by unfold maxLen; omega) (fun cap h1 h2 => growslice_fits h2 (by omega))
      have hel2 := hel.track (HO9.out.turn ht10 hp) HPL.out (hMM ▸ r1) (hMM ▸ r4)
      have HR11 := Lib.hid (show Turn p w w11 from ((HU.out.trans (HR9.out.trans ht10)).low hp r2))
      have HT11 := Lib.hid (show TP w11 B p (k6 + 1) from (HT10.out.low (n := w9.heap.size) (by have := HT10.out.1; have := HT10.out.2.1; omega) HT10.out.2.1 hbx).low (n := w.heap.size) (by omega) hp r2)
      have HB11 := Lib.hid ((HB9.out.turn ht10 HK4.out.2.2.1).keep hr (by decide) r4)
      have HEL := Lib.hid hel2
      obtain ⟨g10, hg10⟩ : ∃ y, y = w9.heap.size := ⟨_, rfl⟩
      rw [← hg10] at hrun ⊢
      clear hel2 hel hr r1 r2 r3 r4 r5 hbx hnew ht10 hw10 hB10 hM2 hNL hMM hg10 y5
      refine Lib.wpList_append_run (P := Tryz.prog) w10 rfl (.tmp 83) (.tmp 86) 68 68 rfl (.slice (some ⟨g6, 0, none⟩) M c6) (.slice (some ⟨g10, 0, none⟩) 1 1) rfl rfl _ _ hrun ?_
      clear hrun
      simp only [Act.put, List.setIfInBounds_toArray, List.set_cons_succ, List.set_cons_zero]
      go_wp2_with fail
      refine (next_any B p (k6 + 1) 4 w11 HT11.out (by have := HK.out; have := HK4.out; have := HK6.out; omega) (by omega) (by omega)).mono ?_
      rintro e w12 ⟨b3, rfl, b30, b31, hT_, hg_⟩
      have ht12 := Turn.grown hg_ HT11.out.2.1
      have heb := HB11.out.turn ht12 HK4.out.2.2.1
      have c3 : w12.cell? ⟨g, 3, none⟩ = some (.int .i64 0) := cell_of heb rfl
      have f3 := heb.fz 3
      have hst := heb.set 3 (.int .i64 b3) (e' := ⟨4, u, d, b3, 0, U⟩) (tv' := .slice ua un uc) rfl
      have hel := (HEL.out.1.turn ht12 hp).store (i := 3) (x := .int .i64 b3) heb (fun b cap e => by
       have h0 := HE.out.o
       rw [e] at h0
       have := h0.lt
       have := HK4.out
       omega)
      have HQ1 := Lib.hid (show SwPost w B p g k' N (.slice a5 N c5) L u d v' (w12.setCell ⟨g, 3, none⟩ (.int .i64 b3)) from
       ⟨⟨4, u, d, b3, 0, U⟩, .slice ua un uc, T ++ [(.slice ua un uc, U)], k6 + 1 + 1, hst, ⟨fun _ => ⟨.inr (.inr (.inr (.inl rfl))), HX4.out.2.1, HX4.out.2.2, HPL.out.v, fun h2 => absurd rfl h2, fun _ => rfl, fun h2 => absurd h2 (show (4 : Int) ≠ 2 by decide)⟩, fun h2 => absurd h2 (show (4 : Int) ≠ 7 by decide)⟩, RowX.cell59 (HEL.out.2.turn ht12 hp) heb (by decide), fun _ h2 => absurd rfl h2, by rw [HN.out]; exact hel, hT_.turn (Turn.cell g 3 (.int .i64 b3) _) (by have := HK4.out; have := HT.out.1; have := HT.out.2.1; omega) (by have := HK4.out; omega), by have := HK4.out; have := HK6.out; omega, (HR11.out.trans ht12).into HK4.out.2.2.2 (by have := HK4.out; have := HT.out.2.1; omega) (Turn.cell g 3 (.int .i64 b3) _)⟩)
      clear hst hel heb ht12 hT_ hg_ b30 b31
      go_wp2_with fail
      all_goals go_meet
      exact HQ1.out
     ·go_wp2_with fail
      all_goals go_meet
      exact HQ.out (by simp)
     ·go_wp2_with fail
      all_goals go_meet
      exact HQ.out (by simp)
     ·clear HQ
      go_wp2_with fail
      refine (next_any B p k4 9 _ HT4.out (by have := HK.out; have := HK4.out; omega) (by omega) (by omega)).mono ?_
      rintro e wy ⟨r2, rfl, r20, r21, hT_, hg_⟩
      have htn := Turn.grown hg_ HT4.out.2.1
      have heb := HB4.out.turn htn HK4.out.2.2.1
      obtain ⟨q, hq⟩ : ∃ q, q = 1 + r2 := ⟨_, rfl⟩
      have hq' : 1 + r2 = q := hq.symm
      have q1 : 1 ≤ q := by omega
      have q2 : q ≤ 1000 := by omega
      have f4 := heb.fz 4
      have c4' : wy.cell? ⟨g, 4, none⟩ = some (.int .i64 0) := cell_of heb rfl
      have hst := heb.set 4 (.int .i64 q) (e' := ⟨7, u, d, 0, q, []⟩) (tv' := .slice none 0 0) rfl
      have hin := (HR4.out.trans htn).into HK4.out.2.1 (by have := HK4.out; have := HT.out.2.1; omega) (Turn.cell g 4 (.int .i64 q) _)
      have HQ1 := Lib.hid (show SwPost w B p g k' N (.slice a5 N c5) L u d (.slice (some ⟨g6, 0, none⟩) M c6) _ from
       ⟨⟨7, u, d, 0, q, []⟩, .slice none 0 0, T, k4 + 1, hst, ⟨fun h2 => absurd rfl h2, fun _ => ⟨rfl, rfl, by dsimp only; omega, by dsimp only; omega⟩⟩, OT.nil _ _, fun _ _ => rfl, by rw [HN.out]; exact (HE.out.turn hin hp).up (Nat.le_succ _), hT_.turn (Turn.cell g 4 (.int .i64 q) _) (by have := HK4.out; have := HT.out.1; have := HT.out.2.1; omega) (by have := HK4.out; omega), by have := HK4.out; omega, HU.out.trans hin⟩)
      have q3 : -9223372036854775808 ≤ q := by omega
      have q4 : q ≤ 9223372036854775807 := by omega
      clear hst hin hT_ hg_ htn heb r20 r21 hq q1 q2
      go_wp2_with fail
      all_goals go_meet
      exact HQ1.out
    obtain ⟨e, tv, T', k5, heb, heq, hot, hnl, hel, htp, hk5, hut⟩ := hcut
    have HNR := Lib.hid (show ∀ b cap, Value.slice a5 N c5 = .slice (some ⟨b, 0, none⟩) L.length cap → b ≠ g from fun b cap e => by
     have h0 := HE.out.o
     rw [HN.out] at e
     rw [e] at h0
     have := h0.lt
     have := HK4.out
     omega)
    clear HT4 HU4 HR4 HB4 HE4 HE HCT HX4 hM1
    have HEB := Lib.hid heb
    have HEQ := Lib.hid heq
    have HOT := Lib.hid hot
    have HNL := Lib.hid hnl
    have HEL := Lib.hid hel
    have HT5 := Lib.hid htp
    have HU5 := Lib.hid hut
    have HK5 := Lib.hid hk5
    clear heb heq hot hnl hel htp hut hk5
    apply hK8
    clear hK8 K8
    refine wp_seq_k (fun K9 hK9 => ?_)
    go_cut [] from 22 to 96 (fun wx => ∃ e, EB wx g e tv ∧ EvT 1000000 e ∧ OT wx w.heap.size tv e.t ∧ (e.kind ≠ 1 → e.kind ≠ 4 → tv = .slice none 0 0) ∧ EL w wx (.slice a5 N c5) u6 L T' (N + 1) ∧ TP wx B p k5 ∧ Turn p w wx)
    case first =>
     clear hK9
     obtain ⟨ek, eu, ed, eb, et, ec⟩ := e
     by_cases h7 : ek = 7
     ·subst h7
      obtain ⟨e1, e2, n0, n1⟩ := HEQ.out.s rfl
      dsimp only at e1 e2 n0 n1
      subst e1 e2
      have c0 := HEB.out.c.c0
      dsimp only at c0
      have c1 : wc.cell? ⟨g, 1, none⟩ = some (.string eu) := cell_of HEB.out rfl
      have c2 : wc.cell? ⟨g, 2, none⟩ = some (.string ed) := cell_of HEB.out rfl
      have f1 := HEB.out.fz 1
      have f2 := HEB.out.fz 2
      have s1 := HEB.out.set 1 (.string ⟨#[]⟩) (e' := ⟨7, ⟨#[]⟩, ed, 0, et, []⟩) (tv' := tv) rfl
      have s2 := s1.set 2 (.string ⟨#[]⟩) (e' := ⟨7, ⟨#[]⟩, ⟨#[]⟩, 0, et, []⟩) (tv' := tv) rfl
      have o1 : OT (wc.setCell ⟨g, 1, none⟩ (.string ⟨#[]⟩)) w.heap.size tv [] := RowX.cell59 HOT.out HEB.out (by decide)
      have o2 : OT ((wc.setCell ⟨g, 1, none⟩ (.string ⟨#[]⟩)).setCell ⟨g, 2, none⟩ (.string ⟨#[]⟩)) w.heap.size tv [] := RowX.cell59 o1 s1 (by decide)
      have l1 := HEL.out.store (i := 1) (x := .string ⟨#[]⟩) HEB.out HNR.out
      have l2 := l1.store (i := 2) (x := .string ⟨#[]⟩) s1 HNR.out
      have hgp := HK4.out.2.2.1
      have t1 := HT5.out.turn (Turn.cell g 1 (.string ⟨#[]⟩) wc) hgp.symm (by have := HK4.out; have := HT.out.1; have := HT.out.2.1; omega)
      have t2 := t1.turn (Turn.cell g 2 (.string ⟨#[]⟩) _) hgp.symm (by have := HK4.out; have := HT.out.1; have := HT.out.2.1; omega)
      have u1 := HU5.out.into HK4.out.2.2.2 (by have := HK4.out; have := HT.out.2.1; omega) (Turn.cell g 1 (.string ⟨#[]⟩) wc)
      have u2 := u1.into HK4.out.2.2.2 (by have := HK4.out; have := HT.out.2.1; omega) (Turn.cell g 2 (.string ⟨#[]⟩) _)
      have HQ := Lib.hid (show ∃ e, EB ((wc.setCell ⟨g, 1, none⟩ (.string ⟨#[]⟩)).setCell ⟨g, 2, none⟩ (.string ⟨#[]⟩)) g e tv ∧ EvT 1000000 e ∧ OT ((wc.setCell ⟨g, 1, none⟩ (.string ⟨#[]⟩)).setCell ⟨g, 2, none⟩ (.string ⟨#[]⟩)) w.heap.size tv e.t ∧ (e.kind ≠ 1 → e.kind ≠ 4 → tv = .slice none 0 0) ∧ EL w ((wc.setCell ⟨g, 1, none⟩ (.string ⟨#[]⟩)).setCell ⟨g, 2, none⟩ (.string ⟨#[]⟩)) (.slice a5 N c5) u6 L T' (N + 1) ∧ TP ((wc.setCell ⟨g, 1, none⟩ (.string ⟨#[]⟩)).setCell ⟨g, 2, none⟩ (.string ⟨#[]⟩)) B p k5 ∧ Turn p w ((wc.setCell ⟨g, 1, none⟩ (.string ⟨#[]⟩)).setCell ⟨g, 2, none⟩ (.string ⟨#[]⟩)) from
       ⟨_, s2, ⟨.inl rfl, fun _ => ⟨rfl, rfl, rfl, rfl, n0, n1⟩⟩, o2, HNL.out, l2, t2, u2⟩)
      clear s1 s2 o1 o2 l1 l2 t1 t2 u1 u2 n0 n1 hgp
      go_wp2_with fail
      all_goals go_meet
      exact HQ.out
     ·have h7' : (ek == 7) = false := by simpa using h7
      have c0 := HEB.out.c.c0
      dsimp only at c0
      have HQ := Lib.hid (show ∃ e, EB wc g e tv ∧ EvT 1000000 e ∧ OT wc w.heap.size tv e.t ∧ (e.kind ≠ 1 → e.kind ≠ 4 → tv = .slice none 0 0) ∧ EL w wc (.slice a5 N c5) u6 L T' (N + 1) ∧ TP wc B p k5 ∧ Turn p w wc from
       ⟨_, HEB.out, ⟨.inr (HEQ.out.y h7), fun h => absurd h h7⟩, HOT.out, HNL.out, HEL.out, HT5.out, HU5.out⟩)
      go_wp2_with fail
      all_goals go_meet
      exact HQ.out
    obtain ⟨e2, heb, hev, hot, hnl, hel, htp, hut⟩ := hcut
    clear HEB HEQ HOT HNL HEL HT5 HU5 e
    have HEB := Lib.hid heb
    have HEV := Lib.hid hev
    have HOT := Lib.hid hot
    have HNL := Lib.hid hnl
    have HEL := Lib.hid hel
    have HT5 := Lib.hid htp
    have HU5 := Lib.hid hut
    clear heb hev hot hnl hel htp hut
    apply hK9
    clear hK9 K9
    go_upto_region 22 with fail
    apply wp_region_lit
    iterate 3 go_step
    obtain ⟨ta, tc, e3, -⟩ := HOT.out.tk
    obtain ⟨tn, htn⟩ : ∃ n, n = e2.t.length := ⟨_, rfl⟩
    rw [← htn] at e3
    subst e3
    refine wpList_load_mid rfl 59 (.tmp 8) rfl g 0 rfl (evtL e2 (.slice ta tn tc)) _ HEB.out.range Tryz.underlying59 rfl (by kernel_rfl) ?_
    simp only [Act.put, List.setIfInBounds_toArray, List.set_cons_succ, List.set_cons_zero]
    refine Great.wpList_buildSliceTo rfl 56 59 1 #[(0, .tmp 97)] rfl wc.heap.size rfl _ rfl Tryz.underlying56 (evtL e2 (.slice ta tn tc)).toArray ?_ ?_
    ·simp only [List.map_toArray, List.map_cons, List.map_nil]
     exact built_event1 e2 (.slice ta tn tc)
    simp only [Act.put, List.setIfInBounds_toArray, List.set_cons_succ, List.set_cons_zero]
    have hbx : Below wc.heap.size wc (wc.alloc (.cells (evtL e2 (.slice ta tn tc)).toArray 59)) := below_box _ _
    have hnew : EB (wc.alloc (.cells (evtL e2 (.slice ta tn tc)).toArray 59)) wc.heap.size e2 (.slice ta tn tc) := (MapKept.heap_alloc wc _).1
    have ht6 : Turn p wc (wc.alloc (.cells (evtL e2 (.slice ta tn tc)).toArray 59)) := Turn.of (Nat.le_of_lt HT5.out.2.1) hbx
    obtain ⟨w6, hw6⟩ : ∃ y, y = wc.alloc (.cells (evtL e2 (.slice ta tn tc)).toArray 59) := ⟨_, rfl⟩
    rw [← hw6] at hbx hnew ht6 ⊢
    have hel := HEL.out.turn ht6 hp
    have hr := hel.o
    have hN2 := HN.out
    rw [← hN2] at hr
    have hN14 : N ≤ 14 := by omega
    have hB6 : w.heap.size ≤ w6.heap.size := by have := HU5.out.s; have := ht6.s; omega
    have hte : EvT 1000000 e2 := HEV.out
    obtain ⟨v', w7, hrun, r1, r2, r3, r4, r5⟩ := append_x w6 w.heap.size 56 59 6 80 (.agg (evtL evZ (.slice none 0 0)).toArray) Tryz.underlying56 info59 zeros59 (.slice a5 N c5) N (L.flatMap fun x => evtL x.1 x.2) hr hB6 ⟨wc.heap.size, 0, none⟩ 1 1 (evtL e2 (.slice ta tn tc)) rfl
     (fun j u hj => by rw [Addr.add_mid]; exact hnew.range j u hj) (by simp [evtL, Value.oneCell']) (by omega) (by unfold maxLen; omega) (fun cap h1 h2 => growslice_fits h2 (by omega))
    have hot6 := HOT.out.turn ht6 hp
    have hel2 := hel.event hte hot6 HNL.out (hN2 ▸ r1) (hN2 ▸ r4)
    have hlen : (L ++ [(e2, Value.slice ta tn tc)]).length = N + 1 := by rw [List.length_append, hN2]; rfl
    rw [← hlen] at hel2
    have HQ := Lib.hid (And.intro hel2 (And.intro (show TP w7 B p k5 from (HT5.out.low (n := wc.heap.size) (by have := HT5.out.1; have := HT5.out.2.1; omega) HT5.out.2.1 hbx).low (n := w.heap.size) (by omega) hp r2) (show Turn p w w7 from (HU5.out.trans ht6).low hp r2)))
    have HLE := Lib.hid hlen
    obtain ⟨g10, hg10⟩ : ∃ y, y = wc.heap.size := ⟨_, rfl⟩
    rw [← hg10] at hrun ⊢
    clear hel2 hel hr r1 r2 r3 r4 r5 hbx hnew ht6 hw6 hB6 hN14 hg10 hte hot6 hlen
    refine Lib.wpList_append_run (P := Tryz.prog) w6 rfl (.tmp 96) (.tmp 98) 56 56 rfl (.slice a5 N c5) (.slice (some ⟨g10, 0, none⟩) 1 1) rfl rfl _ _ hrun ?_
    clear hrun
    simp only [Act.put, List.setIfInBounds_toArray, List.set_cons_succ, List.set_cons_zero]
    go_wp2_with fail
    have HKK := Lib.hid hk'
    have HJJ := Lib.hid hj
    clear hj hk' hN2
    go_roundw
    case rel =>
     refine ⟨j - 1, k5, L ++ [(e2, .slice ta tn tc)], T', ?_, ?_, HQ.out.1, ?_, HQ.out.2.1, HQ.out.2.2⟩
     ·rw [HLE.out]; have := HJJ.out; have := HN.out; omega
     ·congr 1; omega
     ·have := HKK.out
      have := HK5.out
      omega
    case measure =>
     show (intOf (.int .i64 ((j : Int) - 1))).toNat < (intOf (.int .i64 (j : Int))).toNat
     simp [intOf]
     omega
  ·have hjz : j = 0 := by omega
   subst hjz
   have HQ := Lib.hid (show EventsPost w B p k m (.returned u5) wr from ⟨⟨u5, L, rfl, by omega, HE.out.o, HE.out.e⟩, ⟨k', by omega, HT.out⟩, HU.out⟩)
   clear HE HT HU hj hk' hj0
   go_wp2_with fail
   go_ret
   exact HQ.out
def SameRev (a b : Rv) : Prop := a.kind = b.kind ∧ a.by_ = b.by_ ∧ a.t = b.t
structure GrowD (n : Nat) (d d' : Dc) : Prop where
 l0 : d.revs.length ≤ d'.revs.length
 l1 : d'.revs.length ≤ d.revs.length + n
 r : ∀ (k : Nat) (x : Rv), d.revs[k]? = some x → ∃ y, d'.revs[k]? = some y ∧ SameRev x y
theorem GrowD.of_eq {n : Nat} {d d' : Dc} (h : d'.revs = d.revs) : GrowD n d d' := by
 refine ⟨by rw [h]; exact Nat.le_refl _, by rw [h]; omega, fun k x hx => ⟨x, by rw [h]; exact hx, rfl, rfl, rfl⟩⟩
theorem GrowD.add {d : Dc} {x : Rv} {rs : List Rv} (h : rs = d.revs ++ [x]) : GrowD 1 d { d with revs := rs } := by
 subst h
 refine ⟨by simp, by simp, fun k y hy => ⟨y, ?_, rfl, rfl, rfl⟩⟩
 show (d.revs ++ [x])[k]? = some y
 rw [List.getElem?_append_left (List.getElem?_eq_some_iff.1 hy).1]
 exact hy
theorem GrowD.set {n : Nat} {d d' : Dc} (h : GrowD n d d') {j : Nat} {r y : Rv} (hr : d'.revs[j]? = some r) (hy : SameRev r y) : GrowD n d { d' with revs := d'.revs.set j y } := by
 refine ⟨by simpa using h.l0, by simpa using h.l1, fun k x hx => ?_⟩
 obtain ⟨z, hz, hs⟩ := h.r k x hx
 by_cases hk : j = k
 ·subst hk
  rw [hr] at hz
  obtain rfl := Option.some.inj hz
  refine ⟨y, ?_, hs.1.trans hy.1, hs.2.1.trans hy.2.1, hs.2.2.trans hy.2.2⟩
  show (d'.revs.set j y)[j]? = some y
  rw [List.getElem?_set_self (List.getElem?_eq_some_iff.1 hr).1]
 ·refine ⟨z, ?_, hs⟩
  show (d'.revs.set j y)[k]? = some z
  rw [List.getElem?_set_ne hk]
  exact hz
theorem addR_grow {d : Dc} {cur r : Rv} : GrowD 1 d (addR d cur r) := by
 unfold addR
 split
 ·exact GrowD.of_eq rfl
 ·exact GrowD.add rfl
theorem RevertR.grow {d d' : Dc} {j : Nat} {kind c : Int} {u : ByteArray} (h : RevertR d j kind u c d') : GrowD 1 d d' := by
 cases h with
 | full _ => exact GrowD.of_eq rfl
 | fails _ _ _ _ _ _ _ _ _ _ _ => exact GrowD.of_eq rfl
 | done _ cur r p hc hr hp x hm =>
  refine (GrowD.add (d := d) (x := ⟨kind, u, (j : Int), false, x⟩) rfl).set (j := j) (r := r) ?_ ⟨rfl, rfl, rfl⟩
  show (d.revs ++ [_])[j]? = some r
  rw [List.getElem?_append_left (List.getElem?_eq_some_iff.1 hr).1]
  exact hr
theorem GrowD.unback {n : Nat} {d d' : Dc} (h : GrowD n d d') (b : Nat) : GrowD n d (unback d' b) := by
 unfold Go.Proofs.YtfoohocgdcgbcaaGreat.unback
 split
 ·rename_i r hr
  exact h.set hr ⟨rfl, rfl, rfl⟩
 ·exact h
theorem ChR.grow {now c : Int} {e : Ev} {d d' : Dc} (h : ChR now e d c d') : GrowD 1 d d' := by
 unfold ChR at h
 split at h
 ·cases h <;> exact GrowD.of_eq rfl
 split at h
 ·cases h <;> exact GrowD.of_eq rfl
 split at h
 ·cases h
  all_goals first
   | exact GrowD.of_eq rfl
   | exact addR_grow
 split at h
 ·cases h
  ·exact GrowD.of_eq rfl
  ·exact GrowD.of_eq rfl
  ·rename_i hr
   exact hr.grow
 ·cases h
  ·exact GrowD.of_eq rfl
  ·exact GrowD.of_eq rfl
  ·exact GrowD.of_eq rfl
  ·rename_i hr
   exact hr.grow
  ·rename_i hr _ _ _ _
   exact hr.grow.unback _
structure HistR (now now' : Int) (ds ds' : List Dc) : Prop where
 n : now ≤ now'
 l0 : ds.length ≤ ds'.length
 l1 : ds'.length ≤ ds.length + 1
 d : ∃ j : Nat, ∀ (i : Nat) (x : Dc), ds[i]? = some x → ∃ y, ds'[i]? = some y ∧ GrowD (if i = j then 1 else 0) x y
theorem StpH.histR {L now now' : Int} {ds ds' : List Dc} {e : Ev} {os : List Rpt} (he : EvT L e) (hs : StpH now ds e 0 now' ds' os) : HistR now now' ds ds' := by
 unfold StpH at hs
 split at hs
 ·rename_i h7
  obtain ⟨-, -, -, -, n0, n1⟩ := he.s h7
  rcases hs with ⟨-, hz, -⟩ | ⟨hle, -, rfl, rfl, -⟩
  ·cases hz
  ·refine ⟨by omega, by simp, by simp, 0, fun i x hx => ⟨tickD (now + e.ticks) x, by rw [List.getElem?_map, hx]; rfl, GrowD.of_eq ?_⟩⟩
   unfold tickD
   split <;> rfl
 split at hs
 ·generalize hz : (0 : Int) = z at hs
  cases hs with
  | exists_ _ _ => cases hz
  | full _ _ => cases hz
  | done hf hl =>
   refine ⟨Int.le_refl _, by simp, by simp, 0, fun i x hx => ⟨x, ?_, GrowD.of_eq rfl⟩⟩
   rw [List.getElem?_append_left (List.getElem?_eq_some_iff.1 hx).1]
   exact hx
 ·generalize hz : (0 : Int) = z at hs
  cases hs with
  | none _ => cases hz
  | fails i d hf hd c d' hr hn => exact absurd hz.symm hn
  | done j d hf hd d' hr =>
   refine ⟨Int.le_refl _, by simp, by simp, j, fun i x hx => ?_⟩
   by_cases hij : j = i
   ·subst hij
    rw [hd] at hx
    obtain rfl := Option.some.inj hx
    rw [if_pos rfl]
    exact ⟨d', by rw [List.getElem?_set_self (List.getElem?_eq_some_iff.1 hd).1], hr.grow⟩
   ·rw [if_neg (fun e => hij e.symm)]
    exact ⟨x, by rw [List.getElem?_set_ne hij]; exact hx, GrowD.of_eq rfl⟩
end Go.Proofs.YtfoohocgdcgbcaaGreat
