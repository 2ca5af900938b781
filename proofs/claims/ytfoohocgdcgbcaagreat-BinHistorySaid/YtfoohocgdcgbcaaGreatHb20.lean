/- Texts of this claim joined: OE RA. -/
import Derived.ProofKit
import Derived.OpenShut
import Derived.Carry
import Derived.ChangeSlices
import Derived.ChangeSame
import Derived.Test.YtfoohocgdcgbcaaGreatHb19
set_option linter.unusedVariables false
set_option linter.unusedSimpArgs false
namespace Go.Proofs.YtfoohocgdcgbcaaGreat
open Go.RowKit
theorem Evs.skipS {w w' : World} {b : Nat} {v : Value} {es : List Ev} (h : Evs w v es) (h2 : NoStr w b) (hs : ∀ x, x ≠ b → w'.heap[x]? = w.heap[x]?) : Evs w' v es := by
 obtain ⟨ao, cap, e, h1, h2', h3⟩ := h
 refine ⟨ao, cap, e, h1, h2', fun i x hi => ?_⟩
 obtain ⟨b3, o, tv, e2, hr, ht, hn⟩ := h3 i x hi
 exact ⟨b3, o, tv, e2, rangeAt_ag hr (hs b3 (h2.ne (hr 1 _ rfl))), ht.skipS h2 hs, hn⟩
theorem evts_get : ∀ {L : List (Ev × Value)} {i : Nat} {y : Ev × Value} {j : Nat} {u : Value}, L[i]? = some y → (evtL y.1 y.2)[j]? = some u → (L.flatMap fun x => evtL x.1 x.2)[i * 6 + j]? = some u
 | [], i, y, j, u, hy, hj => by simp at hy
 | z :: L, i, y, j, u, hy, hj => by
  rw [List.flatMap_cons]
  have hl6 : (evtL z.1 z.2).length = 6 := rfl
  have hj6 : j < 6 := (List.getElem?_eq_some_iff.1 hj).1
  cases i with
  | zero =>
   simp only [List.getElem?_cons_zero, Option.some.injEq] at hy
   subst hy
   rw [Nat.zero_mul, Nat.zero_add, List.getElem?_append_left (by omega)]
   exact hj
  | succ i =>
   simp only [List.getElem?_cons_succ] at hy
   rw [List.getElem?_append_right (by omega), hl6, show (i + 1) * 6 + j - 6 = i * 6 + j by omega]
   exact evts_get hy hj
theorem Evs.of {w : World} {B : Nat} {v : Value} {L : List (Ev × Value)} (h : RowX w B 59 6 v L.length (L.flatMap fun x => evtL x.1 x.2)) (ht : ∀ x ∈ L, OT w B x.2 x.1.t ∧ (x.1.kind ≠ 1 → x.1.kind ≠ 4 → x.2 = .slice none 0 0)) : Evs w v (L.map (·.1)) := by
 have h' := h
 rcases h with ⟨rfl, h0, _⟩ | ⟨g, cap, cur, rfl, hB, hg, hk, hc, _⟩
 ·have : L = [] := List.length_eq_zero_iff.1 h0
  subst this
  exact ⟨none, 0, rfl, Nat.le_refl _, Nat.zero_le _, fun i x hi => by simp at hi⟩
 ·refine ⟨_, cap, by rw [List.length_map], by rw [List.length_map]; exact hk, hc, fun i x hi => ?_⟩
  rw [List.getElem?_map] at hi
  obtain ⟨y, hy, rfl⟩ := Option.map_eq_some_iff.1 hi
  refine ⟨g, 0, y.2, rfl, ?_, (ht y (List.mem_of_getElem? hy)).1.tk, (ht y (List.mem_of_getElem? hy)).2⟩
  intro j u hj
  rw [Nat.zero_add]
  exact h'.cell (evts_get hy hj)
theorem wrap_two (a b c : Nat) (ha : a ≤ 1) (hb : b ≤ 100) (hc : c ≤ b) : wrap64 (wrap64 ((a : Int) + (b : Int)) - (c : Int)) = ((a + (b - c) : Nat) : Int) := by
 unfold wrap64
 omega
structure RevC (w : World) (b o : Nat) (r : Rv) (tv : Value) : Prop where
 k0 : w.cell? ⟨b, o, none⟩ = some (.int .i64 r.kind)
 k1 : w.cell? ⟨b, o + 1, none⟩ = some (.string r.by_)
 k4 : w.cell? ⟨b, o + 4, none⟩ = some tv
theorem RevC.below {w w' : World} {b o : Nat} {r : Rv} {tv : Value} (h : RevC w b o r tv) (hb : Below w.heap.size w w') : RevC w' b o r tv :=
 ⟨(hb.cell (block_lt_of_cell h.k0)).trans h.k0, (hb.cell (p := ⟨b, o + 1, none⟩) (block_lt_of_cell h.k1)).trans h.k1, (hb.cell (p := ⟨b, o + 4, none⟩) (block_lt_of_cell h.k4)).trans h.k4⟩
theorem Rvs.at_ {w : World} {a : Option Addr} {n c : Nat} {rs : List Rv} (h : Rvs w (.slice a n c) rs) {k : Nat} {r : Rv} (hr : rs[k]? = some r) : ∃ b o ta tc, a = some ⟨b, o, none⟩ ∧ RevC w b (o + k * 5) r (.slice ta r.t.length tc) ∧ Tk w (.slice ta r.t.length tc) r.t := by
 obtain ⟨ao, cap, e, h1, h2, h3⟩ := h
 obtain ⟨b, o, tv, e2, hg, ht⟩ := h3 k r hr
 simp only [Value.slice.injEq] at e
 obtain ⟨ta, tc, rfl, h4⟩ := id ht
 refine ⟨b, o, ta, tc, e.1.trans e2, ⟨hg 0 _ rfl, hg 1 _ rfl, hg 4 _ rfl⟩, ht⟩
theorem Dcs.at_ {w : World} {a : Option Addr} {n c : Nat} {ds : List Dc} (h : Dcs w (.slice a n c) ds) {k : Nat} {d : Dc} (hd : ds[k]? = some d) : ∃ b o ra rc, a = some ⟨b, o, none⟩ ∧ w.cell? ⟨b, o + k * 4 + 3, none⟩ = some (.slice ra d.revs.length rc) ∧ Rvs w (.slice ra d.revs.length rc) d.revs := by
 obtain ⟨ao, cap, e, h1, h2, h3⟩ := h
 obtain ⟨b, o, rv, e2, hg, hr⟩ := h3 k d hd
 simp only [Value.slice.injEq] at e
 obtain ⟨ra, rc, rfl, h4⟩ := id hr
 exact ⟨b, o, ra, rc, e.1.trans e2, hg 3 _ rfl, hr⟩
set_option maxRecDepth 100000 in
set_option maxHeartbeats 16000000 in
theorem law_history (v : Value) (w : World) (h : Ints w v) : Calls Tryz.prog 7 #[v] w fun e w' => e = .returned (.bool true) ∧ Below w.heap.size w w' := by
 obtain ⟨ao, n, cp, rfl, hnc, hn, hI⟩ := h
 have HI := Lib.hid hI
 clear hI
 go_enter Tryz.func7, Tryz.ntmps7
 go_upto_region 2 with fail
 obtain ⟨w1, hw1⟩ : ∃ y, y = w.alloc (.cells #[.slice ao n cp, .int .i64 0] 52) := ⟨_, rfl⟩
 rw [← hw1]
 obtain ⟨p, hp⟩ : ∃ y, y = w.heap.size := ⟨_, rfl⟩
 have HB := Lib.hid (show Below w.heap.size w w1 by rw [hw1]; exact below_box _ _)
 have HT := Lib.hid (show TP w1 w.heap.size p 0 by
  refine ⟨by omega, by rw [hw1, hp]; simp [go_sem], ao, n, cp, by rw [hw1, hp]; simp [go_sem], by rw [hw1, hp]; simp [go_sem], by rw [hw1, hp]; simp [go_sem], hnc, hn, fun i hi => ?_⟩
  obtain ⟨b, o, x, e, hc⟩ := HI.out i hi
  exact ⟨b, o, x, e, block_lt_of_cell hc, (HB.out.cell (block_lt_of_cell hc)).trans hc⟩)
 have HP := Lib.hid (show w.heap.size ≤ p by omega)
 rw [← hp]
 clear hw1 hp HI
 go_upto_region 3 with fail
 obtain ⟨w2, hw2⟩ : ∃ y, y = w1.alloc (.cells #[.int .i64 0, .slice none 0 0] 55) := ⟨_, rfl⟩
 obtain ⟨g4, hg4⟩ : ∃ y, y = w1.heap.size := ⟨_, rfl⟩
 have hb : Below w1.heap.size w1 w2 := by rw [hw2]; exact below_box _ _
 have HS := Lib.hid (show SB w2 g4 0 none 0 0 by rw [hw2, hg4]; exact (MapKept.heap_alloc w1 _).1)
 rw [← hw2, ← hg4]
 have HG4 := Lib.hid (show w.heap.size ≤ g4 ∧ g4 ≠ p by have := HB.out.size; have := HT.out.2.1; omega)
 replace HT := Lib.hid (HT.out.low (n := w1.heap.size) (by have := HT.out.1; have := HT.out.2.1; omega) HT.out.2.1 hb)
 replace HB := Lib.hid (HB.out.trans (hb.mono HB.out.size))
 clear hb hw2 hg4
 go_wp2_with fail
 refine (events_any w.heap.size p 0 14 w2 HT.out (by omega) (by omega)).mono ?_
 rintro e w3 ⟨⟨ev, L, rfl, hL14, hrow, hev⟩, -, htn⟩
 have HEV := Lib.hid (Evs.of hrow fun x hx => (hev x hx).2)
 have HET := Lib.hid (show ∀ (i : Nat) (e : Ev), (L.map (·.1))[i]? = some e → EvT 1000000 e from fun i e hi => by
  rw [List.getElem?_map] at hi
  obtain ⟨y, hy, rfl⟩ := Option.map_eq_some_iff.1 hi
  exact (hev y (List.mem_of_getElem? hy)).1)
 replace HS := Lib.hid (show SB w3 g4 0 none 0 0 from (htn.o g4 HS.out.lt HG4.out.2).trans HS.out)
 replace HB := Lib.hid (htn.b _ _ HP.out HB.out)
 obtain ⟨es, hes⟩ : ∃ es, es = L.map (·.1) := ⟨_, rfl⟩
 rw [← hes] at HEV HET
 have hl14 : es.length ≤ 14 := by rw [hes, List.length_map]; exact hL14
 obtain ⟨ea, ec, rfl, -⟩ := id HEV.out
 obtain ⟨N, hN⟩ : ∃ N, N = es.length := ⟨_, rfl⟩
 rw [← hN] at HEV hl14 ⊢
 have HN := Lib.hid hN
 clear hrow hev htn hes hL14 HT hN
 go_upto_region 4 with fail
 go_loopw [22] (fun i wr => ∃ k : Nat, k ≤ N ∧ i = .int .i64 (k : Int) ∧ ∃ (now : Int) (a : Option Addr) (dc : Nat) (ds : List Dc), SB wr g4 now a ds.length dc ∧ Dcs wr (.slice a ds.length dc) ds ∧ (ds = [] → a = none ∧ dc = 0) ∧ StOK 1000000 now ds ∧ Evs wr (.slice ea N ec) es ∧ Below w.heap.size w wr) (fun i _ => N - (intOf i).toNat)
 case atStart => exact ⟨0, Nat.zero_le _, rfl, 0, none, 0, [], HS.out, Dcs.nil _, fun _ => ⟨rfl, rfl⟩, ⟨Int.le_refl _, by decide, by simp, fun d hd => (by cases hd), fun k d hk => (by simp at hk)⟩, HEV.out, HB.out⟩
 case round =>
  clear HS HEV HB
  obtain ⟨k, hk, rfl, now, a, dc, ds, hs, hdc, hnil, hst, hev, hb⟩ := hrel
  have HS := Lib.hid hs
  have HDC := Lib.hid hdc
  have HNIL := Lib.hid hnil
  have HST := Lib.hid hst
  have HEV := Lib.hid hev
  have HB := Lib.hid hb
  have HK := Lib.hid hk
  clear hs hdc hnil hst hev hb hk
  by_cases hlt : k < N
  ·obtain ⟨e, he⟩ : ∃ e, es[k]? = some e := ⟨_, List.getElem?_eq_getElem (by have := HN.out; omega)⟩
   have hlt' : (k : Int) < (N : Int) := by omega
   have HLT := Lib.hid hlt
   have HEK := Lib.hid he
   obtain ⟨ao, cap, ev, -, -, hT⟩ := id HEV.out
   have en := HN.out
   simp only [Value.slice.injEq] at ev
   obtain ⟨rfl, -, rfl⟩ := ev
   obtain ⟨b, o, tv, rfl, hA, hR, hNT⟩ := hT k e he
   have HA := Lib.hid hA
   have HTK := Lib.hid hR
   obtain ⟨ta, tc, htv, -⟩ := hR
   obtain ⟨tn, htn⟩ : ∃ n, n = e.t.length := ⟨_, rfl⟩
   rw [← htn] at htv
   subst htv
   have HNT2 := Lib.hid hNT
   clear hT hA he en htn hlt hNT
   go_upto_region 5 with fail
   apply wp_region_lit
   iterate 3 go_step
   refine wpl_loadEv HA.out rfl rfl rfl ?_
   unfold evtL
   go_upto_region 6 with fail
   obtain ⟨w4, hw4⟩ : ∃ y, y = wr.alloc (.cells #[.int .i64 e.kind, .string e.user, .string e.doc, .int .i64 e.base, .int .i64 e.ticks, .slice ta tn tc] 59) := ⟨_, rfl⟩
   obtain ⟨b6, hb6⟩ : ∃ y, y = wr.heap.size := ⟨_, rfl⟩
   have hb : Below wr.heap.size wr w4 := by rw [hw4]; exact below_box _ _
   have HE := Lib.hid (show w4.rangeAt b6 0 (evtL e (.slice ta tn tc)) by
    rw [hw4, hb6]
    intro j v hj
    unfold World.cell?
    rw [(MapKept.heap_alloc wr _).1]
    simpa [evtL] using hj)
   rw [← hw4, ← hb6]
   replace HTK := Lib.hid (HTK.out.below hb)
   replace HS := Lib.hid (HS.out.below hb)
   replace HDC := Lib.hid (HDC.out.below hb)
   replace HEV := Lib.hid (HEV.out.below hb)
   replace HB := Lib.hid (HB.out.trans (hb.mono HB.out.size))
   clear hb hw4 hb6 HA
   obtain ⟨dn, hdn⟩ : ∃ n, n = ds.length := ⟨_, rfl⟩
   rw [← hdn] at HS HDC
   have HDN := Lib.hid hdn
   have HSTEP := Lib.hid (hist_step (L := 1000000) e (.slice ta tn tc) now (.slice a dn dc) ds w4 (HET.out k e HEK.out) HST.out (by decide) HTK.out HNT2.out HDC.out (fun h0 => by
    obtain ⟨rfl, rfl⟩ := HNIL.out h0
    rw [HDN.out, h0]; rfl))
   have k0 := HS.out.c0
   have k1 := HS.out.c1
   clear hdn
   apply wp_region_lit
   iterate 3 go_step
   refine wpl_loadEv HE.out rfl rfl rfl ?_
   simp only [Act.put, List.setIfInBounds_toArray, List.set_cons_succ, List.set_cons_zero]
   go_wp2_with fail
   refine HSTEP.out.mono ?_
   rintro r w5 ⟨code, now', v', ov', ds', os, rfl, hr, hdc, hnil2, hou, hb⟩
   obtain ⟨a2, c2, hv2, -⟩ := id hdc
   obtain ⟨m2, hm2⟩ : ∃ n, n = ds'.length := ⟨_, rfl⟩
   rw [← hm2] at hv2
   subst hv2
   obtain ⟨oa, oc, hov, -⟩ := id hou
   obtain ⟨on, hon⟩ : ∃ n, n = os.length := ⟨_, rfl⟩
   rw [← hon] at hov
   subst hov
   replace HS := Lib.hid (HS.out.below hb)
   replace HDC := Lib.hid (HDC.out.below hb)
   replace HEV := Lib.hid (HEV.out.below hb)
   replace HB := Lib.hid (HB.out.trans (hb.mono HB.out.size))
   have HDC2 := Lib.hid hdc
   have HM2 := Lib.hid hm2
   have HR := Lib.hid hr
   have HNIL2 := Lib.hid hnil2
   clear hdc hm2 hr hou hon hb hnil2 k0 k1 HSTEP HE HTK
   go_upto_region 7 with fail
   obtain ⟨w6, hw6⟩ : ∃ y, y = w5.alloc (.cells #[.int .i64 now', .slice a2 m2 c2] 55) := ⟨_, rfl⟩
   obtain ⟨g7, hg7⟩ : ∃ y, y = w5.heap.size := ⟨_, rfl⟩
   have hb : Below w5.heap.size w5 w6 := by rw [hw6]; exact below_box _ _
   have HS2 := Lib.hid (show SB w6 g7 now' a2 m2 c2 by rw [hw6, hg7]; exact (MapKept.heap_alloc w5 _).1)
   have HG7 := Lib.hid (show g4 ≠ g7 by have := HS.out.lt; omega)
   rw [← hw6, ← hg7]
   replace HS := Lib.hid (HS.out.below hb)
   replace HDC := Lib.hid (HDC.out.below hb)
   replace HDC2 := Lib.hid (HDC2.out.below hb)
   replace HEV := Lib.hid (HEV.out.below hb)
   replace HB := Lib.hid (HB.out.trans (hb.mono HB.out.size))
   clear hb hw6 hg7
   by_cases hz : code = 0
   ·subst hz
    have HHR := Lib.hid (StpH.histR (HET.out k e HEK.out) HR.out)
    have HST2 := Lib.hid (StpH.keeps HST.out (HET.out k e HEK.out) HR.out)
    clear HR
    have e1 := HHR.out.n
    have e2 := HHR.out.l0
    have e3 := HHR.out.l1
    rw [← HDN.out, ← HM2.out] at e2 e3
    have d16 := HST.out.l
    have d17 := HST2.out.l
    rw [← HDN.out] at d16
    rw [← HM2.out] at d17
    have q1 : ¬ (m2 : Int) < (dn : Int) := by omega
    have q2 : ¬ (dn : Int) + 1 < (m2 : Int) := by omega
    have q3 : ¬ now' < now := by omega
    have k0 := HS.out.c0
    have k1 := HS.out.c1
    have l0 := HS2.out.c0
    have l1 := HS2.out.c1
    clear e1 e2 e3
    go_upto_region 10 with fail
    obtain ⟨jj, hgrow⟩ := HHR.out.d
    have HGR := Lib.hid hgrow
    clear hgrow q1 q2 q3
    go_upto_region 12 with fail
    clear k0 k1 l0 l1
    go_loopw [10, 62] (fun v10 i wr => ∃ (x more : Nat), x ≤ dn ∧ i = .int .i64 (x : Int) ∧ v10 = .int .i64 (more : Int) ∧ more ≤ 1 ∧ (x ≤ jj → more = 0) ∧ SB wr g4 now a dn dc ∧ SB wr g7 now' a2 m2 c2 ∧ Dcs wr (.slice a dn dc) ds ∧ Dcs wr (.slice a2 m2 c2) ds' ∧ Evs wr (.slice (some ⟨b, o, none⟩) N ec) es ∧ Below w.heap.size w wr) (fun _ i _ => dn - (intOf i).toNat)
    case atStart => exact ⟨0, 0, Nat.zero_le _, rfl, rfl, Nat.zero_le _, fun _ => rfl, HS.out, HS2.out, HDC.out, HDC2.out, HEV.out, HB.out⟩
    case round =>
     clear HS HS2 HDC HDC2 HEV HB
     obtain ⟨x, more, hx, rfl, rfl, hmo, hmj, hs, hs2, hdc, hdc2, hev, hb⟩ := hrel
     have HS := Lib.hid hs
     have HS2 := Lib.hid hs2
     have HDC := Lib.hid hdc
     have HDC2 := Lib.hid hdc2
     have HEV := Lib.hid hev
     have HB := Lib.hid hb
     have HX := Lib.hid (And.intro hx (And.intro hmo hmj))
     clear hs hs2 hdc hdc2 hev hb hx hmo hmj
     by_cases hxl : x < dn
     ·have hxl' : (x : Int) < (dn : Int) := by omega
      obtain ⟨d, hd⟩ : ∃ d, ds[x]? = some d := ⟨_, List.getElem?_eq_getElem (by rw [← HDN.out]; exact hxl)⟩
      obtain ⟨d', hd', hgd⟩ := HGR.out x d hd
      have HD := Lib.hid hd
      have HGD := Lib.hid hgd
      have hx2 : x < m2 := by rw [HM2.out]; exact (List.getElem?_eq_some_iff.1 hd').1
      have hx2' : (x : Int) < (m2 : Int) := by omega
      obtain ⟨b1, o1, r1, n1, rfl, c1, hr1⟩ := HDC.out.at_ hd
      obtain ⟨b2, o2, r2, n2, rfl, c2', hr2⟩ := HDC2.out.at_ hd'
      have HR1 := Lib.hid hr1
      have HR2 := Lib.hid hr2
      obtain ⟨z1, hu1⟩ : ∃ n, n = d.revs.length := ⟨_, rfl⟩
      obtain ⟨z2, hu2⟩ : ∃ n, n = d'.revs.length := ⟨_, rfl⟩
      rw [← hu1] at HR1 c1
      rw [← hu2] at HR2 c2'
      have g0 := HGD.out.l0
      have g1 := HGD.out.l1
      rw [← hu1, ← hu2] at g0 g1
      have HU1 := Lib.hid hu1
      have hu64 : z1 ≤ 64 := by rw [hu1]; exact (HST.out.d d (List.mem_of_getElem? hd)).l1
      have k1 := HS.out.c1
      have l1 := HS2.out.c1
      clear hr1 hr2 hd hd' hgd hu1 hu2
      have g2 : z2 ≤ z1 + 1 := by split at g1 <;> omega
      have HG1 := Lib.hid g1
      clear g1
      go_upto_region 14 with fail
      go_quiet (fail)
      have hbq : Below wr.heap.size wr (wr.drewN nq) := below_drewN (Below.refl _ _) _
      obtain ⟨w7, hw7⟩ : ∃ y, y = wr.drewN nq := ⟨_, rfl⟩
      rw [← hw7] at hbq
      try rw [← hw7]
      replace HS := Lib.hid (HS.out.below hbq)
      replace HS2 := Lib.hid (HS2.out.below hbq)
      replace HDC := Lib.hid (HDC.out.below hbq)
      replace HDC2 := Lib.hid (HDC2.out.below hbq)
      replace HEV := Lib.hid (HEV.out.below hbq)
      replace HR1 := Lib.hid (HR1.out.below hbq)
      replace HR2 := Lib.hid (HR2.out.below hbq)
      replace HB := Lib.hid (HB.out.trans (hbq.mono HB.out.size))
      clear hbq hw7 c1 c2' k1 l1
      have v1 : ¬ (z2 : Int) < (z1 : Int) := by omega
      have v2 : ¬ (z1 : Int) + 1 < (z2 : Int) := by omega
      have v3 : ((more : Int) + (z2 : Int) - (z1 : Int)) = ((more + (z2 - z1) : Nat) : Int) := by omega
      go_upto_region 18 with fail
      rw [wrap_two more z2 z1 HX.out.2.1 (by omega) g0]
      obtain ⟨mo2, hmo2⟩ : ∃ y, y = more + (z2 - z1) := ⟨_, rfl⟩
      rw [← hmo2]
      have HMO := Lib.hid hmo2
      clear v1 v2 v3 hmo2
      go_upto_region 19 with fail
      have HG0 := Lib.hid g0
      have HG2 := Lib.hid g2
      clear g0 g2
      go_loopw [99] (fun i wr => ∃ y : Nat, y ≤ z1 ∧ i = .int .i64 (y : Int) ∧ SB wr g4 now (some ⟨b1, o1, none⟩) dn dc ∧ SB wr g7 now' (some ⟨b2, o2, none⟩) m2 c2 ∧ Dcs wr (.slice (some ⟨b1, o1, none⟩) dn dc) ds ∧ Dcs wr (.slice (some ⟨b2, o2, none⟩) m2 c2) ds' ∧ Evs wr (.slice (some ⟨b, o, none⟩) N ec) es ∧ Rvs wr (.slice r1 z1 n1) d.revs ∧ Rvs wr (.slice r2 z2 n2) d'.revs ∧ Below w.heap.size w wr) (fun i _ => z1 - (intOf i).toNat)
      case atStart => exact ⟨0, Nat.zero_le _, rfl, HS.out, HS2.out, HDC.out, HDC2.out, HEV.out, HR1.out, HR2.out, HB.out⟩
      case round =>
       clear HS HS2 HDC HDC2 HEV HR1 HR2 HB
       obtain ⟨y, hy, rfl, hs, hs2, hdc, hdc2, hev, hr1, hr2, hb⟩ := hrel
       have HS := Lib.hid hs
       have HS2 := Lib.hid hs2
       have HDC := Lib.hid hdc
       have HDC2 := Lib.hid hdc2
       have HEV := Lib.hid hev
       have HR1 := Lib.hid hr1
       have HR2 := Lib.hid hr2
       have HB := Lib.hid hb
       have HY := Lib.hid hy
       clear hs hs2 hdc hdc2 hev hr1 hr2 hb hy
       by_cases hyl : y < z1
       ·have hyl' : (y : Int) < (z1 : Int) := by omega
        have hyl2 : (y : Int) < (z2 : Int) := by have := HG0.out; omega
        obtain ⟨r, hr⟩ : ∃ r, d.revs[y]? = some r := ⟨_, List.getElem?_eq_getElem (by rw [← HU1.out]; exact hyl)⟩
        obtain ⟨r', hr', hsr⟩ := HGD.out.r y r hr
        obtain ⟨p1, q1, ta1, tc1, e1, f1, t1⟩ := HR1.out.at_ hr
        obtain ⟨p2, q2, ta2, tc2, e2, f2, t2⟩ := HR2.out.at_ hr'
        subst e1 e2
        obtain ⟨k1, b3, et⟩ := hsr
        rw [← et] at f2 t2
        obtain ⟨tn1, htn1⟩ : ∃ n, n = r.t.length := ⟨_, rfl⟩
        rw [← htn1] at f1 f2 t1 t2
        have HF1 := Lib.hid f1
        have HF2 := Lib.hid f2
        have HT1 := Lib.hid t1
        have HT2 := Lib.hid t2
        have HKE := Lib.hid (And.intro k1 b3)
        have HYL := Lib.hid hyl
        have HEQ := Lib.hid (fun (w1 : World) (h1 : Tk w1 (.slice ta1 tn1 tc1) r.t) (h2 : Tk w1 (.slice ta2 tn1 tc2) r.t) => equal_self (.slice ta1 tn1 tc1) (.slice ta2 tn1 tc2) r.t w1 h1 h2)
        clear f1 f2 t1 t2 k1 b3 et htn1 hr hr' hyl
        go_upto_region 21 with fail
        refine Plan.wp_region_plan (fun w' => RevC w' p1 (q1 + y * 5) r (.slice ta1 tn1 tc1) ∧ RevC w' p2 (q2 + y * 5) r' (.slice ta2 tn1 tc2)) (((List.range 35).map (·, true)) ++ (([35].map (·, false)) ++ ([36, 37].map (·, true)))) (by kernel_rfl) (by kernel_rfl) (by kernel_rfl) ⟨HF1.out.below (Below.refl _ _).drew, HF2.out.below (Below.refl _ _).drew⟩ ?_
        refine' Plan.plan_seg _ (List.range 35) (([35].map (·, false)) ++ ([36, 37].map (·, true))) (by kernel_rfl) (by kernel_rfl) rfl (by exact ⟨HF1.out.below (Below.refl _ _).drew, HF2.out.below (Below.refl _ _).drew⟩) (fun wx hS => ?_) ?_
        rotate_left
        ·obtain ⟨⟨x0, x1, x4⟩, y0, y1, y4⟩ := hS
         rw [← HKE.out.1] at y0
         rw [← HKE.out.2] at y1
         go_light
         iterate 35 (apply Plan.seg_pick; rfl; intro K hK; go_wp)
         exact Plan.seg_nil
        obtain ⟨w8, hw8⟩ : ∃ q, q = wr.drew := ⟨_, rfl⟩
        rw [← hw8]
        have hb : Below wr.heap.size wr w8 := by rw [hw8]; exact (Below.refl _ _).drew
        replace HS := Lib.hid (HS.out.below hb)
        replace HS2 := Lib.hid (HS2.out.below hb)
        replace HDC := Lib.hid (HDC.out.below hb)
        replace HDC2 := Lib.hid (HDC2.out.below hb)
        replace HEV := Lib.hid (HEV.out.below hb)
        replace HR1 := Lib.hid (HR1.out.below hb)
        replace HR2 := Lib.hid (HR2.out.below hb)
        replace HF1 := Lib.hid (HF1.out.below hb)
        replace HF2 := Lib.hid (HF2.out.below hb)
        replace HT1 := Lib.hid (HT1.out.below hb)
        replace HT2 := Lib.hid (HT2.out.below hb)
        replace HB := Lib.hid (HB.out.trans (hb.mono HB.out.size))
        clear hb hw8
        refine Plan.plan_of_effect rfl (fun K hK => ?_)
        go_wp2_with fail
        refine (HEQ.out w8 HT1.out HT2.out).mono ?_
        rintro rr w9 ⟨rfl, hb⟩
        replace HS := Lib.hid (HS.out.below hb)
        replace HS2 := Lib.hid (HS2.out.below hb)
        replace HDC := Lib.hid (HDC.out.below hb)
        replace HDC2 := Lib.hid (HDC2.out.below hb)
        replace HEV := Lib.hid (HEV.out.below hb)
        replace HR1 := Lib.hid (HR1.out.below hb)
        replace HR2 := Lib.hid (HR2.out.below hb)
        replace HF1 := Lib.hid (HF1.out.below hb)
        replace HF2 := Lib.hid (HF2.out.below hb)
        replace HB := Lib.hid (HB.out.trans (hb.mono HB.out.size))
        clear hb HT1 HT2 HEQ
        go_wp2_with fail
        refine ⟨⟨HF1.out, HF2.out⟩, ?_⟩
        refine' Plan.plan_seg _ [36, 37] [] (by kernel_rfl) (by kernel_rfl) rfl (by exact ⟨HF1.out, HF2.out⟩) (fun wx hS => ?_) ?_
        rotate_left
        ·clear hS
         go_light
         iterate 2 (apply Plan.seg_pick; rfl; intro K hK; go_wp)
         exact Plan.seg_nil
        refine Plan.plan_done ?_
        clear HF1 HF2
        go_wp2_with fail
        go_roundw
        case rel => exact ⟨y + 1, by have := HYL.out; omega, by simp, HS.out, HS2.out, HDC.out, HDC2.out, HEV.out, HR1.out, HR2.out, HB.out⟩
        case measure =>
         show z1 - (intOf (.int .i64 ((y : Int) + 1))).toNat < z1 - (intOf (.int .i64 (y : Int))).toNat
         have := HYL.out
         simp [intOf]
         omega
       ·have hyn : y = z1 := by have := HY.out; omega
        subst hyn
        have hyl' : ¬ ((y : Int) < (y : Int)) := by omega
        have HXL := Lib.hid hxl
        clear hxl
        go_wp2_with fail
        go_roundw
        case rel => exact ⟨x + 1, mo2, by have := HXL.out; omega, by simp, rfl, by
         have e1 := HX.out.2.1
         have e2 := HX.out.2.2
         have e3 := HG1.out
         have e4 := HG0.out
         rw [HMO.out]
         by_cases hj : x = jj
         ·rw [if_pos hj] at e3; have := e2 (by omega); omega
         ·rw [if_neg hj] at e3; omega, fun hj => by
         have e2 := HX.out.2.2 (by omega)
         have e3 := HG1.out
         have e4 := HG0.out
         rw [if_neg (by omega)] at e3
         rw [HMO.out]
         omega, HS.out, HS2.out, HDC.out, HDC2.out, HEV.out, HB.out⟩
        case measure =>
         show dn - (intOf (.int .i64 ((x : Int) + 1))).toNat < dn - (intOf (.int .i64 (x : Int))).toNat
         have := HXL.out
         simp [intOf]
         omega
     ·have hxn : x = dn := by have := HX.out.1; omega
      subst hxn
      have hxl' : ¬ ((x : Int) < (x : Int)) := by omega
      have hm1 : ¬ ((1 : Int) < (more : Int)) := by have := HX.out.2.1; omega
      have k0 := HS2.out.c0
      have k1 := HS2.out.c1
      have e0 := HS.out.c0
      have e1 := HS.out.c1
      have f0 := HS.out.f 0
      have f1 := HS.out.f 1
      go_wp2_with fail
      have hput := HS.out.put now' a2 m2 c2
      have hoth : ∀ x, x ≠ g4 → ((wr.setCell ⟨g4, 0, none⟩ (.int .i64 now')).setCell ⟨g4, 1, none⟩ (.slice a2 m2 c2)).heap[x]? = wr.heap[x]? := fun x hx => (setCells_other g4 x hx [_] 1 _).trans (setCells_other g4 x hx [_] 0 wr)
      have hbf := below_setCells g4 HG4.out.1 [.slice a2 m2 c2] 1 _ (below_setCells g4 HG4.out.1 [.int .i64 now'] 0 _ HB.out)
      simp only [World.setCells] at hbf
      exact ⟨⟨k + 1, by have := HLT.out; omega, by simp, now', a2, c2, ds', by rw [← HM2.out]; exact hput, by rw [← HM2.out]; exact HDC2.out.skipS HS.out.noStr hoth, fun h0 => by
       have := HNIL2.out (by trivial) h0
       simp only [Value.slice.injEq] at this
       exact ⟨this.1, this.2.2⟩, HST2.out, HEV.out.skipS HS.out.noStr hoth, hbf⟩, by have := HLT.out; simp [intOf]; omega⟩
   ·have hz' : (code == 0) = false := by simpa using hz
    clear HDC2 HR HM2 HNIL2 HS2
    go_wp2_with fail
    go_roundw
    case rel => exact ⟨k + 1, by have := HLT.out; omega, by simp, now, a, dc, ds, by rw [← HDN.out]; exact HS.out, by rw [← HDN.out]; exact HDC.out, HNIL.out, HST.out, HEV.out, HB.out⟩
    case measure =>
     show N - (intOf (.int .i64 ((k : Int) + 1))).toNat < N - (intOf (.int .i64 (k : Int))).toNat
     have := HLT.out
     simp [intOf]
     omega
  ·have hkn : k = N := by have := HK.out; omega
   subst hkn
   have hlt' : ¬ ((k : Int) < (k : Int)) := by omega
   go_wp2_with fail
   refine (awake_any _).mono ?_
   rintro e w4 ⟨rfl, hb⟩
   replace HB := Lib.hid (HB.out.trans (hb.mono HB.out.size))
   clear hb
   go_wp2_with fail
   go_ret
   exact ⟨rfl, HB.out⟩
open Go.ChangeShapes Go.WideShapes Go.ChangeAt Go.RowKit
theorem laid_out : laidOutB Tryz.prog = true := by kernel_rfl
theorem cells3 : Tryz.prog.cellsOf 3 = 1 := by kernel_rfl
section
variable {P : Program} {H : Type} {enc : TypeId × Value → H}
theorem post_of_below {f : Func} {s : ChangeSpec} {apart fresh handsOn again : Bool} {W W' : World} {args : Array Value} {v : Value} {ds gs : List (DataW H)} {before pa pv : List MemPlace}
  (hW : DataW.Whole enc P f.params.toList s.vars apart W args.toList ds gs before)
  (hres : ∀ (b : Nat) (sp : Nat → Bool) (hd : Bool), DataW.TrodAll enc P W' b sp hd f.resultTypes.toList (v.resultList f.resultTypes.size) (s.fn H (ds ++ gs)).results [])
  (hargs : ∀ sp : Nat → Bool, (∀ p ∈ before, sp p.block = true) → DataW.TrodAll enc P W' 0 sp true f.params.toList args.toList (s.fn H (ds ++ gs)).args pa)
  (hvars : ∀ sp : Nat → Bool, (∀ p ∈ before, sp p.block = true) → DataW.TrodVars enc P W' sp s.vars (s.fn H (ds ++ gs)).vars pv)
  (hps : before = pa ++ pv) (hb : Below W.heap.size W W')
  (hok : ∀ (j : Nat) (t : TypeId) (r : Value), f.resultTypes[j]? = some t → (v.resultList f.resultTypes.size)[j]? = some r → Value.okWide P W' .any 0 t r) :
  s.post enc P f apart fresh handsOn again W args v W' := by
 have old : ∀ p ∈ before, (fun b => decide (b < W.heap.size)) p.block = true := fun p hp => by simpa using hW.lt p hp
 have kept : W.keptBut W' (· ∈ before) := hb.frame _
 refine ⟨ds, gs, before, [], pa, pv, hW, hres _ _ _, hargs _ old, hvars _ old, World.keptBut_mono (fun p hp => ⟨hp, by rw [hps, List.mem_append] at hp; exact Or.inr hp⟩) kept, fun _ => ?_⟩
 have lt := hW.lt
 obtain ⟨_, _, _, _, _, hz, hn⟩ := hW
 refine ⟨hok, _, _, ([] ++ pa) ++ pv, ⟨[] ++ pa, pv, trodAll_append (hargs _ (fun _ _ => rfl)) (hres _ _ _), hvars _ (fun _ _ => rfl), rfl, ?_, ?_⟩, ?_⟩
 ·intro b off hp
  have hp' : MemPlace.cell b off ∈ before := by rw [hps]; simpa using hp
  rw [hb.frozen (p := ⟨b, off, none⟩) (lt _ hp')]
  exact hz b off hp'
 ·intro ha
  have h := hn ha
  rw [hps] at h
  simpa using h
 ·intro p hp _
  rw [hps]
  simpa using hp
end
section
variable {H : Type} {enc : TypeId × Value → H}
theorem trodAll_stays {P : Program} (hl : laidOutB P = true) {W W' : World} {sp : Nat → Bool} (hb : Below W.heap.size W W') : ∀ {ts : List TypeId} {vs : List Value} {ds : List (DataW H)} {ps : List MemPlace}, (ts.all fun t => P.readableRec t && decide (t < P.types.size)) = true →
  DataW.TrodAll enc P W 0 (fun _ => true) true ts vs ds ps → (∀ x ∈ ps, x.block < W.heap.size) → (∀ x ∈ ps, sp x.block = true) → DataW.TrodAll enc P W' 0 sp true ts vs ds ps := by
 intro ts
 induction ts with
 | nil =>
  intro vs ds ps _ h _ _
  cases vs with
  | nil => cases ds with
   | nil => exact h
   | cons => exact h.elim
  | cons => exact h.elim
 | cons t ts ih =>
  intro vs ds ps hr h hlt hs
  cases vs with
  | nil => exact h.elim
  | cons v vs => cases ds with
   | nil => exact h.elim
   | cons d ds =>
    obtain ⟨p, q, h1, h2, rfl⟩ := h
    simp only [List.all_cons, Bool.and_eq_true, decide_eq_true_eq] at hr
    exact ⟨p, q, WideElems.Trod_stays hl hr.1.1 hr.1.2 h1 (fun x hx => hb.same (hlt x (List.mem_append_left _ hx))) (fun x hx => hs x (List.mem_append_left _ hx)),
     ih hr.2 h2 (fun x hx => hlt x (List.mem_append_right _ hx)) (fun x hx => hs x (List.mem_append_right _ hx)), rfl⟩
set_option maxRecDepth 100000 in
theorem open_tape {W : World} {base : Nat} {v : Value} {d : DataW H} {p : List MemPlace} (hval : Value.okWide Tryz.prog W .any base 24 v) (h : DataW.Trod enc Tryz.prog W 0 (fun _ => true) true 24 v d p) : Ints W v := by
 obtain ⟨a1, len, cap, rfl⟩ := okWide_slice Tryz.underlying24 hval
 obtain ⟨fuel, hf⟩ := h
 rcases open_ints Tryz.underlying24 Tryz.underlying3 cells3 hf with ⟨hcs, hx⟩ | ⟨a, len', cap', zs, hcs, _, hl, hm, hz, hx, hcell, hwz⟩
 ·simp [Value.cells] at hcs
  obtain ⟨rfl, rfl, rfl⟩ := hcs
  exact ⟨none, 0, 0, rfl, Nat.le_refl _, by omega, fun i hi => absurd hi (Nat.not_lt_zero i)⟩
 ·simp [Value.cells] at hcs
  obtain ⟨rfl, rfl, rfl⟩ := hcs
  simp only [if_true] at hz
  refine ⟨_, _, _, rfl, hl, by unfold maxLen at hm; omega, fun i hi => ?_⟩
  obtain ⟨ab, ao, spot⟩ := a
  have hspot : spot = none := by simpa [Addr.add] using World.cell?_spot (hcell 0 (by omega))
  subst hspot
  have hc := hcell i (by omega)
  rw [Addr.add_lit] at hc
  exact ⟨ab, ao, _, rfl, hc⟩
end
end Go.Proofs.YtfoohocgdcgbcaaGreat
