/- Texts of this claim joined: NA NB NC. -/
import Derived.Test.YtfoohocgdcgbcaaGreatHb15
set_option linter.unusedVariables false
set_option linter.unusedSimpArgs false
namespace Go.Proofs.YtfoohocgdcgbcaaGreat
open Go.RowKit
def Two2 (w : World) (b : Nat) : Prop := ∃ c : Array Value, c.size = 2 ∧ w.heap[b]? = some (.cells c 55 (0, 0))
theorem Two2.ne {w : World} {b b' o : Nat} {u : Value} (h : Two2 w b) (hc : w.cell? ⟨b', o, none⟩ = some u) (ho : 2 ≤ o) : b' ≠ b := by
 rintro rfl
 obtain ⟨c, hs, hb⟩ := h
 unfold World.cell? at hc
 simp only [hb] at hc
 rw [Array.getElem?_eq_none (by omega)] at hc
 cases hc
theorem Two2.set {w : World} {b : Nat} (h : Two2 w b) (o : Nat) (u : Value) : Two2 (w.setCell ⟨b, o, none⟩ u) b := by
 obtain ⟨c, hs, hb⟩ := h
 exact ⟨c.setIfInBounds o u, by simpa using hs, by simp [World.setCell, Array.getElem?_modify, hb]⟩
theorem Tk.skip {w w' : World} {b : Nat} {v : Value} {l : List Trk.Clip} (h : Tk w v l) (h2 : Two2 w b) (hs : ∀ x, x ≠ b → w'.heap[x]? = w.heap[x]?) : Tk w' v l := by
 obtain ⟨ao, cap, e, e1, e2, h3⟩ := h
 refine ⟨ao, cap, e, e1, e2, fun i c hi => ?_⟩
 obtain ⟨b', o, e3, hc⟩ := h3 i c hi
 exact ⟨b', o, e3, hc.same (hs b' (h2.ne hc.k2 (by omega)))⟩
theorem Dcs.skip {w w' : World} {b : Nat} {v : Value} {ds : List Dc} (h : Dcs w v ds) (h2 : Two2 w b) (hs : ∀ x, x ≠ b → w'.heap[x]? = w.heap[x]?) : Dcs w' v ds := by
 obtain ⟨ao, cap, e, e1, e2, h3⟩ := h
 refine ⟨ao, cap, e, e1, e2, fun i d hi => ?_⟩
 obtain ⟨b', o, rv, e3, hc, ao2, cap2, f, f1, f2, h4⟩ := h3 i d hi
 refine ⟨b', o, rv, e3, rangeAt_ag hc (hs b' (h2.ne (hc 2 _ rfl) (by omega))), ao2, cap2, f, f1, f2, fun j r hj => ?_⟩
 obtain ⟨b3, o3, tv, g3, hc3, ht⟩ := h4 j r hj
 exact ⟨b3, o3, tv, g3, rangeAt_ag hc3 (hs b3 (h2.ne (hc3 2 _ rfl) (by omega))), ht.skip h2 hs⟩
structure CB (w : World) (b1 b2 : Nat) (now : Int) (v : Value) : Prop where
 c0 : w.cell? ⟨b1, 0, none⟩ = some (.int .i64 now)
 c1 : w.cell? ⟨b1, 1, none⟩ = some v
 f1 : w.frozen? ⟨b1, 1, none⟩ = false
 e0 : w.cell? ⟨b2, 0, none⟩ = some (.int .i64 0)
 e1 : w.cell? ⟨b2, 1, none⟩ = some (.slice none 0 0)
 g0 : w.frozen? ⟨b2, 0, none⟩ = false
 g1 : w.frozen? ⟨b2, 1, none⟩ = false
 s : Two2 w b2
theorem CB.below {w w' : World} {b1 b2 : Nat} {now : Int} {v : Value} (h : CB w b1 b2 now v) (hb : Below w.heap.size w w') : CB w' b1 b2 now v := by
 have l1 := block_lt_of_cell h.c0
 have l2 := block_lt_of_cell h.e0
 exact ⟨(hb.cell (p := ⟨b1, 0, none⟩) l1).trans h.c0, (hb.cell (p := ⟨b1, 1, none⟩) l1).trans h.c1, (hb.frozen (p := ⟨b1, 1, none⟩) l1).trans h.f1, (hb.cell (p := ⟨b2, 0, none⟩) l2).trans h.e0, (hb.cell (p := ⟨b2, 1, none⟩) l2).trans h.e1, (hb.frozen (p := ⟨b2, 0, none⟩) l2).trans h.g0, (hb.frozen (p := ⟨b2, 1, none⟩) l2).trans h.g1, by obtain ⟨c, hs, hc⟩ := h.s; exact ⟨c, hs, (hb.block b2 l2).trans hc⟩⟩
theorem CB.far {w : World} {b1 b2 : Nat} {now : Int} {v : Value} (h : CB w b1 b2 now v) {g : Nat} (h1 : b1 ≠ g) (h2 : b2 ≠ g) (o : Nat) (u : Value) : CB (w.setCell ⟨g, o, none⟩ u) b1 b2 now v := by
 have k1 : (w.setCell ⟨g, o, none⟩ u).heap[b1]? = w.heap[b1]? := setCells_other g b1 h1 [u] o w
 have k2 : (w.setCell ⟨g, o, none⟩ u).heap[b2]? = w.heap[b2]? := setCells_other g b2 h2 [u] o w
 have fz : ∀ b p, (w.setCell ⟨g, o, none⟩ u).heap[b]? = w.heap[b]? → (w.setCell ⟨g, o, none⟩ u).frozen? ⟨b, p, none⟩ = w.frozen? ⟨b, p, none⟩ := fun b p hb => by unfold World.frozen?; simp only [hb]
 exact ⟨(World.cell?_of_block (a := ⟨b1, 0, none⟩) k1).trans h.c0, (World.cell?_of_block (a := ⟨b1, 1, none⟩) k1).trans h.c1, (fz b1 1 k1).trans h.f1, (World.cell?_of_block (a := ⟨b2, 0, none⟩) k2).trans h.e0, (World.cell?_of_block (a := ⟨b2, 1, none⟩) k2).trans h.e1, (fz b2 0 k2).trans h.g0, (fz b2 1 k2).trans h.g1, by obtain ⟨c, hs, hc⟩ := h.s; exact ⟨c, hs, k2.trans hc⟩⟩
theorem CB.put {w : World} {b1 b2 : Nat} {now : Int} {v : Value} (h : CB w b1 b2 now v) (hn : b1 ≠ b2) (u : Value) : CB (w.setCell ⟨b1, 1, none⟩ u) b1 b2 now u := by
 have hn2 := Ne.symm hn
 obtain ⟨h0, h1, h2, h3, h4, h5, h6, hs⟩ := h
 exact ⟨by simp [go_sem, h0], by simp [go_sem, h1], by simp [go_sem, h2], by simp [go_sem, h3, hn, hn2], by simp [go_sem, h4, hn, hn2], by simp [go_sem, h5], by simp [go_sem, h6], by obtain ⟨c, hs, hc⟩ := hs; exact ⟨c, hs, (setCells_other b1 b2 hn2 [u] 1 w).trans hc⟩⟩
theorem DX.far {w : World} {g cap m b : Nat} {ds : List Dc} (h : DX w g cap m ds) (hm : m ≤ b) (hg : g ≠ b) (o : Nat) (u : Value) : DX (w.setCell ⟨b, o, none⟩ u) g cap m ds := by
 obtain ⟨ts, h1, h2, h3⟩ := h.r
 have hs : (w.setCell ⟨b, o, none⟩ u).heap[g]? = w.heap[g]? := setCells_other b g hg [u] o w
 exact ⟨by simpa [World.setCell] using h.m0, ts, h1, h2.blk hs, fun i d t hd ht => (h3 i d t hd ht).on (ag_far hm)⟩
theorem OQ.setG {w : World} {q cap g : Nat} {rs : List Rv} (h : OQ w q cap g rs) (o : Nat) (u : Value) : OQ (w.setCell ⟨g, o, none⟩ u) q cap g rs := by
 obtain ⟨us, h1, h2, h3⟩ := h.r
 have hsz : (w.setCell ⟨g, o, none⟩ u).heap.size = w.heap.size := by simp [World.setCell]
 exact ⟨h.n0, us, h1, h2.blk (setCells_other g q h.n0 [u] o w), fun i r t hr ht => ((h3 i r t hr ht).on fun b hb => setCells_other g b hb.2.1 [u] o w).mono fun b hb => by rw [hsz]; exact hb⟩
theorem OT.ts2 {w : World} {B g q : Nat} {v : Value} {l : List Trk.Clip} (h : OT w B v l) (hg : g < B) (hq : q < B) : TS (fun b => b < w.heap.size ∧ b ≠ g ∧ b ≠ q) w v l := by
 intro w' ha
 have h' := h
 rcases h with ⟨rfl, hl, he⟩ | ⟨b, cap, cur, rfl, hB, hb, _⟩
 ·exact OT.tk (w := w') (B := B) (.inl ⟨rfl, hl, he⟩)
 ·exact OT.tk (w := w') (B := B) (RowX.blk h' (ha b ⟨(Array.getElem?_eq_some_iff.1 hb).1, by omega, by omega⟩))
set_option maxRecDepth 100000 in
set_option maxHeartbeats 16000000 in
theorem stateclone_any (v : Value) (ds : List Dc) (now : Int) (w : World) (h : Dcs w v ds) (h0 : ds ≠ []) (h1 : ds.length ≤ 1000) (hR : ∀ d ∈ ds, 1 ≤ d.revs.length ∧ d.revs.length ≤ 1000 ∧ ∀ r ∈ d.revs, r.t.length ≤ 1048576) :
  Calls Tryz.prog 64 #[.agg #[.int .i64 now, v]] w fun e w' => ∃ v', e = .returned (.agg #[.int .i64 now, v']) ∧ Dcs w' v' ds ∧ Below w.heap.size w w' := by
 have HR := Lib.hid hR
 have HL := Lib.hid (And.intro h0 h1)
 have OD := Lib.hid (fun w2 (hb : Below w.heap.size w w2) => owndocs_any v ds w w2 h hb h0 (by omega))
 obtain ⟨va, vc, hv, -⟩ := h
 obtain ⟨N, hN⟩ : ∃ N, N = ds.length := ⟨_, rfl⟩
 rw [← hN] at hv OD
 have HN := Lib.hid hN
 have hN1 : N ≤ 1000 := by omega
 have HN1 := Lib.hid hN1
 subst hv
 clear hR h0 h1 hN hN1
 go_enter Tryz.func64, Tryz.ntmps64
 go_upto_region 1 with fail
 obtain ⟨w1, hw1⟩ : ∃ y, y = (w.alloc (.cells #[.int .i64 now, .slice va N vc] 55)).alloc (.cells #[.int .i64 0, .slice none 0 0] 55) := ⟨_, rfl⟩
 obtain ⟨b1, hb1⟩ : ∃ y, y = w.heap.size := ⟨_, rfl⟩
 obtain ⟨b2, hb2⟩ : ∃ y, y = w.heap.size + 1 := ⟨_, rfl⟩
 have hb : Below w.heap.size w w1 := by rw [hw1]; exact ((Below.refl _ _).alloc (Nat.le_refl _) _).alloc (by simp [go_sem]) _
 have HCB := Lib.hid (show CB w1 b1 b2 now (.slice va N vc) by
  rw [hw1, hb1, hb2]
  refine ⟨by simp [go_sem], by simp [go_sem], by simp [go_sem], by simp [go_sem], by simp [go_sem], by simp [go_sem], by simp [go_sem], #[.int .i64 0, .slice none 0 0], rfl, ?_⟩
  have := (MapKept.heap_alloc (w.alloc (.cells #[.int .i64 now, .slice va N vc] 55)) (.cells #[.int .i64 0, .slice none 0 0] 55)).1
  simpa using this)
 have HNE := Lib.hid (show b1 ≠ b2 ∧ b1 < w1.heap.size ∧ b2 < w1.heap.size ∧ w.heap.size ≤ b1 ∧ w.heap.size ≤ b2 from ⟨by omega, block_lt_of_cell HCB.out.c0, block_lt_of_cell HCB.out.e0, by omega, by omega⟩)
 rw [← hw1, ← hb2, ← hb1]
 have HB := Lib.hid hb
 clear hw1 hb1 hb2 hb
 obtain ⟨k0, k1, k2, k3, k4, k5, k6, -⟩ := HCB.out
 go_wp2_with fail
 refine (OD.out w1 HB.out).mono ?_
 rintro e w2 ⟨g, cap, rfl, hg, hdx, hb⟩
 replace HCB := Lib.hid (HCB.out.below hb)
 clear k0 k1 k2 k3 k4 k5 k6
 obtain ⟨k0, k1, k2, k3, k4, k5, k6, -⟩ := HCB.out
 have HG := Lib.hid (show b1 ≠ g ∧ b2 ≠ g ∧ w.heap.size ≤ g from ⟨by have := HNE.out; omega, by have := HNE.out; omega, by have := HNE.out; omega⟩)
 replace HB := Lib.hid (HB.out.trans (hb.mono HB.out.size))
 have HDX := Lib.hid hdx
 clear hb hdx hg OD
 go_upto_region 2 with fail
 clear k0 k1 k2 k3 k4 k5 k6
 replace HDX := Lib.hid (HDX.out.far HNE.out.2.2.2.1 (Ne.symm HG.out.1) 1 (.slice (some ⟨g, 0, none⟩) N cap)).full
 replace HCB := Lib.hid (HCB.out.put HNE.out.1 (.slice (some ⟨g, 0, none⟩) N cap))
 replace HB := Lib.hid (below_setCells b1 HNE.out.2.2.2.1 [.slice (some ⟨g, 0, none⟩) N cap] 1 _ HB.out)
 simp only [World.setCells] at HB
 obtain ⟨w3, hw3⟩ : ∃ y, y = w2.setCell ⟨b1, 1, none⟩ (.slice (some ⟨g, 0, none⟩) N cap) := ⟨_, rfl⟩
 rw [← hw3] at HDX HCB HB ⊢
 clear hw3
 obtain ⟨k0, k1, k2, k3, k4, k5, k6, -⟩ := HCB.out
 go_upto_region 3 with fail
 clear k0 k1 k2 k3 k4 k5 k6
 go_loopw [13] (fun i wr => ∃ k : Nat, k ≤ N ∧ i = .int .i64 (k : Int) ∧ DX wr g cap wr.heap.size ds ∧ CB wr b1 b2 now (.slice (some ⟨g, 0, none⟩) N cap) ∧ Below w.heap.size w wr) (fun i _ => N - (intOf i).toNat)
 case atStart => exact ⟨0, Nat.zero_le _, rfl, HDX.out, HCB.out, HB.out⟩
 case round =>
  clear HDX HCB HB
  obtain ⟨k, hk, rfl, hdx, hcb, hb⟩ := hrel
  obtain ⟨wo, rfl⟩ : ∃ x, x = wr := ⟨_, rfl⟩
  have HDX := Lib.hid hdx
  have HCB := Lib.hid hcb
  have HB := Lib.hid hb
  have HK := Lib.hid hk
  clear hdx hcb hb hk
  by_cases hlt : k < N
  ·obtain ⟨d, hd⟩ : ∃ d, ds[k]? = some d := ⟨_, List.getElem?_eq_getElem (by have := HN.out; omega)⟩
   have HDK := Lib.hid hd
   have HLT := Lib.hid hlt
   have hlt' : (k : Int) < (N : Int) := by omega
   obtain ⟨rv, hcd, hrs⟩ := HDX.out.doc hd
   have d3 : wo.cell? ⟨g, k * 4 + 3, none⟩ = some rv := hcd 3 _ rfl
   have hrd := HR.out d (List.mem_of_getElem? hd)
   have OV := Lib.hid (fun w (h : RS (Lo w.heap.size g) w rv d.revs) (hg : g < w.heap.size) => ownrevs_any rv d.revs g w h hg (by intro e; rw [e] at hrd; simp at hrd) hrd.2.1)
   have HRS := Lib.hid hrs
   obtain ⟨ra, rc, hrv, -⟩ := hrs
   obtain ⟨n, hn⟩ : ∃ n, n = d.revs.length := ⟨_, rfl⟩
   rw [← hn] at hrv OV
   have HNN := Lib.hid hn
   subst hrv
   have fg := HDX.out.frozen (k * 4 + 3)
   clear hd hcd hrd hn hlt
   obtain ⟨k0, k1, k2, k3, k4, k5, k6, -⟩ := HCB.out
   go_upto_region 6 with fail
   go_wp2_with fail
   refine (OV.out wo HRS.out HDX.out.lt.1).mono ?_
   rintro e w4 ⟨q, qc, rfl, hq, hoq, hb⟩
   have HDW := Lib.hid (show wo.cell? ⟨g, k * 4 + 3, none⟩ = some (.slice ra n rc) ∧ wo.frozen? ⟨g, k * 4 + 3, none⟩ = false from ⟨d3, fg⟩)
   have hgl := HDX.out.lt.1
   have HGL := Lib.hid hgl
   replace d3 := (hb.cell (p := ⟨g, k * 4 + 3, none⟩) hgl).trans d3
   replace fg := (hb.frozen (p := ⟨g, k * 4 + 3, none⟩) hgl).trans fg
   have HQ := Lib.hid (show wo.heap.size ≤ q ∧ q ≠ g ∧ q ≠ b1 ∧ q ≠ b2 ∧ w.heap.size ≤ q from ⟨hq, by omega, by have := block_lt_of_cell HCB.out.c0; dsimp only at this; omega, by have := block_lt_of_cell HCB.out.e0; dsimp only at this; omega, by have := HB.out.size; omega⟩)
   have HBR := Lib.hid (below_set_both hb ⟨g, k * 4 + 3, none⟩ (.slice (some ⟨q, 0, none⟩) n qc))
   replace HCB := Lib.hid ((HCB.out.below hb).far HG.out.1 HG.out.2.1 (k * 4 + 3) (.slice (some ⟨q, 0, none⟩) n qc))
   have HOQ := Lib.hid (hoq.setG (k * 4 + 3) (.slice (some ⟨q, 0, none⟩) n qc))
   replace HB := Lib.hid (below_setCells g HG.out.2.2 [.slice (some ⟨q, 0, none⟩) n qc] (k * 4 + 3) _ (HB.out.trans (hb.mono HB.out.size)))
   simp only [World.setCells] at HB
   clear k0 k1 k2 k3 k4 k5 k6 hq hoq hb hgl OV HRS
   go_upto_region 7 with fail
   obtain ⟨w5, hw5⟩ : ∃ y, y = w4.setCell ⟨g, k * 4 + 3, none⟩ (.slice (some ⟨q, 0, none⟩) n qc) := ⟨_, rfl⟩
   have d5 : w5.cell? ⟨g, k * 4 + 3, none⟩ = some (.slice (some ⟨q, 0, none⟩) n qc) := by rw [hw5]; simp [go_sem, d3]
   rw [← hw5] at HBR HCB HOQ HB ⊢
   clear hw5 d3 fg
   go_upto_region 8 with fail
   clear d5
   go_loopw [33] (fun i wi => ∃ j : Nat, j ≤ n ∧ i = .int .i64 (j : Int) ∧ OQ wi q qc g d.revs ∧ Below wo.heap.size (wo.setCell ⟨g, k * 4 + 3, none⟩ (.slice (some ⟨q, 0, none⟩) n qc)) wi ∧ CB wi b1 b2 now (.slice (some ⟨g, 0, none⟩) N cap) ∧ Below w.heap.size w wi) (fun i _ => n - (intOf i).toNat)
   case atStart => exact ⟨0, Nat.zero_le _, rfl, HOQ.out, HBR.out, HCB.out, HB.out⟩
   case round =>
    clear HOQ HBR HCB HB
    obtain ⟨j, hj, rfl, hoq, hbr, hcb, hb⟩ := hrel
    have HOQ := Lib.hid hoq
    have HBR := Lib.hid hbr
    have HCB := Lib.hid hcb
    have HB := Lib.hid hb
    have HJ := Lib.hid hj
    clear hoq hbr hcb hb hj
    by_cases hjn : j < n
    ·obtain ⟨r, hr⟩ : ∃ r, d.revs[j]? = some r := ⟨_, List.getElem?_eq_getElem (by have := HNN.out; omega)⟩
     have hjn' : (j : Int) < (n : Int) := by omega
     obtain ⟨tv, hrt, htk⟩ := HOQ.out.cells hr
     have HRJ := Lib.hid hr
     have hlen := (HR.out d (List.mem_of_getElem? HDK.out)).2.2 r (List.mem_of_getElem? hr)
     have CT := Lib.hid (fun w (h : Tk w tv r.t) => clonetrack_any tv r.t w h hlen)
     have HTK := Lib.hid htk
     have e4 := hrt 4 _ rfl
     obtain ⟨ta, tc, htv, -⟩ := htk
     obtain ⟨tn, htn⟩ : ∃ n, n = r.t.length := ⟨_, rfl⟩
     rw [← htn] at htv
     subst htv
     have d5 : wr.cell? ⟨g, k * 4 + 3, none⟩ = some (.slice (some ⟨q, 0, none⟩) n qc) := by
      rw [HBR.out.cell (p := ⟨g, k * 4 + 3, none⟩) HGL.out]
      simp [go_sem, HDW.out.1]
     have HE4 := Lib.hid (And.intro d5 e4)
     have HJN := Lib.hid (show ¬ ((j : Int) < 0) ∧ (j : Int) < (n : Int) from ⟨by omega, hjn'⟩)
     have HJL := Lib.hid hjn
     clear hr hrt htn hlen
     go_upto_region 10 with fail
     clear d5 e4
     refine Plan.wp_region_planw (fun w' => Below wr.heap.size wr w') 16 (([0, 1, 2, 3, 4, 5, 6, 7, 8, 9, 10, 11, 12].map (·, true)) ++ (([13].map (·, false)) ++ (([14, 15].map (·, true)) ++ ([16].map (·, false))))) (by kernel_rfl) (by kernel_rfl) (by kernel_rfl) (Below.refl _ _).drew ?_
     refine' Plan.plan_seg _ [0, 1, 2, 3, 4, 5, 6, 7, 8, 9, 10, 11, 12] (([13].map (·, false)) ++ (([14, 15].map (·, true)) ++ ([16].map (·, false)))) (by kernel_rfl) (by kernel_rfl) rfl (by exact (Below.refl _ _).drew) (fun wx hS => ?_) ?_
     rotate_left
     ·have d5 := (hS.cell (p := ⟨g, k * 4 + 3, none⟩) (block_lt_of_cell HE4.out.1)).trans HE4.out.1
      have e4 := (hS.cell (p := ⟨q, j * 5 + 4, none⟩) (block_lt_of_cell HE4.out.2)).trans HE4.out.2
      obtain ⟨j0, j1⟩ := HJN.out
      clear hS
      go_light
      iterate 13 (apply Plan.seg_pick; rfl; intro K hK; go_wp)
      exact Plan.seg_nil
     have hb : Below wr.heap.size wr wr.drew := (Below.refl _ _).drew
     have HS := Lib.hid hb
     clear hb
     refine Plan.plan_of_effect rfl (fun K hK => ?_)
     go_wp2_with fail
     refine (CT.out _ (HTK.out.below HS.out)).mono ?_
     rintro e w7 ⟨nv, rfl, ho, hb⟩
     have HQL := Lib.hid (show g < wr.drew.heap.size ∧ q < wr.drew.heap.size from ⟨block_lt_of_cell HE4.out.1, block_lt_of_cell HE4.out.2⟩)
     obtain ⟨na, nc, hnv, -⟩ := ho.tk
     obtain ⟨nn, hnn⟩ : ∃ n, n = r.t.length := ⟨_, rfl⟩
     rw [← hnn] at hnv
     subst hnv
     have HO := Lib.hid ho
     replace HS := Lib.hid (HS.out.trans (hb.mono HS.out.size))
     clear hb ho hnn
     go_wp2_with fail
     refine ⟨HS.out, ?_⟩
     refine' Plan.plan_seg _ [14, 15] [(16, false)] (by kernel_rfl) (by kernel_rfl) rfl (by exact HS.out) (fun wx hS => ?_) ?_
     rotate_left
     ·obtain ⟨j0, j1⟩ := HJN.out
      clear hS
      go_light
      iterate 2 (apply Plan.seg_pick; rfl; intro K hK; go_wp)
      exact Plan.seg_nil
     have e7 := (HS.out.cell (p := ⟨q, j * 5 + 4, none⟩) (block_lt_of_cell HE4.out.2)).trans HE4.out.2
     have f7 := (HOQ.out.below HS.out).frozen (j * 5 + 4)
     refine Plan.plan_of_last rfl (fun K hK => ?_)
     go_wp2_with fail
     refine Plan.plan_done ?_
     have hts := HO.out.ts2 HQL.out.1 HQL.out.2
     have HOQ2 := Lib.hid ((HOQ.out.below HS.out).setT HRJ.out hts)
     have HBR2 := Lib.hid (below_setCells q HQ.out.1 [.slice na nn nc] (j * 5 + 4) _ (HBR.out.trans (HS.out.mono (by have := HBR.out.size; simpa [World.setCell] using this))))
     have HB2 := Lib.hid (below_setCells q HQ.out.2.2.2.2 [.slice na nn nc] (j * 5 + 4) _ (HB.out.trans (HS.out.mono HB.out.size)))
     simp only [World.setCells] at HBR2 HB2
     have HCB2 := Lib.hid ((HCB.out.below HS.out).far (Ne.symm HQ.out.2.2.1) (Ne.symm HQ.out.2.2.2.1) (j * 5 + 4) (.slice na nn nc))
     clear hts e7 f7 HOQ HBR HB HCB
     have hw9 : (j : Int) + 1 ≤ 9223372036854775807 := by have := HJL.out; have := HNN.out; have := (HR.out d (List.mem_of_getElem? HDK.out)).2.1; omega
     go_wp2_with fail
     go_roundw
     case rel => exact ⟨j + 1, by have := HJL.out; omega, by simp, HOQ2.out, HBR2.out, HCB2.out, HB2.out⟩
     case measure =>
      have := HJL.out
      simp [intOf]
      omega
    ·have hjn2 : j = n := by have := HJ.out; omega
     have hDX := HDX.out.turn HDK.out HBR.out (by have := HOQ.out.rs; rw [← HNN.out] at this; exact this)
     rw [show ds.set k { d with revs := d.revs } = ds from list_set_same HDK.out] at hDX
     have HDX2 := Lib.hid hDX
     subst hjn2
     clear hDX
     have hw9 : (k : Int) + 1 ≤ 9223372036854775807 := by have := HLT.out; have := HN1.out; omega
     go_wp2_with fail
     go_roundw
     case rel => exact ⟨k + 1, by have := HLT.out; omega, by simp, HDX2.out, HCB.out, HB.out⟩
     case measure =>
      have := HLT.out
      simp [intOf]
      omega
  ·have hkn : k = N := by have := HK.out; omega
   subst hkn
   obtain ⟨k0, k1, k2, k3, k4, k5, k6, -⟩ := HCB.out
   go_wp2_with fail
   have z0 : ((wo.setCell ⟨b2, 0, none⟩ (.int .i64 now)).setCell ⟨b2, 1, none⟩ (.slice (some ⟨g, 0, none⟩) k cap)).cell? ⟨b2, 0, none⟩ = some (.int .i64 now) := by simp [go_sem, k3]
   have z1 : ((wo.setCell ⟨b2, 0, none⟩ (.int .i64 now)).setCell ⟨b2, 1, none⟩ (.slice (some ⟨g, 0, none⟩) k cap)).cell? ⟨b2, 1, none⟩ = some (.slice (some ⟨g, 0, none⟩) k cap) := by simp [go_sem, k4]
   have hsk := (HDX.out.dcs.skip (w' := wo.setCell ⟨b2, 0, none⟩ (.int .i64 now)) HCB.out.s (fun x hx => setCells_other b2 x hx [.int .i64 now] 0 wo)).skip (w' := (wo.setCell ⟨b2, 0, none⟩ (.int .i64 now)).setCell ⟨b2, 1, none⟩ (.slice (some ⟨g, 0, none⟩) k cap)) (HCB.out.s.set 0 (.int .i64 now)) (fun x hx => setCells_other b2 x hx [.slice (some ⟨g, 0, none⟩) k cap] 1 _)
   have hbf := below_setCells b2 HNE.out.2.2.2.2 [.slice (some ⟨g, 0, none⟩) k cap] 1 _ (below_setCells b2 HNE.out.2.2.2.2 [.int .i64 now] 0 _ HB.out)
   simp only [World.setCells] at hbf
   rw [← HN.out] at hsk
   obtain ⟨wf, hwf⟩ : ∃ x, x = (wo.setCell ⟨b2, 0, none⟩ (.int .i64 now)).setCell ⟨b2, 1, none⟩ (.slice (some ⟨g, 0, none⟩) k cap) := ⟨_, rfl⟩
   rw [← hwf] at z0 z1 hsk hbf ⊢
   clear hwf
   exact bodyPost_ret (v := .agg #[.int .i64 now, .slice (some ⟨g, 0, none⟩) k cap]) (by simp [results, Tryz.results64, go_sem, z0, z1]) rfl ⟨_, rfl, hsk, hbf⟩
inductive FindR (ds : List Dc) (s : ByteArray) : Int → Prop where
 | at (i : Nat) (d : Dc) (h : ds[i]? = some d) (hn : d.name = s) (hb : ∀ (j : Nat) (x : Dc), j < i → ds[j]? = some x → x.name ≠ s) : FindR ds s (i : Int)
 | none (h : ∀ (j : Nat) (x : Dc), ds[j]? = some x → x.name ≠ s) : FindR ds s (-1)
set_option maxRecDepth 100000 in
set_option maxHeartbeats 8000000 in
theorem same_name (d : Dc) (s : ByteArray) (rv : Value) (g : Nat) (w : World) (h : w.cell? ⟨g, 0, none⟩ = some (.string s)) (ho : rv.oneCell' = true) :
  Calls Tryz.prog 146 #[.agg (docL d rv).toArray, .pointer (some ⟨g, 0, none⟩)] w fun e w' => e = .returned (.bool (decide (d.name = s))) ∧ Below w.heap.size w w' := by
 obtain ⟨w1, hw1⟩ : ∃ y, y = w.alloc (.cells #[.string d.name, .string d.owner, .int .i64 d.till, rv] 65) := ⟨_, rfl⟩
 obtain ⟨q, hq⟩ : ∃ y, y = w.heap.size := ⟨_, rfl⟩
 have hb : Below w.heap.size w w1 := by rw [hw1]; exact below_box _ _
 have c0 : w1.cell? ⟨q, 0, none⟩ = some (.string d.name) := by rw [hw1, hq]; simp [go_sem]
 have c1 := (hb.cell (p := ⟨g, 0, none⟩) (block_lt_of_cell h)).trans h
 have HB := Lib.hid hb
 unfold docL
 go_enter Tryz.func146, Tryz.ntmps146
 go_upto_region 1 with fail
 rw [← hw1, ← hq]
 clear hw1 hq hb ho h
 go_wp2_with fail
 go_ret
 refine ⟨ret_bool ?_, HB.out⟩
 by_cases h : d.name = s
 ·rw [decide_eq_true h, h]
  simp
 ·rw [decide_eq_false h]
  simp [bytes_ne h]
set_option maxRecDepth 100000 in
set_option maxHeartbeats 8000000 in
theorem finddoc_any (ds : List Dc) (v : Value) (now : Int) (s : ByteArray) (w : World) (h : Dcs w v ds) : Calls Tryz.prog 104 #[.agg #[.int .i64 now, v], .string s] w fun e w' => ∃ i, e = .returned (.int .i64 i) ∧ FindR ds s i ∧ Below w.heap.size w w' := by
 have HD := Lib.hid h
 obtain ⟨ao, cap, hv, hc1, hc2, -⟩ := h
 obtain ⟨N, hN⟩ : ∃ N, N = ds.length := ⟨_, rfl⟩
 rw [← hN] at hv hc1
 have HN := Lib.hid hN
 have HNB := Lib.hid (show N ≤ 9223372036854775807 by unfold maxLen at hc2; omega)
 subst hv
 clear hN hc1 hc2
 obtain ⟨w1, hw1⟩ : ∃ y, y = (w.alloc (.cells #[.int .i64 now, .slice ao N cap] 55)).alloc (.cells #[.string s] 9) := ⟨_, rfl⟩
 obtain ⟨g, hg⟩ : ∃ y, y = w.heap.size := ⟨_, rfl⟩
 have hb : Below w.heap.size w w1 := by rw [hw1]; exact ((Below.refl _ _).alloc (Nat.le_refl _) _).alloc (by simp [go_sem]) _
 have c1 : w1.cell? ⟨g, 1, none⟩ = some (.slice ao N cap) := by rw [hw1, hg]; simp [go_sem]
 have c2 : w1.cell? ⟨g + 1, 0, none⟩ = some (.string s) := by rw [hw1, hg]; simp [go_sem]
 have HC2 := Lib.hid c2
 replace HD := Lib.hid (HD.out.below hb)
 have HB := Lib.hid hb
 go_enter Tryz.func104, Tryz.ntmps104
 go_upto_region 1 with fail
 rw [← hw1, ← hg]
 clear hw1 hg hb c2
 have HI : Calls Tryz.prog 145 #[.slice ao N cap, .func (.func 146) #[] #[.pointer (some ⟨g + 1, 0, none⟩)]] w1 fun e w' => ∃ i, e = .returned (.int .i64 i) ∧ FindR ds s i ∧ Below w1.heap.size w1 w' := by
  clear c1
  go_enter Tryz.func145, Tryz.ntmps145
  go_upto_region 2 with fail
  go_loopw [8] (fun i wr => ∃ k : Nat, k ≤ N ∧ i = .int .i64 (k : Int) ∧ Below w1.heap.size w1 wr ∧ ∀ (j : Nat) (x : Dc), j < k → ds[j]? = some x → x.name ≠ s) (fun i _ => N - (intOf i).toNat)
  case atStart => exact ⟨0, Nat.zero_le _, rfl, Below.refl _ _, fun j x hj => by omega⟩
  case round =>
   obtain ⟨k, hk, rfl, hb, hno⟩ := hrel
   have HBB := Lib.hid hb
   have HNO := Lib.hid hno
   have HK := Lib.hid hk
   clear hb hno hk
   by_cases hlt : k < N
   ·obtain ⟨d, hd⟩ : ∃ d, ds[k]? = some d := ⟨_, List.getElem?_eq_getElem (by have := HN.out; omega)⟩
    have hlt' : (k : Int) < (N : Int) := by omega
    obtain ⟨ao2, cap2, e, -, -, hT⟩ := HD.out.below HBB.out
    have e1 := HN.out
    simp only [Value.slice.injEq] at e
    obtain ⟨rfl, -, rfl⟩ := e
    obtain ⟨b, o, rv, rfl, hA, hR⟩ := hT k d hd
    have HA := Lib.hid hA
    have HF := Lib.hid (fun w (h : w.cell? ⟨g + 1, 0, none⟩ = some (.string s)) => same_name d s rv (g + 1) w h hR.one)
    have HDK := Lib.hid hd
    have HLT := Lib.hid hlt
    have hw9 : (k : Int) + 1 ≤ 9223372036854775807 := by have := HNB.out; omega
    have HW9 := Lib.hid hw9
    clear hT hA hR hd e1 hw9
    go_upto_region 4 with fail
    apply wp_region_lit
    iterate 12 go_step
    refine wpl_loadD HA.out rfl rfl rfl ?_
    go_wp2_with fail
    refine (HF.out _ ((HBB.out.cell (p := ⟨g + 1, 0, none⟩) (block_lt_of_cell HC2.out)).trans HC2.out)).mono ?_
    rintro e w3 ⟨rfl, hb⟩
    replace HBB := Lib.hid (HBB.out.trans (hb.mono HBB.out.size))
    clear hb HF HA
    by_cases hn : d.name = s
    ·rw [decide_eq_true hn]
     have HNM := Lib.hid hn
     clear hn
     go_wp2_with fail
     go_ret
     exact ⟨_, rfl, .at k d HDK.out HNM.out HNO.out, HBB.out⟩
    ·rw [decide_eq_false hn]
     have HNM := Lib.hid hn
     have hw9 := HW9.out
     clear hn
     go_wp2_with fail
     go_roundw
     case rel =>
      refine ⟨k + 1, by have := HLT.out; omega, by simp, HBB.out, fun j x hj hx => ?_⟩
      by_cases hjk : j = k
      ·subst hjk
       have := HDK.out
       rw [hx] at this
       obtain rfl := Option.some.inj this
       exact HNM.out
      ·exact HNO.out j x (by omega) hx
     case measure =>
      have := HLT.out
      simp [intOf]
      omega
   ·have hkn : k = N := by have := HK.out; omega
    go_wp2_with fail
    go_ret
    refine ⟨_, rfl, .none fun j x hx => HNO.out j x ?_ hx, HBB.out⟩
    have := (List.getElem?_eq_some_iff.1 hx).1
    have := HN.out
    omega
 go_wp2_with fail
 refine HI.mono ?_
 rintro e w3 ⟨i, rfl, hr, hb⟩
 have HRR := Lib.hid hr
 have hbb := HB.out.trans (hb.mono HB.out.size)
 clear hb hr
 go_wp2_with fail
 go_ret
 exact ⟨i, rfl, HRR.out, hbb⟩
structure Rpt where
 kind : Int
 user : ByteArray
 doc : ByteArray
 rev : Int
def outL (o : Rpt) : List Value := [.int .i64 o.kind, .string o.user, .string o.doc, .int .i64 o.rev]
def Outs (w : World) (v : Value) (os : List Rpt) : Prop := ∃ ao cap, v = .slice ao os.length cap ∧ os.length ≤ cap ∧ cap ≤ maxLen ∧ ∀ i x, os[i]? = some x → ∃ b o, ao = some ⟨b, o, none⟩ ∧ w.rangeAt b (o + i * 4) (outL x)
theorem Outs.nil (w : World) : Outs w (.slice none 0 0) [] := ⟨none, 0, rfl, Nat.le_refl _, by unfold maxLen; omega, fun i x hi => by simp at hi⟩
theorem Outs.below {w w' : World} {v : Value} {os : List Rpt} (h : Outs w v os) (hb : Below w.heap.size w w') : Outs w' v os := by
 obtain ⟨ao, cap, e, h1, h2, h3⟩ := h
 refine ⟨ao, cap, e, h1, h2, fun i x hi => ?_⟩
 obtain ⟨b, o, e2, hr⟩ := h3 i x hi
 exact ⟨b, o, e2, rangeAt_below hr (by simp [outL]) hb⟩
theorem Dcs.nil (w : World) : Dcs w (.slice none 0 0) [] := ⟨none, 0, rfl, Nat.le_refl _, by unfold maxLen; omega, fun i x hi => by simp at hi⟩
def StepPost (w : World) (R : Int → Int → List Dc → List Rpt → Prop) (e : Ending) (w' : World) : Prop :=
 ∃ code now v ov ds os, e = .returned (.tuple #[.agg #[.int .i64 now, v], ov, .int .i64 code]) ∧ R code now ds os ∧ Dcs w' v ds ∧ Outs w' ov os ∧ Below w.heap.size w w'
inductive OneR (now : Int) (ds : List Dc) (kind : Int) (u nm : ByteArray) (R : Dc → Int → Dc → Prop) : Int → Int → List Dc → List Rpt → Prop where
 | none (h : FindR ds nm (-1)) : OneR now ds kind u nm R 7 0 [] []
 | fails (i : Nat) (d : Dc) (hf : FindR ds nm (i : Int)) (hd : ds[i]? = some d) (c : Int) (d' : Dc) (hr : R d c d') (hz : c ≠ 0) : OneR now ds kind u nm R c 0 [] []
 | done (i : Nat) (d : Dc) (hf : FindR ds nm (i : Int)) (hd : ds[i]? = some d) (d' : Dc) (hr : R d 0 d') : OneR now ds kind u nm R 0 now (ds.set i d') [⟨kind, u, nm, (d'.revs.length : Int) - 1⟩]
set_option maxRecDepth 100000 in
set_option maxHeartbeats 8000000 in
theorem address_any (k : Int) (u nm : ByteArray) (w : World) : Calls Tryz.prog 198 #[.agg #[.int .i64 k, .string u, .string nm]] w fun e w' => e = .returned (.agg #[.int .i64 k, .string u, .string nm]) ∧ Below w.heap.size w w' := by
 go_enter Tryz.func198, Tryz.ntmps198
 go_wp2_with fail
 go_returns
 exact ⟨rfl, by go_grown⟩
set_option maxRecDepth 100000 in
theorem take4 (a b c d : Value) : (List.take Tryz.prog.types[142].size [a, b, c, d]).toArray = #[a, b, c] := by kernel_rfl
structure TG (w : World) (b : Nat) (k : Int) (u nm : ByteArray) : Prop where
 c0 : w.cell? ⟨b, 0, none⟩ = some (.int .i64 k)
 c1 : w.cell? ⟨b, 1, none⟩ = some (.string u)
 c2 : w.cell? ⟨b, 2, none⟩ = some (.string nm)
theorem TG.same {w w' : World} {b : Nat} {k : Int} {u nm : ByteArray} (h : TG w b k u nm) (hb : w'.heap[b]? = w.heap[b]?) : TG w' b k u nm :=
 ⟨(World.cell?_of_block (a := ⟨b, 0, none⟩) hb).trans h.c0, (World.cell?_of_block (a := ⟨b, 1, none⟩) hb).trans h.c1, (World.cell?_of_block (a := ⟨b, 2, none⟩) hb).trans h.c2⟩
theorem TG.below {w w' : World} {b : Nat} {k : Int} {u nm : ByteArray} (h : TG w b k u nm) (hb : Below w.heap.size w w') : TG w' b k u nm := h.same (hb.block b (block_lt_of_cell h.c0))
theorem CB.same {w w' : World} {b1 b2 : Nat} {now : Int} {v : Value} (h : CB w b1 b2 now v) (k1 : w'.heap[b1]? = w.heap[b1]?) (k2 : w'.heap[b2]? = w.heap[b2]?) : CB w' b1 b2 now v := by
 have fz : ∀ b p, w'.heap[b]? = w.heap[b]? → w'.frozen? ⟨b, p, none⟩ = w.frozen? ⟨b, p, none⟩ := fun b p hb => by unfold World.frozen?; simp only [hb]
 exact ⟨(World.cell?_of_block (a := ⟨b1, 0, none⟩) k1).trans h.c0, (World.cell?_of_block (a := ⟨b1, 1, none⟩) k1).trans h.c1, (fz b1 1 k1).trans h.f1, (World.cell?_of_block (a := ⟨b2, 0, none⟩) k2).trans h.e0, (World.cell?_of_block (a := ⟨b2, 1, none⟩) k2).trans h.e1, (fz b2 0 k2).trans h.g0, (fz b2 1 k2).trans h.g1, by obtain ⟨c, hs, hc⟩ := h.s; exact ⟨c, hs, k2.trans hc⟩⟩
theorem Chg2.other {w w' : World} {g o : Nat} {d d' : Dc} (h : Chg2 w g o d d' w') {b : Nat} (hb : b < w.heap.size) (hn : b ≠ g) : w'.heap[b]? = w.heap[b]? := by
 rcases h with (⟨-, h⟩ | ⟨q, cap, rs, -, -, h, -⟩) | ⟨ow, tl, -, h⟩
 ·exact h.block b hb
 ·exact (h.block b hb).trans (setCells_other g b hn [_] (o + 3) w)
 ·exact (h.block b hb).trans ((setCells_other g b hn [_] (o + 2) _).trans (setCells_other g b hn [_] (o + 1) w))
theorem Chg2.low {w w' w0 : World} {g o n : Nat} {d d' : Dc} (h : Chg2 w g o d d' w') (hg : n ≤ g) (hn : n ≤ w.heap.size) (hb : Below n w0 w) : Below n w0 w' := by
 rcases h with (⟨-, h⟩ | ⟨q, cap, rs, -, -, h, -⟩) | ⟨ow, tl, -, h⟩
 ·exact hb.trans (h.mono hn)
 ·have := below_setCells g hg [.slice (some ⟨q, 0, none⟩) rs.length cap] (o + 3) _ hb
  simp only [World.setCells] at this
  exact this.trans (h.mono hn)
 ·have := below_setCells g hg [.int .i64 tl] (o + 2) _ (below_setCells g hg [.string ow] (o + 1) _ hb)
  simp only [World.setCells] at this
  exact this.trans (h.mono hn)
theorem Chg2.size {w w' : World} {g o : Nat} {d d' : Dc} (h : Chg2 w g o d d' w') : w.heap.size ≤ w'.heap.size := by
 rcases h with (⟨-, h⟩ | ⟨q, cap, rs, -, -, h, -⟩) | ⟨ow, tl, -, h⟩
 ·exact h.size
 ·simpa [World.setCell] using h.size
 ·simpa [World.setCell] using h.size
theorem cb_fin {w w' : World} {b1 b2 : Nat} {now : Int} {v0 v u : Value} {ds : List Dc} (hcb : CB w' b1 b2 now v0) (hd : Dcs w' v ds) (hb : Below w.heap.size w w') (hw : w.heap.size ≤ b2) (n : Int) :
  ((w'.setCell ⟨b2, 0, none⟩ (.int .i64 n)).setCell ⟨b2, 1, none⟩ u).cell? ⟨b2, 0, none⟩ = some (.int .i64 n) ∧ ((w'.setCell ⟨b2, 0, none⟩ (.int .i64 n)).setCell ⟨b2, 1, none⟩ u).cell? ⟨b2, 1, none⟩ = some u ∧ Dcs ((w'.setCell ⟨b2, 0, none⟩ (.int .i64 n)).setCell ⟨b2, 1, none⟩ u) v ds ∧ Below w.heap.size w ((w'.setCell ⟨b2, 0, none⟩ (.int .i64 n)).setCell ⟨b2, 1, none⟩ u) ∧ ∀ b, b ≠ b2 → ((w'.setCell ⟨b2, 0, none⟩ (.int .i64 n)).setCell ⟨b2, 1, none⟩ u).heap[b]? = w'.heap[b]? := by
 have k3 := hcb.e0
 have k4 := hcb.e1
 refine ⟨by simp [go_sem, k3], by simp [go_sem, k4], ?_, ?_, fun b hb => (setCells_other b2 b hb [u] 1 _).trans (setCells_other b2 b hb [.int .i64 n] 0 w')⟩
 ·exact (hd.skip (w' := w'.setCell ⟨b2, 0, none⟩ (.int .i64 n)) hcb.s (fun x hx => setCells_other b2 x hx [.int .i64 n] 0 w')).skip (hcb.s.set 0 (.int .i64 n)) (fun x hx => setCells_other b2 x hx [u] 1 _)
 ·have := below_setCells b2 hw [u] 1 _ (below_setCells b2 hw [.int .i64 n] 0 _ hb)
  simpa only [World.setCells] using this
set_option maxRecDepth 100000 in
theorem built_out (o : Rpt) : Tryz.prog.builtSlice 88 1 [(0, .agg (outL o).toArray)] = some (outL o).toArray := by kernel_rfl
structure EvX (T : TypeId) (kind : Int) (u nm : ByteArray) (x : Value) : Prop where
 n154 : T ≠ 154
 n144 : T ≠ 144
 addr : ∀ (x : Value) (w : World), (Instr.typeAssert (.iface T x) 20 159 true).run Tryz.prog w = .ok (.tuple #[.iface T x, .bool true]) w
 inv : ∀ (w : World), (method 343 T x "cutroom/bin.address").run Tryz.prog w = .ok (198, .agg #[.int .i64 kind, .string u, .string nm]) w
set_option maxRecDepth 100000 in
set_option maxHeartbeats 16000000 in
theorem step_one (ds : List Dc) (v : Value) (now kind : Int) (u nm : ByteArray) (T : TypeId) (x : Value) (R : Dc → Int → Dc → Prop) (w : World) (h : Dcs w v ds) (h0 : ds ≠ []) (h1 : ds.length ≤ 16) (hE : EvX T kind u nm x)
  (hch : ∀ (d : Dc) (g o m : Nat) (w1 : World), d ∈ ds → Below w.heap.size w w1 → PD w1 g o m d → Calls Tryz.prog 105 #[.pointer (some ⟨g, o, none⟩), .iface T x, .int .i64 now] w1 (ChangePost w1 g o d (R d))) :
  Calls Tryz.prog 63 #[.agg #[.int .i64 now, v], .iface T x] w (StepPost w (OneR now ds kind u nm R)) := by
 have CHX := Lib.hid hch
 have OD := Lib.hid (fun w2 (hb : Below w.heap.size w w2) => owndocs_any v ds w w2 h hb h0 (by omega))
 obtain ⟨va, vc, hv, -⟩ := h
 obtain ⟨N, hN⟩ : ∃ N, N = ds.length := ⟨_, rfl⟩
 rw [← hN] at hv OD
 have HN := Lib.hid hN
 have HN1 := Lib.hid (show N ≤ 16 by omega)
 subst hv
 clear hch h0 h1 hN
 have m154 := ta_miss154 T hE.n154
 have m144 := ta_miss144 T hE.n144
 have maddr := hE.addr
 have minv := hE.inv
 clear hE
 go_enter Tryz.func63, Tryz.ntmps63
 go_upto_region 1 with fail
 obtain ⟨w1, hw1⟩ : ∃ y, y = (w.alloc (.cells #[.int .i64 now, .slice va N vc] 55)).alloc (.cells #[.int .i64 0, .slice none 0 0] 55) := ⟨_, rfl⟩
 obtain ⟨b1, hb1⟩ : ∃ y, y = w.heap.size := ⟨_, rfl⟩
 obtain ⟨b2, hb2⟩ : ∃ y, y = w.heap.size + 1 := ⟨_, rfl⟩
 have hb : Below w.heap.size w w1 := by rw [hw1]; exact ((Below.refl _ _).alloc (Nat.le_refl _) _).alloc (by simp [go_sem]) _
 have HCB := Lib.hid (show CB w1 b1 b2 now (.slice va N vc) by
  rw [hw1, hb1, hb2]
  refine ⟨by simp [go_sem], by simp [go_sem], by simp [go_sem], by simp [go_sem], by simp [go_sem], by simp [go_sem], by simp [go_sem], #[.int .i64 0, .slice none 0 0], rfl, ?_⟩
  have := (MapKept.heap_alloc (w.alloc (.cells #[.int .i64 now, .slice va N vc] 55)) (.cells #[.int .i64 0, .slice none 0 0] 55)).1
  simpa using this)
 have HNE := Lib.hid (show b1 ≠ b2 ∧ b1 < w1.heap.size ∧ b2 < w1.heap.size ∧ w.heap.size ≤ b1 ∧ w.heap.size ≤ b2 from ⟨by omega, block_lt_of_cell HCB.out.c0, block_lt_of_cell HCB.out.e0, by omega, by omega⟩)
 rw [← hw1, ← hb2, ← hb1]
 have HB := Lib.hid hb
 clear hw1 hb1 hb2 hb
 obtain ⟨k0, k1, k2, k3, k4, k5, k6, -⟩ := HCB.out
 go_wp2_with fail
 refine (OD.out w1 HB.out).mono ?_
 rintro e w2 ⟨g, cap, rfl, hg, hdx, hb⟩
 replace HCB := Lib.hid (HCB.out.below hb)
 clear k0 k1 k2 k3 k4 k5 k6
 obtain ⟨k0, k1, k2, k3, k4, k5, k6, -⟩ := HCB.out
 have HG := Lib.hid (show b1 ≠ g ∧ b2 ≠ g ∧ w.heap.size ≤ g from ⟨by have := HNE.out; omega, by have := HNE.out; omega, by have := HNE.out; omega⟩)
 replace HB := Lib.hid (HB.out.trans (hb.mono HB.out.size))
 have HDX := Lib.hid hdx
 clear hb hdx hg OD
 go_upto_region 2 with fail
 clear k0 k1 k2 k3 k4 k5 k6
 replace HDX := Lib.hid (HDX.out.far HNE.out.2.2.2.1 (Ne.symm HG.out.1) 1 (.slice (some ⟨g, 0, none⟩) N cap))
 replace HCB := Lib.hid (HCB.out.put HNE.out.1 (.slice (some ⟨g, 0, none⟩) N cap))
 replace HB := Lib.hid (below_setCells b1 HNE.out.2.2.2.1 [.slice (some ⟨g, 0, none⟩) N cap] 1 _ HB.out)
 simp only [World.setCells] at HB
 obtain ⟨w3, hw3⟩ : ∃ y, y = w2.setCell ⟨b1, 1, none⟩ (.slice (some ⟨g, 0, none⟩) N cap) := ⟨_, rfl⟩
 rw [← hw3] at HDX HCB HB ⊢
 clear hw3
 go_upto_region 9 with fail
 have hba : Below w3.heap.size w3 (w3.alloc (.cells #[.int .i64 0] 154)) := below_box _ _
 obtain ⟨w4, hw4⟩ : ∃ y, y = w3.alloc (.cells #[.int .i64 0] 154) := ⟨_, rfl⟩
 rw [← hw4] at hba ⊢
 clear hw4
 refine (address_any kind u nm w4).mono ?_
 rintro e w5 ⟨rfl, hb⟩
 replace hb := hba.trans (hb.mono hba.size)
 replace HDX := Lib.hid (HDX.out.below hb)
 replace HCB := Lib.hid (HCB.out.below hb)
 replace HB := Lib.hid (HB.out.trans (hb.mono HB.out.size))
 clear hb hba
 go_upto_region 9 with fail
 obtain ⟨w6, hw6⟩ : ∃ y, y = w5.alloc (.cells #[.int .i64 kind, .string u, .string nm] 142) := ⟨_, rfl⟩
 obtain ⟨b11, hb11⟩ : ∃ y, y = w5.heap.size := ⟨_, rfl⟩
 have hb : Below w5.heap.size w5 w6 := by rw [hw6]; exact below_box _ _
 have HT := Lib.hid (show TG w6 b11 kind u nm by rw [hw6, hb11]; exact ⟨by simp [go_sem], by simp [go_sem], by simp [go_sem]⟩)
 have HNT := Lib.hid (show b11 ≠ b2 ∧ b11 ≠ g from ⟨by have := block_lt_of_cell HCB.out.e0; dsimp only at this; omega, by have := HDX.out.lt.1; omega⟩)
 rw [← hw6, ← hb11]
 replace HDX := Lib.hid (HDX.out.below hb)
 replace HCB := Lib.hid (HCB.out.below hb)
 replace HB := Lib.hid (HB.out.trans (hb.mono HB.out.size))
 clear hb hw6 hb11
 obtain ⟨k0, k1, k2, k3, k4, k5, k6, -⟩ := HCB.out
 obtain ⟨t0, t1, t2⟩ := HT.out
 have FD := Lib.hid (finddoc_any ds (.slice (some ⟨g, 0, none⟩) N cap) now nm w6 (by have := HDX.out.dcs; rwa [← HN.out] at this))
 go_wp2_with fail
 refine FD.out.mono ?_
 rintro e w7 ⟨fi, rfl, hf, hb⟩
 have HF := Lib.hid hf
 replace HDX := Lib.hid (HDX.out.below hb)
 replace HCB := Lib.hid (HCB.out.below hb)
 replace HT := Lib.hid (HT.out.below hb)
 replace HB := Lib.hid (HB.out.trans (hb.mono HB.out.size))
 clear k0 k1 k2 k3 k4 k5 k6 t0 t1 t2 hb hf FD
 go_upto_region 19 with fail
 obtain ⟨w8, hw8⟩ : ∃ y, y = w7.alloc (.cells #[.int .i64 0, .string ⟨#[]⟩, .string ⟨#[]⟩, .slice none 0 0] 144) := ⟨_, rfl⟩
 have hb : Below w7.heap.size w7 w8 := by rw [hw8]; exact below_box _ _
 rw [← hw8]
 replace HDX := Lib.hid (HDX.out.below hb)
 replace HCB := Lib.hid (HCB.out.below hb)
 replace HT := Lib.hid (HT.out.below hb)
 replace HB := Lib.hid (HB.out.trans (hb.mono HB.out.size))
 clear hb hw8 m154 m144 maddr minv
 by_cases hneg : fi < 0
 ·obtain ⟨k0, k1, k2, k3, k4, k5, k6, -⟩ := HCB.out
  have HNG := Lib.hid hneg
  go_wp2_with fail
  have z0 : ((w8.setCell ⟨b2, 0, none⟩ (.int .i64 0)).setCell ⟨b2, 1, none⟩ (.slice none 0 0)).cell? ⟨b2, 0, none⟩ = some (.int .i64 0) := by simp [go_sem, k3]
  have z1 : ((w8.setCell ⟨b2, 0, none⟩ (.int .i64 0)).setCell ⟨b2, 1, none⟩ (.slice none 0 0)).cell? ⟨b2, 1, none⟩ = some (.slice none 0 0) := by simp [go_sem, k4]
  have hbf := below_setCells b2 HNE.out.2.2.2.2 [.slice none 0 0] 1 _ (below_setCells b2 HNE.out.2.2.2.2 [.int .i64 0] 0 _ HB.out)
  simp only [World.setCells] at hbf
  have hfi : FindR ds nm (-1) := by
   have h1 := HF.out
   cases h1 with
   | «at» i d h hn hb => have := HNG.out; omega
   | none h => exact .none h
  obtain ⟨wf, hwf⟩ : ∃ x, x = (w8.setCell ⟨b2, 0, none⟩ (.int .i64 0)).setCell ⟨b2, 1, none⟩ (.slice none 0 0) := ⟨_, rfl⟩
  rw [← hwf] at z0 z1 hbf ⊢
  clear hwf
  exact bodyPost_ret (v := .tuple #[.agg #[.int .i64 0, .slice none 0 0], .slice none 0 0, .int .i64 7]) (by simp [results, Tryz.results63, go_sem, z0, z1]) rfl ⟨7, 0, _, _, [], [], rfl, .none hfi, Dcs.nil _, Outs.nil _, hbf⟩
 obtain ⟨fk, d, hfk, hdk⟩ : ∃ (fk : Nat) (d : Dc), fi = (fk : Int) ∧ ds[fk]? = some d := by
  have h1 := HF.out
  cases h1 with
  | «at» i d h hn hb => exact ⟨i, d, rfl, h⟩
  | none h => omega
 subst hfk
 have HDK := Lib.hid hdk
 have HFL := Lib.hid (show fk < N by have := (List.getElem?_eq_some_iff.1 hdk).1; have := HN.out; omega)
 have CH := Lib.hid (fun w1 (hb : Below w.heap.size w w1) (h : PD w1 g (fk * 4) w8.heap.size d) => CHX.out d g (fk * 4) w8.heap.size w1 (List.mem_of_getElem? HDK.out) hb h)
 have HPD := Lib.hid (HDX.out.full.pd hdk)
 clear hneg hdk
 go_upto_region 21 with fail
 have HI := Lib.hid (show ¬ ((fk : Int) < 0) ∧ (fk : Int) < (N : Int) from ⟨by omega, by have := HFL.out; omega⟩)
 refine Plan.wp_region_plan (fun w' => w'.cell? ⟨b1, 0, none⟩ = some (.int .i64 now) ∧ w'.cell? ⟨b1, 1, none⟩ = some (.slice (some ⟨g, 0, none⟩) N cap)) (([0, 1, 2, 3, 4, 5, 6].map (·, true)) ++ (([7].map (·, false)) ++ ([8].map (·, true)))) (by kernel_rfl) (by kernel_rfl) (by kernel_rfl) ⟨HCB.out.c0, HCB.out.c1⟩ ?_
 refine' Plan.plan_seg _ [0, 1, 2, 3, 4, 5, 6] (([7].map (·, false)) ++ ([8].map (·, true))) (by kernel_rfl) (by kernel_rfl) rfl (by exact ⟨HCB.out.c0, HCB.out.c1⟩) (fun wx hS => ?_) ?_
 rotate_left
 ·obtain ⟨k0, k1⟩ := hS
  obtain ⟨i0, i1⟩ := HI.out
  go_light
  iterate 7 (apply Plan.seg_pick; rfl; intro K hK; go_wp)
  exact Plan.seg_nil
 have hb : Below w8.heap.size w8 w8.drew := (Below.refl _ _).drew
 obtain ⟨w9, hw9⟩ : ∃ x, x = w8.drew := ⟨_, rfl⟩
 rw [← hw9] at hb ⊢
 have HSZ := Lib.hid (show w8.heap.size ≤ w9.heap.size from hb.size)
 replace HPD := Lib.hid (HPD.out.below hb)
 replace HDX := Lib.hid (HDX.out.below hb)
 replace HCB := Lib.hid (HCB.out.below hb)
 replace HT := Lib.hid (HT.out.below hb)
 replace HB := Lib.hid (HB.out.trans (hb.mono HB.out.size))
 clear hb hw9
 refine Plan.plan_of_effect rfl (fun K hK => ?_)
 go_wp2_with fail
 refine (CH.out _ HB.out HPD.out).mono ?_
 rintro e w10 ⟨code, d', rfl, hr, hch⟩
 have HR := Lib.hid hr
 have HL1 := Lib.hid (And.intro (block_lt_of_cell HCB.out.c0) (And.intro (block_lt_of_cell HCB.out.e0) (block_lt_of_cell HT.out.c0)))
 have HDX2 := Lib.hid (HDX.out.chg2 HDK.out hch)
 replace HCB := Lib.hid (HCB.out.same (hch.other HL1.out.1 HG.out.1) (hch.other HL1.out.2.1 HG.out.2.1))
 replace HT := Lib.hid (HT.out.same (hch.other HL1.out.2.2 HNT.out.2))
 replace HB := Lib.hid (hch.low HG.out.2.2 HB.out.size HB.out)
 clear hch hr HDX HPD CH CHX
 go_wp2_with fail
 refine ⟨⟨HCB.out.c0, HCB.out.c1⟩, ?_⟩
 refine' Plan.plan_seg _ [8] [] (by kernel_rfl) (by kernel_rfl) rfl (by exact ⟨HCB.out.c0, HCB.out.c1⟩) (fun wx hS => ?_) ?_
 rotate_left
 ·clear hS
  go_light
  iterate 1 (apply Plan.seg_pick; rfl; intro K hK; go_wp)
  exact Plan.seg_nil
 refine Plan.plan_done ?_
 by_cases hz : code = 0
 ·subst hz
  go_upto_region 24 with fail
  have hdd : (ds.set fk d')[fk]? = some d' := by rw [List.getElem?_set_self (List.getElem?_eq_some_iff.1 HDK.out).1]
  obtain ⟨rv, hcd, hrs⟩ := HDX2.out.doc hdd
  have d3 : w10.cell? ⟨g, fk * 4 + 3, none⟩ = some rv := hcd 3 _ rfl
  obtain ⟨ra, rc, hrv, hl1, hl2, -⟩ := hrs.get
  obtain ⟨rn, hrn⟩ : ∃ n, n = d'.revs.length := ⟨_, rfl⟩
  rw [← hrn] at hrv hl1
  have HRN := Lib.hid hrn
  have HRB := Lib.hid (show (rn : Int) ≤ 9223372036854775807 by unfold maxLen at hl2; omega)
  subst hrv
  have hgl := HDX2.out.lt.1
  have HGL := Lib.hid hgl
  have HD3 := Lib.hid d3
  clear hdd hcd hrs hl1 hl2 hrn d3
  have hS0 : ∀ b, b < w10.heap.size → b ≠ b2 → w10.drew.heap[b]? = w10.heap[b]? := fun b _ _ => rfl
  refine Plan.wp_region_tree (fun w' => ∀ b, b < w10.heap.size → b ≠ b2 → w'.heap[b]? = w10.heap[b]?) (.run ([0, 1, 2, 3, 4, 5, 6, 7, 8, 9, 10, 11, 12, 13, 14, 15].map (·, true)) (.fork 16 (.run ([17].map (·, false) ++ [18, 19].map (·, true)) .leaf) 17 (.run ([16].map (·, false) ++ [18, 19].map (·, true)) .leaf))) (by kernel_rfl) (by kernel_rfl) (by kernel_rfl) hS0 ?_
  refine Plan.tree_run ?_
  refine' Plan.plan_seg _ [0, 1, 2, 3, 4, 5, 6, 7, 8, 9, 10, 11, 12, 13, 14, 15] [] (by kernel_rfl) (by kernel_rfl) rfl (by exact hS0) (fun wx hS => ?_) ?_
  rotate_left
  ·have t := HT.out.same (hS b11 (block_lt_of_cell HT.out.c0) HNT.out.1)
   obtain ⟨t0, t1, t2⟩ := t
   have k0 := (World.cell?_of_block (a := ⟨b1, 0, none⟩) (hS b1 (block_lt_of_cell HCB.out.c0) HNE.out.1)).trans HCB.out.c0
   have k1 := (World.cell?_of_block (a := ⟨b1, 1, none⟩) (hS b1 (block_lt_of_cell HCB.out.c0) HNE.out.1)).trans HCB.out.c1
   have d3 := (World.cell?_of_block (a := ⟨g, fk * 4 + 3, none⟩) (hS g HGL.out (Ne.symm HG.out.2.1))).trans HD3.out
   obtain ⟨i0, i1⟩ := HI.out
   have i2 := HRB.out
   go_light
   iterate 16 (apply Plan.seg_pick; rfl; intro K hK; go_wp)
   exact Plan.seg_nil
  refine Plan.plan_nil ?_
  obtain ⟨w11, hw11⟩ : ∃ x, x = w10.drew := ⟨_, rfl⟩
  have hb : Below w10.heap.size w10 w11 := by rw [hw11]; exact (Below.refl _ _).drew
  rw [← hw11] at hS0 ⊢
  replace HDX2 := Lib.hid (HDX2.out.below hb)
  replace HCB := Lib.hid (HCB.out.below hb)
  replace HB := Lib.hid (HB.out.trans (hb.mono HB.out.size))
  have HS0 := Lib.hid hS0
  have HLN := Lib.hid (show (ds.set fk d').length = N by rw [List.length_set]; exact HN.out.symm)
  clear hb hw11 hS0 HD3
  obtain ⟨O, hO⟩ : ∃ O : Rpt, O = ⟨kind, u, nm, (rn : Int) - 1⟩ := ⟨_, rfl⟩
  have HO := Lib.hid hO
  have hOL : (outL O).toArray = #[.int .i64 kind, .string u, .string nm, .int .i64 ((rn : Int) - 1)] := by rw [hO]; rfl
  have HOL := Lib.hid hOL
  have hRD : OneR now ds kind u nm R 0 now (ds.set fk d') [O] := by rw [hO, HRN.out]; exact .done fk d HF.out HDK.out d' HR.out
  have HRD := Lib.hid hRD
  clear hO hOL hRD
  have hdc : Dcs w11 (.slice (some ⟨g, 0, none⟩) N cap) (ds.set fk d') := by have := HDX2.out.dcs; rwa [HLN.out] at this
  have HDC := Lib.hid hdc
  have HLW := Lib.hid (show w10.heap.size ≤ w11.heap.size from HDX2.out.m0)
  clear hdc
  refine Plan.tree_fork ?_ ?_
  ·refine Plan.op_of_list rfl (fun K hK => ?_)
   refine Great.wpList_buildSliceTo rfl 60 88 1 #[(0, .tmp 111)] rfl w11.heap.size rfl (some 112) rfl Tryz.underlying60 (outL O).toArray ?_ ?_
   ·simp only [List.map_toArray, List.map_cons, List.map_nil, List.toList_toArray]
    have := built_out O
    rw [HOL.out] at this ⊢
    exact this
   obtain ⟨w12, hw12⟩ : ∃ y, y = w11.alloc (.cells (outL O).toArray 88) := ⟨_, rfl⟩
   have hb : Below w11.heap.size w11 w12 := by rw [hw12]; exact below_box _ _
   obtain ⟨bo, hbo⟩ : ∃ y, y = w11.heap.size := ⟨_, rfl⟩
   have hoc : w12.rangeAt bo 0 (outL O) := by
    rw [hw12, hbo]
    intro j v hj
    unfold World.cell?
    rw [(MapKept.heap_alloc w11 _).1]
    simpa using hj
   have hbn : bo ≠ b2 := by have := block_lt_of_cell HCB.out.e0; dsimp only at this; omega
   rw [← hw12, ← hbo]
   replace HCB := Lib.hid (HCB.out.below hb)
   replace HDC := Lib.hid (HDC.out.below hb)
   replace HS0 := Lib.hid (fun b (h1 : b < w10.heap.size) (h2 : b ≠ b2) => (hb.block b (Nat.lt_of_lt_of_le h1 HLW.out)).trans (HS0.out b h1 h2))
   replace HB := Lib.hid (HB.out.trans (hb.mono HB.out.size))
   have HOC := Lib.hid hoc
   have HBN := Lib.hid hbn
   clear hb hw12 hbo hoc hbn
   simp only [Act.put, List.setIfInBounds_toArray, List.set_cons_succ, List.set_cons_zero]
   refine wpList_nil ?_
   refine hK _ _ ⟨HS0.out, ?_⟩
   refine Plan.tree_run ?_
   obtain ⟨k0, k1, k2, k3, k4, k5, k6, -⟩ := HCB.out
   refine Plan.plan_of_effect rfl (fun K hK => ?_)
   go_wp2_with fail
   obtain ⟨z0, z1, zd, zb, zo⟩ := cb_fin (u := .slice (some ⟨g, 0, none⟩) N cap) HCB.out HDC.out HB.out HNE.out.2.2.2.2 now
   have hS1 := fun b (h1 : b < w10.heap.size) (h2 : b ≠ b2) => (zo b h2).trans (HS0.out b h1 h2)
   refine ⟨hS1, ?_⟩
   refine' Plan.plan_seg _ [18, 19] [] (by kernel_rfl) (by kernel_rfl) rfl (by exact hS1) (fun wx hS => ?_) ?_
   rotate_left
   ·clear hS
    go_light
    iterate 2 (apply Plan.seg_pick; rfl; intro K hK; go_wp)
    exact Plan.seg_nil
   refine Plan.plan_nil ?_
   refine Plan.tree_leaf ?_
   have hou : Outs ((w12.setCell ⟨b2, 0, none⟩ (.int .i64 now)).setCell ⟨b2, 1, none⟩ (.slice (some ⟨g, 0, none⟩) N cap)) (.slice (some ⟨bo, 0, none⟩) 1 1) [O] := by
    refine ⟨_, 1, rfl, Nat.le_refl _, by unfold maxLen; omega, fun i x hi => ?_⟩
    cases i with
    | zero =>
     obtain rfl := Option.some.inj hi
     exact ⟨bo, 0, rfl, rangeAt_ag HOC.out (zo bo HBN.out)⟩
    | succ i => simp at hi
   obtain ⟨wf, hwf⟩ : ∃ x, x = (w12.setCell ⟨b2, 0, none⟩ (.int .i64 now)).setCell ⟨b2, 1, none⟩ (.slice (some ⟨g, 0, none⟩) N cap) := ⟨_, rfl⟩
   rw [← hwf] at z0 z1 zd zb hou ⊢
   have HZ := Lib.hid (And.intro z0 (And.intro z1 (And.intro zd (And.intro zb hou))))
   clear hwf z0 z1 zd zb zo hou hS1 k0 k1 k2 k3 k4 k5 k6
   go_wp2_with fail
   obtain ⟨z0, z1, zd, zb, hou⟩ := HZ.out
   exact bodyPost_ret (v := .tuple #[.agg #[.int .i64 now, .slice (some ⟨g, 0, none⟩) N cap], .slice (some ⟨bo, 0, none⟩) 1 1, .int .i64 0]) (by simp [results, Tryz.results63, go_sem, z0, z1]) rfl ⟨0, now, _, _, _, _, rfl, HRD.out, zd, hou, zb⟩
  ·refine Plan.op_of_list rfl (fun K hK => ?_)
   obtain ⟨k0, k1, k2, k3, k4, k5, k6, -⟩ := HCB.out
   go_wp2_with fail
   obtain ⟨z0, z1, zd, zb, zo⟩ := cb_fin (u := .slice (some ⟨g, 0, none⟩) N cap) HCB.out HDC.out HB.out HNE.out.2.2.2.2 now
   have hS1 := fun b (h1 : b < w10.heap.size) (h2 : b ≠ b2) => (zo b h2).trans (HS0.out b h1 h2)
   refine ⟨hS1, ?_⟩
   obtain ⟨w12, hw12⟩ : ∃ x, x = (w11.setCell ⟨b2, 0, none⟩ (.int .i64 now)).setCell ⟨b2, 1, none⟩ (.slice (some ⟨g, 0, none⟩) N cap) := ⟨_, rfl⟩
   have hlw : w10.heap.size ≤ w12.heap.size := by rw [hw12]; simpa [World.setCell] using HLW.out
   rw [← hw12] at z0 z1 zd zb hS1 ⊢
   clear zo hw12 k0 k1 k2 k3 k4 k5 k6
   refine Plan.tree_run ?_
   refine Plan.plan_of_effect rfl (fun K hK => ?_)
   refine Great.wpList_buildSliceTo rfl 60 88 1 #[(0, .tmp 111)] rfl w12.heap.size rfl (some 112) rfl Tryz.underlying60 (outL O).toArray ?_ ?_
   ·simp only [List.map_toArray, List.map_cons, List.map_nil, List.toList_toArray]
    have := built_out O
    rw [HOL.out] at this ⊢
    exact this
   obtain ⟨w13, hw13⟩ : ∃ y, y = w12.alloc (.cells (outL O).toArray 88) := ⟨_, rfl⟩
   have hb : Below w12.heap.size w12 w13 := by rw [hw13]; exact below_box _ _
   obtain ⟨bo, hbo⟩ : ∃ y, y = w12.heap.size := ⟨_, rfl⟩
   have hoc : w13.rangeAt bo 0 (outL O) := by
    rw [hw13, hbo]
    intro j v hj
    unfold World.cell?
    rw [(MapKept.heap_alloc w12 _).1]
    simpa using hj
   rw [← hw13, ← hbo]
   replace z0 := (hb.cell (p := ⟨b2, 0, none⟩) (block_lt_of_cell z0)).trans z0
   replace z1 := (hb.cell (p := ⟨b2, 1, none⟩) (block_lt_of_cell z1)).trans z1
   replace zd := zd.below hb
   replace zb := zb.trans (hb.mono zb.size)
   have hS2 := fun b (h1 : b < w10.heap.size) (h2 : b ≠ b2) => (hb.block b (Nat.lt_of_lt_of_le h1 hlw)).trans (hS1 b h1 h2)
   have hou : Outs w13 (.slice (some ⟨bo, 0, none⟩) 1 1) [O] := by
    refine ⟨_, 1, rfl, Nat.le_refl _, by unfold maxLen; omega, fun i x hi => ?_⟩
    cases i with
    | zero =>
     obtain rfl := Option.some.inj hi
     exact ⟨bo, 0, rfl, hoc⟩
    | succ i => simp at hi
   have HZ := Lib.hid (And.intro z0 (And.intro z1 (And.intro zd (And.intro zb hou))))
   clear hb hw13 hbo hoc z0 z1 zd zb hou hS1 hlw
   simp only [Act.put, List.setIfInBounds_toArray, List.set_cons_succ, List.set_cons_zero]
   refine wpList_nil ?_
   refine hK _ _ ⟨hS2, ?_⟩
   refine' Plan.plan_seg _ [18, 19] [] (by kernel_rfl) (by kernel_rfl) rfl (by exact hS2) (fun wx hS => ?_) ?_
   rotate_left
   ·clear hS
    go_light
    iterate 2 (apply Plan.seg_pick; rfl; intro K hK; go_wp)
    exact Plan.seg_nil
   refine Plan.plan_nil ?_
   refine Plan.tree_leaf ?_
   clear hS2
   go_wp2_with fail
   obtain ⟨z0, z1, zd, zb, hou⟩ := HZ.out
   exact bodyPost_ret (v := .tuple #[.agg #[.int .i64 now, .slice (some ⟨g, 0, none⟩) N cap], .slice (some ⟨bo, 0, none⟩) 1 1, .int .i64 0]) (by simp [results, Tryz.results63, go_sem, z0, z1]) rfl ⟨0, now, _, _, _, _, rfl, HRD.out, zd, hou, zb⟩
 ·have hz2 : decide (code = 0) = false := decide_eq_false hz
  have HZ := Lib.hid hz
  obtain ⟨k0, k1, k2, k3, k4, k5, k6, -⟩ := HCB.out
  go_wp2_with fail
  have z0 : ((w10.setCell ⟨b2, 0, none⟩ (.int .i64 0)).setCell ⟨b2, 1, none⟩ (.slice none 0 0)).cell? ⟨b2, 0, none⟩ = some (.int .i64 0) := by simp [go_sem, k3]
  have z1 : ((w10.setCell ⟨b2, 0, none⟩ (.int .i64 0)).setCell ⟨b2, 1, none⟩ (.slice none 0 0)).cell? ⟨b2, 1, none⟩ = some (.slice none 0 0) := by simp [go_sem, k4]
  have hbf := below_setCells b2 HNE.out.2.2.2.2 [.slice none 0 0] 1 _ (below_setCells b2 HNE.out.2.2.2.2 [.int .i64 0] 0 _ HB.out)
  simp only [World.setCells] at hbf
  obtain ⟨wf, hwf⟩ : ∃ x, x = (w10.setCell ⟨b2, 0, none⟩ (.int .i64 0)).setCell ⟨b2, 1, none⟩ (.slice none 0 0) := ⟨_, rfl⟩
  rw [← hwf] at z0 z1 hbf ⊢
  clear hwf
  exact bodyPost_ret (v := .tuple #[.agg #[.int .i64 0, .slice none 0 0], .slice none 0 0, .int .i64 code]) (by simp [results, Tryz.results63, go_sem, z0, z1]) rfl ⟨code, 0, _, _, [], [], rfl, .fails fk d HF.out HDK.out code d' HR.out HZ.out, Dcs.nil _, Outs.nil _, hbf⟩
theorem step_undo {L : Int} (ds : List Dc) (v : Value) (now : Int) (u nm : ByteArray) (w : World) (h : Dcs w v ds) (h0 : ds ≠ []) (h1 : ds.length ≤ 16) (hd : ∀ d ∈ ds, ownOK d ∧ RvsOK L d.revs) (hL : L ≤ 140737488355328) : Calls Tryz.prog 63 #[.agg #[.int .i64 now, v], .iface 151 (.agg #[.int .i64 5, .string u, .string nm])] w (StepPost w (OneR now ds 5 u nm (fun d c d' => UndoR d u c d'))) :=
 step_one ds v now 5 u nm 151 _ _ w h h0 h1 ⟨by decide, by decide, ta_addr151, fun _ => by kernel_rfl⟩ fun d g o m w1 hm _ hp => change_undo g o m d u nm now w1 hp (hd d hm).1 (hd d hm).2 hL
theorem step_redo {L : Int} (ds : List Dc) (v : Value) (now : Int) (u nm : ByteArray) (w : World) (h : Dcs w v ds) (h0 : ds ≠ []) (h1 : ds.length ≤ 16) (hd : ∀ d ∈ ds, ownOK d ∧ RvsOK L d.revs) (hB : ∀ d ∈ ds, ∀ (j : Nat) (r : Rv), d.revs[j]? = some r → r.kind = 4 → 0 ≤ r.base ∧ r.base < (j : Int)) (hL : L ≤ 140737488355328) : Calls Tryz.prog 63 #[.agg #[.int .i64 now, v], .iface 152 (.agg #[.int .i64 6, .string u, .string nm])] w (StepPost w (OneR now ds 6 u nm (fun d c d' => RedoR d u c d'))) :=
 step_one ds v now 6 u nm 152 _ _ w h h0 h1 ⟨by decide, by decide, ta_addr152, fun _ => by kernel_rfl⟩ fun d g o m w1 hm _ hp => change_redo g o m d u nm now w1 hp (hd d hm).1 (hd d hm).2 (hB d hm) hL
theorem step_lock {L : Int} (ds : List Dc) (v : Value) (now : Int) (u nm : ByteArray) (n : Int) (w : World) (h : Dcs w v ds) (h0 : ds ≠ []) (h1 : ds.length ≤ 16) (hd : ∀ d ∈ ds, ownOK d ∧ RvsOK L d.revs) (hn0 : 0 ≤ now ∧ now ≤ 1099511627776) (hn1 : 0 ≤ n ∧ n ≤ 1000) (hL : L ≤ 140737488355328) : Calls Tryz.prog 63 #[.agg #[.int .i64 now, v], .iface 146 (.agg #[.int .i64 2, .string u, .string nm, .int .i64 n])] w (StepPost w (OneR now ds 2 u nm (fun d c d' => LockR d u (now + n) c d'))) :=
 step_one ds v now 2 u nm 146 _ _ w h h0 h1 ⟨by decide, by decide, ta_addr146, fun _ => by kernel_rfl⟩ fun d g o m w1 hm _ hp => change_lock g o m d u nm n now w1 hp (hd d hm).1 hn0 hn1
theorem step_unlock {L : Int} (ds : List Dc) (v : Value) (now : Int) (u nm : ByteArray) (w : World) (h : Dcs w v ds) (h0 : ds ≠ []) (h1 : ds.length ≤ 16) (hd : ∀ d ∈ ds, ownOK d ∧ RvsOK L d.revs) (hL : L ≤ 140737488355328) : Calls Tryz.prog 63 #[.agg #[.int .i64 now, v], .iface 148 (.agg #[.int .i64 3, .string u, .string nm])] w (StepPost w (OneR now ds 3 u nm (fun d c d' => UnlockR d u c d'))) :=
 step_one ds v now 3 u nm 148 _ _ w h h0 h1 ⟨by decide, by decide, ta_addr148, fun _ => by kernel_rfl⟩ fun d g o m w1 hm _ hp => change_unlock g o m d u nm now w1 hp
theorem step_commit {L : Int} (ds : List Dc) (v : Value) (now : Int) (u nm : ByteArray) (bs : Int) (ta : Option Addr) (tn tc : Nat) (t : List Trk.Clip) (w : World) (h : Dcs w v ds) (h0 : ds ≠ []) (h1 : ds.length ≤ 16) (hd : ∀ d ∈ ds, ownOK d ∧ RvsOK L d.revs) (ht : Tk w (.slice ta tn tc) t) (Vt : VT L t) (hL : L ≤ 140737488355328) : Calls Tryz.prog 63 #[.agg #[.int .i64 now, v], .iface 150 (.agg #[.int .i64 4, .string u, .string nm, .int .i64 bs, .slice ta tn tc])] w (StepPost w (OneR now ds 4 u nm (fun d c d' => CommitR d u bs t c d'))) :=
 step_one ds v now 4 u nm 150 _ _ w h h0 h1 ⟨by decide, by decide, ta_addr150, fun _ => by kernel_rfl⟩ fun d g o m w1 hm hb hp => change_commit g o m d u nm bs ta tn tc t now w1 hp (hd d hm).1 (hd d hm).2 (ht.below hb) Vt hL
end Go.Proofs.YtfoohocgdcgbcaaGreat
