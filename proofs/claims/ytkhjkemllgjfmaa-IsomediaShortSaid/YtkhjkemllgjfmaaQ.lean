/- The contract of the statements' given: a reference's file as the program has it. -/
import Derived.Test.YtkhjkemllgjfmaaP
import Derived.Test.YtkhjkemllgjfmaaN
namespace Go.Proofs.Ytkhjkemllgjfmaa
open Go.RowKit
set_option linter.unusedVariables false

theorem info43 : (Try.prog.info? 43).map (fun i => (i.zero, i.size, i.bytes)) = some (some (.agg #[.string { data := #[] }, .int .i64 0, .slice none 0 0, .slice none 0 0, .slice none 0 0]), 5, 96) := by kernel_rfl

/-- Block b holds two cells and may be written. -/
structure B2 (w : World) (b : Nat) (c0 c1 : Value) : Prop where
  k0 : w.cell? ⟨b, 0, none⟩ = some c0
  k1 : w.cell? ⟨b, 1, none⟩ = some c1
  fz : ∀ o, w.frozen? ⟨b, o, none⟩ = false
theorem B2.lt {w : World} {b : Nat} {c0 c1 : Value} (h : B2 w b c0 c1) : b < w.heap.size := block_lt_of_cell h.k0
theorem B2.far {w w' : World} {B b : Nat} {c0 c1 : Value} (h : B2 w b c0 c1) (hb : Below B w w') (hl : b < B) : B2 w' b c0 c1 :=
  ⟨(hb.cell hl).trans h.k0, (hb.cell hl).trans h.k1, fun o => (hb.frozen hl).trans (h.fz o)⟩
theorem B2.of_alloc (w : World) (b : Nat) (c0 c1 : Value) (t : TypeId) (h : b = w.heap.size) : B2 (w.alloc (.cells #[c0, c1] t)) b c0 c1 := by
  subst h; exact ⟨by simp [go_sem], by simp [go_sem], fun o => by simp [go_sem]⟩
theorem B2.set1 {w : World} {b : Nat} {c0 c1 : Value} (h : B2 w b c0 c1) (u : Value) : B2 (w.setCell ⟨b, 1, none⟩ u) b c0 u :=
  ⟨by simp [go_sem, h.k0], by simp [go_sem, h.k1], fun o => by rw [World.frozen?_setCell]; exact h.fz o⟩
theorem B2.other {w : World} {b : Nat} {c0 c1 : Value} (h : B2 w b c0 c1) {p : Addr} (hp : p.block ≠ b) (u : Value) : B2 (w.setCell p u) b c0 c1 :=
  ⟨by rw [World.cell?_setCell_far _ _ _ _ (by simpa using hp)]; exact h.k0, by rw [World.cell?_setCell_far _ _ _ _ (by simpa using hp)]; exact h.k1, fun o => by rw [World.frozen?_setCell]; exact h.fz o⟩

/-- The tracks of a row stay, whatever the row itself becomes. -/
def Kept (wo : World) (B : Nat) (w : World) (T : Nat → Tr) (n : Nat) (xs : List Value) : Prop := ∀ w'' : World, (∀ p : Addr, p.block < wo.heap.size → w''.cell? p = wo.cell? p) → (∀ b cur e, B ≤ b → w.heap[b]? = some (.cells cur e (0, 0)) → e ≠ 43 → w''.heap[b]? = w.heap[b]?) → TR w'' T n xs
theorem Kept.nil (wo : World) (B : Nat) (w : World) (T : Nat → Tr) : Kept wo B w T 0 [] := fun _ _ _ i hi => absurd hi (Nat.not_lt_zero i)
theorem Kept.move {wo w w' : World} {B : Nat} {T : Nat → Tr} {n : Nat} {xs : List Value} (h : Kept wo B w T n xs) (hs : ∀ b cur e, B ≤ b → w.heap[b]? = some (.cells cur e (0, 0)) → e ≠ 43 → w'.heap[b]? = w.heap[b]?) : Kept wo B w' T n xs :=
  fun w'' h1 h2 => h w'' h1 (fun b cur e hb hc hne => (h2 b cur e hb ((hs b cur e hb hc hne).trans hc) hne).trans (hs b cur e hb hc hne))
theorem Kept.step {wo w w6 w' : World} {B : Nat} {T : Nat → Tr} {n : Nat} {xs : List Value} {c0 c1 c2 c3 c4 : Value} (h : Kept wo B w' T n xs) (hl : xs.length = n * 5) (hB : B ≤ w.heap.size)
    (ht : ∀ w'' : World, (∀ p : Addr, p.block < wo.heap.size → w''.cell? p = wo.cell? p) → (∀ b cur e, w.heap.size ≤ b → w6.heap[b]? = some (.cells cur e (0, 0)) → e ≠ 43 → w''.heap[b]? = w6.heap[b]?) → TC w'' c0 c1 c2 c3 c4 (T n))
    (hs : ∀ b cur e, B ≤ b → w6.heap[b]? = some (.cells cur e (0, 0)) → e ≠ 43 → w'.heap[b]? = w6.heap[b]?) : Kept wo B w' T (n + 1) (xs ++ [c0, c1, c2, c3, c4]) :=
  fun w'' h1 h2 => (h w'' h1 h2).step hl (ht w'' h1 (fun b cur e hb hc hne => (h2 b cur e (by omega) ((hs b cur e (by omega) hc hne).trans hc) hne).trans (hs b cur e (by omega) hc hne)))
theorem B2.put2 {w : World} {b : Nat} {c0 c1 : Value} (h : B2 w b c0 c1) (u0 u1 : Value) : B2 ((w.setCell ⟨b, 0, none⟩ u0).setCell ⟨b, 1, none⟩ u1) b u0 u1 :=
  ⟨by simp [go_sem, h.k0], by simp [go_sem, h.k1], fun o => by rw [World.frozen?_setCell, World.frozen?_setCell]; exact h.fz o⟩
theorem load56 {w : World} {b : Nat} {c0 c1 : Value} (h : B2 w b c0 c1) : (loadVar 56 ⟨b, 0, none⟩).run Try.prog w = .ok (.agg #[c0, c1]) w := by
  obtain ⟨h0, h1, _⟩ := h
  simp [go_sem, h0, h1]

theorem cellsOf5 {w : World} {g : Nat} {c0 c1 c2 c3 c4 : Value} (h0 : w.cell? ⟨g, 0, none⟩ = some c0) (h1 : w.cell? ⟨g, 1, none⟩ = some c1) (h2 : w.cell? ⟨g, 2, none⟩ = some c2) (h3 : w.cell? ⟨g, 3, none⟩ = some c3) (h4 : w.cell? ⟨g, 4, none⟩ = some c4) (j : Nat) (u : Value) (hj : [c0, c1, c2, c3, c4][j]? = some u) : w.cell? ⟨g, j, none⟩ = some u := by
  match j, hj with
  | 0, hj => simp at hj; rw [← hj]; exact h0
  | 1, hj => simp at hj; rw [← hj]; exact h1
  | 2, hj => simp at hj; rw [← hj]; exact h2
  | 3, hj => simp at hj; rw [← hj]; exact h3
  | 4, hj => simp at hj; rw [← hj]; exact h4
  | j + 5, hj => simp at hj

set_option maxRecDepth 100000 in
set_option maxHeartbeats 4000000 in
theorem given_any (v : Value) (F : Fl) (w : World) (hv : FA w v F) (hm : F.nT ≤ 1000000) (hS : ∀ i, i < F.nT → (F.T i).nS ≤ 1000000 ∧ (F.T i).nE ≤ 1000000) :
    Calls Try.prog 18 #[v] w fun e w' => ∃ r, e = .returned r ∧ FA w' r F ∧ Below w.heap.size w w' := by
  obtain ⟨ts, rfl, hts⟩ := hv
  obtain ⟨ao, c, rfl⟩ := hts.shape
  have HT := Lib.hid hts
  have HS := Lib.hid hS
  clear hts hS
  go_enter Try.func18, Try.ntmps18
  go_wp2_with fail
  obtain ⟨w1, hw⟩ : ∃ x, x = ((w.alloc (.cells #[.int .i64 F.sc, .slice ao F.nT c] 37)).alloc (.cells #[.int .i64 0, .slice none 0 0] 56)).alloc (.cells #[.int .i64 F.sc, .slice none 0 0] 56) := ⟨_, rfl⟩
  rw [← hw]
  have hb1 : Below w.heap.size w w1 := by rw [hw]; go_grown
  have xf : B2 w1 w.heap.size (.int .i64 F.sc) (.slice ao F.nT c) := by
    rw [hw]; exact ((B2.of_alloc w _ _ _ 37 rfl).far (below_box _ _) (by simp)).far (below_box _ _) (by simp; omega)
  have xr : B2 w1 (w.heap.size + 1) (.int .i64 0) (.slice none 0 0) := by
    rw [hw]; exact (B2.of_alloc _ _ _ _ 56 (by simp)).far (below_box _ _) (by simp)
  have xx : B2 w1 (w.heap.size + 1 + 1) (.int .i64 F.sc) (.slice none 0 0) := by
    rw [hw]; exact B2.of_alloc _ _ _ _ 56 (by simp)
  have hsz : w1.heap.size = w.heap.size + 1 + 1 + 1 := by rw [hw]; simp
  obtain ⟨blf, hblf⟩ : ∃ z, z = w.heap.size := ⟨_, rfl⟩
  obtain ⟨blr, hblr⟩ : ∃ z, z = w.heap.size + 1 := ⟨_, rfl⟩
  obtain ⟨blx, hblx⟩ : ∃ z, z = w.heap.size + 1 + 1 := ⟨_, rfl⟩
  obtain ⟨B, hB⟩ : ∃ z, z = w1.heap.size := ⟨_, rfl⟩
  have n0 : w.heap.size ≤ blf := by omega
  have n1 : blf < blr := by omega
  have n2 : blr < blx := by omega
  have n3 : blx < B := by omega
  have n4 : B ≤ w1.heap.size := by omega
  rw [← hblx] at xx ⊢
  rw [← hblr] at xr ⊢
  rw [← hblf] at xf ⊢
  have XF := Lib.hid xf
  have XR := Lib.hid xr
  have XX := Lib.hid xx
  have HB := Lib.hid hb1
  clear hw hb1 xf xr xx hsz hblf hblr hblx hB
  go_loopw [4] (fun i wr => ∃ (k : Nat) (v : Value) (xs : List Value), k ≤ F.nT ∧ i = .int .i64 (k : Int) ∧ B2 wr blx (.int .i64 F.sc) v ∧ B2 wr blf (.int .i64 F.sc) (.slice ao F.nT c) ∧ B2 wr blr (.int .i64 0) (.slice none 0 0) ∧ wr.ownsRow B 43 5 v k xs ∧ Kept w B wr F.T k xs ∧ Below w.heap.size w wr ∧ B ≤ wr.heap.size) (fun i _ => F.nT - (intOf i).toNat)
  case atStart => exact ⟨0, _, _, Nat.zero_le _, rfl, XX.out, XF.out, XR.out, owns_nil _ _ _ _, Kept.nil _ _ _ _, HB.out, n4⟩
  case round =>
    obtain ⟨k, v, xs, hk, rfl, xx, xf, xr, ho, hkp, hb, hsz⟩ := hrel
    obtain ⟨va, vm, vc, rfl⟩ := owns_shape ho
    have HO := Lib.hid ho
    have HK := Lib.hid hkp
    have HBW := Lib.hid hb
    have HXX := Lib.hid xx
    have HXF := Lib.hid xf
    have HXR := Lib.hid xr
    have f1 := xf.k1
    have x1 := xx.k1
    clear ho hkp hb xx xf xr
    by_cases hlt : k < F.nT
    · obtain ⟨b, o, a2, d2, a3, d3, a4, d4, rfl, t0, t1, t2, t3, t4, hta⟩ := HT.out.at hlt
      replace t0 := (HBW.out.cell (block_lt_of_cell t0)).trans t0
      replace t1 := (HBW.out.cell (block_lt_of_cell t1)).trans t1
      replace t2 := (HBW.out.cell (block_lt_of_cell t2)).trans t2
      replace t3 := (HBW.out.cell (block_lt_of_cell t3)).trans t3
      replace t4 := (HBW.out.cell (block_lt_of_cell t4)).trans t4
      have HTA := Lib.hid hta
      clear hta
      go_wp2_with fail
      refine Plan.wp_region_planz (fun w' => w'.cell? ⟨blx, 1, none⟩ = some (.slice va vm vc) ∧ w'.cell? ⟨blf, 1, none⟩ = some (.slice (some ⟨b, o, none⟩) F.nT c) ∧ w'.cell? ⟨b, o + k * 5, none⟩ = some (.string (F.T k).h) ∧ w'.cell? ⟨b, o + k * 5 + 1, none⟩ = some (.int .i64 (F.T k).sc) ∧ w'.cell? ⟨b, o + k * 5 + 2, none⟩ = some (.slice a2 (F.T k).nC d2) ∧ w'.cell? ⟨b, o + k * 5 + 3, none⟩ = some (.slice a3 (F.T k).nS d3) ∧ w'.cell? ⟨b, o + k * 5 + 4, none⟩ = some (.slice a4 (F.T k).nE d4)) 11 (([0, 1, 2, 3, 4, 5, 6].map (·, true)) ++ (([7, 8, 9].map (·, false)) ++ (([10].map (·, true)) ++ (([11].map (·, false)))))) (by kernel_rfl) (by kernel_rfl) (by kernel_rfl) ⟨x1, f1, t0, t1, t2, t3, t4⟩ ?_
      refine' Plan.plan_seg _ [0, 1, 2, 3, 4, 5, 6] (([7, 8, 9].map (·, false)) ++ (([10].map (·, true)) ++ (([11].map (·, false))))) (by kernel_rfl) (by kernel_rfl) rfl (by exact ⟨x1, f1, t0, t1, t2, t3, t4⟩) (fun wx hS => ?_) ?_
      rotate_left
      · obtain ⟨z0, z1, z2, z3, z4, z5, z6⟩ := hS
        go_light
        iterate 7 (apply Plan.seg_pick; rfl; intro K hK; go_wp)
        exact Plan.seg_nil
      refine Plan.plan_of_effect rfl (fun K hK => ?_)
      go_wp2_with fail
      refine (track_far _ (F.T k) w _ HTA.out HBW.out.drew (HS.out k hlt).1 (HS.out k hlt).2).mono ?_
      rintro e w5 ⟨c0, c1, c2, c3, c4, rfl, hb5, hkp⟩
      replace hb5 : Below wr.heap.size wr w5 := (Below.refl wr.heap.size wr).drew.trans hb5
      replace x1 := (hb5.cell (block_lt_of_cell x1)).trans x1
      replace f1 := (hb5.cell (block_lt_of_cell f1)).trans f1
      replace t0 := (hb5.cell (block_lt_of_cell t0)).trans t0
      replace t1 := (hb5.cell (block_lt_of_cell t1)).trans t1
      replace t2 := (hb5.cell (block_lt_of_cell t2)).trans t2
      replace t3 := (hb5.cell (block_lt_of_cell t3)).trans t3
      replace t4 := (hb5.cell (block_lt_of_cell t4)).trans t4
      have HK5 := Lib.hid hkp
      have HB5 := Lib.hid hb5
      clear hkp hb5
      go_wp2_with fail
      refine ⟨⟨x1, f1, t0, t1, t2, t3, t4⟩, ?_⟩
      refine Plan.plan_of_effect rfl (fun K hK => ?_)
      go_wp2_with fail
      obtain ⟨w6, hw6⟩ : ∃ x, x = w5.alloc (.cells #[c0, c1, c2, c3, c4] 43) := ⟨_, rfl⟩
      rw [← hw6]
      have hb56 : Below w5.heap.size w5 w6 := by rw [hw6]; exact below_box _ _
      have p0 : w6.cell? ⟨w5.heap.size, 0, none⟩ = some c0 := by rw [hw6]; simp [go_sem]
      have p1 : w6.cell? ⟨w5.heap.size, 1, none⟩ = some c1 := by rw [hw6]; simp [go_sem]
      have p2 : w6.cell? ⟨w5.heap.size, 2, none⟩ = some c2 := by rw [hw6]; simp [go_sem]
      have p3 : w6.cell? ⟨w5.heap.size, 3, none⟩ = some c3 := by rw [hw6]; simp [go_sem]
      have p4 : w6.cell? ⟨w5.heap.size, 4, none⟩ = some c4 := by rw [hw6]; simp [go_sem]
      have hs5 := HB5.out.size
      have hs6 := hb56.size
      replace x1 := (hb56.cell (block_lt_of_cell x1)).trans x1
      replace f1 := (hb56.cell (block_lt_of_cell f1)).trans f1
      replace t0 := (hb56.cell (block_lt_of_cell t0)).trans t0
      replace t1 := (hb56.cell (block_lt_of_cell t1)).trans t1
      replace t2 := (hb56.cell (block_lt_of_cell t2)).trans t2
      replace t3 := (hb56.cell (block_lt_of_cell t3)).trans t3
      replace t4 := (hb56.cell (block_lt_of_cell t4)).trans t4
      have hb6 : Below wr.heap.size wr w6 := HB5.out.trans (hb56.mono hs5)
      have HB6 := Lib.hid hb6
      have HB56 := Lib.hid hb56
      clear hw6 hb6 hb56
      refine ⟨⟨x1, f1, t0, t1, t2, t3, t4⟩, ?_⟩
      refine Plan.plan_of_effect rfl (fun K hK => ?_)
      have h1 : ∀ u ∈ [c0, c1, c2, c3, c4], u.oneCell' = true := by
        obtain ⟨e0, e1, e2, e3, e4⟩ := HK5.out w5 (fun p hp => (HB5.out.cell (by have := HBW.out.size; omega)).trans (HBW.out.cell hp)) (fun _ _ _ _ _ _ => rfl)
        obtain ⟨_, _, e2⟩ := e2.shape
        obtain ⟨_, _, e3⟩ := e3.shape
        obtain ⟨_, _, e4⟩ := e4.shape
        simp [e0, e1, e2, e3, e4, Value.oneCell']
      refine wpList_app2 w6 rfl (.tmp 16) (.tmp 23) 54 43 5 96 _ Try.underlying54 info43 rfl (by decide) (by decide) rfl B k w5.heap.size (.slice va vm vc) xs [c0, c1, c2, c3, c4] (by simp [go_sem]) (owns_below HO.out HB6.out) (by simp [go_sem]) rfl (cellsOf5 p0 p1 p2 p3 p4) h1 (by omega) (by omega) ?_
      intro v' w7 hv' hb7 hkeep
      obtain ⟨va', vm', vc', rfl⟩ := owns_shape hv'
      have lb := block_lt_of_cell (HXX.out.k1)
      have tb : b < w.heap.size := by
        obtain ⟨_, _, _, _, _, _, _, _, e, q0, _⟩ := HT.out.at hlt
        cases e; exact block_lt_of_cell q0
      have hs7 := hb7.size
      have xx7 := (HXX.out.far HB6.out lb).far hb7 (by omega)
      have xf7 := (HXF.out.far HB6.out (by omega)).far hb7 (by omega)
      have xr7 := (HXR.out.far HB6.out (by omega)).far hb7 (by omega)
      have hb67 := (HBW.out.trans (HB6.out.mono HBW.out.size)).trans (hb7.mono (show w.heap.size ≤ B by omega))
      replace x1 := (hb7.cell (p := ⟨blx, 1, none⟩) (by simp; omega)).trans x1
      replace f1 := (hb7.cell (p := ⟨blf, 1, none⟩) (by simp; omega)).trans f1
      replace t0 := (hb7.cell (p := ⟨b, o + k * 5, none⟩) (by simp; omega)).trans t0
      replace t1 := (hb7.cell (p := ⟨b, o + k * 5 + 1, none⟩) (by simp; omega)).trans t1
      replace t2 := (hb7.cell (p := ⟨b, o + k * 5 + 2, none⟩) (by simp; omega)).trans t2
      replace t3 := (hb7.cell (p := ⟨b, o + k * 5 + 3, none⟩) (by simp; omega)).trans t3
      replace t4 := (hb7.cell (p := ⟨b, o + k * 5 + 4, none⟩) (by simp; omega)).trans t4
      have HKE := Lib.hid hkeep
      have HV7 := Lib.hid (And.intro hv' (And.intro xx7 (And.intro xf7 (And.intro xr7 hb67))))
      have fz := xx7.fz
      clear hv' hb7 hkeep xx7 xf7 xr7 hb67 p0 p1 p2 p3 p4 h1
      go_wp2_with fail
      refine' Plan.plan_seg _ [10] (([11].map (·, false))) (by kernel_rfl) (by kernel_rfl) rfl (by exact ⟨x1, f1, t0, t1, t2, t3, t4⟩) (fun wx hS => ?_) ?_
      rotate_left
      · obtain ⟨z0, z1, z2, z3, z4, z5, z6⟩ := hS
        go_light
        iterate 1 (apply Plan.seg_pick; rfl; intro K hK; go_wp)
        exact Plan.seg_nil
      refine Plan.plan_of_last rfl (fun K hK => ?_)
      go_wp2_with fail
      refine Plan.plan_done ?_
      go_wp2_with fail
      go_roundw
      case rel =>
        have hs2 : ∀ b' cur e, B ≤ b' → w5.heap[b']? = some (.cells cur e (0, 0)) → e ≠ 43 → (w7.setCell ⟨blx, 1, none⟩ (.slice va' vm' vc')).heap[b']? = w5.heap[b']? := by
          intro b' cur e hb' hc hne
          have hlt5 := (Array.getElem?_eq_some_iff.1 hc).1
          have h6 := HB56.out.block b' hlt5
          rw [Below.heap_setCell _ _ _ _ (by simp; omega), HKE.out b' cur e (h6.trans hc) hne, h6]
        have hs1 : ∀ b' cur e, B ≤ b' → wr.heap[b']? = some (.cells cur e (0, 0)) → e ≠ 43 → (w7.setCell ⟨blx, 1, none⟩ (.slice va' vm' vc')).heap[b']? = wr.heap[b']? := by
          intro b' cur e hb' hc hne
          have h5 := HB5.out.block b' (Array.getElem?_eq_some_iff.1 hc).1
          rw [hs2 b' cur e hb' (h5.trans hc) hne, h5]
        refine ⟨k + 1, .slice va' vm' vc', _, by omega, by go_num, HV7.out.2.1.set1 _, HV7.out.2.2.1.other (by simp; omega) _, HV7.out.2.2.2.1.other (by simp; omega) _, owns_far HV7.out.1 (by simpa using n3) _, (HK.out.move hs1).step (by rw [HO.out.1]) hsz HK5.out hs2, HV7.out.2.2.2.2.setCell (by simp; omega) _, by rw [World.size_setCell]; omega⟩
      case measure => simp [intOf]; omega
    · obtain rfl : k = F.nT := by omega
      obtain ⟨x0, x1, xz⟩ := HXX.out
      obtain ⟨r0, r1, rz⟩ := HXR.out
      go_wp2_with fail
      have hb := (HBW.out.setCell (p := ⟨blr, 0, none⟩) (by simp; omega) (.int .i64 F.sc)).setCell (p := ⟨blr, 1, none⟩) (by simp; omega) (.slice va vm vc)
      refine bodyPost_ret (results_cell rfl _ _ _ rfl (load56 (HXR.out.put2 _ _))) rfl ?_
      refine ⟨_, rfl, ⟨_, rfl, TSA.of_row (owns_far (owns_far HO.out (by simp; omega) _) (by simp; omega) _) (HK.out _ (fun p hp => hb.cell hp) (fun b' cur e hb' hc hne => ?_))⟩, hb⟩
      rw [Below.heap_setCell _ _ _ _ (by simp; omega), Below.heap_setCell _ _ _ _ (by simp; omega)]
end Go.Proofs.Ytkhjkemllgjfmaa
