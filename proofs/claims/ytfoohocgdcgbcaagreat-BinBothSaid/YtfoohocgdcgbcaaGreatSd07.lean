/- Texts of this claim joined: PlanH VU VV VW VX TK. -/
import Derived.Test.YtfoohocgdcgbcaaGreatSd00
import Derived.Test.YtfoohocgdcgbcaaGreatSd06
set_option linter.unusedVariables false
set_option linter.unusedSimpArgs false

/- A plan whose last operation waits for all others, perhaps through others: behind it the condition need not hold. -/
namespace Go.Plan
open Go
section
variable {P : Program} {ops : Array Oper} {Q : Exit → Act → World → Prop} {S : World → Prop} {z : Nat} {C : Act → World → Prop}
/-- Operation j waits for operation i, perhaps through others. -/
def waitsFor (ops : Array Oper) : Nat → Nat → Nat → Bool
  | 0, _, _ => false
  | f + 1, j, i => match ops[j]? with
    | some o => o.after.any fun e => Region.binds .any e && (e.on == i || waitsFor ops f e.on i)
    | none => false
def lastOK2 (ops : Array Oper) (z : Nat) : Bool :=
  match ops[z]? with
  | some _ => (List.range ops.size).all fun i => i == z || waitsFor ops 4 z i
  | none => true
/-- What is listed waits for nothing any more. -/
def Closed (ops : Array Oper) (listed : Array Bool) : Prop := ∀ (j : Nat) (o : Oper), ops[j]? = some o → listed.getD j false = true → ∀ e ∈ o.after, Region.binds .any e = true → listed.getD e.on false = true
theorem waits_spec {listed : Array Bool} (hc : Closed ops listed) : ∀ (f j i : Nat), (∀ o, ops[j]? = some o → ∀ e ∈ o.after, Region.binds .any e = true → listed.getD e.on false = true) → waitsFor ops f j i = true → listed.getD i false = true
  | 0, j, i, _, h => by simp [waitsFor] at h
  | f + 1, j, i, hj, h => by
    unfold waitsFor at h
    split at h
    · rename_i o ho
      obtain ⟨e, he, hb⟩ := Array.any_eq_true'.1 h
      simp only [Bool.and_eq_true, Bool.or_eq_true, beq_iff_eq] at hb
      have hl := hj o ho e he hb.1
      rcases hb.2 with h2 | h2
      · rw [← h2]; exact hl
      · exact waits_spec hc f e.on i (fun o' ho' e' he' hb' => hc e.on o' ho' hl e' he' hb') h2
    · cases h
theorem Closed.set {listed : Array Bool} (hc : Closed ops listed) {j : Nat} (hj : j ∈ Region.ready .any ops listed) : Closed ops (listed.setIfInBounds j true) := by
  intro k o ho hk e he hb
  obtain ⟨hjun, oj, hoj, hall⟩ := mem_ready.1 hj
  have hmono : ∀ m, listed.getD m false = true → (listed.setIfInBounds j true).getD m false = true := fun m hm => by
    by_cases hjm : j = m
    · subst hjm
      have hlt : j < listed.size := by
        by_cases hlt : j < listed.size
        · exact hlt
        · simp [Array.getElem?_eq_none (Nat.le_of_not_lt hlt)] at hm
      simp [hlt]
    · rw [getD_set_ne false hjm]; exact hm
  by_cases hjk : j = k
  · subst hjk
    rw [hoj] at ho
    obtain rfl := Option.some.inj ho
    exact hmono _ (hall e he hb)
  · rw [getD_set_ne false hjk] at hk
    exact hmono _ (hc k o ho hk e he hb)
theorem anyS_take2 {i : Nat} {oi : Oper} {v : Value} (hi : ops[i]? = some oi) (hs : Region.noSelect ops = true) (hz : lastOK2 ops z = true) (hQ : ∀ c a w, Q (.panic c) (a.put oi.dst v) w → Q (.panic c) a w) :
    ∀ (fuel : Nat) (listed : Array Bool) (a : Act) (w : World), Closed ops listed → Region.free .any ops listed i = true → i ∈ Region.ready .any ops listed → YieldsIf P ops S oi v a → S w →
      anyS P ops Q S z fuel (listed.setIfInBounds i true) (a.put oi.dst v) w → anyS P ops Q S z (fuel + 1) listed a w := by
  have hsel := Region.noSelect_spec hs
  have hilt := (Array.getElem?_eq_some_iff.1 hi).1
  have key : ∀ (fuel : Nat) (listed : Array Bool) (a : Act) (w : World), Closed ops listed →
      (∀ j oj, ops[j]? = some oj → j ≠ i → listed.getD j true = false → (∀ e ∈ oj.after, Region.binds .any e = true → e.on ≠ i) → oi.apart ops oj = true) →
      i ∈ Region.ready .any ops listed → YieldsIf P ops S oi v a → S w → anyS P ops Q S z fuel (listed.setIfInBounds i true) (a.put oi.dst v) w → anyS P ops Q S z (fuel + 1) listed a w := by
    intro fuel
    induction fuel with
    | zero =>
      intro listed a w _ _ hr hy hS H
      refine ⟨fun h => absurd (h ▸ hr) (by simp), fun j hj => ?_⟩
      by_cases hji : j = i
      · subst hji; exact hy.wpOp hi hS ⟨fun _ => hS, H⟩
      · have := ready_mono hj hji
        rw [H.1] at this
        cases this
    | succ fuel ih =>
      intro listed a w hcl hfree hr hy hS H
      refine ⟨fun h => absurd (h ▸ hr) (by simp), fun j hj => ?_⟩
      by_cases hji : j = i
      · subst hji; exact hy.wpOp hi hS ⟨fun _ => hS, H⟩
      · have h1 := H.2 j (ready_mono hj hji)
        obtain ⟨hjun, oj, hoj, hall⟩ := mem_ready.1 hj
        have hnot : ∀ e ∈ oj.after, Region.binds .any e = true → e.on ≠ i := fun e he hb heq => by
          have h3 := hall e he hb
          have h0 := (mem_ready.1 hr).1
          rw [heq] at h3
          by_cases hlt : i < listed.size
          · simp [hlt] at h0 h3; rw [h0] at h3; cases h3
          · simp [Array.getElem?_eq_none (Nat.le_of_not_lt hlt)] at h3
        have hjz : j ≠ z := by
          rintro rfl
          have hz2 := hz
          simp only [lastOK2, hoj, List.all_eq_true, List.mem_range] at hz2
          have h4 := hz2 i hilt
          simp only [Bool.or_eq_true, beq_iff_eq, Ne.symm hji, false_or] at h4
          have h3 := waits_spec hcl 4 j i (fun o ho e he hb => by
            rw [hoj] at ho
            obtain rfl := Option.some.inj ho
            exact hall e he hb) h4
          have h0 := (mem_ready.1 hr).1
          by_cases hlt : i < listed.size
          · simp [hlt] at h0 h3; rw [h0] at h3; cases h3
          · simp [Array.getElem?_eq_none (Nat.le_of_not_lt hlt)] at h3
        have h2 := wpOp_putIf hoj (hfree j oj hoj hji hjun hnot) (fun cs b => hsel i oi cs b hi) (fun cs b => hsel j oj cs b hoj) hQ hy h1
        refine wpOp_mono (fun a' w' h3 => ?_) h2
        obtain ⟨hy', himp, hrest⟩ := h3
        have hr' : i ∈ Region.ready .any ops (listed.setIfInBounds j true) := ready_mono hr (Ne.symm hji)
        have hS' : S w' := himp hjz
        refine ⟨fun _ => hS', ih (listed.setIfInBounds j true) a' w' (hcl.set hj) (fun k ok hk hki hun hno => ?_) hr' hy' hS' ?_⟩
        · refine hfree k ok hk hki ?_ hno
          by_cases hjk : j = k
          · subst hjk; exact hjun
          · rw [getD_set_ne true hjk] at hun; exact hun
        · rw [Array.setIfInBounds_comm _ _ hji]
          exact hrest
  intro fuel listed a w hcl hf hr hy hS H
  exact key fuel listed a w hcl (Region.free_spec hi hf) hr hy hS H
theorem held_of_plan2 (hs : Region.noSelect ops = true) (hz : lastOK2 ops z = true) (hQ : ∀ c a d v w, Q (.panic c) (a.put d v) w → Q (.panic c) a w) (listed' : Array Bool) (fuel : Nat)
    (hC : ∀ a w, (¬ listed'.getD z false = true → S w) → C a w → anyS P ops Q S z fuel listed' a w) :
    ∀ (plan : List (Nat × Bool)) (listed : Array Bool) (a : Act) (w : World), Closed ops listed → planGo ops z listed plan = some listed' → listed.size = ops.size → (¬ listed.getD z false = true → S w) → wpPlan P ops Q S z C plan a w →
      anyS P ops Q S z (fuel + plan.length) listed a w
  | [], listed, a, w, _, hp, _, hS, h => by
    simp only [planGo, Option.some.injEq] at hp
    subst hp
    exact hC a w hS h
  | (i, true) :: r, listed, a, w, hcl, hp, hl, hS, h => by
    simp only [planGo] at hp
    split at hp
    · rename_i hc
      simp only [Bool.and_eq_true, List.contains_eq_mem, decide_eq_true_eq, Bool.not_eq_true'] at hc
      obtain ⟨o, ho, v, hy, hr⟩ := h
      have hSw : S w := hS (by rw [hc.2]; simp)
      exact anyS_take2 ho hs hz (fun c a w => hQ c a _ _ w) _ _ _ _ hcl hc.1.1 hc.1.2 hy hSw (held_of_plan2 hs hz hQ listed' fuel hC r _ _ _ (hcl.set hc.1.2) hp (by simp [hl]) (fun _ => hSw) hr)
    · cases hp
  | (i, false) :: r, listed, a, w, hcl, hp, hl, hS, h => by
    simp only [planGo] at hp
    split at hp
    · rename_i hc
      simp only [beq_iff_eq] at hc
      refine ⟨fun h0 => by rw [hc] at h0; simp at h0, fun j hj => ?_⟩
      have hj2 := hj
      rw [hc] at hj
      obtain rfl := List.mem_singleton.1 hj
      refine wpOp_mono (fun a' w' h' => ⟨h'.1, held_of_plan2 hs hz hQ listed' fuel hC r _ _ _ (hcl.set hj2) hp (by simp [hl]) (fun hnz => h'.1 (fun e => hnz ?_)) h'.2⟩) h
      subst e
      have hmem : j ∈ Region.ready .any ops listed := by rw [hc]; simp
      obtain ⟨_, o, ho, _⟩ := mem_ready.1 hmem
      have : j < listed.size := by rw [hl]; exact (Array.getElem?_eq_some_iff.1 ho).1
      simp [this]
    · cases hp
theorem closed_none (n : Nat) : Closed ops (Array.replicate n false) := by
  intro j o ho hj
  have e : (Array.replicate n false).getD j false = false := by
    by_cases h : j < n
    · simp [h]
    · simp [Array.getD, h]
  rw [e] at hj
  cases hj
theorem wp_region_planw {id : Nat} {l : List Oper} {a : Act} {w : World} (S : World → Prop) (z : Nat) (plan : List (Nat × Bool)) (hm : P.follows .mixedOrders = true)
    (hs : Region.noSelect l.toArray = true) (hp : (lastOK2 l.toArray z && planOK l.toArray z (Array.replicate l.toArray.size false) plan && decide (plan.length = l.toArray.size)) = true)
    (hS : S w.drew) (h : wpPlan P l.toArray (NoPanic Q) S z (NoPanic Q .normal) plan a w.drew) : (Code.region id l.toArray true).wp P Q a w := by
  simp only [Bool.and_eq_true, decide_eq_true_eq, planOK] at hp
  split at hp
  · rename_i l' hl'
    refine wp_region_noPanic (wp_region_any hm (any_of_anyS (S := S) (z := z) _ _ _ _ ?_))
    have := held_of_plan2 (P := P) (Q := NoPanic Q) (S := S) (C := NoPanic Q .normal) hs hp.1.1 (fun c a d v w h => h.elim) l' 0 (fun a w _ h => anyS_done (by simpa using hp.1.2) h 0) plan _ a w.drew (closed_none _) hl' (by simp) (fun _ => hS) h
    rw [Nat.zero_add, hp.2] at this
    exact this
  · simp at hp
end
end Go.Plan

/- The closures that slip a clip and begin it later. -/
namespace Go.Proofs.YtfoohocgdcgbcaaGreat
open Go.RowKit
set_option linter.unusedVariables false
set_option linter.unusedSimpArgs false
theorem slip_cells (d : Int) (x : Trk.Clip) : clipC { x with a := Trk.moved x.a d } = (clipC x).take 2 ++ srcC (Trk.moved x.a d) ++ (clipC x).drop (2 + (srcC (Trk.moved x.a d)).length) := rfl
theorem slip_cells2 (d : Int) (x : Trk.Clip) : clipC (Trk.slipBy d x) = (clipC { x with a := Trk.moved x.a d }).take 9 ++ srcC (Trk.moved x.b d) ++ (clipC { x with a := Trk.moved x.a d }).drop (9 + (srcC (Trk.moved x.b d)).length) := rfl
structure CB2 (w : World) (b8 b3 g N cap i : Nat) (d : Int) (s : Trk.Src) : Prop where
  v : w.cell? ⟨b8, 0, none⟩ = some (.slice (some ⟨g, 0, none⟩) N cap)
  d : w.cell? ⟨b3, 4, none⟩ = some (.int .i64 d)
  b : w.rangeAt g (i * 22 + 9) (srcC s)
theorem CB2.below {w w' : World} {b8 b3 g N cap i : Nat} {d : Int} {s : Trk.Src} (h : CB2 w b8 b3 g N cap i d s) (hb : Below w.heap.size w w') : CB2 w' b8 b3 g N cap i d s :=
  ⟨(hb.cell (block_lt_of_cell h.v)).trans h.v, (hb.cell (block_lt_of_cell h.d)).trans h.d, fun j u hj => (hb.cell (block_lt_of_cell (h.b j u hj))).trans (h.b j u hj)⟩
theorem Seen.cb {w : World} {b8 b3 g N cap : Nat} {d : Int} {l : List Trk.Clip} {B : Nat} (h : Seen w b8 b3 g N cap d l B) {i : Nat} {x : Trk.Clip} (hx : l[i]? = some x) : CB2 w b8 b3 g N cap i d x.b := ⟨h.v, h.d, (h.at' hx).src_b⟩
theorem OT.thereS {w : World} {B g cap k : Nat} {l : List Trk.Clip} (h : OT w B (.slice (some ⟨g, 0, none⟩) k cap) l) {i : Nat} (hi : i < l.length) (j : Nat) (hj : j + 7 ≤ 22) : w.there g (i * 22 + j) 7 := fun q hq => by
  have := h.there hi (j + q) (by omega)
  rw [← Nat.add_assoc] at this
  exact this
set_option maxRecDepth 100000 in
set_option maxHeartbeats 8000000 in
theorem slip_any (i : Nat) (x : Trk.Clip) (b8 b3 g N cap : Nat) (d : Int) (l : List Trk.Clip) (B : Nat) (w : World) (h : Seen w b8 b3 g N cap d l B) (hx : l[i]? = some x) (hN : N ≤ 64) (ha : OkS x.a) (hb : OkS x.b) (hd : d.natAbs ≤ 4294967296) :
    Calls Tryz.prog 127 #[.int .i64 (i : Int), .pointer (some ⟨b8, 0, none⟩), .pointer (some ⟨b3, 0, none⟩)] w (ClosPost w b8 b3 g N cap d (Trk.upd l i (Trk.slipBy d)) B) := by
  have hr := h.room
  have hi := (List.getElem?_eq_some_iff.1 hx).1
  have hiN : i < N := by omega
  have hiN' : (i : Int) < (N : Int) := by omega
  have hcap := hr.2
  have HS := Lib.hid h
  have HX := Lib.hid (upd_set hx (Trk.slipBy d))
  have HXX := Lib.hid hx
  have HC := Lib.hid (show CB2 w b8 b3 g N cap i d x.b from h.cb hx)
  have HMA := Lib.hid (fun w => emoved_any x.a d w ha hd)
  have HMB := Lib.hid (fun w => emoved_any x.b d w hb hd)
  unfold srcV at HMA HMB
  obtain ⟨SA, hSA⟩ : ∃ S, S = (srcC x.a).toArray := ⟨_, rfl⟩
  obtain ⟨SB, hSB⟩ : ∃ S, S = (srcC x.b).toArray := ⟨_, rfl⟩
  obtain ⟨MA, hMA⟩ : ∃ S, S = (srcC (Trk.moved x.a d)).toArray := ⟨_, rfl⟩
  obtain ⟨MB, hMB⟩ : ∃ S, S = (srcC (Trk.moved x.b d)).toArray := ⟨_, rfl⟩
  rw [← hSA, ← hMA] at HMA
  rw [← hSB, ← hMB] at HMB
  have HSA := Lib.hid hSA
  have HSB := Lib.hid hSB
  have HRA := Lib.hid hMA
  have HRB := Lib.hid hMB
  clear hr hi hx h hSA hSB hMA hMB
  go_enter Tryz.func127, Tryz.ntmps127
  go_upto_region 0 with fail
  refine Plan.wp_region_planw (fun w' => CB2 w' b8 b3 g N cap i d x.b) 25 (([0, 1, 2, 3, 4, 5, 6, 7, 9, 10, 12, 13, 14, 15, 16, 17, 18].map (·, true)) ++ (([8, 11, 19].map (·, false)) ++ (([20, 21].map (·, true)) ++ (([22].map (·, false)) ++ (([23, 24].map (·, true)) ++ ([25].map (·, false))))))) (by kernel_rfl) (by kernel_rfl) (by kernel_rfl) (HC.out.below (Below.refl _ _).drew) ?_
  refine' Plan.plan_seg _ [0, 1, 2, 3, 4, 5, 6, 7, 9, 10, 12, 13, 14, 15, 16, 17, 18] (([8, 11, 19].map (·, false)) ++ (([20, 21].map (·, true)) ++ (([22].map (·, false)) ++ (([23, 24].map (·, true)) ++ ([25].map (·, false)))))) (by kernel_rfl) (by kernel_rfl) rfl (by exact HC.out.below (Below.refl _ _).drew) (fun wx hS => ?_) ?_
  rotate_left
  · obtain ⟨y1, y2, y3⟩ := hS
    have Y3 := Lib.hid y3
    clear y3
    go_light
    iterate 14 (apply Plan.seg_pick; rfl; intro K hK; go_wp)
    (apply Plan.seg_pick; rfl; intro K hK)
    refine wpl_loadS (some 20) rfl Y3.out rfl rfl rfl ?_
    rw [← HSB.out]
    go_wp
    iterate 2 (apply Plan.seg_pick; rfl; intro K hK; go_wp)
    exact Plan.seg_nil
  obtain ⟨w1, hw1⟩ : ∃ x, x = w.drew := ⟨_, rfl⟩
  rw [← hw1]
  have hb : Below w.heap.size w w1 := by rw [hw1]; exact (Below.refl _ _).drew
  have HT := Lib.hid (Turn.of (g := g) (Nat.le_of_lt (HS.out.l.own.2.1)) hb)
  replace HS := Lib.hid (HS.out.below hb)
  clear hb hw1 HC
  refine Plan.plan_of_effect rfl (fun K hK => ?_)
  refine wpl_loadS (some 12) rfl (HS.out.at' HXX.out).src_a rfl rfl rfl ?_
  rw [← HSA.out]
  simp only [Act.put, List.setIfInBounds_toArray, List.set_cons_succ, List.set_cons_zero]
  go_wp2_with fail
  refine ⟨(HS.out.cb HXX.out), ?_⟩
  refine Plan.plan_of_effect rfl (fun K hK => ?_)
  go_wp2_with fail
  refine (HMA.out _).mono ?_
  rintro e w2 ⟨rfl, hb⟩
  replace HT := Lib.hid (HT.out.trans (Turn.of (g := g) (Nat.le_of_lt (HS.out.l.own.2.1)) hb))
  replace HS := Lib.hid (HS.out.below hb)
  clear hb
  go_wp2_with fail
  refine ⟨(HS.out.cb HXX.out), ?_⟩
  refine Plan.plan_of_effect rfl (fun K hK => ?_)
  go_wp2_with fail
  refine (HMB.out _).mono ?_
  rintro e w3 ⟨rfl, hb⟩
  replace HT := Lib.hid (HT.out.trans (Turn.of (g := g) (Nat.le_of_lt (HS.out.l.own.2.1)) hb))
  replace HS := Lib.hid (HS.out.below hb)
  clear hb
  go_wp2_with fail
  refine ⟨(HS.out.cb HXX.out), ?_⟩
  refine' Plan.plan_seg (S := (fun w' => CB2 w' b8 b3 g N cap i d x.b)) _ [20, 21] (([22].map (·, false)) ++ (([23, 24].map (·, true)) ++ ([25].map (·, false)))) (by kernel_rfl) (by kernel_rfl) rfl (by exact (HS.out.cb HXX.out)) (fun wx hS => ?_) ?_
  rotate_left
  · clear hS
    go_light
    iterate 2 (apply Plan.seg_pick; rfl; intro K hK; go_wp)
    exact Plan.seg_nil
  refine Plan.plan_of_effect rfl (fun K hK => ?_)
  refine wpl_storeS (Trk.moved x.a d) none rfl (HS.out.l.thereS (List.getElem?_eq_some_iff.1 HXX.out).1 2 (by decide)) rfl rfl rfl (by rw [← HRA.out]; rfl) ?_
  have HT2 := Lib.hid (HT.out.trans (Turn.cells g (i * 22 + 2) (srcC (Trk.moved x.a d)) w3))
  have HS2 := Lib.hid (HS.out.cells HXX.out (by show 2 + 7 ≤ 22; decide) (slip_cells d x))
  have HX2 := Lib.hid (show (l.set i { x with a := Trk.moved x.a d })[i]? = some { x with a := Trk.moved x.a d } by simp [(List.getElem?_eq_some_iff.1 HXX.out).1])
  obtain ⟨w4, hw4⟩ : ∃ y, y = w3.setCells g (i * 22 + 2) (srcC (Trk.moved x.a d)) := ⟨_, rfl⟩
  rw [← hw4] at HT2 HS2 ⊢
  have hcb2 := HS2.out.cb HX2.out
  have HCB2 := Lib.hid (show CB2 w4 b8 b3 g N cap i d x.b from hcb2)
  clear hcb2
  clear hw4 HS HT
  simp only [Act.put, List.setIfInBounds_toArray, List.set_cons_succ, List.set_cons_zero]
  go_wp2_with fail
  refine ⟨HCB2.out, ?_⟩
  refine' Plan.plan_seg (S := (fun w' => CB2 w' b8 b3 g N cap i d x.b)) _ [23, 24] ([25].map (·, false)) (by kernel_rfl) (by kernel_rfl) rfl (by exact HCB2.out) (fun wx hS => ?_) ?_
  rotate_left
  · clear hS
    go_light
    iterate 2 (apply Plan.seg_pick; rfl; intro K hK; go_wp)
    exact Plan.seg_nil
  refine Plan.plan_of_last rfl (fun K hK => ?_)
  refine wpl_storeS (Trk.moved x.b d) none rfl (HS2.out.l.thereS (List.getElem?_eq_some_iff.1 HX2.out).1 9 (by decide)) rfl rfl rfl (by rw [← HRB.out]; rfl) ?_
  have HT3 := Lib.hid (HT2.out.trans (Turn.cells g (i * 22 + 9) (srcC (Trk.moved x.b d)) w4))
  have HS3 := Lib.hid (HS2.out.cells HX2.out (by show 9 + 7 ≤ 22; decide) (slip_cells2 d x))
  obtain ⟨w5, hw5⟩ : ∃ y, y = w4.setCells g (i * 22 + 9) (srcC (Trk.moved x.b d)) := ⟨_, rfl⟩
  rw [← hw5] at HT3 HS3 ⊢
  clear hw5 HS2 HT2
  simp only [Act.put, List.setIfInBounds_toArray, List.set_cons_succ, List.set_cons_zero]
  go_wp2_with fail
  refine Plan.plan_done ?_
  refine bodyPost_end (results_none Tryz.results127 _ _ _) rfl ?_
  unfold ClosPost
  rw [HX.out]
  refine ⟨rfl, ?_, HT3.out⟩
  have e : (l.set i { x with a := Trk.moved x.a d }).set i (Trk.slipBy d x) = l.set i (Trk.slipBy d x) := by rw [List.set_set]
  rw [← e]
  exact HS3.out
end Go.Proofs.YtfoohocgdcgbcaaGreat

/- The closure that begins a clip later. -/
namespace Go.Proofs.YtfoohocgdcgbcaaGreat
open Go.RowKit
set_option linter.unusedVariables false
set_option linter.unusedSimpArgs false
theorem get_set {l : List Trk.Clip} {i : Nat} {x : Trk.Clip} (h : l[i]? = some x) (y : Trk.Clip) : (l.set i y)[i]? = some y := by simp [(List.getElem?_eq_some_iff.1 h).1]
set_option maxRecDepth 100000 in
set_option maxHeartbeats 8000000 in
theorem later_any (i : Nat) (x : Trk.Clip) (b10 b8 b3 g N cap : Nat) (d : Int) (l : List Trk.Clip) (B : Nat) (w : World) (h : Seen w b8 b3 g N cap d l B) (hx : l[i]? = some x) (hN : N ≤ 64) (ha : OkS x.a) (hb : OkS x.b) (hd : d.natAbs ≤ 4294967296)
    (hl : x.len.natAbs ≤ 1099511627776) (ho : x.off.natAbs ≤ 1099511627776) (hc : w.cell? ⟨b10, 0, none⟩ = some (.func (.func 127) #[] #[.pointer (some ⟨b8, 0, none⟩), .pointer (some ⟨b3, 0, none⟩)])) :
    Calls Tryz.prog 129 #[.int .i64 (i : Int), .pointer (some ⟨b10, 0, none⟩), .pointer (some ⟨b8, 0, none⟩), .pointer (some ⟨b3, 0, none⟩)] w (ClosPost w b8 b3 g N cap d (Trk.upd l i (Trk.later d)) B) := by
  have hr := h.room
  have hi := (List.getElem?_eq_some_iff.1 hx).1
  have hiN : i < N := by omega
  have hiN' : (i : Int) < (N : Int) := by omega
  have hcap := hr.2
  have HS := Lib.hid h
  have HX := Lib.hid (upd_set hx (Trk.later d))
  have HSX := Lib.hid (upd_set hx (Trk.slipBy d))
  have HXX := Lib.hid hx
  have HSL := Lib.hid (slip_any i x b8 b3 g N cap d l B w h hx hN ha hb hd)
  clear hr hi hx h ha hb
  go_enter Tryz.func129, Tryz.ntmps129
  go_wp2_with fail
  refine HSL.out.mono ?_
  rintro e w1 ⟨rfl, hs, ht⟩
  rw [HSX.out] at hs
  replace HS := Lib.hid hs
  have HT := Lib.hid ht
  have HX1 := Lib.hid (get_set HXX.out (Trk.slipBy d x))
  clear hs ht hc HSL HSX
  go_upto_region 1 with fail
  refine Plan.wp_region_plan (fun w' => C82 w' b8 b3 g N cap d) (([0, 1, 2, 3, 5, 6].map (·, true)) ++ (([4].map (·, false)) ++ (([7, 8, 9].map (·, true)) ++ ([10].map (·, false))))) (by kernel_rfl) (by kernel_rfl) (by kernel_rfl) (HS.out.c82.below (Below.refl _ _).drew) ?_
  refine' Plan.plan_seg _ [0, 1, 2, 3, 5, 6] (([4].map (·, false)) ++ (([7, 8, 9].map (·, true)) ++ ([10].map (·, false)))) (by kernel_rfl) (by kernel_rfl) rfl (by exact HS.out.c82.below (Below.refl _ _).drew) (fun wx hS => ?_) ?_
  rotate_left
  · obtain ⟨y1, y2⟩ := hS
    go_light
    iterate 6 (apply Plan.seg_pick; rfl; intro K hK; go_wp)
    exact Plan.seg_nil
  obtain ⟨wd, hwd⟩ : ∃ y, y = World.drew w1 := ⟨_, rfl⟩
  rw [← hwd]
  have hb : Below (World.heap w1).size w1 wd := by rw [hwd]; exact (Below.refl _ _).drew
  replace HT := Lib.hid (HT.out.trans (Turn.of (g := g) (Nat.le_of_lt (HS.out.l.own.2.1)) hb))
  replace HS := Lib.hid (HS.out.below hb)
  have z : wd.cell? ⟨g, i * 22, none⟩ = some (.int .i64 x.len) := (HS.out.at' HX1.out).k0
  have zf := HS.out.l.frozen (i * 22)
  clear hb hwd
  refine Plan.plan_of_effect rfl (fun K hK => ?_)
  go_wp2_with fail
  refine ⟨HS.out.c82, ?_⟩
  refine' Plan.plan_seg (S := (fun w' => C82 w' b8 b3 g N cap d)) _ [7, 8, 9] ([10].map (·, false)) (by kernel_rfl) (by kernel_rfl) rfl (by exact HS.out.c82) (fun wx hS => ?_) ?_
  rotate_left
  · clear hS
    go_light
    iterate 3 (apply Plan.seg_pick; rfl; intro K hK; go_wp)
    exact Plan.seg_nil
  refine Plan.plan_of_effect rfl (fun K hK => ?_)
  go_wp2_with fail
  clear z zf
  replace HT := Lib.hid (HT.out.trans (Turn.cells g (i * 22 + 0) [.int .i64 (x.len - d)] wd))
  replace HS := Lib.hid (HS.out.cells (j := 0) (vs := [.int .i64 (x.len - d)]) (x' := { Trk.slipBy d x with len := x.len - d }) HX1.out (by simp) rfl)
  have hw : wd.setCells g (i * 22 + 0) [.int .i64 (x.len - d)] = wd.setCell ⟨g, i * 22, none⟩ (.int .i64 (x.len - d)) := rfl
  rw [hw] at HT HS
  obtain ⟨w2, hwn⟩ : ∃ y, y = wd.setCell ⟨g, i * 22, none⟩ (.int .i64 (x.len - d)) := ⟨_, rfl⟩
  rw [← hwn] at HT HS ⊢
  clear hw hwn
  refine ⟨HS.out.c82, ?_⟩
  refine Plan.plan_done ?_
  have HX2 := Lib.hid (get_set HX1.out { Trk.slipBy d x with len := x.len - d })
  have z1 : w2.cell? ⟨g, i * 22 + 1, none⟩ = some (.int .i64 x.kind) := (HS.out.at' HX2.out).k1
  have y1 := HS.out.v
  by_cases hsh : x.kind = 2 ∨ x.kind = 3
  · have HSH := Lib.hid (show Trk.shares x.kind = true by unfold Trk.shares; rcases hsh with h | h <;> simp [h])
    have HLT := Lib.hid (show Trk.later d x = { Trk.slipBy d x with len := x.len - d, off := x.off + d } by unfold Trk.later Trk.shift Trk.withLen Trk.slipBy; rw [HSH.out]; rfl)
    obtain ⟨kk, hkk⟩ : ∃ kk, kk = x.kind := ⟨_, rfl⟩
    rw [← hkk] at z1 hsh
    have HGO := Lib.hid hsh
    clear hsh hkk
    by_cases h2 : kk = 2
    · have b2 : (kk == 2) = true := by simpa using h2
      clear h2
      go_upto_region 3 with fail
      clear z1 y1
      refine Plan.wp_region_plan (fun w' => C82 w' b8 b3 g N cap d) (([0, 1, 2, 3, 5, 6].map (·, true)) ++ (([4].map (·, false)) ++ (([7, 8, 9].map (·, true)) ++ ([10].map (·, false))))) (by kernel_rfl) (by kernel_rfl) (by kernel_rfl) (HS.out.c82.below (Below.refl _ _).drew) ?_
      refine' Plan.plan_seg _ [0, 1, 2, 3, 5, 6] (([4].map (·, false)) ++ (([7, 8, 9].map (·, true)) ++ ([10].map (·, false)))) (by kernel_rfl) (by kernel_rfl) rfl (by exact HS.out.c82.below (Below.refl _ _).drew) (fun wx hS => ?_) ?_
      rotate_left
      · obtain ⟨y1, y2⟩ := hS
        go_light
        iterate 6 (apply Plan.seg_pick; rfl; intro K hK; go_wp)
        exact Plan.seg_nil
      obtain ⟨wd, hwd⟩ : ∃ y, y = World.drew w2 := ⟨_, rfl⟩
      rw [← hwd]
      have hb : Below (World.heap w2).size w2 wd := by rw [hwd]; exact (Below.refl _ _).drew
      replace HT := Lib.hid (HT.out.trans (Turn.of (g := g) (Nat.le_of_lt (HS.out.l.own.2.1)) hb))
      replace HS := Lib.hid (HS.out.below hb)
      have z : wd.cell? ⟨g, i * 22 + 16, none⟩ = some (.int .i64 x.off) := (HS.out.at' HX2.out).k16
      have zf := HS.out.l.frozen (i * 22 + 16)
      clear hb hwd
      refine Plan.plan_of_effect rfl (fun K hK => ?_)
      go_wp2_with fail
      refine ⟨HS.out.c82, ?_⟩
      refine' Plan.plan_seg (S := (fun w' => C82 w' b8 b3 g N cap d)) _ [7, 8, 9] ([10].map (·, false)) (by kernel_rfl) (by kernel_rfl) rfl (by exact HS.out.c82) (fun wx hS => ?_) ?_
      rotate_left
      · clear hS
        go_light
        iterate 3 (apply Plan.seg_pick; rfl; intro K hK; go_wp)
        exact Plan.seg_nil
      refine Plan.plan_of_effect rfl (fun K hK => ?_)
      go_wp2_with fail
      clear z zf
      replace HT := Lib.hid (HT.out.trans (Turn.cells g (i * 22 + 16) [.int .i64 (x.off + d)] wd))
      replace HS := Lib.hid (HS.out.cells (j := 16) (vs := [.int .i64 (x.off + d)]) (x' := { Trk.slipBy d x with len := x.len - d, off := x.off + d }) HX2.out (by simp) rfl)
      have hw : wd.setCells g (i * 22 + 16) [.int .i64 (x.off + d)] = wd.setCell ⟨g, i * 22 + 16, none⟩ (.int .i64 (x.off + d)) := rfl
      rw [hw] at HT HS
      obtain ⟨w3, hwn⟩ : ∃ y, y = wd.setCell ⟨g, i * 22 + 16, none⟩ (.int .i64 (x.off + d)) := ⟨_, rfl⟩
      rw [← hwn] at HT HS ⊢
      clear hw hwn
      refine ⟨HS.out.c82, ?_⟩
      refine Plan.plan_done ?_

      iterate 0 go_step
      refine bodyPost_end (results_none Tryz.results129 _ _ _) rfl ?_
      unfold ClosPost
      rw [HX.out, HLT.out]
      refine ⟨rfl, ?_, HT.out⟩
      have h := HS.out
      rw [List.set_set, List.set_set] at h
      exact h
    · have b2 : (kk == 2) = false := by simpa using h2
      have b3' : (kk == 3) = true := by have := HGO.out; simp; omega
      clear h2
      go_upto_region 3 with fail
      clear z1 y1
      refine Plan.wp_region_plan (fun w' => C82 w' b8 b3 g N cap d) (([0, 1, 2, 3, 5, 6].map (·, true)) ++ (([4].map (·, false)) ++ (([7, 8, 9].map (·, true)) ++ ([10].map (·, false))))) (by kernel_rfl) (by kernel_rfl) (by kernel_rfl) (HS.out.c82.below (Below.refl _ _).drew) ?_
      refine' Plan.plan_seg _ [0, 1, 2, 3, 5, 6] (([4].map (·, false)) ++ (([7, 8, 9].map (·, true)) ++ ([10].map (·, false)))) (by kernel_rfl) (by kernel_rfl) rfl (by exact HS.out.c82.below (Below.refl _ _).drew) (fun wx hS => ?_) ?_
      rotate_left
      · obtain ⟨y1, y2⟩ := hS
        go_light
        iterate 6 (apply Plan.seg_pick; rfl; intro K hK; go_wp)
        exact Plan.seg_nil
      obtain ⟨wd, hwd⟩ : ∃ y, y = World.drew w2 := ⟨_, rfl⟩
      rw [← hwd]
      have hb : Below (World.heap w2).size w2 wd := by rw [hwd]; exact (Below.refl _ _).drew
      replace HT := Lib.hid (HT.out.trans (Turn.of (g := g) (Nat.le_of_lt (HS.out.l.own.2.1)) hb))
      replace HS := Lib.hid (HS.out.below hb)
      have z : wd.cell? ⟨g, i * 22 + 16, none⟩ = some (.int .i64 x.off) := (HS.out.at' HX2.out).k16
      have zf := HS.out.l.frozen (i * 22 + 16)
      clear hb hwd
      refine Plan.plan_of_effect rfl (fun K hK => ?_)
      go_wp2_with fail
      refine ⟨HS.out.c82, ?_⟩
      refine' Plan.plan_seg (S := (fun w' => C82 w' b8 b3 g N cap d)) _ [7, 8, 9] ([10].map (·, false)) (by kernel_rfl) (by kernel_rfl) rfl (by exact HS.out.c82) (fun wx hS => ?_) ?_
      rotate_left
      · clear hS
        go_light
        iterate 3 (apply Plan.seg_pick; rfl; intro K hK; go_wp)
        exact Plan.seg_nil
      refine Plan.plan_of_effect rfl (fun K hK => ?_)
      go_wp2_with fail
      clear z zf
      replace HT := Lib.hid (HT.out.trans (Turn.cells g (i * 22 + 16) [.int .i64 (x.off + d)] wd))
      replace HS := Lib.hid (HS.out.cells (j := 16) (vs := [.int .i64 (x.off + d)]) (x' := { Trk.slipBy d x with len := x.len - d, off := x.off + d }) HX2.out (by simp) rfl)
      have hw : wd.setCells g (i * 22 + 16) [.int .i64 (x.off + d)] = wd.setCell ⟨g, i * 22 + 16, none⟩ (.int .i64 (x.off + d)) := rfl
      rw [hw] at HT HS
      obtain ⟨w3, hwn⟩ : ∃ y, y = wd.setCell ⟨g, i * 22 + 16, none⟩ (.int .i64 (x.off + d)) := ⟨_, rfl⟩
      rw [← hwn] at HT HS ⊢
      clear hw hwn
      refine ⟨HS.out.c82, ?_⟩
      refine Plan.plan_done ?_

      iterate 0 go_step
      refine bodyPost_end (results_none Tryz.results129 _ _ _) rfl ?_
      unfold ClosPost
      rw [HX.out, HLT.out]
      refine ⟨rfl, ?_, HT.out⟩
      have h := HS.out
      rw [List.set_set, List.set_set] at h
      exact h
  · have HSH := Lib.hid (show Trk.shares x.kind = false by unfold Trk.shares; simp; omega)
    have HLT := Lib.hid (show Trk.later d x = { Trk.slipBy d x with len := x.len - d } by unfold Trk.later Trk.shift Trk.withLen Trk.slipBy; rw [HSH.out]; rfl)
    obtain ⟨kk, hkk⟩ : ∃ kk, kk = x.kind := ⟨_, rfl⟩
    rw [← hkk] at z1 hsh
    have b2 : (kk == 2) = false := by simp; omega
    have b3' : (kk == 3) = false := by simp; omega
    clear hsh hkk
    go_wp2_with fail
    clear z1 y1
    refine bodyPost_end (results_none Tryz.results129 _ _ _) rfl ?_
    unfold ClosPost
    rw [HX.out, HLT.out]
    refine ⟨rfl, ?_, HT.out⟩
    have h := HS.out
    rw [List.set_set] at h
    exact h
end Go.Proofs.YtfoohocgdcgbcaaGreat

/- The contracts of missing, restoring, ContainsFunc, and total at any lengths. -/
namespace Go.Proofs.YtfoohocgdcgbcaaGreat
open Go.RowKit
set_option linter.unusedVariables false
set_option linter.unusedSimpArgs false
set_option maxRecDepth 100000 in
set_option maxHeartbeats 2000000 in
theorem restoring_any (t : Bool) (w : World) : Calls Tryz.prog 130 #[.bool t] w fun e w' => e = .returned (.int .i64 (if t = true then 2 else 1)) ∧ w' = w := by
  cases t
  · go_enter Tryz.func130, Tryz.ntmps130
    go_wp2_with fail
    go_ret
    exact ⟨rfl, rfl⟩
  · go_enter Tryz.func130, Tryz.ntmps130
    go_wp2_with fail
    go_ret
    exact ⟨rfl, rfl⟩
set_option maxRecDepth 100000 in
set_option maxHeartbeats 8000000 in
theorem missing_any (v : Value) (l : List Trk.Clip) (k p m : Int) (c : Nat) (d sn sd : Int) (u : Value) (w : World) (h : Tk w v l) (hl : l.length ≤ 64) (hc : c ≤ 1048576) (hu : u.oneCell' = true) :
    Calls Tryz.prog 125 #[v, edV k p m (c : Int) d sn sd u] w fun e w' => e = .returned (.bool (Trk.missingL l k c)) ∧ Below w.heap.size w w' := by
  obtain ⟨ao, cap, rfl, hc1, hc2, hT⟩ := h
  obtain ⟨r, hr⟩ : ∃ r, r = Trk.missingL l k c := ⟨_, rfl⟩
  unfold Trk.missingL at hr
  rw [← show r = Trk.missingL l k c from hr]
  obtain ⟨N, hN⟩ : ∃ N, N = l.length := ⟨_, rfl⟩
  rw [← hN] at hl hr ⊢
  have HR := Lib.hid hr
  unfold edV
  clear hT hc1 hc2 hN hr
  go_enter Tryz.func125, Tryz.ntmps125
  go_upto_region 1 with fail
  obtain ⟨w1, hw1⟩ : ∃ x, x = w.alloc (.cells (edC k p m (c : Int) d sn sd u) 40) := ⟨_, rfl⟩
  rw [← hw1]
  obtain ⟨g, hg⟩ : ∃ g, g = w.heap.size := ⟨_, rfl⟩
  have HE := Lib.hid (show ED w1 g k p m c d sn sd u by rw [hw1, hg]; exact ED.box w k p m c d sn sd u hu 40)
  have HB := Lib.hid (show Below w.heap.size w w1 by rw [hw1]; exact below_box _ _)
  rw [← hg]
  clear hw1 hg
  refine Plan.wp_region_plan (fun w' => w'.cell? ⟨g, 3, none⟩ = some (.int .i64 (c : Int))) ([0, 1, 2, 3, 4, 5].map (·, true)) (by kernel_rfl) (by kernel_rfl) (by kernel_rfl) (HE.out.below (Below.refl _ _).drew).k3 ?_
  refine' Plan.plan_seg _ [0, 1, 2, 3, 4, 5] [] (by kernel_rfl) (by kernel_rfl) rfl (by exact (HE.out.below (Below.refl _ _).drew).k3) (fun wx hS => ?_) ?_
  rotate_left
  · go_light
    iterate 6 (apply Plan.seg_pick; rfl; intro K hK; go_wp)
    exact Plan.seg_nil
  refine Plan.plan_done ?_
  obtain ⟨w2, hw2⟩ : ∃ x, x = w1.drew := ⟨_, rfl⟩
  rw [← hw2]
  have hb : Below w1.heap.size w1 w2 := by rw [hw2]; exact (Below.refl _ _).drew
  replace HE := Lib.hid (HE.out.below hb)
  replace HB := Lib.hid (HB.out.trans (hb.mono HB.out.size))
  clear hb hw2
  have e0 := HE.out.k0
  have e3 := HE.out.k3
  by_cases k7 : k = 7
  · have b7 : (k == 7) = true := by simpa using k7
    have b9 : (k == 9) = false := by simp; omega
    have d7 : decide (k = 7) = true := decide_eq_true k7
    have d9 : decide (k = 9) = false := decide_eq_false (by omega)
    clear k7
    by_cases h1 : N ≤ c
    · have h1' : (N : Int) ≤ (c : Int) := by omega
      have hr := HR.out
      rw [decide_eq_true h1, Bool.true_or, Bool.true_or] at hr
      have HR2 := Lib.hid hr
      clear hr d7 d9
      go_wp2_with fail
      go_ret
      exact ⟨by rw [HR2.out]; first | rfl | exact ret_bool (by simp; omega), HB.out⟩
    · have h1' : (c : Int) < (N : Int) := by omega
      have hr := HR.out
      rw [decide_eq_false h1, d7, d9, Bool.false_or, Bool.false_and, Bool.true_or, Bool.true_and, Bool.false_or] at hr
      by_cases h2 : N ≤ c + 1
      · have h2' : (N : Int) ≤ (c : Int) + 1 := by omega
        rw [decide_eq_true h2] at hr
        have HR2 := Lib.hid hr
        clear hr d7 d9 h1 h2
        go_wp2_with fail
        go_ret
        exact ⟨by rw [HR2.out]; first | rfl | exact ret_bool (by simp; omega), HB.out⟩
      · have h2' : (c : Int) + 1 < (N : Int) := by omega
        rw [decide_eq_false h2] at hr
        have HR2 := Lib.hid hr
        clear hr d7 d9 h1 h2
        go_wp2_with fail
        go_ret
        exact ⟨by rw [HR2.out]; first | rfl | exact ret_bool (by simp; omega), HB.out⟩
  · by_cases k9 : k = 9
    · have b7 : (k == 7) = false := by simp; omega
      have b9 : (k == 9) = true := by simpa using k9
      have d7 : decide (k = 7) = false := decide_eq_false k7
      have d9 : decide (k = 9) = true := decide_eq_true k9
      clear k7 k9
      by_cases h1 : N ≤ c
      · have h1' : (N : Int) ≤ (c : Int) := by omega
        have hr := HR.out
        rw [decide_eq_true h1, Bool.true_or, Bool.true_or] at hr
        have HR2 := Lib.hid hr
        clear hr d7 d9
        go_wp2_with fail
        go_ret
        exact ⟨by rw [HR2.out]; first | rfl | exact ret_bool (by simp; omega), HB.out⟩
      · have h1' : (c : Int) < (N : Int) := by omega
        have hr := HR.out
        rw [decide_eq_false h1, d7, d9, Bool.false_or, Bool.true_and, Bool.or_true, Bool.true_and] at hr
        by_cases h0 : c = 0
        · have h0' : (c : Int) - 1 < 0 := by omega
          rw [decide_eq_true h0, Bool.true_or] at hr
          have HR2 := Lib.hid hr
          clear hr d7 d9 h1 h0
          go_wp2_with fail
          go_ret
          exact ⟨by rw [HR2.out]; first | rfl | exact ret_bool (by simp; omega), HB.out⟩
        · have h0' : 0 ≤ (c : Int) - 1 := by omega
          rw [decide_eq_false h0, Bool.false_or] at hr
          by_cases h2 : N ≤ c + 1
          · have h2' : (N : Int) ≤ (c : Int) + 1 := by omega
            rw [decide_eq_true h2] at hr
            have HR2 := Lib.hid hr
            clear hr d7 d9 h1 h2 h0
            go_wp2_with fail
            go_ret
            exact ⟨by rw [HR2.out]; first | rfl | exact ret_bool (by simp; omega), HB.out⟩
          · have h2' : (c : Int) + 1 < (N : Int) := by omega
            rw [decide_eq_false h2] at hr
            have HR2 := Lib.hid hr
            clear hr d7 d9 h1 h2 h0
            go_wp2_with fail
            go_ret
            exact ⟨by rw [HR2.out]; first | rfl | exact ret_bool (by simp; omega), HB.out⟩
    · have b7 : (k == 7) = false := by simpa using k7
      have b9 : (k == 9) = false := by simpa using k9
      have d7 : decide (k = 7) = false := decide_eq_false k7
      have d9 : decide (k = 9) = false := decide_eq_false k9
      clear k7 k9
      have hr := HR.out
      rw [d7, d9, Bool.false_and, Bool.or_false, Bool.false_or, Bool.false_and, Bool.or_false] at hr
      clear d7 d9
      by_cases h1 : N ≤ c
      · have h1' : (N : Int) ≤ (c : Int) := by omega
        rw [decide_eq_true h1] at hr
        have HR2 := Lib.hid hr
        clear hr h1
        go_wp2_with fail
        go_ret
        exact ⟨by rw [HR2.out]; first | rfl | exact ret_bool (by simp; omega), HB.out⟩
      · have h1' : (c : Int) < (N : Int) := by omega
        rw [decide_eq_false h1] at hr
        have HR2 := Lib.hid hr
        clear hr h1
        go_wp2_with fail
        go_ret
        exact ⟨by rw [HR2.out]; first | rfl | exact ret_bool (by simp; omega), HB.out⟩
end Go.Proofs.YtfoohocgdcgbcaaGreat

/- total at any lengths; ContainsFunc with the test whether a clip is not valid. -/
namespace Go.Proofs.YtfoohocgdcgbcaaGreat
open Go.RowKit
set_option linter.unusedVariables false
set_option linter.unusedSimpArgs false
set_option maxRecDepth 100000 in
set_option maxHeartbeats 8000000 in
theorem etotal_wild (v : Value) (l : List Trk.Clip) (w : World) (h : Tk w v l) (hP : ∀ k, k ≤ l.length → -4611686018427387904 ≤ Trk.total (l.take k) ∧ Trk.total (l.take k) ≤ 4611686018427387904) (hl : l.length ≤ 1048576) :
    Calls Tryz.prog 122 #[v] w fun e w' => e = .returned (.int .i64 (Trk.total l)) ∧ Below w.heap.size w w' := by
  obtain ⟨ao, cap, rfl, hc1, hc2, hT⟩ := h
  have HT := Lib.hid (show Tk w (.slice ao l.length cap) l from ⟨ao, cap, rfl, hc1, hc2, hT⟩)
  clear hT
  have HP := Lib.hid hP
  obtain ⟨L, hL⟩ : ∃ L, L = l.length := ⟨_, rfl⟩
  rw [← hL] at hl hc1
  have HLe := Lib.hid hL
  rw [← hL]
  clear hP hL hc2
  go_enter Tryz.func122, Tryz.ntmps122
  go_wp2_with fail
  go_loopw [3, 8] (fun v3 v8 wr => ∃ k : Nat, k ≤ L ∧ v8 = .int .i64 (k : Int) ∧ v3 = .int .i64 (Trk.total (l.take k)) ∧ Below w.heap.size w wr) (fun _ i _ => L - (intOf i).toNat)
  case atStart => exact ⟨0, Nat.zero_le _, rfl, rfl, Below.refl _ _⟩
  case round =>
    obtain ⟨k, hk, rfl, rfl, hb⟩ := hrel
    by_cases hlt : k < L
    · have hlt' : (k : Int) < (L : Int) := by omega
      have hkl : k < l.length := by rw [← HLe.out]; exact hlt
      obtain ⟨c, hc⟩ : ∃ c, l[k]? = some c := ⟨_, List.getElem?_eq_getElem hkl⟩
      obtain ⟨ao', cap', e, _, _, hT⟩ := HT.out.below hb
      simp only [Value.slice.injEq, true_and] at e
      obtain ⟨rfl, rfl⟩ := e
      obtain ⟨b, o, rfl, hA⟩ := hT k c hc
      clear hT
      have hn : Trk.total (l.take (k + 1)) = Trk.total (l.take k) + c.len := by
        rw [List.take_add_one, hc]
        show Trk.total (l.take k ++ [c]) = _
        rw [Trk.total_append]
        show _ + (c.len + 0) = _
        omega
      have h1 := HP.out (k + 1) hkl
      have h2 := HP.out k (Nat.le_of_lt hkl)
      obtain ⟨s, hs⟩ : ∃ s, s = Trk.total (l.take k) := ⟨_, rfl⟩
      rw [← hs] at hn h2 ⊢
      rw [hn] at h1
      obtain ⟨h6, h7⟩ := h1
      obtain ⟨h8, h9⟩ := h2
      have HN := Lib.hid hn
      have HA := Lib.hid hA
      have HB := Lib.hid hb
      have HC := Lib.hid hc
      clear hA hb hc hkl hn hs
      go_upto_region 4 with fail
      apply wp_region_lit
      iterate 3 go_step
      refine wpl_load HA.out rfl rfl rfl ?_
      refine wpl_alloc rfl rfl (fun w2 hg hb2 hs2 => ?_)
      obtain ⟨g, hgg⟩ : ∃ g, g = wr.heap.size := ⟨_, rfl⟩
      rw [← hgg] at hg ⊢
      have hgn : w.heap.size ≤ g := by rw [hgg]; exact HB.out.size
      have HB2 := Lib.hid (HB.out.trans (hb2.mono HB.out.size))
      clear hb2 hs2 hgg HA
      refine wpl_store c hg rfl rfl rfl rfl ?_
      intro w3 hv ho3 hb3
      have HB3 := Lib.hid (hb3 _ _ hgn HB2.out)
      have x0 := hv.c.at0.1
      clear hv ho3 hb3 hg HB2
      simp only [Act.put, List.setIfInBounds_toArray, List.set_cons_succ, List.set_cons_zero]
      obtain ⟨C, hC⟩ : ∃ C, C = (clipC c).toArray := ⟨_, rfl⟩
      rw [← hC]
      clear hC
      go_wp2_with fail
      go_roundw
      case rel => exact ⟨k + 1, by omega, by simp, by rw [HN.out], HB3.out⟩
      case measure =>
        show L - (intOf (.int .i64 ((k : Int) + 1))).toNat < L - (intOf (.int .i64 (k : Int))).toNat
        simp [intOf]
        omega
    · have hkl : k = L := by omega
      have e : l.take k = l := List.take_of_length_le (by rw [← HLe.out]; omega)
      rw [e]
      have HB := Lib.hid hb
      clear hb e
      subst hkl
      go_wp2_with fail
      go_ret
      exact ⟨rfl, HB.out⟩

/-- A clip of which the numbers are bounded, but perhaps not valid. -/
structure Wild (L : Int) (c : Trk.Clip) : Prop where
  cls : Trk.Cls L c
  l0 : -1099511627776 ≤ c.len
  l1 : c.len ≤ 1099511627776
  o0 : -1099511627776 ≤ c.off
  o1 : c.off ≤ 1099511627776
  t0 : -1099511627776 ≤ c.total
  t1 : c.total ≤ 1099511627776
set_option maxRecDepth 100000 in
set_option maxHeartbeats 8000000 in
theorem bad_any {L : Int} (c : Trk.Clip) (w : World) (h : Wild L c) (hL : L ≤ 140737488355328) : Calls Tryz.prog 132 #[clipV c] w fun e w' => e = .returned (.bool (!decide (Trk.okLen c))) ∧ Below w.heap.size w w' := by
  have HV := Lib.hid (fun w => vclip_any c w h.cls hL h.l0 h.l1 h.o0 h.o1 h.t0 h.t1)
  obtain ⟨r, hr⟩ : ∃ r, r = decide (Trk.okLen c) := ⟨_, rfl⟩
  rw [← hr] at HV ⊢
  unfold clipV at HV ⊢
  obtain ⟨C, hC⟩ : ∃ C, C = (clipC c).toArray := ⟨_, rfl⟩
  rw [← hC] at HV ⊢
  have HC := Lib.hid hC
  clear hC hr h
  go_enter Tryz.func132, Tryz.ntmps132
  go_upto_region 1 with fail
  have hv : CV (w.alloc (.cells C 48)) w.heap.size c := by rw [HC.out]; exact CV.box w c 48
  have hb : Below w.heap.size w (w.alloc (.cells C 48)) := below_box _ _
  obtain ⟨w1, hw1⟩ : ∃ x, x = w.alloc (.cells C 48) := ⟨_, rfl⟩
  rw [← hw1] at hv hb ⊢
  have HX := Lib.hid hv
  have HB := Lib.hid hb
  obtain ⟨g, hg⟩ : ∃ g, g = w.heap.size := ⟨_, rfl⟩
  rw [← hg] at HX ⊢
  clear hw1 hv hb hg
  apply wp_region_lit
  refine wpl_load HX.out.c rfl rfl rfl ?_
  rw [← HC.out]
  simp only [Act.put, List.setIfInBounds_toArray, List.set_cons_succ, List.set_cons_zero]
  go_wp2_with fail
  refine (HV.out _).mono ?_
  rintro e w2 ⟨rfl, hb⟩
  have HB2 := Lib.hid (HB.out.trans (hb.mono HB.out.size))
  clear hb
  go_wp2_with fail
  go_ret
  exact ⟨rfl, HB2.out⟩
set_option maxRecDepth 100000 in
set_option maxHeartbeats 8000000 in
theorem index_any {L : Int} (v : Value) (l : List Trk.Clip) (w : World) (h : Tk w v l) (hW : ∀ c ∈ l, Wild L c) (hL : L ≤ 140737488355328) (hl : l.length ≤ 64) :
    Calls Tryz.prog 157 #[v, .func (.func 132) #[] #[]] w fun e w' => (∃ r : Int, e = .returned (.int .i64 r) ∧ ((r = -1 ∧ ∀ c ∈ l, Trk.okLen c) ∨ (0 ≤ r ∧ ¬ ∀ c ∈ l, Trk.okLen c))) ∧ Below w.heap.size w w' := by
  obtain ⟨ao, cap, rfl, hc1, hc2, hT⟩ := h
  have HT := Lib.hid (show Tk w (.slice ao l.length cap) l from ⟨ao, cap, rfl, hc1, hc2, hT⟩)
  have HW := Lib.hid hW
  obtain ⟨N, hN⟩ : ∃ N, N = l.length := ⟨_, rfl⟩
  rw [← hN] at hl hc1 HT ⊢
  have HLe := Lib.hid hN
  clear hT hN hc2 hW
  go_enter Tryz.func157, Tryz.ntmps157
  go_wp2_with fail
  go_loopw [8] (fun v8 wr => ∃ k : Nat, k ≤ N ∧ v8 = .int .i64 (k : Int) ∧ Hid (∀ c ∈ l.take k, Trk.okLen c) ∧ Below w.heap.size w wr) (fun i _ => N - (intOf i).toNat)
  case atStart => exact ⟨0, Nat.zero_le _, rfl, Lib.hid (fun c hc => by simp at hc), Below.refl _ _⟩
  case round =>
    obtain ⟨k, hk, rfl, HK, hb⟩ := hrel
    by_cases hlt : k < N
    · have hlt' : (k : Int) < (N : Int) := by omega
      have hkc : (k : Int) < (cap : Int) := by omega
      have hkl : k < l.length := by rw [← HLe.out]; exact hlt
      obtain ⟨c, hc⟩ : ∃ c, l[k]? = some c := ⟨_, List.getElem?_eq_getElem hkl⟩
      obtain ⟨ao', cap', e, _, _, hT⟩ := HT.out.below hb
      simp only [Value.slice.injEq] at e
      obtain ⟨rfl, eN, rfl⟩ := e
      clear eN
      obtain ⟨b, o, rfl, hA⟩ := hT k c hc
      clear hT
      have HA := Lib.hid hA
      have HB := Lib.hid hb
      have HC := Lib.hid hc
      have HBA := Lib.hid (fun w => bad_any c w (HW.out c (List.mem_of_getElem? hc)) hL)
      obtain ⟨r, hr⟩ : ∃ r, r = decide (Trk.okLen c) := ⟨_, rfl⟩
      rw [← hr] at HBA
      have HR := Lib.hid hr
      clear hA hb hc hkl hr
      go_upto_region 4 with fail
      apply wp_region_lit
      iterate 12 go_step
      refine wpl_load HA.out rfl rfl rfl ?_
      simp only [Act.put, List.setIfInBounds_toArray, List.set_cons_succ, List.set_cons_zero]
      unfold clipV at HBA
      obtain ⟨C, hC⟩ : ∃ C, C = (clipC c).toArray := ⟨_, rfl⟩
      rw [← hC] at HBA ⊢
      clear hC HA
      go_wp2_with fail
      refine (HBA.out _).mono ?_
      rintro e w2 ⟨rfl, hb⟩
      have HB2 := Lib.hid (HB.out.trans (hb.mono HB.out.size))
      clear hb HB
      cases r
      · go_wp2_with fail
        go_ret
        exact ⟨⟨(k : Int), rfl, .inr ⟨by omega, fun h => by have := h c (List.mem_of_getElem? HC.out); have h2 := HR.out; rw [decide_eq_true this] at h2; cases h2⟩⟩, HB2.out⟩
      · have HK2 := Lib.hid (show ∀ c ∈ l.take (k + 1), Trk.okLen c from fun x hx => by
          rw [List.take_add_one, HC.out] at hx
          rcases List.mem_append.1 hx with hx | hx
          · exact HK.out x hx
          · simp at hx
            subst hx
            exact of_decide_eq_true HR.out.symm)
        go_wp2_with fail
        go_roundw
        case rel => exact ⟨k + 1, by omega, by simp, HK2, HB2.out⟩
        case measure =>
          show N - (intOf (.int .i64 ((k : Int) + 1))).toNat < N - (intOf (.int .i64 (k : Int))).toNat
          simp [intOf]
          omega
    · have hkl : k = N := by omega
      have e : l.take k = l := List.take_of_length_le (by rw [← HLe.out]; omega)
      rw [e] at HK
      have HB := Lib.hid hb
      clear hb e
      subst hkl
      go_wp2_with fail
      go_ret
      exact ⟨⟨-1, rfl, .inl ⟨rfl, HK.out⟩⟩, HB.out⟩
set_option maxRecDepth 100000 in
set_option maxHeartbeats 8000000 in
theorem contains_any {L : Int} (v : Value) (l : List Trk.Clip) (w : World) (h : Tk w v l) (hW : ∀ c ∈ l, Wild L c) (hL : L ≤ 140737488355328) (hl : l.length ≤ 64) :
    Calls Tryz.prog 131 #[v, .func (.func 132) #[] #[]] w fun e w' => e = .returned (.bool (decide (¬ ∀ c ∈ l, Trk.okLen c))) ∧ Below w.heap.size w w' := by
  have HI := Lib.hid (index_any v l w h hW hL hl)
  obtain ⟨r, hr⟩ : ∃ r, r = decide (¬ ∀ c ∈ l, Trk.okLen c) := ⟨_, rfl⟩
  rw [← hr]
  have HR := Lib.hid hr
  clear h hW hr
  go_enter Tryz.func131, Tryz.ntmps131
  go_wp2_with fail
  refine HI.out.mono ?_
  rintro e w2 ⟨⟨j, rfl, hj⟩, hb⟩
  have HB := Lib.hid hb
  clear hb
  rcases hj with ⟨rfl, hj⟩ | ⟨hj0, hj⟩
  · have HE := Lib.hid (show r = false by rw [HR.out]; exact decide_eq_false (fun h => h hj))
    clear hj
    go_wp2_with fail
    go_ret
    exact ⟨by rw [HE.out]; rfl, HB.out⟩
  · have HE := Lib.hid (show r = true by rw [HR.out]; exact decide_eq_true hj)
    clear hj
    go_wp2_with fail
    go_ret
    exact ⟨by rw [HE.out]; first | rfl | exact ret_bool (by simp; omega), HB.out⟩
end Go.Proofs.YtfoohocgdcgbcaaGreat

/- An edit that names a clip: what is known of the frames, and bounds. -/
namespace Go.Trk
set_option linter.unusedVariables false
theorem total_split (P Q : List Clip) (x : Clip) : total (P ++ x :: Q) = total P + x.len + total Q := by rw [total_append, total_cons]; omega
theorem good_mid {P Q : List Clip} {x : Clip} (h : GoodL (P ++ x :: Q)) : GoodL P ∧ GoodC x ∧ GoodL Q :=
  ⟨fun y hy => h y (List.mem_append_left _ hy), h x (by simp), fun y hy => h y (by simp [hy])⟩
theorem upd_next (P Q : List Clip) (x y : Clip) (f g : Clip → Clip) : upd (upd (P ++ x :: y :: Q) P.length f) (P.length + 1) g = P ++ [f x, g y] ++ Q := by
  rw [upd_at]
  have h := upd_at (P ++ [f x]) Q y g
  simp only [List.length_append, List.length_cons, List.length_nil, Nat.zero_add, List.append_assoc, List.singleton_append] at h
  rw [h]
  simp
theorem upd_two (P Q : List Clip) (q x y : Clip) (f g : Clip → Clip) : upd (upd (P ++ q :: x :: y :: Q) P.length f) (P.length + 2) g = P ++ [f q, x, g y] ++ Q := by
  rw [upd_at]
  have h := upd_at (P ++ [f q, x]) Q y g
  simp only [List.length_append, List.length_cons, List.length_nil, Nat.zero_add, List.append_assoc, List.cons_append, List.nil_append, Nat.reduceAdd] at h
  rw [h]
  simp
theorem split_two {l : List Clip} {i : Nat} {x y : Clip} (hx : l[i]? = some x) (hy : l[i + 1]? = some y) : ∃ P Q, l = P ++ x :: y :: Q ∧ P.length = i := by
  obtain ⟨P, R, rfl, hP⟩ := split_at hx
  subst hP
  rw [List.getElem?_append_right (by omega), show P.length + 1 - P.length = 1 by omega] at hy
  simp only [List.getElem?_cons_succ] at hy
  cases R with
  | nil => simp at hy
  | cons z R =>
    simp only [List.getElem?_cons_zero, Option.some.injEq] at hy
    subst hy
    exact ⟨P, R, rfl, rfl⟩
theorem split_three {l : List Clip} {i : Nat} {q x y : Clip} (hq : l[i]? = some q) (hx : l[i + 1]? = some x) (hy : l[i + 2]? = some y) : ∃ P Q, l = P ++ q :: x :: y :: Q ∧ P.length = i := by
  obtain ⟨P, R, rfl, hP⟩ := split_two hq hx
  subst hP
  rw [List.getElem?_append_right (by omega), show P.length + 2 - P.length = 2 by omega] at hy
  simp only [List.getElem?_cons_succ] at hy
  cases R with
  | nil => simp at hy
  | cons z R =>
    simp only [List.getElem?_cons_zero, Option.some.injEq] at hy
    subst hy
    exact ⟨P, R, rfl, rfl⟩
theorem slip_good {x : Clip} (h : GoodC x) (d : Int) : True := trivial
theorem adj_undo {n : List Clip} {k : Int} {c : Nat} {d sn sd : Int} (hn : GoodL n) (hk : 5 ≤ k ∧ k ≤ 10) (hc : c < n.length) (h9 : k = 9 → 0 < c) (h7 : k = 7 ∨ k = 9 → c + 1 < n.length) (hd : k ≤ 9 → d ≠ 0) (hg : GoodL (adjL n k c d sn sd)) :
    UndoOf n (adjL n k c d sn sd) (fromL n k c d) (toL n k c d) (undK k d) ∧ (undK k d ≠ 2 → toL n k c d ≤ total n) := by
  have hk6 : k = 5 ∨ k = 6 ∨ k = 7 ∨ k = 8 ∨ k = 9 ∨ k = 10 := by omega
  obtain ⟨x, hx⟩ : ∃ x, n[c]? = some x := ⟨_, List.getElem?_eq_getElem hc⟩
  rcases hk6 with rfl | rfl | rfl | rfl | rfl | rfl
  · have hd' := hd (by decide)
    obtain ⟨P, Q, rfl, rfl⟩ := split_at hx
    obtain ⟨gP, gx, gQ⟩ := good_mid hn
    have e : adjL (P ++ x :: Q) 5 P.length d sn sd = P ++ lenBy d x :: Q := by simp only [adjL]; rw [if_pos trivial, upd_at]
    rw [e] at hg ⊢
    have gx' := (good_mid hg).2.1
    have tQ := total_nonneg gQ
    have ef : fromL (P ++ x :: Q) 5 P.length d = min (total P + x.len) (total P + x.len + d) := by simp only [fromL, end_of]; simp
    have et : toL (P ++ x :: Q) 5 P.length d = max (total P + x.len) (total P + x.len + d) := by simp only [toL, end_of]; simp
    rw [ef, et, total_split]
    refine ⟨undo5 gP gx gx' hd', fun h => ?_⟩
    have : ¬ 0 < d := fun h2 => h (by simp [undK, h2])
    omega
  · have hd' := hd (by decide)
    obtain ⟨P, Q, rfl, rfl⟩ := split_at hx
    obtain ⟨gP, gx, gQ⟩ := good_mid hn
    have e : adjL (P ++ x :: Q) 6 P.length d sn sd = P ++ later d x :: Q := by simp only [adjL]; rw [if_neg (by decide), if_pos trivial, upd_at]
    rw [e] at hg ⊢
    have gx' := (good_mid hg).2.1
    have tQ := total_nonneg gQ
    have l1 := gx'.l
    rw [later_len] at l1
    have ef : fromL (P ++ x :: Q) 6 P.length d = total P := by simp only [fromL, beg_of]; simp
    have et : toL (P ++ x :: Q) 6 P.length d = total P + max d (-d) := by simp only [toL, beg_of]; simp
    rw [ef, et, total_split]
    refine ⟨undo6 gP gx gx' hd', fun h => ?_⟩
    have : ¬ d < 0 := fun h2 => h (by simp [undK, h2])
    omega
  · have hd' := hd (by decide)
    obtain ⟨y, hy⟩ : ∃ y, n[c + 1]? = some y := ⟨_, List.getElem?_eq_getElem (h7 (.inl rfl))⟩
    obtain ⟨P, Q, rfl, rfl⟩ := split_two hx hy
    obtain ⟨gP, gx, gyQ⟩ := good_mid hn
    have gy := gyQ.head
    have gQ := gyQ.tail
    have e : adjL (P ++ x :: y :: Q) 7 P.length d sn sd = P ++ [lenBy d x, later d y] ++ Q := by simp only [adjL]; rw [if_neg (by decide), if_neg (by decide), if_pos trivial, upd_next]
    rw [e] at hg ⊢
    have gx' : GoodC (lenBy d x) := hg _ (by simp)
    have gy' : GoodC (later d y) := hg _ (by simp)
    have tQ := total_nonneg gQ
    have l1 := gy'.l
    rw [later_len] at l1
    have ly := gy.l
    have ef : fromL (P ++ x :: y :: Q) 7 P.length d = min (total P + x.len) (total P + x.len + d) := by simp only [fromL, end_of]; simp
    have et : toL (P ++ x :: y :: Q) 7 P.length d = max (total P + x.len) (total P + x.len + d) := by simp only [toL, end_of]; simp
    rw [ef, et, total_split, total_cons]
    have e2 : P ++ x :: y :: Q = P ++ [x, y] ++ Q := by simp
    rw [e2]
    exact ⟨undo7 gP gx gy gx' gy' hd', fun h => by omega⟩
  · obtain ⟨P, Q, rfl, rfl⟩ := split_at hx
    obtain ⟨gP, gx, gQ⟩ := good_mid hn
    have e : adjL (P ++ x :: Q) 8 P.length d sn sd = P ++ slipBy d x :: Q := by simp only [adjL]; rw [if_neg (by decide), if_neg (by decide), if_neg (by decide), if_pos trivial, upd_at]
    rw [e] at hg ⊢
    have gx' := (good_mid hg).2.1
    have tQ := total_nonneg gQ
    have ef : fromL (P ++ x :: Q) 8 P.length d = total P := by simp only [fromL, beg_of]; simp
    have et : toL (P ++ x :: Q) 8 P.length d = total P + x.len := by simp only [toL, end_of]; simp
    rw [ef, et, total_split]
    exact ⟨undo8 gP gx gx' rfl, fun h => by omega⟩
  · have hd' := hd (by decide)
    have hc0 := h9 rfl
    obtain ⟨c, rfl⟩ : ∃ j, c = j + 1 := ⟨c - 1, by omega⟩
    obtain ⟨y, hy⟩ : ∃ y, n[c + 1 + 1]? = some y := ⟨_, List.getElem?_eq_getElem (h7 (.inr rfl))⟩
    obtain ⟨q, hq⟩ : ∃ q, n[c]? = some q := ⟨_, List.getElem?_eq_getElem (by omega)⟩
    obtain ⟨P, Q, rfl, rfl⟩ := split_three hq hx hy
    obtain ⟨gP, gq, gR⟩ := good_mid hn
    have gx := gR.head
    have gy := gR.tail.head
    have gQ := gR.tail.tail
    have e : adjL (P ++ q :: x :: y :: Q) 9 (P.length + 1) d sn sd = P ++ [lenBy d q, x, later d y] ++ Q := by
      simp only [adjL]
      rw [if_neg (by decide), if_neg (by decide), if_neg (by decide), if_neg (by decide), if_pos trivial, Nat.add_sub_cancel, upd_two]
    rw [e] at hg ⊢
    have gq' : GoodC (lenBy d q) := hg _ (by simp)
    have gy' : GoodC (later d y) := hg _ (by simp)
    have tQ := total_nonneg gQ
    have l1 := gy'.l
    rw [later_len] at l1
    have ly := gy.l
    have eb : begL (P ++ q :: x :: y :: Q) (P.length + 1) = total P + q.len := end_of P _ q
    have ee : endL (P ++ q :: x :: y :: Q) (P.length + 1) = total P + q.len + x.len := by
      have h := end_of (P ++ [q]) (y :: Q) x
      simp only [List.length_append, List.length_cons, List.length_nil, Nat.zero_add, List.append_assoc, List.singleton_append] at h
      rw [h, total_append, total_one]
    have ef : fromL (P ++ q :: x :: y :: Q) 9 (P.length + 1) d = min (total P + q.len) (total P + q.len + d) := by simp only [fromL, eb]; simp
    have et : toL (P ++ q :: x :: y :: Q) 9 (P.length + 1) d = max (total P + q.len + x.len) (total P + q.len + x.len + d) := by simp only [toL, ee]; simp
    rw [ef, et, total_split, total_cons, total_cons]
    have e2 : P ++ q :: x :: y :: Q = P ++ [q, x, y] ++ Q := by simp
    rw [e2]
    exact ⟨(undo9 gP gq gx gy gq' gy' hd').1, fun h => by omega⟩
  · obtain ⟨P, Q, rfl, rfl⟩ := split_at hx
    obtain ⟨gP, gx, gQ⟩ := good_mid hn
    have e : adjL (P ++ x :: Q) 10 P.length d sn sd = P ++ speedy sn sd x :: Q := by
      simp only [adjL]
      rw [if_neg (by decide), if_neg (by decide), if_neg (by decide), if_neg (by decide), if_neg (by decide), upd_at]
    rw [e] at hg ⊢
    have gx' := (good_mid hg).2.1
    have tQ := total_nonneg gQ
    have ef : fromL (P ++ x :: Q) 10 P.length d = total P := by simp only [fromL, beg_of]; simp
    have et : toL (P ++ x :: Q) 10 P.length d = total P + x.len := by simp only [toL, end_of]; simp
    rw [ef, et, total_split]
    exact ⟨undo8 gP gx gx' rfl, fun h => by omega⟩
/-- Numbers of a clip are bounded. -/
def Bd (M : Int) (c : Clip) : Prop := -M ≤ c.len ∧ c.len ≤ M ∧ -M ≤ c.off ∧ c.off ≤ M ∧ -M ≤ c.total ∧ c.total ≤ M
theorem Bd.mono {M K : Int} {c : Clip} (h : Bd M c) (hk : M ≤ K) : Bd K c := by
  obtain ⟨a, b, c, d, e, f⟩ := h
  exact ⟨by omega, by omega, by omega, by omega, by omega, by omega⟩
theorem bd_upd {M K : Int} {l : List Clip} (h : ∀ c ∈ l, Bd M c) (hk : M ≤ K) {f : Clip → Clip} (hf : ∀ c, Bd M c → Bd K (f c)) (i : Nat) : ∀ c ∈ upd l i f, Bd K c := fun y hy => by
  rcases mem_upd hy with hy | ⟨x, hx, rfl⟩
  · exact (h y hy).mono hk
  · exact hf x (h x hx)
theorem bd_lenBy {M d D : Int} (h0 : -D ≤ d) (h1 : d ≤ D) (c : Clip) (h : Bd M c) : Bd (M + D) (lenBy d c) := by
  obtain ⟨a1, a2, a3, a4, a5, a6⟩ := h
  exact ⟨by show _ ≤ c.len + d; omega, by show c.len + d ≤ _; omega, by show _ ≤ c.off; omega, by show c.off ≤ _; omega, by show _ ≤ c.total; omega, by show c.total ≤ _; omega⟩
theorem bd_later {M d D : Int} (h0 : -D ≤ d) (h1 : d ≤ D) (c : Clip) (h : Bd M c) : Bd (M + D) (later d c) := by
  obtain ⟨a1, a2, a3, a4, a5, a6⟩ := h
  have e : (later d c).off = if shares c.kind = true then c.off + d else c.off := rfl
  refine ⟨by show _ ≤ c.len - d; omega, by show c.len - d ≤ _; omega, ?_, ?_, by show _ ≤ c.total; omega, by show c.total ≤ _; omega⟩
  · rw [e]; split <;> omega
  · rw [e]; split <;> omega
theorem adj_bd {M D : Int} {n : List Clip} {k : Int} {c : Nat} {d sn sd : Int} (h : ∀ x ∈ n, Bd M x) (h0 : -D ≤ d) (h1 : d ≤ D) : ∀ y ∈ adjL n k c d sn sd, Bd (M + D + D) y := by
  have hD : 0 ≤ D := by omega
  have A := fun i => bd_upd h (show M ≤ M + D by omega) (bd_lenBy h0 h1) i
  have B := fun i j => bd_upd (A i) (show M + D ≤ M + D + D by omega) (bd_later h0 h1) j
  unfold adjL
  split
  · exact fun y hy => (A c y hy).mono (by omega)
  split
  · exact fun y hy => (bd_upd h (show M ≤ M + D by omega) (bd_later h0 h1) c y hy).mono (by omega)
  split
  · exact B _ _
  split
  · exact bd_upd h (by omega) (fun x hx => by
      obtain ⟨a1, a2, a3, a4, a5, a6⟩ := hx.mono (show M ≤ M + D + D by omega)
      exact ⟨a1, a2, a3, a4, a5, a6⟩) c
  split
  · exact B _ _
  · exact bd_upd h (by omega) (fun x hx => by
      obtain ⟨a1, a2, a3, a4, a5, a6⟩ := hx.mono (show M ≤ M + D + D by omega)
      exact ⟨a1, a2, a3, a4, a5, a6⟩) c
theorem total_bd {M : Int} (hM : 0 ≤ M) : ∀ {l : List Clip}, (∀ c ∈ l, Bd M c) → -(M * l.length) ≤ total l ∧ total l ≤ M * l.length
  | [], _ => ⟨by show -(M * 0) ≤ 0; omega, by show (0 : Int) ≤ M * 0; omega⟩
  | c :: l, h => by
    have ih := total_bd hM (l := l) fun x hx => h x (List.mem_cons_of_mem _ hx)
    have hc := h c List.mem_cons_self
    rw [total_cons, List.length_cons]
    have e : M * ((l.length + 1 : Nat) : Int) = M * l.length + M := by rw [Int.natCast_add, Int.mul_add]; simp
    rw [e]
    obtain ⟨a1, a2, _⟩ := hc
    omega
end Go.Trk
