/- Texts of this claim joined: PlanC YP PlanE PlanF RA RC. -/
import Derived.Great.BuildSlice
import Derived.ProofKit
import Derived.OpenShut
import Derived.Carry
import Derived.ChangeSlices
import Derived.ChangeSame
import Derived.Deep.Slices
import Derived.Test.YtkhjkemllgjfmaaBk00
import Derived.Test.YtkhjkemllgjfmaaBk04
set_option linter.unusedVariables false
set_option linter.unusedSimpArgs false

/- The law for operations that come up in any order, once more: an operation may go on in the blocks of the one it uses up. -/
namespace Go.Plan
open Go
section
variable {P : Program} {ops : Array Oper} {Q : Exit → Act → World → Prop} {S : World → Prop} {z : Nat} {C : Act → World → Prop}

/-- Of the blocks of w only those of R may have changed. -/
structure Touch (R : Nat → Prop) (w w' : World) : Prop where
  os : w'.os = w.os
  tape : w'.tape = w.tape
  output : w'.output = w.output
  size : w.heap.size ≤ w'.heap.size
  block : ∀ k, k < w.heap.size → ¬ R k → w'.heap[k]? = w.heap[k]?
theorem Touch.below {R : Nat → Prop} {B : Nat} {w w' : World} (h : Touch R w w') (hR : ∀ b, R b → B ≤ b) (hB : B ≤ w.heap.size) : RowKit.Below B w w' :=
  ⟨h.os, h.tape, h.output, h.size, fun k hk => h.block k (by omega) (fun hr => by have := hR k hr; omega)⟩

/-- What operation i may go on in. -/
def terr (pred : Nat → List Nat) (R : Nat → Nat → Prop) (i : Nat) : Nat → Prop := fun b => ∃ k, k ∈ pred i ∧ R k b
def grown (X : Nat → Prop) (w w' : World) : Nat → Prop := fun b => X b ∨ (w.heap.size ≤ b ∧ b < w'.heap.size)

/-- Who uses up whom: each is used up once, by one that looks at it. -/
def predOK (ops : Array Oper) (pred : Nat → List Nat) (T : List Nat) : Bool :=
  T.all fun i => (pred i).all fun k => T.contains k && (match ops[i]?, dstOf ops k with | some o, some e => (o.looksAt ops).contains e | _, _ => false) && T.all fun j => j == i || !(pred j).contains k

structure OwnInv (ops : Array Oper) (S : World → Prop) (G : Nat → (Nat → Prop) → Value → World → Prop) (pred : Nat → List Nat) (listed0 : Array Bool) (T : List Nat) (a0 : Act) (w0 : World)
    (D : List Nat) (vs : Nat → Value) (R : Nat → Nat → Prop) (listed : Array Bool) (a : Act) (w : World) : Prop where
  sub : ∀ x ∈ D, x ∈ T
  nodup : D.Nodup
  size : listed.size = ops.size
  marks : ∀ j, j < ops.size → listed.getD j false = (listed0.getD j false || D.contains j)
  closed : ∀ (j : Nat) (o : Oper), ops[j]? = some o → listed.getD j false = true → ∀ e ∈ o.after, Region.binds .any e = true → listed.getD e.on false = true
  defers : a.defers = a0.defers
  tmps : a.tmps.size = a0.tmps.size
  slots : ∀ k, a.tmps[k]? = slotBy ops vs D a0 k
  held : ∀ k ∈ D, (∀ j ∈ D, k ∉ pred j) → G k (R k) (vs k) w
  ter : ∀ k ∈ D, ∀ b, R k b → w0.heap.size ≤ b ∧ b < w.heap.size
  apart : ∀ i ∈ D, ∀ k ∈ D, i ≠ k → (∀ j ∈ D, i ∉ pred j) → (∀ j ∈ D, k ∉ pred j) → ∀ b, R i b → ¬ R k b
  ext : Ext w0 w
  S : S w

theorem own_phase {G : Nat → (Nat → Prop) → Value → World → Prop} {pred : Nat → List Nat} {listed0 : Array Bool} {n : Nat} {T : List Nat} (F : FreshFacts ops listed0 n T) (hP : ∀ c a w, ¬ Q (.panic c) a w) {a0 : Act} (hn : a0.tmps.size = n) {w0 : World}
    (hpr : predOK ops pred T = true)
    (hSm : ∀ w w', S w → RowKit.Below w0.heap.size w w' → S w') (hGm : ∀ i R X v w w', G i R v w → Touch X w w' → (∀ b, R b → ¬ X b ∧ b < w.heap.size) → (∀ b, X b → w0.heap.size ≤ b) → w0.heap.size ≤ w.heap.size → G i R v w')
    (hstep : ∀ i o, i ∈ T → ops[i]? = some o → ∀ (vs : Nat → Value) (w : World) (R : Nat → Nat → Prop), S w → Ext w0 w → (∀ k ∈ T, k ∈ pred i → G k (R k) (vs k) w ∧ ∀ b, R k b → w0.heap.size ≤ b ∧ b < w.heap.size) →
      o.wp P (over ops vs T a0) w (fun a' w' => ∃ v, a' = (over ops vs T a0).put o.dst v ∧ G i (grown (terr pred R i) w w') v w' ∧ Touch (terr pred R i) w w') Q ∨ (o.asks P (over ops vs T a0) w ∧ LetsOut Q)) (fuel : Nat)
    (hfin : ∀ (vs : Nat → Value) (R : Nat → Nat → Prop) (w : World), S w → Ext w0 w → (∀ k ∈ T, (∀ j ∈ T, k ∉ pred j) → G k (R k) (vs k) w) → (∀ k ∈ T, ∀ b, R k b → w0.heap.size ≤ b ∧ b < w.heap.size) →
      (∀ i ∈ T, ∀ k ∈ T, i ≠ k → (∀ j ∈ T, i ∉ pred j) → (∀ j ∈ T, k ∉ pred j) → ∀ b, R i b → ¬ R k b) →
      anyS P ops Q S z fuel (markAll listed0 T) (over ops vs T a0) w) :
    ∀ (m : Nat) (D : List Nat) (vs : Nat → Value) (R : Nat → Nat → Prop) (listed : Array Bool) (a : Act) (w : World), D.length + m = T.length →
      OwnInv ops S G pred listed0 T a0 w0 D vs R listed a w → anyS P ops Q S z (fuel + m) listed a w := by
  have hprK : ∀ i ∈ T, ∀ k, k ∈ pred i → k ∈ T ∧ (∃ o e, ops[i]? = some o ∧ dstOf ops k = some e ∧ e ∈ o.looksAt ops) ∧ ∀ j ∈ T, k ∈ pred j → j = i := by
    intro i hi k hk
    have h := (List.all_eq_true.1 ((List.all_eq_true.1 hpr) i hi)) k hk
    simp only [Bool.and_eq_true, List.contains_eq_mem, decide_eq_true_eq, List.all_eq_true, Bool.or_eq_true, beq_iff_eq, Bool.not_eq_true', decide_eq_false_iff_not] at h
    refine ⟨h.1.1, ?_, fun j hj hjk => ?_⟩
    · have h2 := h.1.2
      split at h2
      · rename_i o e ho he
        exact ⟨o, e, ho, he, by simpa using h2⟩
      · cases h2
    · rcases h.2 j hj with h3 | h3
      · exact h3
      · exact absurd hjk h3
  have hdist : ∀ t, ∀ i ∈ T, ∀ j ∈ T, dstOf ops i = some t → dstOf ops j = some t → i = j := by
    intro t i hi j hj h1 h2
    by_cases hij : i = j
    · exact hij
    · obtain ⟨o, d, ho, hd, _, _, _, _, _, hk⟩ := F.op j hj
      obtain ⟨e, he, hed, _⟩ := hk i hi hij
      have : dstOf ops j = some d := by simp [dstOf, ho, hd]
      rw [this] at h2
      rw [he] at h1
      cases h1; cases h2
      exact absurd rfl hed
  have hdist' : ∀ i ∈ T, ∀ j ∈ T, i ≠ j → dstOf ops i ≠ dstOf ops j ∨ dstOf ops i = none := by
    intro i hi j hj hij
    cases h : dstOf ops i with
    | none => exact .inr rfl
    | some t => exact .inl fun e => hij (hdist t i hi j hj h e.symm)
  intro m
  induction m with
  | zero =>
    intro D vs R listed a w hlen I
    have hall : ∀ t ∈ T, t ∈ D := by
      intro t ht
      by_cases htD : t ∈ D
      · exact htD
      · exfalso
        have hsub : (t :: D).Nodup := List.nodup_cons.2 ⟨htD, I.nodup⟩
        have := List.Nodup.length_le_of_subset hsub (l₂ := T) (fun x hx => by
          rcases List.mem_cons.1 hx with rfl | hx
          · exact ht
          · exact I.sub x hx)
        simp only [List.length_cons] at this
        omega
    have ea : a = over ops vs T a0 := by
      have h1 : a.tmps = (over ops vs T a0).tmps := by
        apply Array.ext_getElem?
        intro k
        rw [I.slots k, over_get vs k T a0 hdist' F.nodup]
        exact slotBy_agree I.sub (hdist k) (fun x hx _ => hall x hx)
      have h2 : a.defers = (over ops vs T a0).defers := by rw [I.defers, over_defers]
      cases a; cases hov : over ops vs T a0; rw [hov] at h1 h2; simp only at h1 h2; rw [h1, h2]
    have el : listed = markAll listed0 T := by
      apply Array.ext
      · rw [markAll_size, I.size, F.size]
      · intro j h1 h2
        have h3 := I.marks j (by rw [← I.size]; exact h1)
        have h4 := markAll_get (l := listed0) j T (by rw [F.size, ← I.size]; exact h1)
        have h5 : D.contains j = T.contains j := by
          rw [Bool.eq_iff_iff]; simp only [List.contains_eq_mem, decide_eq_true_eq]
          exact ⟨I.sub j, hall j⟩
        rw [h5, ← h4] at h3
        simpa [h1, h2] using h3
    rw [ea, el]
    exact hfin vs R w I.S I.ext (fun k hk hl => I.held k (hall k hk) (fun j hj => hl j (I.sub j hj))) (fun k hk => I.ter k (hall k hk)) (fun i hi' k hk hne hli hlk => I.apart i (hall i hi') k (hall k hk) hne (fun j hj => hli j (I.sub j hj)) (fun j hj => hlk j (I.sub j hj)))
  | succ m ih =>
    intro D vs R listed a w hlen I
    have hex : ∃ t ∈ T, t ∉ D := by
      refine Classical.byContradiction fun hno => ?_
      have hall : ∀ t ∈ T, t ∈ D := fun t ht => Classical.byContradiction fun h => hno ⟨t, ht, h⟩
      have := List.Nodup.length_le_of_subset F.nodup (l₂ := D) hall
      omega
    have up : ∀ j, listed0.getD j false = true → listed.getD j false = true := by
      intro j hj
      have hlt : j < ops.size := by
        rw [← F.size]
        exact Classical.byContradiction fun h => by simp [Array.getElem?_eq_none (Nat.le_of_not_lt h)] at hj
      rw [I.marks j hlt, hj]; rfl
    have upD : ∀ j ∈ D, listed.getD j false = true := by
      intro j hj
      obtain ⟨o, _, ho, _⟩ := F.op j (I.sub j hj)
      rw [I.marks j (Array.getElem?_eq_some_iff.1 ho).1]
      simp [hj]
    have undone : ∀ t ∈ T, t ∉ D → listed.getD t true = false := by
      intro t ht htD
      obtain ⟨o, _, ho, _, _, _, _, _, h0, _⟩ := F.op t ht
      have hlt := (Array.getElem?_eq_some_iff.1 ho).1
      have h1 := I.marks t hlt
      have h0' : listed0.getD t false = false := by
        have : t < listed0.size := by rw [F.size]; exact hlt
        simpa [this] using h0
      rw [h0'] at h1
      have : t < listed.size := by rw [I.size]; exact hlt
      simpa [this, htD] using h1
    obtain ⟨t0, ht0, ht0D, o0, ho0, hall0⟩ := topo_next F.topo D listed up upD hex
    have hne : Region.ready .any ops listed ≠ [] := by
      intro h
      have : t0 ∈ Region.ready .any ops listed := mem_ready.2 ⟨undone t0 ht0 ht0D, o0, ho0, hall0⟩
      rw [h] at this
      cases this
    refine ⟨fun h => absurd h hne, fun i hir => ?_⟩
    obtain ⟨hun, o, ho, hafter⟩ := mem_ready.1 hir
    have hlt := (Array.getElem?_eq_some_iff.1 ho).1
    have hiT : i ∈ T := by
      rcases F.rest i hlt with h | h | h
      · exact h
      · exfalso
        have h' : listed0.getD i false = true := by
          have : i < listed0.size := by rw [F.size]; exact hlt
          simpa [this] using h
        have h2 := up i h'
        have : i < listed.size := by rw [I.size]; exact hlt
        simp [this] at h2 hun
        rw [h2] at hun; cases hun
      · exfalso
        have h1 := waits_listed I.closed ops.size i o ho hafter t0 (h t0 ht0)
        have h2 := undone t0 ht0 ht0D
        obtain ⟨_, _, hot, _⟩ := F.op t0 ht0
        have : t0 < listed.size := by rw [I.size]; exact (Array.getElem?_eq_some_iff.1 hot).1
        simp [this] at h1 h2
        rw [h1] at h2; cases h2
    have hiD : i ∉ D := by
      intro h
      have h1 := upD i h
      have : i < listed.size := by rw [I.size]; exact hlt
      simp [this] at h1 hun
      rw [h1] at hun; cases hun
    obtain ⟨o', d, ho', hd, hdn, hdl, hg, hsel, _, hk⟩ := F.op i hiT
    obtain rfl : o = o' := Option.some.inj (ho.symm.trans ho')
    have hid : dstOf ops i = some d := by simp [dstOf, ho, hd]
    -- a slot that o looks at holds what 'over' says
    have same : ∀ t, t ∈ o.looksAt ops → a.tmps[t]? = (over ops vs T a0).tmps[t]? := by
      intro t ht
      rw [I.slots t, over_get vs t T a0 hdist' F.nodup]
      refine slotBy_agree I.sub (hdist t) (fun k hkT hkt => ?_)
      by_cases hki : k = i
      · subst hki
        rw [hid] at hkt; cases hkt
        exact absurd ht hdl
      · obtain ⟨e, he, _, hl⟩ := hk k hkT hki
        rw [hkt] at he; cases he
        obtain ⟨x, hx, hxb, hxk⟩ := hl ht
        have := hafter x hx hxb
        rw [hxk] at this
        exact Classical.byContradiction fun hkD => by
          have h2 := undone k hkT hkD
          obtain ⟨_, _, hot, _⟩ := F.op k hkT
          have h3 : k < listed.size := by rw [I.size]; exact (Array.getElem?_eq_some_iff.1 hot).1
          simp [h3] at this h2
          rw [this] at h2; cases h2
    have heval : execOp (over ops vs T a0).eval o = execOp a.eval o := execOp_congr o hsel fun x hx => by
      cases x with
      | tmp t =>
        have := same t (List.mem_append_left _ (List.mem_filterMap.2 ⟨.tmp t, by simpa using hx, rfl⟩))
        simp [Act.eval, Array.getD_eq_getD_getElem?, this]
      | _ => rfl
    have inD : ∀ k ∈ T, ∀ e, dstOf ops k = some e → e ∈ o.looksAt ops → k ∈ D := fun k hkT e he hel => by
      by_cases hki : k = i
      · subst hki
        rw [hid] at he; cases he
        exact absurd hel hdl
      · obtain ⟨e', he', _, hl⟩ := hk k hkT hki
        rw [he] at he'; cases he'
        obtain ⟨x, hx, hxb, hxk⟩ := hl hel
        have := hafter x hx hxb
        rw [hxk] at this
        exact Classical.byContradiction fun hkD => by
          have h2 := undone k hkT hkD
          obtain ⟨_, _, hot, _⟩ := F.op k hkT
          have h3 : k < listed.size := by rw [I.size]; exact (Array.getElem?_eq_some_iff.1 hot).1
          simp [h3] at this h2
          rw [this] at h2; cases h2
    have preds : ∀ k, k ∈ pred i → k ∈ D ∧ k ≠ i ∧ ∀ j ∈ D, k ∉ pred j := fun k hk => by
      obtain ⟨hkT, ⟨o', e, ho', hke, hel⟩, huniq⟩ := hprK i hiT k hk
      obtain rfl : o = o' := Option.some.inj (ho.symm.trans ho')
      have hkD := inD k hkT e hke hel
      exact ⟨hkD, fun e => hiD (e ▸ hkD), fun j hj h => hiD ((huniq j (I.sub j hj) h) ▸ hj)⟩
    have hst := hstep i o hiT ho vs w R I.S I.ext (fun k hkT hk => ⟨I.held k (preds k hk).1 (preds k hk).2.2, I.ter k (preds k hk).1⟩)
    have hput : ∀ (b : Act) (v u : Value), b.tmps.size = n → b.put o.dst v = b.put o.dst u → v = u := by
      intro b v u hb h
      have h1 : (b.put o.dst v).tmps[d]? = (b.put o.dst u).tmps[d]? := by rw [h]
      rw [put_get, put_get, if_pos ⟨hd, by rw [hb]; exact hdn⟩, if_pos ⟨hd, by rw [hb]; exact hdn⟩] at h1
      exact Option.some.inj h1
    have hov : (over ops vs T a0).tmps.size = n := by rw [over_size]; exact hn
    have hwp : o.wp P a w (fun a' w' => ∃ v, a' = a.put o.dst v ∧ G i (grown (terr pred R i) w w') v w' ∧ Touch (terr pred R i) w w') Q ∨ (o.asks P a w ∧ LetsOut Q) := by
      refine hst.imp (fun hst => ?_) (fun h => ⟨by unfold Oper.asks at *; rw [← heval]; exact h.1, h.2⟩)
      refine wp_carry (a := over ops vs T a0) heval hP (fun v w' h => ?_) (fun dd w' h => ?_) hst
      · obtain ⟨u, hu, h2⟩ := h
        obtain rfl := hput _ _ _ hov hu
        exact ⟨v, rfl, h2⟩
      · obtain ⟨u, hu, _⟩ := h
        have : ({ over ops vs T a0 with defers := dd :: (over ops vs T a0).defers }.put o.dst undef).defers = ((over ops vs T a0).put o.dst u).defers := by rw [hu]
        rw [hd] at this
        simp [Act.put] at this
    unfold wpOp
    rw [ho]
    simp only
    rw [if_pos (by simp [Region.wanted, hg])]
    refine hwp.imp (fun hwp => Oper.wp_mono (fun a' w' h => ?_) hwp) id
    obtain ⟨v, rfl, hG, hE⟩ := h
    have hX : ∀ b, terr pred R i b → w0.heap.size ≤ b ∧ b < w.heap.size := fun b hb => by
      obtain ⟨k, hk, hb⟩ := hb
      exact I.ter k (preds k hk).1 b hb
    have hE0 : RowKit.Below w0.heap.size w w' := hE.below (fun b hb => (hX b hb).1) I.ext.size
    have hS' := hSm _ _ I.S hE0
    refine ⟨fun _ => hS', ?_⟩
    refine ih (i :: D) (fun j => if j = i then v else vs j) (fun j => if j = i then grown (terr pred R i) w w' else R j) _ _ w' (by simp only [List.length_cons]; omega) ?_
    refine ⟨fun x hx => ?_, List.nodup_cons.2 ⟨hiD, I.nodup⟩, by simp [I.size], fun j hj => ?_, fun j oj hoj hl e he hb => ?_, ?_, by rw [put_size]; exact I.tmps, fun k => ?_, fun k hk' hlv => ?_, fun k hk' b hb => ?_, fun x hx y hy hxy hlx hly b hbx hby => ?_, RowKit.Below.trans I.ext hE0, hS'⟩
    · rcases List.mem_cons.1 hx with rfl | hx
      · exact hiT
      · exact I.sub x hx
    · by_cases hij : i = j
      · subst hij
        have : i < listed.size := by rw [I.size]; exact hlt
        simp [this]
      · rw [getD_set_ne false hij, I.marks j hj]
        simp [Ne.symm hij]
    · by_cases hij : i = j
      · subst hij
        obtain rfl : o = oj := Option.some.inj (ho.symm.trans hoj)
        exact getD_set_true (hafter e he hb)
      · rw [getD_set_ne false hij] at hl
        exact getD_set_true (I.closed j oj hoj hl e he hb)
    · rw [hd]; exact I.defers
    · rw [put_get, hd]
      by_cases hdk : d = k
      · subst hdk
        unfold slotBy
        rw [List.find?_cons, show (dstOf ops i == some d) = true by simp [hid]]
        simp only [true_and, if_true]
        rw [I.tmps]
        by_cases hlt2 : d < a0.tmps.size
        · rw [if_pos hlt2, if_pos hlt2]
        · rw [hn] at hlt2; exact absurd hdn hlt2
      · rw [if_neg (fun h => hdk (Option.some.inj h.1)), I.slots k]
        unfold slotBy
        rw [List.find?_cons, show (dstOf ops i == some k) = false by simp [hid, hdk]]
        cases hf : D.find? (fun i => dstOf ops i == some k) with
        | none => rfl
        | some j =>
          have hji : j ≠ i := fun e => hiD (e ▸ List.mem_of_find?_eq_some hf)
          simp [hji]
    · rcases List.mem_cons.1 hk' with rfl | hk'
      · simp only [if_true]
        exact hG
      · have hki : k ≠ i := fun e => hiD (e ▸ hk')
        simp only [hki, if_false]
        have hlD : ∀ j ∈ D, k ∉ pred j := fun j hj => hlv j (List.mem_cons_of_mem _ hj)
        refine hGm _ _ _ _ _ _ (I.held k hk' hlD) hE (fun b hb => ⟨fun hbx => ?_, (I.ter k hk' b hb).2⟩) (fun b hb => (hX b hb).1) I.ext.size
        obtain ⟨p, hp, hpb⟩ := hbx
        obtain ⟨hpD, _, hpl⟩ := preds p hp
        have hpk : p ≠ k := fun e => hlv i (List.mem_cons_self ..) (e ▸ hp)
        exact I.apart p hpD k hk' hpk hpl hlD b hpb hb
    · rcases List.mem_cons.1 hk' with rfl | hk'
      · simp only [if_true] at hb
        have hs0 := I.ext.size
        have hs1 := hE.size
        rcases hb with hb | hb
        · have := hX b hb; omega
        · omega
      · have hki : k ≠ i := fun e => hiD (e ▸ hk')
        simp only [hki, if_false] at hb
        have := I.ter k hk' b hb
        have hs1 := hE.size
        omega
    · have key : ∀ y ∈ D, (∀ j ∈ i :: D, y ∉ pred j) → grown (terr pred R i) w w' b → R y b → False := by
        intro y hyD hly hg hy
        have hyb := I.ter y hyD b hy
        rcases hg with ⟨p, hp, hpb⟩ | hg
        · obtain ⟨hpD, _, hpl⟩ := preds p hp
          have hpy : p ≠ y := fun e => hly i (List.mem_cons_self ..) (e ▸ hp)
          exact I.apart p hpD y hyD hpy hpl (fun j hj => hly j (List.mem_cons_of_mem _ hj)) b hpb hy
        · omega
      rcases List.mem_cons.1 hx with hxi | hxD
      · subst hxi
        rcases List.mem_cons.1 hy with hyx | hyD
        · exact absurd hyx.symm hxy
        · have hyi : y ≠ x := Ne.symm hxy
          simp only [if_true] at hbx
          simp only [hyi, if_false] at hby
          exact key y hyD hly hbx hby
      · have hxi : x ≠ i := fun e => hiD (e ▸ hxD)
        rcases List.mem_cons.1 hy with hyi | hyD
        · subst hyi
          simp only [if_true] at hby
          simp only [hxi, if_false] at hbx
          exact key x hxD hlx hby hbx
        · have hyi : y ≠ i := fun e => hiD (e ▸ hyD)
          simp only [hxi, if_false] at hbx
          simp only [hyi, if_false] at hby
          exact I.apart x hxD y hyD hxy (fun j hj => hlx j (List.mem_cons_of_mem _ hj)) (fun j hj => hly j (List.mem_cons_of_mem _ hj)) b hbx hby

/-- What is asked where these operations begin. -/
def OwnAt (P : Program) (ops : Array Oper) (Q : Exit → Act → World → Prop) (S : World → Prop) (z : Nat) (G : Nat → (Nat → Prop) → Value → World → Prop) (pred : Nat → List Nat) (TS : List (Nat × Tmp)) (plan2 : List (Nat × Bool)) (n : Nat) (a1 : Act) (w1 : World) : Prop :=
  a1.tmps.size = n ∧ (∀ w w', S w → RowKit.Below w1.heap.size w w' → S w') ∧
  (∀ i R X v w w', G i R v w → Touch X w w' → (∀ b, R b → ¬ X b ∧ b < w.heap.size) → (∀ b, X b → w1.heap.size ≤ b) → w1.heap.size ≤ w.heap.size → G i R v w') ∧
  (∀ p ∈ TS, ∀ o, ops[p.1]? = some o → ∀ (vs : Nat → Value) (w : World) (R : Nat → Nat → Prop), S w → Ext w1 w → (∀ k ∈ TS, k.1 ∈ pred p.1 → G k.1 (R k.1) (vs k.1) w ∧ ∀ b, R k.1 b → w1.heap.size ≤ b ∧ b < w.heap.size) →
    ∀ K : Act → World → Prop, (∀ v w', G p.1 (grown (terr pred R p.1) w w') v w' → Touch (terr pred R p.1) w w' → K ((puts vs TS a1).put (some p.2) v) w') → wpList P ops (Exit.then K Q) [o] (puts vs TS a1) w) ∧
  (∀ (vs : Nat → Value) (R : Nat → Nat → Prop) (w : World), S w → Ext w1 w → (∀ k ∈ TS, (∀ j ∈ TS, k.1 ∉ pred j.1) → G k.1 (R k.1) (vs k.1) w ∧ ∀ b, R k.1 b → w1.heap.size ≤ b ∧ b < w.heap.size) →
    (∀ i ∈ TS, ∀ k ∈ TS, i.1 ≠ k.1 → (∀ j ∈ TS, i.1 ∉ pred j.1) → (∀ j ∈ TS, k.1 ∉ pred j.1) → ∀ b, R i.1 b → ¬ R k.1 b) → wpPlan P ops Q S z (Q .normal) plan2 (puts vs TS a1) w)

theorem wp_region_own {id : Nat} {l : List Oper} {a : Act} {w : World} (S : World → Prop) (z : Nat) (G : Nat → (Nat → Prop) → Value → World → Prop) (pred : Nat → List Nat) (plan1 : List (Nat × Bool)) (TS : List (Nat × Tmp)) (plan2 : List (Nat × Bool)) (n : Nat)
    (hm : P.follows .mixedOrders = true) (hs : Region.noSelect l.toArray = true) (hp : freshRegion l.toArray z plan1 TS plan2 n = true) (hpr : predOK l.toArray pred (TS.map (·.1)) = true) (hS : S w.drew)
    (h : wpPlan P l.toArray (NoPanic Q) S z (OwnAt P l.toArray (NoPanic Q) S z G pred TS plan2 n) plan1 a w.drew) : (Code.region id l.toArray true).wp P Q a w := by
  unfold freshRegion at hp
  split at hp
  · rename_i l1 hl1
    simp only [Bool.and_eq_true, decide_eq_true_eq, List.all_eq_true, beq_iff_eq, Bool.not_eq_true'] at hp
    obtain ⟨⟨⟨⟨⟨hf, hp2⟩, hd⟩, hlen⟩, hz⟩, hzl⟩ := hp
    have F := freshOK_spec hf
    refine wp_region_noPanic (wp_region_any hm (any_of_anyS (S := S) (z := z) _ _ _ _ ?_))
    have key := held_of_plan (P := P) (Q := NoPanic Q) (S := S) (C := OwnAt P l.toArray (NoPanic Q) S z G pred TS plan2 n) hs hz (fun c a d v w h => h.elim) l1 (plan2.length + TS.length) (fun a1 w1 hS1 hC => ?_) plan1 _ a w.drew hl1 (by simp) (fun _ => hS) h
    · rw [show plan2.length + TS.length + plan1.length = l.toArray.size by omega] at key
      exact key
    · have hS1' : S w1 := hS1 (by rw [hzl]; simp)
      obtain ⟨hn, hSm, hGm, hst, hfin⟩ := hC
      have hT : TS.length = (TS.map (·.1)).length := by simp
      rw [hT]
      have hdst : ∀ p ∈ TS, dstOf l.toArray p.1 = some p.2 := hd
      refine own_phase (Q := NoPanic Q) (w0 := w1) F (fun c a w h => h) hn hpr hSm hGm (fun i o hi ho vs w R hSw hE hdep => ?_) plan2.length (fun vs R w hSw hE hall hter hap => ?_) (TS.map (·.1)).length [] (fun _ => undef) (fun _ _ => False) l1 a1 w1 (by simp) ?_
      · obtain ⟨p, hpT, rfl⟩ := List.mem_map.1 hi
        obtain ⟨o', d, ho', hod, _, _, hg, _⟩ := F.op p.1 hi
        obtain rfl : o = o' := Option.some.inj (ho.symm.trans ho')
        have hd2 : o.dst = some p.2 := by
          have := hdst p hpT
          simp only [dstOf, ho, Option.bind_some] at this
          exact this
        rw [over_eq_puts vs TS a1 hdst]
        refine wp_of_list hg (hst p hpT o ho vs w R hSw hE (fun k hk hkl => hdep k.1 (List.mem_map.2 ⟨k, hk, rfl⟩) hkl) _ (fun v w' hG hE' => ?_))
        rw [hd2]
        exact ⟨v, rfl, hG, hE'⟩
      · rw [over_eq_puts vs TS a1 hdst]
        have conv : ∀ k, (∀ j ∈ TS, k ∉ pred j.1) → ∀ j ∈ TS.map (·.1), k ∉ pred j := fun k h j hj => by
          obtain ⟨q, hq, rfl⟩ := List.mem_map.1 hj
          exact h q hq
        have hw := hfin vs R w hSw hE (fun k hk hl => ⟨hall k.1 (List.mem_map.2 ⟨k, hk, rfl⟩) (conv _ hl), hter k.1 (List.mem_map.2 ⟨k, hk, rfl⟩)⟩) (fun i hi k hk hne hli hlk => hap i.1 (List.mem_map.2 ⟨i, hi, rfl⟩) k.1 (List.mem_map.2 ⟨k, hk, rfl⟩) hne (conv _ hli) (conv _ hlk))
        unfold planOK at hp2
        split at hp2
        · rename_i l2 hl2
          have := held_of_plan (P := P) (Q := NoPanic Q) (S := S) (C := NoPanic Q .normal) hs hz (fun c a d v w h => h.elim) l2 0 (fun a w _ h => anyS_done (by simpa using hp2) h 0) plan2 _ _ w hl2 (by rw [markAll_size, F.size]) (fun _ => hSw) hw
          rw [Nat.zero_add] at this
          exact this
        · cases hp2
      · exact ⟨(fun x hx => by cases hx), List.nodup_nil, F.size, (fun j hj => by simp), F.closed, rfl, rfl, (fun k => rfl), (fun k hk => by cases hk), (fun k hk => by cases hk), (fun i hi => by cases hi), Ext.refl _, hS1'⟩
  · cases hp

end

section
variable {P : Program} {ops : Array Oper} {Q : Exit → Act → World → Prop} {S : World → Prop} {z : Nat} {C : Act → World → Prop}
def valued2 : Op → Bool
  | .makeInterface .. => true
  | o => valued o
theorem valued2_spec {o : Oper} {ρ : Operand → Value} {w w' : World} {n : Next} (hv : valued2 o.op = true) (h : (execOp ρ o).run P w = .ok n w') : ∃ v, n = .value v := by
  obtain ⟨dst, op, type, pos, after, guard⟩ := o
  cases op
  case makeInterface t x =>
    simp only [execOp] at h
    exact value_of_map h
  all_goals exact valued_spec (by simpa [valued2] using hv) h

/-- One step of a segment: the operation is passed over, or it yields a value and leaves the world alone. -/
theorem Seg.step2 {wx : World} {A : Act} {o : Oper} {r : List Oper} {a : Act} {w : World} (hv : valued2 o.op = true) (h : Seg P ops wx A (o :: r) a w) :
    w = wx ∧ ((Region.wanted o (yielded ops a.tmps) = true ∧ ∃ v, (execOp a.eval o).run P wx = .ok (.value v) wx ∧ Seg P ops wx A r (a.put o.dst v) wx) ∨
      (Region.wanted o (yielded ops a.tmps) = false ∧ Seg P ops wx A r (a.put o.dst undef) wx)) := by
  obtain ⟨rfl, h⟩ := h
  refine ⟨rfl, ?_⟩
  unfold wpList at h
  split at h
  · rename_i hw
    refine .inl ⟨hw, ?_⟩
    rcases h with h | ⟨_, a1, w1, h⟩
    · unfold Oper.wp at h
      generalize hr : (execOp a.eval o).run P w = x at h
      cases x with
      | halt y w1 => cases y <;> simp [Oper.upon, Exit.then, noEnd] at h
      | ok n w1 =>
        obtain ⟨v, rfl⟩ := valued2_spec hv hr
        have h' : Seg P ops w A r (a.put o.dst v) w1 := h
        have hw1 := h'.world
        subst hw1
        exact ⟨v, rfl, h'⟩
    · exact h.elim
  · rename_i hw
    exact .inr ⟨by simpa using hw, h⟩

/-- Every operation is a value, writes a slot of its own below n. -/
def segOK2 (n : Nat) : List Oper → Bool
  | [] => true
  | o :: r => valued2 o.op && (match o.dst with | some d => decide (d < n) && dstsFree d r | none => false) && segOK2 n r

theorem Seg.keeps2 {wx : World} {A : Act} {n : Nat} (d : Tmp) : ∀ (l : List Oper) (a : Act) (w : World), segOK2 n l = true → dstsFree d l = true → Seg P ops wx A l a w → A.tmps[d]? = a.tmps[d]?
  | [], a, w, _, _, h => by rw [h.1]
  | o :: r, a, w, hs, hd, h => by
    simp only [segOK2, Bool.and_eq_true] at hs
    simp only [dstsFree, List.all_cons, Bool.and_eq_true, bne_iff_ne, ne_eq] at hd
    have put : ∀ v, (a.put o.dst v).tmps[d]? = a.tmps[d]? := by
      intro v
      cases ho : o.dst with
      | none => rfl
      | some e => simp only [Act.put]; exact Array.getElem?_setIfInBounds_ne (fun he => hd.1 (by rw [ho, he]))
    obtain ⟨_, ⟨_, v, _, h'⟩ | ⟨_, h'⟩⟩ := h.step2 hs.1.1
    · rw [Seg.keeps2 d r _ _ hs.2 (by simpa [dstsFree] using hd.2) h', put]
    · rw [Seg.keeps2 d r _ _ hs.2 (by simpa [dstsFree] using hd.2) h', put]

/-- A segment that ends in one frame A in every world that meets S goes by values. -/
theorem plan_of_seg2 {n : Nat} {A : Act} {w : World} (hS : S w) (rest : List (Nat × Bool)) (hrest : wpPlan P ops Q S z C rest A w) :
    ∀ (is : List Nat) (l : List Oper) (a : Act), is.map (ops[·]?) = l.map some → segOK2 n l = true → a.tmps.size = n → (∀ wx, S wx → Seg P ops wx A l a wx) →
      wpPlan P ops Q S z C (is.map (·, true) ++ rest) a w
  | [], [], a, _, _, _, h => by
    have := (h w hS).1
    subst this
    exact hrest
  | [], _ :: _, _, h, _, _, _ => by simp at h
  | _ :: _, [], _, h, _, _, _ => by simp at h
  | i :: is, o :: l, a, he, hs, hn, h => by
    simp only [List.map_cons, List.cons.injEq] at he
    have hs' := hs
    simp only [segOK2, Bool.and_eq_true] at hs'
    obtain ⟨⟨hv, hd⟩, hr⟩ := hs'
    cases ho : o.dst with
    | none => rw [ho] at hd; simp at hd
    | some d =>
      rw [ho] at hd
      simp only [Bool.and_eq_true, decide_eq_true_eq] at hd
      by_cases hw : Region.wanted o (yielded ops a.tmps) = true
      · have hval : ∀ wx, S wx → ∃ v, (execOp a.eval o).run P wx = .ok (.value v) wx ∧ Seg P ops wx A l (a.put o.dst v) wx := by
          intro wx hx
          obtain ⟨_, ⟨_, v, h1, h2⟩ | ⟨h1, _⟩⟩ := (h wx hx).step2 hv
          · exact ⟨v, h1, h2⟩
          · rw [hw] at h1; cases h1
        have hA : ∀ wx v, Seg P ops wx A l (a.put o.dst v) wx → v = A.tmps.getD d undef := by
          intro wx v h2
          have := h2.keeps2 d l _ _ hr hd.2
          rw [ho] at this
          simp only [Act.put] at this
          rw [Array.getElem?_setIfInBounds_self_of_lt (by rw [hn]; exact hd.1)] at this
          simp [Array.getD_eq_getD_getElem?, this]
        refine ⟨o, he.1, A.tmps.getD d undef, .inl ⟨hw, fun wx hx => ?_⟩, ?_⟩
        · obtain ⟨v, h1, h2⟩ := hval wx hx
          rw [h1, hA wx v h2]
        · refine plan_of_seg2 hS rest hrest is l _ he.2 hr (by rw [put_size]; exact hn) (fun wx hx => ?_)
          obtain ⟨v, h1, h2⟩ := hval wx hx
          rw [← hA wx v h2]
          exact h2
      · have hw' : Region.wanted o (yielded ops a.tmps) = false := by simpa using hw
        refine ⟨o, he.1, undef, .inr ⟨hw', rfl⟩, ?_⟩
        refine plan_of_seg2 hS rest hrest is l _ he.2 hr (by rw [put_size]; exact hn) (fun wx hx => ?_)
        obtain ⟨_, ⟨h1, _⟩ | ⟨_, h2⟩⟩ := (h wx hx).step2 hv
        · rw [h1] at hw'; cases hw'
        · exact h2

theorem plan_seg2 {L : List Oper} {A : Act} {a : Act} {w : World} (n : Nat) (ps : List Nat) (rest : List (Nat × Bool)) (hb : ps.all (decide <| · < L.length) = true)
    (hs : segOK2 n (pick L ps) = true) (hn : a.tmps.size = n) (hS : S w) (h : ∀ wx, S wx → Seg P L.toArray wx A (pick L ps) a wx)
    (hrest : wpPlan P L.toArray Q S z C rest A w) : wpPlan P L.toArray Q S z C (ps.map (·, true) ++ rest) a w := by
  refine plan_of_seg2 hS rest hrest ps (pick L ps) a ?_ hs hn h
  clear h hs hrest
  induction ps with
  | nil => rfl
  | cons i is ih =>
    simp only [List.all_cons, Bool.and_eq_true, decide_eq_true_eq] at hb
    have := ih hb.2
    have e : pick L (i :: is) = L[i] :: pick L is := by simp [pick, hb.1]
    rw [e]
    simp only [List.map_cons]
    rw [this]
    simp [hb.1]


end
end Go.Plan

/- What operations of a drawn region have made, each in territory of its own: numbers, bytes, boxes. -/
namespace Go.Proofs.Ytkhjkemllgjfmaa
open Go.RowKit
set_option linter.unusedVariables false
set_option linter.unusedSimpArgs false

/-- v is made of cells in R. -/
def Foot (R : Nat → Prop) (v : Value) : Prop := ∀ a n c, v = .slice (some a) n c → R a.block
def GI (L : List Int) (R : Nat → Prop) (v : Value) (w : World) : Prop := IL w v L ∧ Foot R v
def GO (B : Nat) (L : List Int) (R : Nat → Prop) (v : Value) (w : World) : Prop := Own w B v L ∧ Foot R v
def GB (nm : ByteArray) (B : Nat) (L : List Int) (R : Nat → Prop) (v : Value) (w : World) : Prop := ∃ vd, v = .agg #[.string nm, vd] ∧ GO B L R vd w
def GF (nm : ByteArray) (B : Nat) (L : List Int) (R : Nat → Prop) (v : Value) (w : World) : Prop := ∃ vd, v = .iface 109 (.agg #[.string nm, vd]) ∧ GO B L R vd w

theorem IL.block_eq {w w' : World} {v : Value} {L : List Int} (h : IL w v L) (hs : ∀ a n c, v = .slice (some a) n c → a.block < w.heap.size → w'.heap[a.block]? = w.heap[a.block]?) : IL w' v L := by
  obtain ⟨ao, c, rfl, hc, H⟩ := h
  refine ⟨ao, c, rfl, hc, fun i u hi => ?_⟩
  obtain ⟨b, o, rfl, hx⟩ := H i u hi
  have hl : b < w.heap.size := block_lt_of_cell hx
  exact ⟨b, o, rfl, (World.cell?_of_block (w := w) (a := ⟨b, o + i, none⟩) (hs ⟨b, o, none⟩ _ _ rfl hl)).trans hx⟩
theorem Own.block_eq {w w' : World} {B : Nat} {v : Value} {L : List Int} (h : Own w B v L) (hs : ∀ a n c, v = .slice (some a) n c → a.block < w.heap.size → w'.heap[a.block]? = w.heap[a.block]?) : Own w' B v L := by
  obtain ⟨h1, h2⟩ := h
  refine ⟨h1, ?_⟩
  rcases h2 with h2 | ⟨g, cap, cur, rfl, hB, hb, h3⟩
  · exact .inl h2
  · exact .inr ⟨g, cap, cur, rfl, hB, (hs ⟨g, 0, none⟩ _ _ rfl (Array.getElem?_eq_some_iff.1 hb).1).trans hb, h3⟩
theorem Own.at {w : World} {B : Nat} {v : Value} {L : List Int} (h : Own w B v L) : ∀ a n c, v = .slice (some a) n c → v.ownBlock = some a.block ∧ B ≤ a.block ∧ a.block < w.heap.size := by
  intro a n c e
  rcases h.2 with ⟨rfl, _⟩ | ⟨g, cap, cur, rfl, hB, hb, _⟩
  · simp at e
  · simp only [Value.slice.injEq, Option.some.injEq] at e
    obtain ⟨rfl, _, _⟩ := e
    exact ⟨rfl, hB, (Array.getElem?_eq_some_iff.1 hb).1⟩
theorem own_block {v : Value} {g : Nat} (h : v.ownBlock = some g) : ∃ a n c, v = .slice (some a) n c ∧ a.block = g := by
  cases v <;> try cases h
  rename_i a n c
  cases a with
  | none => cases h
  | some a =>
    refine ⟨a, n, c, rfl, ?_⟩
    simpa [Value.ownBlock] using h

section
variable {X R : Nat → Prop} {w w' : World}
theorem Foot.touch_block {v : Value} (ht : Plan.Touch X w w') (hd : ∀ b, R b → ¬ X b ∧ b < w.heap.size) (hf : Foot R v) : ∀ a n c, v = .slice (some a) n c → a.block < w.heap.size → w'.heap[a.block]? = w.heap[a.block]? := fun a n c e hl => ht.block _ hl (hd _ (hf a n c e)).1
theorem GI.touch {L : List Int} {v : Value} (h : GI L R v w) (ht : Plan.Touch X w w') (hd : ∀ b, R b → ¬ X b ∧ b < w.heap.size) : GI L R v w' := ⟨h.1.block_eq (h.2.touch_block ht hd), h.2⟩
theorem GO.touch {B : Nat} {L : List Int} {v : Value} (h : GO B L R v w) (ht : Plan.Touch X w w') (hd : ∀ b, R b → ¬ X b ∧ b < w.heap.size) : GO B L R v w' := ⟨h.1.block_eq (h.2.touch_block ht hd), h.2⟩
theorem GB.touch {nm : ByteArray} {B : Nat} {L : List Int} {v : Value} (h : GB nm B L R v w) (ht : Plan.Touch X w w') (hd : ∀ b, R b → ¬ X b ∧ b < w.heap.size) : GB nm B L R v w' := by
  obtain ⟨vd, rfl, h⟩ := h
  exact ⟨vd, rfl, h.touch ht hd⟩
theorem GF.touch {nm : ByteArray} {B : Nat} {L : List Int} {v : Value} (h : GF nm B L R v w) (ht : Plan.Touch X w w') (hd : ∀ b, R b → ¬ X b ∧ b < w.heap.size) : GF nm B L R v w' := by
  obtain ⟨vd, rfl, h⟩ := h
  exact ⟨vd, rfl, h.touch ht hd⟩
theorem touch_below (hb : Below w.heap.size w w') : Plan.Touch X w w' := ⟨hb.os, hb.tape, hb.output, hb.size, fun k hk _ => hb.block k hk⟩
theorem touch_adv {v v' : Value} (h : Adv w w' v v') (hX : ∀ a n c, v = .slice (some a) n c → X a.block) : Plan.Touch X w w' :=
  ⟨h.g.os, h.g.tape, h.g.output, h.g.size, fun k hk hn => h.g.block k hk (fun e => by
    obtain ⟨a, n, c, rfl, rfl⟩ := own_block e.symm
    exact hn (hX a n c rfl))⟩
/-- A value made anew. -/
theorem GI.new {L : List Int} {v : Value} (h : IL w' v L) (hf : ∀ a n c, v = .slice (some a) n c → w.heap.size ≤ a.block ∧ a.block < w'.heap.size) : GI L (Plan.grown X w w') v w' := ⟨h, fun a n c e => .inr (hf a n c e)⟩
theorem GO.new {B : Nat} {L : List Int} {v : Value} (h : Own w' w.heap.size v L) (hB : B ≤ w.heap.size) : GO B L (Plan.grown X w w') v w' :=
  ⟨h.mono hB, fun a n c e => .inr ⟨(h.at a n c e).2.1, (h.at a n c e).2.2⟩⟩
theorem GO.adv {B : Nat} {L : List Int} {v v' : Value} (h : Own w' B v' L) (ha : Adv w w' v v') (hX : ∀ a n c, v = .slice (some a) n c → X a.block) : GO B L (Plan.grown X w w') v' w' := by
  refine ⟨h, fun a n c e => ?_⟩
  have h3 := h.at a n c e
  rcases ha.o with e2 | ⟨k, e2, hk⟩
  · obtain ⟨a', n', c', e3, e4⟩ := own_block (e2.symm.trans h3.1)
    rw [← e4]
    exact .inl (hX a' n' c' e3)
  · rw [h3.1] at e2
    obtain rfl := Option.some.inj e2
    exact .inr ⟨hk, h3.2.2⟩
theorem GO.same {B : Nat} {L : List Int} {v : Value} (h : GO B L R v w) (hX : ∀ b, R b → X b) : GO B L (Plan.grown X w w) v w := ⟨h.1, fun a n c e => .inl (hX _ (h.2 a n c e))⟩
end
theorem terr_of {pred : Nat → List Nat} {R : Nat → Nat → Prop} {i k b : Nat} (hk : k ∈ pred i) (h : R k b) : Plan.terr pred R i b := ⟨k, hk, h⟩
theorem GF.ca {nm : ByteArray} {B : Nat} {L : List Int} {R : Nat → Prop} {v : Value} {w : World} (h : GF nm B L R v w) {no : Option Nat} (hno : ∀ q, no = some q → q < B) : CA w no v (.leaf nm L) := by
  obtain ⟨vd, rfl, h⟩ := h
  refine .leaf nm vd L h.1.bl (fun a n c e => ⟨fun h' => ?_, (h.1.at a n c e).2.2⟩)
  have h1 := hno _ h'
  have h2 := (h.1.at a n c e).2.1
  omega

end Go.Proofs.Ytkhjkemllgjfmaa

/- Operations that come up in any order: their operands, and single operations over a frame that is not looked into. -/
namespace Go.Plan
open Go

theorem puts_size (vs : Nat → Value) : ∀ (TS : List (Nat × Tmp)) (a : Act), (puts vs TS a).tmps.size = a.tmps.size
  | [], _ => rfl
  | p :: r, a => by
    rw [puts, puts_size vs r]
    simp [Act.put]
theorem puts_defers (vs : Nat → Value) : ∀ (TS : List (Nat × Tmp)) (a : Act), (puts vs TS a).defers = a.defers
  | [], _ => rfl
  | p :: r, a => by
    rw [puts, puts_defers vs r]
    rfl
theorem puts_out (vs : Nat → Value) {s : Tmp} : ∀ (TS : List (Nat × Tmp)) (a : Act), (∀ p ∈ TS, p.2 ≠ s) → (puts vs TS a).tmps[s]? = a.tmps[s]?
  | [], _, _ => rfl
  | p :: r, a, h => by
    rw [puts, puts_out vs r _ (fun q hq => h q (List.mem_cons_of_mem _ hq))]
    simp only [Act.put, Array.getElem?_setIfInBounds]
    rw [if_neg (h p List.mem_cons_self)]
theorem puts_in (vs : Nat → Value) {i : Nat} {s : Tmp} : ∀ (TS : List (Nat × Tmp)) (a : Act), (i, s) ∈ TS → (∀ p ∈ TS, p.2 = s → p.1 = i) → s < a.tmps.size → (puts vs TS a).tmps[s]? = some (vs i)
  | [], _, h, _, _ => by cases h
  | p :: r, a, h, hu, hs => by
    rw [puts]
    by_cases hr : (i, s) ∈ r
    · exact puts_in vs r _ hr (fun q hq => hu q (List.mem_cons_of_mem _ hq)) (by simpa [Act.put] using hs)
    · have hp : (i, s) = p := by
        rcases List.mem_cons.1 h with e | e
        · exact e
        · exact absurd e hr
      subst hp
      rw [puts_out vs r _ (fun q hq e => hr (by
        have := hu q (List.mem_cons_of_mem _ hq) e
        obtain ⟨q1, q2⟩ := q
        simp only at this e
        subst this e
        exact hq))]
      simp only [Act.put, Array.getElem?_setIfInBounds]
      simp [hs]
theorem eval_in {vs : Nat → Value} {i : Nat} {s : Tmp} {TS : List (Nat × Tmp)} {a : Act} (h : (i, s) ∈ TS) (hu : ∀ p ∈ TS, p.2 = s → p.1 = i) (hs : s < a.tmps.size) : (puts vs TS a).eval (.tmp s) = vs i := by
  simp only [Act.eval, Array.getD_eq_getD_getElem?, puts_in vs TS a h hu hs, Option.getD_some]
theorem eval_out {vs : Nat → Value} {s : Tmp} {TS : List (Nat × Tmp)} {a : Act} (h : ∀ p ∈ TS, p.2 ≠ s) : (puts vs TS a).eval (.tmp s) = a.eval (.tmp s) := by
  simp only [Act.eval, Array.getD_eq_getD_getElem?, puts_out vs TS a h]

section
variable {P : Program} {ops : Array Oper} {o : Oper} {A : Act} {w : World} {K : Act → World → Prop} {Q : Exit → Act → World → Prop}
theorem one_call (hg : o.guard = none) (f : FuncId) {fn : Func} (hf : P.funcs[f]? = some fn) (hfn : (fn.name == "runtime.NumGoroutine") = false) (hfb : fn.body.isNone = false) (args : Array Operand) (T : Array TypeId) (hop : o.op = .call { callee := .value (.func f), args := args, argTypes := T }) (vs : Array Value) (hx : args.map A.eval = vs)
    (R : Value → World → Prop) (hc : Calls P f vs w fun e w' => ∃ r, e = .returned r ∧ R r w') (h : ∀ r w', R r w' → K (A.put o.dst r) w') : wpList P ops (Exit.then K Q) [o] A w := by
  refine wpList_plain hg fun K' hK' => ?_
  have hrun : (execOp A.eval o).run P w = .ok (.enter f vs) w := by
    have hcf : (callFunc f vs).run P w = .ok (.enter f vs) w := by
      unfold callFunc
      rw [Sem.run_bind]
      show Sem.run P _ w = _
      rw [hf]
      simp only [hfn, hfb]
      rfl
    simp [execOp, hop, resolve, invoke, Act.eval, Deferred.ofValue, hx, hcf]
  unfold Oper.wp
  rw [hrun, Oper.upon_enter]
  refine hc.mono fun e w'' hh => ?_
  obtain ⟨r, rfl, hR⟩ := hh
  exact hK' _ _ (wpList_nil (h r w'' hR))
end
end Go.Plan

namespace Go.Plan
/-- The frame need not be looked into. -/
theorem ownAt_gen {P : Program} {ops : Array Oper} {Q : Exit → Act → World → Prop} {S : World → Prop} {z : Nat} {G : Nat → (Nat → Prop) → Value → World → Prop} {pred : Nat → List Nat} {TS : List (Nat × Tmp)} {plan2 : List (Nat × Bool)} {n : Nat} {a1 : Act} {w1 : World}
    (F : Act → Prop) (hF : F a1) (h : ∀ A, F A → OwnAt P ops Q S z G pred TS plan2 n A w1) : OwnAt P ops Q S z G pred TS plan2 n a1 w1 := h a1 hF
end Go.Plan

/- A list of seven contents, at the operation. -/
namespace Go.Proofs.Ytkhjkemllgjfmaa
open Go.RowKit

theorem info83 : (Try.prog.info? 83).map (fun i => (i.zero, i.size, i.bytes)) = some (some .nilIface, 1, 16) := by kernel_rfl
theorem wpList_seven {w : World} {ops : Array Oper} {rest : List Oper} {o : Oper} {A : Act} {Q : Exit → Act → World → Prop} (hg : o.guard = none) (x0 x1 x2 x3 x4 x5 x6 : Operand)
    (hop : o.op = .buildSlice 105 7 #[(0, x0), (1, x1), (2, x2), (3, x3), (4, x4), (5, x5), (6, x6)]) (t0 t1 t2 t3 t4 t5 t6 : TypeId) (v0 v1 v2 v3 v4 v5 v6 : Value)
    (e0 : A.eval x0 = .iface t0 v0) (e1 : A.eval x1 = .iface t1 v1) (e2 : A.eval x2 = .iface t2 v2) (e3 : A.eval x3 = .iface t3 v3) (e4 : A.eval x4 = .iface t4 v4) (e5 : A.eval x5 = .iface t5 v5) (e6 : A.eval x6 = .iface t6 v6)
    (h : wpList Try.prog ops Q rest (A.put o.dst (.slice (some ⟨w.heap.size, 0, none⟩) 7 7)) (w.alloc (.cells #[.iface t0 v0, .iface t1 v1, .iface t2 v2, .iface t3 v3, .iface t4 v4, .iface t5 v5, .iface t6 v6] 83))) : wpList Try.prog ops Q (o :: rest) A w := by
  obtain ⟨i0, hi, hz0, hz1, hz2⟩ := info_parts info83
  refine wpList_buildSlice hg 105 83 7 _ hop _ i0 .nilIface Try.underlying105 hi hz0 (by rw [hz1]; decide) (by rw [hz1]; decide) ?_ h
  rw [hz1]
  simp only [List.map_toArray, List.map_cons, List.map_nil, e0, e1, e2, e3, e4, e5, e6]
  simp [Instr.fill, Value.cells]
  have hz : (Array.map (fun x => [Value.nilIface][x % 1]?.getD default) (Array.range 7)) = #[.nilIface, .nilIface, .nilIface, .nilIface, .nilIface, .nilIface, .nilIface] := by kernel_rfl
  rw [hz]
  rfl
end Go.Proofs.Ytkhjkemllgjfmaa

/- Aid for the rows: arguments that stay as they were; bytes read off an argument. -/
namespace Go.Proofs.Ytkhjkemllgjfmaa
open Go.ChangeShapes Go.WideShapes Go.ChangeAt Go.RowKit
set_option linter.unusedVariables false

theorem laid_out : laidOutB Try.prog = true := by kernel_rfl
theorem cells3 : Try.prog.cellsOf 3 = 1 := by kernel_rfl
theorem cells5 : Try.prog.cellsOf 5 = 1 := by kernel_rfl
section
variable {P : Program} {H : Type} {enc : TypeId × Value → H}
/-- The row's post where all that was there when the call began is as it was. -/
theorem post_of_below {f : Func} {s : ChangeSpec} {apart fresh handsOn again : Bool} {W W' : World} {args : Array Value} {v : Value} {ds gs : List (DataW H)} {before pa pv : List MemPlace}
    (hW : DataW.Whole enc P f.params.toList s.vars apart W args.toList ds gs before)
    (hres : ∀ (b : Nat) (sp : Nat → Bool) (hd : Bool), DataW.TrodAll enc P W' b sp hd f.resultTypes.toList (v.resultList f.resultTypes.size) (s.fn H (ds ++ gs)).results [])
    (hargs : ∀ sp : Nat → Bool, (∀ p ∈ before, sp p.block = true) → DataW.TrodAll enc P W' 0 sp true f.params.toList args.toList (s.fn H (ds ++ gs)).args pa)
    (hvars : ∀ sp : Nat → Bool, (∀ p ∈ before, sp p.block = true) → DataW.TrodVars enc P W' sp s.vars (s.fn H (ds ++ gs)).vars pv)
    (hps : before = pa ++ pv) (hb : Below W.heap.size W W')
    (hok : ∀ (j : Nat) (t : TypeId) (r : Value), f.resultTypes[j]? = some t → (v.resultList f.resultTypes.size)[j]? = some r → Value.okWide P W' .any 0 t r) :
    s.post enc P f apart fresh handsOn again W args v W' := by
  have old : ∀ p ∈ before, (fun b => decide (b < W.heap.size)) p.block = true := fun p hp => by simpa using hW.lt p hp
  have kept : W.keptBut W' (· ∈ before) := hb.frame _
  refine ⟨ds, gs, before, [], pa, pv, hW, hres _ _ _, hargs _ old, hvars _ old, World.keptBut_mono (fun p hp => ⟨hp, by rw [hps, List.mem_append] at hp; exact Or.inr hp⟩) kept, fun _ => ?_⟩
  have lt := hW.lt
  obtain ⟨_, _, _, _, _, hz, hn⟩ := hW
  refine ⟨hok, _, _, ([] ++ pa) ++ pv, ⟨[] ++ pa, pv, trodAll_append (hargs _ (fun _ _ => rfl)) (hres _ _ _), hvars _ (fun _ _ => rfl), rfl, ?_, ?_⟩, ?_⟩
  · intro b off hp
    have hp' : MemPlace.cell b off ∈ before := by rw [hps]; simpa using hp
    rw [hb.frozen (p := ⟨b, off, none⟩) (lt _ hp')]
    exact hz b off hp'
  · intro ha
    have h := hn ha
    rw [hps] at h
    simpa using h
  · intro p hp _
    rw [hps]
    simpa using hp

end
section
variable {H : Type} {enc : TypeId × Value → H}
theorem trodAll_stays {P : Program} (hl : laidOutB P = true) {W W' : World} {sp : Nat → Bool} (hb : Below W.heap.size W W') : ∀ {ts : List TypeId} {vs : List Value} {ds : List (DataW H)} {ps : List MemPlace}, (ts.all fun t => P.readableRec t && decide (t < P.types.size)) = true →
    DataW.TrodAll enc P W 0 (fun _ => true) true ts vs ds ps → (∀ x ∈ ps, x.block < W.heap.size) → (∀ x ∈ ps, sp x.block = true) → DataW.TrodAll enc P W' 0 sp true ts vs ds ps := by
  intro ts
  induction ts with
  | nil =>
    intro vs ds ps _ h _ _
    cases vs with
    | nil => cases ds with
      | nil => exact h
      | cons => exact h.elim
    | cons => exact h.elim
  | cons t ts ih =>
    intro vs ds ps hr h hlt hs
    cases vs with
    | nil => exact h.elim
    | cons v vs => cases ds with
      | nil => exact h.elim
      | cons d ds =>
        obtain ⟨p, q, h1, h2, rfl⟩ := h
        simp only [List.all_cons, Bool.and_eq_true, decide_eq_true_eq] at hr
        exact ⟨p, q, WideElems.Trod_stays hl hr.1.1 hr.1.2 h1 (fun x hx => hb.same (hlt x (List.mem_append_left _ hx))) (fun x hx => hs x (List.mem_append_left _ hx)),
          ih hr.2 h2 (fun x hx => hlt x (List.mem_append_right _ hx)) (fun x hx => hs x (List.mem_append_right _ hx)), rfl⟩


set_option maxRecDepth 100000 in
theorem bytes_of {W : World} {n : Nat} {c : Value} {y : DataW H × List MemPlace} (h : DataW.trod enc Try.prog W 0 (fun _ => true) true n 22 [c] = some y) : ∃ m f, BA W c m f ∧ m ≤ maxLen := by
  rcases open_ints Try.underlying22 Try.underlying5 cells5 h with ⟨hcs, hx⟩ | ⟨a, len', cap', zs, hcs, _, hl, hm, hz, hx, hcell, hwz⟩
  · obtain rfl : c = .slice none 0 0 := by simpa using hcs
    exact ⟨0, fun _ => 0, ⟨none, 0, rfl, Nat.le_refl _, fun i hi => absurd hi (Nat.not_lt_zero i)⟩, Nat.zero_le _⟩
  · obtain rfl : c = .slice (some a) len' cap' := by simpa using hcs
    simp only [if_true] at hz
    refine ⟨len', fun i => zs.getD i 0, ⟨_, _, rfl, hl, fun i hi => ?_⟩, Nat.le_trans hl hm⟩
    obtain ⟨ab, ao, spot⟩ := a
    have hspot : spot = none := by simpa [Addr.add] using World.cell?_spot (hcell 0 (by omega))
    subst hspot
    have hc := hcell i (by omega)
    rw [Addr.add_lit] at hc
    refine ⟨⟨ab, ao, rfl, hc⟩, ?_⟩
    have hb := hwz (zs.getD i 0) (by
      rw [List.getD_eq_getElem?_getD, List.getElem?_eq_getElem (show i < zs.length by omega)]
      exact List.getElem_mem _)
    simp only [Lit.wf, IntKind.min, IntKind.max, IntKind.signed, IntKind.bits] at hb
    simp at hb
    exact ⟨hb.1, by have := hb.2; show zs.getD i 0 < 256; rw [List.getD_eq_getElem?_getD]; omega⟩


set_option maxRecDepth 100000 in
/-- Bytes that came in. -/
theorem open_bytes {W : World} {base : Nat} {v : Value} {d : DataW H} {p : List MemPlace} (hval : Value.okWide Try.prog W .any base 22 v) (h : DataW.Trod enc Try.prog W 0 (fun _ => true) true 22 v d p) : ∃ m f, BA W v m f ∧ m ≤ maxLen := by
  obtain ⟨a1, len, cap, rfl⟩ := okWide_slice Try.underlying22 hval
  obtain ⟨fuel, hf⟩ := h
  simp only [Value.cells] at hf
  exact bytes_of hf

end
end Go.Proofs.Ytkhjkemllgjfmaa

/- Aid for the rows: a media file read off an argument. -/
namespace Go.Proofs.Ytkhjkemllgjfmaa
open Go.ChangeShapes Go.WideShapes Go.ChangeAt Go.RowKit
set_option linter.unusedVariables false

theorem cellsT9 : Try.prog.cellsOf 9 = 1 := by kernel_rfl
theorem cellsT2 : Try.prog.cellsOf 2 = 1 := by kernel_rfl
theorem cellsT4 : Try.prog.cellsOf 4 = 1 := by kernel_rfl
theorem cellsT22 : Try.prog.cellsOf 22 = 1 := by kernel_rfl
theorem cellsT35 : Try.prog.cellsOf 35 = 1 := by kernel_rfl
theorem cellsT45 : Try.prog.cellsOf 45 = 1 := by kernel_rfl
theorem cellsT46 : Try.prog.cellsOf 46 = 1 := by kernel_rfl
theorem cellsT37 : Try.prog.cellsOf 37 = 2 := by kernel_rfl
theorem cellsT48 : Try.prog.cellsOf 48 = 5 := by kernel_rfl
theorem cellsT61 : Try.prog.cellsOf 61 = 2 := by kernel_rfl
theorem cellsT73 : Try.prog.cellsOf 73 = 4 := by kernel_rfl

section
variable {H : Type} {enc : TypeId × Value → H}

/-- A slice whose elements have k cells each. -/
theorem slice_at {W : World} {n : Nat} {c : Value} {t e : TypeId} {k : Nat} {y : DataW H × List MemPlace} (ht : Try.prog.underlying t = some (.slice e)) (hC : Try.prog.cellsOf e = k) (hk : 0 < k) (h : DataW.trod enc Try.prog W 0 (fun _ => true) true n t [c] = some y) :
    ∃ ao len cap, c = .slice ao len cap ∧ len ≤ cap ∧ len ≤ maxLen ∧ ∀ i, i < len → ∃ b o cs' n' y', ao = some ⟨b, o, none⟩ ∧ cs'.length = k ∧ (∀ j, j < k → W.cell? ⟨b, o + i * k + j, none⟩ = cs'[j]?) ∧ DataW.trod enc Try.prog W 0 (fun _ => true) true n' e cs' = some y' := by
  rcases Go.Deep.open_slice ht h with ⟨hcs, _⟩ | ⟨a, len, cap, m, n', D, Pl, hcs, _, hl, hm, hmm, _, hi⟩
  · obtain rfl : c = .slice none 0 0 := by simpa using hcs
    exact ⟨none, 0, 0, rfl, Nat.le_refl _, Nat.zero_le _, fun i hi => absurd hi (Nat.not_lt_zero i)⟩
  · obtain rfl : c = .slice (some a) len cap := by simpa using hcs
    simp only [if_true] at hmm
    subst hmm
    refine ⟨_, len, m, rfl, hl, Nat.le_trans hl hm, fun i hil => ?_⟩
    obtain ⟨ab, ao, spot⟩ := a
    have hspot : spot = none := by
      obtain ⟨cs0, hc0, _⟩ := hi 0 (by omega)
      rw [hC] at hc0
      obtain ⟨_, hl0, hat0⟩ := World.cells?_some hc0
      have h0 := hat0 0 hk
      rw [List.getElem?_eq_getElem (by omega)] at h0
      have := World.cell?_spot h0
      simpa [Addr.add] using this
    subst hspot
    obtain ⟨cs', hc', ht'⟩ := hi i (by omega)
    rw [hC] at hc'
    obtain ⟨_, hl', hat⟩ := World.cells?_some hc'
    refine ⟨ab, ao, cs', n', _, rfl, hl', fun j hj => ?_, ht'⟩
    have := hat j hj
    rw [Addr.add_lit, Addr.add_lit] at this
    exact this

set_option maxRecDepth 100000 in
theorem samples_of {W : World} {n : Nat} {c : Value} {y : DataW H × List MemPlace} (h : DataW.trod enc Try.prog W 0 (fun _ => true) true n 45 [c] = some y) : ∃ m S, SA W c m S ∧ m ≤ maxLen := by
  obtain ⟨ao, len, cap, rfl, hl, hm, hi⟩ := slice_at Try.underlying45 cellsT73 (by decide) h
  have key : ∀ i : Nat, ∃ s : Sm, i < len → ∃ b o x, ao = some ⟨b, o, none⟩ ∧ W.cell? ⟨b, o + i * 4, none⟩ = some x ∧ W.cell? ⟨b, o + i * 4 + 1, none⟩ = some (.int .i64 s.dur) ∧ W.cell? ⟨b, o + i * 4 + 2, none⟩ = some (.int .i64 s.shift) ∧ W.cell? ⟨b, o + i * 4 + 3, none⟩ = some (.bool s.sync) ∧ BA W x s.n s.D := by
    intro i
    by_cases hil : i < len
    · obtain ⟨b, o, cs', n', y', rfl, hlen, hat, ht⟩ := hi i hil
      obtain ⟨xs, n2, _, hx, _, hxl, hg⟩ := DataW.trod_struct Try.underlying73 ht
      match cs', hlen with
      | [c0, c1, c2, c3], _ =>
        match xs, hxl with
        | [y0, y1, y2, y3], _ =>
          have h0 := hg 0 _ rfl
          have h1 := hg 1 _ rfl
          have h2 := hg 2 _ rfl
          have h3 := hg 3 _ rfl
          simp [cellsT22, cellsT2, cellsT4] at h0 h1 h2 h3
          obtain ⟨a, e1, _⟩ := DataW.trod_int Try.underlying2 h1
          obtain ⟨b', e2, _⟩ := DataW.trod_int Try.underlying2 h2
          obtain ⟨d, e3, _⟩ := DataW.trod_bool Try.underlying4 h3
          obtain rfl : c1 = .int .i64 a := by simpa using e1
          obtain rfl : c2 = .int .i64 b' := by simpa using e2
          obtain rfl : c3 = .bool d := by simpa using e3
          obtain ⟨m0, f0, b0, _⟩ := bytes_of h0
          exact ⟨⟨m0, f0, a, b', d⟩, fun _ => ⟨b, o, c0, rfl, hat 0 (by decide), hat 1 (by decide), hat 2 (by decide), hat 3 (by decide), b0⟩⟩
    · exact ⟨⟨0, fun _ => 0, 0, 0, false⟩, fun h => absurd h hil⟩
  exact ⟨len, fun i => Classical.choose (key i), ⟨ao, cap, rfl, hl, fun i hil => Classical.choose_spec (key i) hil⟩, hm⟩

set_option maxRecDepth 100000 in
theorem edits_of {W : World} {n : Nat} {c : Value} {y : DataW H × List MemPlace} (h : DataW.trod enc Try.prog W 0 (fun _ => true) true n 46 [c] = some y) : ∃ m S, EA W c m S ∧ m ≤ maxLen := by
  obtain ⟨ao, len, cap, rfl, hl, hm, hi⟩ := slice_at Try.underlying46 cellsT61 (by decide) h
  have key : ∀ i : Nat, ∃ s : Ed, i < len → ∃ b o, ao = some ⟨b, o, none⟩ ∧ W.cell? ⟨b, o + i * 2, none⟩ = some (.int .i64 s.dur) ∧ W.cell? ⟨b, o + i * 2 + 1, none⟩ = some (.int .i64 s.time) := by
    intro i
    by_cases hil : i < len
    · obtain ⟨b, o, cs', n', y', rfl, hlen, hat, ht⟩ := hi i hil
      obtain ⟨xs, n2, _, hx, _, hxl, hg⟩ := DataW.trod_struct Try.underlying61 ht
      match cs', hlen with
      | [c0, c1], _ =>
        match xs, hxl with
        | [y0, y1], _ =>
          have h0 := hg 0 _ rfl
          have h1 := hg 1 _ rfl
          simp [cellsT2] at h0 h1
          obtain ⟨a, e0, _⟩ := DataW.trod_int Try.underlying2 h0
          obtain ⟨b', e1, _⟩ := DataW.trod_int Try.underlying2 h1
          obtain rfl : c0 = .int .i64 a := by simpa using e0
          obtain rfl : c1 = .int .i64 b' := by simpa using e1
          exact ⟨⟨a, b'⟩, fun _ => ⟨b, o, rfl, hat 0 (by decide), hat 1 (by decide)⟩⟩
    · exact ⟨⟨0, 0⟩, fun h => absurd h hil⟩
  exact ⟨len, fun i => Classical.choose (key i), ⟨ao, cap, rfl, hl, fun i hil => Classical.choose_spec (key i) hil⟩, hm⟩

set_option maxRecDepth 100000 in
theorem tracks_of {W : World} {n : Nat} {c : Value} {y : DataW H × List MemPlace} (h : DataW.trod enc Try.prog W 0 (fun _ => true) true n 35 [c] = some y) : ∃ m T, TSA W c m T ∧ m ≤ maxLen := by
  obtain ⟨ao, len, cap, rfl, hl, hm, hi⟩ := slice_at Try.underlying35 cellsT48 (by decide) h
  have key : ∀ i : Nat, ∃ T : Tr, i < len → ∃ b o c0 c1 c2 c3 c4, ao = some ⟨b, o, none⟩ ∧ W.cell? ⟨b, o + i * 5, none⟩ = some c0 ∧ W.cell? ⟨b, o + i * 5 + 1, none⟩ = some c1 ∧ W.cell? ⟨b, o + i * 5 + 2, none⟩ = some c2 ∧ W.cell? ⟨b, o + i * 5 + 3, none⟩ = some c3 ∧ W.cell? ⟨b, o + i * 5 + 4, none⟩ = some c4 ∧ TC W c0 c1 c2 c3 c4 T := by
    intro i
    by_cases hil : i < len
    · obtain ⟨b, o, cs', n', y', rfl, hlen, hat, ht⟩ := hi i hil
      obtain ⟨xs, n2, _, hx, _, hxl, hg⟩ := DataW.trod_struct Try.underlying48 ht
      match cs', hlen with
      | [c0, c1, c2, c3, c4], _ =>
        match xs, hxl with
        | [y0, y1, y2, y3, y4], _ =>
          have h0 := hg 0 _ rfl
          have h1 := hg 1 _ rfl
          have h2 := hg 2 _ rfl
          have h3 := hg 3 _ rfl
          have h4 := hg 4 _ rfl
          simp [cellsT9, cellsT2, cellsT22, cellsT45, cellsT46] at h0 h1 h2 h3 h4
          obtain ⟨s, e0, _⟩ := DataW.trod_string Try.underlying9 h0
          obtain ⟨a, e1, _⟩ := DataW.trod_int Try.underlying2 h1
          obtain rfl : c0 = .string s := by simpa using e0
          obtain rfl : c1 = .int .i64 a := by simpa using e1
          obtain ⟨m2, f2, b2, _⟩ := bytes_of h2
          obtain ⟨m3, S, b3, _⟩ := samples_of h3
          obtain ⟨m4, E, b4, _⟩ := edits_of h4
          exact ⟨⟨s, a, m2, f2, m3, S, m4, E⟩, fun _ => ⟨b, o, _, _, _, _, _, rfl, hat 0 (by decide), hat 1 (by decide), hat 2 (by decide), hat 3 (by decide), hat 4 (by decide), ⟨rfl, rfl, b2, b3, b4⟩⟩⟩
    · exact ⟨⟨ByteArray.empty, 0, 0, fun _ => 0, 0, fun _ => ⟨0, fun _ => 0, 0, 0, false⟩, 0, fun _ => ⟨0, 0⟩⟩, fun h => absurd h hil⟩
  exact ⟨len, fun i => Classical.choose (key i), ⟨ao, cap, rfl, hl, fun i hil => Classical.choose_spec (key i) hil⟩, hm⟩

set_option maxRecDepth 100000 in
/-- A file that came in. -/
theorem open_file {W : World} {base : Nat} {v : Value} {d : DataW H} {p : List MemPlace} (hval : Value.okWide Try.prog W .any base 37 v) (h : DataW.Trod enc Try.prog W 0 (fun _ => true) true 37 v d p) : ∃ F, FA W v F ∧ F.nT ≤ maxLen := by
  obtain ⟨cs, rfl, hsz⟩ := okWide_struct Try.underlying37 hval
  obtain ⟨fuel, hf⟩ := h
  obtain ⟨xs, n, _, hx, _, hlen, hg⟩ := DataW.trod_struct Try.underlying37 hf
  obtain ⟨l⟩ := cs
  match l, hsz.trans cellsT37 with
  | [c0, c1], _ =>
    match xs, hlen with
    | [y0, y1], _ =>
      have h0 := hg 0 _ rfl
      have h1 := hg 1 _ rfl
      simp [Value.cells, cellsT2, cellsT35] at h0 h1
      obtain ⟨a, e0, _⟩ := DataW.trod_int Try.underlying2 h0
      obtain rfl : c0 = .int .i64 a := by simpa using e0
      obtain ⟨m, T, ht, hm⟩ := tracks_of h1
      exact ⟨⟨a, m, T⟩, ⟨_, rfl, ht⟩, hm⟩

end
end Go.Proofs.Ytkhjkemllgjfmaa
