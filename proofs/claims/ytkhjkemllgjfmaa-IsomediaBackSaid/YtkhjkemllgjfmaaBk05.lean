/- Texts of this claim joined: YO PlanC YP PlanE PlanF YQ YR. -/
import Derived.Great.BuildSlice
import Derived.Deep.CutRange
import Derived.Test.YtkhjkemllgjfmaaBk00
import Derived.Test.YtkhjkemllgjfmaaBk04
set_option linter.unusedVariables false
set_option linter.unusedSimpArgs false

/- Rows of numbers of the call's own: one grows, the others stay; the tables of a track as lists. -/
namespace Go.Proofs.Ytkhjkemllgjfmaa
open Go.RowKit
set_option linter.unusedVariables false
set_option linter.unusedSimpArgs false

def OwnI (w : World) (B : Nat) (v : Value) (L : List Int) : Prop := w.ownsRow B 2 1 v L.length (iv L)
theorem iv_append (L M : List Int) : iv (L ++ M) = iv L ++ iv M := by simp [iv]
theorem iv_one (L : List Int) : ∀ u ∈ iv L, u.oneCell' = true := fun u hu => by obtain ⟨i, _, rfl⟩ := List.mem_map.1 hu; rfl
theorem OwnI.below {w w' : World} {B : Nat} {v : Value} {L : List Int} (h : OwnI w B v L) (hb : Below w.heap.size w w') : OwnI w' B v L := owns_below h hb
theorem OwnI.mono {w : World} {B B' : Nat} {v : Value} {L : List Int} (h : OwnI w B v L) (hB : B' ≤ B) : OwnI w B' v L := owns_mono h hB
theorem OwnI.il {w : World} {B : Nat} {v : Value} {L : List Int} (h : OwnI w B v L) : IL w v L := by
  by_cases h0 : L = []
  · subst h0
    obtain ⟨a, c, rfl⟩ := owns_shapeN h
    exact ⟨a, c, rfl, Nat.zero_le _, fun i u hi => by simp at hi⟩
  · obtain ⟨g, c, rfl, hc, hx⟩ := owns_open h (List.length_pos_iff.2 h0)
    refine ⟨_, c, rfl, hc, fun i u hi => ⟨g, 0, rfl, ?_⟩⟩
    rw [Nat.zero_add]
    exact hx i _ (by simp [iv, hi])
theorem OwnI.only {w w' : World} {B g2 n c : Nat} {L : List Int} {p : Option Nat} (h : OwnI w B (.slice (some ⟨g2, 0, none⟩) n c) L) (hp : p ≠ some g2) (hg : w.grownBy w' p) : OwnI w' B (.slice (some ⟨g2, 0, none⟩) n c) L := by
  obtain ⟨h1, h2⟩ := h
  refine ⟨h1, ?_⟩
  rcases h2 with ⟨e, _⟩ | ⟨g, cap, cur, e, hB, hb, h3⟩
  · simp at e
  · simp only [Value.slice.injEq, Option.some.injEq, Addr.mk.injEq, and_true] at e
    obtain ⟨rfl, rfl, rfl⟩ := e
    exact .inr ⟨g2, c, cur, rfl, hB, (hg.block g2 (Array.getElem?_eq_some_iff.1 hb).1 (fun e => hp e.symm)).trans hb, h3⟩
theorem OwnI.lt {w : World} {B g n c : Nat} {L : List Int} (h : OwnI w B (.slice (some ⟨g, 0, none⟩) n c) L) : B ≤ g ∧ g < w.heap.size := by
  rcases h.2 with ⟨e, _⟩ | ⟨g', cap, cur, e, hB, hb, _⟩
  · simp at e
  · simp only [Value.slice.injEq, Option.some.injEq, Addr.mk.injEq, and_true] at e
    obtain ⟨rfl, _, _⟩ := e
    exact ⟨hB, (Array.getElem?_eq_some_iff.1 hb).1⟩

theorem wpList_advI (w : World) {ops : Array Oper} {rest : List Oper} {o : Oper} {a : Act} {Q : Exit → Act → World → Prop} (hgd : o.guard = none) (s x : Operand)
    (ho : o.op = .call { callee := .builtin .append, args := #[s, x], argTypes := #[51, 51] }) (B g n c : Nat) (L : List Int) (hs : a.eval s = .slice (some ⟨g, 0, none⟩) n c) (hown : OwnI w B (.slice (some ⟨g, 0, none⟩) n c) L)
    (b cx : Nat) (m : Int) (hx : a.eval x = .slice (some ⟨b, 0, none⟩) 1 cx) (hM : w.cell? ⟨b, 0, none⟩ = some (.int .i64 m)) (hk : L.length + 1 ≤ 100000000) (hB : B ≤ w.heap.size)
    (h : ∀ g' c' w', OwnI w' B (.slice (some ⟨g', 0, none⟩) (n + 1) c') (L ++ [m]) → w.grownBy w' (some g) → (g' = g ∨ w.heap.size ≤ g') → wpList Try.prog ops Q rest (a.put o.dst (.slice (some ⟨g', 0, none⟩) (n + 1) c')) w') : wpList Try.prog ops Q (o :: rest) a w := by
  obtain ⟨i0, hi, hz0, hz1, hz2⟩ := info_parts info2
  have hn : n = L.length := by
    obtain ⟨a', c', e⟩ := owns_shapeN hown
    simp only [Value.slice.injEq] at e
    exact e.2.1
  subst hn
  refine wpList_append_lies _ hgd s x 51 ho B 2 i0 (.int .i64 0) 1 8 Try.underlying51 hi hz0 hz1 hz2 rfl (by decide) _ L.length (iv L) hs hown ⟨b, 0, none⟩ 1 cx [.int .i64 m] hx rfl (fun j u hj => ?_) (fun u hu => by simp at hu; subst hu; rfl) (by decide) (by unfold maxLen; omega) (by omega) hB w.heap.size rfl (fun g' cap w' hown' hg hor hlt => ?_)
  · have : j = 0 := by
      have := (List.getElem?_eq_some_iff.1 hj).1
      simp at this
      exact this
    subst this
    simp at hj
    subst hj
    rw [Addr.add_lit]
    exact hM
  · refine h g' cap w' (by unfold OwnI; rw [iv_append, List.length_append]; exact hown') hg ?_
    rcases hor with e | e
    · have : (some g : Option Nat) = some g' := e
      exact .inl (Option.some.inj this).symm
    · exact .inr (by omega)

/-- The tables as lists of numbers. -/
def syncL (S : Nat → Sm) : Nat → List Int
  | 0 => []
  | k + 1 => syncL S k ++ (if (S k).sync then [(k : Int) + 1] else [])
def sizeL (S : Nat → Sm) : Nat → List Int
  | 0 => []
  | k + 1 => sizeL S k ++ [((S k).n : Int)]
def placeL (S : Nat → Sm) (first : Int) : Nat → List Int
  | 0 => []
  | k + 1 => placeL S first k ++ [first + (sizeN S k : Nat)]
theorem syncL_length (S : Nat → Sm) (k : Nat) : (syncL S k).length ≤ k := by
  induction k with
  | zero => simp [syncL]
  | succ k ih => simp only [syncL, List.length_append]; split <;> simp <;> omega
theorem sizeL_length (S : Nat → Sm) (k : Nat) : (sizeL S k).length = k := by
  induction k with
  | zero => rfl
  | succ k ih => simp [sizeL, ih]
theorem placeL_length (S : Nat → Sm) (f : Int) (k : Nat) : (placeL S f k).length = k := by
  induction k with
  | zero => rfl
  | succ k ih => simp [placeL, ih]
end Go.Proofs.Ytkhjkemllgjfmaa

/- The law for operations that come up in any order, once more: an operation may go on in the blocks of the one it uses up. -/
namespace Go.Plan
open Go
section
variable {P : Program} {ops : Array Oper} {Q : Exit → Act → World → Prop} {S : World → Prop} {z : Nat} {C : Act → World → Prop}

/-- Of the blocks of w only those of R may have changed. -/
structure Touch (R : Nat → Prop) (w w' : World) : Prop where
  os : w'.os = w.os
  tape : w'.tape = w.tape
  output : w'.output = w.output
  size : w.heap.size ≤ w'.heap.size
  block : ∀ k, k < w.heap.size → ¬ R k → w'.heap[k]? = w.heap[k]?
theorem Touch.below {R : Nat → Prop} {B : Nat} {w w' : World} (h : Touch R w w') (hR : ∀ b, R b → B ≤ b) (hB : B ≤ w.heap.size) : RowKit.Below B w w' :=
  ⟨h.os, h.tape, h.output, h.size, fun k hk => h.block k (by omega) (fun hr => by have := hR k hr; omega)⟩

/-- What operation i may go on in. -/
def terr (pred : Nat → List Nat) (R : Nat → Nat → Prop) (i : Nat) : Nat → Prop := fun b => ∃ k, k ∈ pred i ∧ R k b
def grown (X : Nat → Prop) (w w' : World) : Nat → Prop := fun b => X b ∨ (w.heap.size ≤ b ∧ b < w'.heap.size)

/-- Who uses up whom: each is used up once, by one that looks at it. -/
def predOK (ops : Array Oper) (pred : Nat → List Nat) (T : List Nat) : Bool :=
  T.all fun i => (pred i).all fun k => T.contains k && (match ops[i]?, dstOf ops k with | some o, some e => (o.looksAt ops).contains e | _, _ => false) && T.all fun j => j == i || !(pred j).contains k

structure OwnInv (ops : Array Oper) (S : World → Prop) (G : Nat → (Nat → Prop) → Value → World → Prop) (pred : Nat → List Nat) (listed0 : Array Bool) (T : List Nat) (a0 : Act) (w0 : World)
    (D : List Nat) (vs : Nat → Value) (R : Nat → Nat → Prop) (listed : Array Bool) (a : Act) (w : World) : Prop where
  sub : ∀ x ∈ D, x ∈ T
  nodup : D.Nodup
  size : listed.size = ops.size
  marks : ∀ j, j < ops.size → listed.getD j false = (listed0.getD j false || D.contains j)
  closed : ∀ (j : Nat) (o : Oper), ops[j]? = some o → listed.getD j false = true → ∀ e ∈ o.after, Region.binds .any e = true → listed.getD e.on false = true
  defers : a.defers = a0.defers
  tmps : a.tmps.size = a0.tmps.size
  slots : ∀ k, a.tmps[k]? = slotBy ops vs D a0 k
  held : ∀ k ∈ D, (∀ j ∈ D, k ∉ pred j) → G k (R k) (vs k) w
  ter : ∀ k ∈ D, ∀ b, R k b → w0.heap.size ≤ b ∧ b < w.heap.size
  apart : ∀ i ∈ D, ∀ k ∈ D, i ≠ k → (∀ j ∈ D, i ∉ pred j) → (∀ j ∈ D, k ∉ pred j) → ∀ b, R i b → ¬ R k b
  ext : Ext w0 w
  S : S w

theorem own_phase {G : Nat → (Nat → Prop) → Value → World → Prop} {pred : Nat → List Nat} {listed0 : Array Bool} {n : Nat} {T : List Nat} (F : FreshFacts ops listed0 n T) (hP : ∀ c a w, ¬ Q (.panic c) a w) {a0 : Act} (hn : a0.tmps.size = n) {w0 : World}
    (hpr : predOK ops pred T = true)
    (hSm : ∀ w w', S w → RowKit.Below w0.heap.size w w' → S w') (hGm : ∀ i R X v w w', G i R v w → Touch X w w' → (∀ b, R b → ¬ X b ∧ b < w.heap.size) → (∀ b, X b → w0.heap.size ≤ b) → w0.heap.size ≤ w.heap.size → G i R v w')
    (hstep : ∀ i o, i ∈ T → ops[i]? = some o → ∀ (vs : Nat → Value) (w : World) (R : Nat → Nat → Prop), S w → Ext w0 w → (∀ k ∈ T, k ∈ pred i → G k (R k) (vs k) w ∧ ∀ b, R k b → w0.heap.size ≤ b ∧ b < w.heap.size) →
      o.wp P (over ops vs T a0) w (fun a' w' => ∃ v, a' = (over ops vs T a0).put o.dst v ∧ G i (grown (terr pred R i) w w') v w' ∧ Touch (terr pred R i) w w') Q ∨ (o.asks P (over ops vs T a0) w ∧ LetsOut Q)) (fuel : Nat)
    (hfin : ∀ (vs : Nat → Value) (R : Nat → Nat → Prop) (w : World), S w → Ext w0 w → (∀ k ∈ T, (∀ j ∈ T, k ∉ pred j) → G k (R k) (vs k) w) → (∀ k ∈ T, ∀ b, R k b → w0.heap.size ≤ b ∧ b < w.heap.size) →
      (∀ i ∈ T, ∀ k ∈ T, i ≠ k → (∀ j ∈ T, i ∉ pred j) → (∀ j ∈ T, k ∉ pred j) → ∀ b, R i b → ¬ R k b) →
      anyS P ops Q S z fuel (markAll listed0 T) (over ops vs T a0) w) :
    ∀ (m : Nat) (D : List Nat) (vs : Nat → Value) (R : Nat → Nat → Prop) (listed : Array Bool) (a : Act) (w : World), D.length + m = T.length →
      OwnInv ops S G pred listed0 T a0 w0 D vs R listed a w → anyS P ops Q S z (fuel + m) listed a w := by
  have hprK : ∀ i ∈ T, ∀ k, k ∈ pred i → k ∈ T ∧ (∃ o e, ops[i]? = some o ∧ dstOf ops k = some e ∧ e ∈ o.looksAt ops) ∧ ∀ j ∈ T, k ∈ pred j → j = i := by
    intro i hi k hk
    have h := (List.all_eq_true.1 ((List.all_eq_true.1 hpr) i hi)) k hk
    simp only [Bool.and_eq_true, List.contains_eq_mem, decide_eq_true_eq, List.all_eq_true, Bool.or_eq_true, beq_iff_eq, Bool.not_eq_true', decide_eq_false_iff_not] at h
    refine ⟨h.1.1, ?_, fun j hj hjk => ?_⟩
    · have h2 := h.1.2
      split at h2
      · rename_i o e ho he
        exact ⟨o, e, ho, he, by simpa using h2⟩
      · cases h2
    · rcases h.2 j hj with h3 | h3
      · exact h3
      · exact absurd hjk h3
  have hdist : ∀ t, ∀ i ∈ T, ∀ j ∈ T, dstOf ops i = some t → dstOf ops j = some t → i = j := by
    intro t i hi j hj h1 h2
    by_cases hij : i = j
    · exact hij
    · obtain ⟨o, d, ho, hd, _, _, _, _, _, hk⟩ := F.op j hj
      obtain ⟨e, he, hed, _⟩ := hk i hi hij
      have : dstOf ops j = some d := by simp [dstOf, ho, hd]
      rw [this] at h2
      rw [he] at h1
      cases h1; cases h2
      exact absurd rfl hed
  have hdist' : ∀ i ∈ T, ∀ j ∈ T, i ≠ j → dstOf ops i ≠ dstOf ops j ∨ dstOf ops i = none := by
    intro i hi j hj hij
    cases h : dstOf ops i with
    | none => exact .inr rfl
    | some t => exact .inl fun e => hij (hdist t i hi j hj h e.symm)
  intro m
  induction m with
  | zero =>
    intro D vs R listed a w hlen I
    have hall : ∀ t ∈ T, t ∈ D := by
      intro t ht
      by_cases htD : t ∈ D
      · exact htD
      · exfalso
        have hsub : (t :: D).Nodup := List.nodup_cons.2 ⟨htD, I.nodup⟩
        have := List.Nodup.length_le_of_subset hsub (l₂ := T) (fun x hx => by
          rcases List.mem_cons.1 hx with rfl | hx
          · exact ht
          · exact I.sub x hx)
        simp only [List.length_cons] at this
        omega
    have ea : a = over ops vs T a0 := by
      have h1 : a.tmps = (over ops vs T a0).tmps := by
        apply Array.ext_getElem?
        intro k
        rw [I.slots k, over_get vs k T a0 hdist' F.nodup]
        exact slotBy_agree I.sub (hdist k) (fun x hx _ => hall x hx)
      have h2 : a.defers = (over ops vs T a0).defers := by rw [I.defers, over_defers]
      cases a; cases hov : over ops vs T a0; rw [hov] at h1 h2; simp only at h1 h2; rw [h1, h2]
    have el : listed = markAll listed0 T := by
      apply Array.ext
      · rw [markAll_size, I.size, F.size]
      · intro j h1 h2
        have h3 := I.marks j (by rw [← I.size]; exact h1)
        have h4 := markAll_get (l := listed0) j T (by rw [F.size, ← I.size]; exact h1)
        have h5 : D.contains j = T.contains j := by
          rw [Bool.eq_iff_iff]; simp only [List.contains_eq_mem, decide_eq_true_eq]
          exact ⟨I.sub j, hall j⟩
        rw [h5, ← h4] at h3
        simpa [h1, h2] using h3
    rw [ea, el]
    exact hfin vs R w I.S I.ext (fun k hk hl => I.held k (hall k hk) (fun j hj => hl j (I.sub j hj))) (fun k hk => I.ter k (hall k hk)) (fun i hi' k hk hne hli hlk => I.apart i (hall i hi') k (hall k hk) hne (fun j hj => hli j (I.sub j hj)) (fun j hj => hlk j (I.sub j hj)))
  | succ m ih =>
    intro D vs R listed a w hlen I
    have hex : ∃ t ∈ T, t ∉ D := by
      refine Classical.byContradiction fun hno => ?_
      have hall : ∀ t ∈ T, t ∈ D := fun t ht => Classical.byContradiction fun h => hno ⟨t, ht, h⟩
      have := List.Nodup.length_le_of_subset F.nodup (l₂ := D) hall
      omega
    have up : ∀ j, listed0.getD j false = true → listed.getD j false = true := by
      intro j hj
      have hlt : j < ops.size := by
        rw [← F.size]
        exact Classical.byContradiction fun h => by simp [Array.getElem?_eq_none (Nat.le_of_not_lt h)] at hj
      rw [I.marks j hlt, hj]; rfl
    have upD : ∀ j ∈ D, listed.getD j false = true := by
      intro j hj
      obtain ⟨o, _, ho, _⟩ := F.op j (I.sub j hj)
      rw [I.marks j (Array.getElem?_eq_some_iff.1 ho).1]
      simp [hj]
    have undone : ∀ t ∈ T, t ∉ D → listed.getD t true = false := by
      intro t ht htD
      obtain ⟨o, _, ho, _, _, _, _, _, h0, _⟩ := F.op t ht
      have hlt := (Array.getElem?_eq_some_iff.1 ho).1
      have h1 := I.marks t hlt
      have h0' : listed0.getD t false = false := by
        have : t < listed0.size := by rw [F.size]; exact hlt
        simpa [this] using h0
      rw [h0'] at h1
      have : t < listed.size := by rw [I.size]; exact hlt
      simpa [this, htD] using h1
    obtain ⟨t0, ht0, ht0D, o0, ho0, hall0⟩ := topo_next F.topo D listed up upD hex
    have hne : Region.ready .any ops listed ≠ [] := by
      intro h
      have : t0 ∈ Region.ready .any ops listed := mem_ready.2 ⟨undone t0 ht0 ht0D, o0, ho0, hall0⟩
      rw [h] at this
      cases this
    refine ⟨fun h => absurd h hne, fun i hir => ?_⟩
    obtain ⟨hun, o, ho, hafter⟩ := mem_ready.1 hir
    have hlt := (Array.getElem?_eq_some_iff.1 ho).1
    have hiT : i ∈ T := by
      rcases F.rest i hlt with h | h | h
      · exact h
      · exfalso
        have h' : listed0.getD i false = true := by
          have : i < listed0.size := by rw [F.size]; exact hlt
          simpa [this] using h
        have h2 := up i h'
        have : i < listed.size := by rw [I.size]; exact hlt
        simp [this] at h2 hun
        rw [h2] at hun; cases hun
      · exfalso
        have h1 := waits_listed I.closed ops.size i o ho hafter t0 (h t0 ht0)
        have h2 := undone t0 ht0 ht0D
        obtain ⟨_, _, hot, _⟩ := F.op t0 ht0
        have : t0 < listed.size := by rw [I.size]; exact (Array.getElem?_eq_some_iff.1 hot).1
        simp [this] at h1 h2
        rw [h1] at h2; cases h2
    have hiD : i ∉ D := by
      intro h
      have h1 := upD i h
      have : i < listed.size := by rw [I.size]; exact hlt
      simp [this] at h1 hun
      rw [h1] at hun; cases hun
    obtain ⟨o', d, ho', hd, hdn, hdl, hg, hsel, _, hk⟩ := F.op i hiT
    obtain rfl : o = o' := Option.some.inj (ho.symm.trans ho')
    have hid : dstOf ops i = some d := by simp [dstOf, ho, hd]
    -- a slot that o looks at holds what 'over' says
    have same : ∀ t, t ∈ o.looksAt ops → a.tmps[t]? = (over ops vs T a0).tmps[t]? := by
      intro t ht
      rw [I.slots t, over_get vs t T a0 hdist' F.nodup]
      refine slotBy_agree I.sub (hdist t) (fun k hkT hkt => ?_)
      by_cases hki : k = i
      · subst hki
        rw [hid] at hkt; cases hkt
        exact absurd ht hdl
      · obtain ⟨e, he, _, hl⟩ := hk k hkT hki
        rw [hkt] at he; cases he
        obtain ⟨x, hx, hxb, hxk⟩ := hl ht
        have := hafter x hx hxb
        rw [hxk] at this
        exact Classical.byContradiction fun hkD => by
          have h2 := undone k hkT hkD
          obtain ⟨_, _, hot, _⟩ := F.op k hkT
          have h3 : k < listed.size := by rw [I.size]; exact (Array.getElem?_eq_some_iff.1 hot).1
          simp [h3] at this h2
          rw [this] at h2; cases h2
    have heval : execOp (over ops vs T a0).eval o = execOp a.eval o := execOp_congr o hsel fun x hx => by
      cases x with
      | tmp t =>
        have := same t (List.mem_append_left _ (List.mem_filterMap.2 ⟨.tmp t, by simpa using hx, rfl⟩))
        simp [Act.eval, Array.getD_eq_getD_getElem?, this]
      | _ => rfl
    have inD : ∀ k ∈ T, ∀ e, dstOf ops k = some e → e ∈ o.looksAt ops → k ∈ D := fun k hkT e he hel => by
      by_cases hki : k = i
      · subst hki
        rw [hid] at he; cases he
        exact absurd hel hdl
      · obtain ⟨e', he', _, hl⟩ := hk k hkT hki
        rw [he] at he'; cases he'
        obtain ⟨x, hx, hxb, hxk⟩ := hl hel
        have := hafter x hx hxb
        rw [hxk] at this
        exact Classical.byContradiction fun hkD => by
          have h2 := undone k hkT hkD
          obtain ⟨_, _, hot, _⟩ := F.op k hkT
          have h3 : k < listed.size := by rw [I.size]; exact (Array.getElem?_eq_some_iff.1 hot).1
          simp [h3] at this h2
          rw [this] at h2; cases h2
    have preds : ∀ k, k ∈ pred i → k ∈ D ∧ k ≠ i ∧ ∀ j ∈ D, k ∉ pred j := fun k hk => by
      obtain ⟨hkT, ⟨o', e, ho', hke, hel⟩, huniq⟩ := hprK i hiT k hk
      obtain rfl : o = o' := Option.some.inj (ho.symm.trans ho')
      have hkD := inD k hkT e hke hel
      exact ⟨hkD, fun e => hiD (e ▸ hkD), fun j hj h => hiD ((huniq j (I.sub j hj) h) ▸ hj)⟩
    have hst := hstep i o hiT ho vs w R I.S I.ext (fun k hkT hk => ⟨I.held k (preds k hk).1 (preds k hk).2.2, I.ter k (preds k hk).1⟩)
    have hput : ∀ (b : Act) (v u : Value), b.tmps.size = n → b.put o.dst v = b.put o.dst u → v = u := by
      intro b v u hb h
      have h1 : (b.put o.dst v).tmps[d]? = (b.put o.dst u).tmps[d]? := by rw [h]
      rw [put_get, put_get, if_pos ⟨hd, by rw [hb]; exact hdn⟩, if_pos ⟨hd, by rw [hb]; exact hdn⟩] at h1
      exact Option.some.inj h1
    have hov : (over ops vs T a0).tmps.size = n := by rw [over_size]; exact hn
    have hwp : o.wp P a w (fun a' w' => ∃ v, a' = a.put o.dst v ∧ G i (grown (terr pred R i) w w') v w' ∧ Touch (terr pred R i) w w') Q ∨ (o.asks P a w ∧ LetsOut Q) := by
      refine hst.imp (fun hst => ?_) (fun h => ⟨by unfold Oper.asks at *; rw [← heval]; exact h.1, h.2⟩)
      refine wp_carry (a := over ops vs T a0) heval hP (fun v w' h => ?_) (fun dd w' h => ?_) hst
      · obtain ⟨u, hu, h2⟩ := h
        obtain rfl := hput _ _ _ hov hu
        exact ⟨v, rfl, h2⟩
      · obtain ⟨u, hu, _⟩ := h
        have : ({ over ops vs T a0 with defers := dd :: (over ops vs T a0).defers }.put o.dst undef).defers = ((over ops vs T a0).put o.dst u).defers := by rw [hu]
        rw [hd] at this
        simp [Act.put] at this
    unfold wpOp
    rw [ho]
    simp only
    rw [if_pos (by simp [Region.wanted, hg])]
    refine hwp.imp (fun hwp => Oper.wp_mono (fun a' w' h => ?_) hwp) id
    obtain ⟨v, rfl, hG, hE⟩ := h
    have hX : ∀ b, terr pred R i b → w0.heap.size ≤ b ∧ b < w.heap.size := fun b hb => by
      obtain ⟨k, hk, hb⟩ := hb
      exact I.ter k (preds k hk).1 b hb
    have hE0 : RowKit.Below w0.heap.size w w' := hE.below (fun b hb => (hX b hb).1) I.ext.size
    have hS' := hSm _ _ I.S hE0
    refine ⟨fun _ => hS', ?_⟩
    refine ih (i :: D) (fun j => if j = i then v else vs j) (fun j => if j = i then grown (terr pred R i) w w' else R j) _ _ w' (by simp only [List.length_cons]; omega) ?_
    refine ⟨fun x hx => ?_, List.nodup_cons.2 ⟨hiD, I.nodup⟩, by simp [I.size], fun j hj => ?_, fun j oj hoj hl e he hb => ?_, ?_, by rw [put_size]; exact I.tmps, fun k => ?_, fun k hk' hlv => ?_, fun k hk' b hb => ?_, fun x hx y hy hxy hlx hly b hbx hby => ?_, RowKit.Below.trans I.ext hE0, hS'⟩
    · rcases List.mem_cons.1 hx with rfl | hx
      · exact hiT
      · exact I.sub x hx
    · by_cases hij : i = j
      · subst hij
        have : i < listed.size := by rw [I.size]; exact hlt
        simp [this]
      · rw [getD_set_ne false hij, I.marks j hj]
        simp [Ne.symm hij]
    · by_cases hij : i = j
      · subst hij
        obtain rfl : o = oj := Option.some.inj (ho.symm.trans hoj)
        exact getD_set_true (hafter e he hb)
      · rw [getD_set_ne false hij] at hl
        exact getD_set_true (I.closed j oj hoj hl e he hb)
    · rw [hd]; exact I.defers
    · rw [put_get, hd]
      by_cases hdk : d = k
      · subst hdk
        unfold slotBy
        rw [List.find?_cons, show (dstOf ops i == some d) = true by simp [hid]]
        simp only [true_and, if_true]
        rw [I.tmps]
        by_cases hlt2 : d < a0.tmps.size
        · rw [if_pos hlt2, if_pos hlt2]
        · rw [hn] at hlt2; exact absurd hdn hlt2
      · rw [if_neg (fun h => hdk (Option.some.inj h.1)), I.slots k]
        unfold slotBy
        rw [List.find?_cons, show (dstOf ops i == some k) = false by simp [hid, hdk]]
        cases hf : D.find? (fun i => dstOf ops i == some k) with
        | none => rfl
        | some j =>
          have hji : j ≠ i := fun e => hiD (e ▸ List.mem_of_find?_eq_some hf)
          simp [hji]
    · rcases List.mem_cons.1 hk' with rfl | hk'
      · simp only [if_true]
        exact hG
      · have hki : k ≠ i := fun e => hiD (e ▸ hk')
        simp only [hki, if_false]
        have hlD : ∀ j ∈ D, k ∉ pred j := fun j hj => hlv j (List.mem_cons_of_mem _ hj)
        refine hGm _ _ _ _ _ _ (I.held k hk' hlD) hE (fun b hb => ⟨fun hbx => ?_, (I.ter k hk' b hb).2⟩) (fun b hb => (hX b hb).1) I.ext.size
        obtain ⟨p, hp, hpb⟩ := hbx
        obtain ⟨hpD, _, hpl⟩ := preds p hp
        have hpk : p ≠ k := fun e => hlv i (List.mem_cons_self ..) (e ▸ hp)
        exact I.apart p hpD k hk' hpk hpl hlD b hpb hb
    · rcases List.mem_cons.1 hk' with rfl | hk'
      · simp only [if_true] at hb
        have hs0 := I.ext.size
        have hs1 := hE.size
        rcases hb with hb | hb
        · have := hX b hb; omega
        · omega
      · have hki : k ≠ i := fun e => hiD (e ▸ hk')
        simp only [hki, if_false] at hb
        have := I.ter k hk' b hb
        have hs1 := hE.size
        omega
    · have key : ∀ y ∈ D, (∀ j ∈ i :: D, y ∉ pred j) → grown (terr pred R i) w w' b → R y b → False := by
        intro y hyD hly hg hy
        have hyb := I.ter y hyD b hy
        rcases hg with ⟨p, hp, hpb⟩ | hg
        · obtain ⟨hpD, _, hpl⟩ := preds p hp
          have hpy : p ≠ y := fun e => hly i (List.mem_cons_self ..) (e ▸ hp)
          exact I.apart p hpD y hyD hpy hpl (fun j hj => hly j (List.mem_cons_of_mem _ hj)) b hpb hy
        · omega
      rcases List.mem_cons.1 hx with hxi | hxD
      · subst hxi
        rcases List.mem_cons.1 hy with hyx | hyD
        · exact absurd hyx.symm hxy
        · have hyi : y ≠ x := Ne.symm hxy
          simp only [if_true] at hbx
          simp only [hyi, if_false] at hby
          exact key y hyD hly hbx hby
      · have hxi : x ≠ i := fun e => hiD (e ▸ hxD)
        rcases List.mem_cons.1 hy with hyi | hyD
        · subst hyi
          simp only [if_true] at hby
          simp only [hxi, if_false] at hbx
          exact key x hxD hlx hby hbx
        · have hyi : y ≠ i := fun e => hiD (e ▸ hyD)
          simp only [hxi, if_false] at hbx
          simp only [hyi, if_false] at hby
          exact I.apart x hxD y hyD hxy (fun j hj => hlx j (List.mem_cons_of_mem _ hj)) (fun j hj => hly j (List.mem_cons_of_mem _ hj)) b hbx hby

/-- What is asked where these operations begin. -/
def OwnAt (P : Program) (ops : Array Oper) (Q : Exit → Act → World → Prop) (S : World → Prop) (z : Nat) (G : Nat → (Nat → Prop) → Value → World → Prop) (pred : Nat → List Nat) (TS : List (Nat × Tmp)) (plan2 : List (Nat × Bool)) (n : Nat) (a1 : Act) (w1 : World) : Prop :=
  a1.tmps.size = n ∧ (∀ w w', S w → RowKit.Below w1.heap.size w w' → S w') ∧
  (∀ i R X v w w', G i R v w → Touch X w w' → (∀ b, R b → ¬ X b ∧ b < w.heap.size) → (∀ b, X b → w1.heap.size ≤ b) → w1.heap.size ≤ w.heap.size → G i R v w') ∧
  (∀ p ∈ TS, ∀ o, ops[p.1]? = some o → ∀ (vs : Nat → Value) (w : World) (R : Nat → Nat → Prop), S w → Ext w1 w → (∀ k ∈ TS, k.1 ∈ pred p.1 → G k.1 (R k.1) (vs k.1) w ∧ ∀ b, R k.1 b → w1.heap.size ≤ b ∧ b < w.heap.size) →
    ∀ K : Act → World → Prop, (∀ v w', G p.1 (grown (terr pred R p.1) w w') v w' → Touch (terr pred R p.1) w w' → K ((puts vs TS a1).put (some p.2) v) w') → wpList P ops (Exit.then K Q) [o] (puts vs TS a1) w) ∧
  (∀ (vs : Nat → Value) (R : Nat → Nat → Prop) (w : World), S w → Ext w1 w → (∀ k ∈ TS, (∀ j ∈ TS, k.1 ∉ pred j.1) → G k.1 (R k.1) (vs k.1) w ∧ ∀ b, R k.1 b → w1.heap.size ≤ b ∧ b < w.heap.size) →
    (∀ i ∈ TS, ∀ k ∈ TS, i.1 ≠ k.1 → (∀ j ∈ TS, i.1 ∉ pred j.1) → (∀ j ∈ TS, k.1 ∉ pred j.1) → ∀ b, R i.1 b → ¬ R k.1 b) → wpPlan P ops Q S z (Q .normal) plan2 (puts vs TS a1) w)

theorem wp_region_own {id : Nat} {l : List Oper} {a : Act} {w : World} (S : World → Prop) (z : Nat) (G : Nat → (Nat → Prop) → Value → World → Prop) (pred : Nat → List Nat) (plan1 : List (Nat × Bool)) (TS : List (Nat × Tmp)) (plan2 : List (Nat × Bool)) (n : Nat)
    (hm : P.follows .mixedOrders = true) (hs : Region.noSelect l.toArray = true) (hp : freshRegion l.toArray z plan1 TS plan2 n = true) (hpr : predOK l.toArray pred (TS.map (·.1)) = true) (hS : S w.drew)
    (h : wpPlan P l.toArray (NoPanic Q) S z (OwnAt P l.toArray (NoPanic Q) S z G pred TS plan2 n) plan1 a w.drew) : (Code.region id l.toArray true).wp P Q a w := by
  unfold freshRegion at hp
  split at hp
  · rename_i l1 hl1
    simp only [Bool.and_eq_true, decide_eq_true_eq, List.all_eq_true, beq_iff_eq, Bool.not_eq_true'] at hp
    obtain ⟨⟨⟨⟨⟨hf, hp2⟩, hd⟩, hlen⟩, hz⟩, hzl⟩ := hp
    have F := freshOK_spec hf
    refine wp_region_noPanic (wp_region_any hm (any_of_anyS (S := S) (z := z) _ _ _ _ ?_))
    have key := held_of_plan (P := P) (Q := NoPanic Q) (S := S) (C := OwnAt P l.toArray (NoPanic Q) S z G pred TS plan2 n) hs hz (fun c a d v w h => h.elim) l1 (plan2.length + TS.length) (fun a1 w1 hS1 hC => ?_) plan1 _ a w.drew hl1 (by simp) (fun _ => hS) h
    · rw [show plan2.length + TS.length + plan1.length = l.toArray.size by omega] at key
      exact key
    · have hS1' : S w1 := hS1 (by rw [hzl]; simp)
      obtain ⟨hn, hSm, hGm, hst, hfin⟩ := hC
      have hT : TS.length = (TS.map (·.1)).length := by simp
      rw [hT]
      have hdst : ∀ p ∈ TS, dstOf l.toArray p.1 = some p.2 := hd
      refine own_phase (Q := NoPanic Q) (w0 := w1) F (fun c a w h => h) hn hpr hSm hGm (fun i o hi ho vs w R hSw hE hdep => ?_) plan2.length (fun vs R w hSw hE hall hter hap => ?_) (TS.map (·.1)).length [] (fun _ => undef) (fun _ _ => False) l1 a1 w1 (by simp) ?_
      · obtain ⟨p, hpT, rfl⟩ := List.mem_map.1 hi
        obtain ⟨o', d, ho', hod, _, _, hg, _⟩ := F.op p.1 hi
        obtain rfl : o = o' := Option.some.inj (ho.symm.trans ho')
        have hd2 : o.dst = some p.2 := by
          have := hdst p hpT
          simp only [dstOf, ho, Option.bind_some] at this
          exact this
        rw [over_eq_puts vs TS a1 hdst]
        refine wp_of_list hg (hst p hpT o ho vs w R hSw hE (fun k hk hkl => hdep k.1 (List.mem_map.2 ⟨k, hk, rfl⟩) hkl) _ (fun v w' hG hE' => ?_))
        rw [hd2]
        exact ⟨v, rfl, hG, hE'⟩
      · rw [over_eq_puts vs TS a1 hdst]
        have conv : ∀ k, (∀ j ∈ TS, k ∉ pred j.1) → ∀ j ∈ TS.map (·.1), k ∉ pred j := fun k h j hj => by
          obtain ⟨q, hq, rfl⟩ := List.mem_map.1 hj
          exact h q hq
        have hw := hfin vs R w hSw hE (fun k hk hl => ⟨hall k.1 (List.mem_map.2 ⟨k, hk, rfl⟩) (conv _ hl), hter k.1 (List.mem_map.2 ⟨k, hk, rfl⟩)⟩) (fun i hi k hk hne hli hlk => hap i.1 (List.mem_map.2 ⟨i, hi, rfl⟩) k.1 (List.mem_map.2 ⟨k, hk, rfl⟩) hne (conv _ hli) (conv _ hlk))
        unfold planOK at hp2
        split at hp2
        · rename_i l2 hl2
          have := held_of_plan (P := P) (Q := NoPanic Q) (S := S) (C := NoPanic Q .normal) hs hz (fun c a d v w h => h.elim) l2 0 (fun a w _ h => anyS_done (by simpa using hp2) h 0) plan2 _ _ w hl2 (by rw [markAll_size, F.size]) (fun _ => hSw) hw
          rw [Nat.zero_add] at this
          exact this
        · cases hp2
      · exact ⟨(fun x hx => by cases hx), List.nodup_nil, F.size, (fun j hj => by simp), F.closed, rfl, rfl, (fun k => rfl), (fun k hk => by cases hk), (fun k hk => by cases hk), (fun i hi => by cases hi), Ext.refl _, hS1'⟩
  · cases hp

end

section
variable {P : Program} {ops : Array Oper} {Q : Exit → Act → World → Prop} {S : World → Prop} {z : Nat} {C : Act → World → Prop}
def valued2 : Op → Bool
  | .makeInterface .. => true
  | o => valued o
theorem valued2_spec {o : Oper} {ρ : Operand → Value} {w w' : World} {n : Next} (hv : valued2 o.op = true) (h : (execOp ρ o).run P w = .ok n w') : ∃ v, n = .value v := by
  obtain ⟨dst, op, type, pos, after, guard⟩ := o
  cases op
  case makeInterface t x =>
    simp only [execOp] at h
    exact value_of_map h
  all_goals exact valued_spec (by simpa [valued2] using hv) h

/-- One step of a segment: the operation is passed over, or it yields a value and leaves the world alone. -/
theorem Seg.step2 {wx : World} {A : Act} {o : Oper} {r : List Oper} {a : Act} {w : World} (hv : valued2 o.op = true) (h : Seg P ops wx A (o :: r) a w) :
    w = wx ∧ ((Region.wanted o (yielded ops a.tmps) = true ∧ ∃ v, (execOp a.eval o).run P wx = .ok (.value v) wx ∧ Seg P ops wx A r (a.put o.dst v) wx) ∨
      (Region.wanted o (yielded ops a.tmps) = false ∧ Seg P ops wx A r (a.put o.dst undef) wx)) := by
  obtain ⟨rfl, h⟩ := h
  refine ⟨rfl, ?_⟩
  unfold wpList at h
  split at h
  · rename_i hw
    refine .inl ⟨hw, ?_⟩
    rcases h with h | ⟨_, a1, w1, h⟩
    · unfold Oper.wp at h
      generalize hr : (execOp a.eval o).run P w = x at h
      cases x with
      | halt y w1 => cases y <;> simp [Oper.upon, Exit.then, noEnd] at h
      | ok n w1 =>
        obtain ⟨v, rfl⟩ := valued2_spec hv hr
        have h' : Seg P ops w A r (a.put o.dst v) w1 := h
        have hw1 := h'.world
        subst hw1
        exact ⟨v, rfl, h'⟩
    · exact h.elim
  · rename_i hw
    exact .inr ⟨by simpa using hw, h⟩

/-- Every operation is a value, writes a slot of its own below n. -/
def segOK2 (n : Nat) : List Oper → Bool
  | [] => true
  | o :: r => valued2 o.op && (match o.dst with | some d => decide (d < n) && dstsFree d r | none => false) && segOK2 n r

theorem Seg.keeps2 {wx : World} {A : Act} {n : Nat} (d : Tmp) : ∀ (l : List Oper) (a : Act) (w : World), segOK2 n l = true → dstsFree d l = true → Seg P ops wx A l a w → A.tmps[d]? = a.tmps[d]?
  | [], a, w, _, _, h => by rw [h.1]
  | o :: r, a, w, hs, hd, h => by
    simp only [segOK2, Bool.and_eq_true] at hs
    simp only [dstsFree, List.all_cons, Bool.and_eq_true, bne_iff_ne, ne_eq] at hd
    have put : ∀ v, (a.put o.dst v).tmps[d]? = a.tmps[d]? := by
      intro v
      cases ho : o.dst with
      | none => rfl
      | some e => simp only [Act.put]; exact Array.getElem?_setIfInBounds_ne (fun he => hd.1 (by rw [ho, he]))
    obtain ⟨_, ⟨_, v, _, h'⟩ | ⟨_, h'⟩⟩ := h.step2 hs.1.1
    · rw [Seg.keeps2 d r _ _ hs.2 (by simpa [dstsFree] using hd.2) h', put]
    · rw [Seg.keeps2 d r _ _ hs.2 (by simpa [dstsFree] using hd.2) h', put]

/-- A segment that ends in one frame A in every world that meets S goes by values. -/
theorem plan_of_seg2 {n : Nat} {A : Act} {w : World} (hS : S w) (rest : List (Nat × Bool)) (hrest : wpPlan P ops Q S z C rest A w) :
    ∀ (is : List Nat) (l : List Oper) (a : Act), is.map (ops[·]?) = l.map some → segOK2 n l = true → a.tmps.size = n → (∀ wx, S wx → Seg P ops wx A l a wx) →
      wpPlan P ops Q S z C (is.map (·, true) ++ rest) a w
  | [], [], a, _, _, _, h => by
    have := (h w hS).1
    subst this
    exact hrest
  | [], _ :: _, _, h, _, _, _ => by simp at h
  | _ :: _, [], _, h, _, _, _ => by simp at h
  | i :: is, o :: l, a, he, hs, hn, h => by
    simp only [List.map_cons, List.cons.injEq] at he
    have hs' := hs
    simp only [segOK2, Bool.and_eq_true] at hs'
    obtain ⟨⟨hv, hd⟩, hr⟩ := hs'
    cases ho : o.dst with
    | none => rw [ho] at hd; simp at hd
    | some d =>
      rw [ho] at hd
      simp only [Bool.and_eq_true, decide_eq_true_eq] at hd
      by_cases hw : Region.wanted o (yielded ops a.tmps) = true
      · have hval : ∀ wx, S wx → ∃ v, (execOp a.eval o).run P wx = .ok (.value v) wx ∧ Seg P ops wx A l (a.put o.dst v) wx := by
          intro wx hx
          obtain ⟨_, ⟨_, v, h1, h2⟩ | ⟨h1, _⟩⟩ := (h wx hx).step2 hv
          · exact ⟨v, h1, h2⟩
          · rw [hw] at h1; cases h1
        have hA : ∀ wx v, Seg P ops wx A l (a.put o.dst v) wx → v = A.tmps.getD d undef := by
          intro wx v h2
          have := h2.keeps2 d l _ _ hr hd.2
          rw [ho] at this
          simp only [Act.put] at this
          rw [Array.getElem?_setIfInBounds_self_of_lt (by rw [hn]; exact hd.1)] at this
          simp [Array.getD_eq_getD_getElem?, this]
        refine ⟨o, he.1, A.tmps.getD d undef, .inl ⟨hw, fun wx hx => ?_⟩, ?_⟩
        · obtain ⟨v, h1, h2⟩ := hval wx hx
          rw [h1, hA wx v h2]
        · refine plan_of_seg2 hS rest hrest is l _ he.2 hr (by rw [put_size]; exact hn) (fun wx hx => ?_)
          obtain ⟨v, h1, h2⟩ := hval wx hx
          rw [← hA wx v h2]
          exact h2
      · have hw' : Region.wanted o (yielded ops a.tmps) = false := by simpa using hw
        refine ⟨o, he.1, undef, .inr ⟨hw', rfl⟩, ?_⟩
        refine plan_of_seg2 hS rest hrest is l _ he.2 hr (by rw [put_size]; exact hn) (fun wx hx => ?_)
        obtain ⟨_, ⟨h1, _⟩ | ⟨_, h2⟩⟩ := (h wx hx).step2 hv
        · rw [h1] at hw'; cases hw'
        · exact h2

theorem plan_seg2 {L : List Oper} {A : Act} {a : Act} {w : World} (n : Nat) (ps : List Nat) (rest : List (Nat × Bool)) (hb : ps.all (decide <| · < L.length) = true)
    (hs : segOK2 n (pick L ps) = true) (hn : a.tmps.size = n) (hS : S w) (h : ∀ wx, S wx → Seg P L.toArray wx A (pick L ps) a wx)
    (hrest : wpPlan P L.toArray Q S z C rest A w) : wpPlan P L.toArray Q S z C (ps.map (·, true) ++ rest) a w := by
  refine plan_of_seg2 hS rest hrest ps (pick L ps) a ?_ hs hn h
  clear h hs hrest
  induction ps with
  | nil => rfl
  | cons i is ih =>
    simp only [List.all_cons, Bool.and_eq_true, decide_eq_true_eq] at hb
    have := ih hb.2
    have e : pick L (i :: is) = L[i] :: pick L is := by simp [pick, hb.1]
    rw [e]
    simp only [List.map_cons]
    rw [this]
    simp [hb.1]


end
end Go.Plan

/- What operations of a drawn region have made, each in territory of its own: numbers, bytes, boxes. -/
namespace Go.Proofs.Ytkhjkemllgjfmaa
open Go.RowKit
set_option linter.unusedVariables false
set_option linter.unusedSimpArgs false

/-- v is made of cells in R. -/
def Foot (R : Nat → Prop) (v : Value) : Prop := ∀ a n c, v = .slice (some a) n c → R a.block
def GI (L : List Int) (R : Nat → Prop) (v : Value) (w : World) : Prop := IL w v L ∧ Foot R v
def GO (B : Nat) (L : List Int) (R : Nat → Prop) (v : Value) (w : World) : Prop := Own w B v L ∧ Foot R v
def GB (nm : ByteArray) (B : Nat) (L : List Int) (R : Nat → Prop) (v : Value) (w : World) : Prop := ∃ vd, v = .agg #[.string nm, vd] ∧ GO B L R vd w
def GF (nm : ByteArray) (B : Nat) (L : List Int) (R : Nat → Prop) (v : Value) (w : World) : Prop := ∃ vd, v = .iface 109 (.agg #[.string nm, vd]) ∧ GO B L R vd w

theorem IL.block_eq {w w' : World} {v : Value} {L : List Int} (h : IL w v L) (hs : ∀ a n c, v = .slice (some a) n c → a.block < w.heap.size → w'.heap[a.block]? = w.heap[a.block]?) : IL w' v L := by
  obtain ⟨ao, c, rfl, hc, H⟩ := h
  refine ⟨ao, c, rfl, hc, fun i u hi => ?_⟩
  obtain ⟨b, o, rfl, hx⟩ := H i u hi
  have hl : b < w.heap.size := block_lt_of_cell hx
  exact ⟨b, o, rfl, (World.cell?_of_block (w := w) (a := ⟨b, o + i, none⟩) (hs ⟨b, o, none⟩ _ _ rfl hl)).trans hx⟩
theorem Own.block_eq {w w' : World} {B : Nat} {v : Value} {L : List Int} (h : Own w B v L) (hs : ∀ a n c, v = .slice (some a) n c → a.block < w.heap.size → w'.heap[a.block]? = w.heap[a.block]?) : Own w' B v L := by
  obtain ⟨h1, h2⟩ := h
  refine ⟨h1, ?_⟩
  rcases h2 with h2 | ⟨g, cap, cur, rfl, hB, hb, h3⟩
  · exact .inl h2
  · exact .inr ⟨g, cap, cur, rfl, hB, (hs ⟨g, 0, none⟩ _ _ rfl (Array.getElem?_eq_some_iff.1 hb).1).trans hb, h3⟩
theorem Own.at {w : World} {B : Nat} {v : Value} {L : List Int} (h : Own w B v L) : ∀ a n c, v = .slice (some a) n c → v.ownBlock = some a.block ∧ B ≤ a.block ∧ a.block < w.heap.size := by
  intro a n c e
  rcases h.2 with ⟨rfl, _⟩ | ⟨g, cap, cur, rfl, hB, hb, _⟩
  · simp at e
  · simp only [Value.slice.injEq, Option.some.injEq] at e
    obtain ⟨rfl, _, _⟩ := e
    exact ⟨rfl, hB, (Array.getElem?_eq_some_iff.1 hb).1⟩
theorem own_block {v : Value} {g : Nat} (h : v.ownBlock = some g) : ∃ a n c, v = .slice (some a) n c ∧ a.block = g := by
  cases v <;> try cases h
  rename_i a n c
  cases a with
  | none => cases h
  | some a =>
    refine ⟨a, n, c, rfl, ?_⟩
    simpa [Value.ownBlock] using h

section
variable {X R : Nat → Prop} {w w' : World}
theorem Foot.touch_block {v : Value} (ht : Plan.Touch X w w') (hd : ∀ b, R b → ¬ X b ∧ b < w.heap.size) (hf : Foot R v) : ∀ a n c, v = .slice (some a) n c → a.block < w.heap.size → w'.heap[a.block]? = w.heap[a.block]? := fun a n c e hl => ht.block _ hl (hd _ (hf a n c e)).1
theorem GI.touch {L : List Int} {v : Value} (h : GI L R v w) (ht : Plan.Touch X w w') (hd : ∀ b, R b → ¬ X b ∧ b < w.heap.size) : GI L R v w' := ⟨h.1.block_eq (h.2.touch_block ht hd), h.2⟩
theorem GO.touch {B : Nat} {L : List Int} {v : Value} (h : GO B L R v w) (ht : Plan.Touch X w w') (hd : ∀ b, R b → ¬ X b ∧ b < w.heap.size) : GO B L R v w' := ⟨h.1.block_eq (h.2.touch_block ht hd), h.2⟩
theorem GB.touch {nm : ByteArray} {B : Nat} {L : List Int} {v : Value} (h : GB nm B L R v w) (ht : Plan.Touch X w w') (hd : ∀ b, R b → ¬ X b ∧ b < w.heap.size) : GB nm B L R v w' := by
  obtain ⟨vd, rfl, h⟩ := h
  exact ⟨vd, rfl, h.touch ht hd⟩
theorem GF.touch {nm : ByteArray} {B : Nat} {L : List Int} {v : Value} (h : GF nm B L R v w) (ht : Plan.Touch X w w') (hd : ∀ b, R b → ¬ X b ∧ b < w.heap.size) : GF nm B L R v w' := by
  obtain ⟨vd, rfl, h⟩ := h
  exact ⟨vd, rfl, h.touch ht hd⟩
theorem touch_below (hb : Below w.heap.size w w') : Plan.Touch X w w' := ⟨hb.os, hb.tape, hb.output, hb.size, fun k hk _ => hb.block k hk⟩
theorem touch_adv {v v' : Value} (h : Adv w w' v v') (hX : ∀ a n c, v = .slice (some a) n c → X a.block) : Plan.Touch X w w' :=
  ⟨h.g.os, h.g.tape, h.g.output, h.g.size, fun k hk hn => h.g.block k hk (fun e => by
    obtain ⟨a, n, c, rfl, rfl⟩ := own_block e.symm
    exact hn (hX a n c rfl))⟩
/-- A value made anew. -/
theorem GI.new {L : List Int} {v : Value} (h : IL w' v L) (hf : ∀ a n c, v = .slice (some a) n c → w.heap.size ≤ a.block ∧ a.block < w'.heap.size) : GI L (Plan.grown X w w') v w' := ⟨h, fun a n c e => .inr (hf a n c e)⟩
theorem GO.new {B : Nat} {L : List Int} {v : Value} (h : Own w' w.heap.size v L) (hB : B ≤ w.heap.size) : GO B L (Plan.grown X w w') v w' :=
  ⟨h.mono hB, fun a n c e => .inr ⟨(h.at a n c e).2.1, (h.at a n c e).2.2⟩⟩
theorem GO.adv {B : Nat} {L : List Int} {v v' : Value} (h : Own w' B v' L) (ha : Adv w w' v v') (hX : ∀ a n c, v = .slice (some a) n c → X a.block) : GO B L (Plan.grown X w w') v' w' := by
  refine ⟨h, fun a n c e => ?_⟩
  have h3 := h.at a n c e
  rcases ha.o with e2 | ⟨k, e2, hk⟩
  · obtain ⟨a', n', c', e3, e4⟩ := own_block (e2.symm.trans h3.1)
    rw [← e4]
    exact .inl (hX a' n' c' e3)
  · rw [h3.1] at e2
    obtain rfl := Option.some.inj e2
    exact .inr ⟨hk, h3.2.2⟩
theorem GO.same {B : Nat} {L : List Int} {v : Value} (h : GO B L R v w) (hX : ∀ b, R b → X b) : GO B L (Plan.grown X w w) v w := ⟨h.1, fun a n c e => .inl (hX _ (h.2 a n c e))⟩
end
theorem terr_of {pred : Nat → List Nat} {R : Nat → Nat → Prop} {i k b : Nat} (hk : k ∈ pred i) (h : R k b) : Plan.terr pred R i b := ⟨k, hk, h⟩
theorem GF.ca {nm : ByteArray} {B : Nat} {L : List Int} {R : Nat → Prop} {v : Value} {w : World} (h : GF nm B L R v w) {no : Option Nat} (hno : ∀ q, no = some q → q < B) : CA w no v (.leaf nm L) := by
  obtain ⟨vd, rfl, h⟩ := h
  refine .leaf nm vd L h.1.bl (fun a n c e => ⟨fun h' => ?_, (h.1.at a n c e).2.2⟩)
  have h1 := hno _ h'
  have h2 := (h.1.at a n c e).2.1
  omega

end Go.Proofs.Ytkhjkemllgjfmaa

/- Operations that come up in any order: their operands, and single operations over a frame that is not looked into. -/
namespace Go.Plan
open Go

theorem puts_size (vs : Nat → Value) : ∀ (TS : List (Nat × Tmp)) (a : Act), (puts vs TS a).tmps.size = a.tmps.size
  | [], _ => rfl
  | p :: r, a => by
    rw [puts, puts_size vs r]
    simp [Act.put]
theorem puts_defers (vs : Nat → Value) : ∀ (TS : List (Nat × Tmp)) (a : Act), (puts vs TS a).defers = a.defers
  | [], _ => rfl
  | p :: r, a => by
    rw [puts, puts_defers vs r]
    rfl
theorem puts_out (vs : Nat → Value) {s : Tmp} : ∀ (TS : List (Nat × Tmp)) (a : Act), (∀ p ∈ TS, p.2 ≠ s) → (puts vs TS a).tmps[s]? = a.tmps[s]?
  | [], _, _ => rfl
  | p :: r, a, h => by
    rw [puts, puts_out vs r _ (fun q hq => h q (List.mem_cons_of_mem _ hq))]
    simp only [Act.put, Array.getElem?_setIfInBounds]
    rw [if_neg (h p List.mem_cons_self)]
theorem puts_in (vs : Nat → Value) {i : Nat} {s : Tmp} : ∀ (TS : List (Nat × Tmp)) (a : Act), (i, s) ∈ TS → (∀ p ∈ TS, p.2 = s → p.1 = i) → s < a.tmps.size → (puts vs TS a).tmps[s]? = some (vs i)
  | [], _, h, _, _ => by cases h
  | p :: r, a, h, hu, hs => by
    rw [puts]
    by_cases hr : (i, s) ∈ r
    · exact puts_in vs r _ hr (fun q hq => hu q (List.mem_cons_of_mem _ hq)) (by simpa [Act.put] using hs)
    · have hp : (i, s) = p := by
        rcases List.mem_cons.1 h with e | e
        · exact e
        · exact absurd e hr
      subst hp
      rw [puts_out vs r _ (fun q hq e => hr (by
        have := hu q (List.mem_cons_of_mem _ hq) e
        obtain ⟨q1, q2⟩ := q
        simp only at this e
        subst this e
        exact hq))]
      simp only [Act.put, Array.getElem?_setIfInBounds]
      simp [hs]
theorem eval_in {vs : Nat → Value} {i : Nat} {s : Tmp} {TS : List (Nat × Tmp)} {a : Act} (h : (i, s) ∈ TS) (hu : ∀ p ∈ TS, p.2 = s → p.1 = i) (hs : s < a.tmps.size) : (puts vs TS a).eval (.tmp s) = vs i := by
  simp only [Act.eval, Array.getD_eq_getD_getElem?, puts_in vs TS a h hu hs, Option.getD_some]
theorem eval_out {vs : Nat → Value} {s : Tmp} {TS : List (Nat × Tmp)} {a : Act} (h : ∀ p ∈ TS, p.2 ≠ s) : (puts vs TS a).eval (.tmp s) = a.eval (.tmp s) := by
  simp only [Act.eval, Array.getD_eq_getD_getElem?, puts_out vs TS a h]

section
variable {P : Program} {ops : Array Oper} {o : Oper} {A : Act} {w : World} {K : Act → World → Prop} {Q : Exit → Act → World → Prop}
theorem one_call (hg : o.guard = none) (f : FuncId) {fn : Func} (hf : P.funcs[f]? = some fn) (hfn : (fn.name == "runtime.NumGoroutine") = false) (hfb : fn.body.isNone = false) (args : Array Operand) (T : Array TypeId) (hop : o.op = .call { callee := .value (.func f), args := args, argTypes := T }) (vs : Array Value) (hx : args.map A.eval = vs)
    (R : Value → World → Prop) (hc : Calls P f vs w fun e w' => ∃ r, e = .returned r ∧ R r w') (h : ∀ r w', R r w' → K (A.put o.dst r) w') : wpList P ops (Exit.then K Q) [o] A w := by
  refine wpList_plain hg fun K' hK' => ?_
  have hrun : (execOp A.eval o).run P w = .ok (.enter f vs) w := by
    have hcf : (callFunc f vs).run P w = .ok (.enter f vs) w := by
      unfold callFunc
      rw [Sem.run_bind]
      show Sem.run P _ w = _
      rw [hf]
      simp only [hfn, hfb]
      rfl
    simp [execOp, hop, resolve, invoke, Act.eval, Deferred.ofValue, hx, hcf]
  unfold Oper.wp
  rw [hrun, Oper.upon_enter]
  refine hc.mono fun e w'' hh => ?_
  obtain ⟨r, rfl, hR⟩ := hh
  exact hK' _ _ (wpList_nil (h r w'' hR))
end
end Go.Plan

namespace Go.Plan
/-- The frame need not be looked into. -/
theorem ownAt_gen {P : Program} {ops : Array Oper} {Q : Exit → Act → World → Prop} {S : World → Prop} {z : Nat} {G : Nat → (Nat → Prop) → Value → World → Prop} {pred : Nat → List Nat} {TS : List (Nat × Tmp)} {plan2 : List (Nat × Bool)} {n : Nat} {a1 : Act} {w1 : World}
    (F : Act → Prop) (hF : F a1) (h : ∀ A, F A → OwnAt P ops Q S z G pred TS plan2 n A w1) : OwnAt P ops Q S z G pred TS plan2 n a1 w1 := h a1 hF
end Go.Plan

/- A list of seven contents, at the operation. -/
namespace Go.Proofs.Ytkhjkemllgjfmaa
open Go.RowKit

theorem info83 : (Try.prog.info? 83).map (fun i => (i.zero, i.size, i.bytes)) = some (some .nilIface, 1, 16) := by kernel_rfl
theorem wpList_seven {w : World} {ops : Array Oper} {rest : List Oper} {o : Oper} {A : Act} {Q : Exit → Act → World → Prop} (hg : o.guard = none) (x0 x1 x2 x3 x4 x5 x6 : Operand)
    (hop : o.op = .buildSlice 105 7 #[(0, x0), (1, x1), (2, x2), (3, x3), (4, x4), (5, x5), (6, x6)]) (t0 t1 t2 t3 t4 t5 t6 : TypeId) (v0 v1 v2 v3 v4 v5 v6 : Value)
    (e0 : A.eval x0 = .iface t0 v0) (e1 : A.eval x1 = .iface t1 v1) (e2 : A.eval x2 = .iface t2 v2) (e3 : A.eval x3 = .iface t3 v3) (e4 : A.eval x4 = .iface t4 v4) (e5 : A.eval x5 = .iface t5 v5) (e6 : A.eval x6 = .iface t6 v6)
    (h : wpList Try.prog ops Q rest (A.put o.dst (.slice (some ⟨w.heap.size, 0, none⟩) 7 7)) (w.alloc (.cells #[.iface t0 v0, .iface t1 v1, .iface t2 v2, .iface t3 v3, .iface t4 v4, .iface t5 v5, .iface t6 v6] 83))) : wpList Try.prog ops Q (o :: rest) A w := by
  obtain ⟨i0, hi, hz0, hz1, hz2⟩ := info_parts info83
  refine wpList_buildSlice hg 105 83 7 _ hop _ i0 .nilIface Try.underlying105 hi hz0 (by rw [hz1]; decide) (by rw [hz1]; decide) ?_ h
  rw [hz1]
  simp only [List.map_toArray, List.map_cons, List.map_nil, e0, e1, e2, e3, e4, e5, e6]
  simp [Instr.fill, Value.cells]
  have hz : (Array.map (fun x => [Value.nilIface][x % 1]?.getD default) (Array.range 7)) = #[.nilIface, .nilIface, .nilIface, .nilIface, .nilIface, .nilIface, .nilIface] := by kernel_rfl
  rw [hz]
  rfl
end Go.Proofs.Ytkhjkemllgjfmaa

/- The contract of the program's tables. -/
namespace Go.Proofs.Ytkhjkemllgjfmaa
open Go.RowKit
set_option linter.unusedVariables false
set_option linter.unusedSimpArgs false

def cfL (T : Tr) : List Int := (List.range T.nC).map T.C
theorem cfL_length (T : Tr) : (cfL T).length = T.nC := by simp [cfL]
def descL (T : Tr) : List Int := List.replicate 6 0 ++ [0, 1] ++ cfL T
def nStsd : ByteArray := ⟨#[115, 116, 115, 100]⟩
def nStts : ByteArray := ⟨#[115, 116, 116, 115]⟩
def nCtts : ByteArray := ⟨#[99, 116, 116, 115]⟩
def nStss : ByteArray := ⟨#[115, 116, 115, 115]⟩
def nStsz : ByteArray := ⟨#[115, 116, 115, 122]⟩
def nStsc : ByteArray := ⟨#[115, 116, 115, 99]⟩
def nStco : ByteArray := ⟨#[115, 116, 99, 111]⟩
def nCrsd : ByteArray := ⟨#[99, 114, 115, 100]⟩
def stsdL (T : Tr) : List Int := numsL [0, 1] ++ bytesT (.leaf nCrsd (descL T))
def stssL (T : Tr) : List Int := numsL [0, ((syncL T.S T.nS).length : Int)] ++ numsL (syncL T.S T.nS)
def stszL (T : Tr) : List Int := numsL [0, 0, ((sizeL T.S T.nS).length : Int)] ++ numsL (sizeL T.S T.nS)
def stcoL (T : Tr) (first : Int) : List Int := numsL [0, ((placeL T.S first T.nS).length : Int)] ++ numsL (placeL T.S first T.nS)
/-- The boxes of the sample table. -/
def stbl (T : Tr) (first : Int) (i : Nat) : CT :=
  if i = 0 then .leaf nStsd (stsdL T) else if i = 1 then .leaf nStts (runsL (fun i => (T.S i).dur) T.nS) else if i = 2 then .leaf nCtts (runsL (fun i => (T.S i).shift) T.nS)
  else if i = 3 then .leaf nStss (stssL T) else if i = 4 then .leaf nStsz (stszL T) else if i = 5 then .leaf nStsc chunkL else .leaf nStco (stcoL T first)
/-- A list of contents of the call's own. -/
def Parts (w' : World) (L : Nat) (v : Value) (n : Nat) (P : Nat → CT) : Prop := ∃ (g : Nat) (f : Nat → Value), v = .slice (some ⟨g, 0, none⟩) n n ∧ L ≤ g ∧ g < w'.heap.size ∧ (∀ i, i < n → w'.cell? ⟨g, 0 + i, none⟩ = some (f i)) ∧ ∀ i, i < n → ∀ no : Option Nat, (∀ q, no = some q → q < L) → CA w' no (f i) (P i)
theorem Parts.of_alloc {w : World} {t : TypeId} {n B : Nat} {P : Nat → CT} (L : List Value) (hn : L.length = n) (hB : B ≤ w.heap.size) (h : ∀ i v, L[i]? = some v → ∀ no : Option Nat, (∀ q, no = some q → q < B) → CA w no v (P i)) : Parts (w.alloc (.cells L.toArray t)) B (.slice (some ⟨w.heap.size, 0, none⟩) n n) n P := by
  subst hn
  have hs : (w.alloc (.cells L.toArray t)).heap.size = w.heap.size + 1 := by simp [go_sem]
  refine ⟨w.heap.size, fun i => L.getD i undef, rfl, hB, by omega, fun i hi => ?_, fun i hi no hno => ?_⟩
  · have hh : (w.alloc (.cells L.toArray t)).heap[w.heap.size]? = some (.cells L.toArray t (0, 0)) := by
      show (w.heap.push _)[w.heap.size]? = _
      simp
    simp only [World.cell?, hh, Nat.zero_add]
    simp [List.getD, List.getElem?_eq_getElem hi]
  · have := h i (L.getD i undef) (by simp [List.getD, List.getElem?_eq_getElem hi]) no hno
    exact this.bel (below_box _ _)
theorem Parts.below {w w' : World} {L n : Nat} {v : Value} {P : Nat → CT} (h : Parts w L v n P) (hb : Below w.heap.size w w') : Parts w' L v n P := by
  obtain ⟨g, f, rfl, h1, h2, h3, h4⟩ := h
  exact ⟨g, f, rfl, h1, Nat.lt_of_lt_of_le h2 hb.size, fun i hi => (hb.cell (by simpa using h2)).trans (h3 i hi), fun i hi no hno => (h4 i hi no hno).bel hb⟩
theorem Parts.mono {w : World} {L L' n : Nat} {v : Value} {P : Nat → CT} (h : Parts w L v n P) (hl : L' ≤ L) : Parts w L' v n P := by
  obtain ⟨g, f, rfl, h1, h2, h3, h4⟩ := h
  exact ⟨g, f, rfl, Nat.le_trans hl h1, h2, h3, fun i hi no hno => h4 i hi no (fun q hq => Nat.lt_of_lt_of_le (hno q hq) hl)⟩
def StblPost (w : World) (T : Tr) (first : Int) (e : Ending) (w' : World) : Prop := ∃ r, e = .returned r ∧ Parts w' w.heap.size r 7 (stbl T first) ∧ Below w.heap.size w w'

/-- What each operation of the last region has made. -/
def tabG (B : Nat) (T : Tr) (first : Int) (crs : Value) (i : Nat) (R : Nat → Prop) (v : Value) (w : World) : Prop :=
  match i with
  | 0 => GI [0, 1] R v w | 1 => GO B (numsL [0, 1]) R v w | 4 => v = crs | 5 => GO B (stsdL T) R v w | 6 => GB nStsd B (stsdL T) R v w | 7 => GF nStsd B (stsdL T) R v w
  | 10 => GO B (runsL (fun i => (T.S i).dur) T.nS) R v w | 11 => GB nStts B (runsL (fun i => (T.S i).dur) T.nS) R v w | 12 => GF nStts B (runsL (fun i => (T.S i).dur) T.nS) R v w
  | 15 => GO B (runsL (fun i => (T.S i).shift) T.nS) R v w | 16 => GB nCtts B (runsL (fun i => (T.S i).shift) T.nS) R v w | 17 => GF nCtts B (runsL (fun i => (T.S i).shift) T.nS) R v w
  | 20 => GI [0, ((syncL T.S T.nS).length : Int)] R v w | 21 => GO B (numsL [0, ((syncL T.S T.nS).length : Int)]) R v w | 23 => GO B (stssL T) R v w | 24 => GB nStss B (stssL T) R v w | 25 => GF nStss B (stssL T) R v w
  | 28 => GI [0, 0, ((sizeL T.S T.nS).length : Int)] R v w | 29 => GO B (numsL [0, 0, ((sizeL T.S T.nS).length : Int)]) R v w | 31 => GO B (stszL T) R v w | 32 => GB nStsz B (stszL T) R v w | 33 => GF nStsz B (stszL T) R v w
  | 34 => GO B chunkL R v w | 35 => GB nStsc B chunkL R v w | 36 => GF nStsc B chunkL R v w
  | 39 => GI [0, ((placeL T.S first T.nS).length : Int)] R v w | 40 => GO B (numsL [0, ((placeL T.S first T.nS).length : Int)]) R v w | 42 => GO B (stcoL T first) R v w | 43 => GB nStco B (stcoL T first) R v w | 44 => GF nStco B (stcoL T first) R v w
  | _ => True
theorem tabG_touch {B : Nat} {T : Tr} {first : Int} {crs : Value} {i : Nat} {R X : Nat → Prop} {v : Value} {w w' : World} (h : tabG B T first crs i R v w) (ht : Plan.Touch X w w') (hd : ∀ b, R b → ¬ X b ∧ b < w.heap.size) : tabG B T first crs i R v w' := by
  unfold tabG at h ⊢
  split <;> first | exact GI.touch h ht hd | exact GO.touch h ht hd | exact GB.touch h ht hd | exact GF.touch h ht hd | exact h | trivial
def tabP (i : Nat) : List Nat :=
  match i with
  | 1 => [0] | 5 => [1, 4] | 6 => [5] | 7 => [6] | 11 => [10] | 12 => [11] | 16 => [15] | 17 => [16] | 21 => [20] | 23 => [21] | 24 => [23] | 25 => [24]
  | 29 => [28] | 31 => [29] | 32 => [31] | 33 => [32] | 35 => [34] | 36 => [35] | 40 => [39] | 42 => [40] | 43 => [42] | 44 => [43] | _ => []
def tabS : List (Nat × Tmp) := [(0, 52), (1, 53), (4, 56), (5, 57), (6, 58), (7, 59), (10, 62), (11, 63), (12, 64), (15, 67), (16, 68), (17, 69), (20, 72), (21, 73), (23, 75), (24, 76), (25, 77), (28, 80), (29, 81), (31, 83), (32, 84), (33, 85), (34, 86), (35, 87), (36, 88), (39, 91), (40, 92), (42, 94), (43, 95), (44, 96)]
theorem IL.shape {w : World} {v : Value} {L : List Int} (h : IL w v L) : ∃ a c, v = .slice a L.length c := by obtain ⟨a, c, e, _⟩ := h; exact ⟨a, c, e⟩

/-- The three rows of numbers, each in a block of its own. -/
structure Rows3 (w : World) (B : Nat) (T : Tr) (first : Int) (k a6 n6 c6 a7 c7 a8 c8 : Nat) : Prop where
  o6 : OwnI w B (.slice (some ⟨a6, 0, none⟩) n6 c6) (syncL T.S k)
  o7 : OwnI w B (.slice (some ⟨a7, 0, none⟩) k c7) (sizeL T.S k)
  o8 : OwnI w B (.slice (some ⟨a8, 0, none⟩) k c8) (placeL T.S first k)
  h67 : a6 ≠ a7
  h68 : a6 ≠ a8
  h78 : a7 ≠ a8
theorem OwnI.empty (w : World) : OwnI (w.alloc (.cells #[] 2)) w.heap.size (.slice (some ⟨w.heap.size, 0, none⟩) 0 0) [] := owns_empty w 2 1
theorem rows3_start (w : World) (T : Tr) (first : Int) : Rows3 (((w.alloc (.cells #[] 2)).alloc (.cells #[] 2)).alloc (.cells #[] 2)) w.heap.size T first 0 w.heap.size 0 0 (w.heap.size + 1) 0 (w.heap.size + 1 + 1) 0 := by
  have s1 : (w.alloc (.cells #[] 2)).heap.size = w.heap.size + 1 := by simp [go_sem]
  have s2 : ((w.alloc (.cells #[] 2)).alloc (.cells #[] 2)).heap.size = w.heap.size + 1 + 1 := by simp [go_sem]
  have e7 := OwnI.empty (w.alloc (.cells #[] 2))
  have e8 := OwnI.empty ((w.alloc (.cells #[] 2)).alloc (.cells #[] 2))
  rw [s1] at e7
  rw [s2] at e8
  exact ⟨((OwnI.empty w).below (below_box _ _)).below (below_box _ _), (e7.below (below_box _ _)).mono (by omega), e8.mono (by omega), by omega, by omega, by omega⟩
/-- The four cells of a sample. -/
structure C4 (w : World) (b : Nat) (x d s y : Value) : Prop where
  k0 : w.cell? ⟨b, 0, none⟩ = some x
  k1 : w.cell? ⟨b, 1, none⟩ = some d
  k2 : w.cell? ⟨b, 2, none⟩ = some s
  k3 : w.cell? ⟨b, 3, none⟩ = some y
theorem C4.lt {w : World} {b : Nat} {x d s y : Value} (h : C4 w b x d s y) : b < w.heap.size := block_lt_of_cell h.k0
theorem C4.of_block {w w' : World} {b : Nat} {x d s y : Value} (h : C4 w b x d s y) (e : w'.heap[b]? = w.heap[b]?) : C4 w' b x d s y :=
  ⟨(World.cell?_of_block (w := w) (a := ⟨b, 0, none⟩) e).trans h.k0, (World.cell?_of_block (w := w) (a := ⟨b, 1, none⟩) e).trans h.k1, (World.cell?_of_block (w := w) (a := ⟨b, 2, none⟩) e).trans h.k2, (World.cell?_of_block (w := w) (a := ⟨b, 3, none⟩) e).trans h.k3⟩
theorem C4.below {w w' : World} {b : Nat} {x d s y : Value} (h : C4 w b x d s y) (hb : Below w.heap.size w w') : C4 w' b x d s y := h.of_block (hb.block b h.lt)
theorem C4.only {w w' : World} {b a : Nat} {x d s y : Value} (h : C4 w b x d s y) (hn : a ≠ b) (hg : w.grownBy w' (some a)) : C4 w' b x d s y := h.of_block (hg.block b h.lt (fun e => hn (Option.some.inj e).symm))
theorem C4.of_alloc (w : World) (b : Nat) (x d s y : Value) (t : TypeId) (h : b = w.heap.size) : C4 (w.alloc (.cells #[x, d, s, y] t)) b x d s y := by
  subst h
  exact ⟨by simp [go_sem], by simp [go_sem], by simp [go_sem], by simp [go_sem]⟩
theorem low_only {w w' : World} {N a : Nat} (hg : w.grownBy w' (some a)) (ha : N ≤ a) (hN : N ≤ w.heap.size) : Below N w w' := (Below.refl _ _).grown hg hN (fun k e => by cases e; exact ha)

set_option maxRecDepth 100000 in
set_option maxHeartbeats 4000000 in
theorem tables_any (v : Value) (T : Tr) (first : Int) (w : World) (hv : TA w v T) (hn : T.nS ≤ 10000) (hC : T.nC ≤ 10000) (hf0 : 0 ≤ first) (hf1 : first ≤ 4000000000) (hs : sizeN T.S T.nS ≤ 5000000000) :
    Calls Try.prog 65 #[v, .int .i64 first] w (StblPost w T first) := by
  obtain ⟨c0, c1, c2, c3, c4, rfl, rfl, rfl, b2, b3, b4⟩ := hv
  obtain ⟨a2, d2, rfl⟩ := b2.shape
  obtain ⟨a3, d3, rfl⟩ := b3.shape
  obtain ⟨a4, d4, rfl⟩ := b4.shape
  have HC2 := Lib.hid (BA.bl (s := ⟨T.nC, T.C, 0, 0, false⟩) b2)
  have HB3 := Lib.hid b3
  clear b2 b3 b4
  go_enter Try.func65, Try.ntmps65
  go_upto_region 1 with fail
  obtain ⟨w1, hw1⟩ : ∃ x, x = w.alloc (.cells #[.string T.h, .int .i64 T.sc, .slice a2 T.nC d2, .slice a3 T.nS d3, .slice a4 T.nE d4] 43) := ⟨_, rfl⟩
  rw [← hw1]
  obtain ⟨gt, hgt⟩ : ∃ g, g = w.heap.size := ⟨_, rfl⟩
  have hE1 : Below w.heap.size w w1 := by rw [hw1]; exact below_box _ _
  have hs1 : w1.heap.size = w.heap.size + 1 := by rw [hw1]; simp [go_sem]
  have x2 : w1.cell? ⟨gt, 2, none⟩ = some (.slice a2 T.nC d2) := by rw [hw1, hgt]; simp [go_sem]
  have x3 : w1.cell? ⟨gt, 3, none⟩ = some (.slice a3 T.nS d3) := by rw [hw1, hgt]; simp [go_sem]
  rw [← hgt]
  have hgt1 : gt < w1.heap.size := by omega
  have HB1 := Lib.hid hE1
  replace HC2 := Lib.hid (HC2.out.below hE1)
  replace HB3 := Lib.hid (HB3.out.below hE1)
  have HX := Lib.hid (And.intro x2 x3)
  have hgtw : w.heap.size ≤ gt := by omega
  clear hw1 hE1 hgt x2 x3 hs1
  go_wp2_with fail
  refine (appz_any (.slice none 0 0) [] 6 w1.heap.size w1 (own_nil _ _) (by decide) (by decide) (by decide) (Nat.le_refl _)).mono ?_
  rintro e w2 ⟨r, rfl, hO, hA⟩
  have hb2 := hA.below rfl
  have hs2 := hb2.size
  obtain ⟨L2, hL2⟩ : ∃ L, L = ([] ++ List.replicate 6 0 : List Int) := ⟨_, rfl⟩
  rw [← hL2] at hO
  have hn2 : L2.length = 6 := by rw [hL2]; rfl
  have HL2 := Lib.hid hL2
  have HN2 := Lib.hid hn2
  obtain ⟨ra, rc, rfl⟩ := hO.shape
  have HO := Lib.hid hO
  have HB2 := Lib.hid hb2
  clear hO hA hb2 hL2 hn2
  go_wp2_with (at_builtin; refine wpList_adv _ rfl (.tmp 11) (.tmp 12) rfl w1.heap.size _ _ _ [0, 1] rfl (HO.out.below (below_box w2 _)) rfl (own_lit w2 [0, 1] (by decide)).bl (by rw [HN2.out]; decide) (by simp; omega) ?_)
  intro v3 w3 hO3 hA3
  have hb3 : Below w1.heap.size w1 w3 := (HB2.out.trans ((below_box w2 _).mono hs2)).trans (hA3.up (HO.out.below (below_box w2 _)) (by simp; omega))
  obtain ⟨L3, hL3⟩ : ∃ L, L = L2 ++ [0, 1] := ⟨_, rfl⟩
  rw [← hL3] at hO3
  have hn3 : L3.length = 8 := by rw [hL3, List.length_append, HN2.out]; rfl
  have HL3 := Lib.hid hL3
  have HN3 := Lib.hid hn3
  obtain ⟨ra3, rc3, rfl⟩ := hO3.shape
  have HO3 := Lib.hid hO3
  have HB3w := Lib.hid hb3
  clear hO3 hA3 hb3 HO HB2 hL3 hn3
  have x2 := (HB3w.out.cell (p := ⟨gt, 2, none⟩) hgt1).trans HX.out.1
  have hs3 := HB3w.out.size
  have hap : w3.heap.size ≥ w1.heap.size := hs3
  have HC3 := Lib.hid (show BL w3 (.slice a2 T.nC d2) (cfL T) from HC2.out.below HB3w.out)
  go_wp2_with (at_builtin; refine wpList_adv _ rfl (.tmp 14) (.tmp 16) rfl w1.heap.size _ _ _ (cfL T) rfl HO3.out rfl HC3.out (by rw [cfL_length, HN3.out]; omega) (by omega) ?_)
  intro v4 w4 hO4 hA4
  have hb4 : Below w1.heap.size w1 w4 := HB3w.out.trans (hA4.up HO3.out (by omega))
  obtain ⟨L4, hL4⟩ : ∃ L, L = L3 ++ cfL T := ⟨_, rfl⟩
  rw [← hL4] at hO4
  have hn4 : L4.length = 8 + T.nC := by rw [hL4, List.length_append, HN3.out, cfL_length]
  have HL4 := Lib.hid (show L4 = descL T by rw [hL4, HL3.out, HL2.out]; rfl)
  have HN4 := Lib.hid hn4
  obtain ⟨ra4, rc4, rfl⟩ := hO4.shape
  have HO4 := Lib.hid hO4
  have HB4 := Lib.hid hb4
  have hs4 := hb4.size
  clear hO4 hA4 hb4 HO3 HB3w HC3 x2 hap hL4 hn4 HL2 HL3 HN2 HN3
  go_upto_region 4 with fail
  have hr3 := rows3_start w4 T first
  obtain ⟨w5, hw5⟩ : ∃ x, x = ((w4.alloc (.cells #[] 2)).alloc (.cells #[] 2)).alloc (.cells #[] 2) := ⟨_, rfl⟩
  rw [← hw5] at hr3 ⊢
  have hb5 : Below w4.heap.size w4 w5 := by rw [hw5]; go_grown
  have HR := Lib.hid hr3
  have HB5 := Lib.hid hb5
  have x3 := ((HB4.out.trans (hb5.mono hs4)).cell (p := ⟨gt, 3, none⟩) hgt1).trans HX.out.2
  clear hr3 hw5 hb5
  go_wp2_with fail
  clear x3
  go_loopw [1, 6, 7, 8, 24] (fun f v6 v7 v8 i wr => ∃ k : Nat, k ≤ T.nS ∧ i = .int .i64 (k : Int) ∧ f = .int .i64 (first + (sizeN T.S k : Nat)) ∧ ∃ a6 n6 c6 a7 c7 a8 c8, v6 = .slice (some ⟨a6, 0, none⟩) n6 c6 ∧ v7 = .slice (some ⟨a7, 0, none⟩) k c7 ∧ v8 = .slice (some ⟨a8, 0, none⟩) k c8 ∧ Rows3 wr w4.heap.size T first k a6 n6 c6 a7 c7 a8 c8 ∧ Below w4.heap.size w4 wr) (fun _ _ _ _ i _ => T.nS - (intOf i).toNat)
  case atStart => exact ⟨0, Nat.zero_le _, rfl, by simp [sizeN], _, _, _, _, _, _, _, rfl, rfl, rfl, HR.out, HB5.out⟩
  case round =>
    obtain ⟨k, hk, rfl, rfl, a6, n6, c6, a7, c7, a8, c8, rfl, rfl, rfl, hR, hbw⟩ := hrel
    have HR := Lib.hid hR
    have HBW := Lib.hid hbw
    have hsw := hbw.size
    have Ho6 := Lib.hid hR.o6
    have Ho7 := Lib.hid hR.o7
    have Ho8 := Lib.hid hR.o8
    have h67 := hR.h67
    have h68 := hR.h68
    have h78 := hR.h78
    have l6 := hR.o6.lt
    have l7 := hR.o7.lt
    have l8 := hR.o8.lt
    have hl6 := syncL_length T.S k
    have hl7 := sizeL_length T.S k
    have hl8 := placeL_length T.S first k
    clear hR hbw
    by_cases hlt : k < T.nS
    · obtain ⟨ao', c', e, hcc', H⟩ := HB3.out.below ((HB4.out.trans (HBW.out.mono hs4)))
      simp only [Value.slice.injEq, true_and] at e
      obtain ⟨rfl, rfl⟩ := e
      obtain ⟨b', o', x, rfl, h0, h1, h2, h3, hx⟩ := H k hlt
      obtain ⟨ax, dx, rfl⟩ := hx.shape
      have hm := sizeN_mono T.S (show k + 1 ≤ T.nS by omega)
      obtain ⟨G, hG⟩ : ∃ G, G = sizeN T.S k := ⟨_, rfl⟩
      have hst : sizeN T.S (k + 1) = G + (T.S k).n := by simp only [sizeN]; rw [← hG]
      rw [← hG] at ⊢
      have hb2 : G + (T.S k).n ≤ 5000000000 := by omega
      have HST := Lib.hid hst
      have HGq := Lib.hid hG
      clear H hx hst hG hm
      go_upto_region 7 with fail
      obtain ⟨w6, hw6⟩ : ∃ x, x = wr.alloc (.cells #[.slice ax (T.S k).n dx, .int .i64 (T.S k).dur, .int .i64 (T.S k).shift, .bool (T.S k).sync] 75) := ⟨_, rfl⟩
      rw [← hw6]
      obtain ⟨gs, hgs⟩ : ∃ g, g = wr.heap.size := ⟨_, rfl⟩
      have hb6 : Below wr.heap.size wr w6 := by rw [hw6]; exact below_box _ _
      have HCX := Lib.hid (show C4 w6 gs _ _ _ _ by rw [hw6]; exact C4.of_alloc wr gs _ _ _ _ 75 hgs)
      have hz6 : w6.heap.size = wr.heap.size + 1 := by rw [hw6]; simp [go_sem]
      rw [← hgs]
      replace Ho6 := Lib.hid (Ho6.out.below hb6)
      replace Ho7 := Lib.hid (Ho7.out.below hb6)
      replace Ho8 := Lib.hid (Ho8.out.below hb6)
      replace HBW := Lib.hid (HBW.out.trans (hb6.mono hsw))
      have d26 : a6 ≠ gs := by omega
      have d27 : a7 ≠ gs := by omega
      have d28 : a8 ≠ gs := by omega
      replace l6 : w4.heap.size ≤ a6 ∧ a6 < w6.heap.size := ⟨l6.1, by omega⟩
      replace l7 : w4.heap.size ≤ a7 ∧ a7 < w6.heap.size := ⟨l7.1, by omega⟩
      replace l8 : w4.heap.size ≤ a8 ∧ a8 < w6.heap.size := ⟨l8.1, by omega⟩
      have lgs : gs < w6.heap.size := by omega
      replace hsw : w4.heap.size ≤ w6.heap.size := by omega
      clear hw6 hgs hb6 hz6 h0 h1 h2 h3
      obtain ⟨c0, c1, c2, c3⟩ := HCX.out
      obtain ⟨sy, hsy⟩ : ∃ b, b = (T.S k).sync := ⟨_, rfl⟩
      rw [← hsy] at c3
      rw [← hsy]
      have HSY := Lib.hid hsy.symm
      clear hsy
      cases sy with
      | true =>
        go_wp2_with (at_builtin; refine wpList_advI _ rfl (.tmp 31) (.tmp 34) rfl w4.heap.size a6 n6 c6 _ rfl (Ho6.out.below (below_box w6 _)) w6.heap.size 1 ((k : Int) + 1) rfl (by simp [go_sem]) (by omega) (by simp; omega) ?_)
        intro a6x c6x wa hO' hg' hne'
        have hbx : Below w6.heap.size w6 (w6.alloc (.cells #[.int .i64 ((k : Int) + 1)] 2)) := below_box _ _
        have hb' : Below w4.heap.size w6 wa := (hbx.mono (by omega)).trans (low_only hg' l6.1 (by simp; omega))
        have hsz' : (w6.alloc (.cells #[.int .i64 ((k : Int) + 1)] 2)).heap.size = w6.heap.size + 1 := by simp [go_sem]
        replace hne' : a6x = a6 ∨ w6.heap.size + 1 ≤ a6x := by simpa using hne'
        have hz' : w6.heap.size + 1 ≤ wa.heap.size := by have := hg'.size; simpa using this
        replace Ho6 := Lib.hid hO'
        replace Ho7 := Lib.hid ((Ho7.out.below hbx).only (by simp; omega) hg')
        replace Ho8 := Lib.hid ((Ho8.out.below hbx).only (by simp; omega) hg')
        replace HCX := Lib.hid ((HCX.out.below hbx).only (by omega) hg')
        replace HBW := Lib.hid (HBW.out.trans hb')
        have d0 : a6x ≠ a7 := by omega
        have d1 : a6x ≠ a8 := by omega
        have d2 : a6x ≠ gs := by omega
        have d3 : a7 ≠ a8 := by omega
        replace l6 := hO'.lt
        replace l7 : w4.heap.size ≤ a7 ∧ a7 < wa.heap.size := ⟨l7.1, by omega⟩
        replace l8 : w4.heap.size ≤ a8 ∧ a8 < wa.heap.size := ⟨l8.1, by omega⟩
        replace lgs : gs < wa.heap.size := by omega
        replace hsw : w4.heap.size ≤ wa.heap.size := by omega
        clear hO' hg' hne' hbx hb' hsz' hz' c0 c1 c2 c3
        obtain ⟨c0, c1, c2, c3⟩ := HCX.out
        go_wp2_with (at_builtin; refine wpList_advI _ rfl (.tmp 36) (.tmp 40) rfl w4.heap.size a7 k c7 _ rfl (Ho7.out.below (below_box wa _)) wa.heap.size 1 (((T.S k).n : Int)) rfl (by simp [go_sem]) (by rw [hl7]; omega) (by simp; omega) ?_)
        intro a7x c7x wb hO' hg' hne'
        have hbx : Below wa.heap.size wa (wa.alloc (.cells #[.int .i64 (((T.S k).n : Int))] 2)) := below_box _ _
        have hb' : Below w4.heap.size wa wb := (hbx.mono (by omega)).trans (low_only hg' l7.1 (by simp; omega))
        have hsz' : (wa.alloc (.cells #[.int .i64 (((T.S k).n : Int))] 2)).heap.size = wa.heap.size + 1 := by simp [go_sem]
        replace hne' : a7x = a7 ∨ wa.heap.size + 1 ≤ a7x := by simpa using hne'
        have hz' : wa.heap.size + 1 ≤ wb.heap.size := by have := hg'.size; simpa using this
        replace Ho7 := Lib.hid hO'
        replace Ho6 := Lib.hid ((Ho6.out.below hbx).only (by simp; omega) hg')
        replace Ho8 := Lib.hid ((Ho8.out.below hbx).only (by simp; omega) hg')
        replace HCX := Lib.hid ((HCX.out.below hbx).only (by omega) hg')
        replace HBW := Lib.hid (HBW.out.trans hb')
        have d0 : a7x ≠ a6x := by omega
        have d1 : a7x ≠ a8 := by omega
        have d2 : a7x ≠ gs := by omega
        have d3 : a6x ≠ a8 := by omega
        replace l7 := hO'.lt
        replace l6 : w4.heap.size ≤ a6x ∧ a6x < wb.heap.size := ⟨l6.1, by omega⟩
        replace l8 : w4.heap.size ≤ a8 ∧ a8 < wb.heap.size := ⟨l8.1, by omega⟩
        replace lgs : gs < wb.heap.size := by omega
        replace hsw : w4.heap.size ≤ wb.heap.size := by omega
        clear hO' hg' hne' hbx hb' hsz' hz' c0 c1 c2 c3
        obtain ⟨c0, c1, c2, c3⟩ := HCX.out
        go_wp2_with (at_builtin; refine wpList_advI _ rfl (.tmp 42) (.tmp 44) rfl w4.heap.size a8 k c8 _ rfl (Ho8.out.below (below_box wb _)) wb.heap.size 1 (first + (G : Nat)) rfl (by simp [go_sem]) (by rw [hl8]; omega) (by simp; omega) ?_)
        intro a8x c8x wc hO' hg' hne'
        have hbx : Below wb.heap.size wb (wb.alloc (.cells #[.int .i64 (first + (G : Nat))] 2)) := below_box _ _
        have hb' : Below w4.heap.size wb wc := (hbx.mono (by omega)).trans (low_only hg' l8.1 (by simp; omega))
        have hsz' : (wb.alloc (.cells #[.int .i64 (first + (G : Nat))] 2)).heap.size = wb.heap.size + 1 := by simp [go_sem]
        replace hne' : a8x = a8 ∨ wb.heap.size + 1 ≤ a8x := by simpa using hne'
        have hz' : wb.heap.size + 1 ≤ wc.heap.size := by have := hg'.size; simpa using this
        replace Ho8 := Lib.hid hO'
        replace Ho6 := Lib.hid ((Ho6.out.below hbx).only (by simp; omega) hg')
        replace Ho7 := Lib.hid ((Ho7.out.below hbx).only (by simp; omega) hg')
        replace HCX := Lib.hid ((HCX.out.below hbx).only (by omega) hg')
        replace HBW := Lib.hid (HBW.out.trans hb')
        have d0 : a8x ≠ a6x := by omega
        have d1 : a8x ≠ a7x := by omega
        have d2 : a8x ≠ gs := by omega
        have d3 : a6x ≠ a7x := by omega
        replace l8 := hO'.lt
        replace l6 : w4.heap.size ≤ a6x ∧ a6x < wc.heap.size := ⟨l6.1, by omega⟩
        replace l7 : w4.heap.size ≤ a7x ∧ a7x < wc.heap.size := ⟨l7.1, by omega⟩
        replace lgs : gs < wc.heap.size := by omega
        replace hsw : w4.heap.size ≤ wc.heap.size := by omega
        clear hO' hg' hne' hbx hb' hsz' hz' c0 c1 c2 c3
        obtain ⟨c0, c1, c2, c3⟩ := HCX.out
        go_wp2_with fail
        refine ⟨⟨k + 1, by omega, by go_num, by rw [HST.out]; go_num, a6x, n6 + 1, c6x, a7x, c7x, a8x, c8x, by go_num, by go_num, by go_num, ⟨?_, Ho7.out, ?_, by omega, by omega, by omega⟩, HBW.out⟩, ?_⟩
        · have h := Ho6.out
          simp only [syncL, HSY.out, if_true, if_false, List.append_nil, Bool.false_eq_true]
          exact h
        · have h := Ho8.out
          simp only [placeL]
          rw [← HGq.out]
          exact h
        · simp [intOf]
          omega
      | false =>
        go_wp2_with (at_builtin; refine wpList_advI _ rfl (.tmp 36) (.tmp 40) rfl w4.heap.size a7 k c7 _ rfl (Ho7.out.below (below_box w6 _)) w6.heap.size 1 (((T.S k).n : Int)) rfl (by simp [go_sem]) (by rw [hl7]; omega) (by simp; omega) ?_)
        intro a7x c7x wb hO' hg' hne'
        have hbx : Below w6.heap.size w6 (w6.alloc (.cells #[.int .i64 (((T.S k).n : Int))] 2)) := below_box _ _
        have hb' : Below w4.heap.size w6 wb := (hbx.mono (by omega)).trans (low_only hg' l7.1 (by simp; omega))
        have hsz' : (w6.alloc (.cells #[.int .i64 (((T.S k).n : Int))] 2)).heap.size = w6.heap.size + 1 := by simp [go_sem]
        replace hne' : a7x = a7 ∨ w6.heap.size + 1 ≤ a7x := by simpa using hne'
        have hz' : w6.heap.size + 1 ≤ wb.heap.size := by have := hg'.size; simpa using this
        replace Ho7 := Lib.hid hO'
        replace Ho6 := Lib.hid ((Ho6.out.below hbx).only (by simp; omega) hg')
        replace Ho8 := Lib.hid ((Ho8.out.below hbx).only (by simp; omega) hg')
        replace HCX := Lib.hid ((HCX.out.below hbx).only (by omega) hg')
        replace HBW := Lib.hid (HBW.out.trans hb')
        have d0 : a7x ≠ a6 := by omega
        have d1 : a7x ≠ a8 := by omega
        have d2 : a7x ≠ gs := by omega
        have d3 : a6 ≠ a8 := by omega
        replace l7 := hO'.lt
        replace l6 : w4.heap.size ≤ a6 ∧ a6 < wb.heap.size := ⟨l6.1, by omega⟩
        replace l8 : w4.heap.size ≤ a8 ∧ a8 < wb.heap.size := ⟨l8.1, by omega⟩
        replace lgs : gs < wb.heap.size := by omega
        replace hsw : w4.heap.size ≤ wb.heap.size := by omega
        clear hO' hg' hne' hbx hb' hsz' hz' c0 c1 c2 c3
        obtain ⟨c0, c1, c2, c3⟩ := HCX.out
        go_wp2_with (at_builtin; refine wpList_advI _ rfl (.tmp 42) (.tmp 44) rfl w4.heap.size a8 k c8 _ rfl (Ho8.out.below (below_box wb _)) wb.heap.size 1 (first + (G : Nat)) rfl (by simp [go_sem]) (by rw [hl8]; omega) (by simp; omega) ?_)
        intro a8x c8x wc hO' hg' hne'
        have hbx : Below wb.heap.size wb (wb.alloc (.cells #[.int .i64 (first + (G : Nat))] 2)) := below_box _ _
        have hb' : Below w4.heap.size wb wc := (hbx.mono (by omega)).trans (low_only hg' l8.1 (by simp; omega))
        have hsz' : (wb.alloc (.cells #[.int .i64 (first + (G : Nat))] 2)).heap.size = wb.heap.size + 1 := by simp [go_sem]
        replace hne' : a8x = a8 ∨ wb.heap.size + 1 ≤ a8x := by simpa using hne'
        have hz' : wb.heap.size + 1 ≤ wc.heap.size := by have := hg'.size; simpa using this
        replace Ho8 := Lib.hid hO'
        replace Ho6 := Lib.hid ((Ho6.out.below hbx).only (by simp; omega) hg')
        replace Ho7 := Lib.hid ((Ho7.out.below hbx).only (by simp; omega) hg')
        replace HCX := Lib.hid ((HCX.out.below hbx).only (by omega) hg')
        replace HBW := Lib.hid (HBW.out.trans hb')
        have d0 : a8x ≠ a6 := by omega
        have d1 : a8x ≠ a7x := by omega
        have d2 : a8x ≠ gs := by omega
        have d3 : a6 ≠ a7x := by omega
        replace l8 := hO'.lt
        replace l6 : w4.heap.size ≤ a6 ∧ a6 < wc.heap.size := ⟨l6.1, by omega⟩
        replace l7 : w4.heap.size ≤ a7x ∧ a7x < wc.heap.size := ⟨l7.1, by omega⟩
        replace lgs : gs < wc.heap.size := by omega
        replace hsw : w4.heap.size ≤ wc.heap.size := by omega
        clear hO' hg' hne' hbx hb' hsz' hz' c0 c1 c2 c3
        obtain ⟨c0, c1, c2, c3⟩ := HCX.out
        go_wp2_with fail
        refine ⟨⟨k + 1, by omega, by go_num, by rw [HST.out]; go_num, a6, n6, c6, a7x, c7x, a8x, c8x, by go_num, by go_num, by go_num, ⟨?_, Ho7.out, ?_, by omega, by omega, by omega⟩, HBW.out⟩, ?_⟩
        · have h := Ho6.out
          simp only [syncL, HSY.out, if_true, if_false, List.append_nil, Bool.false_eq_true]
          exact h
        · have h := Ho8.out
          simp only [placeL]
          rw [← HGq.out]
          exact h
        · simp [intOf]
          omega
    · obtain rfl : k = T.nS := by omega
      go_upto_region 13 with fail
      have IL6 := Lib.hid Ho6.out.il
      have IL7 := Lib.hid Ho7.out.il
      have IL8 := Lib.hid Ho8.out.il
      have hb1r := Lib.hid (HB4.out.trans (HBW.out.mono hs4))
      have hs1r := hb1r.out.size
      have HSr := Lib.hid (HB3.out.below hb1r.out)
      have x3 := (hb1r.out.cell (p := ⟨gt, 3, none⟩) hgt1).trans HX.out.2
      have HO4r := Lib.hid (HO4.out.below (HBW.out.mono (Nat.le_refl _)))
      have HL64 := Lib.hid (show (syncL T.S T.nS).length ≤ 10000 by omega)
      have HL74 := Lib.hid (show (sizeL T.S T.nS).length ≤ 10000 by omega)
      have HL84 := Lib.hid (show (placeL T.S first T.nS).length ≤ 10000 by omega)
      have en6 : n6 = (syncL T.S T.nS).length := by
        obtain ⟨_, _, e⟩ := IL6.out.shape
        simp only [Value.slice.injEq] at e
        exact e.2.1
      have en7 : T.nS = (sizeL T.S T.nS).length := hl7.symm
      have en8 : T.nS = (placeL T.S first T.nS).length := hl8.symm
      have HN6 := Lib.hid en6
      have HN7 := Lib.hid en7
      have HN8 := Lib.hid en8
      have hwr : w1.heap.size ≤ wr.heap.size := hs1r
      clear hl6 hl7 hl8 Ho6 Ho7 Ho8 HB3 HX HC2 HR h67 h68 h78 en6 en7 en8
      refine Plan.wp_region_own (fun w' => Below wr.heap.size wr w') 47 (tabG w1.heap.size T first (.iface 109 (.agg #[.string nCrsd, .slice ra4 L4.length rc4]))) tabP ([2, 3, 8, 9, 13, 14, 18, 19, 22, 26, 27, 30, 37, 38, 41].map (·, true)) tabS ([45, 46].map (·, false)) 98 (by kernel_rfl) (by kernel_rfl) (by kernel_rfl) (by kernel_rfl) (Below.refl _ _).drew ?_
      refine' Plan.plan_seg _ [2, 3, 8, 9, 13, 14, 18, 19, 22, 26, 27, 30, 37, 38, 41] [] (by kernel_rfl) (by kernel_rfl) rfl (by exact (Below.refl _ _).drew) (fun wx hS => ?_) ?_
      rotate_left
      · have y3 := (hS.cell (p := ⟨gt, 3, none⟩) (show gt < wr.heap.size by omega)).trans x3
        clear hS
        go_light
        iterate 15 (apply Plan.seg_pick; rfl; intro K hK; go_wp)
        exact Plan.seg_nil
      refine Plan.plan_nil ?_
      obtain ⟨wd, hwd⟩ : ∃ x, x = wr.drew := ⟨_, rfl⟩
      rw [← hwd]
      have hzd : wd.heap.size = wr.heap.size := by rw [hwd]; rfl
      have HZD := Lib.hid hzd
      have hwrd : wr.heap.size ≤ wd.heap.size := by omega
      clear hwd hzd x3
      refine Plan.ownAt_gen (fun A => A.tmps.size = 98 ∧ A.defers = [] ∧ A.tmps[55]? = some (.agg #[.string nCrsd, .slice ra4 L4.length rc4]) ∧ A.tmps[61]? = some (.slice a3 T.nS d3) ∧ A.tmps[66]? = some (.slice a3 T.nS d3) ∧ A.tmps[71]? = some (.int .i64 n6) ∧ A.tmps[74]? = some (.slice (some ⟨a6, 0, none⟩) n6 c6) ∧ A.tmps[79]? = some (.int .i64 T.nS) ∧ A.tmps[82]? = some (.slice (some ⟨a7, 0, none⟩) T.nS c7) ∧ A.tmps[90]? = some (.int .i64 T.nS) ∧ A.tmps[93]? = some (.slice (some ⟨a8, 0, none⟩) T.nS c8)) ⟨rfl, rfl, rfl, rfl, rfl, rfl, rfl, rfl, rfl, rfl, rfl⟩ (fun A hA => ?_)
      obtain ⟨hsz, hdf, e55, e61, e66, e71, e74, e79, e82, e90, e93⟩ := hA
      refine ⟨hsz, fun wa wb ha hb => ha.trans (hb.mono (by omega)), fun i R X v wa wb h ht hd _ _ => tabG_touch h ht hd, ?_, ?_⟩
      · intro p hp o ho vs wx R hS hE hG K hK
        have hSz := hS.size
        have HS := Lib.hid hS
        simp only [tabS, List.mem_cons, List.not_mem_nil, or_false] at hp
        rcases hp with rfl | rfl | rfl | rfl | rfl | rfl | rfl | rfl | rfl | rfl | rfl | rfl | rfl | rfl | rfl | rfl | rfl | rfl | rfl | rfl | rfl | rfl | rfl | rfl | rfl | rfl | rfl | rfl | rfl | rfl
        all_goals obtain rfl := Option.some.inj ho
        all_goals obtain ⟨Bq, hBq⟩ : ∃ Bq, Bq = Plan.puts vs tabS A := ⟨_, rfl⟩
        all_goals rw [← hBq] at hK ⊢
        · clear hG
          clear hBq e55 e61 e66 e71 e74 e79 e82 e90 e93 hsz hdf
          go_wp2
          have hil := IL.build wx [0, 1] 2
          exact hK _ _ (GI.new (show IL _ _ [0, 1] by exact hil) (fun a n c e => by cases e; exact ⟨Nat.le_refl _, by simp [go_sem]⟩)) (touch_below (below_box _ _))
        · obtain ⟨⟨hil, hft⟩, ht⟩ := hG (0, 52) (by decide) (by decide)
          have t0 : Bq.tmps[52]? = some (vs 0) := by rw [hBq]; exact Plan.puts_in vs tabS A (by decide) (by decide) (by rw [hsz]; decide)
          refine Plan.one_call rfl 52 Try.func52 (by kernel_rfl) (by kernel_rfl) #[.const (.slice none 0 0), .tmp 52] #[22, 51] rfl #[.slice none 0 0, vs 0] (by simp only [List.map_toArray, List.map_cons, List.map_nil, Act.eval, Array.getD_eq_getD_getElem?, Option.getD_some, t0]) (fun r w' => Own w' wx.heap.size r ([] ++ numsL [0, 1]) ∧ Adv wx w' (.slice none 0 0) r) (appn_any (.slice none 0 0) _ [] [0, 1] wx.heap.size wx (own_nil _ _) hil (fun a n c e h => by cases h) (by simp) (by simp) (Nat.le_refl _)) (fun r w' hR => ?_)
          exact hK _ _ (GO.new hR.1 (by omega)) (touch_below (hR.2.below rfl))
        · clear hG
          have t55 := (Plan.puts_out vs (s := 55) tabS A (by decide)).trans e55
          rw [← hBq] at t55
          clear hBq e55 e61 e66 e71 e74 e79 e82 e90 e93 hsz hdf
          go_wp2
          exact hK _ _ rfl (touch_below (Below.refl _ _))
        · obtain ⟨⟨ho, hft⟩, ht⟩ := hG (1, 53) (by decide) (by decide)
          obtain ⟨e4, _⟩ := hG (4, 56) (by decide) (by decide)
          have he4 : vs 4 = .iface 109 (.agg #[.string nCrsd, .slice ra4 L4.length rc4]) := e4
          have h4 := HO4r.out.below HS.out
          have hca : CA wx (vs 1).ownBlock (.iface 109 (.agg #[.string nCrsd, .slice ra4 L4.length rc4])) (.leaf nCrsd (descL T)) := by
            have h4b := h4.bl
            refine .leaf nCrsd _ (descL T) (by rw [← HL4.out]; exact h4b) (fun a n c e => ⟨fun h => ?_, (h4.at a n c e).2.2⟩)
            obtain ⟨a', n', c', e1, e2⟩ := own_block h
            have h1 := (ht _ (hft a' n' c' e1)).1
            have h2 := (HO4r.out.at a n c e).2.2
            omega
          have hle : (bytesT (.leaf nCrsd (descL T))).length ≤ 100000 := by
            simp only [bytesT]
            rw [boxP_length, ← HL4.out, HN4.out]
            have : nCrsd.size = 4 := rfl
            omega
          have t1 : Bq.tmps[53]? = some (vs 1) := by rw [hBq]; exact Plan.puts_in vs tabS A (by decide) (by decide) (by rw [hsz]; decide)
          have t4 : Bq.tmps[56]? = some (vs 4) := by rw [hBq]; exact Plan.puts_in vs tabS A (by decide) (by decide) (by rw [hsz]; decide)
          rw [he4] at t4
          refine Plan.one_call rfl 38 Try.func38 (by kernel_rfl) (by kernel_rfl) #[.tmp 53, .tmp 56] #[22, 83] rfl #[vs 1, .iface 109 (.agg #[.string nCrsd, .slice ra4 L4.length rc4])] (by simp only [List.map_toArray, List.map_cons, List.map_nil, Act.eval, Array.getD_eq_getD_getElem?, Option.getD_some, t1, t4]) (fun r w' => Own w' w1.heap.size r (numsL [0, 1] ++ bytesT (.leaf nCrsd (descL T))) ∧ Adv wx w' (vs 1) r) (appb_any (.leaf nCrsd (descL T)) trivial _ _ (numsL [0, 1]) w1.heap.size wx ho hca (by rw [numsL_length]; simp only [List.length_cons, List.length_nil]; omega) (by omega)) (fun r w' hR => ?_)
          exact hK _ _ (GO.adv hR.1 hR.2 (fun a n c e => terr_of (k := 1) (by decide) (hft a n c e))) (touch_adv hR.2 (fun a n c e => terr_of (k := 1) (by decide) (hft a n c e)))
        · obtain ⟨hgo, ht⟩ := hG (5, 57) (by decide) (by decide)
          obtain ⟨a0, c0, he⟩ := hgo.1.shape
          have HG' := Lib.hid hgo
          have t5 : Bq.tmps[57]? = some (vs 5) := by rw [hBq]; exact Plan.puts_in vs tabS A (by decide) (by decide) (by rw [hsz]; decide)
          rw [he] at t5 HG'
          clear hgo ht hG he
          clear hBq e55 e61 e66 e71 e74 e79 e82 e90 e93 hsz hdf
          go_wp2
          exact hK _ _ ⟨_, rfl, GO.same HG'.out (fun b hb => terr_of (by decide) hb)⟩ (touch_below (Below.refl _ _))
        · obtain ⟨⟨vd, he, hgo⟩, ht⟩ := hG (6, 58) (by decide) (by decide)
          have HG' := Lib.hid hgo
          have t6 : Bq.tmps[58]? = some (vs 6) := by rw [hBq]; exact Plan.puts_in vs tabS A (by decide) (by decide) (by rw [hsz]; decide)
          rw [he] at t6
          clear hgo ht hG he
          clear hBq e55 e61 e66 e71 e74 e79 e82 e90 e93 hsz hdf
          go_wp2
          exact hK _ _ ⟨vd, rfl, GO.same HG'.out (fun b hb => terr_of (by decide) hb)⟩ (touch_below (Below.refl _ _))
        · clear hG
          have t61 := (Plan.puts_out vs (s := 61) tabS A (by decide)).trans e61
          rw [← hBq] at t61
          refine Plan.one_call rfl 72 Try.func72 (by kernel_rfl) (by kernel_rfl) #[.tmp 61, .func 73] #[40, 134] rfl #[.slice a3 T.nS d3, .func (.func 73) #[] #[]] (by simp only [List.map_toArray, List.map_cons, List.map_nil, Act.eval, Array.getD_eq_getD_getElem?, Option.getD_some, t61]) (fun r w' => Own w' wx.heap.size r (runsL (fun i => (T.S i).dur) T.nS) ∧ Below wx.heap.size wx w') (runs_dur _ T.nS T.S wx (HSr.out.below HS.out) (by omega)) (fun r w' hR => ?_)
          exact hK _ _ (GO.new hR.1 (by omega)) (touch_below hR.2)
        · obtain ⟨hgo, ht⟩ := hG (10, 62) (by decide) (by decide)
          obtain ⟨a0, c0, he⟩ := hgo.1.shape
          have HG' := Lib.hid hgo
          have t10 : Bq.tmps[62]? = some (vs 10) := by rw [hBq]; exact Plan.puts_in vs tabS A (by decide) (by decide) (by rw [hsz]; decide)
          rw [he] at t10 HG'
          clear hgo ht hG he
          clear hBq e55 e61 e66 e71 e74 e79 e82 e90 e93 hsz hdf
          go_wp2
          exact hK _ _ ⟨_, rfl, GO.same HG'.out (fun b hb => terr_of (by decide) hb)⟩ (touch_below (Below.refl _ _))
        · obtain ⟨⟨vd, he, hgo⟩, ht⟩ := hG (11, 63) (by decide) (by decide)
          have HG' := Lib.hid hgo
          have t11 : Bq.tmps[63]? = some (vs 11) := by rw [hBq]; exact Plan.puts_in vs tabS A (by decide) (by decide) (by rw [hsz]; decide)
          rw [he] at t11
          clear hgo ht hG he
          clear hBq e55 e61 e66 e71 e74 e79 e82 e90 e93 hsz hdf
          go_wp2
          exact hK _ _ ⟨vd, rfl, GO.same HG'.out (fun b hb => terr_of (by decide) hb)⟩ (touch_below (Below.refl _ _))
        · clear hG
          have t66 := (Plan.puts_out vs (s := 66) tabS A (by decide)).trans e66
          rw [← hBq] at t66
          refine Plan.one_call rfl 72 Try.func72 (by kernel_rfl) (by kernel_rfl) #[.tmp 66, .func 74] #[40, 134] rfl #[.slice a3 T.nS d3, .func (.func 74) #[] #[]] (by simp only [List.map_toArray, List.map_cons, List.map_nil, Act.eval, Array.getD_eq_getD_getElem?, Option.getD_some, t66]) (fun r w' => Own w' wx.heap.size r (runsL (fun i => (T.S i).shift) T.nS) ∧ Below wx.heap.size wx w') (runs_shift _ T.nS T.S wx (HSr.out.below HS.out) (by omega)) (fun r w' hR => ?_)
          exact hK _ _ (GO.new hR.1 (by omega)) (touch_below hR.2)
        · obtain ⟨hgo, ht⟩ := hG (15, 67) (by decide) (by decide)
          obtain ⟨a0, c0, he⟩ := hgo.1.shape
          have HG' := Lib.hid hgo
          have t15 : Bq.tmps[67]? = some (vs 15) := by rw [hBq]; exact Plan.puts_in vs tabS A (by decide) (by decide) (by rw [hsz]; decide)
          rw [he] at t15 HG'
          clear hgo ht hG he
          clear hBq e55 e61 e66 e71 e74 e79 e82 e90 e93 hsz hdf
          go_wp2
          exact hK _ _ ⟨_, rfl, GO.same HG'.out (fun b hb => terr_of (by decide) hb)⟩ (touch_below (Below.refl _ _))
        · obtain ⟨⟨vd, he, hgo⟩, ht⟩ := hG (16, 68) (by decide) (by decide)
          have HG' := Lib.hid hgo
          have t16 : Bq.tmps[68]? = some (vs 16) := by rw [hBq]; exact Plan.puts_in vs tabS A (by decide) (by decide) (by rw [hsz]; decide)
          rw [he] at t16
          clear hgo ht hG he
          clear hBq e55 e61 e66 e71 e74 e79 e82 e90 e93 hsz hdf
          go_wp2
          exact hK _ _ ⟨vd, rfl, GO.same HG'.out (fun b hb => terr_of (by decide) hb)⟩ (touch_below (Below.refl _ _))
        · clear hG
          have t71 := (Plan.puts_out vs (s := 71) tabS A (by decide)).trans e71
          rw [← hBq] at t71
          clear hBq e55 e61 e66 e71 e74 e79 e82 e90 e93 hsz hdf
          go_wp2
          have hil := IL.build wx [0, (n6 : Int)] 2
          exact hK _ _ (GI.new (show IL _ _ [0, ((syncL T.S T.nS).length : Int)] by rw [← HN6.out]; exact hil) (fun a n c e => by cases e; exact ⟨Nat.le_refl _, by simp [go_sem]⟩)) (touch_below (below_box _ _))
        · obtain ⟨⟨hil, hft⟩, ht⟩ := hG (20, 72) (by decide) (by decide)
          have t20 : Bq.tmps[72]? = some (vs 20) := by rw [hBq]; exact Plan.puts_in vs tabS A (by decide) (by decide) (by rw [hsz]; decide)
          refine Plan.one_call rfl 52 Try.func52 (by kernel_rfl) (by kernel_rfl) #[.const (.slice none 0 0), .tmp 72] #[22, 51] rfl #[.slice none 0 0, vs 20] (by simp only [List.map_toArray, List.map_cons, List.map_nil, Act.eval, Array.getD_eq_getD_getElem?, Option.getD_some, t20]) (fun r w' => Own w' wx.heap.size r ([] ++ numsL [0, ((syncL T.S T.nS).length : Int)]) ∧ Adv wx w' (.slice none 0 0) r) (appn_any (.slice none 0 0) _ [] [0, ((syncL T.S T.nS).length : Int)] wx.heap.size wx (own_nil _ _) hil (fun a n c e h => by cases h) (by simp) (by simp) (Nat.le_refl _)) (fun r w' hR => ?_)
          exact hK _ _ (GO.new hR.1 (by omega)) (touch_below (hR.2.below rfl))
        · obtain ⟨⟨ho, hft⟩, ht⟩ := hG (21, 73) (by decide) (by decide)
          have t21 : Bq.tmps[73]? = some (vs 21) := by rw [hBq]; exact Plan.puts_in vs tabS A (by decide) (by decide) (by rw [hsz]; decide)
          have t74 := (Plan.puts_out vs (s := 74) tabS A (by decide)).trans e74
          rw [← hBq] at t74
          refine Plan.one_call rfl 52 Try.func52 (by kernel_rfl) (by kernel_rfl) #[.tmp 73, .tmp 74] #[22, 51] rfl #[vs 21, .slice (some ⟨a6, 0, none⟩) n6 c6] (by simp only [List.map_toArray, List.map_cons, List.map_nil, Act.eval, Array.getD_eq_getD_getElem?, Option.getD_some, t21, t74]) (fun r w' => Own w' w1.heap.size r (numsL [0, ((syncL T.S T.nS).length : Int)] ++ numsL (syncL T.S T.nS)) ∧ Adv wx w' (vs 21) r) (appn_any _ _ (numsL [0, ((syncL T.S T.nS).length : Int)]) (syncL T.S T.nS) w1.heap.size wx ho (IL6.out.below HS.out) (fun a n c e h => by
            obtain ⟨a', n', c', e1, e2⟩ := own_block h
            have h1 := (ht _ (hft a' n' c' e1)).1
            cases e
            simp only at e2
            omega) (by have := HL64.out; omega) (by simp [numsL_length]) (by omega)) (fun r w' hR => ?_)
          exact hK _ _ (GO.adv hR.1 hR.2 (fun a n c e => terr_of (k := 21) (by decide) (hft a n c e))) (touch_adv hR.2 (fun a n c e => terr_of (k := 21) (by decide) (hft a n c e)))
        · obtain ⟨hgo, ht⟩ := hG (23, 75) (by decide) (by decide)
          obtain ⟨a0, c0, he⟩ := hgo.1.shape
          have HG' := Lib.hid hgo
          have t23 : Bq.tmps[75]? = some (vs 23) := by rw [hBq]; exact Plan.puts_in vs tabS A (by decide) (by decide) (by rw [hsz]; decide)
          rw [he] at t23 HG'
          clear hgo ht hG he
          clear hBq e55 e61 e66 e71 e74 e79 e82 e90 e93 hsz hdf
          go_wp2
          exact hK _ _ ⟨_, rfl, GO.same HG'.out (fun b hb => terr_of (by decide) hb)⟩ (touch_below (Below.refl _ _))
        · obtain ⟨⟨vd, he, hgo⟩, ht⟩ := hG (24, 76) (by decide) (by decide)
          have HG' := Lib.hid hgo
          have t24 : Bq.tmps[76]? = some (vs 24) := by rw [hBq]; exact Plan.puts_in vs tabS A (by decide) (by decide) (by rw [hsz]; decide)
          rw [he] at t24
          clear hgo ht hG he
          clear hBq e55 e61 e66 e71 e74 e79 e82 e90 e93 hsz hdf
          go_wp2
          exact hK _ _ ⟨vd, rfl, GO.same HG'.out (fun b hb => terr_of (by decide) hb)⟩ (touch_below (Below.refl _ _))
        · clear hG
          have t79 := (Plan.puts_out vs (s := 79) tabS A (by decide)).trans e79
          rw [← hBq] at t79
          clear hBq e55 e61 e66 e71 e74 e79 e82 e90 e93 hsz hdf
          go_wp2
          have hil := IL.build wx [0, 0, (T.nS : Int)] 2
          exact hK _ _ (GI.new (show IL _ _ [0, 0, ((sizeL T.S T.nS).length : Int)] by rw [← HN7.out]; exact hil) (fun a n c e => by cases e; exact ⟨Nat.le_refl _, by simp [go_sem]⟩)) (touch_below (below_box _ _))
        · obtain ⟨⟨hil, hft⟩, ht⟩ := hG (28, 80) (by decide) (by decide)
          have t28 : Bq.tmps[80]? = some (vs 28) := by rw [hBq]; exact Plan.puts_in vs tabS A (by decide) (by decide) (by rw [hsz]; decide)
          refine Plan.one_call rfl 52 Try.func52 (by kernel_rfl) (by kernel_rfl) #[.const (.slice none 0 0), .tmp 80] #[22, 51] rfl #[.slice none 0 0, vs 28] (by simp only [List.map_toArray, List.map_cons, List.map_nil, Act.eval, Array.getD_eq_getD_getElem?, Option.getD_some, t28]) (fun r w' => Own w' wx.heap.size r ([] ++ numsL [0, 0, ((sizeL T.S T.nS).length : Int)]) ∧ Adv wx w' (.slice none 0 0) r) (appn_any (.slice none 0 0) _ [] [0, 0, ((sizeL T.S T.nS).length : Int)] wx.heap.size wx (own_nil _ _) hil (fun a n c e h => by cases h) (by simp) (by simp) (Nat.le_refl _)) (fun r w' hR => ?_)
          exact hK _ _ (GO.new hR.1 (by omega)) (touch_below (hR.2.below rfl))
        · obtain ⟨⟨ho, hft⟩, ht⟩ := hG (29, 81) (by decide) (by decide)
          have t29 : Bq.tmps[81]? = some (vs 29) := by rw [hBq]; exact Plan.puts_in vs tabS A (by decide) (by decide) (by rw [hsz]; decide)
          have t82 := (Plan.puts_out vs (s := 82) tabS A (by decide)).trans e82
          rw [← hBq] at t82
          refine Plan.one_call rfl 52 Try.func52 (by kernel_rfl) (by kernel_rfl) #[.tmp 81, .tmp 82] #[22, 51] rfl #[vs 29, .slice (some ⟨a7, 0, none⟩) T.nS c7] (by simp only [List.map_toArray, List.map_cons, List.map_nil, Act.eval, Array.getD_eq_getD_getElem?, Option.getD_some, t29, t82]) (fun r w' => Own w' w1.heap.size r (numsL [0, 0, ((sizeL T.S T.nS).length : Int)] ++ numsL (sizeL T.S T.nS)) ∧ Adv wx w' (vs 29) r) (appn_any _ _ (numsL [0, 0, ((sizeL T.S T.nS).length : Int)]) (sizeL T.S T.nS) w1.heap.size wx ho (IL7.out.below HS.out) (fun a n c e h => by
            obtain ⟨a', n', c', e1, e2⟩ := own_block h
            have h1 := (ht _ (hft a' n' c' e1)).1
            cases e
            simp only at e2
            omega) (by have := HL74.out; omega) (by simp [numsL_length]) (by omega)) (fun r w' hR => ?_)
          exact hK _ _ (GO.adv hR.1 hR.2 (fun a n c e => terr_of (k := 29) (by decide) (hft a n c e))) (touch_adv hR.2 (fun a n c e => terr_of (k := 29) (by decide) (hft a n c e)))
        · obtain ⟨hgo, ht⟩ := hG (31, 83) (by decide) (by decide)
          obtain ⟨a0, c0, he⟩ := hgo.1.shape
          have HG' := Lib.hid hgo
          have t31 : Bq.tmps[83]? = some (vs 31) := by rw [hBq]; exact Plan.puts_in vs tabS A (by decide) (by decide) (by rw [hsz]; decide)
          rw [he] at t31 HG'
          clear hgo ht hG he
          clear hBq e55 e61 e66 e71 e74 e79 e82 e90 e93 hsz hdf
          go_wp2
          exact hK _ _ ⟨_, rfl, GO.same HG'.out (fun b hb => terr_of (by decide) hb)⟩ (touch_below (Below.refl _ _))
        · obtain ⟨⟨vd, he, hgo⟩, ht⟩ := hG (32, 84) (by decide) (by decide)
          have HG' := Lib.hid hgo
          have t32 : Bq.tmps[84]? = some (vs 32) := by rw [hBq]; exact Plan.puts_in vs tabS A (by decide) (by decide) (by rw [hsz]; decide)
          rw [he] at t32
          clear hgo ht hG he
          clear hBq e55 e61 e66 e71 e74 e79 e82 e90 e93 hsz hdf
          go_wp2
          exact hK _ _ ⟨vd, rfl, GO.same HG'.out (fun b hb => terr_of (by decide) hb)⟩ (touch_below (Below.refl _ _))
        · clear hG
          refine Plan.one_call rfl 75 Try.func75 (by kernel_rfl) (by kernel_rfl) #[] #[] rfl #[] (by simp) (fun r w' => Own w' wx.heap.size r (chunkL) ∧ Below wx.heap.size wx w') (chunks_any wx) (fun r w' hR => ?_)
          exact hK _ _ (GO.new hR.1 (by omega)) (touch_below hR.2)
        · obtain ⟨hgo, ht⟩ := hG (34, 86) (by decide) (by decide)
          obtain ⟨a0, c0, he⟩ := hgo.1.shape
          have HG' := Lib.hid hgo
          have t34 : Bq.tmps[86]? = some (vs 34) := by rw [hBq]; exact Plan.puts_in vs tabS A (by decide) (by decide) (by rw [hsz]; decide)
          rw [he] at t34 HG'
          clear hgo ht hG he
          clear hBq e55 e61 e66 e71 e74 e79 e82 e90 e93 hsz hdf
          go_wp2
          exact hK _ _ ⟨_, rfl, GO.same HG'.out (fun b hb => terr_of (by decide) hb)⟩ (touch_below (Below.refl _ _))
        · obtain ⟨⟨vd, he, hgo⟩, ht⟩ := hG (35, 87) (by decide) (by decide)
          have HG' := Lib.hid hgo
          have t35 : Bq.tmps[87]? = some (vs 35) := by rw [hBq]; exact Plan.puts_in vs tabS A (by decide) (by decide) (by rw [hsz]; decide)
          rw [he] at t35
          clear hgo ht hG he
          clear hBq e55 e61 e66 e71 e74 e79 e82 e90 e93 hsz hdf
          go_wp2
          exact hK _ _ ⟨vd, rfl, GO.same HG'.out (fun b hb => terr_of (by decide) hb)⟩ (touch_below (Below.refl _ _))
        · clear hG
          have t90 := (Plan.puts_out vs (s := 90) tabS A (by decide)).trans e90
          rw [← hBq] at t90
          clear hBq e55 e61 e66 e71 e74 e79 e82 e90 e93 hsz hdf
          go_wp2
          have hil := IL.build wx [0, (T.nS : Int)] 2
          exact hK _ _ (GI.new (show IL _ _ [0, ((placeL T.S first T.nS).length : Int)] by rw [← HN8.out]; exact hil) (fun a n c e => by cases e; exact ⟨Nat.le_refl _, by simp [go_sem]⟩)) (touch_below (below_box _ _))
        · obtain ⟨⟨hil, hft⟩, ht⟩ := hG (39, 91) (by decide) (by decide)
          have t39 : Bq.tmps[91]? = some (vs 39) := by rw [hBq]; exact Plan.puts_in vs tabS A (by decide) (by decide) (by rw [hsz]; decide)
          refine Plan.one_call rfl 52 Try.func52 (by kernel_rfl) (by kernel_rfl) #[.const (.slice none 0 0), .tmp 91] #[22, 51] rfl #[.slice none 0 0, vs 39] (by simp only [List.map_toArray, List.map_cons, List.map_nil, Act.eval, Array.getD_eq_getD_getElem?, Option.getD_some, t39]) (fun r w' => Own w' wx.heap.size r ([] ++ numsL [0, ((placeL T.S first T.nS).length : Int)]) ∧ Adv wx w' (.slice none 0 0) r) (appn_any (.slice none 0 0) _ [] [0, ((placeL T.S first T.nS).length : Int)] wx.heap.size wx (own_nil _ _) hil (fun a n c e h => by cases h) (by simp) (by simp) (Nat.le_refl _)) (fun r w' hR => ?_)
          exact hK _ _ (GO.new hR.1 (by omega)) (touch_below (hR.2.below rfl))
        · obtain ⟨⟨ho, hft⟩, ht⟩ := hG (40, 92) (by decide) (by decide)
          have t40 : Bq.tmps[92]? = some (vs 40) := by rw [hBq]; exact Plan.puts_in vs tabS A (by decide) (by decide) (by rw [hsz]; decide)
          have t93 := (Plan.puts_out vs (s := 93) tabS A (by decide)).trans e93
          rw [← hBq] at t93
          refine Plan.one_call rfl 52 Try.func52 (by kernel_rfl) (by kernel_rfl) #[.tmp 92, .tmp 93] #[22, 51] rfl #[vs 40, .slice (some ⟨a8, 0, none⟩) T.nS c8] (by simp only [List.map_toArray, List.map_cons, List.map_nil, Act.eval, Array.getD_eq_getD_getElem?, Option.getD_some, t40, t93]) (fun r w' => Own w' w1.heap.size r (numsL [0, ((placeL T.S first T.nS).length : Int)] ++ numsL (placeL T.S first T.nS)) ∧ Adv wx w' (vs 40) r) (appn_any _ _ (numsL [0, ((placeL T.S first T.nS).length : Int)]) (placeL T.S first T.nS) w1.heap.size wx ho (IL8.out.below HS.out) (fun a n c e h => by
            obtain ⟨a', n', c', e1, e2⟩ := own_block h
            have h1 := (ht _ (hft a' n' c' e1)).1
            cases e
            simp only at e2
            omega) (by have := HL84.out; omega) (by simp [numsL_length]) (by omega)) (fun r w' hR => ?_)
          exact hK _ _ (GO.adv hR.1 hR.2 (fun a n c e => terr_of (k := 40) (by decide) (hft a n c e))) (touch_adv hR.2 (fun a n c e => terr_of (k := 40) (by decide) (hft a n c e)))
        · obtain ⟨hgo, ht⟩ := hG (42, 94) (by decide) (by decide)
          obtain ⟨a0, c0, he⟩ := hgo.1.shape
          have HG' := Lib.hid hgo
          have t42 : Bq.tmps[94]? = some (vs 42) := by rw [hBq]; exact Plan.puts_in vs tabS A (by decide) (by decide) (by rw [hsz]; decide)
          rw [he] at t42 HG'
          clear hgo ht hG he
          clear hBq e55 e61 e66 e71 e74 e79 e82 e90 e93 hsz hdf
          go_wp2
          exact hK _ _ ⟨_, rfl, GO.same HG'.out (fun b hb => terr_of (by decide) hb)⟩ (touch_below (Below.refl _ _))
        · obtain ⟨⟨vd, he, hgo⟩, ht⟩ := hG (43, 95) (by decide) (by decide)
          have HG' := Lib.hid hgo
          have t43 : Bq.tmps[95]? = some (vs 43) := by rw [hBq]; exact Plan.puts_in vs tabS A (by decide) (by decide) (by rw [hsz]; decide)
          rw [he] at t43
          clear hgo ht hG he
          clear hBq e55 e61 e66 e71 e74 e79 e82 e90 e93 hsz hdf
          go_wp2
          exact hK _ _ ⟨vd, rfl, GO.same HG'.out (fun b hb => terr_of (by decide) hb)⟩ (touch_below (Below.refl _ _))
      · intro vs R wx hS hE hall hap
        have h7 : GF _ _ _ (R 7) (vs 7) wx := (hall (7, 59) (by decide) (by decide)).1
        have C7 := Lib.hid (show ∀ no : Option Nat, (∀ q, no = some q → q < w1.heap.size) → CA wx no (vs 7) _ from fun no hno => h7.ca hno)
        obtain ⟨v7, he7, _⟩ := h7
        rw [he7] at C7
        have h12 : GF _ _ _ (R 12) (vs 12) wx := (hall (12, 64) (by decide) (by decide)).1
        have C12 := Lib.hid (show ∀ no : Option Nat, (∀ q, no = some q → q < w1.heap.size) → CA wx no (vs 12) _ from fun no hno => h12.ca hno)
        obtain ⟨v12, he12, _⟩ := h12
        rw [he12] at C12
        have h17 : GF _ _ _ (R 17) (vs 17) wx := (hall (17, 69) (by decide) (by decide)).1
        have C17 := Lib.hid (show ∀ no : Option Nat, (∀ q, no = some q → q < w1.heap.size) → CA wx no (vs 17) _ from fun no hno => h17.ca hno)
        obtain ⟨v17, he17, _⟩ := h17
        rw [he17] at C17
        have h25 : GF _ _ _ (R 25) (vs 25) wx := (hall (25, 77) (by decide) (by decide)).1
        have C25 := Lib.hid (show ∀ no : Option Nat, (∀ q, no = some q → q < w1.heap.size) → CA wx no (vs 25) _ from fun no hno => h25.ca hno)
        obtain ⟨v25, he25, _⟩ := h25
        rw [he25] at C25
        have h33 : GF _ _ _ (R 33) (vs 33) wx := (hall (33, 85) (by decide) (by decide)).1
        have C33 := Lib.hid (show ∀ no : Option Nat, (∀ q, no = some q → q < w1.heap.size) → CA wx no (vs 33) _ from fun no hno => h33.ca hno)
        obtain ⟨v33, he33, _⟩ := h33
        rw [he33] at C33
        have h36 : GF _ _ _ (R 36) (vs 36) wx := (hall (36, 88) (by decide) (by decide)).1
        have C36 := Lib.hid (show ∀ no : Option Nat, (∀ q, no = some q → q < w1.heap.size) → CA wx no (vs 36) _ from fun no hno => h36.ca hno)
        obtain ⟨v36, he36, _⟩ := h36
        rw [he36] at C36
        have h44 : GF _ _ _ (R 44) (vs 44) wx := (hall (44, 96) (by decide) (by decide)).1
        have C44 := Lib.hid (show ∀ no : Option Nat, (∀ q, no = some q → q < w1.heap.size) → CA wx no (vs 44) _ from fun no hno => h44.ca hno)
        obtain ⟨v44, he44, _⟩ := h44
        rw [he44] at C44
        obtain ⟨Bq, hBq⟩ : ∃ Bq, Bq = Plan.puts vs tabS A := ⟨_, rfl⟩
        rw [← hBq]
        have t7 : Bq.tmps[59]? = some (vs 7) := by rw [hBq]; exact Plan.puts_in vs tabS A (by decide) (by decide) (by rw [hsz]; decide)
        rw [he7] at t7
        have t12 : Bq.tmps[64]? = some (vs 12) := by rw [hBq]; exact Plan.puts_in vs tabS A (by decide) (by decide) (by rw [hsz]; decide)
        rw [he12] at t12
        have t17 : Bq.tmps[69]? = some (vs 17) := by rw [hBq]; exact Plan.puts_in vs tabS A (by decide) (by decide) (by rw [hsz]; decide)
        rw [he17] at t17
        have t25 : Bq.tmps[77]? = some (vs 25) := by rw [hBq]; exact Plan.puts_in vs tabS A (by decide) (by decide) (by rw [hsz]; decide)
        rw [he25] at t25
        have t33 : Bq.tmps[85]? = some (vs 33) := by rw [hBq]; exact Plan.puts_in vs tabS A (by decide) (by decide) (by rw [hsz]; decide)
        rw [he33] at t33
        have t36 : Bq.tmps[88]? = some (vs 36) := by rw [hBq]; exact Plan.puts_in vs tabS A (by decide) (by decide) (by rw [hsz]; decide)
        rw [he36] at t36
        have t44 : Bq.tmps[96]? = some (vs 44) := by rw [hBq]; exact Plan.puts_in vs tabS A (by decide) (by decide) (by rw [hsz]; decide)
        rw [he44] at t44
        have hsB : Bq.tmps.size = 98 := by rw [hBq, Plan.puts_size, hsz]
        have hdB : Bq.defers = [] := by rw [hBq, Plan.puts_defers, hdf]
        have HS := Lib.hid hS
        have hSz := hS.size
        have hpa := Parts.of_alloc (w := wx) (t := 83) (n := 7) (B := w1.heap.size) (P := stbl T first) [.iface 109 (.agg #[.string nStsd, v7]), .iface 109 (.agg #[.string nStts, v12]), .iface 109 (.agg #[.string nCtts, v17]), .iface 109 (.agg #[.string nStss, v25]), .iface 109 (.agg #[.string nStsz, v33]), .iface 109 (.agg #[.string nStsc, v36]), .iface 109 (.agg #[.string nStco, v44])] rfl (by omega) (fun i v hv => by
          have hi : i < 7 := (List.getElem?_eq_some_iff.1 hv).1
          rcases (show i = 0 ∨ i = 1 ∨ i = 2 ∨ i = 3 ∨ i = 4 ∨ i = 5 ∨ i = 6 by omega) with rfl | rfl | rfl | rfl | rfl | rfl | rfl <;> (simp only [List.getElem?_cons_zero, List.getElem?_cons_succ, Option.some.injEq] at hv; subst hv)
          · exact C7.out
          · exact C12.out
          · exact C17.out
          · exact C25.out
          · exact C33.out
          · exact C36.out
          · exact C44.out)
        have HPA := Lib.hid hpa
        clear hall hap hE hS hpa hBq hsz hdf he7 he12 he17 he25 he33 he36 he44 e55 e61 e66 e71 e74 e79 e82 e90 e93
        refine Plan.plan_of_effect rfl (fun K hK => ?_)
        refine wpList_seven rfl (.tmp 59) (.tmp 64) (.tmp 69) (.tmp 77) (.tmp 85) (.tmp 88) (.tmp 96) rfl 109 109 109 109 109 109 109 (.agg #[.string nStsd, v7]) (.agg #[.string nStts, v12]) (.agg #[.string nCtts, v17]) (.agg #[.string nStss, v25]) (.agg #[.string nStsz, v33]) (.agg #[.string nStsc, v36]) (.agg #[.string nStco, v44]) (by simp only [List.map_toArray, List.map_cons, List.map_nil, Act.eval, Array.getD_eq_getD_getElem?, Option.getD_some, t7]) (by simp only [List.map_toArray, List.map_cons, List.map_nil, Act.eval, Array.getD_eq_getD_getElem?, Option.getD_some, t12]) (by simp only [List.map_toArray, List.map_cons, List.map_nil, Act.eval, Array.getD_eq_getD_getElem?, Option.getD_some, t17]) (by simp only [List.map_toArray, List.map_cons, List.map_nil, Act.eval, Array.getD_eq_getD_getElem?, Option.getD_some, t25]) (by simp only [List.map_toArray, List.map_cons, List.map_nil, Act.eval, Array.getD_eq_getD_getElem?, Option.getD_some, t33]) (by simp only [List.map_toArray, List.map_cons, List.map_nil, Act.eval, Array.getD_eq_getD_getElem?, Option.getD_some, t36]) (by simp only [List.map_toArray, List.map_cons, List.map_nil, Act.eval, Array.getD_eq_getD_getElem?, Option.getD_some, t44]) (wpList_nil (hK _ _ ?_))
        obtain ⟨w9, hw9⟩ : ∃ x, x = wx.alloc (.cells #[.iface 109 (.agg #[.string nStsd, v7]), .iface 109 (.agg #[.string nStts, v12]), .iface 109 (.agg #[.string nCtts, v17]), .iface 109 (.agg #[.string nStss, v25]), .iface 109 (.agg #[.string nStsz, v33]), .iface 109 (.agg #[.string nStsc, v36]), .iface 109 (.agg #[.string nStco, v44])] 83) := ⟨_, rfl⟩
        have hb9 : Below wx.heap.size wx w9 := by rw [hw9]; exact below_box _ _
        have hpa9 : Parts w9 w1.heap.size (.slice (some ⟨wx.heap.size, 0, none⟩) 7 7) 7 (stbl T first) := by rw [hw9]; exact HPA.out
        rw [← hw9]
        have HP9 := Lib.hid hpa9
        have HS9 := Lib.hid (HS.out.trans (hb9.mono hSz))
        clear hw9 hb9 hpa9 HPA t7 t12 t17 t25 t33 t36 t44
        refine ⟨HS9.out, ?_⟩
        obtain ⟨rv, hrv⟩ : ∃ v, v = Value.slice (some ⟨wx.heap.size, 0, none⟩) 7 7 := ⟨_, rfl⟩
        rw [← hrv] at HP9 ⊢
        obtain ⟨Cq, hCq⟩ : ∃ Cq, Cq = Bq.put (some 97) rv := ⟨_, rfl⟩
        have t97 : Cq.tmps[97]? = some rv := by rw [hCq]; simp [Act.put, Array.getElem?_setIfInBounds, hsB]
        have hsC : Cq.tmps.size = 98 := by rw [hCq]; simp [Act.put, hsB]
        have hdC : Cq.defers = [] := by rw [hCq]; exact hdB
        show Plan.wpPlan Try.prog _ _ _ _ _ _ (Bq.put (some 97) rv) w9
        rw [← hCq]
        clear hCq hsB hdB hrv
        refine Plan.plan_of_effect rfl (fun K hK => ?_)
        go_wp2_with fail
        refine ⟨HS9.out, ?_⟩
        refine Plan.plan_done ?_
        go_wp2_with fail
        have hget : (Cq.tmps.setIfInBounds 4 Cq.tmps[97]).getD 4 undef = rv := by
          have h97 : 97 < Cq.tmps.size := by omega
          rw [Array.getElem?_eq_getElem h97] at t97
          rw [Option.some.inj t97, Array.getD_eq_getD_getElem?, Array.getElem?_setIfInBounds, if_pos rfl, if_pos (by omega)]
          rfl
        refine bodyPost_ret (results_tmp Try.results65 _ _ _) rfl ?_
        rw [hget]
        exact ⟨rv, rfl, HP9.out.mono (by omega), HB1.out.trans ((hb1r.out.trans (HS9.out.mono (by omega))).mono (by omega))⟩
end Go.Proofs.Ytkhjkemllgjfmaa

/- A track's box as a tree; rows of contents of the call's own. -/
namespace Go.Proofs.Ytkhjkemllgjfmaa
open Go.RowKit
set_option linter.unusedVariables false
set_option linter.unusedSimpArgs false

def nTkhd : ByteArray := ⟨#[116, 107, 104, 100]⟩
def nEdts : ByteArray := ⟨#[101, 100, 116, 115]⟩
def nElst : ByteArray := ⟨#[101, 108, 115, 116]⟩
def nMdhd : ByteArray := ⟨#[109, 100, 104, 100]⟩
def nHdlr : ByteArray := ⟨#[104, 100, 108, 114]⟩
def nStbl : ByteArray := ⟨#[115, 116, 98, 108]⟩
def nMinf : ByteArray := ⟨#[109, 105, 110, 102]⟩
def nMdia : ByteArray := ⟨#[109, 100, 105, 97]⟩
def nTrak : ByteArray := ⟨#[116, 114, 97, 107]⟩
def zs (n : Nat) : List Int := List.replicate n 0
def tkhdL (k : Int) : List Int := [0, 0, 0, 3] ++ zs 8 ++ numsL [k] ++ zs 4 ++ numsL [0] ++ zs 16 ++ matL ++ zs 8
def mdhdL (T : Tr) : List Int := [] ++ zs 12 ++ numsL [T.sc, 0] ++ [85, 196, 0, 0]
def hdlrL (T : Tr) : List Int := [] ++ zs 8 ++ strB T.h ++ zs 13
def edtsT (T : Tr) : CT := .group nEdts 1 fun _ => .leaf nElst (numsL [0, (T.nE : Int)] ++ edL T.E T.nE)
def minfT (T : Tr) (first : Int) : CT := .group nMinf 1 fun _ => .group nStbl 7 (stbl T first)
def mdiaT (T : Tr) (first : Int) : CT := .group nMdia 3 fun i => if i = 0 then .leaf nMdhd (mdhdL T) else if i = 1 then .leaf nHdlr (hdlrL T) else minfT T first
def trakT (T : Tr) (k first : Int) : CT :=
  if 0 < T.nE then .group nTrak 3 fun i => if i = 0 then .leaf nTkhd (tkhdL k) else if i = 1 then edtsT T else mdiaT T first
  else .group nTrak 2 fun i => if i = 0 then .leaf nTkhd (tkhdL k) else mdiaT T first

/-- A row of contents. -/
def OwnC (w : World) (B : Nat) (v : Value) (xs : List Value) : Prop := w.ownsRow B 83 1 v xs.length xs
theorem OwnC.below {w w' : World} {B : Nat} {v : Value} {xs : List Value} (h : OwnC w B v xs) (hb : Below w.heap.size w w') : OwnC w' B v xs := owns_below h hb
theorem OwnC.shape {w : World} {B : Nat} {v : Value} {xs : List Value} (h : OwnC w B v xs) : ∃ a c, v = .slice a xs.length c := owns_shapeN h
theorem OwnC.one (w : World) (x : Value) : OwnC (w.alloc (.cells #[x] 83)) w.heap.size (.slice (some ⟨w.heap.size, 0, none⟩) 1 1) [x] := owns_one w 83 1 #[x] rfl
theorem Parts.group {w : World} {L n : Nat} {v : Value} {P : Nat → CT} (name : ByteArray) (h : Parts w L v n P) {no : Option Nat} (hno : ∀ q, no = some q → q < L) : CA w no (.iface 107 (.agg #[.string name, v])) (.group name n P) := by
  obtain ⟨g, f, rfl, hL, hl, hc, hs⟩ := h
  exact .group name n P g 0 n f (Nat.le_refl _) (fun e => by have := hno _ e; omega) hl hc (fun i hi => hs i hi no hno)
theorem Own.ca {w : World} {B : Nat} {v : Value} {L : List Int} (nm : ByteArray) (h : Own w B v L) {no : Option Nat} (hno : ∀ q, no = some q → q < B) : CA w no (.iface 109 (.agg #[.string nm, v])) (.leaf nm L) :=
  .leaf nm v L h.bl (fun a n c e => ⟨fun h' => by have h1 := hno _ h'; have h2 := (h.at a n c e).2.1; omega, (h.at a n c e).2.2⟩)
theorem BL.only0 {w w' : World} {v : Value} {L : List Int} (h : BL w v L) (hs : ∀ a n c, v = .slice (some a) n c → a.block < w.heap.size → w'.heap[a.block]? = w.heap[a.block]?) : BL w' v L := by
  obtain ⟨ao, c, rfl, hc, H⟩ := h
  refine ⟨ao, c, rfl, hc, fun i u hi => ?_⟩
  obtain ⟨b, o, rfl, hx⟩ := H i u hi
  have hl : b < w.heap.size := block_lt_of_cell hx
  exact ⟨b, o, rfl, (World.cell?_of_block (w := w) (a := ⟨b, o + i, none⟩) (hs ⟨b, o, none⟩ _ _ rfl hl)).trans hx⟩
/-- What avoids the block that has changed stays as it is. -/
theorem CA.both {w w' : World} {p no : Option Nat} {v : Value} {t : CT} (h : CA w p v t) (hg : w.grownBy w' p) : CA w no v t → CA w' no v t := by
  induction h with
  | leaf name vd data h hx =>
    intro h2
    cases h2 with
    | leaf _ _ _ _ hx2 => exact .leaf name vd data (h.only0 (fun a n c e hl => hg.block _ hl (fun h' => (hx a n c e).1 h'.symm))) (fun a n c e => ⟨(hx2 a n c e).1, Nat.lt_of_lt_of_le (hx a n c e).2 hg.size⟩)
  | group name n parts g o c f hc hb hlt hcell hsub ih =>
    intro h2
    cases h2 with
    | group _ _ _ _ _ _ f2 _ hb2 _ hcell2 hsub2 =>
      refine .group name n parts g o c f hc hb2 (Nat.lt_of_lt_of_le hlt hg.size) (fun i hi => (World.cell?_of_block (w := w) (a := ⟨g, o + i, none⟩) (hg.block g hlt (fun h' => hb h'.symm))).trans (hcell i hi)) (fun i hi => ih i hi ?_)
      have e : f2 i = f i := Option.some.inj ((hcell2 i hi).symm.trans (hcell i hi))
      rw [← e]
      exact hsub2 i hi
theorem CA.move {w : World} {p : Option Nat} {k : Nat} {v : Value} {t : CT} (h : CA w p v t) (hk : w.heap.size ≤ k) : CA w (some k) v t := by
  induction h with
  | leaf name vd data h hx => exact .leaf name vd data h (fun a n c e => ⟨fun h' => by have := (hx a n c e).2; cases h'; omega, (hx a n c e).2⟩)
  | group name n parts g o c f hc hb hlt hcell hsub ih => exact .group name n parts g o c f hc (fun h' => by cases h'; omega) hlt hcell ih

/-- A row of contents, with the trees that they are. -/
structure RowC (w : World) (B : Nat) (v : Value) (xs : List Value) (P : Nat → CT) : Prop where
  own : OwnC w B v xs
  here : ∀ i x, xs[i]? = some x → CA w v.ownBlock x (P i)
  low : ∀ i x, xs[i]? = some x → ∀ no : Option Nat, (∀ q, no = some q → q < B) → CA w no x (P i)
theorem RowC.below {w w' : World} {B : Nat} {v : Value} {xs : List Value} {P : Nat → CT} (h : RowC w B v xs P) (hb : Below w.heap.size w w') : RowC w' B v xs P :=
  ⟨h.own.below hb, fun i x hi => (h.here i x hi).bel hb, fun i x hi no hno => (h.low i x hi no hno).bel hb⟩
theorem RowC.add {w w' : World} {B W0 : Nat} {v v' y : Value} {xs : List Value} {P : Nat → CT} {t : CT} (h : RowC w B v xs P) (hv : ∀ g, v.ownBlock = some g → g < W0) (hB : B ≤ W0) (hy : ∀ no : Option Nat, (∀ q, no = some q → q < W0) → CA w no y t)
    (ho : OwnC w' B v' (xs ++ [y])) (ha : Adv0 w w' v v') : RowC w' B v' (xs ++ [y]) (fun i => if i = xs.length then t else P i) := by
  have both : ∀ {x : Value} {t : CT} {no : Option Nat}, CA w v.ownBlock x t → CA w no x t → CA w' no x t := fun h1 h2 => h1.both ha.g h2
  have here : ∀ {x : Value} {t : CT}, CA w v.ownBlock x t → CA w' v'.ownBlock x t := fun h1 => by
    rcases ha.o with e | ⟨k, e, hk⟩
    · rw [e]; exact both h1 h1
    · rw [e]; exact both h1 (h1.move hk)
  have split : ∀ i x, (xs ++ [y])[i]? = some x → (i < xs.length ∧ xs[i]? = some x) ∨ (i = xs.length ∧ x = y) := by
    intro i x hi
    by_cases hlt : i < xs.length
    · rw [List.getElem?_append_left hlt] at hi
      exact .inl ⟨hlt, hi⟩
    · rw [List.getElem?_append_right (by omega)] at hi
      have h0 : i - xs.length = 0 := by
        have := (List.getElem?_eq_some_iff.1 hi).1
        simp at this
        omega
      rw [h0] at hi
      simp at hi
      exact .inr ⟨by omega, hi.symm⟩
  refine ⟨ho, fun i x hi => ?_, fun i x hi no hno => ?_⟩
  · rcases split i x hi with ⟨hlt, hx⟩ | ⟨rfl, rfl⟩
    · simp only [show i ≠ xs.length by omega, if_false]
      exact here (h.here i x hx)
    · simp only [if_true]
      exact here (hy _ hv)
  · rcases split i x hi with ⟨hlt, hx⟩ | ⟨rfl, rfl⟩
    · simp only [show i ≠ xs.length by omega, if_false]
      exact both (h.here i x hx) (h.low i x hx no hno)
    · simp only [if_true]
      exact both (hy _ hv) (hy no (fun q hq => Nat.lt_of_lt_of_le (hno q hq) hB))
theorem RowC.group {w : World} {B : Nat} {v : Value} {xs : List Value} {P Q : Nat → CT} {n : Nat} (name : ByteArray) (h : RowC w B v xs P) (hn : xs.length = n) (h0 : 0 < n) (hPQ : ∀ i, i < n → P i = Q i) {no : Option Nat} (hno : ∀ q, no = some q → q < B) : CA w no (.iface 107 (.agg #[.string name, v])) (.group name n Q) := by
  subst hn
  obtain ⟨g, c, rfl, hc, hB, hf, hcell⟩ := owns_open2 h.own h0
  have hx' : ∀ i (hi : i < xs.length), w.cell? ⟨g, 0 + i, none⟩ = some (xs.getD i undef) := fun i hi => by
    rw [Nat.zero_add]
    exact hcell i _ (by simp [List.getD, List.getElem?_eq_getElem hi])
  exact .group name xs.length Q g 0 c (fun i => xs.getD i undef) hc (fun e => by have := hno _ e; omega) (block_lt_of_cell (hx' 0 h0)) hx' (fun i hi => by rw [← hPQ i hi]; exact h.low i _ (by simp [List.getD, List.getElem?_eq_getElem hi]) no hno)
theorem RowC.one {w : World} {B : Nat} {x : Value} {t : CT} (hB : B ≤ w.heap.size) (h : ∀ no : Option Nat, (∀ q, no = some q → q < B) → CA w no x t) : RowC (w.alloc (.cells #[x] 83)) B (.slice (some ⟨w.heap.size, 0, none⟩) 1 1) [x] (fun _ => t) := by
  have one : ∀ i y, [x][i]? = some y → y = x := fun i y hi => by
    have h0 : i = 0 := by
      have := (List.getElem?_eq_some_iff.1 hi).1
      simp at this
      exact this
    subst h0
    simp at hi
    exact hi.symm
  refine ⟨owns_mono (OwnC.one w x) hB, fun i y hi => ?_, fun i y hi no hno => ?_⟩
  · rw [one i y hi]
    exact ((h none (by simp)).move (Nat.le_refl _)).bel (below_box _ _)
  · rw [one i y hi]
    exact (h no hno).bel (below_box _ _)
theorem OwnC.lt {w : World} {B : Nat} {v : Value} {xs : List Value} (h : OwnC w B v xs) {g : Nat} (hg : v.ownBlock = some g) : g < w.heap.size := by
  rcases h.2 with ⟨rfl, _⟩ | ⟨g', cap, cur, rfl, h1, h2, _⟩
  · cases hg
  · cases hg; exact (Array.getElem?_eq_some_iff.1 h2).1
theorem Adv0.up {w w' : World} {B : Nat} {v v' : Value} {xs : List Value} (h : OwnC w B v xs) (ha : Adv0 w w' v v') (hB : B ≤ w.heap.size) : Below B w w' :=
  (Below.refl _ _).grown ha.g hB (fun k hk => by
    rcases h.2 with ⟨rfl, _⟩ | ⟨g', cap, cur, rfl, h1, h2, _⟩
    · cases hk
    · cases hk; exact h1)
/-- One more content, at the operation. -/
theorem wpList_addC (w : World) {ops : Array Oper} {rest : List Oper} {o : Oper} {a : Act} {Q : Exit → Act → World → Prop} (hgd : o.guard = none) (s x : Operand)
    (ho : o.op = .call { callee := .builtin .append, args := #[s, x], argTypes := #[105, 105] }) (B : Nat) (v : Value) (xs : List Value) (y : Value) (hs : a.eval s = v) (hown : OwnC w B v xs)
    (b c : Nat) (hx : a.eval x = .slice (some ⟨b, 0, none⟩) 1 c) (hy : w.cell? ⟨b, 0, none⟩ = some y) (h1 : y.oneCell' = true) (hk : xs.length + 1 ≤ 100000) (hB : B ≤ w.heap.size)
    (h : ∀ v' w', OwnC w' B v' (xs ++ [y]) → Adv0 w w' v v' → wpList Try.prog ops Q rest (a.put o.dst v') w') : wpList Try.prog ops Q (o :: rest) a w := by
  obtain ⟨i0, hi, hz0, hz1, hz2⟩ := info_parts info83
  refine wpList_append_lies _ hgd s x 105 ho B 83 i0 .nilIface 1 16 Try.underlying105 hi hz0 hz1 hz2 rfl (by decide) v xs.length xs hs hown ⟨b, 0, none⟩ 1 c [y] hx rfl (fun j u hj => ?_) (fun u hu => by simp at hu; subst hu; exact h1) (by decide) (by unfold maxLen; omega) (by omega) hB w.heap.size rfl (fun g cap w' hown' hg hor hlt => ?_)
  · have : j = 0 := by
      have := (List.getElem?_eq_some_iff.1 hj).1
      simp at this
      exact this
    subst this
    simp at hj
    subst hj
    rw [Addr.add_lit]
    exact hy
  · refine h _ w' (by unfold OwnC; rw [List.length_append]; exact hown') ⟨hg, ?_⟩
    rcases hor with e | e
    · exact .inl e.symm
    · exact .inr ⟨g, rfl, by omega⟩
end Go.Proofs.Ytkhjkemllgjfmaa
