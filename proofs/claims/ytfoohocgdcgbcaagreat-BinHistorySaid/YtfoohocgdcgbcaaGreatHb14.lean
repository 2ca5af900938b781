/- Texts of this claim joined: SN SO ML MM MN QE QG MO MP SQ. -/
import Derived.Handy
import Derived.OwnWalk
import Derived.Test.YtfoohocgdcgbcaaGreatHb13
set_option linter.unusedVariables false
set_option linter.unusedSimpArgs false
namespace Go.Proofs.YtfoohocgdcgbcaaGreat
open Go.RowKit
def Ag (S : Nat → Prop) (w w' : World) : Prop := ∀ b, S b → w'.heap[b]? = w.heap[b]?
theorem Ag.refl (S : Nat → Prop) (w : World) : Ag S w w := fun _ _ => rfl
theorem Ag.trans {S : Nat → Prop} {a b c : World} (h : Ag S a b) (k : Ag S b c) : Ag S a c := fun x hx => (k x hx).trans (h x hx)
theorem Tk.ag {w w' : World} {v : Value} {l : List Trk.Clip} (h : Tk w v l) (ha : Ag (· < w.heap.size) w w') : Tk w' v l := by
 obtain ⟨ao, cap, e, h1, h2, h3⟩ := h
 refine ⟨ao, cap, e, h1, h2, fun i c hi => ?_⟩
 obtain ⟨b, o, e2, hc⟩ := h3 i c hi
 exact ⟨b, o, e2, hc.same (ha b hc.lt)⟩
theorem rangeAt_ag {w w' : World} {b o : Nat} {xs : List Value} (h : w.rangeAt b o xs) (hs : w'.heap[b]? = w.heap[b]?) : w'.rangeAt b o xs := fun j u hj => (World.cell?_of_block (a := ⟨b, o + j, none⟩) hs).trans (h j u hj)
theorem rangeAt_lt {w : World} {b o : Nat} {xs : List Value} (h : w.rangeAt b o xs) (hn : xs ≠ []) : b < w.heap.size := by
 cases xs with
 | nil => exact absurd rfl hn
 | cons x l => exact block_lt_of_cell (h 0 x rfl)
theorem Rvs.ag {w w' : World} {v : Value} {rs : List Rv} (h : Rvs w v rs) (ha : Ag (· < w.heap.size) w w') : Rvs w' v rs := by
 obtain ⟨ao, cap, e, h1, h2, h3⟩ := h
 refine ⟨ao, cap, e, h1, h2, fun i r hi => ?_⟩
 obtain ⟨b, o, tv, e2, hr, ht⟩ := h3 i r hi
 exact ⟨b, o, tv, e2, rangeAt_ag hr (ha b (rangeAt_lt hr (by simp [revL]))), ht.ag ha⟩
theorem Dcs.ag {w w' : World} {v : Value} {ds : List Dc} (h : Dcs w v ds) (ha : Ag (· < w.heap.size) w w') : Dcs w' v ds := by
 obtain ⟨ao, cap, e, h1, h2, h3⟩ := h
 refine ⟨ao, cap, e, h1, h2, fun i d hi => ?_⟩
 obtain ⟨b, o, rv, e2, hr, ht⟩ := h3 i d hi
 exact ⟨b, o, rv, e2, rangeAt_ag hr (ha b (rangeAt_lt hr (by simp [docL]))), ht.ag ha⟩
def TS (S : Nat → Prop) (w : World) (v : Value) (l : List Trk.Clip) : Prop := ∀ w', Ag S w w' → Tk w' v l
def RS (S : Nat → Prop) (w : World) (v : Value) (rs : List Rv) : Prop := ∃ ao cap, v = .slice ao rs.length cap ∧ rs.length ≤ cap ∧ cap ≤ maxLen ∧ ∀ i r, rs[i]? = some r → ∃ b o tv, ao = some ⟨b, o, none⟩ ∧ S b ∧ w.rangeAt b (o + i * 5) (revL r tv) ∧ TS S w tv r.t
theorem TS.get {S : Nat → Prop} {w : World} {v : Value} {l : List Trk.Clip} (h : TS S w v l) : Tk w v l := h w (Ag.refl S w)
theorem RS.get {S : Nat → Prop} {w : World} {v : Value} {l : List Rv} (h : RS S w v l) : Rvs w v l := by
 obtain ⟨ao, cap, e, h1, h2, h3⟩ := h
 exact ⟨ao, cap, e, h1, h2, fun i r hi => by obtain ⟨b, o, tv, e2, -, hr, ht⟩ := h3 i r hi; exact ⟨b, o, tv, e2, hr, ht.get⟩⟩
theorem TS.of {w : World} {v : Value} {l : List Trk.Clip} (h : Tk w v l) : TS (· < w.heap.size) w v l := fun _ ha => h.ag ha
theorem RS.of {w : World} {v : Value} {l : List Rv} (h : Rvs w v l) : RS (· < w.heap.size) w v l := by
 obtain ⟨ao, cap, e, h1, h2, h3⟩ := h
 exact ⟨ao, cap, e, h1, h2, fun i r hi => by obtain ⟨b, o, tv, e2, hr, ht⟩ := h3 i r hi; exact ⟨b, o, tv, e2, rangeAt_lt hr (by simp [revL]), hr, TS.of ht⟩⟩
theorem TS.on {S : Nat → Prop} {w w' : World} {v : Value} {l : List Trk.Clip} (h : TS S w v l) (ha : Ag S w w') : TS S w' v l := fun w'' k => h w'' (ha.trans k)
theorem RS.on {S : Nat → Prop} {w w' : World} {v : Value} {l : List Rv} (h : RS S w v l) (ha : Ag S w w') : RS S w' v l := by
 obtain ⟨ao, cap, e, h1, h2, h3⟩ := h
 exact ⟨ao, cap, e, h1, h2, fun i r hi => by obtain ⟨b, o, tv, e2, hb, hr, ht⟩ := h3 i r hi; exact ⟨b, o, tv, e2, hb, rangeAt_ag hr (ha b hb), ht.on ha⟩⟩
theorem TS.mono {S T : Nat → Prop} {w : World} {v : Value} {l : List Trk.Clip} (h : TS S w v l) (hs : ∀ b, S b → T b) : TS T w v l := fun w' k => h w' fun b hb => k b (hs b hb)
theorem RS.mono {S T : Nat → Prop} {w : World} {v : Value} {l : List Rv} (h : RS S w v l) (hs : ∀ b, S b → T b) : RS T w v l := by
 obtain ⟨ao, cap, e, h1, h2, h3⟩ := h
 exact ⟨ao, cap, e, h1, h2, fun i r hi => by obtain ⟨b, o, tv, e2, hb, hr, ht⟩ := h3 i r hi; exact ⟨b, o, tv, e2, hs b hb, hr, ht.mono hs⟩⟩
theorem RowX.blk {w w' : World} {B k s g cap : Nat} {E : TypeId} {xs : List Value} (h : RowX w B E s (.slice (some ⟨g, 0, none⟩) k cap) k xs) (hs : w'.heap[g]? = w.heap[g]?) : RowX w' B E s (.slice (some ⟨g, 0, none⟩) k cap) k xs := by
 rcases h with ⟨e, _⟩ | ⟨g', cap', cur, e, hB, hg, h⟩
 ·simp at e
 ·have e' := e
  simp only [Value.slice.injEq, Option.some.injEq, Addr.mk.injEq, and_true, true_and] at e'
  obtain ⟨rfl, rfl⟩ := e'
  exact .inr ⟨g, cap, cur, e, hB, hs.trans hg, h⟩
theorem RowX.frozen {w : World} {B k s g cap : Nat} {E : TypeId} {xs : List Value} (h : RowX w B E s (.slice (some ⟨g, 0, none⟩) k cap) k xs) (o : Nat) : w.frozen? ⟨g, o, none⟩ = false := by
 rcases h with ⟨e, _⟩ | ⟨g', cap', cur, e, hB, hg, h⟩
 ·simp at e
 ·simp only [Value.slice.injEq, Option.some.injEq, Addr.mk.injEq, and_true, true_and] at e
  obtain ⟨rfl, rfl⟩ := e
  simp [World.frozen?, hg]
theorem RowX.lt {w : World} {B k s g cap : Nat} {E : TypeId} {xs : List Value} (h : RowX w B E s (.slice (some ⟨g, 0, none⟩) k cap) k xs) : B ≤ g ∧ g < w.heap.size ∧ k ≤ cap ∧ cap ≤ maxLen := by
 rcases h with ⟨e, _⟩ | ⟨g', cap', cur, e, hB, hg, hk, hc, h⟩
 ·simp at e
 ·simp only [Value.slice.injEq, Option.some.injEq, Addr.mk.injEq, and_true, true_and] at e
  obtain ⟨rfl, rfl⟩ := e
  exact ⟨hB, (Array.getElem?_eq_some_iff.1 hg).1, hk, hc⟩
def Lo (m g : Nat) (b : Nat) : Prop := b < m ∧ b ≠ g
theorem ag_set {m g : Nat} {w : World} {o : Nat} {u : Value} : Ag (Lo m g) w (w.setCell ⟨g, o, none⟩ u) := fun b hb => setCells_other g b hb.2 [u] o w
theorem ag_far {m g g2 : Nat} {w : World} {o : Nat} {u : Value} (h : m ≤ g2) : Ag (Lo m g) w (w.setCell ⟨g2, o, none⟩ u) := fun b hb => setCells_other g2 b (by have := hb.1; omega) [u] o w
theorem ag_below {m g : Nat} {w w' : World} (h : Below w.heap.size w w') (hm : m ≤ w.heap.size) : Ag (Lo m g) w w' := fun b hb => h.block b (Nat.lt_of_lt_of_le hb.1 hm)
theorem flatC_set {α : Type} {f : α → Value → List Value} {s : Nat} (hf : ∀ a v, (f a v).length = s) (l : List α) (m : List Value) (hm : m.length = l.length) {i j : Nat} {a a' : α} {v v' u : Value} (hi : l[i]? = some a) (hv : m[i]? = some v) (hj : j < s) (e : f a' v' = (f a v).set j u) :
  (flatC f l m).set (i * s + j) u = flatC f (l.set i a') (m.set i v') := by
 have hil := (List.getElem?_eq_some_iff.1 hi).1
 have len1 := flatC_len hf l m hm
 have len2 := flatC_len hf (l.set i a') (m.set i v') (by simpa using hm)
 rw [List.length_set] at len2
 refine List.ext_getElem? fun n => ?_
 by_cases hn : n < l.length * s
 ·have hs : 0 < s := by omega
  have hq : n / s < l.length := Nat.div_lt_of_lt_mul (by rw [Nat.mul_comm]; exact hn)
  obtain ⟨b, hb⟩ : ∃ b, l[n / s]? = some b := ⟨_, List.getElem?_eq_getElem hq⟩
  obtain ⟨t, ht⟩ : ∃ t, m[n / s]? = some t := ⟨_, List.getElem?_eq_getElem (by omega)⟩
  have hr := Nat.mod_lt n hs
  have hnn : n / s * s + n % s = n := by rw [Nat.mul_comm]; exact Nat.div_add_mod n s
  have g1 := flatC_get hf l m hb ht hr
  rw [hnn] at g1
  by_cases hni : n / s = i
  ·rw [hni] at hb ht hnn
   rw [hi] at hb; rw [hv] at ht
   cases hb; cases ht
   have g2 := flatC_get hf (l.set i a') (m.set i v') (i := i) (j := n % s) (a := a') (v := v') (by rw [List.getElem?_set_self hil]) (by rw [List.getElem?_set_self (by omega)]) hr
   rw [hnn] at g2
   rw [g2, e, List.getElem?_set, List.getElem?_set]
   by_cases hjn : i * s + j = n
   ·have : j = n % s := by omega
    rw [if_pos hjn, if_pos this, if_pos (by omega), if_pos (by rw [hf]; exact hj)]
   ·have : j ≠ n % s := by omega
    rw [if_neg hjn, if_neg this, g1]
  ·have g2 := flatC_get hf (l.set i a') (m.set i v') (i := n / s) (j := n % s) (a := b) (v := t) (by rw [List.getElem?_set_ne (Ne.symm hni)]; exact hb) (by rw [List.getElem?_set_ne (Ne.symm hni)]; exact ht) hr
   rw [hnn] at g2
   have hne : i * s + j ≠ n := by
    intro h
    apply hni
    rw [← h, Nat.mul_comm, Nat.mul_add_div hs, Nat.div_eq_of_lt hj]
    omega
   rw [List.getElem?_set, if_neg hne, g1, g2]
 ·rw [List.getElem?_eq_none (by rw [List.length_set]; omega), List.getElem?_eq_none (by omega)]
structure DX (w : World) (g cap m : Nat) (ds : List Dc) : Prop where
 m0 : m ≤ w.heap.size
 r : ∃ ts : List Value, ts.length = ds.length ∧ RowX w g 65 4 (.slice (some ⟨g, 0, none⟩) ds.length cap) ds.length (flatC docL ds ts) ∧ ∀ (i : Nat) (d : Dc) (t : Value), ds[i]? = some d → ts[i]? = some t → RS (Lo m g) w t d.revs
theorem docL_len : ∀ (d : Dc) (t : Value), (docL d t).length = 4 := fun _ _ => rfl
theorem revL_len : ∀ (r : Rv) (t : Value), (revL r t).length = 5 := fun _ _ => rfl
theorem DX.lt {w : World} {g cap m : Nat} {ds : List Dc} (h : DX w g cap m ds) : g < w.heap.size ∧ ds.length ≤ cap ∧ cap ≤ maxLen := by
 obtain ⟨ts, -, hr, -⟩ := h.r
 exact ⟨hr.lt.2.1, hr.lt.2.2⟩
theorem DX.frozen {w : World} {g cap m : Nat} {ds : List Dc} (h : DX w g cap m ds) (o : Nat) : w.frozen? ⟨g, o, none⟩ = false := by
 obtain ⟨ts, -, hr, -⟩ := h.r
 exact hr.frozen o
theorem DX.below {w w' : World} {g cap m : Nat} {ds : List Dc} (h : DX w g cap m ds) (hb : Below w.heap.size w w') : DX w' g cap m ds := by
 obtain ⟨ts, h1, h2, h3⟩ := h.r
 exact ⟨Nat.le_trans h.m0 hb.size, ts, h1, h2.below hb, fun i d t hd ht => (h3 i d t hd ht).on (ag_below hb h.m0)⟩
theorem DX.raise {w : World} {g cap m n : Nat} {ds : List Dc} (h : DX w g cap m ds) (hm : m ≤ n) (hn : n ≤ w.heap.size) : DX w g cap n ds := by
 obtain ⟨ts, h1, h2, h3⟩ := h.r
 exact ⟨hn, ts, h1, h2, fun i d t hd ht => (h3 i d t hd ht).mono fun b hb => ⟨Nat.lt_of_lt_of_le hb.1 hm, hb.2⟩⟩
theorem DX.doc {w : World} {g cap m : Nat} {ds : List Dc} (h : DX w g cap m ds) {i : Nat} {d : Dc} (hi : ds[i]? = some d) : ∃ t, w.rangeAt g (i * 4) (docL d t) ∧ RS (Lo m g) w t d.revs := by
 obtain ⟨ts, h1, h2, h3⟩ := h.r
 have hil := (List.getElem?_eq_some_iff.1 hi).1
 obtain ⟨t, ht⟩ : ∃ t, ts[i]? = some t := ⟨_, List.getElem?_eq_getElem (by omega)⟩
 refine ⟨t, fun j u hj => ?_, h3 i d t hi ht⟩
 have hj4 : j < 4 := by rw [← docL_len d t]; exact (List.getElem?_eq_some_iff.1 hj).1
 have hg := flatC_get docL_len ds ts hi ht hj4
 rw [hj] at hg
 exact h2.cell hg
theorem DX.dcs {w : World} {g cap m : Nat} {ds : List Dc} (h : DX w g cap m ds) : Dcs w (.slice (some ⟨g, 0, none⟩) ds.length cap) ds := by
 obtain ⟨ts, h1, h2, h3⟩ := h.r
 exact Dcs.ofRow h2 h1 fun i d t hd ht => (h3 i d t hd ht).get
theorem DX.set {w : World} {g cap m : Nat} {ds : List Dc} (h : DX w g cap m ds) {i j : Nat} {d d' : Dc} {u : Value} (hi : ds[i]? = some d) (hj : j < 4) (hr : d'.revs = d.revs) (e : ∀ t, docL d' t = (docL d t).set j u) : DX (w.setCell ⟨g, i * 4 + j, none⟩ u) g cap m (ds.set i d') := by
 obtain ⟨ts, h1, h2, h3⟩ := h.r
 have hil := (List.getElem?_eq_some_iff.1 hi).1
 obtain ⟨t, ht⟩ : ∃ t, ts[i]? = some t := ⟨_, List.getElem?_eq_getElem (by omega)⟩
 refine ⟨by simpa using h.m0, ts, by simpa using h1, ?_, fun k x y hk hy => ?_⟩
 ·have hs := h2.setCell (o := i * 4 + j) (by rw [flatC_len docL_len ds ts h1]; omega) u
  rw [flatC_set docL_len ds ts h1 hi ht hj (e t), show ts.set i t = ts from by
   refine List.ext_getElem? fun n => ?_
   rw [List.getElem?_set]
   split
   ·rename_i hin
    subst hin
    split
    ·exact ht.symm
    ·rename_i hn; exact absurd (by omega) hn
   ·rfl] at hs
  rw [List.length_set]
  exact hs
 ·have hag : Ag (Lo m g) w (w.setCell ⟨g, i * 4 + j, none⟩ u) := ag_set
  rw [List.getElem?_set] at hk
  split at hk
  ·rename_i hik
   subst hik
   cases hk
   rw [hr]
   exact (h3 i d y hi hy).on hag
  ·exact (h3 k x y hk hy).on hag
structure OR (w : World) (q cap m g : Nat) (rs : List Rv) : Prop where
 m0 : m ≤ q
 n0 : q ≠ g
 r : ∃ us : List Value, us.length = rs.length ∧ RowX w q 67 5 (.slice (some ⟨q, 0, none⟩) rs.length cap) rs.length (flatC revL rs us) ∧ ∀ (i : Nat) (r : Rv) (u : Value), rs[i]? = some r → us[i]? = some u → TS (Lo m g) w u r.t
theorem OR.lt {w : World} {q cap m g : Nat} {rs : List Rv} (h : OR w q cap m g rs) : q < w.heap.size ∧ rs.length ≤ cap ∧ cap ≤ maxLen := by
 obtain ⟨ts, -, hr, -⟩ := h.r
 exact ⟨hr.lt.2.1, hr.lt.2.2⟩
theorem OR.rs {w : World} {q cap m g : Nat} {rs : List Rv} (h : OR w q cap m g rs) : RS (Lo (q + 1) g) w (.slice (some ⟨q, 0, none⟩) rs.length cap) rs := by
 obtain ⟨us, h1, h2, h3⟩ := h.r
 refine ⟨some ⟨q, 0, none⟩, cap, rfl, h2.lt.2.2.1, h2.lt.2.2.2, fun i r hi => ?_⟩
 have hil := (List.getElem?_eq_some_iff.1 hi).1
 obtain ⟨t, ht⟩ : ∃ t, us[i]? = some t := ⟨_, List.getElem?_eq_getElem (by omega)⟩
 refine ⟨q, 0, t, rfl, ⟨by omega, h.n0⟩, fun j u hj => ?_, (h3 i r t hi ht).mono fun b hb => ⟨by have := hb.1; have := h.m0; omega, hb.2⟩⟩
 have hj5 : j < 5 := by rw [← revL_len r t]; exact (List.getElem?_eq_some_iff.1 hj).1
 have hg := flatC_get revL_len rs us hi ht hj5
 rw [hj] at hg
 have := h2.cell hg
 simpa using this
theorem OR.frozen {w : World} {q cap m g : Nat} {rs : List Rv} (h : OR w q cap m g rs) (o : Nat) : w.frozen? ⟨q, o, none⟩ = false := by
 obtain ⟨ts, -, hr, -⟩ := h.r
 exact hr.frozen o
theorem OR.cells {w : World} {q cap m g : Nat} {rs : List Rv} (h : OR w q cap m g rs) {i : Nat} {r : Rv} (hi : rs[i]? = some r) : ∃ u, w.rangeAt q (i * 5) (revL r u) ∧ TS (Lo m g) w u r.t := by
 obtain ⟨us, h1, h2, h3⟩ := h.r
 have hil := (List.getElem?_eq_some_iff.1 hi).1
 obtain ⟨t, ht⟩ : ∃ t, us[i]? = some t := ⟨_, List.getElem?_eq_getElem (by omega)⟩
 refine ⟨t, fun j u hj => ?_, h3 i r t hi ht⟩
 have hj5 : j < 5 := by rw [← revL_len r t]; exact (List.getElem?_eq_some_iff.1 hj).1
 have hg := flatC_get revL_len rs us hi ht hj5
 rw [hj] at hg
 exact h2.cell hg
theorem OR.on {w w' : World} {q cap m g : Nat} {rs : List Rv} (h : OR w q cap m g rs) (hq : w'.heap[q]? = w.heap[q]?) (ha : Ag (Lo m g) w w') : OR w' q cap m g rs := by
 obtain ⟨us, h1, h2, h3⟩ := h.r
 exact ⟨h.m0, h.n0, us, h1, h2.blk hq, fun i r u hr hu => (h3 i r u hr hu).on ha⟩
theorem OR.setBack {w : World} {q cap m g : Nat} {rs : List Rv} (h : OR w q cap m g rs) {i : Nat} {r : Rv} (hi : rs[i]? = some r) (b : Bool) : OR (w.setCell ⟨q, i * 5 + 3, none⟩ (.bool b)) q cap m g (rs.set i { r with back := b }) := by
 obtain ⟨us, h1, h2, h3⟩ := h.r
 have hil := (List.getElem?_eq_some_iff.1 hi).1
 obtain ⟨t, ht⟩ : ∃ t, us[i]? = some t := ⟨_, List.getElem?_eq_getElem (by omega)⟩
 have hag : Ag (Lo m g) w (w.setCell ⟨q, i * 5 + 3, none⟩ (.bool b)) := ag_far h.m0
 refine ⟨h.m0, h.n0, us, by simpa using h1, ?_, fun k x y hk hy => ?_⟩
 ·have hs := h2.setCell (o := i * 5 + 3) (by rw [flatC_len revL_len rs us h1]; omega) (.bool b)
  rw [flatC_set (a' := { r with back := b }) (v' := t) revL_len rs us h1 hi ht (by decide) rfl, show us.set i t = us from by
   refine List.ext_getElem? fun n => ?_
   rw [List.getElem?_set]
   split
   ·rename_i hin
    subst hin
    split
    ·exact ht.symm
    ·rename_i hn; exact absurd (by omega) hn
   ·rfl] at hs
  rw [List.length_set]
  exact hs
 ·rw [List.getElem?_set] at hk
  split at hk
  ·rename_i hik
   subst hik
   cases hk
   exact (h3 i r y hi hy).on hag
  ·exact (h3 k x y hk hy).on hag
structure PD (w : World) (g o m : Nat) (d : Dc) : Prop where
 m0 : m ≤ w.heap.size
 g0 : g < w.heap.size
 f : ∀ p, w.frozen? ⟨g, p, none⟩ = false
 r : ∃ rv, w.rangeAt g o (docL d rv) ∧ RS (Lo m g) w rv d.revs
theorem DX.pd {w : World} {g cap m : Nat} {ds : List Dc} (h : DX w g cap m ds) {i : Nat} {d : Dc} (hi : ds[i]? = some d) : PD w g (i * 4) m d := ⟨h.m0, h.lt.1, h.frozen, h.doc hi⟩
theorem PD.below {w w' : World} {g o m : Nat} {d : Dc} (h : PD w g o m d) (hb : Below w.heap.size w w') : PD w' g o m d := by
 obtain ⟨rv, h1, h2⟩ := h.r
 have hg := hb.block g h.g0
 refine ⟨Nat.le_trans h.m0 hb.size, Nat.lt_of_lt_of_le h.g0 hb.size, fun p => ?_, rv, rangeAt_ag h1 hg, h2.on (ag_below hb h.m0)⟩
 have := h.f p
 unfold World.frozen? at this ⊢
 simpa [hg] using this
theorem RS.nth {S : Nat → Prop} {w : World} {v : Value} {rs : List Rv} (h : RS S w v rs) {i : Nat} {r : Rv} (hi : rs[i]? = some r) : ∃ b o cap tv, v = .slice (some ⟨b, o, none⟩) rs.length cap ∧ w.rangeAt b (o + i * 5) (revL r tv) ∧ TS S w tv r.t := by
 obtain ⟨ao, cap, e, h1, h2, h3⟩ := h
 obtain ⟨b, o, tv, rfl, -, hr, ht⟩ := h3 i r hi
 exact ⟨b, o, cap, tv, e, hr, ht⟩
set_option maxRecDepth 100000 in
set_option maxHeartbeats 8000000 in
theorem current_any (g o m : Nat) (d : Dc) (r : Rv) (w : World) (h : PD w g o m d) (k : Nat) (hk : d.revs.length = k + 1) (hr : d.revs[k]? = some r) :
  Calls Tryz.prog 164 #[.pointer (some ⟨g, o, none⟩)] w fun e w' => (∃ tv, e = .returned tv ∧ TS (Lo m g) w tv r.t) ∧ Below w.heap.size w w' := by
 obtain ⟨rv, h1, h2⟩ := h.r
 obtain ⟨b, p, cap, tv, rfl, h3, h4⟩ := h2.nth hr
 have hlen : (k + 1 : Nat) ≤ 9223372036854775807 := by
  obtain ⟨ao, c, e, e1, e2, -⟩ := h2
  rw [hk] at e1
  unfold maxLen at e2
  omega
 have hlen' : (k : Int) + 1 ≤ 9223372036854775807 := by omega
 rw [hk] at h1
 have c3 : w.cell? ⟨g, o + 3, none⟩ = some (.slice (some ⟨b, p, none⟩) (k + 1) cap) := h1 3 _ rfl
 have c4 : w.cell? ⟨b, p + k * 5 + 4, none⟩ = some tv := h3 4 _ rfl
 have hi1 : ¬ ((k : Int) < 0) := by omega
 have hi2 : (k : Int) < ((k + 1 : Nat) : Int) := by omega
 clear h1 h2 h3 h hr hk
 have H4 := Lib.hid h4
 clear h4
 go_enter Tryz.func164, Tryz.ntmps164
 go_upto_region 1 with fail
 go_quiet (fail)
 have hb : Below w.heap.size w (w.drewN nq) := below_drewN (Below.refl _ _) nq
 go_wp2_with fail
 go_ret
 exact ⟨⟨_, rfl, H4.out⟩, hb⟩
def changedB (r : Rv) (u : ByteArray) : Bool := (decide (r.kind = 2) || decide (r.kind = 3)) && decide (r.by_ = u)
set_option maxRecDepth 100000 in
set_option maxHeartbeats 8000000 in
theorem changed_any (r : Rv) (tv : Value) (u : ByteArray) (w : World) (ho : tv.oneCell' = true) :
  Calls Tryz.prog 166 #[.agg (revL r tv).toArray, .string u] w fun e w' => e = .returned (.bool (changedB r u)) ∧ Below w.heap.size w w' := by
 obtain ⟨kd, by_, bs, bk, t⟩ := r
 unfold changedB revL
 dsimp only
 go_enter Tryz.func166, Tryz.ntmps166
 go_upto_region 1 with fail
 obtain ⟨w1, hw1⟩ : ∃ y, y = w.alloc (.cells #[.int .i64 kd, .string by_, .int .i64 bs, .bool bk, tv] 67) := ⟨_, rfl⟩
 obtain ⟨g, hg⟩ : ∃ y, y = w.heap.size := ⟨_, rfl⟩
 have hb : Below w.heap.size w w1 := by rw [hw1]; exact below_box _ _
 have c0 : w1.cell? ⟨g, 0, none⟩ = some (.int .i64 kd) := by rw [hw1, hg]; simp [go_sem]
 have c1 : w1.cell? ⟨g, 1, none⟩ = some (.string by_) := by rw [hw1, hg]; simp [go_sem]
 rw [← hw1, ← hg]
 have HB := Lib.hid hb
 clear hw1 hg hb ho
 by_cases h2 : kd = 2
 ·subst h2
  by_cases hu : by_ = u
  ·subst hu
   go_wp2_with fail
   go_ret
   exact ⟨by simp, HB.out⟩
  ·have hu' : decide (by_ = u) = false := decide_eq_false hu
   go_wp2_with fail
   go_ret
   exact ⟨ret_bool (by simp [bytes_ne hu]), HB.out⟩
 ·have h2' : decide (kd = 2) = false := decide_eq_false h2
  by_cases h3 : kd = 3
  ·subst h3
   by_cases hu : by_ = u
   ·subst hu
    go_wp2_with fail
    go_ret
    exact ⟨by simp, HB.out⟩
   ·have hu' : decide (by_ = u) = false := decide_eq_false hu
    go_wp2_with fail
    go_ret
    exact ⟨ret_bool (by simp [bytes_ne hu]), HB.out⟩
  ·have h3' : decide (kd = 3) = false := decide_eq_false h3
   go_wp2_with fail
   go_ret
   exact ⟨by simp [h2', h3'], HB.out⟩
theorem flatC_one {α : Type} {f : α → Value → List Value} {rs : List α} {ts : List Value} (ht : ts.length = rs.length) (h : ∀ (i : Nat) (r : α) (t : Value), rs[i]? = some r → ts[i]? = some t → ∀ u ∈ f r t, u.oneCell' = true) : ∀ u ∈ flatC f rs ts, u.oneCell' = true := by
 intro u hu
 unfold flatC at hu
 obtain ⟨l, hl, hul⟩ := List.mem_flatten.1 hu
 obtain ⟨i, hi, e⟩ := List.getElem_of_mem hl
 rw [List.getElem_zipWith] at e
 rw [List.length_zipWith] at hi
 subst e
 exact h i _ _ (List.getElem?_eq_getElem (by omega)) (List.getElem?_eq_getElem (by omega)) u hul
theorem flatC_snoc {α : Type} (f : α → Value → List Value) (rs : List α) (ts : List Value) (ht : ts.length = rs.length) (r : α) (t : Value) : flatC f (rs ++ [r]) (ts ++ [t]) = flatC f rs ts ++ f r t := by
 unfold flatC
 rw [List.zipWith_append ht.symm]
 simp
theorem Tk.one {w : World} {v : Value} {l : List Trk.Clip} (h : Tk w v l) : v.oneCell' = true := by
 obtain ⟨ao, cap, rfl, -⟩ := h
 rfl
theorem revL_one {r : Rv} {t : Value} (h : t.oneCell' = true) : ∀ u ∈ revL r t, u.oneCell' = true := by
 intro u hu
 simp only [revL, List.mem_cons, List.not_mem_nil, or_false] at hu
 rcases hu with rfl | rfl | rfl | rfl | rfl <;> first | rfl | exact h
theorem RS.row {S : Nat → Prop} {w : World} {v : Value} {rs : List Rv} (h : RS S w v rs) (hn : rs ≠ []) : ∃ ts : List Value, ts.length = rs.length ∧ Row w v rs.length 5 (flatC revL rs ts) ∧ ∀ (i : Nat) (r : Rv) (t : Value), rs[i]? = some r → ts[i]? = some t → TS S w t r.t := by
 obtain ⟨ao, cap, rfl, h1, h2, h3⟩ := h
 obtain ⟨r0, rs', rfl⟩ : ∃ r0 rs', rs = r0 :: rs' := by
  cases rs with
  | nil => exact absurd rfl hn
  | cons a l => exact ⟨a, l, rfl⟩
 obtain ⟨b, o, _, rfl, _, _⟩ := h3 0 r0 rfl
 obtain ⟨ts, ht, hp⟩ := pick_list (r0 :: rs') (fun i r tv => w.rangeAt b (o + i * 5) (revL r tv) ∧ TS S w tv r.t) (fun i r hi => by
  obtain ⟨b', o', tv, e, -, hr, hk⟩ := h3 i r hi
  simp only [Option.some.injEq, Addr.mk.injEq, and_true] at e
  obtain ⟨rfl, rfl⟩ := e
  exact ⟨tv, hr, hk⟩)
 have hf : ∀ r t, (revL r t).length = 5 := fun _ _ => rfl
 refine ⟨ts, ht, ⟨b, o, cap, rfl, h1, h2, flatC_len hf _ _ ht, fun j u hj => ?_⟩, fun i r t hi hj => (hp i r t hi hj).2⟩
 have hlt := (List.getElem?_eq_some_iff.1 hj).1
 rw [flatC_len hf _ _ ht] at hlt
 have hi : j / 5 < (r0 :: rs').length := by omega
 obtain ⟨r, hr⟩ : ∃ r, (r0 :: rs')[j / 5]? = some r := ⟨_, List.getElem?_eq_getElem hi⟩
 obtain ⟨t, htt⟩ : ∃ t, ts[j / 5]? = some t := ⟨_, List.getElem?_eq_getElem (by omega)⟩
 have hg := flatC_get hf _ _ hr htt (Nat.mod_lt j (show 0 < 5 by decide))
 rw [show j / 5 * 5 + j % 5 = j by omega, hj] at hg
 have hc := (hp _ r t hr htt).1 (j % 5) u hg.symm
 rw [show o + j / 5 * 5 + j % 5 = o + j by omega] at hc
 exact hc
theorem below_set_both {n : Nat} {a b : World} (h : Below n a b) (p : Addr) (u : Value) : Below n (a.setCell p u) (b.setCell p u) :=
 ⟨h.os, h.tape, h.output, by simpa [World.setCell] using h.size, fun k hk => by simp [World.setCell, Array.getElem?_modify, h.block k hk]⟩
theorem RowX.raise {w : World} {B k s g cap : Nat} {E : TypeId} {xs : List Value} (h : RowX w B E s (.slice (some ⟨g, 0, none⟩) k cap) k xs) : RowX w g E s (.slice (some ⟨g, 0, none⟩) k cap) k xs := by
 rcases h with ⟨e, _⟩ | ⟨g', cap', cur, e, hB, h⟩
 ·simp at e
 ·simp only [Value.slice.injEq, Option.some.injEq, Addr.mk.injEq, and_true, true_and] at e
  obtain ⟨rfl, rfl⟩ := e
  exact .inr ⟨g, cap, cur, rfl, Nat.le_refl _, h⟩
set_option maxRecDepth 100000 in
theorem built_rev (r : Rv) (t : Value) : Tryz.prog.builtSlice 67 1 [(0, .agg (revL r t).toArray)] = some (revL r t).toArray := by kernel_rfl
def adG (n : Nat) (xs ys : List Value) (i lo hi : Nat) (v : Value) (w : World) : Prop := if i = 5 then RowX w lo 67 5 v n xs else RowX w lo 67 5 v 1 ys
theorem adG.ext {n : Nat} {xs ys : List Value} (i lo hi : Nat) (v : Value) (w w' : World) (h : adG n xs ys i lo hi v w) (hb : Plan.Ext w w') : adG n xs ys i lo hi v w' := by
 unfold adG at h ⊢
 split <;> rename_i hi <;> simp only [hi, if_true, if_false] at h <;> exact h.below hb
def adS : List (Nat × Tmp) := [(5, 9), (7, 11)]
set_option maxRecDepth 100000 in
set_option maxHeartbeats 8000000 in
theorem addrev_any (g o m : Nat) (d : Dc) (r : Rv) (tv : Value) (w : World) (h : PD w g o m d) (h0 : d.revs ≠ []) (h1 : d.revs.length ≤ 1000) (ht : TS (Lo w.heap.size g) w tv r.t) :
  Calls Tryz.prog 165 #[.pointer (some ⟨g, o, none⟩), .agg (revL r tv).toArray] w fun e w' => e = .returned (.tuple #[]) ∧ ∃ q cap, w.heap.size ≤ q ∧ Below w.heap.size (w.setCell ⟨g, o + 3, none⟩ (.slice (some ⟨q, 0, none⟩) (d.revs.length + 1) cap)) w' ∧ OR w' q cap w.heap.size g (d.revs ++ [r]) := by
 obtain ⟨rv, hc, hr⟩ := h.r
 obtain ⟨ts, hts, hrow, hT⟩ := hr.row h0
 have c3 : w.cell? ⟨g, o + 3, none⟩ = some rv := hc 3 _ rfl
 have hf := h.f (o + 3)
 have hpos : 0 < d.revs.length := List.length_pos_iff.2 h0
 have hO : ∀ u ∈ flatC revL d.revs ts, u.oneCell' = true := flatC_one hts fun i r t hi hj => revL_one (hT i r t hi hj).get.one
 obtain ⟨xs, hxs⟩ : ∃ xs, xs = flatC revL d.revs ts := ⟨_, rfl⟩
 rw [← hxs] at hrow hO
 obtain ⟨C, hC⟩ : ∃ C, C = (revL r tv).toArray := ⟨_, rfl⟩
 rw [← hC]
 have HC := Lib.hid hC
 have HTV := Lib.hid ht
 have HG := Lib.hid (show g < w.heap.size ∧ m ≤ w.heap.size from ⟨h.g0, h.m0⟩)
 have HX := Lib.hid (show ts.length = d.revs.length ∧ xs = flatC revL d.revs ts from ⟨hts, hxs⟩)
 have HTS := Lib.hid hT
 have HRW := Lib.hid hrow
 have HO := Lib.hid hO
 have HN := Lib.hid (show 0 < d.revs.length ∧ d.revs.length ≤ 1000 from ⟨hpos, h1⟩)
 obtain ⟨ra, rc, ro, hrv, -⟩ := hrow
 clear hc hr hts hxs hT hO hpos h1 h0 h ht hC
 obtain ⟨n, hn⟩ : ∃ n, n = d.revs.length := ⟨_, rfl⟩
 rw [← hn] at HRW HN hrv ⊢
 subst hrv
 have HNN := Lib.hid hn
 clear hn
 go_enter Tryz.func165, Tryz.ntmps165
 go_upto_region 1 with fail
 obtain ⟨w1, hw1⟩ : ∃ y, y = w.alloc (.cells C 67) := ⟨_, rfl⟩
 obtain ⟨p, hp⟩ : ∃ y, y = w.heap.size := ⟨_, rfl⟩
 have hb : Below w.heap.size w w1 := by rw [hw1]; exact below_box _ _
 have hcr : w1.rangeAt p 0 (revL r tv) := by
  rw [hw1, hp, HC.out]
  intro j u hj
  unfold World.cell?
  rw [(MapKept.heap_alloc w _).1]
  simpa using hj
 rw [← hw1, ← hp]
 have HCR := Lib.hid hcr
 replace c3 := (hb.cell (p := ⟨g, o + 3, none⟩) HG.out.1).trans c3
 have hf1 := (hb.frozen (p := ⟨g, o + 3, none⟩) HG.out.1).trans hf
 have HF := Lib.hid (show w1.frozen? ⟨g, o + 3, none⟩ = false ∧ g < w1.heap.size from ⟨hf1, Nat.lt_of_lt_of_le HG.out.1 hb.size⟩)
 have HC3 := Lib.hid c3
 replace HRW := Lib.hid (HRW.out.below hb)
 have HB := Lib.hid hb
 have HP := Lib.hid hp
 clear hw1 hp hcr hf hf1 hb
 clear c3
 refine Plan.wp_region_freshw (fun w' => Below w1.heap.size w1 w') 11 (adG n xs (revL r tv)) ([0, 1, 2, 3, 4, 6].map (·, true)) adS ([8].map (·, false) ++ ([9, 10].map (·, true) ++ [11].map (·, false))) 15 (by kernel_rfl) (by kernel_rfl) (by kernel_rfl) (Below.refl _ _).drew (fun wa wb ha hb => ha.trans (hb.mono ha.size)) adG.ext ?_
 refine' Plan.plan_seg _ [0, 1, 2, 3, 4, 6] [] (by kernel_rfl) (by kernel_rfl) rfl (by exact (Below.refl _ _).drew) (fun wx hS => ?_) ?_
 rotate_left
 ·have c3' := (hS.cell (p := ⟨g, o + 3, none⟩) HF.out.2).trans HC3.out
  have HR2 := Lib.hid (rangeAt_below HCR.out (by simp [revL]) (hS.mono (Nat.le_refl _)))
  clear hS
  go_light
  iterate 5 (apply Plan.seg_pick; rfl; intro K hK; go_wp)
  (apply Plan.seg_pick; rfl; intro K hK)
  refine wpl_loadR HR2.out rfl rfl rfl ?_
  go_wp
  exact Plan.seg_nil
 refine Plan.plan_nil ?_
 simp only [Act.put, List.setIfInBounds_toArray, List.set_cons_succ, List.set_cons_zero]
 refine Plan.fresh_at_gen (fun A => A.tmps.size = 15 ∧ A.tmps[8]? = some (.slice (some ⟨ra, rc, none⟩) n ro) ∧ A.tmps[10]? = some (.agg (revL r tv).toArray)) ⟨rfl, rfl, rfl⟩ rfl (fun Aq hA => ?_) ?_
 ·obtain ⟨hsz, e8, e10⟩ := hA
  intro p' hp o ho vs wx lo hi hS hE hG K hK
  simp only [adS, List.mem_cons, List.not_mem_nil, or_false] at hp
  rcases hp with rfl | rfl
  all_goals obtain rfl := Option.some.inj ho
  ·have t8 : (Plan.puts vs adS Aq).eval (.tmp 8) = .slice (some ⟨ra, rc, none⟩) n ro := by rw [Plan.eval_out (by decide)]; simp [Act.eval, Array.getD_eq_getD_getElem?, e8]
   refine Plan.one_call rfl 106 Tryz.func106 (by kernel_rfl) (by kernel_rfl) #[.tmp 8] #[63] rfl #[.slice (some ⟨ra, rc, none⟩) n ro] (by simp only [List.map_toArray, List.map_cons, List.map_nil, t8]) (fun v w' => RowX w' wx.heap.size 67 5 v n xs ∧ Below wx.heap.size wx w') ?_ (fun v w' hR => hK _ _ (by unfold adG; rw [if_pos rfl]; exact hR.1) hR.2)
   refine (clonerevs_any _ n xs wx (HRW.out.below hS) HN.out.1 (by have := HN.out.2; omega) HO.out).mono ?_
   rintro e w' ⟨v', rfl, h1, h2⟩
   exact ⟨_, rfl, h1, h2⟩
  ·have t10 : (Plan.puts vs adS Aq).eval (.tmp 10) = .agg (revL r tv).toArray := by rw [Plan.eval_out (by decide)]; simp [Act.eval, Array.getD_eq_getD_getElem?, e10]
   refine Great.wpList_buildSliceTo rfl 63 67 1 #[(0, .tmp 10)] rfl wx.heap.size rfl (some 11) rfl Tryz.underlying63 (revL r tv).toArray ?_ ?_
   ·simp only [List.map_toArray, List.map_cons, List.map_nil, List.toList_toArray, t10]
    exact built_rev r tv
   have hrow : RowX (wx.alloc (.cells (revL r tv).toArray 67)) wx.heap.size 67 5 (.slice (some ⟨wx.heap.size, 0, none⟩) 1 1) 1 (revL r tv) := .inr ⟨wx.heap.size, 1, (revL r tv).toArray, rfl, Nat.le_refl _, (MapKept.heap_alloc wx _).1, Nat.le_refl _, by unfold maxLen; omega, rfl, rfl, rfl⟩
   have hb : Below wx.heap.size wx (wx.alloc (.cells (revL r tv).toArray 67)) := below_box _ _
   refine wpList_nil ?_
   exact hK _ _ (by unfold adG; rw [if_neg (by decide)]; exact hrow) hb
 ·intro vs lo hi w4 hS hE hall hap
  have h5 : RowX w4 (lo 5) 67 5 (vs 5) n xs := by have := (hall (5, 9) (by decide)).1; unfold adG at this; rwa [if_pos rfl] at this
  have h7 : RowX w4 (lo 7) 67 5 (vs 7) 1 (revL r tv) := by have := (hall (7, 11) (by decide)).1; unfold adG at this; rwa [if_neg (by decide)] at this
  have hlo : w1.heap.size ≤ lo 5 := by simpa using (hall (5, 9) (by decide)).2.1
  have hlo2 : lo 5 ≤ w4.heap.size := by
   rcases h5 with ⟨e, e2, _⟩ | ⟨g', cap', cur, e, hB, hg, _⟩
   ·have := HN.out.1; omega
   ·exact Nat.le_trans hB (Nat.le_of_lt (Array.getElem?_eq_some_iff.1 hg).1)
  obtain ⟨g7, c7, e7⟩ : ∃ g7 c7, vs 7 = .slice (some ⟨g7, 0, none⟩) 1 c7 := by
   rcases h7 with ⟨_, e2, _⟩ | ⟨g', cap', cur, e, _⟩
   ·omega
   ·exact ⟨_, _, e⟩
  have hc7 : ∀ j u, (revL r tv)[j]? = some u → w4.cell? ((⟨g7, 0, none⟩ : Addr).add j) = some u := by
   intro j u hj
   rw [e7] at h7
   have := h7.cell hj
   rw [Addr.add_mid, Nat.zero_add]
   exact this
  obtain ⟨v5, hv5⟩ : ∃ x, x = vs 5 := ⟨_, rfl⟩
  simp only [adS, Plan.puts, Act.put, List.setIfInBounds_toArray, List.set_cons_succ, List.set_cons_zero]
  rw [e7]
  rw [← hv5] at h5 ⊢
  clear hall hap hE h7 e7 hv5
  have hw4 := hS
  have HW4 := Lib.hid hw4
  refine Plan.plan_of_effect rfl (fun K hK => ?_)
  obtain ⟨v', w5, hrun, r1, r2, r3, r4, r5⟩ := append_x w4 (lo 5) 63 67 5 64 z67 Tryz.underlying63 info67 zeros67 v5 n xs h5 hlo2 ⟨g7, 0, none⟩ 1 c7 (revL r tv) rfl hc7 (revL_one HTV.out.get.one) (by omega) (by have := HN.out.2; unfold maxLen; omega) (fun cap h1 h2 => growslice_fits h2 (by have := HN.out.2; omega))
  have HQ := Lib.hid (And.intro r1 r2)
  have HL := Lib.hid (And.intro hlo hlo2)
  clear r1 r2 r3 r4 r5 h5 hc7 hw4 hlo hlo2
  refine Lib.wpList_append_run (P := Tryz.prog) w4 rfl (.tmp 9) (.tmp 11) 63 63 rfl v5 (.slice (some ⟨g7, 0, none⟩) 1 c7) rfl rfl _ _ hrun ?_
  clear hrun
  simp only [Act.put, List.setIfInBounds_toArray, List.set_cons_succ, List.set_cons_zero]
  have hs5 : Below w1.heap.size w1 w5 := HW4.out.trans (HQ.out.2.mono HL.out.1)
  refine wpList_nil ?_
  refine hK _ _ ⟨hs5, ?_⟩
  refine' Plan.plan_seg _ [9, 10] [(11, false)] (by kernel_rfl) (by kernel_rfl) rfl (by exact hs5) (fun wx hS => ?_) ?_
  rotate_left
  ·clear hS
   go_light
   iterate 2 (apply Plan.seg_pick; rfl; intro K hK; go_wp)
   exact Plan.seg_nil
  refine Plan.plan_of_last rfl (fun K hK => ?_)
  obtain ⟨q, cap, rfl⟩ : ∃ q cap, v' = .slice (some ⟨q, 0, none⟩) (n + 1) cap := by
   rcases HQ.out.1 with ⟨_, e2, _⟩ | ⟨g', cap', cur, e, _⟩
   ·omega
   ·exact ⟨_, _, e⟩
  have hcell := (hs5.cell (p := ⟨g, o + 3, none⟩) HF.out.2).trans HC3.out
  have hfr := (hs5.frozen (p := ⟨g, o + 3, none⟩) HF.out.2).trans HF.out.1
  have HS5 := Lib.hid hs5
  clear hs5 hS HW4
  go_wp2_with fail
  refine Plan.plan_done ?_
  go_wp2_with fail
  go_returns
  have hb5 : Below w.heap.size w w5 := HB.out.trans (HS5.out.mono HB.out.size)
  have hqr : RowX w5 q 67 5 (.slice (some ⟨q, 0, none⟩) (n + 1) cap) (n + 1) (xs ++ revL r tv) := HQ.out.1.raise
  have hql := HQ.out.1.lt
  have hqg : q ≠ g := by have := HL.out.1; have := HB.out.size; have := HG.out.1; omega
  have hqw : w.heap.size ≤ q := by have := HL.out.1; have := HB.out.size; omega
  have hag : Ag (Lo w.heap.size g) w (w5.setCell ⟨g, o + 3, none⟩ (.slice (some ⟨q, 0, none⟩) (n + 1) cap)) := (ag_below hb5 (Nat.le_refl _)).trans ag_set
  refine ⟨rfl, q, cap, hqw, below_set_both hb5 _ _, hqw, hqg, ts ++ [tv], by simp [HX.out.1], ?_, fun i r' u hr' hu => ?_⟩
  ·rw [flatC_snoc revL d.revs ts HX.out.1, ← HX.out.2, List.length_append, List.length_singleton, ← HNN.out]
   exact hqr.blk (setCells_other g q hqg [_] (o + 3) w5)
  ·by_cases hi : i < d.revs.length
   ·rw [List.getElem?_append_left hi] at hr'
    rw [List.getElem?_append_left (by rw [HX.out.1]; exact hi)] at hu
    exact ((HTS.out i r' u hr' hu).mono fun b hb => (⟨Nat.lt_of_lt_of_le hb.1 HG.out.2, hb.2⟩ : Lo w.heap.size g b)).on hag
   ·have h1 := (List.getElem?_eq_some_iff.1 hr').1
    rw [List.length_append, List.length_singleton] at h1
    have h2 : i = d.revs.length := by omega
    subst h2
    rw [List.getElem?_append_right (Nat.le_refl _)] at hr'
    rw [List.getElem?_append_right (by rw [HX.out.1]; exact Nat.le_refl _), HX.out.1] at hu
    simp only [Nat.sub_self, List.getElem?_cons_zero, Option.some.injEq] at hr' hu
    subst hr' hu
    exact HTV.out.on hag
structure Iv (a : Int) (E : Trk.Ed) (en by_ : Int) : Prop where
 p : E.p = a
 v : ExV 1000000 E
 l : E.put.length ≤ 3
 z : ∀ c ∈ E.put, c.a.name.size ≠ 1
 t0 : 1 ≤ E.T
 t1 : E.T ≤ 27
 e : en = a + E.rem
 b : by_ = Trk.total E.put - E.rem
 r0 : 0 ≤ E.rem
 r1 : E.rem ≤ 27
 u0 : 0 ≤ Trk.total E.put
 u1 : Trk.total E.put ≤ 27
def IvPost (w : World) (B p k : Nat) (a : Int) (e : Ending) (w' : World) : Prop :=
 (∃ E V en by_, e = .returned (.tuple #[EdV E V, .int .i64 en, .int .i64 by_]) ∧ Iv a E en by_ ∧ OT w' w.heap.size V E.ins) ∧ TQ w B p k 60 w'
theorem results_edc {fn : Func} {tmps : Array Value} {w : World} {s t r : Tmp} {b : Nat} {k p n c d sn sd : Int} {v x y : Value} (hr : fn.results = #[.cell t 40, .tmp s, .tmp r]) (hs : tmps.getD s undef = x) (ht : tmps.getD t undef = .pointer (some ⟨b, 0, none⟩)) (hy : tmps.getD r undef = y)
  (hc : ED w b k p n c d sn sd v) (hv : (∃ ao m cp, v = .slice ao m cp)) : (results fn tmps).run Tryz.prog w = .ok (.tuple #[edV k p n c d sn sd v, x, y]) w := by
 obtain ⟨ao, m, cp, rfl⟩ := hv
 have h := run_loadVar_mid (P := Tryz.prog) w b 0 40 (edC k p n c d sn sd (.slice ao m cp)).toList _ hc.range Tryz.underlying40 rfl (by kernel_rfl)
 obtain ⟨C, hC⟩ : ∃ C, C = (edC k p n c d sn sd (.slice ao m cp)).toList.toArray := ⟨_, rfl⟩
 rw [← hC] at h
 unfold results
 rw [hr]
 have ht2 : tmps[t]?.getD undef = .pointer (some ⟨b, 0, none⟩) := by rw [← Array.getD_eq_getD_getElem?]; exact ht
 have hs2 : tmps[s]?.getD undef = x := by rw [← Array.getD_eq_getD_getElem?]; exact hs
 have hy2 : tmps[r]?.getD undef = y := by rw [← Array.getD_eq_getD_getElem?]; exact hy
 simp [ht2, hs2, hy2, asAddr, h]
 rw [hC]
 rfl
theorem TP.far {w w' : World} {B p k g : Nat} (h : TP w B p k) (hg : p < g) (hb : ∀ n w0, n ≤ g → Below n w0 w → Below n w0 w') : TP w' B p k :=
 h.low (n := p + 1) (by have := h.1; omega) (by omega) (hb (p + 1) w (by omega) (Below.refl _ _))
theorem iv_put {cl : List Trk.Clip} (h : ClipsOK cl 3) (hz : ∀ c ∈ cl, c.a.name.size ≠ 1) (a k : Int) (hk : k = 1 ∨ k = 3) (a0 : 0 ≤ a) (a1 : a ≤ 1000) : Iv a ⟨k, a, 0, 0, 0, 0, 0, cl⟩ (if k = 1 then a else a + Trk.total cl) (if k = 1 then Trk.total cl else 0) := by
 obtain ⟨h1, h2, h3⟩ := insert_v h (by omega) k a hk a0 a1
 have t1 := h.t1
 have t2 := h.t2
 have hr : (⟨k, a, 0, 0, 0, 0, 0, cl⟩ : Trk.Ed).rem = if k = 1 then 0 else Trk.total cl := by unfold Trk.Ed.rem; rw [h2]
 refine ⟨rfl, h1, by rw [h3]; exact h.n, by rw [h3]; exact hz, by rw [h2]; exact t1, by rw [h2]; omega, ?_, ?_, ?_, ?_, by rw [h3]; omega, by rw [h3]; omega⟩
 ·rw [hr]; split <;> omega
 ·rw [hr, h3]; split <;> omega
 ·rw [hr]; split <;> omega
 ·rw [hr]; split <;> omega
theorem iv_cut (a m : Int) (a0 : 0 ≤ a) (a1 : a ≤ 1000) (m0 : 1 ≤ m) (m1 : m ≤ 9) : Iv a ⟨2, a, m, 0, 0, 0, 0, []⟩ (a + m) (-m) :=
 ⟨rfl, extract_v a m a0 a1 m0 (by omega), by simp [Trk.Ed.put], fun c hc => by simp [Trk.Ed.put] at hc, m0, show m ≤ 27 by omega, rfl, by show -m = (0 : Int) - m; omega, show 0 ≤ m by omega, show m ≤ 27 by omega, by show (0 : Int) ≤ 0; omega, by show (0 : Int) ≤ 27; omega⟩
theorem iv_lift (a m : Int) (a0 : 0 ≤ a) (a1 : a ≤ 1000) (m0 : 1 ≤ m) (m1 : m ≤ 9) : Iv a ⟨4, a, m, 0, 0, 0, 0, []⟩ (a + m) 0 := by
 have ht : Trk.total [Trk.gap m] = m := by show m + 0 = m; omega
 refine ⟨rfl, lift_v a m a0 a1 m0 (by omega), by simp [Trk.Ed.put], fun c hc => ?_, m0, show m ≤ 27 by omega, rfl, ?_, show 0 ≤ m by omega, show m ≤ 27 by omega, ?_, ?_⟩
 ·simp [Trk.Ed.put] at hc
  subst hc
  show (0 : Nat) ≠ 1; decide
 ·show (0 : Int) = Trk.total [Trk.gap m] - m; omega
 ·show (0 : Int) ≤ Trk.total [Trk.gap m]; omega
 ·show Trk.total [Trk.gap m] ≤ 27; omega
set_option maxRecDepth 100000 in
set_option maxHeartbeats 16000000 in
theorem interval_any (B p k : Nat) (a : Int) (w : World) (ht : TP w B p k) (hk : k < 400000) (a0 : 0 ≤ a) (a1 : a ≤ 1000) :
  Calls Tryz.prog 61 #[.pointer (some ⟨p, 0, none⟩), .int .i64 a] w (IvPost w B p k a) := by
 have hB := ht.1
 have hp := ht.2.1
 go_enter Tryz.func61, Tryz.ntmps61
 go_upto_region 1 with fail
 obtain ⟨w1, hw1⟩ : ∃ y, y = w.alloc (.cells #[.int .i64 0, .int .i64 0, .int .i64 0, .int .i64 0, .int .i64 0, .int .i64 0, .int .i64 0, .slice none 0 0] 40) := ⟨_, rfl⟩
 rw [← hw1]
 have HE := Lib.hid (show ED w1 w.heap.size 0 0 0 0 0 0 0 (.slice none 0 0) by rw [hw1]; exact ED.box w 0 0 0 0 0 0 0 (.slice none 0 0) rfl 40)
 have hb : Below w.heap.size w w1 := by rw [hw1]; exact below_box _ _
 have HU := Lib.hid (Turn.of (g := p) (Nat.le_of_lt hp) hb)
 have HT := Lib.hid (ht.low (n := w.heap.size) (Nat.le_of_lt (Nat.lt_of_le_of_lt hB hp)) hp hb)
 have HS := Lib.hid (show w1.heap.size = w.heap.size + 1 by rw [hw1]; simp [go_sem])
 obtain ⟨g, hg⟩ : ∃ y, y = w.heap.size := ⟨_, rfl⟩
 rw [← hg] at HE ⊢
 have HG := Lib.hid (show g = w.heap.size ∧ p < g by omega)
 clear hw1 hb hg ht
 go_wp2_with fail
 refine (next_any B p k 9 _ HT.out (by omega) (by omega) (by omega)).mono ?_
 rintro e w2 ⟨r, rfl, r0, r1, hT_, hg_⟩
 have hgr := Turn.grown hg_ HT.out.2.1
 replace HU := Lib.hid (HU.out.trans hgr)
 replace HE := Lib.hid (hgr.ed (by have := HG.out; omega) HE.out)
 have HS2 := Lib.hid (show w.heap.size + 1 ≤ w2.heap.size by have := HS.out; have := hgr.s; omega)
 replace HT := Lib.hid hT_
 obtain ⟨m, hm⟩ : ∃ m, m = 1 + r := ⟨_, rfl⟩
 have hm1 : 1 + r = m := hm.symm
 have m0 : 1 ≤ m := by omega
 have m1 : m ≤ 9 := by omega
 clear hT_ hg_ hgr hm HS
 go_wp2_with fail
 refine (track_any B p (k + 1) 1 w2 HT.out (by omega) (by omega)).mono ?_
 rintro e w3 ⟨⟨vt, l, rfl, ho, hs, hl⟩, ⟨k3, hk3, hT_⟩, ht⟩
 have HO := Lib.hid ho
 have HSL := Lib.hid hs
 replace HU := Lib.hid (HU.out.trans ht)
 replace HE := Lib.hid (ht.ed (by have := HG.out; omega) HE.out)
 replace HT := Lib.hid hT_
 have HS3 := Lib.hid (show w2.heap.size ≤ w3.heap.size from ht.s)
 clear ho hs hT_ ht hm1
 go_wp2_with fail
 refine (clip_any B p k3 w3 HT.out (by omega)).mono ?_
 rintro e w4 ⟨⟨z, rfl, hz⟩, ⟨k4, hk4, hT_⟩, ht⟩
 replace HO := Lib.hid (HO.out.turn ht (by have := HS2.out; have := HG.out; omega))
 replace HU := Lib.hid (HU.out.trans ht)
 replace HE := Lib.hid (ht.ed (by have := HG.out; omega) HE.out)
 replace HT := Lib.hid hT_
 have HZ := Lib.hid hz
 replace HS3 := Lib.hid (show w2.heap.size ≤ w4.heap.size from Nat.le_trans HS3.out ht.s)
 clear hT_ ht hz
 unfold clipV
 obtain ⟨C, hC⟩ : ∃ C, C = (clipC z).toArray := ⟨_, rfl⟩
 rw [← hC]
 have HCC := Lib.hid hC
 clear hC
 dsimp only
 iterate 1 go_step
 refine Great.wpList_buildSliceTo rfl 23 48 1 #[(0, .tmp 16)] rfl w4.heap.size rfl _ rfl Tryz.underlying23 C ?_ ?_
 ·simp only [List.map_toArray, List.map_cons, List.map_nil, List.toList_toArray]
  rw [HCC.out]
  exact built_clip z
 have hbx : CA (w4.alloc (.cells C 48)) w4.heap.size 0 z := by rw [HCC.out]; exact CA.box w4 z 48
 have hb : Below w4.heap.size w4 (w4.alloc (.cells C 48)) := below_box _ _
 have hsz : w2.heap.size ≤ (w4.alloc (.cells C 48)).heap.size := Nat.le_trans HS3.out hb.size
 replace HO := Lib.hid (HO.out.below hb)
 simp only [Act.put, List.setIfInBounds_toArray, List.set_cons_succ, List.set_cons_zero]
 refine wpList_appT 23 Tryz.underlying23 _ rfl (.tmp 14) (.tmp 17) rfl rfl w2.heap.size vt l rfl HO.out hsz w4.heap.size 1 z rfl hbx (by omega) ?_
 intro vn w5 q1 q2 q3 q4
 simp only [Act.put, List.setIfInBounds_toArray, List.set_cons_succ, List.set_cons_zero]
 have hbl : Below w2.heap.size w4 w5 := (hb.mono HS3.out).trans q2
 have HTK := Lib.hid q1
 replace HT := Lib.hid (HT.out.low (n := w2.heap.size) (by have := HG.out; have := HS2.out; omega) (by have := HG.out; have := HS2.out; omega) hbl)
 replace HU := Lib.hid (HU.out.low hp (hbl.mono (by have := HS2.out; omega)))
 replace HE := Lib.hid (HE.out.same (hbl.block g (by have := HG.out; have := HS2.out; omega)))
 have HCO := Lib.hid (clipsOK_snoc HSL.out (show l.length ≤ 2 by omega) HZ.out (by omega))
 have HNZ := Lib.hid (show ∀ c ∈ l ++ [z], c.a.name.size ≠ 1 from fun c hc => (HSL.out.snoc HZ.out.short c hc).2.2)
 have HS5 := Lib.hid (show w2.heap.size ≤ w5.heap.size from Nat.le_trans HS3.out (Nat.le_trans hb.size q4))
 clear q1 q2 q3 q4 hbl hbx hb hsz HO HSL HZ HCC hl HS3
 obtain ⟨cl, hcl⟩ : ∃ cl, cl = l ++ [z] := ⟨_, rfl⟩
 rw [← hcl] at HTK HCO HNZ
 clear hcl
 obtain ⟨va, vc, hvn, -⟩ := HTK.out.tk
 obtain ⟨nc, hnc⟩ : ∃ nc, nc = cl.length := ⟨_, rfl⟩
 rw [← hnc] at hvn
 subst hvn
 clear hnc
 have HLN := Lib.hid (fun w (h : Tk w (.slice va nc vc) cl) => length_any (L := 1000000) _ cl w h HCO.out.v (by decide))
 have T0 := HCO.out.t1
 have T1 := HCO.out.t2
 obtain ⟨T, hT⟩ : ∃ T, T = Trk.total cl := ⟨_, rfl⟩
 rw [← hT] at HLN T0 T1
 have HTT := Lib.hid hT
 clear hT
 go_wp2_with fail
 refine (HLN.out _ HTK.out.tk).mono ?_
 rintro e w6 ⟨rfl, hb⟩
 replace HTK := Lib.hid (HTK.out.below hb)
 replace HE := Lib.hid (HE.out.below hb)
 replace HU := Lib.hid (HU.out.low hp (hb.mono HU.out.s))
 replace HT := Lib.hid (HT.out.low (n := w5.heap.size) (by have := HT.out.1; have := HT.out.2.1; omega) HT.out.2.1 hb)
 replace HS5 := Lib.hid (Nat.le_trans HS5.out hb.size)
 clear hb HLN
 go_wp2_with fail
 refine (next_any B p k4 4 _ HT.out (by omega) (by omega) (by omega)).mono ?_
 rintro e w7 ⟨r2, rfl, r20, r21, hT_, hg_⟩
 have hgr := Turn.grown hg_ HT.out.2.1
 replace HU := Lib.hid (HU.out.trans hgr)
 replace HE := Lib.hid (hgr.ed (by have := HG.out; omega) HE.out)
 replace HTK := Lib.hid (HTK.out.turn hgr (by have := HG.out; have := HS2.out; omega))
 replace HT := Lib.hid hT_
 clear hT_ hg_ hgr
 have ha1 : -9223372036854775808 ≤ a + m ∧ a + m ≤ 9223372036854775807 := by omega
 have HFIN := Lib.hid (show ∀ (w8 : World) (kk pp mm : Int) (v : Value), ED w8 g kk pp mm 0 0 0 0 v → (∀ b2, b2 ≠ g → w8.heap[b2]? = w7.heap[b2]?) → w8.heap.size = w7.heap.size → (∀ n w0, n ≤ g → Below n w0 w7 → Below n w0 w8) → OT w8 w.heap.size (.slice va nc vc) cl ∧ TQ w B p k 60 w8 from
  fun w8 kk pp mm v h1 h2 h3 h4 => by
   have hg1 := HG.out.1
   have hg2 := HG.out.2
   refine ⟨(HTK.out.blocks fun x kk2 cp e => h2 x (fun hx => ?_)).lower (by have := HS2.out; omega), ?_⟩
   ·have := (HTK.out.blk e).1
    have := HS2.out
    omega
   ·refine TQ.of (k' := k4 + 1) (by omega) (HT.out.far hg2 h4) ?_
    exact HU.out.into (by omega) (by omega) ⟨Nat.le_of_eq h3.symm, fun b _ hn => h2 b hn, h4⟩)
 rcases (show r2 = 0 ∨ r2 = 1 ∨ r2 = 2 ∨ r2 = 3 by omega) with rfl | rfl | rfl | rfl
 ·go_upto_region 6 with fail
  apply wp_region_lit
  iterate 15 go_step
  refine wpl_storeE 1 a 0 0 0 0 0 va nc vc HE.out rfl rfl rfl rfl ?_
  intro w8 q1 q2 q3 q4 q5
  have HQ := Lib.hid q1
  obtain ⟨z1, z2⟩ := HFIN.out w8 _ _ _ _ q1 q2 q3 q4
  have HZ1 := Lib.hid z1
  have HZ2 := Lib.hid z2
  clear q1 q2 q3 q4 q5 z1 z2
  simp only [Act.put, List.setIfInBounds_toArray, List.set_cons_succ, List.set_cons_zero]
  iterate 7 go_step
  go_wp2_with fail
  exact bodyPost_ret (results_edc (x := .int .i64 (a)) (y := .int .i64 (T)) Tryz.results61 rfl rfl rfl HQ.out ⟨_, _, _, rfl⟩) rfl ⟨⟨⟨1, a, 0, 0, 0, 0, 0, cl⟩, _, _, _, rfl, by have h := iv_put HCO.out HNZ.out a 1 (.inl rfl) a0 a1; rw [if_pos rfl, if_pos rfl, ← HTT.out] at h; exact h, HZ1.out⟩, HZ2.out⟩
 ·go_upto_region 8 with fail
  apply wp_region_lit
  iterate 24 go_step
  refine wpl_storeE 2 a m 0 0 0 0 none 0 0 HE.out rfl rfl rfl rfl ?_
  intro w8 q1 q2 q3 q4 q5
  have HQ := Lib.hid q1
  obtain ⟨z1, z2⟩ := HFIN.out w8 _ _ _ _ q1 q2 q3 q4
  have HZ1 := Lib.hid z1
  have HZ2 := Lib.hid z2
  clear q1 q2 q3 q4 q5 z1 z2
  simp only [Act.put, List.setIfInBounds_toArray, List.set_cons_succ, List.set_cons_zero]
  iterate 7 go_step
  go_wp2_with fail
  exact bodyPost_ret (results_edc (x := .int .i64 (a + m)) (y := .int .i64 (-m)) Tryz.results61 rfl rfl rfl HQ.out ⟨_, _, _, rfl⟩) rfl ⟨⟨⟨2, a, m, 0, 0, 0, 0, []⟩, _, _, _, rfl, iv_cut a m a0 a1 m0 m1, OT.nil _ _⟩, HZ2.out⟩
 ·go_upto_region 10 with fail
  apply wp_region_lit
  iterate 18 go_step
  refine wpl_storeE 3 a 0 0 0 0 0 va nc vc HE.out rfl rfl rfl rfl ?_
  intro w8 q1 q2 q3 q4 q5
  have HQ := Lib.hid q1
  obtain ⟨z1, z2⟩ := HFIN.out w8 _ _ _ _ q1 q2 q3 q4
  have HZ1 := Lib.hid z1
  have HZ2 := Lib.hid z2
  clear q1 q2 q3 q4 q5 z1 z2
  simp only [Act.put, List.setIfInBounds_toArray, List.set_cons_succ, List.set_cons_zero]
  iterate 7 go_step
  go_wp2_with fail
  exact bodyPost_ret (results_edc (x := .int .i64 (a + T)) (y := .int .i64 (0)) Tryz.results61 rfl rfl rfl HQ.out ⟨_, _, _, rfl⟩) rfl ⟨⟨⟨3, a, 0, 0, 0, 0, 0, cl⟩, _, _, _, rfl, by have h := iv_put HCO.out HNZ.out a 3 (.inr rfl) a0 a1; rw [if_neg (by decide), if_neg (by decide), ← HTT.out] at h; exact h, HZ1.out⟩, HZ2.out⟩
 ·go_upto_region 11 with fail
  apply wp_region_lit
  iterate 18 go_step
  refine wpl_storeE 4 a m 0 0 0 0 none 0 0 HE.out rfl rfl rfl rfl ?_
  intro w8 q1 q2 q3 q4 q5
  have HQ := Lib.hid q1
  obtain ⟨z1, z2⟩ := HFIN.out w8 _ _ _ _ q1 q2 q3 q4
  have HZ1 := Lib.hid z1
  have HZ2 := Lib.hid z2
  clear q1 q2 q3 q4 q5 z1 z2
  simp only [Act.put, List.setIfInBounds_toArray, List.set_cons_succ, List.set_cons_zero]
  iterate 7 go_step
  go_wp2_with fail
  exact bodyPost_ret (results_edc (x := .int .i64 (a + m)) (y := .int .i64 (0)) Tryz.results61 rfl rfl rfl HQ.out ⟨_, _, _, rfl⟩) rfl ⟨⟨⟨4, a, m, 0, 0, 0, 0, []⟩, _, _, _, rfl, iv_lift a m a0 a1 m0 m1, OT.nil _ _⟩, HZ2.out⟩
def edAt (E : Trk.Ed) (p : Int) : Trk.Ed := { E with p := p }
theorem Iv.move {a en by_ : Int} {E : Trk.Ed} (h : Iv a E en by_) {a' : Int} (h0 : 0 ≤ a') (h1 : a' ≤ 2000) : Iv a' (edAt E a') (a' + E.rem) by_ := by
 refine ⟨rfl, ⟨⟨h.v.x.k, h0, h.v.x.g, h.v.x.i, h.v.x.t⟩, h.v.v, h.v.m, by show a' ≤ _; omega, h.v.t, h.v.c, h.v.d, h.v.sn, h.v.sd⟩, h.l, h.z, h.t0, h.t1, rfl, h.b, h.r0, h.r1, h.u0, h.u1⟩
structure E3 (w : World) (g2 g3 g4 : Nat) (E F : Trk.Ed) (q : Int) (V U : Value) : Prop where
 a : ED w g2 E.k E.p E.m E.c E.d E.sn E.sd V
 b : ED w g3 F.k F.p F.m F.c F.d F.sn F.sd U
 c : ED w g4 F.k q F.m F.c F.d F.sn F.sd U
theorem E3.below {w w' : World} {g2 g3 g4 : Nat} {E F : Trk.Ed} {q : Int} {V U : Value} (h : E3 w g2 g3 g4 E F q V U) (hb : Below w.heap.size w w') : E3 w' g2 g3 g4 E F q V U := ⟨h.a.below hb, h.b.below hb, h.c.below hb⟩
theorem TP.store {w w' : World} {B p k g : Nat} (h : TP w B p k) (hg : B ≤ g) (hp : p ≠ g) (hs : ∀ b2, b2 ≠ g → w'.heap[b2]? = w.heap[b2]?) (hz : w'.heap.size = w.heap.size) : TP w' B p k := by
 obtain ⟨h1, h2, ao, m, c, c0, c1, hf, h3, h4, h5⟩ := h
 refine ⟨h1, by rw [hz]; exact h2, ao, m, c, (World.cell?_of_block (a := ⟨p, 0, none⟩) (hs p hp)).trans c0, (World.cell?_of_block (a := ⟨p, 1, none⟩) (hs p hp)).trans c1, (World.frozen?_of_block (a := ⟨p, 1, none⟩) (hs p hp)).trans hf, h3, h4, fun i hi => ?_⟩
 obtain ⟨b, o, x, e, hbB, hc⟩ := h5 i hi
 exact ⟨b, o, x, e, hbB, (World.cell?_of_block (a := ⟨b, o + i, none⟩) (hs b (by omega))).trans hc⟩
theorem OT.store {w w' : World} {B g : Nat} {V : Value} {l : List Trk.Clip} (h : OT w B V l) (hg : g < B) (hs : ∀ b2, b2 ≠ g → w'.heap[b2]? = w.heap[b2]?) : OT w' B V l :=
 h.blocks fun x kk cp e => hs x (by have := (h.blk e).1; omega)
set_option maxRecDepth 100000 in
set_option maxHeartbeats 8000000 in
theorem applyx_any (v u : Value) (t : List Trk.Clip) (e : Trk.Ed) (w : World) (h : Tk w v t) (hu : Tk w u e.ins) (hV : VT 1000000 t) (hN : Trk.Norm t) (hE : ExV 1000000 e) (hl : t.length + 2 + e.put.length ≤ 63)
  (hee : (if e.k = 1 then max e.p (Trk.total t) else e.p) + e.T ≤ 2147483647) : Calls Tryz.prog 24 #[v, EdV e u] w (OTPost w (Trk.nf (e.exl t))) := by
 have HA := Lib.hid (fun (w : World) (h : Tk w v t) (hu : Tk w u e.ins) => apply_f v u t e w h hu hV hN hE hl hee)
 have HT := Lib.hid h
 have HU := Lib.hid hu
 obtain ⟨ao, cp, rfl, -⟩ := h
 obtain ⟨bo, dp, rfl, -⟩ := hu
 obtain ⟨n, hn⟩ : ∃ n, n = t.length := ⟨_, rfl⟩
 obtain ⟨m, hm⟩ : ∃ m, m = e.ins.length := ⟨_, rfl⟩
 rw [← hn] at HA HT ⊢
 rw [← hm] at HA HU ⊢
 clear hn hm hl hee hE hN hV
 obtain ⟨R, hR⟩ : ∃ R, R = Trk.nf (e.exl t) := ⟨_, rfl⟩
 rw [← hR] at HA ⊢
 clear hR
 unfold EdV edV at HA ⊢
 go_enter Tryz.func24, Tryz.ntmps24
 go_upto_region 1 with fail
 have HE := Lib.hid (ED.box w e.k e.p e.m e.c e.d e.sn e.sd (.slice bo m dp) rfl 40)
 have hb : Below w.heap.size w (w.alloc (.cells (edC e.k e.p e.m e.c e.d e.sn e.sd (.slice bo m dp)) 40)) := below_box _ _
 unfold edC at hb ⊢
 obtain ⟨w1, hw1⟩ : ∃ z, z = w.alloc (.cells #[.int .i64 e.k, .int .i64 e.p, .int .i64 e.m, .int .i64 e.c, .int .i64 e.d, .int .i64 e.sn, .int .i64 e.sd, .slice bo m dp] 40) := ⟨_, rfl⟩
 rw [← hw1] at HE hb ⊢
 obtain ⟨g, hg⟩ : ∃ g, g = w.heap.size := ⟨_, rfl⟩
 rw [← hg] at HE ⊢
 replace HT := Lib.hid (HT.out.below hb)
 replace HU := Lib.hid (HU.out.below hb)
 have HB := Lib.hid hb
 clear hw1 hg hb
 apply wp_region_lit
 iterate 3 go_step
 refine wpl_loadE HE.out rfl rfl rfl ?_
 simp only [Act.put, List.setIfInBounds_toArray, List.set_cons_succ, List.set_cons_zero]
 go_wp2_with fail
 refine (HA.out _ HT.out HU.out).mono ?_
 rintro ev w2 ⟨vu, x1, x2, x3, ra, rl, rc, rfl, ho, hb⟩
 have HO := Lib.hid (ho.lower HB.out.size)
 replace HB := Lib.hid (HB.out.trans (hb.mono HB.out.size))
 clear ho hb HE HT HU HA
 unfold edC
 go_wp2_with fail
 go_ret
 exact ⟨_, rfl, HO.out.below (below_box _ _), HB.out.trans ((below_box _ _).mono HB.out.size)⟩
set_option maxRecDepth 100000 in
set_option maxHeartbeats 8000000 in
theorem docs_nil (w : World) : Calls Tryz.prog 102 #[.slice none 0 0] w fun e w' => e = .returned (.slice none 0 0) ∧ w' = w := by
 have hnil := fun w => Go.run_eql_slice_nil (P := Tryz.prog) w 53 65 none 0 0 Tryz.underlying53
 go_enter Tryz.func102, Tryz.ntmps102
 go_wp2_with fail
 go_ret
 exact ⟨rfl, rfl⟩
set_option maxRecDepth 100000 in
set_option maxHeartbeats 8000000 in
theorem fields_tick (w : World) : Calls Tryz.prog 101 #[.agg #[.int .i64 7, .string ⟨#[]⟩, .string ⟨#[]⟩, .int .i64 0, .int .i64 1, .slice none 0 0]] w fun e w' => e = .returned (.bool true) ∧ w' = w.alloc (.cells #[.int .i64 7, .string ⟨#[]⟩, .string ⟨#[]⟩, .int .i64 0, .int .i64 1, .slice none 0 0] 59) := by
 go_enter Tryz.func101, Tryz.ntmps101
 go_wp2_with fail
 go_ret
 exact ⟨rfl, rfl⟩
set_option maxRecDepth 100000 in
set_option maxHeartbeats 8000000 in
theorem convert_tick (w : World) : Calls Tryz.prog 62 #[.agg #[.int .i64 7, .string ⟨#[]⟩, .string ⟨#[]⟩, .int .i64 0, .int .i64 1, .slice none 0 0]] w fun e w' => e = .returned (.tuple #[.iface 154 (.agg #[.int .i64 1]), .bool true]) ∧ w' = ((w.alloc (.cells #[.int .i64 7, .string ⟨#[]⟩, .string ⟨#[]⟩, .int .i64 0, .int .i64 1, .slice none 0 0] 59)).alloc (.cells #[.int .i64 7, .string ⟨#[]⟩, .string ⟨#[]⟩, .int .i64 0, .int .i64 1, .slice none 0 0] 59)).alloc (.cells #[.int .i64 7, .string ⟨#[]⟩, .string ⟨#[]⟩] 142) := by
 go_enter Tryz.func62, Tryz.ntmps62
 go_wp2_with fail
 refine (fields_tick _).mono ?_
 rintro e w1 ⟨rfl, rfl⟩
 go_wp2_with fail
 go_ret2
 exact ⟨rfl, rfl⟩
set_option maxRecDepth 100000 in
set_option maxHeartbeats 8000000 in
theorem tick_none (w : World) : Calls Tryz.prog 103 #[.agg #[.int .i64 0, .slice none 0 0], .int .i64 1] w fun e w' => e = .returned (.tuple #[.agg #[.int .i64 1, .slice none 0 0], .slice none 0 0, .int .i64 0]) ∧ w' = (w.alloc (.cells #[.int .i64 1, .slice none 0 0] 55)).alloc (.cells #[.int .i64 1, .slice none 0 0] 55) := by
 go_enter Tryz.func103, Tryz.ntmps103
 go_wp2_with fail
 go_loop [7, 24] (fun v7 i => v7 = .slice none 0 0 ∧ i = .int .i64 0) (fun _ _ => 0)
 case atStart => exact ⟨rfl, rfl⟩
 case round =>
  obtain ⟨rfl, rfl⟩ := hrel
  go_wp2_with fail
  go_returns
  exact ⟨rfl, rfl⟩
set_option maxRecDepth 100000 in
set_option maxHeartbeats 8000000 in
theorem clone_none (n : Int) (w : World) : Calls Tryz.prog 64 #[.agg #[.int .i64 n, .slice none 0 0]] w fun e w' => e = .returned (.agg #[.int .i64 n, .slice none 0 0]) ∧ w' = (w.alloc (.cells #[.int .i64 n, .slice none 0 0] 55)).alloc (.cells #[.int .i64 n, .slice none 0 0] 55) := by
 go_enter Tryz.func64, Tryz.ntmps64
 go_wp2_with fail
 refine (docs_nil _).mono ?_
 rintro e w1 ⟨rfl, rfl⟩
 go_wp2_with fail
 go_loop [13] (fun i => i = .int .i64 0) (fun _ => 0)
 case atStart => rfl
 case round =>
  subst hrel
  go_wp2_with fail
  go_returns
  exact ⟨rfl, rfl⟩
set_option maxRecDepth 100000 in
set_option maxHeartbeats 8000000 in
theorem valid_none (w : World) : Calls Tryz.prog 38 #[.agg #[.int .i64 0, .slice none 0 0]] w fun e w' => e = .returned (.bool true) ∧ w' = (w.alloc (.cells #[.int .i64 0, .slice none 0 0] 55)).alloc (.map #[] 0) := by
 have hmm := @run_makeMap Tryz.prog
 go_enter Tryz.func38, Tryz.ntmps38
 go_wp2_with fail
 go_loop [24] (fun i => i = .int .i64 0) (fun _ => 0)
 case atStart => rfl
 case round =>
  subst hrel
  go_wp2_with fail
  go_returns
  exact ⟨rfl, rfl⟩
theorem ta_154_154 (x : Value) (w : World) : (Instr.typeAssert (.iface 154 x) 20 154 true).run Tryz.prog w = .ok (.tuple #[x, .bool true]) w := by
 simp [Instr.typeAssert, run_underlying Tryz.underlying154]
set_option maxRecDepth 100000 in
set_option maxHeartbeats 8000000 in
theorem step_none (w : World) : Calls Tryz.prog 63 #[.agg #[.int .i64 0, .slice none 0 0], .iface 154 (.agg #[.int .i64 1])] w fun e w' => e = .returned (.tuple #[.agg #[.int .i64 1, .slice none 0 0], .slice none 0 0, .int .i64 0]) ∧ w' = ((((w.alloc (.cells #[.int .i64 0, .slice none 0 0] 55)).alloc (.cells #[.int .i64 1, .slice none 0 0] 55)).alloc (.cells #[.int .i64 1] 154)).alloc (.cells #[.int .i64 1, .slice none 0 0] 55)).alloc (.cells #[.int .i64 1, .slice none 0 0] 55) := by
 have hta := ta_154_154
 go_enter Tryz.func63, Tryz.ntmps63
 go_wp2_with fail
 refine (docs_nil _).mono ?_
 rintro e w1 ⟨rfl, rfl⟩
 go_wp2_with fail
 refine (tick_none _).mono ?_
 rintro e w1 ⟨rfl, rfl⟩
 go_wp2_with fail
 go_returns
 exact ⟨rfl, rfl⟩
set_option maxRecDepth 100000 in
set_option maxHeartbeats 8000000 in
theorem step_tick (w : World) : Calls Tryz.prog 26 #[.agg #[.int .i64 0, .slice none 0 0], .agg #[.int .i64 7, .string ⟨#[]⟩, .string ⟨#[]⟩, .int .i64 0, .int .i64 1, .slice none 0 0]] w fun e w' => e = .returned (.tuple #[.agg #[.int .i64 1, .slice none 0 0], .slice none 0 0, .int .i64 0]) ∧ Below w.heap.size w w' := by
 go_enter Tryz.func26, Tryz.ntmps26
 go_wp2_with fail
 refine (valid_none _).mono ?_
 rintro e w1 ⟨rfl, rfl⟩
 go_wp2_with fail
 refine (convert_tick _).mono ?_
 rintro e w1 ⟨rfl, rfl⟩
 go_wp2_with fail
 refine (step_none _).mono ?_
 rintro e w1 ⟨rfl, rfl⟩
 go_wp2_with fail
 refine (clone_none _ _).mono ?_
 rintro e w1 ⟨rfl, rfl⟩
 go_wp2_with fail
 go_returns
 exact ⟨rfl, by go_grown⟩
def longC : Trk.Clip := ⟨150, 1, ⟨1, ⟨#[122]⟩, 0, 1, 1, 1, false⟩, Trk.black, 0, 0, 0, ByteArray.empty, 0, []⟩
theorem nf_long : Trk.nf [longC] = [longC] := rfl
theorem long_vt : VT 1000000 [longC] := by
 refine ⟨fun c hc => ?_, by decide, by decide⟩
 rw [List.mem_singleton] at hc
 subst hc
 have hn : Trk.okName ⟨#[122]⟩ := .inr ⟨122, rfl, by decide, by decide⟩
 have ha := tape_src0 (nm := ⟨#[122]⟩) (k := 1) (n := 0) (d := 1) (sn := 1) (sd := 1) (sm := false) (.inl rfl) hn ⟨by decide, by decide, by decide, by decide, by decide⟩ ⟨by decide, by decide, by decide, by decide, by decide⟩
 have hs : Trk.SrcIn 1000000 150 longC.a := by
  obtain ⟨h1, h2, h3, -, -, -, -⟩ := ha
  exact .inr ⟨h1, h2, h3, by decide, by decide, by decide, by decide, by decide, by decide⟩
 exact ⟨⟨hs, .inl rfl, rfl, rfl, .inr (.inl ⟨rfl, rfl, rfl, rfl, rfl, rfl⟩)⟩, by decide, by decide, fun h => by simp [longC, Trk.shares] at h⟩
theorem gap1_vt : VT 1000000 [Trk.gap 1] := by
 refine ⟨fun c hc => ?_, by decide, by decide⟩
 rw [List.mem_singleton] at hc
 subst hc
 exact ⟨⟨.inl rfl, .inl rfl, rfl, rfl, .inl ⟨rfl, rfl, rfl, rfl, rfl, rfl, rfl⟩⟩, by decide, by decide, fun h => by simp [Trk.gap, Trk.shares] at h⟩
theorem nil_vt : VT 1000000 [] := ⟨Trk.VL.nil, by decide, by decide⟩
set_option maxRecDepth 100000 in
set_option maxHeartbeats 8000000 in
theorem long_any (w : World) : Calls Tryz.prog 23 #[] w (OTPost w [longC]) := by
 go_enter Tryz.func23, Tryz.ntmps23
 go_wp2_with fail
 go_ret
 exact ⟨_, rfl, OT.box w longC, below_box _ _⟩
set_option maxRecDepth 100000 in
set_option maxHeartbeats 8000000 in
theorem awake_any (w : World) : Calls Tryz.prog 20 #[] w fun e w' => e = .returned (.bool true) ∧ Below w.heap.size w w' := by
 go_enter Tryz.func20, Tryz.ntmps20
 go_wp2_with fail
 refine (long_any _).mono ?_
 rintro e w1 ⟨v1, rfl, ho, hb⟩
 have HO := Lib.hid ho
 have HB := Lib.hid hb
 clear ho hb
 go_wp2_with fail
 refine (merge_short (.slice none 0 0) (.slice none 0 0) v1 [] [] [longC] w1 (OT.nil _ 0).tk (OT.nil _ 0).tk HO.out.tk nil_vt nil_vt long_vt (by decide) (.inr (.inr rfl))).mono ?_
 rintro e w2 ⟨m1, rfl, ho, hb⟩
 have e1 : shortL [] [] [longC] = [longC] := rfl
 rw [e1] at ho
 have HM := Lib.hid ho
 replace HB := Lib.hid (HB.out.trans (hb.mono HB.out.size))
 clear ho hb e1
 go_wp2_with fail
 refine (long_any _).mono ?_
 rintro e w3 ⟨v2, rfl, ho, hb⟩
 replace HO := Lib.hid ho
 replace HM := Lib.hid (HM.out.below hb)
 replace HB := Lib.hid (HB.out.trans (hb.mono HB.out.size))
 clear ho hb
 go_wp2_with fail
 have hgv : OT (w3.alloc (.cells (clipC (Trk.gap 1)).toArray 48)) w3.heap.size (.slice (some ⟨w3.heap.size, 0, none⟩) 1 1) [Trk.gap 1] := OT.box w3 (Trk.gap 1)
 have hbb : Below w3.heap.size w3 (w3.alloc (.cells (clipC (Trk.gap 1)).toArray 48)) := below_box _ _
 refine (merge_short v2 (.slice (some ⟨w3.heap.size, 0, none⟩) 1 1) (.slice none 0 0) [longC] [Trk.gap 1] [] _ (HO.out.below hbb).tk hgv.tk (OT.nil _ 0).tk long_vt gap1_vt nil_vt (by decide) (.inr (.inl rfl))).mono ?_
 rintro e w4 ⟨m2, rfl, ho, hb⟩
 replace HM := Lib.hid ((HM.out.below hbb).below hb)
 replace HB := Lib.hid ((HB.out.trans (hbb.mono HB.out.size)).trans (hb.mono (Nat.le_trans HB.out.size hbb.size)))
 clear ho hb hbb hgv HO
 go_wp2_with fail
 refine (step_tick _).mono ?_
 rintro e w5 ⟨rfl, hb⟩
 replace HM := Lib.hid (HM.out.below hb)
 replace HB := Lib.hid (HB.out.trans (hb.mono HB.out.size))
 clear hb
 go_upto_region 4 with fail
 obtain ⟨w6, hw6⟩ : ∃ y, y = w5.alloc (.cells #[.int .i64 1, .slice none 0 0] 55) := ⟨_, rfl⟩
 obtain ⟨g, hg⟩ : ∃ y, y = w5.heap.size := ⟨_, rfl⟩
 rw [← hw6]
 have hb : Below w5.heap.size w5 w6 := by rw [hw6]; exact below_box _ _
 have C0 := Lib.hid (show w6.cell? ⟨g, 0, none⟩ = some (.int .i64 1) by rw [hw6, hg]; simp [go_sem])
 have C1 := Lib.hid (show w6.cell? ⟨g, 1, none⟩ = some (.slice none 0 0) by rw [hw6, hg]; simp [go_sem])
 rw [← hg]
 replace HM := Lib.hid (HM.out.below hb)
 replace HB := Lib.hid (HB.out.trans (hb.mono HB.out.size))
 have HG := Lib.hid (block_lt_of_cell C0.out)
 clear hb hw6 hg
 go_wp2_with fail
 refine (long_any _).mono ?_
 rintro e w7 ⟨v3, rfl, ho, hb⟩
 have HO := Lib.hid ho
 replace HM := Lib.hid (HM.out.below hb)
 replace HB := Lib.hid (HB.out.trans (hb.mono HB.out.size))
 replace C0 := Lib.hid ((hb.cell (p := ⟨g, 0, none⟩) HG.out).trans C0.out)
 replace C1 := Lib.hid ((hb.cell (p := ⟨g, 1, none⟩) HG.out).trans C1.out)
 replace HG := Lib.hid (Nat.lt_of_lt_of_le HG.out hb.size)
 clear ho hb
 go_wp2_with fail
 refine (equal_self m1 v3 [longC] w7 HM.out.tk HO.out.tk).mono ?_
 rintro e w8 ⟨rfl, hb⟩
 replace HB := Lib.hid (HB.out.trans (hb.mono HB.out.size))
 have c0 := (hb.cell (p := ⟨g, 0, none⟩) HG.out).trans C0.out
 have c1 := (hb.cell (p := ⟨g, 1, none⟩) HG.out).trans C1.out
 clear hb C0 C1 HG
 go_wp2_with fail
 go_ret
 exact ⟨rfl, HB.out⟩
theorem one_name (c : Trk.Clip) (i : Int) : (Trk.one c i).a.name = c.a.name := Trk.moved_name c.a i
theorem fr_name : ∀ {l : List Trk.Clip} {i : Int}, Trk.GoodL l → (∀ c ∈ l, c.a.name.size ≠ 1) → (Trk.fr l i).a.name.size ≠ 1
 | [], i, _, _ => by show (0 : Nat) ≠ 1; decide
 | c :: l, i, g, h => by
  by_cases hi : i < c.len
  ·rw [Trk.fr_lt hi, one_name]; exact h c List.mem_cons_self
  ·rw [Trk.fr_ge (by omega)]; exact fr_name g.tail fun d hd => h d (List.mem_cons_of_mem _ hd)
theorem long_good : Trk.GoodL [longC] := long_vt.good
theorem long_total : Trk.total [longC] = 150 := rfl
theorem long_fr {i : Int} (h1 : i < 150) : Trk.fr [longC] i = Trk.one longC i := Trk.fr_lt h1
theorem long_inj {i j : Int} (h : Trk.one longC i = Trk.one longC j) : i = j := by
 have h1 : (Trk.one longC i).a.an = (Trk.one longC j).a.an := by rw [h]
 have g : Trk.Good longC.a := by
  rcases long_vt.v longC List.mem_cons_self |>.c.a with e | e
  ·exact absurd e (by decide)
  ·exact e.lat.g
 have key : ∀ k : Int, (Trk.moved longC.a k).an = k := fun k => by
  have e := (Trk.moved_num g k).1
  have hb : Trk.baseN longC.a = 1 := by decide
  have hp : Trk.posN longC.a k = k := by
   show (0 : Int) * _ + k * 1 * ((1 / Nat.gcd 1 1 : Nat) : Int) = k
   simp
  rw [hb, hp, Nat.gcd_one_right] at e
  simpa using e
 have h2 : (Trk.moved longC.a i).an = (Trk.moved longC.a j).an := h1
 rw [key, key] at h2
 exact h2
theorem long_name (i : Int) : (Trk.one longC i).a.name.size = 1 := by rw [one_name]; rfl
structure InL (u put : List Trk.Clip) (p rem : Int) : Prop where
 x : ExF [longC] u put p rem
 g : Trk.GoodL put
 z : ∀ c ∈ put, c.a.name.size ≠ 1
 p0 : 0 ≤ p
 r0 : 0 ≤ rem
 e : p + rem < 150
 s : 1 ≤ rem ∨ 1 ≤ Trk.total put
theorem InL.f0 {u put : List Trk.Clip} {p rem : Int} (h : InL u put p rem) {i : Int} (i0 : 0 ≤ i) (hi : i < p) : Trk.fr u i = Trk.one longC i := by
 have := h.e
 have := h.r0
 rw [h.x.f i i0, if_pos hi, long_fr (by omega)]
theorem InL.f1 {u put : List Trk.Clip} {p rem : Int} (h : InL u put p rem) {i : Int} (hi : p ≤ i) (h1 : i < p + Trk.total put) : Trk.fr u i = Trk.fr put (i - p) := by
 have := h.p0
 rw [h.x.f i (by omega), if_neg (by omega), if_pos h1]
theorem InL.f2 {u put : List Trk.Clip} {p rem : Int} (h : InL u put p rem) {i : Int} (hi : p + Trk.total put ≤ i) : Trk.fr u i = Trk.fr [longC] (i - Trk.total put + rem) := by
 have := h.p0
 have := Trk.total_nonneg h.g
 rw [h.x.f i (by omega), if_neg (by omega), if_neg (by omega)]
theorem InL.ne {u put : List Trk.Clip} {p rem : Int} (h : InL u put p rem) : Trk.fr u p ≠ Trk.one longC p := by
 have hp := h.p0
 have hr := h.r0
 have he := h.e
 have ht := Trk.total_nonneg h.g
 intro e
 by_cases h1 : 1 ≤ Trk.total put
 ·rw [h.f1 (Int.le_refl p) (by omega)] at e
  have := fr_name (i := p - p) h.g h.z
  rw [e] at this
  exact this (long_name p)
 ·rw [h.f2 (by omega), long_fr (by omega)] at e
  have := long_inj e
  have := h.s
  omega
theorem InL.total {u put : List Trk.Clip} {p rem : Int} (h : InL u put p rem) : Trk.total u = 150 - rem + Trk.total put := by
 have hp := h.p0
 have hr := h.r0
 have he := h.e
 have ht := Trk.total_nonneg h.g
 have hu := Trk.total_nonneg h.x.n.g
 have k1 : (Trk.fr u (149 - rem + Trk.total put)).kind = 1 := by
  rw [h.f2 (by omega), long_fr (by omega)]; rfl
 have lo : 149 - rem + Trk.total put < Trk.total u := by
  rcases Int.lt_or_le (149 - rem + Trk.total put) (Trk.total u) with h1 | h1
  ·exact h1
  ·rw [Trk.fr_beyond h.x.n.g h1] at k1
   cases k1
 have hi : Trk.total u ≤ 150 - rem + Trk.total put := by
  rcases Int.lt_or_le (150 - rem + Trk.total put) (Trk.total u) with h1 | h1
  ·exfalso
   cases hl : u.getLast? with
   | none =>
    have : u = [] := List.getLast?_eq_none_iff.1 hl
    rw [this] at lo
    have : (149 - rem + Trk.total put < 0) := lo
    omega
   | some c =>
    have e1 := Trk.fr_last h.x.n.g hl
    rw [h.f2 (by omega), Trk.fr_beyond long_good (by rw [long_total]; omega)] at e1
    exact h.x.n.n c hl e1.symm
  ·exact h1
 omega
theorem InL.diff {u put x : List Trk.Clip} {p rem p' q' : Int} (h : InL u put p rem) (hd : Trk.Diff [longC] u p' q' x) : p' = p ∧ q' ≤ p + rem := by
 have hp := h.p0
 have hr := h.r0
 have he := h.e
 have ht := Trk.total_nonneg h.g
 have hu := h.total
 have hpre := hd.pre
 have hs := hd.suf
 rw [long_total, hu] at hs
 have e1 : p' = p := by
  rcases Int.lt_trichotomy p' p with h1 | h1 | h1
  ·exfalso
   have := hpre.x (by rw [long_total]; omega) (by rw [hu]; omega)
   rw [h.f0 hpre.h0 h1, long_fr (by omega)] at this
   exact this rfl
  ·exact h1
  ·exfalso
   have := hpre.f p hp h1
   rw [long_fr (by omega)] at this
   exact h.ne this.symm
 refine ⟨e1, ?_⟩
 subst e1
 rcases Int.lt_or_le (p' + rem) q' with h1 | h1
 ·exfalso
  have h3 := hs.x (by omega)
  rw [long_total, hu, h.f2 (by omega)] at h3
  exact h3 (by congr 1; omega)
 ·exact h1
theorem InL.of {a en by_ : Int} {E : Trk.Ed} (h : Iv a E en by_) (a0 : 0 ≤ a) (a1 : a + E.rem < 150) : InL (Trk.nf (E.exl [longC])) E.put a E.rem := by
 have hx := exch_of long_vt h.v (by have := h.l; show 1 + 2 + _ ≤ 64; omega) (by
  have := h.t1; have := h.p; have := h.r0
  rw [long_total]
  split <;> omega)
 rw [h.p] at hx
 refine ⟨hx, h.v.x.put_good, h.z, a0, h.r0, a1, ?_⟩
 have hT := h.t0
 by_cases hk : E.k = 1
 ·right
  have : E.put = E.ins := by unfold Trk.Ed.put; rw [if_neg (by omega)]
  rw [this]
  unfold Trk.Ed.T at hT
  rw [if_pos (.inl hk)] at hT
  exact hT
 ·left
  unfold Trk.Ed.rem
  rw [if_neg hk]
  exact hT
theorem partL_good {l : List Trk.Clip} (h : Trk.GoodL l) {a b : Int} (a0 : 0 ≤ a) (ab : a ≤ b) : Trk.GoodL (partL l a b) := by
 unfold partL
 split
 ·exact Trk.GoodL.nil
 ·exact (Trk.cut_of h a0 ab).g
theorem partL_fr {l : List Trk.Clip} (h : Trk.GoodL l) {a b i : Int} (a0 : 0 ≤ a) (ab : a ≤ b) (i0 : 0 ≤ i) (i1 : i < b - a) : Trk.fr (partL l a b) i = Trk.fr l (a + i) := by
 unfold partL
 split
 ·omega
 ·exact (Trk.cut_of h a0 ab).f i i0 i1
theorem pieces_fr {n a b x1 x2 : List Trk.Clip} {p1 q1 p2 q2 : Int} (h1 : Trk.Diff n a p1 q1 x1) (h2 : Trk.Diff n b p2 q2 x2) (gn : Trk.GoodL n) (ga : Trk.GoodL a) (gb : Trk.GoodL b) (hq : q1 ≤ p2) {i : Int} (i0 : 0 ≤ i) :
  Trk.GoodL (pieces n p1 q1 x1 p2 q2 x2).flatten ∧ Trk.fr (pieces n p1 q1 x1 p2 q2 x2).flatten i = if i < p2 + (p1 + Trk.total x1 - q1) then Trk.fr a i else Trk.fr b (i - (p1 + Trk.total x1 - q1)) := by
 obtain ⟨c0, c1, c2, c3, c4⟩ := h1.le
 obtain ⟨d0, d1, d2, d3, d4⟩ := h2.le
 have g1 := h1.good ga
 have g2 := h2.good gb
 have t1 := Trk.total_nonneg g1
 have t2 := Trk.total_nonneg g2
 have gA := partL_good gn (Int.le_refl 0) c0
 have gB := partL_good gn (show 0 ≤ q1 by omega) hq
 have gC := partL_good gn (show 0 ≤ q2 by omega) d2
 have tA := partL_total gn (Int.le_refl 0) c0
 have tB := partL_total gn (show 0 ≤ q1 by omega) hq
 have tC := partL_total gn (show 0 ≤ q2 by omega) d2
 have e : (pieces n p1 q1 x1 p2 q2 x2).flatten = partL n 0 p1 ++ (x1 ++ (partL n q1 p2 ++ (x2 ++ partL n q2 (Trk.total n)))) := by simp [pieces]
 rw [e]
 refine ⟨gA.append (g1.append (gB.append (g2.append gC))), ?_⟩
 have fa := fun (i : Int) (hi : 0 ≤ i) => h1.fr gn ga hi
 have fb := fun (i : Int) (hi : 0 ≤ i) => h2.fr gn gb hi
 by_cases k1 : i < p1
 ·rw [Trk.fr_append_lt _ gA i0 (by omega), partL_fr gn (Int.le_refl 0) c0 i0 (by omega), if_pos (by omega), fa i i0, if_pos k1, Int.zero_add]
 rw [Trk.fr_append_ge _ gA (by omega), tA]
 by_cases k2 : i < p1 + Trk.total x1
 ·rw [Trk.fr_append_lt _ g1 (by omega) (by omega), if_pos (by omega), fa i i0, if_neg k1, if_pos k2]
  congr 1; omega
 rw [Trk.fr_append_ge _ g1 (by omega)]
 by_cases k3 : i < p2 + (p1 + Trk.total x1 - q1)
 ·rw [Trk.fr_append_lt _ gB (by omega) (by omega), partL_fr gn (by omega) hq (by omega) (by omega), if_pos k3, fa i i0, if_neg k1, if_neg k2]
  congr 1; omega
 rw [Trk.fr_append_ge _ gB (by omega), tB, if_neg k3, fb (i - (p1 + Trk.total x1 - q1)) (by omega), if_neg (by omega)]
 by_cases k4 : i < p2 + (p1 + Trk.total x1 - q1) + Trk.total x2
 ·rw [Trk.fr_append_lt _ g2 (by omega) (by omega), if_pos (by omega)]
  congr 1; omega
 rw [Trk.fr_append_ge _ g2 (by omega), if_neg (by omega)]
 by_cases k5 : i - (p1 - 0) - Trk.total x1 - (p2 - q1) - Trk.total x2 < Trk.total n - q2
 ·rw [partL_fr gn (by omega) d2 (by omega) k5]
  congr 1; omega
 ·rw [Trk.fr_beyond gC (by omega), Trk.fr_beyond gn (by omega)]
theorem flatK_len (P : List (List Trk.Clip)) : ∀ k, (flatK P k).length ≤ P.flatten.length := fun k => by
 have e : P.flatten = flatK P k ++ (P.drop k).flatten := by unfold flatK; rw [← List.flatten_append, List.take_append_drop]
 rw [e, List.length_append]
 omega
theorem partL_len {l : List Trk.Clip} (h : Trk.GoodL l) {a b : Int} (a0 : 0 ≤ a) (ab : a ≤ b) (b1 : b ≤ Trk.total l) : (partL l a b).length ≤ l.length := by
 unfold partL
 split
 ·simp
 ·exact Trk.cut_len h a0 ab b1
theorem two_sep {u1 u2 P1 P2 a b x1 x2 : List Trk.Clip} {a1 r1 a2 r2 p1 q1 p2 q2 : Int} (h1 : InL u1 P1 a1 r1) (h2 : InL u2 P2 a2 r2) (hs : a1 + r1 < a2) (hab : (a = u1 ∧ b = u2) ∨ (a = u2 ∧ b = u1)) (ht : Two [longC] a b p1 q1 x1 p2 q2 x2) :
  Trk.Diff [longC] u1 p1 q1 x1 ∧ Trk.Diff [longC] u2 p2 q2 x2 ∧ p1 = a1 ∧ q1 ≤ a1 + r1 ∧ p2 = a2 ∧ q2 ≤ a2 + r2 := by
 have hr1 := h1.r0
 have hr2 := h2.r0
 rcases hab with ⟨rfl, rfl⟩ | ⟨rfl, rfl⟩ <;> rcases ht with ⟨k1, k2, k3⟩ | ⟨k1, k2, k3⟩
 ·have := h1.diff k1
  have := h2.diff k2
  exact ⟨k1, k2, by omega, by omega, by omega, by omega⟩
 ·exfalso
  have := h2.diff k1
  have := h1.diff k2
  have := k1.le
  omega
 ·exfalso
  have := h2.diff k1
  have := h1.diff k2
  omega
 ·have := h1.diff k1
  have := h2.diff k2
  exact ⟨k1, k2, by omega, by omega, by omega, by omega⟩
theorem InL.len {u put : List Trk.Clip} {p rem : Int} (h : InL u put p rem) (hl : put.length ≤ 5) : u.length ≤ 8 := by
 have := h.x.l
 simp only [List.length_singleton] at this
 omega
theorem norm_long : Trk.Norm [longC] := by rw [← nf_long]; exact Trk.nf_norm long_good
theorem InL.short {u v put : List Trk.Clip} {p rem : Int} (h : InL u put p rem) (hv : Trk.fr v p = Trk.one longC p) : u ≠ v := fun e => h.ne (by rw [e]; exact hv)
theorem both_merge {u1 u2 P1 P2 a b : List Trk.Clip} {a1 r1 a2 r2 : Int} (h1 : InL u1 P1 a1 r1) (h2 : InL u2 P2 a2 r2) (l1 : P1.length ≤ 5) (l2 : P2.length ≤ 5) (z1 : Trk.total P1 ≤ 1000) (z2 : Trk.total P2 ≤ 1000) (hs : a1 + r1 < a2) (hab : (a = u1 ∧ b = u2) ∨ (a = u2 ∧ b = u1)) {code : Int} {x : List Trk.Clip} (hm : MergeR [longC] a b code x) :
  code = 0 ∧ Trk.Norm x ∧ ∀ i, 0 ≤ i → Trk.fr x i = if i < a2 + (Trk.total P1 - r1) then Trk.fr u1 i else Trk.fr u2 (i - (Trk.total P1 - r1)) := by
 have n1 := h1.x.n.nf
 have n2 := h2.x.n.nf
 have s1 : u1 ≠ [longC] := h1.short (long_fr (by have := h1.e; have := h1.r0; omega))
 have s2 : u2 ≠ [longC] := h2.short (long_fr (by have := h2.e; have := h2.r0; omega))
 have s3 : u1 ≠ u2 := h1.short (h2.f0 h1.p0 (by have := h1.r0; omega))
 have hns : ¬ shortC [longC] a b := by
  unfold shortC
  rw [nf_long]
  rcases hab with ⟨rfl, rfl⟩ | ⟨rfl, rfl⟩
  ·rw [n1, n2]; rintro (h | h | h); exact s2 h; exact s3 h.symm; exact s1 h
  ·rw [n1, n2]; rintro (h | h | h); exact s1 h; exact s3 h; exact s2 h
 rcases hm with ⟨hc, -⟩ | ⟨-, p1, q1, x1, p2, q2, x2, ht, hr⟩
 ·exact absurd hc hns
 have ht' : Two [longC] a b p1 q1 x1 p2 q2 x2 := by
  rw [nf_long] at ht
  rcases hab with ⟨rfl, rfl⟩ | ⟨rfl, rfl⟩
  ·rw [n1, n2] at ht; exact ht
  ·rw [n1, n2] at ht; exact ht
 obtain ⟨d1, d2, e1, e2, e3, e4⟩ := two_sep h1 h2 hs hab ht'
 have ga := h1.x.n.g
 have gb := h2.x.n.g
 rcases hr with ⟨hcf, -⟩ | ⟨hq, hr⟩
 ·omega
 rw [nf_long] at hr
 obtain ⟨c0, c1, c2, c3, c4⟩ := d1.le
 obtain ⟨f0, f1, f2, f3, f4⟩ := d2.le
 have tx1 := d1.total ga
 have tx2 := d2.total gb
 have tu1 := h1.total
 have tu2 := h2.total
 have hlen : (pieces [longC] p1 q1 x1 p2 q2 x2).flatten.length ≤ 40 := by
  have k1 := partL_len long_good (Int.le_refl 0) c0 (by omega)
  have k2 := partL_len long_good (show 0 ≤ q1 by omega) (show q1 ≤ p2 by omega) (by omega)
  have k3 := partL_len long_good (show 0 ≤ q2 by omega) f2 (Int.le_refl _)
  have k4 := d1.len ga
  have k5 := d2.len gb
  have k6 := h1.len l1
  have k7 := h2.len l2
  simp only [List.length_singleton] at k1 k2 k3
  simp only [pieces, List.flatten_cons, List.flatten_nil, List.append_nil, List.length_append]
  omega
 have htot : Trk.total (pieces [longC] p1 q1 x1 p2 q2 x2).flatten ≤ 2147483647 := by
  have tA := partL_total long_good (Int.le_refl 0) c0
  have tB := partL_total long_good (show 0 ≤ q1 by omega) (show q1 ≤ p2 by omega)
  have tC := partL_total long_good (show 0 ≤ q2 by omega) f2
  simp only [pieces, List.flatten_cons, List.flatten_nil, List.append_nil, Trk.total_append, tA, tB, tC]
  rw [long_total] at *
  have := h1.r0
  have := h2.r0
  omega
 rcases hr with ⟨hlong, -⟩ | ⟨-, hg⟩
 ·omega
 have gp := (pieces_fr d1 d2 long_good ga gb (by omega) (Int.le_refl 0)).1
 rcases hg with ⟨-, -, k, -, hk⟩ | ⟨rfl, rfl, -⟩
 ·exfalso
  have h5 : Trk.GoodL (flatK (pieces [longC] p1 q1 x1 p2 q2 x2) k) := fun c hc => gp c (by
   obtain ⟨l, hl, hcl⟩ := List.mem_flatten.1 hc
   exact List.mem_flatten.2 ⟨l, List.mem_of_mem_take hl, hcl⟩)
  have h3 := (Trk.pk_of h5).n
  have h4 := flatK_len (pieces [longC] p1 q1 x1 p2 q2 x2) k
  omega
 refine ⟨rfl, Trk.nf_norm gp, fun i i0 => ?_⟩
 rw [Trk.nf_fr gp i0, (pieces_fr d1 d2 long_good ga gb (by omega) i0).2]
 have eD : p1 + Trk.total x1 - q1 = Trk.total P1 - r1 := by rw [long_total] at *; omega
 rw [eD, e3]
theorem both_same {u1 u2 P1 P2 x v : List Trk.Clip} {a1 r1 a2 r2 : Int} (h1 : InL u1 P1 a1 r1) (h2 : InL u2 P2 a2 r2) (hs : a1 + r1 < a2) (hx : Trk.Norm x)
  (hf : ∀ i, 0 ≤ i → Trk.fr x i = if i < a2 + (Trk.total P1 - r1) then Trk.fr u1 i else Trk.fr u2 (i - (Trk.total P1 - r1))) (hv : ExF u1 v P2 (a2 + (Trk.total P1 - r1)) r2) : x = v := by
 have p1 := Trk.total_nonneg h1.g
 have p2 := Trk.total_nonneg h2.g
 have a0 := h1.p0
 have r0 := h1.r0
 have q0 := h2.r0
 refine hx.eq hv.n fun i i0 => ?_
 rw [hf i i0, hv.f i i0]
 by_cases k1 : i < a2 + (Trk.total P1 - r1)
 ·rw [if_pos k1, if_pos k1]
 rw [if_neg k1, if_neg k1]
 by_cases k2 : i < a2 + (Trk.total P1 - r1) + Trk.total P2
 ·rw [if_pos k2, h2.f1 (by omega) (by omega)]
  congr 1; omega
 ·rw [if_neg k2, h2.f2 (by omega), h1.f2 (by omega)]
  congr 1; omega
theorem two_vt {L : Int} {n a b x1 x2 : List Trk.Clip} {p1 q1 p2 q2 : Int} (h : Two n a b p1 q1 x1 p2 q2 x2) (Va : VT L a) (Vb : VT L b) :
  VT L x1 ∧ VT L x2 ∧ 0 ≤ p1 ∧ p1 ≤ q1 ∧ q1 ≤ Trk.total n ∧ 0 ≤ p2 ∧ p2 ≤ q2 ∧ q2 ≤ Trk.total n := by
 rcases h with ⟨h1, h2, -⟩ | ⟨h1, h2, -⟩
 ·obtain ⟨e1, e2, e3, -⟩ := h1.le
  obtain ⟨f1, f2, f3, -⟩ := h2.le
  exact ⟨diff_vt h1 Va, diff_vt h2 Vb, e1, e2, e3, f1, f2, f3⟩
 ·obtain ⟨e1, e2, e3, -⟩ := h1.le
  obtain ⟨f1, f2, f3, -⟩ := h2.le
  exact ⟨diff_vt h1 Vb, diff_vt h2 Va, e1, e2, e3, f1, f2, f3⟩
theorem mergeR_vt {L : Int} {n a b x : List Trk.Clip} (h : MergeR n a b 0 x) (Vn : VT L n) (Va : VT L a) (Vb : VT L b) : VT L x ∧ Trk.Norm x := by
 rcases h with ⟨-, -, rfl⟩ | ⟨-, p1, q1, x1, p2, q2, x2, ht, h⟩
 ·unfold shortL
  split
  ·exact ⟨nf_vt Va, Trk.nf_norm Va.good⟩
  ·exact ⟨nf_vt Vb, Trk.nf_norm Vb.good⟩
 ·rcases h with ⟨-, h, -⟩ | ⟨hq, h⟩
  ·omega
  ·rcases h with ⟨-, h, -⟩ | ⟨htot, h⟩
   ·omega
   ·rcases h with ⟨h, -⟩ | ⟨-, rfl, hk⟩
    ·omega
    ·obtain ⟨v1, v2, e1, e2, e3, f1, f2, f3⟩ := two_vt ht (nf_vt Va) (nf_vt Vb)
     have Vn' := nf_vt Vn
     have hP : ∀ l ∈ pieces (Trk.nf n) p1 q1 x1 p2 q2 x2, Trk.VL L l := by
      intro l hl
      simp only [pieces, List.mem_cons, List.not_mem_nil, or_false] at hl
      rcases hl with rfl | rfl | rfl | rfl | rfl
      ·exact (partL_vt Vn' (Int.le_refl _) e1 (by omega)).v
      ·exact v1.v
      ·exact (partL_vt Vn' (by omega) (by omega) (by omega)).v
      ·exact v2.v
      ·exact (partL_vt Vn' (by omega) (by omega) (by omega)).v
     generalize hPP : pieces (Trk.nf n) p1 q1 x1 p2 q2 x2 = P at *
     have hF : Trk.VL L P.flatten := by
      have := flatK_vl hP P.length
      unfold flatK at this
      rwa [List.take_length] at this
     have h5 := hk P.length (Nat.le_refl _)
     unfold flatK at h5
     rw [List.take_length] at h5
     have hg : Trk.GoodL P.flatten := hF.good
     have hpv : VT L (Trk.pk P.flatten) := ⟨Trk.pk_vl hF htot, h5, by rw [(Trk.pk_of hg).s.1]; exact htot⟩
     have := nf_vt hpv
     rw [nf_pk hg] at this
     exact ⟨this, Trk.nf_norm hg⟩
end Go.Proofs.YtfoohocgdcgbcaaGreat
