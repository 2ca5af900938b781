/- Rows.ComposeSimpleSaid is proved here, for every input; the walk is law_simple. -/
import Derived.Deep.Heap
import Derived.Laws.OwnMore
import Derived.Lib.BufferMore
import Derived.Test.YtnnobdcbmagbaaaRows
import Derived.WalkKit
import Derived.ProofKit
import Derived.OpenShut
import Derived.Test.YtnnobdcbmagbaaaEv00
import Derived.Test.YtnnobdcbmagbaaaEv04
import Derived.Test.YtnnobdcbmagbaaaEv05
import Derived.Test.YtnnobdcbmagbaaaEv10
import Derived.Test.YtnnobdcbmagbaaaEv20
import Derived.Test.YtnnobdcbmagbaaaEv23
import Derived.Test.YtnnobdcbmagbaaaEv25
import Derived.Test.YtnnobdcbmagbaaaEv26
import Derived.Test.YtnnobdcbmagbaaaEv27
set_option linter.unusedVariables false
set_option linter.unusedSimpArgs false

/- Plain laws of evaluation: sources that are found, frames that stay, pictures that do not matter. -/
namespace Go.Proofs.Ytnnobdcbmagbaaa
open Go.RowKit
set_option linter.unusedVariables false

/-- Picture i has the name. -/
def Hit (P : Nat → Pic) (md : ByteArray) (nb : Int) (i : Nat) : Prop := (P i).media = md ∧ (P i).num = nb
theorem findP_none {P : Nat → Pic} {md : ByteArray} {nb : Int} {k : Nat} (h0 : ∀ i, i < k → ¬ Hit P md nb i) : findP P md nb k = none := by
  induction k with
  | zero => rfl
  | succ k ih =>
    rw [findP_skip (h0 k (by omega))]
    exact ih (fun i hi => h0 i (by omega))
theorem findP_first {P : Nat → Pic} {md : ByteArray} {nb : Int} {j : Nat} (h0 : ∀ i, i < j → ¬ Hit P md nb i) (h1 : Hit P md nb j) : ∀ {m : Nat}, j < m → findP P md nb m = some j
  | 0, h => absurd h (Nat.not_lt_zero _)
  | m + 1, h => by
    by_cases e : j = m
    · subst e
      exact findP_new (findP_none h0) h1
    · exact findP_old (findP_first h0 h1 (by omega))
theorem mName_inj {a b : Nat} (ha : a < 3) (hb : b < 3) (h : mName a = mName b) : a = b := by
  have h' := congrArg ByteArray.data h
  rcases (show a = 0 ∨ a = 1 ∨ a = 2 by omega) with rfl | rfl | rfl <;> rcases (show b = 0 ∨ b = 1 ∨ b = 2 by omega) with rfl | rfl | rfl <;> first | rfl | exact absurd h' (by decide)
theorem mName_size (d : Nat) : (mName d).size = 2 := rfl

/-- A frame of 16 by 16 samples. -/
def Fr16 (F : Fr) : Prop := F.ok = true ∧ F.W = 16 ∧ F.H = 16
theorem Fr16.pair {F G : Fr} (h : Fr16 F) (k : Fr16 G) : pairOk F G = true := pairOk_of h.1 k.1 (h.2.1.trans k.2.1.symm) (h.2.2.trans k.2.2.symm)
theorem Fr16.dim {F G : Fr} (h : Fr16 F) (d : Dim G F) : Fr16 G := by
  obtain ⟨h1, h2, h3⟩ := h
  obtain ⟨d1, d2, d3, d4, d5⟩ := d
  refine ⟨?_, d1.trans h2, d2.trans h3⟩
  unfold Fr.ok at h1 ⊢
  rw [d1, d2, d3, d4, d5]
  exact h1
theorem okFld_share {f : Fld} (h : okFld f = true) (ho : f.op = 2 ∨ f.op = 3) : okShare f.num f.den = true := by
  unfold okFld at h
  rcases ho with ho | ho <;> simp [ho, okRatio] at h <;> exact okShare_of (by omega) (by omega) (by omega) (by omega)
theorem okFld_dir {f : Fld} (h : okFld f = true) (ho : f.op = 3) : okDir f.par = true := by
  unfold okFld at h
  simp [ho] at h
  simp [okDir]
  omega
theorem okFld_thr {f : Fld} (h : okFld f = true) (ho : f.op = 4) : okThr f.par = true := by
  unfold okFld at h
  simp [ho] at h
  simp [okThr]
  omega
theorem okFld_text {f : Fld} (h : okFld f = true) (ho : f.op = 5) : okText f.text = true := by
  unfold okFld at h
  simp [ho] at h
  exact h.1

/-- Every name of the tape's expressions is found, at a frame of the size. -/
def FindOK (P : Nat → Pic) (m : Nat) : Prop := ∀ d n : Nat, d < 3 → n < 8 → ∃ j, findP P (mName d) (n : Int) m = some j ∧ Fr16 (P j).fr

theorem ev_good {P : Nat → Pic} {m : Nat} (hP : FindOK P m) : ∀ X : Ex, okX X = true → GoodX X → (evX P m 16 16 X).1 = 0 ∧ Fr16 (evX P m 16 16 X).2 := by
  intro X
  induction X with
  | nil => intro h; simp [okX] at h
  | mk f a ih =>
    intro h hg
    obtain ⟨hf, hs⟩ := okX_f h
    obtain ⟨h0, h5, hn⟩ := okFld_n hf
    have hsub : ∀ i, i < f.n → (evX P m 16 16 (a i)).1 = 0 ∧ Fr16 (evX P m 16 16 (a i)).2 := fun i hi => ih i (hs i hi) (hg.2 i hi)
    rcases (show f.op = 0 ∨ f.op = 1 ∨ f.op = 2 ∨ f.op = 3 ∨ f.op = 4 ∨ f.op = 5 by omega) with ho | ho | ho | ho | ho | ho
    · rw [evX_0 ho]
      exact ⟨rfl, by decide, rfl, rfl⟩
    · obtain ⟨d, n, hd, hn', e1, e2⟩ := hg.1 ho
      obtain ⟨j, hj, hF⟩ := hP d n hd hn'
      rw [evX_1 ho (i := j) (by rw [e1, e2]; exact hj)]
      exact ⟨rfl, hF⟩
    · have hn2 : f.n = 2 := by rw [hn, if_neg (by omega), if_neg (by omega)]
      obtain ⟨a1, a2⟩ := hsub 0 (by omega)
      obtain ⟨b1, b2⟩ := hsub 1 (by omega)
      rw [evX_2 ho a1 b1]
      unfold mixE mixR
      rw [a2.pair b2, okFld_share hf (Or.inl ho)]
      exact ⟨rfl, a2.dim ⟨rfl, rfl, rfl, rfl, rfl⟩⟩
    · have hn2 : f.n = 2 := by rw [hn, if_neg (by omega), if_neg (by omega)]
      obtain ⟨a1, a2⟩ := hsub 0 (by omega)
      obtain ⟨b1, b2⟩ := hsub 1 (by omega)
      rw [evX_3 ho a1 b1]
      unfold wipeE wipeR
      rw [a2.pair b2, okFld_share hf (Or.inr ho), okFld_dir hf ho]
      exact ⟨rfl, a2.dim ⟨rfl, rfl, rfl, rfl, rfl⟩⟩
    · have hn2 : f.n = 2 := by rw [hn, if_neg (by omega), if_neg (by omega)]
      obtain ⟨a1, a2⟩ := hsub 0 (by omega)
      obtain ⟨b1, b2⟩ := hsub 1 (by omega)
      rw [evX_4 ho a1 b1]
      unfold keyE keyR
      rw [a2.pair b2, okFld_thr hf ho]
      exact ⟨rfl, a2.dim ⟨rfl, rfl, rfl, rfl, rfl⟩⟩
    · have hn2 : f.n = 1 := by rw [hn, if_neg (by omega), if_pos ho]
      obtain ⟨a1, a2⟩ := hsub 0 (by omega)
      rw [evX_5 ho a1]
      unfold titleE titleR
      rw [a2.1, okFld_text hf ho]
      exact ⟨rfl, a2.dim ⟨rfl, rfl, rfl, rfl, rfl⟩⟩

/-- Two lists in which the names lead to the same frames give the same frame. -/
theorem ev_same {P Q : Nat → Pic} {m k : Nat} {W H : Int} (hPQ : ∀ d n : Nat, d < 3 → n < 8 → ∃ i j, findP P (mName d) (n : Int) m = some i ∧ findP Q (mName d) (n : Int) k = some j ∧ (P i).fr = (Q j).fr) :
    ∀ X : Ex, okX X = true → GoodX X → evX P m W H X = evX Q k W H X := by
  intro X
  induction X with
  | nil => intro h; simp [okX] at h
  | mk f a ih =>
    intro h hg
    obtain ⟨hf, hs⟩ := okX_f h
    obtain ⟨h0, h5, hn⟩ := okFld_n hf
    have hsub : ∀ i, i < f.n → evX P m W H (a i) = evX Q k W H (a i) := fun i hi => ih i (hs i hi) (hg.2 i hi)
    rcases (show f.op = 0 ∨ f.op = 1 ∨ f.op = 2 ∨ f.op = 3 ∨ f.op = 4 ∨ f.op = 5 by omega) with ho | ho | ho | ho | ho | ho
    · rw [evX_0 ho, evX_0 ho]
    · obtain ⟨d, n, hd, hn', e1, e2⟩ := hg.1 ho
      obtain ⟨i, j, hi, hj, hF⟩ := hPQ d n hd hn'
      rw [evX_1 ho (i := i) (by rw [e1, e2]; exact hi), evX_1 ho (i := j) (by rw [e1, e2]; exact hj), hF]
    · have hn2 : f.n = 2 := by rw [hn, if_neg (by omega), if_neg (by omega)]
      rw [evX, evX]
      simp [ho, hsub 0 (by omega), hsub 1 (by omega)]
    · have hn2 : f.n = 2 := by rw [hn, if_neg (by omega), if_neg (by omega)]
      rw [evX, evX]
      simp [ho, hsub 0 (by omega), hsub 1 (by omega)]
    · have hn2 : f.n = 2 := by rw [hn, if_neg (by omega), if_neg (by omega)]
      rw [evX, evX]
      simp [ho, hsub 0 (by omega), hsub 1 (by omega)]
    · have hn2 : f.n = 1 := by rw [hn, if_neg (by omega), if_pos ho]
      rw [evX, evX]
      simp [ho, hsub 0 (by omega)]

theorem find24 {P : Nat → Pic} (h : ∀ i, i < 24 → PicOK i (P i)) {d n : Nat} (hd : d < 3) (hn : n < 8) : (∀ i, i < d * 8 + n → ¬ Hit P (mName d) (n : Int) i) ∧ Hit P (mName d) (n : Int) (d * 8 + n) ∧ Fr16 (P (d * 8 + n)).fr := by
  refine ⟨fun i hi hh => ?_, ?_⟩
  · obtain ⟨e1, e2, _⟩ := h i (by omega)
    have e3 := mName_inj (by omega) hd (e1.symm.trans hh.1)
    have e4 := e2.symm.trans hh.2
    omega
  · obtain ⟨e1, e2, e3⟩ := h (d * 8 + n) (by omega)
    refine ⟨⟨e1.trans (by rw [show (d * 8 + n) / 8 = d by omega]), e2.trans (by rw [show (d * 8 + n) % 8 = n by omega])⟩, e3⟩
theorem find_front {P R : Nat → Pic} {m : Nat} (h : ∀ i, i < 24 → PicOK i (P i)) (hm : 24 ≤ m) (hR : ∀ i, i < 24 → R i = P i) {d n : Nat} (hd : d < 3) (hn : n < 8) : findP R (mName d) (n : Int) m = some (d * 8 + n) := by
  obtain ⟨h1, h2, _⟩ := find24 h hd hn
  refine findP_first (fun i hi hh => h1 i hi ?_) ?_ (by omega)
  · unfold Hit at hh ⊢
    rw [← hR i (by omega)]
    exact hh
  · unfold Hit at h2 ⊢
    rw [hR _ (by omega)]
    exact h2
theorem find_back {P R : Nat → Pic} (h : ∀ i, i < 24 → PicOK i (P i)) (hQ : ∀ i, i < 24 → (R i).media.size = 3) (hR : ∀ i, i < 24 → R (24 + i) = P i) {d n : Nat} (hd : d < 3) (hn : n < 8) : findP R (mName d) (n : Int) 48 = some (24 + (d * 8 + n)) := by
  obtain ⟨h1, h2, _⟩ := find24 h hd hn
  refine findP_first (fun i hi hh => ?_) ?_ (by omega)
  · by_cases h24 : i < 24
    · have := hQ i h24
      rw [hh.1, mName_size] at this
      omega
    · refine h1 (i - 24) (by omega) ?_
      unfold Hit at hh ⊢
      rw [← hR (i - 24) (by omega), show 24 + (i - 24) = i by omega]
      exact hh
  · unfold Hit at h2 ⊢
    rw [hR _ (by omega)]
    exact h2
theorem okL_of {P : Nat → Pic} {W H : Int} : ∀ {m : Nat}, (∀ i, i < m → okP W H (P i) = true) → okL P W H m = true
  | 0, _ => rfl
  | m + 1, h => by
    unfold okL
    rw [okL_of (fun i hi => h i (by omega)), h m (by omega)]
    rfl
theorem okP_16 {q : Pic} (h : Fr16 q.fr) : okP 16 16 q = true := by
  obtain ⟨h1, h2, h3⟩ := h
  simp [okP, h1, h2, h3]

/-- The list alone. -/
theorem named_own {P : Nat → Pic} (h : ∀ i, i < 24 → PicOK i (P i)) {X : Ex} (hok : okX X = true) (hg : GoodX X) : evE P 24 16 16 X = 0 ∧ evR P 24 16 16 X = (evX P 24 16 16 X).2 ∧ Fr16 (evX P 24 16 16 X).2 := by
  have hall : okAll P 24 16 16 X = true := by
    unfold okAll
    rw [hok, okL_of (fun i hi => okP_16 (h i hi).2.2)]
    rfl
  have := ev_good (P := P) (m := 24) (fun d n hd hn => ⟨_, find_front h (Nat.le_refl _) (fun _ _ => rfl) hd hn, (find24 h hd hn).2.2⟩) X hok hg
  unfold evE evR
  rw [hall]
  exact ⟨this.1, rfl, this.2⟩
theorem named_other {P R : Nat → Pic} (h : ∀ i, i < 24 → PicOK i (P i)) (hall : ∀ i, i < 48 → Fr16 (R i).fr) (hR : (∀ i, i < 24 → R i = P i) ∨ ((∀ i, i < 24 → (R i).media.size = 3) ∧ ∀ i, i < 24 → R (24 + i) = P i)) {X : Ex} (hok : okX X = true) (hg : GoodX X) :
    evE R 48 16 16 X = 0 ∧ evR R 48 16 16 X = (evX P 24 16 16 X).2 := by
  have hall : okAll R 48 16 16 X = true := by
    unfold okAll
    rw [hok, okL_of (fun i hi => okP_16 (hall i hi))]
    rfl
  have hP := ev_good (P := P) (m := 24) (fun d n hd hn => ⟨_, find_front h (Nat.le_refl _) (fun _ _ => rfl) hd hn, (find24 h hd hn).2.2⟩) X hok hg
  have he : evX P 24 16 16 X = evX R 48 16 16 X := by
    refine ev_same (fun d n hd hn => ?_) X hok hg
    rcases hR with hR | ⟨hQ, hR⟩
    · exact ⟨_, _, find_front h (Nat.le_refl _) (fun _ _ => rfl) hd hn, find_front h (by omega) hR hd hn, by rw [hR _ (by omega)]⟩
    · exact ⟨_, _, find_front h (Nat.le_refl _) (fun _ _ => rfl) hd hn, find_back h hQ hR hd hn, by rw [hR _ (by omega)]⟩
  unfold evE evR
  rw [hall, ← he]
  exact ⟨hP.1, rfl⟩

end Go.Proofs.Ytnnobdcbmagbaaa

/- Aid for the law of names: a picture's name is stored anew; an append that leaves all other blocks; a frame stored over a box of its own. -/
namespace Go.Proofs.Ytnnobdcbmagbaaa
open Go.RowKit
set_option linter.unusedVariables false

def upd (P : Nat → Pic) (k : Nat) (md : ByteArray) (j : Nat) : Pic := if j = k then { P j with media := md } else P j
theorem setCell_row (w : World) (g o : Nat) (v : Value) {cur : Array Value} {E : TypeId} (h : w.heap[g]? = some (.cells cur E (0, 0))) : (w.setCell ⟨g, o, none⟩ v).heap[g]? = some (.cells (cur.setIfInBounds o v) E (0, 0)) := by
  simp [World.setCell, Array.getElem?_modify, h]
theorem pic7_at (q : Pic) (ay : Option Addr) (cy : Nat) (au : Option Addr) (cu : Nat) (av : Option Addr) (cv : Nat) (md : ByteArray) {j : Nat} (hj : j ≠ 0) : (pic7 { q with media := md } ay cy au cu av cv)[j]? = (pic7 q ay cy au cu av cv)[j]? := by
  cases j with
  | zero => exact absurd rfl hj
  | succ j => simp [pic7]
theorem PL.name {w : World} {B g cap k : Nat} {P : Nat → Pic} (h : PL w B (.slice (some ⟨g, 0, none⟩) k cap) k P) {i : Nat} (hi : i < k) (md : ByteArray) (hm : md.size ≤ 9223372036854775807) :
    PL (w.setCell ⟨g, i * 7, none⟩ (.string md)) B (.slice (some ⟨g, 0, none⟩) k cap) k (upd P i md) ∧ (∃ u, w.cell? ⟨g, i * 7, none⟩ = some u ∧ ∀ q, u ≠ .int .u8 q) := by
  obtain ⟨xs, h1, h2⟩ := h
  have h1' := h1
  have hcell : w.cell? ⟨g, i * 7, none⟩ = some (.string (P i).media) := by
    obtain ⟨_, ay, cy, au, cu, av, cv, hx, _⟩ := h2 i hi
    exact h1'.cell ((hx 0 (by decide)).trans rfl)
  refine ⟨?_, _, hcell, by simp⟩
  rcases h1 with ⟨h, _⟩ | ⟨g', cap', cur, e, hB, hg, hk, hc, hsz, hpl, htk, hlen⟩
  · simp at h
  · simp only [Value.slice.injEq, Option.some.injEq, Addr.mk.injEq, and_true, true_and] at e
    obtain ⟨rfl, rfl⟩ := e
    have hlt : i * 7 < k * 7 := by omega
    refine ⟨xs.set (i * 7) (.string md), Or.inr ⟨g, cap, cur.setIfInBounds (i * 7) (.string md), rfl, hB, setCell_row w g _ _ hg, hk, hc, by simpa using hsz, ?_, ?_, by simpa using hlen⟩, ?_⟩
    · intro u hu q
      simp only [Array.toList_setIfInBounds] at hu
      rcases List.mem_or_eq_of_mem_set hu with hu | rfl
      · exact hpl u hu q
      · simp
    · rw [Array.toList_setIfInBounds, List.take_set, htk]
    · intro j hj
      obtain ⟨hf, ay, cy, au, cu, av, cv, hx, hF⟩ := h2 j hj
      have hF' := hF.put hcell (by simp) (.string md)
      by_cases e : j = i
      · subst e
        have e2 : upd P j md j = { P j with media := md } := by simp [upd]
        rw [e2]
        refine ⟨⟨hm, hf.lo, hf.hi⟩, ay, cy, au, cu, av, cv, fun n hn => ?_, hF'⟩
        by_cases hn0 : n = 0
        · subst hn0
          rw [Nat.add_zero, List.getElem?_set_self (by omega)]
          rfl
        · rw [List.getElem?_set_ne (by omega), pic7_at _ _ _ _ _ _ _ _ hn0]
          exact hx n hn
      · have e2 : upd P i md j = P j := by simp [upd, e]
        rw [e2]
        refine ⟨hf, ay, cy, au, cu, av, cv, fun n hn => ?_, hF'⟩
        rw [List.getElem?_set_ne (by omega)]
        exact hx n hn
theorem PL.media {w : World} {B g cap k : Nat} {P : Nat → Pic} (h : PL w B (.slice (some ⟨g, 0, none⟩) k cap) k P) {i : Nat} (hi : i < k) : w.cell? ⟨g, i * 7, none⟩ = some (.string (P i).media) := by
  obtain ⟨xs, h1, h2⟩ := h
  obtain ⟨_, ay, cy, au, cu, av, cv, hx, _⟩ := h2 i hi
  exact h1.cell ((hx 0 (by decide)).trans rfl)
theorem PL.thaw {w : World} {B g cap k : Nat} {P : Nat → Pic} (h : PL w B (.slice (some ⟨g, 0, none⟩) k cap) k P) (o : Nat) : w.frozen? ⟨g, o, none⟩ = false := by
  obtain ⟨xs, h1, h2⟩ := h
  rcases h1 with ⟨h, _⟩ | ⟨g', cap', cur, e, hB, hg, _⟩
  · simp at h
  · simp only [Value.slice.injEq, Option.some.injEq, Addr.mk.injEq, and_true, true_and] at e
    obtain ⟨rfl, rfl⟩ := e
    simp [World.frozen?, hg]
theorem PL.lt {w : World} {B g cap k : Nat} {P : Nat → Pic} (h : PL w B (.slice (some ⟨g, 0, none⟩) k cap) k P) : B ≤ g ∧ g < w.heap.size := by
  obtain ⟨xs, h1, h2⟩ := h
  rcases h1 with ⟨h, _⟩ | ⟨g', cap', cur, e, hB, hg, _⟩
  · simp at h
  · simp only [Value.slice.injEq, Option.some.injEq, Addr.mk.injEq, and_true, true_and] at e
    obtain ⟨rfl, rfl⟩ := e
    exact ⟨hB, (Array.getElem?_eq_some_iff.1 hg).1⟩
theorem PL.open {w : World} {B k : Nat} {v : Value} {P : Nat → Pic} (h : PL w B v k P) (hk : 0 < k) : ∃ g cap, v = .slice (some ⟨g, 0, none⟩) k cap := by
  obtain ⟨xs, h1, h2⟩ := h
  rcases h1 with ⟨_, h, _⟩ | ⟨g', cap', cur, e, _⟩
  · omega
  · exact ⟨g', cap', e⟩

/-- append of m pictures to a list that is not nil: all other blocks stay. -/
theorem wpList_appY (w : World) {ops : Array Oper} {rest : List Oper} {op : Oper} {a : Act} {Q : Exit → Act → World → Prop} (hg : op.guard = none) (s x : Operand)
    (hop : op.op = .call { callee := .builtin .append, args := #[s, x], argTypes := #[59, 59] }) (hty : op.type = 59) (B : Nat) (g k cap : Nat) (P : Nat → Pic) (hs : a.eval s = .slice (some ⟨g, 0, none⟩) k cap) (h : PL w B (.slice (some ⟨g, 0, none⟩) k cap) k P) (hB : B ≤ w.heap.size)
    (b o m c : Nat) (R : Nat → Pic) (hx : a.eval x = .slice (some ⟨b, o, none⟩) m c) (hL : LA w (.slice (some ⟨b, o, none⟩) m c) m R) (hm : 0 < m) (hfit : (k + m) * 112 ≤ 140737488355328)
    (hK : ∀ g' c' w', PL w' B (.slice (some ⟨g', 0, none⟩) (k + m) c') (k + m) (cat k P R) → Below B w w' → (∀ b, b < w.heap.size → b ≠ g → w'.heap[b]? = w.heap[b]?) → wpList Try.prog ops Q rest (a.put op.dst (.slice (some ⟨g', 0, none⟩) (k + m) c')) w') : wpList Try.prog ops Q (op :: rest) a w := by
  refine wpList_plain hg fun K hK' => ?_
  obtain ⟨xs, h1, h2⟩ := h
  obtain ⟨ys, hl, y1, y2, y3, y4⟩ := hL.cells
  obtain ⟨v', w', hrun, r1, r2, _, r3, _⟩ := append_x w B 59 68 7 112 zp Try.underlying59 info68 zeros68 _ k xs h1 hB ⟨b, o, none⟩ m c ys hl y1 y2 y3 hm (by unfold maxLen; omega) (fun cap h1 h2 => growslice_fits h2 hfit)
  have hlx : xs.length = k * 7 := h1.len
  have hP : PL w' B v' (k + m) (cat k P R) := ⟨xs ++ ys, r1, (h2.app hlx y4).mono r2.fa⟩
  obtain ⟨g', c', rfl⟩ := hP.open (by omega)
  unfold Oper.wp
  simp [execOp, hop, resolve, invoke, builtin, hs, hx, hty, hrun, Result.andThen]
  exact hK' _ _ (hK g' c' w' hP r2.below (fun b hb hne => r3 b hb (fun g1 c1 e hbg => by
    simp only [Value.slice.injEq, Option.some.injEq, Addr.mk.injEq, and_true, true_and] at e
    exact hne (hbg.trans e.1.symm))))

theorem BX.of_block {w w' : World} {b : Nat} {c0 c1 c2 c3 c4 : Value} (h : BX w b c0 c1 c2 c3 c4) (e : w'.heap[b]? = w.heap[b]?) : BX w' b c0 c1 c2 c3 c4 :=
  ⟨(World.cell?_of_block (w := w) (a := ⟨b, 0, none⟩) e).trans h.k0, (World.cell?_of_block (w := w) (a := ⟨b, 1, none⟩) e).trans h.k1, (World.cell?_of_block (w := w) (a := ⟨b, 2, none⟩) e).trans h.k2, (World.cell?_of_block (w := w) (a := ⟨b, 3, none⟩) e).trans h.k3, (World.cell?_of_block (w := w) (a := ⟨b, 4, none⟩) e).trans h.k4⟩
theorem BX.put {w : World} {b : Nat} {x0 x1 x2 x3 x4 : Value} (h : BX w b x0 x1 x2 x3 x4) (c0 c1 c2 c3 c4 : Value) :
    BX (((((w.setCell ⟨b, 0, none⟩ c0).setCell ⟨b, 1, none⟩ c1).setCell ⟨b, 2, none⟩ c2).setCell ⟨b, 3, none⟩ c3).setCell ⟨b, 4, none⟩ c4) b c0 c1 c2 c3 c4 := by
  obtain ⟨k0, k1, k2, k3, k4⟩ := h
  constructor <;> simp [go_sem, k0, k1, k2, k3, k4]
theorem BX.far {w : World} {b : Nat} {x0 x1 x2 x3 x4 : Value} (h : BX w b x0 x1 x2 x3 x4) {a : Addr} (hn : a.block ≠ b) (u : Value) : BX (w.setCell a u) b x0 x1 x2 x3 x4 :=
  h.of_block (Deep.blk_setCell_other w a u b (fun e => hn e.symm))
def boxZ (w : World) (b : Nat) : Prop := BX w b (.int .i64 0) (.int .i64 0) (.slice none 0 0) (.slice none 0 0) (.slice none 0 0) ∧ ∀ o, w.frozen? ⟨b, o, none⟩ = false
theorem boxZ.below {w w' : World} {b : Nat} (h : boxZ w b) (hb : Below w.heap.size w w') : boxZ w' b := ⟨h.1.below hb, fun o => (hb.frozen (p := ⟨b, o, none⟩) h.1.lt).trans (h.2 o)⟩
theorem boxZ.of_block {w w' : World} {b : Nat} (h : boxZ w b) (e : w'.heap[b]? = w.heap[b]?) : boxZ w' b := ⟨h.1.of_block e, fun o => (World.frozen?_of_block (w := w) (a := ⟨b, o, none⟩) e).trans (h.2 o)⟩
theorem boxZ.of_alloc (w : World) (b : Nat) (h : b = w.heap.size) : boxZ (w.alloc (.cells #[.int .i64 0, .int .i64 0, .slice none 0 0, .slice none 0 0, .slice none 0 0] 26)) b := by
  subst h
  exact ⟨BX.of_alloc _ _ _ _ _ _ _, fun o => by simp [go_sem]⟩
/-- A list of pictures lies in no box of a frame. -/
theorem PL.ne {w : World} {B g cap k gx : Nat} {P : Nat → Pic} (h : PL w B (.slice (some ⟨g, 0, none⟩) k cap) k P) (hk : 0 < k) (hx : boxZ w gx) : gx ≠ g := by
  rintro rfl
  have h1 := h.media hk
  rw [Nat.zero_mul] at h1
  have h2 := h1.symm.trans hx.1.k0
  simp at h2
/-- A frame in a box of its own. -/
def AtF (y0 : World) (F : Fr) (a : Value) (wx : World) : Prop := ∃ gx ay cy au cu av cv, a = .pointer (some ⟨gx, 0, none⟩) ∧ y0.heap.size ≤ gx ∧ BX wx gx (.int .i64 F.W) (.int .i64 F.H) (.slice ay F.nY cy) (.slice au F.nU cu) (.slice av F.nV cv) ∧
  FA wx (.agg #[.int .i64 F.W, .int .i64 F.H, .slice ay F.nY cy, .slice au F.nU cu, .slice av F.nV cv]) F
theorem AtF.below {y0 wx wy : World} {F : Fr} {a : Value} (h : AtF y0 F a wx) (hb : Below wx.heap.size wx wy) : AtF y0 F a wy := by
  obtain ⟨gx, ay, cy, au, cu, av, cv, h1, h2, h3, h4⟩ := h
  exact ⟨gx, ay, cy, au, cu, av, cv, h1, h2, h3.below hb, h4.below hb⟩
theorem AtF.far {y0 wx : World} {F : Fr} {a : Value} (h : AtF y0 F a wx) {p : Addr} {u : Value} (hp : p.block < y0.heap.size) (hc : wx.cell? p = some u) (hu : ∀ q, u ≠ .int .u8 q) (x : Value) : AtF y0 F a (wx.setCell p x) := by
  obtain ⟨gx, ay, cy, au, cu, av, cv, h1, h2, h3, h4⟩ := h
  exact ⟨gx, ay, cy, au, cu, av, cv, h1, h2, h3.far (by omega) x, h4.put hc hu x⟩
theorem cat_16 {P R : Nat → Pic} (h : ∀ i, i < 24 → PicOK i (P i)) (h2 : ∀ i, i < 24 → (R i).fr.ok = true ∧ (R i).fr.W = 16 ∧ (R i).fr.H = 16) (i : Nat) (hi : i < 48) : (cat (0 + 24) (cat 0 P P) R i).fr.ok = true ∧ (cat (0 + 24) (cat 0 P P) R i).fr.W = 16 ∧ (cat (0 + 24) (cat 0 P P) R i).fr.H = 16 := by
  unfold cat
  by_cases h24 : i < 0 + 24
  · rw [if_pos h24, if_neg (Nat.not_lt_zero i)]
    exact (h i (by omega)).2.2
  · rw [if_neg h24]
    exact h2 (i - (0 + 24)) (by omega)
theorem cat_lo {P R : Nat → Pic} (i : Nat) (hi : i < 24) : cat (0 + 24) (cat 0 P P) R i = P i := by
  unfold cat
  rw [if_pos (by omega), if_neg (Nat.not_lt_zero i)]
  rfl
theorem cat_hi {P R : Nat → Pic} (i : Nat) : cat (0 + 24) (cat 0 P P) R (24 + i) = R i := by
  unfold cat
  rw [if_neg (by omega), show 24 + i - (0 + 24) = i by omega]
/-- The names as far as they are changed. -/
def names (Q : Nat → Pic) (n : Nat) (j : Nat) : Pic := if j < n then { Q j with media := (⟨#[110]⟩ : ByteArray) ++ (Q j).media } else Q j
theorem names_upd (Q : Nat → Pic) (n : Nat) (md : ByteArray) (h : md = (⟨#[110]⟩ : ByteArray) ++ (Q n).media) (j : Nat) : upd (names Q n) n md j = names Q (n + 1) j := by
  subst h
  unfold upd names
  by_cases e : j = n
  · subst e
    simp
  · by_cases hlt : j < n
    · simp [e, hlt, Nat.lt_succ_of_lt hlt]
    · rw [if_neg e, if_neg hlt, if_neg (by omega)]

theorem names_fr (Q : Nat → Pic) (n j : Nat) : (names Q n j).fr = (Q j).fr := by
  unfold names
  split <;> rfl
theorem names_size {R : Nat → Pic} (h : ∀ i, i < 24 → PicOK i (R i)) (i : Nat) (hi : i < 24) : (names R 24 i).media.size = 3 := by
  unfold names
  rw [if_pos hi]
  show ((⟨#[110]⟩ : ByteArray) ++ (R i).media).size = 3
  rw [(h i hi).1, ByteArray.size_append]
  rfl
theorem names_fit {R : Nat → Pic} (h : ∀ i, i < 24 → PicOK i (R i)) (i : Nat) (hi : i < 24) : ((⟨#[110]⟩ : ByteArray) ++ (R i).media).size ≤ 9223372036854775807 := by
  rw [(h i hi).1, ByteArray.size_append]
  show 1 + 2 ≤ _
  omega
theorem names_at (R : Nat → Pic) (n : Nat) : (names R n n).media = (R n).media := by simp [names]
theorem cat_16n {P R : Nat → Pic} (h : ∀ i, i < 24 → PicOK i (P i)) (h2 : ∀ i, i < 24 → PicOK i (R i)) (i : Nat) (hi : i < 48) : (cat (0 + 24) (cat 0 (names R 24) (names R 24)) P i).fr.ok = true ∧ (cat (0 + 24) (cat 0 (names R 24) (names R 24)) P i).fr.W = 16 ∧ (cat (0 + 24) (cat 0 (names R 24) (names R 24)) P i).fr.H = 16 := by
  unfold cat
  by_cases h24 : i < 0 + 24
  · rw [if_pos h24, if_neg (Nat.not_lt_zero i), names_fr]
    exact (h2 i (by omega)).2.2
  · rw [if_neg h24]
    exact (h (i - (0 + 24)) (by omega)).2.2

end Go.Proofs.Ytnnobdcbmagbaaa

/- Simplifying as data: which expressions are the same, and what simplifying makes of one. -/
namespace Go.Proofs.Ytnnobdcbmagbaaa

theorem str_inj {a b : ByteArray} (h : a.toList = b.toList) : a = b := by
  rw [ByteArray.toList_eq, ByteArray.toList_eq] at h
  obtain ⟨⟨l⟩⟩ := a
  obtain ⟨⟨r⟩⟩ := b
  simp only at h
  subst h; rfl
def sameF (f g : Fld) : Prop := f.op = g.op ∧ f.media = g.media ∧ f.frame = g.frame ∧ f.num = g.num ∧ f.den = g.den ∧ f.par = g.par ∧ f.text = g.text
instance (f g : Fld) : Decidable (sameF f g) := by unfold sameF; infer_instance
def sameX : Ex → Ex → Bool
  | .mk f a, .mk g b => decide (sameF f g) && decide (f.n = g.n) && (List.range f.n).all fun i => sameX (a i) (b i)
  | _, _ => false
def zeroX : Ex := .mk ⟨0, (⟨#[]⟩ : ByteArray), 0, 0, 0, 0, (⟨#[]⟩ : ByteArray), 0⟩ fun _ => .nil
/-- What reduced makes of an expression. -/
def redX : Ex → Ex
  | .nil => .nil
  | .mk f a => if f.n ≠ 2 then .mk f a else if sameX (a 0) (a 1) = true then a 0 else if f.op = 4 ∧ (a 0).f.op = 0 then (if 16 < f.par then a 1 else zeroX) else .mk f a
theorem redX_mk (f : Fld) (a : Nat → Ex) : redX (.mk f a) = if f.n ≠ 2 then .mk f a else if sameX (a 0) (a 1) = true then a 0 else if f.op = 4 ∧ (a 0).f.op = 0 then (if 16 < f.par then a 1 else zeroX) else .mk f a := rfl
def simpX : Ex → Ex
  | .nil => .nil
  | .mk f a => redX (.mk f fun i => simpX (a i))


end Go.Proofs.Ytnnobdcbmagbaaa

/- Simplifying, plainly: expressions that are the same, what simplifying makes of one, and that the frame stays. -/
namespace Go.Proofs.Ytnnobdcbmagbaaa
open Go.RowKit
set_option linter.unusedVariables false

/-- Frames that look alike. -/
structure EqF (F G : Fr) : Prop where
  w : F.W = G.W
  h : F.H = G.H
  y : F.nY = G.nY
  u : F.nU = G.nU
  v : F.nV = G.nV
  Y : ∀ i, i < F.nY → F.Y i = G.Y i
  U : ∀ i, i < F.nU → F.U i = G.U i
  V : ∀ i, i < F.nV → F.V i = G.V i
theorem EqF.refl (F : Fr) : EqF F F := ⟨rfl, rfl, rfl, rfl, rfl, fun _ _ => rfl, fun _ _ => rfl, fun _ _ => rfl⟩
theorem EqF.trans {F G H : Fr} (h : EqF F G) (k : EqF G H) : EqF F H :=
  ⟨h.w.trans k.w, h.h.trans k.h, h.y.trans k.y, h.u.trans k.u, h.v.trans k.v, fun i hi => (h.Y i hi).trans (k.Y i (h.y ▸ hi)), fun i hi => (h.U i hi).trans (k.U i (h.u ▸ hi)), fun i hi => (h.V i hi).trans (k.V i (h.v ▸ hi))⟩
theorem EqF.symm {F G : Fr} (h : EqF F G) : EqF G F :=
  ⟨h.w.symm, h.h.symm, h.y.symm, h.u.symm, h.v.symm, fun i hi => (h.Y i (h.y ▸ hi)).symm, fun i hi => (h.U i (h.u ▸ hi)).symm, fun i hi => (h.V i (h.v ▸ hi)).symm⟩
theorem EqF.same {F G : Fr} (h : EqF F G) : frSame F G = true := frSame_of h.w h.h h.y h.u h.v h.Y h.U h.V

/-- Samples are bytes. -/
structure BdF (F : Fr) : Prop where
  Y : ∀ i, i < F.nY → 0 ≤ F.Y i ∧ F.Y i < 256
  U : ∀ i, i < F.nU → 0 ≤ F.U i ∧ F.U i < 256
  V : ∀ i, i < F.nV → 0 ≤ F.V i ∧ F.V i < 256

theorem ite_same {c : Prop} [Decidable c] {α : Type} (x : α) : (if c then x else x) = x := by split <;> rfl
theorem mix_eq {F G F' G' : Fr} {n d : Int} (hp : pairOk F G = true) (h : EqF F F') (k : EqF G G') : EqF (mixFr n d F G) (mixFr n d F' G') := by
  obtain ⟨_, _, _, _, e3, e4, e5⟩ := pair_dims hp
  refine ⟨h.w, h.h, h.y, h.u, h.v, fun i hi => ?_, fun i hi => ?_, fun i hi => ?_⟩
  · show blend1 n d (F.Y i) (G.Y i) = blend1 n d (F'.Y i) (G'.Y i)
    rw [h.Y i hi, k.Y i (by have : i < F.nY := hi; omega)]
  · show blend1 n d (F.U i) (G.U i) = blend1 n d (F'.U i) (G'.U i)
    rw [h.U i hi, k.U i (by have : i < F.nU := hi; omega)]
  · show blend1 n d (F.V i) (G.V i) = blend1 n d (F'.V i) (G'.V i)
    rw [h.V i hi, k.V i (by have : i < F.nV := hi; omega)]
theorem wipeF_at {W H d n m : Int} {X Y X' Y' : Nat → Int} {i : Nat} (hx : X i = X' i) (hy : Y i = Y' i) : wipeF W H d n m X Y i = wipeF W H d n m X' Y' i := by
  unfold wipeF
  rw [hx, hy]
theorem wipe_eq {F G F' G' : Fr} {n m d : Int} (hp : pairOk F G = true) (h : EqF F F') (k : EqF G G') : EqF (wipeFr n m d F G) (wipeFr n m d F' G') := by
  obtain ⟨_, _, _, _, e3, e4, e5⟩ := pair_dims hp
  refine ⟨h.w, h.h, h.y, h.u, h.v, fun i hi => ?_, fun i hi => ?_, fun i hi => ?_⟩
  · show wipeF F.W F.H d n m F.Y G.Y i = wipeF F'.W F'.H d n m F'.Y G'.Y i
    rw [← h.w, ← h.h]
    exact wipeF_at (h.Y i hi) (k.Y i (by have : i < F.nY := hi; omega))
  · show wipeF (F.W / 2) (F.H / 2) d n m F.U G.U i = wipeF (F'.W / 2) (F'.H / 2) d n m F'.U G'.U i
    rw [← h.w, ← h.h]
    exact wipeF_at (h.U i hi) (k.U i (by have : i < F.nU := hi; omega))
  · show wipeF (F.W / 2) (F.H / 2) d n m F.V G.V i = wipeF (F'.W / 2) (F'.H / 2) d n m F'.V G'.V i
    rw [← h.w, ← h.h]
    exact wipeF_at (h.V i hi) (k.V i (by have : i < F.nV := hi; omega))
theorem keyMean_eq {F F' : Fr} (hF : F.ok = true) (h : EqF F F') {i : Nat} (hi : i < F.nU) : keyMean F.W F.Y i = keyMean F'.W F'.Y i := by
  have hc := (corner_lt hF hi).1
  unfold keyMean
  rw [← h.w, ← h.Y _ (by omega), ← h.Y _ (by omega), ← h.Y _ (by omega), ← h.Y _ (by omega)]
theorem key_eq {F G F' G' : Fr} {t : Int} (hp : pairOk F G = true) (h : EqF F F') (k : EqF G G') : EqF (keyFr t F G) (keyFr t F' G') := by
  obtain ⟨hF, _, _, _, e3, e4, e5⟩ := pair_dims hp
  have e := (ok_bd hF).2.2.2.2
  refine ⟨h.w, h.h, h.y, h.u, h.v, fun i hi => ?_, fun i hi => ?_, fun i hi => ?_⟩
  · show keyY t F.Y G.Y i = keyY t F'.Y G'.Y i
    unfold keyY
    rw [h.Y i hi, k.Y i (by have : i < F.nY := hi; omega)]
  · show keyC t F.W F.Y F.U G.U i = keyC t F'.W F'.Y F'.U G'.U i
    unfold keyC
    rw [keyMean_eq hF h hi, h.U i hi, k.U i (by have : i < F.nU := hi; omega)]
  · show keyC t F.W F.Y F.V G.V i = keyC t F'.W F'.Y F'.V G'.V i
    unfold keyC
    rw [keyMean_eq hF h (by have : i < F.nV := hi; omega), h.V i hi, k.V i (by have : i < F.nV := hi; omega)]
theorem title_eq {F F' : Fr} (s : Nat → Int) (n : Nat) (h : EqF F F') : EqF (titleFr (titleL F s n) F) (titleFr (titleL F' s n) F') := by
  have hL : titleL F s n = titleL F' s n := by unfold titleL; rw [h.w, h.h]
  rw [← hL]
  refine ⟨h.w, h.h, h.y, h.u, h.v, fun i hi => ?_, fun i hi => ?_, fun i hi => ?_⟩
  · show pY F.W.toNat _ F.Y i = pY F'.W.toNat _ F'.Y i
    unfold pY
    rw [← h.w, h.Y i hi]
  · show pC F.W.toNat _ F.U i = pC F'.W.toNat _ F'.U i
    unfold pC
    rw [← h.w, h.U i hi]
  · show pC F.W.toNat _ F.V i = pC F'.W.toNat _ F'.V i
    unfold pC
    rw [← h.w, h.V i hi]

theorem mixFr_bd {F G : Fr} {n d : Int} : BdF (mixFr n d F G) := ⟨fun i _ => blend1_lt _ _ _ _, fun i _ => blend1_lt _ _ _ _, fun i _ => blend1_lt _ _ _ _⟩
theorem wipeF_bd {W H d n m : Int} {X Y : Nat → Int} {i : Nat} (hx : 0 ≤ X i ∧ X i < 256) (hy : 0 ≤ Y i ∧ Y i < 256) : 0 ≤ wipeF W H d n m X Y i ∧ wipeF W H d n m X Y i < 256 := by
  unfold wipeF
  split <;> assumption
theorem wipeFr_bd {F G : Fr} {n m d : Int} (hp : pairOk F G = true) (h : BdF F) (k : BdF G) : BdF (wipeFr n m d F G) := by
  obtain ⟨_, _, _, _, e3, e4, e5⟩ := pair_dims hp
  exact ⟨fun i hi => wipeF_bd (h.Y i hi) (k.Y i (by have : i < F.nY := hi; omega)), fun i hi => wipeF_bd (h.U i hi) (k.U i (by have : i < F.nU := hi; omega)), fun i hi => wipeF_bd (h.V i hi) (k.V i (by have : i < F.nV := hi; omega))⟩
theorem keyFr_bd {F G : Fr} {t : Int} (hp : pairOk F G = true) (h : BdF F) (k : BdF G) : BdF (keyFr t F G) := by
  obtain ⟨_, _, _, _, e3, e4, e5⟩ := pair_dims hp
  exact ⟨keyY_bd (n := F.nY) h.Y (fun i hi => k.Y i (by omega)), keyC_bd (n := F.nU) h.U (fun i hi => k.U i (by omega)), keyC_bd (n := F.nV) h.V (fun i hi => k.V i (by omega))⟩
theorem titleFr_bd {F : Fr} {L : List (Nat × Nat)} (h : BdF F) : BdF (titleFr L F) := ⟨pY_bd h.Y, pC_bd h.U, pC_bd h.V⟩

theorem okFld_cases {f : Fld} (h : okFld f = true) : (f.op = 0 ∧ f.n = 0) ∨ (f.op = 1 ∧ f.n = 0) ∨ ((f.op = 2 ∨ f.op = 3 ∨ f.op = 4) ∧ f.n = 2) ∨ (f.op = 5 ∧ f.n = 1) := by
  obtain ⟨h0, h5, hn⟩ := okFld_n h
  split at hn
  · omega
  · split at hn <;> omega

section
variable {P : Nat → Pic} {m : Nat} (hP : FindOK P m)
include hP
omit hP in
/-- The frame of a node with arguments, with no error in sight. -/
theorem ev2 {f : Fld} {a : Nat → Ex} (hf : okFld f = true) (ho : f.op = 2 ∨ f.op = 3 ∨ f.op = 4) (h0 : (evX P m 16 16 (a 0)).1 = 0 ∧ Fr16 (evX P m 16 16 (a 0)).2) (h1 : (evX P m 16 16 (a 1)).1 = 0 ∧ Fr16 (evX P m 16 16 (a 1)).2) :
    (evX P m 16 16 (.mk f a)).2 = if f.op = 2 then mixFr f.num f.den (evX P m 16 16 (a 0)).2 (evX P m 16 16 (a 1)).2 else if f.op = 3 then wipeFr f.num f.den f.par (evX P m 16 16 (a 0)).2 (evX P m 16 16 (a 1)).2 else keyFr f.par (evX P m 16 16 (a 0)).2 (evX P m 16 16 (a 1)).2 := by
  obtain ⟨a1, a2⟩ := h0
  obtain ⟨b1, b2⟩ := h1
  rcases ho with ho | ho | ho
  · rw [evX_2 ho a1 b1, if_pos ho]
    unfold mixR
    rw [a2.pair b2, okFld_share hf (Or.inl ho)]
    rfl
  · rw [evX_3 ho a1 b1, if_neg (by omega), if_pos ho]
    unfold wipeR
    rw [a2.pair b2, okFld_share hf (Or.inr ho), okFld_dir hf ho]
    rfl
  · rw [evX_4 ho a1 b1, if_neg (by omega), if_neg (by omega)]
    unfold keyR
    rw [a2.pair b2, okFld_thr hf ho]
    rfl
omit hP in
theorem ev1 {f : Fld} {a : Nat → Ex} (hf : okFld f = true) (ho : f.op = 5) (h0 : (evX P m 16 16 (a 0)).1 = 0 ∧ Fr16 (evX P m 16 16 (a 0)).2) :
    (evX P m 16 16 (.mk f a)).2 = titleFr (titleL (evX P m 16 16 (a 0)).2 (sB f.text) f.text.size) (evX P m 16 16 (a 0)).2 := by
  rw [evX_5 ho h0.1]
  unfold titleR
  rw [h0.2.1, okFld_text hf ho]
  rfl
theorem ev_bd (hB : ∀ i, i < m → BdF (P i).fr) : ∀ X : Ex, okX X = true → GoodX X → BdF (evX P m 16 16 X).2 := by
  intro X
  induction X with
  | nil => intro h; simp [okX] at h
  | mk f a ih =>
    intro h hg
    obtain ⟨hf, hs⟩ := okX_f h
    have hsub := fun i hi => ev_good hP (a i) (hs i hi) (hg.2 i hi)
    rcases okFld_cases hf with ⟨ho, hn⟩ | ⟨ho, hn⟩ | ⟨ho, hn⟩ | ⟨ho, hn⟩
    · rw [evX_0 ho]
      exact ⟨fun i _ => by simp [blackFr], fun i _ => by simp [blackFr], fun i _ => by simp [blackFr]⟩
    · obtain ⟨d, n, hd, hn', e1, e2⟩ := hg.1 ho
      obtain ⟨j, hj, hF⟩ := hP d n hd hn'
      rw [evX_1 ho (i := j) (by rw [e1, e2]; exact hj)]
      exact hB j (findP_lt hj).1
    · have a0 := hsub 0 (by omega)
      have a1 := hsub 1 (by omega)
      have b0 := ih 0 (hs 0 (by omega)) (hg.2 0 (by omega))
      have b1 := ih 1 (hs 1 (by omega)) (hg.2 1 (by omega))
      rw [ev2 hf ho a0 a1]
      split
      · exact mixFr_bd
      · split
        · exact wipeFr_bd (a0.2.pair a1.2) b0 b1
        · exact keyFr_bd (a0.2.pair a1.2) b0 b1
    · rw [ev1 hf ho (hsub 0 (by omega))]
      exact titleFr_bd (ih 0 (hs 0 (by omega)) (hg.2 0 (by omega)))
/-- Arguments that look alike give frames that look alike. -/
theorem ev_node {f : Fld} {a b : Nat → Ex} (h : okX (.mk f a) = true) (hg : GoodX (.mk f a)) (hb : ∀ i, i < f.n → okX (b i) = true ∧ GoodX (b i) ∧ EqF (evX P m 16 16 (a i)).2 (evX P m 16 16 (b i)).2) :
    EqF (evX P m 16 16 (.mk f a)).2 (evX P m 16 16 (.mk f b)).2 := by
  obtain ⟨hf, hs⟩ := okX_f h
  have hsa := fun i hi => ev_good hP (a i) (hs i hi) (hg.2 i hi)
  have hsb := fun i hi => ev_good hP (b i) (hb i hi).1 (hb i hi).2.1
  rcases okFld_cases hf with ⟨ho, hn⟩ | ⟨ho, hn⟩ | ⟨ho, hn⟩ | ⟨ho, hn⟩
  · rw [evX_0 ho, evX_0 ho]
    exact EqF.refl _
  · obtain ⟨d, n, hd, hn', e1, e2⟩ := hg.1 ho
    obtain ⟨j, hj, hF⟩ := hP d n hd hn'
    rw [evX_1 ho (i := j) (by rw [e1, e2]; exact hj), evX_1 ho (i := j) (by rw [e1, e2]; exact hj)]
    exact EqF.refl _
  · have a0 := hsa 0 (by omega)
    have a1 := hsa 1 (by omega)
    rw [ev2 hf ho a0 a1, ev2 hf ho (hsb 0 (by omega)) (hsb 1 (by omega))]
    have h0 := (hb 0 (by omega)).2.2
    have h1 := (hb 1 (by omega)).2.2
    split
    · exact mix_eq (a0.2.pair a1.2) h0 h1
    · split
      · exact wipe_eq (a0.2.pair a1.2) h0 h1
      · exact key_eq (a0.2.pair a1.2) h0 h1
  · rw [ev1 hf ho (hsa 0 (by omega)), ev1 hf ho (hsb 0 (by omega))]
    exact title_eq _ _ (hb 0 (by omega)).2.2
theorem same_ev : ∀ X Y : Ex, sameX X Y = true → okX X = true → GoodX X → okX Y = true → GoodX Y → EqF (evX P m 16 16 X).2 (evX P m 16 16 Y).2 := by
  intro X
  induction X with
  | nil => intro Y h; simp [sameX] at h
  | mk f a ih =>
    intro Y h hX hgX hY hgY
    cases Y with
    | nil => simp [sameX] at h
    | mk g b =>
      simp only [sameX, Bool.and_eq_true, decide_eq_true_eq, List.all_eq_true, List.mem_range] at h
      obtain ⟨⟨hfg, hn⟩, hsub⟩ := h
      have e : f = g := by
        obtain ⟨e1, e2, e3, e4, e5, e6, e7⟩ := hfg
        cases f
        cases g
        simp_all
      subst e
      obtain ⟨hf, hs⟩ := okX_f hX
      obtain ⟨_, hs'⟩ := okX_f hY
      exact ev_node hP hX hgX fun i hi => ⟨hs' i hi, hgY.2 i hi, ih i (b i) (hsub i hi) (hs i hi) (hgX.2 i hi) (hs' i hi) (hgY.2 i hi)⟩

omit hP in
theorem black_mean (i : Nat) : keyMean 16 (fun _ => 16) i = 16 := by simp [keyMean]
omit hP in
theorem key_black {G : Fr} {t : Int} (hG : Fr16 G) : EqF (keyFr t (blackFr 16 16) G) (if 16 < t then G else blackFr 16 16) := by
  have hp : pairOk (blackFr 16 16) G = true := Fr16.pair ⟨by decide, rfl, rfl⟩ hG
  obtain ⟨_, _, e1, e2, e3, e4, e5⟩ := pair_dims hp
  split
  · rename_i ht
    refine ⟨e1, e2, e3.symm, e4.symm, e5.symm, fun i _ => if_neg (show ¬ t ≤ 16 by omega), fun i _ => ?_, fun i _ => ?_⟩
    · show (if t ≤ keyMean 16 (fun _ => 16) i then _ else _) = _
      rw [black_mean, if_neg (by omega)]
    · show (if t ≤ keyMean 16 (fun _ => 16) i then _ else _) = _
      rw [black_mean, if_neg (by omega)]
  · rename_i ht
    refine ⟨rfl, rfl, rfl, rfl, rfl, fun i _ => if_pos (show t ≤ 16 by omega), fun i _ => ?_, fun i _ => ?_⟩
    · show (if t ≤ keyMean 16 (fun _ => 16) i then _ else _) = _
      rw [black_mean, if_pos (by omega)]
    · show (if t ≤ keyMean 16 (fun _ => 16) i then _ else _) = _
      rw [black_mean, if_pos (by omega)]

theorem red_ev (hB : ∀ i, i < m → BdF (P i).fr) (X : Ex) (h : okX X = true) (hg : GoodX X) : okX (redX X) = true ∧ GoodX (redX X) ∧ EqF (evX P m 16 16 (redX X)).2 (evX P m 16 16 X).2 := by
  cases X with
  | nil => simp [okX] at h
  | mk f a =>
    obtain ⟨hf, hs⟩ := okX_f h
    have hsub := fun i hi => ev_good hP (a i) (hs i hi) (hg.2 i hi)
    rw [redX_mk]
    by_cases hn : f.n = 2
    · rw [if_neg (by simpa using hn)]
      have ho : f.op = 2 ∨ f.op = 3 ∨ f.op = 4 := by rcases okFld_cases hf with h | h | h | h <;> omega
      have a0 := hsub 0 (by omega)
      have a1 := hsub 1 (by omega)
      split
      · rename_i hsame
        refine ⟨hs 0 (by omega), hg.2 0 (by omega), ?_⟩
        have he := same_ev hP _ _ hsame (hs 0 (by omega)) (hg.2 0 (by omega)) (hs 1 (by omega)) (hg.2 1 (by omega))
        have hb := ev_bd hP hB (a 0) (hs 0 (by omega)) (hg.2 0 (by omega))
        have hp := a0.2.pair a0.2
        rw [ev2 hf ho a0 a1]
        refine EqF.symm ?_
        split
        · rename_i h2
          have hd : 1 ≤ f.den := by have := okFld_share hf (Or.inl h2); simp [okShare] at this; omega
          refine EqF.trans (EqF.symm (mix_eq hp (EqF.refl _) he)) ⟨rfl, rfl, rfl, rfl, rfl, fun i hi => blend_same hd (hb.Y i hi).1 (hb.Y i hi).2, fun i hi => blend_same hd (hb.U i hi).1 (hb.U i hi).2, fun i hi => blend_same hd (hb.V i hi).1 (hb.V i hi).2⟩
        · split
          · refine EqF.trans (EqF.symm (wipe_eq hp (EqF.refl _) he)) ⟨rfl, rfl, rfl, rfl, rfl, fun i hi => ?_, fun i hi => ?_, fun i hi => ?_⟩
            all_goals
              show wipeF _ _ _ _ _ _ _ i = _
              unfold wipeF
              exact ite_same _
          · refine EqF.trans (EqF.symm (key_eq hp (EqF.refl _) he)) ⟨rfl, rfl, rfl, rfl, rfl, fun i hi => ?_, fun i hi => ?_, fun i hi => ?_⟩
            · show keyY _ _ _ i = _
              unfold keyY
              exact ite_same _
            · show keyC _ _ _ _ _ i = _
              unfold keyC
              exact ite_same _
            · show keyC _ _ _ _ _ i = _
              unfold keyC
              exact ite_same _
      · split
        · rename_i hk
          have e0 : (evX P m 16 16 (a 0)).2 = blackFr 16 16 := by
            cases ha : a 0 with
            | nil => have := hs 0 (by omega); rw [ha] at this; simp [okX] at this
            | mk f0 b0 => rw [evX_0 (by have := hk.2; rw [ha] at this; exact this)]
          have hev : (evX P m 16 16 (.mk f a)).2 = keyFr f.par (blackFr 16 16) (evX P m 16 16 (a 1)).2 := by
            rw [ev2 hf ho a0 a1, if_neg (by omega), if_neg (by omega), e0]
          rw [hev]
          have hkb := key_black (t := f.par) a1.2
          split
          · rename_i ht
            rw [if_pos ht] at hkb
            exact ⟨hs 1 (by omega), hg.2 1 (by omega), hkb.symm⟩
          · rename_i ht
            rw [if_neg ht] at hkb
            refine ⟨by decide, ⟨fun h => absurd h (by decide), fun i hi => absurd hi (Nat.not_lt_zero i)⟩, ?_⟩
            unfold zeroX
            rw [evX_0 rfl]
            exact hkb.symm
        · exact ⟨h, hg, EqF.refl _⟩
    · rw [if_pos (by simpa using hn)]
      exact ⟨h, hg, EqF.refl _⟩
theorem simp_ev (hB : ∀ i, i < m → BdF (P i).fr) : ∀ X : Ex, okX X = true → GoodX X → okX (simpX X) = true ∧ GoodX (simpX X) ∧ EqF (evX P m 16 16 (simpX X)).2 (evX P m 16 16 X).2 := by
  intro X
  induction X with
  | nil => intro h; simp [okX] at h
  | mk f a ih =>
    intro h hg
    obtain ⟨hf, hs⟩ := okX_f h
    have hsub := fun i hi => ih i (hs i hi) (hg.2 i hi)
    have h2 : okX (.mk f fun i => simpX (a i)) = true := okX_yes hf fun i hi => (hsub i hi).1
    have g2 : GoodX (.mk f fun i => simpX (a i)) := ⟨hg.1, fun i hi => (hsub i hi).2.1⟩
    obtain ⟨r1, r2, r3⟩ := red_ev hP hB _ h2 g2
    unfold simpX
    exact ⟨r1, r2, r3.trans (ev_node hP h2 g2 fun i hi => ⟨hs i hi, hg.2 i hi, (hsub i hi).2.2⟩)⟩
end

end Go.Proofs.Ytnnobdcbmagbaaa

/- denote.Same of expressions: the same fields, the same arguments. -/
namespace Go.Proofs.Ytnnobdcbmagbaaa
open Go.RowKit
set_option linter.unusedVariables false

def allS (a b : Nat → Ex) (n : Nat) : Bool := (List.range n).all fun i => sameX (a i) (b i)
theorem allS_yes {a b : Nat → Ex} {n : Nat} (h : ∀ i, i < n → sameX (a i) (b i) = true) : allS a b n = true := by
  simp only [allS, List.all_eq_true, List.mem_range]
  exact h
theorem allS_no {a b : Nat → Ex} {n k : Nat} (hk : k < n) (h : sameX (a k) (b k) = false) : allS a b n = false := by
  simp only [allS, List.all_eq_false]
  exact ⟨k, List.mem_range.2 hk, by rw [h]; decide⟩

set_option maxRecDepth 100000 in
set_option maxHeartbeats 4000000 in
theorem eqfunc_any (n m : Nat) (ao ao2 : Option Addr) (c c2 : Nat) (a a2 : Nat → Ex) (g g2 : Nat → Value) (w : World) (hn : n ≤ 9223372036854775807) (hm : m ≤ 9223372036854775807) (hc : n ≤ c) (hc2 : m ≤ c2)
    (hcell : ∀ i, i < n → ∃ b o, ao = some ⟨b, o, none⟩ ∧ C8 w b (o + i * 8) (a i).f (g i)) (hcell2 : ∀ i, i < m → ∃ b o, ao2 = some ⟨b, o, none⟩ ∧ C8 w b (o + i * 8) (a2 i).f (g2 i))
    (hsub : ∀ i, i < n → XA w ((a i).f.val (g i)) (a i)) (hsub2 : ∀ i, i < m → XA w ((a2 i).f.val (g2 i)) (a2 i))
    (ih : ∀ i, i < n → ∀ w', Below w.heap.size w w' → ∀ u Y, XA w' u Y → Calls Try.prog 81 #[(a i).f.val (g i), u] w' fun e w'' => e = .returned (.bool (sameX (a i) Y)) ∧ Below w'.heap.size w' w'') :
    Calls Try.prog 83 #[.slice ao n c, .slice ao2 m c2, .func (.func 81) #[] #[]] w fun e w' => e = .returned (.bool (decide (n = m) && allS a a2 n)) ∧ Below w.heap.size w w' := by
  go_enter Try.func83, Try.ntmps83
  by_cases e : n = m
  rotate_left
  · have e' : ((n : Int) == (m : Int)) = false := by simp; omega
    go_wp2_with fail
    go_ret
    exact ⟨ret_bool (by simp [e]), Below.refl _ _⟩
  subst e
  go_wp2_with fail
  go_loopw [17] (fun i wr => ∃ k : Nat, k ≤ n ∧ i = .int .i64 (k : Int) ∧ Below w.heap.size w wr ∧ Hid (∀ i, i < k → sameX (a i) (a2 i) = true)) (fun i _ => n - (intOf i).toNat)
  case atStart => exact ⟨0, Nat.zero_le _, rfl, Below.refl _ _, Lib.hid (fun i hi => absurd hi (Nat.not_lt_zero i))⟩
  case round =>
    obtain ⟨k, hk, rfl, hb, HA⟩ := hrel
    by_cases hlt : k < n
    · obtain ⟨b, o, rfl, hC⟩ := hcell k hlt
      obtain ⟨b2, o2, rfl, hC2⟩ := hcell2 k hlt
      obtain ⟨c0, c1, c2, c3, c4, c5, c6, c7⟩ := hC.below hb
      obtain ⟨d0, d1, d2, d3, d4, d5, d6, d7⟩ := hC2.below hb
      obtain ⟨sa, sc, hg⟩ := (hsub k hlt).slice
      obtain ⟨sb, sd, hg2⟩ := (hsub2 k hlt).slice
      have HX2 := hsub2 k hlt
      have HI := ih k hlt
      rw [hg] at c7 HI
      rw [hg2] at d7 HX2
      unfold Fld.val at HI HX2
      clear hC hC2
      obtain ⟨E, hE⟩ : ∃ E, E = a k := ⟨_, rfl⟩
      obtain ⟨E2, hE2⟩ : ∃ E, E = a2 k := ⟨_, rfl⟩
      rw [← hE] at c0 c1 c2 c3 c4 c5 c6 c7 HI
      rw [← hE2] at d0 d1 d2 d3 d4 d5 d6 d7 HX2
      have HNo := Lib.hid (fun (h : sameX E E2 = false) => allS_no (a := a) (b := a2) hlt (by rw [← hE, ← hE2]; exact h))
      have HYs := Lib.hid (fun (h : sameX E E2 = true) => (show ∀ i, i < k + 1 → sameX (a i) (a2 i) = true from fun i hi => by
        by_cases e : i = k
        · subst e; rw [← hE, ← hE2]; exact h
        · exact HA.out i (by omega)))
      have HX2' := Lib.hid (HX2.bel hb)
      clear hE hE2 hg hg2 HX2
      go_upto_region 6 with fail
      obtain ⟨w2, hw2⟩ : ∃ x, x = wr.alloc (.cells #[.int .i64 E.f.op, .string E.f.media, .int .i64 E.f.frame, .int .i64 E.f.num, .int .i64 E.f.den, .int .i64 E.f.par, .string E.f.text, .slice sa E.f.n sc] 58) := ⟨_, rfl⟩
      rw [← hw2]
      obtain ⟨g2, hg2⟩ : ∃ g, g = wr.heap.size := ⟨_, rfl⟩
      have hb2 : Below wr.heap.size wr w2 := by rw [hw2]; exact below_box _ _
      have B2 : B8 w2 g2 E.f (.slice sa E.f.n sc) := by rw [hw2, hg2]; exact B8.of_alloc wr _ E.f _ 58 rfl
      rw [← hg2]
      have hbw2 : Below w.heap.size w w2 := hb.trans (hb2.mono hb.size)
      replace HX2' := Lib.hid (HX2'.out.bel hb2)
      have D2 := C8.below (b := b2) (p := o2 + k * 8) (f := E2.f) (s := .slice sb E2.f.n sd) ⟨d0, d1, d2, d3, d4, d5, d6, d7⟩ hb2
      clear c0 c1 c2 c3 c4 c5 c6 c7 d0 d1 d2 d3 d4 d5 d6 d7 hw2 hg2
      obtain ⟨d0, d1, d2, d3, d4, d5, d6, d7⟩ := D2
      go_upto_region 7 with fail
      obtain ⟨w3, hw3⟩ : ∃ x, x = w2.alloc (.cells #[.int .i64 E2.f.op, .string E2.f.media, .int .i64 E2.f.frame, .int .i64 E2.f.num, .int .i64 E2.f.den, .int .i64 E2.f.par, .string E2.f.text, .slice sb E2.f.n sd] 58) := ⟨_, rfl⟩
      rw [← hw3]
      obtain ⟨g3, hg3⟩ : ∃ g, g = w2.heap.size := ⟨_, rfl⟩
      have hb3 : Below w2.heap.size w2 w3 := by rw [hw3]; exact below_box _ _
      have B3 : B8 w3 g3 E2.f (.slice sb E2.f.n sd) := by rw [hw3, hg3]; exact B8.of_alloc w2 _ E2.f _ 58 rfl
      rw [← hg3]
      replace HX2' := Lib.hid (HX2'.out.bel hb3)
      have hbw3 := Lib.hid (hbw2.trans (hb3.mono hbw2.size))
      obtain ⟨c0, c1, c2, c3, c4, c5, c6, c7⟩ := B2.below hb3
      clear d0 d1 d2 d3 d4 d5 d6 d7 hw3 hg3 B2 hb2 hb3 hbw2 hb
      obtain ⟨d0, d1, d2, d3, d4, d5, d6, d7⟩ := B3
      go_wp2_with fail
      refine (HI w3 hbw3.out _ E2 HX2'.out).mono ?_
      rintro e w4 ⟨rfl, hb4⟩
      have HB4 := Lib.hid (hbw3.out.trans (hb4.mono hbw3.out.size))
      clear hb4 HI c0 c1 c2 c3 c4 c5 c6 c7 d0 d1 d2 d3 d4 d5 d6 d7
      by_cases hx : sameX E E2 = true
      · have HC := Lib.hid (HYs.out hx)
        rw [hx]
        clear hx
        go_wp2_with fail
        refine ⟨⟨k + 1, by omega, by go_num, HB4.out, HC⟩, ?_⟩
        simp [intOf]
        omega
      · have hx' : sameX E E2 = false := by simpa using hx
        have HN := Lib.hid (HNo.out hx')
        rw [hx']
        clear hx
        go_wp2_with fail
        go_ret
        exact ⟨ret_bool (by simp [HN.out]), HB4.out⟩
    · obtain rfl : k = n := by omega
      have HY := Lib.hid (allS_yes HA.out)
      go_wp2_with fail
      go_ret
      exact ⟨ret_bool (by simp [HY.out]), hb⟩

set_option maxRecDepth 100000 in
set_option maxHeartbeats 4000000 in
theorem xsame_any {w0 : World} {v : Value} {X : Ex} (h : XA w0 v X) : ∀ w, Below w0.heap.size w0 w → ∀ u Y, XA w u Y →
    Calls Try.prog 81 #[v, u] w fun e w' => e = .returned (.bool (sameX X Y)) ∧ Below w.heap.size w w' := by
  induction h with
  | mk f a ao c g hf hc hcell hsub ih =>
    intro w hw u Y hY
    cases hY with
    | mk f2 a2 ao2 c2 g2 hf2 hc2 hcell2 hsub2 =>
      have EQ := fun (w2 : World) (h2 : Below w.heap.size w w2) => eqfunc_any f.n f2.n ao ao2 c c2 a a2 g g2 w2 hf.n hf2.n hc hc2
        (fun i hi => by obtain ⟨b, o, e, hC⟩ := hcell i hi; exact ⟨b, o, e, ((C8.of hC).below hw).below (h2.mono (Nat.le_refl _))⟩)
        (fun i hi => by obtain ⟨b, o, e, hC⟩ := hcell2 i hi; exact ⟨b, o, e, (C8.of hC).below h2⟩)
        (fun i hi => ((hsub i hi).bel hw).bel h2) (fun i hi => (hsub2 i hi).bel h2)
        (fun i hi w' hb u Y hY => ih i hi w' ((hw.trans (h2.mono hw.size)).trans (hb.mono (Nat.le_trans hw.size h2.size))) u Y hY)
      have HEQ := Lib.hid EQ
      clear EQ ih hcell hcell2 hsub hsub2
      unfold Fld.val
      have hX : sameX (.mk f a) (.mk f2 a2) = (decide (sameF f f2) && decide (f.n = f2.n) && allS a a2 f.n) := rfl
      rw [hX]
      have HNO := Lib.hid (show ¬ sameF f f2 → false = (decide (sameF f f2) && decide (f.n = f2.n) && allS a a2 f.n) from fun h => by simp [h])
      have HYE := Lib.hid (show sameF f f2 → (decide (f.n = f2.n) && allS a a2 f.n) = (decide (sameF f f2) && decide (f.n = f2.n) && allS a a2 f.n) from fun h => by simp [h])
      obtain ⟨RES, hRES⟩ : ∃ r, r = (decide (sameF f f2) && decide (f.n = f2.n) && allS a a2 f.n) := ⟨_, rfl⟩
      rw [← hRES] at HNO HYE ⊢
      clear hRES hX
      go_enter Try.func81, Try.ntmps81
      go_upto_region 1 with fail
      obtain ⟨w1, hw1⟩ : ∃ x, x = w.alloc (.cells #[.int .i64 f.op, .string f.media, .int .i64 f.frame, .int .i64 f.num, .int .i64 f.den, .int .i64 f.par, .string f.text, .slice ao f.n c] 58) := ⟨_, rfl⟩
      rw [← hw1]
      obtain ⟨b1, hb1⟩ : ∃ g, g = w.heap.size := ⟨_, rfl⟩
      have hz1 : w1.heap.size = w.heap.size + 1 := by rw [hw1]; simp [go_sem]
      have E1 : Below w.heap.size w w1 := by rw [hw1]; exact below_box _ _
      have B1 : B8 w1 b1 f (.slice ao f.n c) := by rw [hw1, hb1]; exact B8.of_alloc w _ f _ 58 rfl
      clear hw1
      obtain ⟨w2, hw2⟩ : ∃ x, x = w1.alloc (.cells #[.int .i64 f2.op, .string f2.media, .int .i64 f2.frame, .int .i64 f2.num, .int .i64 f2.den, .int .i64 f2.par, .string f2.text, .slice ao2 f2.n c2] 58) := ⟨_, rfl⟩
      rw [← hw2]
      obtain ⟨b2, hb2⟩ : ∃ g, g = w.heap.size + 1 := ⟨_, rfl⟩
      have E2 : Below w1.heap.size w1 w2 := by rw [hw2]; exact below_box _ _
      have B2 : B8 w2 b2 f2 (.slice ao2 f2.n c2) := by rw [hw2, hb2, ← hz1]; exact B8.of_alloc w1 _ f2 _ 58 rfl
      rw [← hb2, ← hb1]
      have hB := E1.trans (E2.mono E1.size)
      have HB := Lib.hid hB
      obtain ⟨c0, c1, c2', c3, c4, c5, c6, c7⟩ := B1.below E2
      obtain ⟨d0, d1, d2, d3, d4, d5, d6, d7⟩ := B2
      clear hw2 E1 E2 B1 hB hb1 hb2 hz1
      by_cases e0 : f.op = f2.op
      rotate_left
      · have e' : (f.op == f2.op) = false := by simpa using e0
        have hno := Lib.hid (HNO.out (fun h => e0 h.1))
        go_wp2_with fail
        go_ret
        exact ⟨ret_bool hno.out, HB.out⟩
      by_cases e1 : f.media = f2.media
      rotate_left
      · have e' : ¬ f.media.toList = f2.media.toList := fun h => e1 (str_inj h)
        have e'' : decide (f.media.toList = f2.media.toList) = false := by simpa using e'
        have e3' : decide (f.media = f2.media) = false := by simpa using e1
        have hno := Lib.hid (HNO.out (fun h => e1 h.2.1))
        go_wp2_with fail
        go_ret
        exact ⟨ret_bool hno.out, HB.out⟩
      by_cases e2 : f.frame = f2.frame
      rotate_left
      · have e' : (f.frame == f2.frame) = false := by simpa using e2
        have hno := Lib.hid (HNO.out (fun h => e2 h.2.2.1))
        go_wp2_with fail
        go_ret
        exact ⟨ret_bool hno.out, HB.out⟩
      by_cases e3 : f.num = f2.num
      rotate_left
      · have e' : (f.num == f2.num) = false := by simpa using e3
        have hno := Lib.hid (HNO.out (fun h => e3 h.2.2.2.1))
        go_wp2_with fail
        go_ret
        exact ⟨ret_bool hno.out, HB.out⟩
      by_cases e4 : f.den = f2.den
      rotate_left
      · have e' : (f.den == f2.den) = false := by simpa using e4
        have hno := Lib.hid (HNO.out (fun h => e4 h.2.2.2.2.1))
        go_wp2_with fail
        go_ret
        exact ⟨ret_bool hno.out, HB.out⟩
      by_cases e5 : f.par = f2.par
      rotate_left
      · have e' : (f.par == f2.par) = false := by simpa using e5
        have hno := Lib.hid (HNO.out (fun h => e5 h.2.2.2.2.2.1))
        go_wp2_with fail
        go_ret
        exact ⟨ret_bool hno.out, HB.out⟩
      by_cases e6 : f.text = f2.text
      rotate_left
      · have e' : ¬ f.text.toList = f2.text.toList := fun h => e6 (str_inj h)
        have e'' : decide (f.text.toList = f2.text.toList) = false := by simpa using e'
        have e3' : decide (f.text = f2.text) = false := by simpa using e6
        have hno := Lib.hid (HNO.out (fun h => e6 h.2.2.2.2.2.2))
        go_wp2_with fail
        go_ret
        exact ⟨ret_bool hno.out, HB.out⟩
      have hyes := Lib.hid (HYE.out ⟨e0, e1, e2, e3, e4, e5, e6⟩)
      have q0 : (f.op == f2.op) = true := by simpa using e0
      go_wp2_with fail
      refine (HEQ.out w2 HB.out).mono ?_
      rintro e w3 ⟨rfl, hb3⟩
      have HB3 := Lib.hid (HB.out.trans (hb3.mono HB.out.size))
      clear hb3
      go_wp2_with fail
      go_ret
      exact ⟨ret_bool hyes.out, HB3.out⟩

end Go.Proofs.Ytnnobdcbmagbaaa

/- The contract of denote.reduced. -/
namespace Go.Proofs.Ytnnobdcbmagbaaa
open Go.RowKit
set_option linter.unusedVariables false

theorem Z8.of_alloc (w : World) (b : Nat) (t : TypeId) (h : b = w.heap.size) : Z8 (w.alloc (.cells #[.int .i64 0, .string (⟨#[]⟩ : ByteArray), .int .i64 0, .int .i64 0, .int .i64 0, .int .i64 0, .string (⟨#[]⟩ : ByteArray), .slice none 0 0] t)) b := by
  subst h; constructor <;> simp [go_sem]
def RedPost (w : World) (L : Nat) (X : Ex) (e : Ending) (w' : World) : Prop := ∃ v', e = .returned v' ∧ XL w' L v' X ∧ Below w.heap.size w w'

set_option maxRecDepth 100000 in
set_option maxHeartbeats 4000000 in
theorem red_any (v : Value) (X : Ex) (w : World) (L : Nat) (h : XL w L v X) : Calls Try.prog 76 #[v] w (RedPost w L (redX X)) := by
  cases h with
  | mk f a ao c g hf hc hcell hsub =>
    have HXL := Lib.hid (XL.mk f a ao c g hf hc hcell hsub)
    unfold Fld.val
    go_enter Try.func76, Try.ntmps76
    go_upto_region 1 with fail
    obtain ⟨w1, hw1⟩ : ∃ x, x = w.alloc (.cells #[.int .i64 f.op, .string f.media, .int .i64 f.frame, .int .i64 f.num, .int .i64 f.den, .int .i64 f.par, .string f.text, .slice ao f.n c] 58) := ⟨_, rfl⟩
    rw [← hw1]
    obtain ⟨gp, hgp⟩ : ∃ g, g = w.heap.size := ⟨_, rfl⟩
    have hz1 : w1.heap.size = w.heap.size + 1 := by rw [hw1]; simp [go_sem]
    have E1 : Below w.heap.size w w1 := by rw [hw1]; exact below_box _ _
    have B1 : B8 w1 gp f (.slice ao f.n c) := by rw [hw1, hgp]; exact B8.of_alloc w _ f _ 58 rfl
    clear hw1
    obtain ⟨w2, hw2⟩ : ∃ x, x = w1.alloc (.cells #[.int .i64 0, .string (⟨#[]⟩ : ByteArray), .int .i64 0, .int .i64 0, .int .i64 0, .int .i64 0, .string (⟨#[]⟩ : ByteArray), .slice none 0 0] 58) := ⟨_, rfl⟩
    rw [← hw2]
    obtain ⟨gr, hgr⟩ : ∃ g, g = w.heap.size + 1 := ⟨_, rfl⟩
    have E2 : Below w1.heap.size w1 w2 := by rw [hw2]; exact below_box _ _
    have Z2 : Z8 w2 gr := by rw [hw2, hgr]; exact Z8.of_alloc w1 _ 58 hz1.symm
    rw [← hgr, ← hgp]
    have hne : gr ≠ gp := by omega
    have hgrw : w.heap.size ≤ gr := by omega
    have HB := Lib.hid (E1.trans (E2.mono E1.size))
    have HZ := Lib.hid Z2
    have HP := Lib.hid (B1.below E2)
    have hgpw : gp < w2.heap.size := HP.out.lt
    clear hw2 E1 E2 B1 Z2 hgp hgr hz1
    have hn64 := hf.n
    obtain ⟨b0, b1, b2, b3, b4, b5, b6, b7⟩ := HP.out
    have HR := Lib.hid (redX_mk f a)
    by_cases hn : f.n = 2
    rotate_left
    · have hn' : ((f.n : Int) == 2) = false := by simp; omega
      have hr : redX (.mk f a) = .mk f a := HR.out.trans (by rw [if_pos hn])
      have HRr := Lib.hid hr
      clear hr HR
      obtain ⟨z0, z1, z2, z3, z4, z5, z6, z7, zf⟩ := HZ.out
      go_wp2_with fail
      refine bodyPost_ret (results_cell Try.results76 _ _ _ rfl (load_x (HZ.out.put f (.slice ao f.n c)))) rfl ?_
      have hbz := put8_below w2 (.int .i64 f.op) (.string f.media) (.int .i64 f.frame) (.int .i64 f.num) (.int .i64 f.den) (.int .i64 f.par) (.string f.text) (.slice ao f.n c) hgrw
      exact ⟨_, rfl, by rw [HRr.out]; exact HXL.out.bel (HB.out.trans hbz), HB.out.trans hbz⟩
    have HR' := HR.out
    clear HR
    obtain ⟨b, o, rfl, hLb, hc0⟩ := hcell 0 (by omega)
    obtain ⟨b', o', e, _, hc1⟩ := hcell 1 (by omega)
    simp only [Option.some.injEq, Addr.mk.injEq, and_true] at e
    obtain ⟨rfl, rfl⟩ := e
    have X0 := hsub 0 (by omega)
    have X1 := hsub 1 (by omega)
    obtain ⟨sa, sc, hg0⟩ := X0.XA.slice
    obtain ⟨sb, sd, hg1⟩ := X1.XA.slice
    have C0 : C8 w b (o + 0 * 8) (a 0).f (g 0) := C8.of hc0
    have C1 : C8 w b (o + 1 * 8) (a 1).f (g 1) := C8.of hc1
    rw [hg0] at C0 X0
    rw [hg1] at C1 X1
    obtain ⟨A0, hA0⟩ : ∃ A, A = a 0 := ⟨_, rfl⟩
    obtain ⟨A1, hA1⟩ : ∃ A, A = a 1 := ⟨_, rfl⟩
    rw [if_neg (by simpa using hn), ← hA0, ← hA1] at HR'
    rw [← hA0] at C0 X0
    rw [← hA1] at C1 X1
    rw [Nat.zero_mul, Nat.add_zero] at C0
    rw [Nat.one_mul] at C1
    have HR := Lib.hid HR'
    have HC0 := Lib.hid (C0.below HB.out)
    have HC1 := Lib.hid (C1.below HB.out)
    have HY0 := Lib.hid X0
    have HY1 := Lib.hid X1
    have HX0 := Lib.hid (X0.bel HB.out)
    have HX1 := Lib.hid (X1.bel HB.out)
    have hbw2 : b < w2.heap.size := HC0.out.lt
    clear C0 C1 X0 X1 hg0 hg1 hA0 hA1 HR' hc0 hc1 hcell hsub
    have hn' : ((f.n : Int) == 2) = true := by simp; omega
    go_upto_region 3 with fail
    clear b0 b1 b2 b3 b4 b5 b6 b7
    refine Plan.wp_region_plan (fun wx => Below w2.heap.size w2 wx) (([0, 1, 2, 3, 4, 5, 6, 7].map (·, true)) ++ (([8].map (·, false)))) (by kernel_rfl) (by kernel_rfl) (by kernel_rfl) (Below.refl _ _).drew ?_
    refine' Plan.plan_seg _ [0, 1, 2, 3, 4, 5, 6, 7] (([8].map (·, false))) (by kernel_rfl) (by kernel_rfl) rfl (by exact (Below.refl _ _).drew) (fun wx hS => ?_) ?_
    rotate_left
    · obtain ⟨b0, b1, b2, b3, b4, b5, b6, b7⟩ := HP.out.below hS
      obtain ⟨c0, c1, c2, c3, c4, c5, c6, c7⟩ := HC0.out.below hS
      obtain ⟨d0, d1, d2, d3, d4, d5, d6, d7⟩ := HC1.out.below hS
      clear hS
      go_light
      iterate 8 (apply Plan.seg_pick; rfl; intro K hK; go_wp)
      exact Plan.seg_nil
    obtain ⟨w3, hw3⟩ : ∃ x, x = w2.drew := ⟨_, rfl⟩
    rw [← hw3]
    have hD : Below w2.heap.size w2 w3 := by rw [hw3]; exact (Below.refl _ _).drew
    clear hw3
    refine Plan.plan_of_effect rfl (fun K hK => ?_)
    have HXC := Lib.hid (xsame_any (HX0.out.XA.bel hD) w3 (Below.refl _ _) _ _ (HX1.out.XA.bel hD))
    have HD := Lib.hid hD
    clear hD
    unfold Fld.val at HXC
    go_wp2_with fail
    refine HXC.out.mono ?_
    rintro e w4 ⟨rfl, hb4⟩
    clear HXC
    have hb24 := HD.out.trans (hb4.mono HD.out.size)
    have HD4 := Lib.hid hb24
    clear hb4 HD
    replace HP := Lib.hid (HP.out.below hb24)
    replace HZ := Lib.hid (HZ.out.below hb24)
    replace HC0 := Lib.hid (HC0.out.below hb24)
    replace HC1 := Lib.hid (HC1.out.below hb24)
    replace HX0 := Lib.hid (HX0.out.bel hb24)
    replace HX1 := Lib.hid (HX1.out.bel hb24)
    replace HB := Lib.hid (HB.out.trans (hb24.mono HB.out.size))
    clear hb24
    go_wp2_with fail
    refine ⟨HD4.out, ?_⟩
    refine Plan.plan_done ?_
    by_cases hs : sameX A0 A1 = true
    · rw [hs]
      have hr := HR.out
      rw [if_pos hs] at hr
      have HRr := Lib.hid hr
      clear hs HR hr
      obtain ⟨z0, z1, z2, z3, z4, z5, z6, z7, zf⟩ := HZ.out
      obtain ⟨b0, b1, b2, b3, b4, b5, b6, b7⟩ := HP.out
      obtain ⟨c0, c1, c2, c3, c4, c5, c6, c7⟩ := HC0.out
      go_wp2_with fail
      refine bodyPost_ret (results_cell Try.results76 _ _ _ rfl (load_x (HZ.out.put A0.f (.slice sa A0.f.n sc)))) rfl ?_
      have hbz := put8_below w4 (.int .i64 A0.f.op) (.string A0.f.media) (.int .i64 A0.f.frame) (.int .i64 A0.f.num) (.int .i64 A0.f.den) (.int .i64 A0.f.par) (.string A0.f.text) (.slice sa A0.f.n sc) hgrw
      exact ⟨_, rfl, by rw [HRr.out]; exact HY0.out.bel (HB.out.trans hbz), HB.out.trans hbz⟩
    · have hs' : sameX A0 A1 = false := by simpa using hs
      rw [hs']
      have hr := HR.out
      rw [if_neg hs] at hr
      have HR2 := Lib.hid hr
      clear hs HR hr hs'
      obtain ⟨z0, z1, z2, z3, z4, z5, z6, z7, zf⟩ := HZ.out
      obtain ⟨b0, b1, b2, b3, b4, b5, b6, b7⟩ := HP.out
      obtain ⟨c0, c1, c2, c3, c4, c5, c6, c7⟩ := HC0.out
      obtain ⟨d0, d1, d2, d3, d4, d5, d6, d7⟩ := HC1.out
      by_cases hop : f.op = 4
      · have hop' : (f.op == 4) = true := by simpa using hop
        by_cases h0 : A0.f.op = 0
        · have h0' : (A0.f.op == 0) = true := by simpa using h0
          have hr := HR2.out
          rw [if_pos ⟨hop, h0⟩] at hr
          by_cases ht : 16 < f.par
          · have ht' : decide (16 < f.par) = true := by simpa using ht
            rw [if_pos ht] at hr
            have HRr := Lib.hid hr
            clear hr HR2
            go_wp2_with fail
            refine bodyPost_ret (results_cell Try.results76 _ _ _ rfl (load_x (HZ.out.put A1.f (.slice sb A1.f.n sd)))) rfl ?_
            have hbz := put8_below w4 (.int .i64 A1.f.op) (.string A1.f.media) (.int .i64 A1.f.frame) (.int .i64 A1.f.num) (.int .i64 A1.f.den) (.int .i64 A1.f.par) (.string A1.f.text) (.slice sb A1.f.n sd) hgrw
            exact ⟨_, rfl, by rw [HRr.out]; exact HY1.out.bel (HB.out.trans hbz), HB.out.trans hbz⟩
          · have ht' : decide (16 < f.par) = false := by simpa using ht
            rw [if_neg ht] at hr
            have HRr := Lib.hid hr
            clear hr HR2
            go_wp2_with fail
            have hbz := HB.out.trans (put8_below w4 (.int .i64 0) (.string (⟨#[]⟩ : ByteArray)) (.int .i64 0) (.int .i64 0) (.int .i64 0) (.int .i64 0) (.string (⟨#[]⟩ : ByteArray)) (.slice none 0 0) hgrw)
            refine bodyPost_ret (results_cell Try.results76 _ _ _ rfl (load_x (HZ.out.put ⟨0, (⟨#[]⟩ : ByteArray), 0, 0, 0, 0, (⟨#[]⟩ : ByteArray), 0⟩ (.slice none 0 0)))) rfl ?_
            exact ⟨_, rfl, by rw [HRr.out]; exact XL.mk ⟨0, (⟨#[]⟩ : ByteArray), 0, 0, 0, 0, (⟨#[]⟩ : ByteArray), 0⟩ (fun _ => .nil) none 0 (fun _ => .slice none 0 0) ⟨by decide, by decide, by decide⟩ (Nat.le_refl _) (fun i hi => absurd hi (Nat.not_lt_zero i)) (fun i hi => absurd hi (Nat.not_lt_zero i)), hbz⟩
        · have h0' : (A0.f.op == 0) = false := by simpa using h0
          have hr := HR2.out
          rw [if_neg (fun h => h0 h.2)] at hr
          have HRr := Lib.hid hr
          have hn0 : 1 ≤ f.n := by omega
          clear hr HR2 hop h0 hn hn'
          go_wp2_with fail
          refine bodyPost_ret (results_cell Try.results76 _ _ _ rfl (load_x (HZ.out.put f (.slice (some ⟨b, o, none⟩) f.n c)))) rfl ?_
          have hbz := put8_below w4 (.int .i64 f.op) (.string f.media) (.int .i64 f.frame) (.int .i64 f.num) (.int .i64 f.den) (.int .i64 f.par) (.string f.text) (.slice (some ⟨b, o, none⟩) f.n c) hgrw
          exact ⟨_, rfl, by rw [HRr.out]; exact HXL.out.bel (HB.out.trans hbz), HB.out.trans hbz⟩
      · have hop' : (f.op == 4) = false := by simpa using hop
        have hr := HR2.out
        rw [if_neg (fun h => hop h.1)] at hr
        have HRr := Lib.hid hr
        clear hr HR2 hop hn hn'
        go_wp2_with fail
        refine bodyPost_ret (results_cell Try.results76 _ _ _ rfl (load_x (HZ.out.put f (.slice (some ⟨b, o, none⟩) f.n c)))) rfl ?_
        have hbz := put8_below w4 (.int .i64 f.op) (.string f.media) (.int .i64 f.frame) (.int .i64 f.num) (.int .i64 f.den) (.int .i64 f.par) (.string f.text) (.slice (some ⟨b, o, none⟩) f.n c) hgrw
        exact ⟨_, rfl, by rw [HRr.out]; exact HXL.out.bel (HB.out.trans hbz), HB.out.trans hbz⟩

end Go.Proofs.Ytnnobdcbmagbaaa

/- slices.Clone of a list of at most two expressions. -/
namespace Go.Proofs.Ytnnobdcbmagbaaa
open Go.RowKit
set_option linter.unusedVariables false

def zx8 : Value := .agg #[.int .i64 0, .string ByteArray.empty, .int .i64 0, .int .i64 0, .int .i64 0, .int .i64 0, .string ByteArray.empty, .slice none 0 0]
theorem info58x : (Try.prog.info? 58).map (fun i => (i.zero, i.size, i.bytes)) = some (some zx8, 8, 96) := by kernel_rfl
theorem zeros58x (n : Nat) : Plain (Builtin.zeroCells zx8.cells n).toList ∧ (Builtin.zeroCells zx8.cells n).size = n * 8 := by
  constructor
  · intro u hu q
    simp only [Builtin.zeroCells, Array.toList_map, List.mem_map] at hu
    obtain ⟨i, _, rfl⟩ := hu
    have hs : zx8.cells.size = 8 := rfl
    have h5 : i % zx8.cells.size < 8 := by rw [hs]; omega
    generalize i % zx8.cells.size = j at h5
    have : j = 0 ∨ j = 1 ∨ j = 2 ∨ j = 3 ∨ j = 4 ∨ j = 5 ∨ j = 6 ∨ j = 7 := by omega
    rcases this with rfl | rfl | rfl | rfl | rfl | rfl | rfl | rfl <;> simp [zx8, Value.cells]
  · simp [Builtin.zeroCells, zx8, Value.cells]

def e8 (f : Fld) (s : Value) : List Value := [.int .i64 f.op, .string f.media, .int .i64 f.frame, .int .i64 f.num, .int .i64 f.den, .int .i64 f.par, .string f.text, s]
/-- An element's last cell is a slice. -/
def isSl (s : Value) : Prop := ∃ a n c, s = .slice a n c
theorem e8_plain (f : Fld) {s : Value} (h : isSl s) : Plain (e8 f s) ∧ ∀ u ∈ e8 f s, u.oneCell' = true := by
  obtain ⟨a, n, c, rfl⟩ := h
  constructor
  · intro u hu q
    simp only [e8, List.mem_cons, List.not_mem_nil, or_false] at hu
    rcases hu with rfl | rfl | rfl | rfl | rfl | rfl | rfl | rfl <;> simp
  · intro u hu
    simp only [e8, List.mem_cons, List.not_mem_nil, or_false] at hu
    rcases hu with rfl | rfl | rfl | rfl | rfl | rfl | rfl | rfl <;> rfl
theorem e8_at (f : Fld) (s : Value) (j : Nat) : (e8 f s)[j]? = cells8 f s j := by
  unfold e8 cells8
  simp
theorem add_none (b o j : Nat) : (⟨b, o, none⟩ : Addr).add j = ⟨b, o + j, none⟩ := by unfold Addr.add; split <;> simp_all
theorem e8_news {w : World} {b o : Nat} {f : Fld} {s : Value} (h : C8 w b o f s) : ∀ j u, (e8 f s)[j]? = some u → w.cell? ((⟨b, o, none⟩ : Addr).add j) = some u := by
  intro j u hu
  have hj : j < 8 := by
    have := (List.getElem?_eq_some_iff.1 hu).1
    simpa [e8] using this
  rw [add_none, h.to j hj, ← e8_at]
  exact hu
theorem RowX.C8 {w : World} {B k g cap p : Nat} {xs : List Value} (h : RowX w B 58 8 (.slice (some ⟨g, 0, none⟩) k cap) k xs) {f : Fld} {s : Value} (hx : ∀ j, j < 8 → xs[p + j]? = (e8 f s)[j]?) : C8 w g p f s :=
  ⟨h.cell (hx 0 (by decide)), h.cell (hx 1 (by decide)), h.cell (hx 2 (by decide)), h.cell (hx 3 (by decide)), h.cell (hx 4 (by decide)), h.cell (hx 5 (by decide)), h.cell (hx 6 (by decide)), h.cell (hx 7 (by decide))⟩

/-- A list of the call's own with the elements' cells. -/
def Cl (w : World) (L n : Nat) (F : Nat → Fld) (S : Nat → Value) (v : Value) : Prop :=
  (n = 0 ∧ ∃ ao c, v = .slice ao 0 c) ∨ (0 < n ∧ ∃ g cap, v = .slice (some ⟨g, 0, none⟩) n cap ∧ n ≤ cap ∧ L ≤ g ∧ g < w.heap.size ∧ (∀ i, i < n → C8 w g (i * 8) (F i) (S i)) ∧ ∀ o, w.frozen? ⟨g, o, none⟩ = false)

theorem setRow_id58 (w : World) (g : Nat) (cur : Array Value) (hg : w.heap[g]? = some (.cells cur 58 (0, 0))) : w.setRow g cur = w := by
  have e : (w.setRow g cur).heap = w.heap := by
    apply Array.ext_getElem?
    intro i
    by_cases h : i = g
    · subst h
      rw [setRow_heap w i cur cur 58 (0, 0) hg, hg]
    · exact setRow_other w g i cur h
  unfold World.setRow at e ⊢
  simp only at e
  rw [e]

theorem RowX.open {w : World} {B k s : Nat} {E : TypeId} {v : Value} {xs : List Value} (h : RowX w B E s v k xs) (hk : 0 < k) : ∃ g cap, v = .slice (some ⟨g, 0, none⟩) k cap ∧ k ≤ cap ∧ B ≤ g ∧ g < w.heap.size ∧ ∀ o, w.frozen? ⟨g, o, none⟩ = false := by
  rcases h with ⟨_, h, _⟩ | ⟨g, cap, cur, e, hB, hg, hk', _⟩
  · omega
  · exact ⟨g, cap, e, hk', hB, (Array.getElem?_eq_some_iff.1 hg).1, fun o => by simp [World.frozen?, hg]⟩
theorem grow_small {m cap : Nat} (h1 : 1 ≤ m) (hm : m ≤ 2) (h : cap < 0 + m) : Builtin.nextslicecap (0 + m) cap * 96 ≤ 281474976710656 := by
  rcases (show m = 1 ∨ m = 2 by omega) with rfl | rfl
  · obtain rfl : cap = 0 := by omega
    decide
  · rcases (show cap = 0 ∨ cap = 1 by omega) with rfl | rfl <;> decide

theorem wpList_appE (w : World) {ops : Array Oper} {rest : List Oper} {op : Oper} {a : Act} {Q : Exit → Act → World → Prop} (hg : op.guard = none) (s x : Operand)
    (hop : op.op = .call { callee := .builtin .append, args := #[s, x], argTypes := #[56, 56] }) (hty : op.type = 56) (g : Nat) (hs : a.eval s = .slice (some ⟨g, 0, none⟩) 0 0) (hemp : w.heap[g]? = some (.cells #[] 58 (0, 0)))
    (n : Nat) (hn : n ≤ 2) (ad : Addr) (c : Nat) (hx : a.eval x = .slice (some ad) n c) (F : Nat → Fld) (S : Nat → Value) (hS : ∀ i, i < n → isSl (S i)) (hcell : ∀ i, i < n → ∃ b o, ad = ⟨b, o, none⟩ ∧ C8 w b (o + i * 8) (F i) (S i))
    (hK : ∀ v' w', Cl w' g n F S v' → Below g w w' → wpList Try.prog ops Q rest (a.put op.dst v') w') : wpList Try.prog ops Q (op :: rest) a w := by
  have hgl : g < w.heap.size := (Array.getElem?_eq_some_iff.1 hemp).1
  have hrow : RowX w g 58 8 (.slice (some ⟨g, 0, none⟩) 0 0) 0 [] := Or.inr ⟨g, 0, #[], rfl, Nat.le_refl _, hemp, Nat.le_refl _, by unfold maxLen; omega, rfl, fun u hu => by simp at hu, rfl, rfl⟩
  refine wpList_plain hg fun K hK' => ?_
  by_cases h0 : n = 0
  · subst h0
    obtain ⟨i0, hi, hz0, hz1, hz2⟩ := info_parts info58x
    have hrun := run_append_room (P := Try.prog) w 56 56 58 i0 Try.underlying56 hi g 0 0 #[] hemp ad 0 c [] (by simp) (by simp) (by simp) (by omega) (by simp)
    have hset : (w.setRow g ((#[] : Array Value).toList.take (0 * i0.size) ++ [] ++ (#[] : Array Value).toList.drop (0 * i0.size + ([] : List Value).length)).toArray) = w := by
      simp only [List.append_nil, List.length_nil, Nat.add_zero, List.take_append_drop, Array.toArray_toList]
      exact setRow_id58 w g #[] hemp
    rw [hset] at hrun
    unfold Oper.wp
    simp [execOp, hop, resolve, invoke, builtin, hs, hx, hty, hrun, Result.andThen]
    exact hK' _ _ (hK _ w (Or.inl ⟨rfl, _, _, rfl⟩) ((Below.refl _ w).mono (Nat.le_of_lt hgl)))
  · obtain ⟨b, o, rfl⟩ : ∃ b o, ad = ⟨b, o, none⟩ := by
      obtain ⟨b, o, e, _⟩ := hcell 0 (by omega)
      exact ⟨b, o, e⟩
    have hC : ∀ i, i < n → C8 w b (o + i * 8) (F i) (S i) := fun i hi => by
      obtain ⟨b', o', e, h⟩ := hcell i hi
      simp only [Addr.mk.injEq, and_true] at e
      obtain ⟨rfl, rfl⟩ := e
      exact h
    obtain ⟨news, hl, h1, h2, h3, h4⟩ : ∃ news : List Value, news.length = n * 8 ∧ (∀ j u, news[j]? = some u → w.cell? ((⟨b, o, none⟩ : Addr).add j) = some u) ∧ (∀ u ∈ news, u.oneCell' = true) ∧ Plain news ∧ ∀ i, i < n → ∀ j, j < 8 → news[i * 8 + j]? = (e8 (F i) (S i))[j]? := by
      rcases (show n = 1 ∨ n = 2 by omega) with rfl | rfl
      · refine ⟨e8 (F 0) (S 0), rfl, e8_news (hC 0 (by decide)), (e8_plain _ (hS 0 (by decide))).2, (e8_plain _ (hS 0 (by decide))).1, fun i hi j hj => ?_⟩
        obtain rfl : i = 0 := by omega
        simp
      · refine ⟨e8 (F 0) (S 0) ++ e8 (F 1) (S 1), rfl, fun j u hu => ?_, fun u hu => ?_, (e8_plain _ (hS 0 (by decide))).1.app (e8_plain _ (hS 1 (by decide))).1, fun i hi j hj => ?_⟩
        · by_cases hj : j < 8
          · rw [List.getElem?_append_left (by simpa [e8] using hj)] at hu
            exact e8_news (hC 0 (by decide)) j u hu
          · rw [List.getElem?_append_right (by simp [e8]; omega)] at hu
            have := e8_news (hC 1 (by decide)) _ u hu
            rw [add_none] at this ⊢
            rw [← this]
            congr 2
            simp [e8]
            try omega
        · rcases List.mem_append.1 hu with hu | hu
          · exact (e8_plain _ (hS 0 (by decide))).2 u hu
          · exact (e8_plain _ (hS 1 (by decide))).2 u hu
        · rcases (show i = 0 ∨ i = 1 by omega) with rfl | rfl
          · rw [List.getElem?_append_left (by simp [e8]; omega)]
            simp
          · rw [List.getElem?_append_right (by simp [e8])]
            congr 1
            simp [e8]
    obtain ⟨v', w', hrun, r1, r2, _, r3, _⟩ := append_x w g 56 58 8 96 zx8 Try.underlying56 info58x zeros58x _ 0 [] hrow (Nat.le_of_lt hgl) ⟨b, o, none⟩ n c news hl h1 h2 h3 (by omega) (by unfold maxLen; omega) (fun cap _ hc => grow_small (by omega) hn hc)
    rw [Nat.zero_add, List.nil_append] at r1
    obtain ⟨g', cap, rfl, q1, q2, q3, q4⟩ := r1.open (by omega)
    unfold Oper.wp
    simp [execOp, hop, resolve, invoke, builtin, hs, hx, hty, hrun, Result.andThen]
    exact hK' _ _ (hK _ w' (Or.inr ⟨by omega, g', cap, rfl, q1, q2, q3, fun i hi => r1.C8 (h4 i hi), q4⟩) r2.below)

set_option maxRecDepth 100000 in
theorem clone_any (ao : Option Addr) (c n : Nat) (F : Nat → Fld) (S : Nat → Value) (w : World) (hn : n ≤ 2) (hS : ∀ i, i < n → isSl (S i)) (hcell : ∀ i, i < n → ∃ b o, ao = some ⟨b, o, none⟩ ∧ C8 w b (o + i * 8) (F i) (S i)) :
    Calls Try.prog 75 #[.slice ao n c] w fun e w' => ∃ v', e = .returned v' ∧ Cl w' w.heap.size n F S v' ∧ Below w.heap.size w w' := by
  have HC := Lib.hid hcell
  have HS := Lib.hid hS
  clear hcell hS
  go_enter Try.func75, Try.ntmps75
  cases ao with
  | none =>
    obtain rfl : n = 0 := by
      by_cases h : n = 0
      · exact h
      · obtain ⟨b, o, e, _⟩ := HC.out 0 (by omega)
        simp at e
    have q := Lib.run_eql_slice_nil_nil (P := Try.prog) w 0 c Try.underlying56
    go_wp2_with fail
    go_ret
    exact ⟨_, rfl, Or.inl ⟨rfl, _, _, rfl⟩, Below.refl _ _⟩
  | some ad =>
    have q := Lib.run_eql_slice_some_nil (P := Try.prog) w ad n c Try.underlying56
    go_wp2_with (at_builtin; refine wpList_appE _ rfl _ _ rfl rfl w.heap.size rfl (by show (w.heap.push _)[w.heap.size]? = _; simp) n hn ad c rfl F S HS.out (fun i hi => by
      obtain ⟨b, o, e, h⟩ := HC.out i hi
      exact ⟨b, o, Option.some.inj e, h.below (below_box _ _)⟩) ?_)
    intro v' w' hC hb
    have H1 := Lib.hid hC
    have H2 := Lib.hid ((below_box w (.cells #[] 58)).trans hb)
    clear hC hb
    go_wp2_with fail
    go_ret
    exact ⟨v', rfl, H1.out, H2.out⟩

end Go.Proofs.Ytnnobdcbmagbaaa

/- The contracts of denote.simple and denote.Simple. -/
namespace Go.Proofs.Ytnnobdcbmagbaaa
open Go.RowKit
set_option linter.unusedVariables false

theorem c8_put0 {w : World} {g : Nat} {f : Fld} {s : Value} (h : C8 w g 0 f s) (f2 : Fld) (s2 : Value) : C8 (put8 w g (.int .i64 f2.op) (.string f2.media) (.int .i64 f2.frame) (.int .i64 f2.num) (.int .i64 f2.den) (.int .i64 f2.par) (.string f2.text) s2) g 0 f2 s2 := by
  obtain ⟨h0, h1, h2, h3, h4, h5, h6, h7⟩ := h
  simp only [Nat.zero_add] at *
  unfold put8
  constructor <;> simp [go_sem, h0, h1, h2, h3, h4, h5, h6, h7]
theorem C8.hi8 {w : World} {g : Nat} {f : Fld} {s : Value} (h : C8 w g 8 f s) (c0 c1 c2 c3 c4 c5 c6 c7 : Value) : C8 (Proofs.Ytnnobdcbmagbaaa.put8 w g c0 c1 c2 c3 c4 c5 c6 c7) g 8 f s := by
  obtain ⟨h0, h1, h2, h3, h4, h5, h6, h7⟩ := h
  unfold Proofs.Ytnnobdcbmagbaaa.put8
  constructor <;> simp [go_sem, h0, h1, h2, h3, h4, h5, h6, h7]
/-- The arguments as far as they are simplified. -/
structure Jn (wr : World) (gl L n k : Nat) (a : Nat → Ex) (g : Nat → Value) : Prop where
  old : ∀ i, i < n → k ≤ i → C8 wr gl (i * 8) (a i).f (g i)
  new : ∀ i, i < k → ∃ s, C8 wr gl (i * 8) (simpX (a i)).f s ∧ XL wr L ((simpX (a i)).f.val s) (simpX (a i))
  thaw : ∀ o, wr.frozen? ⟨gl, o, none⟩ = false
theorem Jn.below {w w' : World} {gl L n k : Nat} {a : Nat → Ex} {g : Nat → Value} (h : Jn w gl L n k a g) (hb : Below w.heap.size w w') (hl : gl < w.heap.size) : Jn w' gl L n k a g :=
  ⟨fun i hi hk => (h.old i hi hk).below hb, fun i hi => by obtain ⟨s, h1, h2⟩ := h.new i hi; exact ⟨s, h1.below hb, h2.bel hb⟩, fun o => (hb.frozen (p := ⟨gl, o, none⟩) hl).trans (h.thaw o)⟩
theorem Jn.open {w : World} {gl L n : Nat} {a : Nat → Ex} {g : Nat → Value} (h : Jn w gl L n n a g) : ∃ S : Nat → Value, ∀ i, i < n → C8 w gl (i * 8) (simpX (a i)).f (S i) ∧ XL w L ((simpX (a i)).f.val (S i)) (simpX (a i)) := by
  classical
  refine ⟨fun i => if hi : i < n then Classical.choose (h.new i hi) else .nilFunc, fun i hi => ?_⟩
  simp only [hi, dif_pos]
  exact Classical.choose_spec (h.new i hi)
theorem put8_frozen (w : World) {g : Nat} (c0 c1 c2 c3 c4 c5 c6 c7 : Value) (q : Addr) : (put8 w g c0 c1 c2 c3 c4 c5 c6 c7).frozen? q = w.frozen? q := by
  unfold put8
  iterate 8 rw [World.frozen?_setCell]
theorem XL.putB {w : World} {L b : Nat} {v : Value} {e : Ex} (h : XL w L v e) (hb : b < L) (c0 c1 c2 c3 c4 c5 c6 c7 : Value) : XL (Proofs.Ytnnobdcbmagbaaa.putB w b c0 c1 c2 c3 c4 c5 c6 c7) L v e :=
  h.cells fun q _ hl => putB_cell w _ _ _ _ _ _ _ _ (by omega)
theorem Jn.put0 {w : World} {gl L n : Nat} {a : Nat → Ex} {g : Nat → Value} (h : Jn w gl L n 0 a g) (h0 : 0 < n) (h2 : n ≤ 2) (hl : gl < L) (s : Value) (hx : XL w L ((simpX (a 0)).f.val s) (simpX (a 0))) :
    Jn (put8 w gl (.int .i64 (simpX (a 0)).f.op) (.string (simpX (a 0)).f.media) (.int .i64 (simpX (a 0)).f.frame) (.int .i64 (simpX (a 0)).f.num) (.int .i64 (simpX (a 0)).f.den) (.int .i64 (simpX (a 0)).f.par) (.string (simpX (a 0)).f.text) s) gl L n 1 a g := by
  refine ⟨fun i hi hk => ?_, fun i hi => ?_, fun o => (put8_frozen _ _ _ _ _ _ _ _ _ _).trans (h.thaw o)⟩
  · obtain rfl : i = 1 := by omega
    exact (h.old 1 hi (by omega)).hi8 _ _ _ _ _ _ _ _
  · obtain rfl : i = 0 := by omega
    exact ⟨s, c8_put0 (h.old 0 h0 (Nat.le_refl _)) _ _, hx.put8 hl _ _ _ _ _ _ _ _⟩
theorem Jn.put1 {w : World} {gl L : Nat} {a : Nat → Ex} {g : Nat → Value} (h : Jn w gl L 2 1 a g) (hl : gl < L) (s : Value) (hx : XL w L ((simpX (a 1)).f.val s) (simpX (a 1))) :
    Jn (putB w gl (.int .i64 (simpX (a 1)).f.op) (.string (simpX (a 1)).f.media) (.int .i64 (simpX (a 1)).f.frame) (.int .i64 (simpX (a 1)).f.num) (.int .i64 (simpX (a 1)).f.den) (.int .i64 (simpX (a 1)).f.par) (.string (simpX (a 1)).f.text) s) gl L 2 2 a g := by
  refine ⟨fun i hi hk => by omega, fun i hi => ?_, fun o => (putB_frozen _ _ _ _ _ _ _ _ _ _).trans (h.thaw o)⟩
  rcases (show i = 0 ∨ i = 1 by omega) with rfl | rfl
  · obtain ⟨s0, h1, h2⟩ := h.new 0 (by omega)
    exact ⟨s0, h1.putB0 _ _ _ _ _ _ _ _, h2.putB hl _ _ _ _ _ _ _ _⟩
  · have o1 : C8 w gl 8 (a 1).f (g 1) := h.old 1 (by decide) (Nat.le_refl _)
    exact ⟨s, o1.putB8 _ _, hx.putB hl _ _ _ _ _ _ _ _⟩

set_option maxRecDepth 100000 in
set_option maxHeartbeats 4000000 in
theorem simple_any {w0 : World} {v : Value} {X : Ex} (h : XA w0 v X) : okX X = true → ∀ w, Below w0.heap.size w0 w → Calls Try.prog 68 #[v] w (RedPost w w.heap.size (simpX X)) := by
  induction h with
  | mk f a ao c g hf hc hcell hsub ih =>
    intro hok w hw
    obtain ⟨hok1, hok2⟩ := okX_f hok
    obtain ⟨hl, hu, hn⟩ := okFld_n hok1
    have hn2 : f.n ≤ 2 := by rw [hn]; split; omega; split <;> omega
    clear hn hl hu hok hok1
    have HW := Lib.hid hw
    have HIH := Lib.hid (fun i hi => ih i hi (hok2 i hi))
    have HC0 := Lib.hid (show ∀ i, i < f.n → ∃ b o, ao = some ⟨b, o, none⟩ ∧ C8 w b (o + i * 8) (a i).f (g i) from fun i hi => by
      obtain ⟨b, o, e, hC⟩ := hcell i hi
      exact ⟨b, o, e, (C8.of hC).below hw⟩)
    have HSl := Lib.hid (show ∀ i, i < f.n → ∃ sa sc, g i = .slice sa (a i).f.n sc from fun i hi => (hsub i hi).slice)
    have HR := Lib.hid (show simpX (.mk f a) = redX (.mk f fun i => simpX (a i)) from rfl)
    obtain ⟨RX, hRX⟩ : ∃ r, r = simpX (.mk f a) := ⟨_, rfl⟩
    rw [← hRX] at HR ⊢
    clear ih hcell hsub hok2 hw hRX
    unfold Fld.val
    go_enter Try.func68, Try.ntmps68
    go_upto_region 1 with fail
    obtain ⟨w1, hw1⟩ : ∃ x, x = w.alloc (.cells #[.int .i64 f.op, .string f.media, .int .i64 f.frame, .int .i64 f.num, .int .i64 f.den, .int .i64 f.par, .string f.text, .slice ao f.n c] 58) := ⟨_, rfl⟩
    rw [← hw1]
    obtain ⟨gp, hgp⟩ : ∃ g, g = w.heap.size := ⟨_, rfl⟩
    have hz1 : w1.heap.size = w.heap.size + 1 := by rw [hw1]; simp [go_sem]
    have E1 : Below w.heap.size w w1 := by rw [hw1]; exact below_box _ _
    have F1 : w1.frozen? ⟨gp, 7, none⟩ = false := by rw [hw1, hgp]; simp [go_sem]
    have B1 : B8 w1 gp f (.slice ao f.n c) := by rw [hw1, hgp]; exact B8.of_alloc w _ f _ 58 rfl
    clear hw1
    obtain ⟨w2, hw2⟩ : ∃ x, x = w1.alloc (.cells #[.int .i64 0, .string (⟨#[]⟩ : ByteArray), .int .i64 0, .int .i64 0, .int .i64 0, .int .i64 0, .string (⟨#[]⟩ : ByteArray), .slice none 0 0] 58) := ⟨_, rfl⟩
    rw [← hw2]
    obtain ⟨gr, hgr⟩ : ∃ g, g = w.heap.size + 1 := ⟨_, rfl⟩
    have E2 : Below w1.heap.size w1 w2 := by rw [hw2]; exact below_box _ _
    have Z2 : Z8 w2 gr := by rw [hw2, hgr]; exact Z8.of_alloc w1 _ 58 hz1.symm
    have hz2 : w2.heap.size = w.heap.size + 2 := by rw [hw2]; simp [go_sem, hz1]
    have F2 : w2.frozen? ⟨gp, 7, none⟩ = false := (E2.frozen (p := ⟨gp, 7, none⟩) B1.lt).trans F1
    rw [← hgr, ← hgp]
    have hne : gr ≠ gp := by omega
    have hgrw : w.heap.size ≤ gr := by omega
    have hgpw : w.heap.size ≤ gp := by omega
    have hgr2 : gr < w2.heap.size := by omega
    have hgp2 : gp < w2.heap.size := by omega
    have HB := Lib.hid (E1.trans (E2.mono E1.size))
    have HZ := Lib.hid Z2
    have HP := Lib.hid (B1.below E2)
    clear hw2 E1 E2 B1 Z2 hgp hgr hz1 hz2
    obtain ⟨b0, b1, b2, b3, b4, b5, b6, b7⟩ := HP.out
    have hn64 := hf.n
    go_wp2_with fail
    refine (clone_any ao c f.n (fun i => (a i).f) g w2 hn2 (fun i hi => by obtain ⟨sa, sc, e⟩ := HSl.out i hi; exact ⟨_, _, _, e⟩) (fun i hi => by
      obtain ⟨b, o, e, hC⟩ := HC0.out i hi
      exact ⟨b, o, e, hC.below HB.out⟩)).mono ?_
    rintro e w3 ⟨v', rfl, hCl, hb3⟩
    have hb23 := hb3
    have HP3 := Lib.hid (HP.out.below hb3)
    have HZ3 := Lib.hid (HZ.out.below hb3)
    have F3 : w3.frozen? ⟨gp, 7, none⟩ = false := (hb3.frozen (p := ⟨gp, 7, none⟩) hgp2).trans F2
    have hs23 := hb3.size
    have HB3 := Lib.hid (HB.out.trans (hb3.mono HB.out.size))
    clear hb3 hb23 b0 b1 b2 b3 b4 b5 b6 b7 F2 HP HZ HB
    rcases hCl with ⟨hn0, ao', c', rfl⟩ | ⟨hn0, gl, cap, rfl, hcap, hgl, hglw, hold, hthaw⟩
    · have HP4 := Lib.hid (HP3.out.set7 0 (.slice ao' 0 c'))
      have HZ4 := Lib.hid (HZ3.out.far (a := ⟨gp, 7, none⟩) (Ne.symm hne) (.slice ao' 0 c'))
      obtain ⟨b0, b1, b2, b3, b4, b5, b6, b7⟩ := HP3.out
      have HB4 := Lib.hid (show Below w.heap.size w (w3.setCell ⟨gp, 7, none⟩ (.slice ao' 0 c')) from HB3.out.setCell hgpw _)
      have e0 : ({ f with n := 0 } : Fld) = f := by cases f; simp_all
      rw [e0] at HP4
      clear e0
      go_upto_region 2 with fail
      obtain ⟨w4, hw4⟩ : ∃ x, x = w3.setCell ⟨gp, 7, none⟩ (.slice ao' 0 c') := ⟨_, rfl⟩
      rw [← hw4] at HP4 HZ4 HB4 ⊢
      clear hw4 HP3 HZ3 HB3 F3 b0 b1 b2 b3 b4 b5 b6 b7
      obtain ⟨b0, b1, b2, b3, b4, b5, b6, b7⟩ := HP4.out
      go_wp2_with fail
      go_loopw [12] (fun i wr => i = .int .i64 0 ∧ wr = w4) (fun i _ => 0)
      case atStart => exact ⟨rfl, rfl⟩
      case round =>
        obtain ⟨rfl, rfl⟩ := hrel
        have hX0 : XL wr w2.heap.size (f.val (.slice ao' f.n c')) (.mk f fun i => simpX (a i)) := XL.mk f _ ao' c' (fun _ => .nilFunc) hf (by omega) (fun i hi => by omega) (fun i hi => by omega)
        rw [hn0] at hX0
        have HX0 := Lib.hid hX0
        have HBq := Lib.hid HB4.out
        have HZq := Lib.hid HZ4.out
        clear hX0
        go_wp2_with fail
        refine (red_any _ _ wr w2.heap.size HX0.out).mono ?_
        rintro e w7 ⟨v7, rfl, hX7, hb7⟩
        rw [← HR.out] at hX7
        obtain ⟨a7, c7, rfl⟩ := hX7.open
        obtain ⟨F7, hF7⟩ : ∃ F, F = RX.f := ⟨_, rfl⟩
        rw [← hF7] at hX7 ⊢
        have HX7 := Lib.hid hX7
        have HZ7 := Lib.hid (HZq.out.below hb7)
        have HB7 := Lib.hid (HBq.out.trans (hb7.mono HBq.out.size))
        clear hX7 hb7 b0 b1 b2 b3 b4 b5 b6 b7 hF7 HX0
        obtain ⟨z0, z1, z2, z3, z4, z5, z6, z7, zf⟩ := HZ7.out
        unfold Fld.val
        go_wp2_with fail
        refine bodyPost_ret (results_cell Try.results68 _ _ _ rfl (load_x (HZ7.out.put F7 (.slice a7 F7.n c7)))) rfl ?_
        have hbz := put8_below w7 (.int .i64 F7.op) (.string F7.media) (.int .i64 F7.frame) (.int .i64 F7.num) (.int .i64 F7.den) (.int .i64 F7.par) (.string F7.text) (.slice a7 F7.n c7) hgrw
        exact ⟨_, rfl, (HX7.out.put8 hgr2 _ _ _ _ _ _ _ _).mono (by omega), HB7.out.trans hbz⟩
    · have HP4 := Lib.hid (HP3.out.set7 f.n (.slice (some ⟨gl, 0, none⟩) f.n cap))
      have HZ4 := Lib.hid (HZ3.out.far (a := ⟨gp, 7, none⟩) (Ne.symm hne) (.slice (some ⟨gl, 0, none⟩) f.n cap))
      have hgpl : gp ≠ gl := by omega
      have hgrl : gr ≠ gl := by omega
      have HJ4 := Lib.hid (show Jn (w3.setCell ⟨gp, 7, none⟩ (.slice (some ⟨gl, 0, none⟩) f.n cap)) gl w3.heap.size f.n 0 a g from ⟨fun i hi _ => (hold i hi).far (a := ⟨gp, 7, none⟩) hgpl _, fun i hi => absurd hi (Nat.not_lt_zero i), fun o => by rw [World.frozen?_setCell]; exact hthaw o⟩)
      obtain ⟨b0, b1, b2, b3, b4, b5, b6, b7⟩ := HP3.out
      have HB4 := Lib.hid (show Below w.heap.size w (w3.setCell ⟨gp, 7, none⟩ (.slice (some ⟨gl, 0, none⟩) f.n cap)) from HB3.out.setCell hgpw _)
      have e0 : ({ f with n := f.n } : Fld) = f := rfl
      rw [e0] at HP4
      clear e0 hold hthaw
      go_upto_region 2 with fail
      obtain ⟨w4, hw4⟩ : ∃ x, x = w3.setCell ⟨gp, 7, none⟩ (.slice (some ⟨gl, 0, none⟩) f.n cap) := ⟨_, rfl⟩
      rw [← hw4] at HP4 HZ4 HB4 HJ4 ⊢
      have hs34 : w4.heap.size = w3.heap.size := by rw [hw4, World.size_setCell]
      clear hw4 HP3 HZ3 HB3 F3 b0 b1 b2 b3 b4 b5 b6 b7
      obtain ⟨b0, b1, b2, b3, b4, b5, b6, b7⟩ := HP4.out
      go_wp2_with fail
      clear b0 b1 b2 b3 b4 b5 b6 b7
      go_loopw [12] (fun i wr => ∃ k : Nat, k ≤ f.n ∧ i = .int .i64 (k : Int) ∧ Below w2.heap.size w4 wr ∧ Jn wr gl w3.heap.size f.n k a g) (fun i _ => f.n - (intOf i).toNat)
      case atStart => exact ⟨0, Nat.zero_le _, rfl, Below.refl _ _, HJ4.out⟩
      case round =>
        obtain ⟨k, hk, rfl, hb, hJ⟩ := hrel
        have hsr : w4.heap.size ≤ wr.heap.size := hb.size
        have HJ := Lib.hid hJ
        have HBr := Lib.hid hb
        have HPr := Lib.hid (show B8 wr gp f (.slice (some ⟨gl, 0, none⟩) f.n cap) from ⟨(hb.cell (p := ⟨gp, 0, none⟩) hgp2).trans HP4.out.k0, (hb.cell (p := ⟨gp, 1, none⟩) hgp2).trans HP4.out.k1, (hb.cell (p := ⟨gp, 2, none⟩) hgp2).trans HP4.out.k2, (hb.cell (p := ⟨gp, 3, none⟩) hgp2).trans HP4.out.k3, (hb.cell (p := ⟨gp, 4, none⟩) hgp2).trans HP4.out.k4, (hb.cell (p := ⟨gp, 5, none⟩) hgp2).trans HP4.out.k5, (hb.cell (p := ⟨gp, 6, none⟩) hgp2).trans HP4.out.k6, (hb.cell (p := ⟨gp, 7, none⟩) hgp2).trans HP4.out.k7⟩)
        have HZr := Lib.hid (show Z8 wr gr from ⟨(hb.cell (p := ⟨gr, 0, none⟩) hgr2).trans HZ4.out.k0, (hb.cell (p := ⟨gr, 1, none⟩) hgr2).trans HZ4.out.k1, (hb.cell (p := ⟨gr, 2, none⟩) hgr2).trans HZ4.out.k2, (hb.cell (p := ⟨gr, 3, none⟩) hgr2).trans HZ4.out.k3, (hb.cell (p := ⟨gr, 4, none⟩) hgr2).trans HZ4.out.k4, (hb.cell (p := ⟨gr, 5, none⟩) hgr2).trans HZ4.out.k5, (hb.cell (p := ⟨gr, 6, none⟩) hgr2).trans HZ4.out.k6, (hb.cell (p := ⟨gr, 7, none⟩) hgr2).trans HZ4.out.k7, fun o => (hb.frozen (p := ⟨gr, o, none⟩) hgr2).trans (HZ4.out.zf o)⟩)
        have hBw : Below w.heap.size w wr := HB4.out.trans (hb.mono (by omega))
        have HBw := Lib.hid hBw
        clear hb hJ hBw
        by_cases hlt : k < f.n
        · rcases (show k = 0 ∨ k = 1 by omega) with rfl | rfl
          · obtain ⟨sa, sc, hgq⟩ := HSl.out 0 hlt
            have hC : C8 wr gl 0 (a 0).f (g 0) := HJ.out.old 0 hlt (Nat.le_refl _)
            have hI := HIH.out 0 hlt
            obtain ⟨R7, hR7⟩ : ∃ R, R = simpX (a 0) := ⟨_, rfl⟩
            rw [hgq] at hC hI
            rw [← hR7] at hI
            obtain ⟨E, hE⟩ : ∃ E, E = a 0 := ⟨_, rfl⟩
            rw [← hE] at hC hI
            have HI := Lib.hid hI
            have HR7 := Lib.hid hR7
            obtain ⟨c0, c1, c2, c3, c4, c5, c6, c7⟩ := hC
            simp only [Nat.zero_add, Nat.reduceAdd] at c1 c2 c3 c4 c5 c6 c7
            obtain ⟨b0, b1, b2, b3, b4, b5, b6, b7⟩ := HPr.out
            clear hgq hI hE hR7
            go_upto_region 5 with fail
            obtain ⟨w5, hw5⟩ : ∃ x, x = wr.alloc (.cells #[.int .i64 E.f.op, .string E.f.media, .int .i64 E.f.frame, .int .i64 E.f.num, .int .i64 E.f.den, .int .i64 E.f.par, .string E.f.text, .slice sa E.f.n sc] 58) := ⟨_, rfl⟩
            rw [← hw5]
            obtain ⟨ge, hge⟩ : ∃ g, g = wr.heap.size := ⟨_, rfl⟩
            have hb5 : Below wr.heap.size wr w5 := by rw [hw5]; exact below_box _ _
            have HE5 := Lib.hid (show B8 w5 ge E.f (.slice sa E.f.n sc) by rw [hw5, hge]; exact B8.of_alloc wr _ E.f _ 58 rfl)
            rw [← hge]
            have HP5 := Lib.hid (HPr.out.below hb5)
            have HJ5 := Lib.hid (HJ.out.below hb5 (by omega))
            have hs5 := hb5.size
            have HB5 := Lib.hid (HBr.out.trans (hb5.mono (by omega)))
            have HBw5 := Lib.hid (HBw.out.trans (hb5.mono (by omega)))
            clear hw5 hge hb5 b0 b1 b2 b3 b4 b5 b6 b7 c0 c1 c2 c3 c4 c5 c6 c7
            refine Plan.wp_region_planz (fun wx => Below w5.heap.size w5 wx) 6 (([0, 1, 2, 3].map (·, true)) ++ (([4].map (·, false)) ++ (([5].map (·, true)) ++ (([6].map (·, false)))))) (by kernel_rfl) (by kernel_rfl) (by kernel_rfl) (Below.refl _ _).drew ?_
            refine' Plan.plan_seg _ [0, 1, 2, 3] (([4].map (·, false)) ++ (([5].map (·, true)) ++ (([6].map (·, false))))) (by kernel_rfl) (by kernel_rfl) rfl (by exact (Below.refl _ _).drew) (fun wx hS => ?_) ?_
            rotate_left
            · obtain ⟨b0, b1, b2, b3, b4, b5, b6, b7⟩ := HP5.out.below hS
              obtain ⟨e0, e1, e2, e3, e4, e5, e6, e7⟩ := HE5.out.below hS
              clear hS
              go_light
              iterate 4 (apply Plan.seg_pick; rfl; intro K hK; go_wp)
              exact Plan.seg_nil

            obtain ⟨w6, hw6⟩ : ∃ x, x = w5.drew := ⟨_, rfl⟩
            rw [← hw6]
            have HD := Lib.hid (show Below w5.heap.size w5 w6 by rw [hw6]; exact (Below.refl _ _).drew)
            clear hw6
            refine Plan.plan_of_effect rfl (fun K hK => ?_)
            have HCal := Lib.hid (HI.out w6 ((HW.out.trans (HBw5.out.mono HW.out.size)).trans (HD.out.mono (by have := HW.out.size; have := HBw5.out.size; omega))))
            unfold Fld.val at HCal
            go_wp2_with fail
            refine HCal.out.mono ?_
            rintro e w7 ⟨v7, rfl, hX7, hb7⟩
            obtain ⟨a7, c7, rfl⟩ := hX7.open
            have hb57 := HD.out.trans (hb7.mono HD.out.size)
            have HB57 := Lib.hid hb57
            have hs7 := hb57.size
            have hs6 := HD.out.size
            have HX7 := Lib.hid (hX7.mono (show w3.heap.size ≤ w6.heap.size by omega))
            have HJ7 := Lib.hid (HJ5.out.below hb57 (by omega))
            have HB7 := Lib.hid (HB5.out.trans (hb57.mono (by omega)))
            clear hX7 hb7 hb57 HCal HJ5 HP5 HE5
            unfold Fld.val
            go_wp2_with fail
            refine ⟨HB57.out, ?_⟩
            refine' Plan.plan_seg _ [5] (([6].map (·, false))) (by kernel_rfl) (by kernel_rfl) rfl (by exact HB57.out) (fun wx hS => ?_) ?_
            rotate_left
            · clear hS
              go_light
              iterate 1 (apply Plan.seg_pick; rfl; intro K hK; go_wp)
              exact Plan.seg_nil

            have hC7 : C8 w7 gl 0 _ _ := HJ7.out.old 0 hlt (Nat.le_refl _)
            obtain ⟨c0, c1, c2, c3, c4, c5, c6, c7'⟩ := hC7
            simp only [Nat.zero_add, Nat.reduceAdd] at c1 c2 c3 c4 c5 c6 c7'
            have hth := HJ7.out.thaw
            refine Plan.plan_of_last rfl (fun K hK => ?_)
            go_wp2_with fail
            refine Plan.plan_done ?_
            go_wp2_with fail
            have hj1 := HJ7.out.put0 hlt hn2 (by omega) (.slice a7 R7.f.n c7) (by rw [← HR7.out]; exact HX7.out)
            rw [← HR7.out] at hj1
            refine ⟨⟨1, by omega, by go_num, HB7.out.trans (by go_grown), hj1⟩, ?_⟩
            simp [intOf]
            omega
          · obtain ⟨sa, sc, hgq⟩ := HSl.out 1 hlt
            have hC : C8 wr gl 8 (a 1).f (g 1) := HJ.out.old 1 hlt (Nat.le_refl _)
            have hI := HIH.out 1 hlt
            obtain ⟨R7, hR7⟩ : ∃ R, R = simpX (a 1) := ⟨_, rfl⟩
            rw [hgq] at hC hI
            rw [← hR7] at hI
            obtain ⟨E, hE⟩ : ∃ E, E = a 1 := ⟨_, rfl⟩
            rw [← hE] at hC hI
            have HI := Lib.hid hI
            have HR7 := Lib.hid hR7
            obtain ⟨c0, c1, c2, c3, c4, c5, c6, c7⟩ := hC
            simp only [Nat.zero_add, Nat.reduceAdd] at c1 c2 c3 c4 c5 c6 c7
            obtain ⟨b0, b1, b2, b3, b4, b5, b6, b7⟩ := HPr.out
            clear hgq hI hE hR7
            go_upto_region 5 with fail
            obtain ⟨w5, hw5⟩ : ∃ x, x = wr.alloc (.cells #[.int .i64 E.f.op, .string E.f.media, .int .i64 E.f.frame, .int .i64 E.f.num, .int .i64 E.f.den, .int .i64 E.f.par, .string E.f.text, .slice sa E.f.n sc] 58) := ⟨_, rfl⟩
            rw [← hw5]
            obtain ⟨ge, hge⟩ : ∃ g, g = wr.heap.size := ⟨_, rfl⟩
            have hb5 : Below wr.heap.size wr w5 := by rw [hw5]; exact below_box _ _
            have HE5 := Lib.hid (show B8 w5 ge E.f (.slice sa E.f.n sc) by rw [hw5, hge]; exact B8.of_alloc wr _ E.f _ 58 rfl)
            rw [← hge]
            have HP5 := Lib.hid (HPr.out.below hb5)
            have HJ5 := Lib.hid (HJ.out.below hb5 (by omega))
            have hs5 := hb5.size
            have HB5 := Lib.hid (HBr.out.trans (hb5.mono (by omega)))
            have HBw5 := Lib.hid (HBw.out.trans (hb5.mono (by omega)))
            clear hw5 hge hb5 b0 b1 b2 b3 b4 b5 b6 b7 c0 c1 c2 c3 c4 c5 c6 c7
            refine Plan.wp_region_planz (fun wx => Below w5.heap.size w5 wx) 6 (([0, 1, 2, 3].map (·, true)) ++ (([4].map (·, false)) ++ (([5].map (·, true)) ++ (([6].map (·, false)))))) (by kernel_rfl) (by kernel_rfl) (by kernel_rfl) (Below.refl _ _).drew ?_
            refine' Plan.plan_seg _ [0, 1, 2, 3] (([4].map (·, false)) ++ (([5].map (·, true)) ++ (([6].map (·, false))))) (by kernel_rfl) (by kernel_rfl) rfl (by exact (Below.refl _ _).drew) (fun wx hS => ?_) ?_
            rotate_left
            · obtain ⟨b0, b1, b2, b3, b4, b5, b6, b7⟩ := HP5.out.below hS
              obtain ⟨e0, e1, e2, e3, e4, e5, e6, e7⟩ := HE5.out.below hS
              clear hS
              go_light
              iterate 4 (apply Plan.seg_pick; rfl; intro K hK; go_wp)
              exact Plan.seg_nil

            obtain ⟨w6, hw6⟩ : ∃ x, x = w5.drew := ⟨_, rfl⟩
            rw [← hw6]
            have HD := Lib.hid (show Below w5.heap.size w5 w6 by rw [hw6]; exact (Below.refl _ _).drew)
            clear hw6
            refine Plan.plan_of_effect rfl (fun K hK => ?_)
            have HCal := Lib.hid (HI.out w6 ((HW.out.trans (HBw5.out.mono HW.out.size)).trans (HD.out.mono (by have := HW.out.size; have := HBw5.out.size; omega))))
            unfold Fld.val at HCal
            go_wp2_with fail
            refine HCal.out.mono ?_
            rintro e w7 ⟨v7, rfl, hX7, hb7⟩
            obtain ⟨a7, c7, rfl⟩ := hX7.open
            have hb57 := HD.out.trans (hb7.mono HD.out.size)
            have HB57 := Lib.hid hb57
            have hs7 := hb57.size
            have hs6 := HD.out.size
            have HX7 := Lib.hid (hX7.mono (show w3.heap.size ≤ w6.heap.size by omega))
            have HJ7 := Lib.hid (HJ5.out.below hb57 (by omega))
            have HB7 := Lib.hid (HB5.out.trans (hb57.mono (by omega)))
            clear hX7 hb7 hb57 HCal HJ5 HP5 HE5
            unfold Fld.val
            go_wp2_with fail
            refine ⟨HB57.out, ?_⟩
            refine' Plan.plan_seg _ [5] (([6].map (·, false))) (by kernel_rfl) (by kernel_rfl) rfl (by exact HB57.out) (fun wx hS => ?_) ?_
            rotate_left
            · clear hS
              go_light
              iterate 1 (apply Plan.seg_pick; rfl; intro K hK; go_wp)
              exact Plan.seg_nil

            have hC7 : C8 w7 gl 8 _ _ := HJ7.out.old 1 hlt (Nat.le_refl _)
            obtain ⟨c0, c1, c2, c3, c4, c5, c6, c7'⟩ := hC7
            simp only [Nat.zero_add, Nat.reduceAdd] at c1 c2 c3 c4 c5 c6 c7'
            have hth := HJ7.out.thaw
            refine Plan.plan_of_last rfl (fun K hK => ?_)
            go_wp2_with fail
            refine Plan.plan_done ?_
            go_wp2_with fail
            have hn1 : f.n = 2 := by omega
            have hJ7' := HJ7.out
            rw [hn1] at hJ7' ⊢
            have hj1 := hJ7'.put1 (by omega) (.slice a7 R7.f.n c7) (by rw [← HR7.out]; exact HX7.out)
            rw [← HR7.out] at hj1
            refine ⟨⟨2, by omega, by go_num, HB7.out.trans (by go_grown), hj1⟩, ?_⟩
            simp [intOf]
        · obtain rfl : k = f.n := by omega
          obtain ⟨S, hS⟩ := HJ.out.open
          have hX0 : XL wr w2.heap.size (f.val (.slice (some ⟨gl, 0, none⟩) f.n cap)) (.mk f fun i => simpX (a i)) := XL.mk f _ _ cap S hf hcap (fun i hi => ⟨gl, 0, rfl, hgl, fun j hj => by
            have := (hS i hi).1.to j hj
            rw [Nat.zero_add]
            exact this⟩) (fun i hi => (hS i hi).2.mono hs23)
          clear hS
          have HX0 := Lib.hid hX0
          have HBq := Lib.hid HBw.out
          have HZq := Lib.hid HZr.out
          obtain ⟨b0, b1, b2, b3, b4, b5, b6, b7⟩ := HPr.out
          clear hX0
          go_wp2_with fail
          refine (red_any _ _ wr w2.heap.size HX0.out).mono ?_
          rintro e w7 ⟨v7, rfl, hX7, hb7⟩
          rw [← HR.out] at hX7
          obtain ⟨a7, c7, rfl⟩ := hX7.open
          obtain ⟨F7, hF7⟩ : ∃ F, F = RX.f := ⟨_, rfl⟩
          rw [← hF7] at hX7 ⊢
          have HX7 := Lib.hid hX7
          have HZ7 := Lib.hid (HZq.out.below hb7)
          have HB7 := Lib.hid (HBq.out.trans (hb7.mono HBq.out.size))
          clear hX7 hb7 b0 b1 b2 b3 b4 b5 b6 b7 hF7 HX0
          obtain ⟨z0, z1, z2, z3, z4, z5, z6, z7, zf⟩ := HZ7.out
          unfold Fld.val
          go_wp2_with fail
          refine bodyPost_ret (results_cell Try.results68 _ _ _ rfl (load_x (HZ7.out.put F7 (.slice a7 F7.n c7)))) rfl ?_
          have hbz := put8_below w7 (.int .i64 F7.op) (.string F7.media) (.int .i64 F7.frame) (.int .i64 F7.num) (.int .i64 F7.den) (.int .i64 F7.par) (.string F7.text) (.slice a7 F7.n c7) hgrw
          exact ⟨_, rfl, (HX7.out.put8 hgr2 _ _ _ _ _ _ _ _).mono (by omega), HB7.out.trans hbz⟩

end Go.Proofs.Ytnnobdcbmagbaaa

/- The contract of denote.Simple at a valid expression. -/
namespace Go.Proofs.Ytnnobdcbmagbaaa
open Go.RowKit
set_option linter.unusedVariables false

theorem idle67 (p : Addr) (w : World) : CallsD Try.prog 67 #[.pointer (some p)] .returning w fun e u' w' => e = .returned (.tuple #[]) ∧ u' = .returning ∧ w' = w := by
  refine callsD_of_wpS Try.func67 rfl fun c₀ cs hu => ?_
  apply wpS_seq
  apply wpS_region
  simp [wpOpsS, go_sem, recoverD, hu, Try.ntmps67, Exit.thenS]
  refine wpS_cond (t := false) (by simp [Act.eval, Array.replicate]) ?_
  simp only [Bool.false_eq_true, if_false]
  refine wpS_of_wp (wp_skip ?_)
  cases c₀
  simp_all [bodyPostS, results, Try.results67]

set_option maxRecDepth 100000 in
set_option maxHeartbeats 4000000 in
theorem simp_any (v : Value) (X : Ex) (w : World) (h : XA w v X) (hok : okX X = true) : Calls Try.prog 37 #[v] w (RedPost w w.heap.size (simpX X)) := by
  have HX := Lib.hid h
  have HOK := Lib.hid hok
  obtain ⟨f, ao, c, rfl⟩ : ∃ (f : Fld) (b : Option Addr) (c : Nat), v = f.val (Value.slice b f.n c) := by
    cases h with
    | mk f a ao c g hf hc hcell hsub => exact ⟨f, ao, c, rfl⟩
  clear h hok
  unfold Fld.val
  go_enter_defers Try.func37, Try.ntmps37
  go_upto_region 2 with fail
  obtain ⟨w1, hw1⟩ : ∃ x, x = w.alloc (.cells #[.int .i64 f.op, .string f.media, .int .i64 f.frame, .int .i64 f.num, .int .i64 f.den, .int .i64 f.par, .string f.text, .slice ao f.n c] 58) := ⟨_, rfl⟩
  rw [← hw1]
  obtain ⟨gp, hgp⟩ : ∃ g, g = w.heap.size := ⟨_, rfl⟩
  have hz1 : w1.heap.size = w.heap.size + 1 := by rw [hw1]; simp [go_sem]
  have E1 : Below w.heap.size w w1 := by rw [hw1]; exact below_box _ _
  have B1 : B8 w1 gp f (.slice ao f.n c) := by rw [hw1, hgp]; exact B8.of_alloc w _ f _ 58 rfl
  clear hw1
  obtain ⟨w2, hw2⟩ : ∃ x, x = w1.alloc (.cells #[.int .i64 0, .string (⟨#[]⟩ : ByteArray), .int .i64 0, .int .i64 0, .int .i64 0, .int .i64 0, .string (⟨#[]⟩ : ByteArray), .slice none 0 0] 58) := ⟨_, rfl⟩
  rw [← hw2]
  obtain ⟨gr, hgr⟩ : ∃ g, g = w.heap.size + 1 := ⟨_, rfl⟩
  have E2 : Below w1.heap.size w1 w2 := by rw [hw2]; exact below_box _ _
  have Z2 : Z8 w2 gr := by rw [hw2, hgr]; exact Z8.of_alloc w1 _ 58 hz1.symm
  have hz2 : w2.heap.size = w.heap.size + 2 := by rw [hw2]; simp [go_sem, hz1]
  rw [← hgr]
  try rw [← hgp]
  have hgrw : w.heap.size ≤ gr := by omega
  have hgr2 : gr < w2.heap.size := by omega
  have HB := Lib.hid (E1.trans (E2.mono E1.size))
  have HZ := Lib.hid Z2
  have HP := Lib.hid (B1.below E2)
  have hgpe : gp = w.heap.size := hgp
  have HGP := Lib.hid hgpe
  clear hw2 E1 E2 B1 Z2 hgp hgr hz1 hz2 hgpe
  obtain ⟨b0, b1, b2, b3, b4, b5, b6, b7⟩ := HP.out
  go_wp2_with fail
  refine (dvalid_any HX.out w2 HB.out).mono ?_
  rintro e w3 ⟨rfl, hb3⟩
  rw [HOK.out]
  have HB3 := Lib.hid (HB.out.trans (hb3.mono HB.out.size))
  have HZ3 := Lib.hid (HZ.out.below hb3)
  have HP3 := Lib.hid (HP.out.below hb3)
  clear hb3 b0 b1 b2 b3 b4 b5 b6 b7 HB HZ HP
  obtain ⟨b0, b1, b2, b3, b4, b5, b6, b7⟩ := HP3.out
  go_wp2_with fail
  refine (simple_any HX.out HOK.out w3 HB3.out).mono ?_
  rintro e w4 ⟨v7, rfl, hX7, hb4⟩
  obtain ⟨a7, c7, rfl⟩ := hX7.open
  obtain ⟨R, hR⟩ : ∃ R, R = simpX X := ⟨_, rfl⟩
  rw [← hR] at hX7 ⊢
  have HRX := Lib.hid hR
  have hs3 := HB3.out.size
  have HX7 := Lib.hid (hX7.mono (show w3.heap.size ≤ w3.heap.size from Nat.le_refl _))
  have HB4 := Lib.hid (HB3.out.trans (hb4.mono hs3))
  have HZ4 := Lib.hid (HZ3.out.below hb4)
  have hgr3 : gr < w3.heap.size := HZ3.out.lt
  clear hX7 hb4 hR b0 b1 b2 b3 b4 b5 b6 b7
  obtain ⟨z0, z1, z2, z3, z4, z5, z6, z7, zf⟩ := HZ4.out
  unfold Fld.val
  go_wp2_with fail
  have hbz := put8_below w4 (.int .i64 R.f.op) (.string R.f.media) (.int .i64 R.f.frame) (.int .i64 R.f.num) (.int .i64 R.f.den) (.int .i64 R.f.par) (.string R.f.text) (.slice a7 R.f.n c7) hgrw
  have hx8 := HX7.out.put8 hgr3 (.int .i64 R.f.op) (.string R.f.media) (.int .i64 R.f.frame) (.int .i64 R.f.num) (.int .i64 R.f.den) (.int .i64 R.f.par) (.string R.f.text) (.slice a7 R.f.n c7)
  have hz8 := HZ4.out.put R.f (.slice a7 R.f.n c7)
  have hl := load_x hz8
  obtain ⟨w8, hw8⟩ : ∃ x, x = put8 w4 gr (.int .i64 R.f.op) (.string R.f.media) (.int .i64 R.f.frame) (.int .i64 R.f.num) (.int .i64 R.f.den) (.int .i64 R.f.par) (.string R.f.text) (.slice a7 R.f.n c7) := ⟨_, rfl⟩
  rw [← hw8] at hbz hx8 hz8 hl
  unfold put8 at hw8
  rw [← hw8]
  clear hw8
  refine leaves_cons (f := 67) (args := #[.pointer (some ⟨gr, 0, none⟩)]) (by simp) (by simp [go_sem]) ?_
  refine (idle67 _ _).mono ?_
  rintro e u' w'' ⟨rfl, rfl, rfl⟩
  refine ⟨_, results_cell Try.results37 _ _ _ rfl hl, ?_⟩
  rw [← HRX.out]
  exact ⟨_, rfl, hx8.mono hs3, HB4.out.trans hbz⟩

end Go.Proofs.Ytnnobdcbmagbaaa

/- The law of simplifying. -/
namespace Go.Proofs.Ytnnobdcbmagbaaa
open Go.RowKit
set_option linter.unusedVariables false

theorem simp_eq {P : Nat → Pic} (h : ∀ i, i < 24 → PicOK i (P i)) (hB : ∀ i, i < 24 → BdF (P i).fr) {X : Ex} (hok : okX X = true) (hg : GoodX X) :
    evE P 24 16 16 (simpX X) = 0 ∧ evR P 24 16 16 (simpX X) = (evX P 24 16 16 (simpX X)).2 ∧ EqF (evX P 24 16 16 X).2 (evX P 24 16 16 (simpX X)).2 := by
  obtain ⟨s1, s2, s3⟩ := simp_ev (P := P) (m := 24) (fun d n hd hn => ⟨_, find_front h (Nat.le_refl _) (fun _ _ => rfl) hd hn, (find24 h hd hn).2.2⟩) hB X hok hg
  obtain ⟨n1, n2, _⟩ := named_own h s1 s2
  exact ⟨n1, n2, s3.symm⟩
theorem LA.bds {w : World} {v : Value} {m : Nat} {P : Nat → Pic} (h : LA w v m P) : ∀ i, i < m → BdF (P i).fr := fun i hi => by
  obtain ⟨ao, c, _, _, _, H⟩ := h
  obtain ⟨_, b, o, y, u, z, _, _, hF⟩ := H i hi
  exact ⟨hF.bdY, hF.bdU, hF.bdV⟩

set_option maxRecDepth 100000 in
set_option maxHeartbeats 1000000 in
theorem law_simple (u : Value) (w : World) (ht : RI w u) :
    Calls Try.prog 16 #[u] w fun e w' => e = .returned (.bool true) ∧ Below w.heap.size w w' := by
  have HT := Lib.hid ht
  obtain ⟨uo, un, uc, rfl, _⟩ := ht
  go_enter Try.func16, Try.ntmps16
  go_upto_region 2 with fail
  obtain ⟨w1, hw1⟩ : ∃ x, x = w.alloc (.cells #[.slice uo un uc, .int .i64 0] 61) := ⟨_, rfl⟩
  rw [← hw1]
  have hs1 : w1.heap.size = w.heap.size + 1 := by rw [hw1]; simp [go_sem]
  have hE1 : Below w.heap.size w w1 := by rw [hw1]; exact below_box _ _
  have hT1 : TP w1 w.heap.size w.heap.size 0 := by
    refine TP.start HT.out (by omega) (by omega) hE1 ?_ ?_ ?_ <;> rw [hw1] <;> simp [go_sem]
  have HTP := Lib.hid hT1
  have HB := Lib.hid hE1
  clear hw1 hE1 hT1 HT
  go_wp2_with fail
  refine (expr_any 4 w.heap.size w.heap.size 0 w1 HTP.out (by decide) (by omega)).mono ?_
  rintro e w2 ⟨va, Xa, k1, rfl, hX_, hok, hgood, hT_, hk1, hg_⟩
  have hk1' : k1 ≤ 139 := hk1
  obtain ⟨aoa, ca, hva⟩ := hX_.open
  subst hva
  have hs2 : w1.heap.size ≤ w2.heap.size := hg_.size
  have HX := Lib.hid hX_
  replace HTP := Lib.hid hT_
  have HG := Lib.hid hg_
  have HOK := Lib.hid hok
  have HGD := Lib.hid hgood
  clear hX_ hT_ hg_ hk1 hok hgood
  simp only [Fld.val]
  go_wp2_with fail
  obtain ⟨w3, hw3⟩ : ∃ x, x = w2.alloc (.cells #[.int .i64 Xa.f.op, .string Xa.f.media, .int .i64 Xa.f.frame, .int .i64 Xa.f.num, .int .i64 Xa.f.den, .int .i64 Xa.f.par, .string Xa.f.text, .slice aoa Xa.f.n ca] 58) := ⟨_, rfl⟩
  rw [← hw3]
  obtain ⟨gE, hgE⟩ : ∃ g, g = w2.heap.size := ⟨_, rfl⟩
  have hs3 : w3.heap.size = w2.heap.size + 1 := by rw [hw3]; simp [go_sem]
  have hE3 : Below w2.heap.size w2 w3 := by rw [hw3]; exact below_box _ _
  have hB3 : B8 w3 gE Xa.f (.slice aoa Xa.f.n ca) := by rw [hw3, hgE]; exact B8.of_alloc w2 _ Xa.f _ 58 rfl
  rw [← hgE]
  replace HX := Lib.hid (HX.out.bel hE3)
  replace HTP := Lib.hid (HTP.out.below hE3)
  replace HB := Lib.hid ((HB.out.trans (only_below HG.out (by omega) (by omega))).trans (hE3.mono (by omega)))
  have HBx := Lib.hid hB3
  have hgE1 : w.heap.size < gE := by omega
  have hgE2 : gE < w3.heap.size := by omega
  clear hw3 hE3 hB3 HG hgE
  refine (pictures_any w.heap.size w.heap.size k1 w3 HTP.out (by omega)).mono ?_
  rintro e w4 ⟨vl, xs, P, k2, rfl, hP_, hT_, hk2, hg_⟩
  have hs4 : w3.heap.size ≤ w4.heap.size := hg_.size
  have HPS := Lib.hid hP_
  obtain ⟨gl, capl, rfl, hgl, hcapl⟩ : ∃ g cap, vl = .slice (some ⟨g, 0, none⟩) 24 cap ∧ w3.heap.size ≤ g ∧ 24 ≤ cap := by
    rcases hP_.row with ⟨_, h, _⟩ | ⟨g, cap, cur, h1, h2, h3, h4, h5⟩
    · omega
    · exact ⟨g, cap, h1, h2, h4⟩
  replace HTP := Lib.hid hT_
  replace HBx := Lib.hid (HBx.out.only (by omega) hg_)
  replace HX := Lib.hid (HX.out.only (by omega) hg_)
  replace HB := Lib.hid (HB.out.trans (only_below hg_ (by omega) (by omega)))
  clear hP_ hT_ hg_
  have HNP := Lib.hid (show ∀ i, i < 24 → PicOK i (P i) from HPS.out.names)
  have HPL := Lib.hid (show PL w4 w3.heap.size (.slice (some ⟨gl, 0, none⟩) 24 capl) 24 P from ⟨xs, HPS.out.row, HPS.out.holds⟩)
  replace HX := Lib.hid HX.out.XA
  clear HPS HTP hk1' hk2
  have HE0 := Lib.hid (named_own (X := Xa) HNP.out HOK.out HGD.out)
  obtain ⟨F, hF⟩ : ∃ F, F = (evX P 24 16 16 Xa).2 := ⟨_, rfl⟩
  rw [← hF] at HE0
  have HFq := Lib.hid hF
  clear hF
  -- region 5
  obtain ⟨b0, b1, b2, b3, b4, b5, b6, b7⟩ := HBx.out
  go_wp2_with fail
  refine (eval_any _ _ Xa 24 P 16 16 w4 HX.out HPL.out.LA).mono ?_
  rintro e w5 ⟨xa, rfl, hFa, hba⟩
  rw [HE0.out.1]
  rw [HE0.out.2.1] at hFa
  obtain ⟨prY, crY, prU, crU, prV, crV, rfl⟩ := hFa.shape
  have HFa := Lib.hid hFa
  have HBa := Lib.hid hba
  clear hFa hba b0 b1 b2 b3 b4 b5 b6 b7
  go_upto_region 5 with fail
  obtain ⟨w6, hw6⟩ : ∃ x, x = w5.alloc (.cells #[.int .i64 F.W, .int .i64 F.H, .slice prY F.nY crY, .slice prU F.nU crU, .slice prV F.nV crV] 26) := ⟨_, rfl⟩
  rw [← hw6]
  obtain ⟨ga, hga⟩ : ∃ g, g = w5.heap.size := ⟨_, rfl⟩
  have hB6 : Below w5.heap.size w5 w6 := by rw [hw6]; exact below_box _ _
  have BXa := Lib.hid (show BX w6 ga _ _ _ _ _ by rw [hw6, hga]; exact BX.of_alloc _ _ _ _ _ _ _)
  rw [← hga]
  have hs5' := HBa.out.size
  have hs6 := HBa.out.size
  replace HFa := Lib.hid (HFa.out.below hB6)
  have hB46 := HBa.out.trans (hB6.mono hs6)
  replace HPL := Lib.hid (HPL.out.below hB46)
  replace HBx := Lib.hid (HBx.out.below hB46)
  replace HX := Lib.hid (HX.out.bel hB46)
  replace HB := Lib.hid (HB.out.trans (hB46.mono HB.out.size))
  clear hw6 hB6 hB46 HBa hga
  have HE1 := Lib.hid (simp_eq HNP.out HPL.out.LA.bds HOK.out HGD.out)
  rw [← HFq.out] at HE1
  have HF16 := Lib.hid HE0.out.2.2
  obtain ⟨G, hG⟩ : ∃ G, G = (evX P 24 16 16 (simpX Xa)).2 := ⟨_, rfl⟩
  rw [← hG] at HE1
  have HGq := Lib.hid hG
  clear hG HFq HE0 HNP HGD
  obtain ⟨b0, b1, b2, b3, b4, b5, b6, b7⟩ := HBx.out
  have HC1 := Lib.hid (simp_any _ _ w6 HX.out HOK.out)
  unfold Fld.val at HC1
  go_wp2_with fail
  refine HC1.out.mono ?_
  rintro e w7 ⟨v7, rfl, hX7, hb7⟩
  obtain ⟨a7, c7, rfl⟩ := hX7.open
  have HX7 := Lib.hid hX7
  have HB67 := Lib.hid hb7
  have HPL7 := Lib.hid (HPL.out.below hb7)
  clear hX7 hb7 b0 b1 b2 b3 b4 b5 b6 b7 HC1
  obtain ⟨S, hS⟩ : ∃ S, S = simpX Xa := ⟨_, rfl⟩
  rw [← hS] at HX7 HE1 HGq ⊢
  clear hS
  have HC2 := Lib.hid (eval_any _ _ S 24 P 16 16 w7 HX7.out.XA HPL7.out.LA)
  unfold Fld.val at HC2 ⊢
  go_wp2_with fail
  refine HC2.out.mono ?_
  rintro e w8 ⟨xb, rfl, hFb, hbb⟩
  rw [HE1.out.1]
  rw [HE1.out.2.1] at hFb
  obtain ⟨qY, dqY, qU, dqU, qV, dqV, rfl⟩ := hFb.shape
  have HFb := Lib.hid hFb
  have HB68 := Lib.hid (HB67.out.trans (hbb.mono HB67.out.size))
  clear hFb hbb HC2 HPL7 HX7 HB67
  go_upto_region 6 with fail
  obtain ⟨w9, hw9⟩ : ∃ x, x = w8.alloc (.cells #[.int .i64 G.W, .int .i64 G.H, .slice qY G.nY dqY, .slice qU G.nU dqU, .slice qV G.nV dqV] 26) := ⟨_, rfl⟩
  rw [← hw9]
  obtain ⟨gb, hgb⟩ : ∃ g, g = w8.heap.size := ⟨_, rfl⟩
  have hB9 : Below w8.heap.size w8 w9 := by rw [hw9]; exact below_box _ _
  have BXb := Lib.hid (show BX w9 gb _ _ _ _ _ by rw [hw9, hgb]; exact BX.of_alloc _ _ _ _ _ _ _)
  rw [← hgb]
  have hB69 := HB68.out.trans (hB9.mono HB68.out.size)
  replace BXa := Lib.hid (BXa.out.below hB69)
  replace HFa := Lib.hid (HFa.out.below hB69)
  replace HFb := Lib.hid (HFb.out.below hB9)
  replace HB := Lib.hid (HB.out.trans (hB69.mono HB.out.size))
  clear hw9 hgb hB9 hB69 HB68
  obtain ⟨a0, a1, a2, a3, a4⟩ := BXa.out
  obtain ⟨d0, d1, d2, d3, d4⟩ := BXb.out
  go_wp2_with fail
  refine (same_yes _ _ _ _ w9 HFa.out HFb.out HE1.out.2.2.same).mono ?_
  rintro e we ⟨rfl, hbe⟩
  have HBe := Lib.hid (HB.out.trans (hbe.mono HB.out.size))
  replace HFa := Lib.hid (HFa.out.below hbe)
  replace BXa := Lib.hid (BXa.out.below hbe)
  clear hbe a0 a1 a2 a3 a4 d0 d1 d2 d3 d4
  obtain ⟨a0, a1, a2, a3, a4⟩ := BXa.out
  go_wp2_with fail
  refine (r20valid_any _ F we HFa.out).mono ?_
  rintro e wf ⟨rfl, hwf⟩
  rw [HF16.out.1]
  have hbf : Below we.heap.size we wf := by rw [← hwf]; exact below_box _ _
  have HBf := Lib.hid (HBe.out.trans (hbf.mono HBe.out.size))
  clear hbf hwf a0 a1 a2 a3 a4
  go_wp2_with fail
  refine (awake_any _).mono ?_
  rintro e wz ⟨rfl, hbz⟩
  have HBz := Lib.hid (HBf.out.trans (hbz.mono HBf.out.size))
  clear hbz
  go_wp2_with fail
  go_ret
  exact ⟨rfl, HBz.out⟩

end Go.Proofs.Ytnnobdcbmagbaaa


namespace Go.Proofs.Ytnnobdcbmagbaaa.composeSimple
open Go.ChangeShapes Go.WideShapes Go.ChangeAt Go.RowKit
set_option linter.unusedVariables false

theorem own : ownKnob Try.prog.godebug = none := by kernel_rfl

set_option maxRecDepth 100000 in
theorem lifted (os : Os) (started : os.Started) (H : Type) (enc : TypeId × Value → H) :
    ReturnsInHanded {} Try.checked os 16 .any (Rows.composeSimpleSpec.pre6 enc Try.prog Try.f16 Rows.composeSimpleRow.domain false) (Rows.composeSimpleSpec.post enc Try.prog Try.f16 false true false false) := by
  refine returnsInHanded_of_change (C := Try.checked) own started (by kernel_rfl) Try.func16
    (ChangeSpec.witness6 (enc := enc) (C := Try.checked) false ⟨#[], #[.slice none 0 0], []⟩ 8 (by kernel_rfl) (by kernel_rfl) (by kernel_rfl) (by kernel_rfl)) ?_
  intro W base args ds gs before hval0 hW hcnd _
  have hval : ∀ (j : Nat) t v, Try.f16.params[j]? = some t → args[j]? = some v → Value.okWide Try.prog W .any base t v := hval0
  have hW' := hW
  obtain ⟨p, q, hA0, hV, rfl, hfz, hnd⟩ := hW
  have hA : DataW.TrodAll enc Try.prog W 0 (fun _ => true) true Try.f16.params.toList args.toList ds p := hA0
  have hAk := hA
  rw [Try.params16] at hA hval
  obtain ⟨v0, vs0, d0, ds0, p0, q0, hargs, rfl, rfl, h0, r0⟩ := trodAll_cons hA
  obtain ⟨rfl, rfl, rfl⟩ := trodAll_nil r0
  obtain rfl : args = #[v0] := by cases args; simp_all
  obtain ⟨rfl, rfl⟩ := trodVars_none hV
  have hr0 := open_tape (hval 0 33 v0 rfl rfl) h0
  simp only [List.append_nil] at hW' hAk
  refine (law_simple v0 W hr0).mono fun e W' ⟨he, hg⟩ => ?_
  subst he
  exact ⟨_, rfl, composeBlack.post_of_below (pv := []) hW' (fun _ _ _ => (trodAll_cons_mk (shut_bool Try.underlying4 _) trodAll_mk0)) (fun sp hsp => trodAll_stays laid_out hg (by kernel_rfl) hAk (fun x hx => hW'.lt x (by simpa using hx)) (fun x hx => hsp x (by simpa using hx))) (fun _ _ => rfl) (by simp)
    hg (ok_one (by kernel_rfl) rfl (okWide_bool_mk Try.underlying4 _))⟩

theorem over : Rows.composeSimpleRow.holds Try.pinned (OpenSpec.ofChange Rows.composeSimpleSpec) :=
  OpenClaim.holds_of_wide 16 Try.f16 rfl rfl rfl rfl rfl rfl rfl ⟨rfl, rfl, rfl, rfl, rfl⟩ rfl rfl rfl rfl rfl (by kernel_rfl) Try.func16 (by kernel_rfl)
    (of_decide_eq_true (by kernel_rfl)) (by unfold Func.isWrapper; first | (rw [if_pos (by decide +kernel)]; kernel_rfl) | (rw [if_neg (by decide +kernel)]; exact ⟨rfl, rfl⟩))
    (fun os started H enc _ => lifted os started H enc)

/-- The statement. -/
theorem proved : Rows.ComposeSimpleSaid :=
  over
end Go.Proofs.Ytnnobdcbmagbaaa.composeSimple
