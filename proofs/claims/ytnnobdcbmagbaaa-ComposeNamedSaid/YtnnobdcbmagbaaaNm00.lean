/- Rows.ComposeNamedSaid is proved here, for every input; the walk is law_named. -/
import Derived.Deep.Heap
import Derived.Deep.CutRange
import Derived.Test.YtnnobdcbmagbaaaRows
import Derived.WalkKit
import Derived.ProofKit
import Derived.OpenShut
import Derived.Test.YtnnobdcbmagbaaaEv04
import Derived.Test.YtnnobdcbmagbaaaEv10
import Derived.Test.YtnnobdcbmagbaaaEv23
import Derived.Test.YtnnobdcbmagbaaaEv25
import Derived.Test.YtnnobdcbmagbaaaEv26
import Derived.Test.YtnnobdcbmagbaaaEv27
set_option linter.unusedVariables false
set_option linter.unusedSimpArgs false

/- Plain laws of evaluation: sources that are found, frames that stay, pictures that do not matter. -/
namespace Go.Proofs.Ytnnobdcbmagbaaa
open Go.RowKit
set_option linter.unusedVariables false

/-- Picture i has the name. -/
def Hit (P : Nat → Pic) (md : ByteArray) (nb : Int) (i : Nat) : Prop := (P i).media = md ∧ (P i).num = nb
theorem findP_none {P : Nat → Pic} {md : ByteArray} {nb : Int} {k : Nat} (h0 : ∀ i, i < k → ¬ Hit P md nb i) : findP P md nb k = none := by
  induction k with
  | zero => rfl
  | succ k ih =>
    rw [findP_skip (h0 k (by omega))]
    exact ih (fun i hi => h0 i (by omega))
theorem findP_first {P : Nat → Pic} {md : ByteArray} {nb : Int} {j : Nat} (h0 : ∀ i, i < j → ¬ Hit P md nb i) (h1 : Hit P md nb j) : ∀ {m : Nat}, j < m → findP P md nb m = some j
  | 0, h => absurd h (Nat.not_lt_zero _)
  | m + 1, h => by
    by_cases e : j = m
    · subst e
      exact findP_new (findP_none h0) h1
    · exact findP_old (findP_first h0 h1 (by omega))
theorem mName_inj {a b : Nat} (ha : a < 3) (hb : b < 3) (h : mName a = mName b) : a = b := by
  have h' := congrArg ByteArray.data h
  rcases (show a = 0 ∨ a = 1 ∨ a = 2 by omega) with rfl | rfl | rfl <;> rcases (show b = 0 ∨ b = 1 ∨ b = 2 by omega) with rfl | rfl | rfl <;> first | rfl | exact absurd h' (by decide)
theorem mName_size (d : Nat) : (mName d).size = 2 := rfl

/-- A frame of 16 by 16 samples. -/
def Fr16 (F : Fr) : Prop := F.ok = true ∧ F.W = 16 ∧ F.H = 16
theorem Fr16.pair {F G : Fr} (h : Fr16 F) (k : Fr16 G) : pairOk F G = true := pairOk_of h.1 k.1 (h.2.1.trans k.2.1.symm) (h.2.2.trans k.2.2.symm)
theorem Fr16.dim {F G : Fr} (h : Fr16 F) (d : Dim G F) : Fr16 G := by
  obtain ⟨h1, h2, h3⟩ := h
  obtain ⟨d1, d2, d3, d4, d5⟩ := d
  refine ⟨?_, d1.trans h2, d2.trans h3⟩
  unfold Fr.ok at h1 ⊢
  rw [d1, d2, d3, d4, d5]
  exact h1
theorem okFld_share {f : Fld} (h : okFld f = true) (ho : f.op = 2 ∨ f.op = 3) : okShare f.num f.den = true := by
  unfold okFld at h
  rcases ho with ho | ho <;> simp [ho, okRatio] at h <;> exact okShare_of (by omega) (by omega) (by omega) (by omega)
theorem okFld_dir {f : Fld} (h : okFld f = true) (ho : f.op = 3) : okDir f.par = true := by
  unfold okFld at h
  simp [ho] at h
  simp [okDir]
  omega
theorem okFld_thr {f : Fld} (h : okFld f = true) (ho : f.op = 4) : okThr f.par = true := by
  unfold okFld at h
  simp [ho] at h
  simp [okThr]
  omega
theorem okFld_text {f : Fld} (h : okFld f = true) (ho : f.op = 5) : okText f.text = true := by
  unfold okFld at h
  simp [ho] at h
  exact h.1

/-- Every name of the tape's expressions is found, at a frame of the size. -/
def FindOK (P : Nat → Pic) (m : Nat) : Prop := ∀ d n : Nat, d < 3 → n < 8 → ∃ j, findP P (mName d) (n : Int) m = some j ∧ Fr16 (P j).fr

theorem ev_good {P : Nat → Pic} {m : Nat} (hP : FindOK P m) : ∀ X : Ex, okX X = true → GoodX X → (evX P m 16 16 X).1 = 0 ∧ Fr16 (evX P m 16 16 X).2 := by
  intro X
  induction X with
  | nil => intro h; simp [okX] at h
  | mk f a ih =>
    intro h hg
    obtain ⟨hf, hs⟩ := okX_f h
    obtain ⟨h0, h5, hn⟩ := okFld_n hf
    have hsub : ∀ i, i < f.n → (evX P m 16 16 (a i)).1 = 0 ∧ Fr16 (evX P m 16 16 (a i)).2 := fun i hi => ih i (hs i hi) (hg.2 i hi)
    rcases (show f.op = 0 ∨ f.op = 1 ∨ f.op = 2 ∨ f.op = 3 ∨ f.op = 4 ∨ f.op = 5 by omega) with ho | ho | ho | ho | ho | ho
    · rw [evX_0 ho]
      exact ⟨rfl, by decide, rfl, rfl⟩
    · obtain ⟨d, n, hd, hn', e1, e2⟩ := hg.1 ho
      obtain ⟨j, hj, hF⟩ := hP d n hd hn'
      rw [evX_1 ho (i := j) (by rw [e1, e2]; exact hj)]
      exact ⟨rfl, hF⟩
    · have hn2 : f.n = 2 := by rw [hn, if_neg (by omega), if_neg (by omega)]
      obtain ⟨a1, a2⟩ := hsub 0 (by omega)
      obtain ⟨b1, b2⟩ := hsub 1 (by omega)
      rw [evX_2 ho a1 b1]
      unfold mixE mixR
      rw [a2.pair b2, okFld_share hf (Or.inl ho)]
      exact ⟨rfl, a2.dim ⟨rfl, rfl, rfl, rfl, rfl⟩⟩
    · have hn2 : f.n = 2 := by rw [hn, if_neg (by omega), if_neg (by omega)]
      obtain ⟨a1, a2⟩ := hsub 0 (by omega)
      obtain ⟨b1, b2⟩ := hsub 1 (by omega)
      rw [evX_3 ho a1 b1]
      unfold wipeE wipeR
      rw [a2.pair b2, okFld_share hf (Or.inr ho), okFld_dir hf ho]
      exact ⟨rfl, a2.dim ⟨rfl, rfl, rfl, rfl, rfl⟩⟩
    · have hn2 : f.n = 2 := by rw [hn, if_neg (by omega), if_neg (by omega)]
      obtain ⟨a1, a2⟩ := hsub 0 (by omega)
      obtain ⟨b1, b2⟩ := hsub 1 (by omega)
      rw [evX_4 ho a1 b1]
      unfold keyE keyR
      rw [a2.pair b2, okFld_thr hf ho]
      exact ⟨rfl, a2.dim ⟨rfl, rfl, rfl, rfl, rfl⟩⟩
    · have hn2 : f.n = 1 := by rw [hn, if_neg (by omega), if_pos ho]
      obtain ⟨a1, a2⟩ := hsub 0 (by omega)
      rw [evX_5 ho a1]
      unfold titleE titleR
      rw [a2.1, okFld_text hf ho]
      exact ⟨rfl, a2.dim ⟨rfl, rfl, rfl, rfl, rfl⟩⟩

/-- Two lists in which the names lead to the same frames give the same frame. -/
theorem ev_same {P Q : Nat → Pic} {m k : Nat} {W H : Int} (hPQ : ∀ d n : Nat, d < 3 → n < 8 → ∃ i j, findP P (mName d) (n : Int) m = some i ∧ findP Q (mName d) (n : Int) k = some j ∧ (P i).fr = (Q j).fr) :
    ∀ X : Ex, okX X = true → GoodX X → evX P m W H X = evX Q k W H X := by
  intro X
  induction X with
  | nil => intro h; simp [okX] at h
  | mk f a ih =>
    intro h hg
    obtain ⟨hf, hs⟩ := okX_f h
    obtain ⟨h0, h5, hn⟩ := okFld_n hf
    have hsub : ∀ i, i < f.n → evX P m W H (a i) = evX Q k W H (a i) := fun i hi => ih i (hs i hi) (hg.2 i hi)
    rcases (show f.op = 0 ∨ f.op = 1 ∨ f.op = 2 ∨ f.op = 3 ∨ f.op = 4 ∨ f.op = 5 by omega) with ho | ho | ho | ho | ho | ho
    · rw [evX_0 ho, evX_0 ho]
    · obtain ⟨d, n, hd, hn', e1, e2⟩ := hg.1 ho
      obtain ⟨i, j, hi, hj, hF⟩ := hPQ d n hd hn'
      rw [evX_1 ho (i := i) (by rw [e1, e2]; exact hi), evX_1 ho (i := j) (by rw [e1, e2]; exact hj), hF]
    · have hn2 : f.n = 2 := by rw [hn, if_neg (by omega), if_neg (by omega)]
      rw [evX, evX]
      simp [ho, hsub 0 (by omega), hsub 1 (by omega)]
    · have hn2 : f.n = 2 := by rw [hn, if_neg (by omega), if_neg (by omega)]
      rw [evX, evX]
      simp [ho, hsub 0 (by omega), hsub 1 (by omega)]
    · have hn2 : f.n = 2 := by rw [hn, if_neg (by omega), if_neg (by omega)]
      rw [evX, evX]
      simp [ho, hsub 0 (by omega), hsub 1 (by omega)]
    · have hn2 : f.n = 1 := by rw [hn, if_neg (by omega), if_pos ho]
      rw [evX, evX]
      simp [ho, hsub 0 (by omega)]

theorem find24 {P : Nat → Pic} (h : ∀ i, i < 24 → PicOK i (P i)) {d n : Nat} (hd : d < 3) (hn : n < 8) : (∀ i, i < d * 8 + n → ¬ Hit P (mName d) (n : Int) i) ∧ Hit P (mName d) (n : Int) (d * 8 + n) ∧ Fr16 (P (d * 8 + n)).fr := by
  refine ⟨fun i hi hh => ?_, ?_⟩
  · obtain ⟨e1, e2, _⟩ := h i (by omega)
    have e3 := mName_inj (by omega) hd (e1.symm.trans hh.1)
    have e4 := e2.symm.trans hh.2
    omega
  · obtain ⟨e1, e2, e3⟩ := h (d * 8 + n) (by omega)
    refine ⟨⟨e1.trans (by rw [show (d * 8 + n) / 8 = d by omega]), e2.trans (by rw [show (d * 8 + n) % 8 = n by omega])⟩, e3⟩
theorem find_front {P R : Nat → Pic} {m : Nat} (h : ∀ i, i < 24 → PicOK i (P i)) (hm : 24 ≤ m) (hR : ∀ i, i < 24 → R i = P i) {d n : Nat} (hd : d < 3) (hn : n < 8) : findP R (mName d) (n : Int) m = some (d * 8 + n) := by
  obtain ⟨h1, h2, _⟩ := find24 h hd hn
  refine findP_first (fun i hi hh => h1 i hi ?_) ?_ (by omega)
  · unfold Hit at hh ⊢
    rw [← hR i (by omega)]
    exact hh
  · unfold Hit at h2 ⊢
    rw [hR _ (by omega)]
    exact h2
theorem find_back {P R : Nat → Pic} (h : ∀ i, i < 24 → PicOK i (P i)) (hQ : ∀ i, i < 24 → (R i).media.size = 3) (hR : ∀ i, i < 24 → R (24 + i) = P i) {d n : Nat} (hd : d < 3) (hn : n < 8) : findP R (mName d) (n : Int) 48 = some (24 + (d * 8 + n)) := by
  obtain ⟨h1, h2, _⟩ := find24 h hd hn
  refine findP_first (fun i hi hh => ?_) ?_ (by omega)
  · by_cases h24 : i < 24
    · have := hQ i h24
      rw [hh.1, mName_size] at this
      omega
    · refine h1 (i - 24) (by omega) ?_
      unfold Hit at hh ⊢
      rw [← hR (i - 24) (by omega), show 24 + (i - 24) = i by omega]
      exact hh
  · unfold Hit at h2 ⊢
    rw [hR _ (by omega)]
    exact h2
theorem okL_of {P : Nat → Pic} {W H : Int} : ∀ {m : Nat}, (∀ i, i < m → okP W H (P i) = true) → okL P W H m = true
  | 0, _ => rfl
  | m + 1, h => by
    unfold okL
    rw [okL_of (fun i hi => h i (by omega)), h m (by omega)]
    rfl
theorem okP_16 {q : Pic} (h : Fr16 q.fr) : okP 16 16 q = true := by
  obtain ⟨h1, h2, h3⟩ := h
  simp [okP, h1, h2, h3]

/-- The list alone. -/
theorem named_own {P : Nat → Pic} (h : ∀ i, i < 24 → PicOK i (P i)) {X : Ex} (hok : okX X = true) (hg : GoodX X) : evE P 24 16 16 X = 0 ∧ evR P 24 16 16 X = (evX P 24 16 16 X).2 ∧ Fr16 (evX P 24 16 16 X).2 := by
  have hall : okAll P 24 16 16 X = true := by
    unfold okAll
    rw [hok, okL_of (fun i hi => okP_16 (h i hi).2.2)]
    rfl
  have := ev_good (P := P) (m := 24) (fun d n hd hn => ⟨_, find_front h (Nat.le_refl _) (fun _ _ => rfl) hd hn, (find24 h hd hn).2.2⟩) X hok hg
  unfold evE evR
  rw [hall]
  exact ⟨this.1, rfl, this.2⟩
theorem named_other {P R : Nat → Pic} (h : ∀ i, i < 24 → PicOK i (P i)) (hall : ∀ i, i < 48 → Fr16 (R i).fr) (hR : (∀ i, i < 24 → R i = P i) ∨ ((∀ i, i < 24 → (R i).media.size = 3) ∧ ∀ i, i < 24 → R (24 + i) = P i)) {X : Ex} (hok : okX X = true) (hg : GoodX X) :
    evE R 48 16 16 X = 0 ∧ evR R 48 16 16 X = (evX P 24 16 16 X).2 := by
  have hall : okAll R 48 16 16 X = true := by
    unfold okAll
    rw [hok, okL_of (fun i hi => okP_16 (hall i hi))]
    rfl
  have hP := ev_good (P := P) (m := 24) (fun d n hd hn => ⟨_, find_front h (Nat.le_refl _) (fun _ _ => rfl) hd hn, (find24 h hd hn).2.2⟩) X hok hg
  have he : evX P 24 16 16 X = evX R 48 16 16 X := by
    refine ev_same (fun d n hd hn => ?_) X hok hg
    rcases hR with hR | ⟨hQ, hR⟩
    · exact ⟨_, _, find_front h (Nat.le_refl _) (fun _ _ => rfl) hd hn, find_front h (by omega) hR hd hn, by rw [hR _ (by omega)]⟩
    · exact ⟨_, _, find_front h (Nat.le_refl _) (fun _ _ => rfl) hd hn, find_back h hQ hR hd hn, by rw [hR _ (by omega)]⟩
  unfold evE evR
  rw [hall, ← he]
  exact ⟨hP.1, rfl⟩

end Go.Proofs.Ytnnobdcbmagbaaa

/- Aid for the law of names: a picture's name is stored anew; an append that leaves all other blocks; a frame stored over a box of its own. -/
namespace Go.Proofs.Ytnnobdcbmagbaaa
open Go.RowKit
set_option linter.unusedVariables false

def upd (P : Nat → Pic) (k : Nat) (md : ByteArray) (j : Nat) : Pic := if j = k then { P j with media := md } else P j
theorem setCell_row (w : World) (g o : Nat) (v : Value) {cur : Array Value} {E : TypeId} (h : w.heap[g]? = some (.cells cur E (0, 0))) : (w.setCell ⟨g, o, none⟩ v).heap[g]? = some (.cells (cur.setIfInBounds o v) E (0, 0)) := by
  simp [World.setCell, Array.getElem?_modify, h]
theorem pic7_at (q : Pic) (ay : Option Addr) (cy : Nat) (au : Option Addr) (cu : Nat) (av : Option Addr) (cv : Nat) (md : ByteArray) {j : Nat} (hj : j ≠ 0) : (pic7 { q with media := md } ay cy au cu av cv)[j]? = (pic7 q ay cy au cu av cv)[j]? := by
  cases j with
  | zero => exact absurd rfl hj
  | succ j => simp [pic7]
theorem PL.name {w : World} {B g cap k : Nat} {P : Nat → Pic} (h : PL w B (.slice (some ⟨g, 0, none⟩) k cap) k P) {i : Nat} (hi : i < k) (md : ByteArray) (hm : md.size ≤ 9223372036854775807) :
    PL (w.setCell ⟨g, i * 7, none⟩ (.string md)) B (.slice (some ⟨g, 0, none⟩) k cap) k (upd P i md) ∧ (∃ u, w.cell? ⟨g, i * 7, none⟩ = some u ∧ ∀ q, u ≠ .int .u8 q) := by
  obtain ⟨xs, h1, h2⟩ := h
  have h1' := h1
  have hcell : w.cell? ⟨g, i * 7, none⟩ = some (.string (P i).media) := by
    obtain ⟨_, ay, cy, au, cu, av, cv, hx, _⟩ := h2 i hi
    exact h1'.cell ((hx 0 (by decide)).trans rfl)
  refine ⟨?_, _, hcell, by simp⟩
  rcases h1 with ⟨h, _⟩ | ⟨g', cap', cur, e, hB, hg, hk, hc, hsz, hpl, htk, hlen⟩
  · simp at h
  · simp only [Value.slice.injEq, Option.some.injEq, Addr.mk.injEq, and_true, true_and] at e
    obtain ⟨rfl, rfl⟩ := e
    have hlt : i * 7 < k * 7 := by omega
    refine ⟨xs.set (i * 7) (.string md), Or.inr ⟨g, cap, cur.setIfInBounds (i * 7) (.string md), rfl, hB, setCell_row w g _ _ hg, hk, hc, by simpa using hsz, ?_, ?_, by simpa using hlen⟩, ?_⟩
    · intro u hu q
      simp only [Array.toList_setIfInBounds] at hu
      rcases List.mem_or_eq_of_mem_set hu with hu | rfl
      · exact hpl u hu q
      · simp
    · rw [Array.toList_setIfInBounds, List.take_set, htk]
    · intro j hj
      obtain ⟨hf, ay, cy, au, cu, av, cv, hx, hF⟩ := h2 j hj
      have hF' := hF.put hcell (by simp) (.string md)
      by_cases e : j = i
      · subst e
        have e2 : upd P j md j = { P j with media := md } := by simp [upd]
        rw [e2]
        refine ⟨⟨hm, hf.lo, hf.hi⟩, ay, cy, au, cu, av, cv, fun n hn => ?_, hF'⟩
        by_cases hn0 : n = 0
        · subst hn0
          rw [Nat.add_zero, List.getElem?_set_self (by omega)]
          rfl
        · rw [List.getElem?_set_ne (by omega), pic7_at _ _ _ _ _ _ _ _ hn0]
          exact hx n hn
      · have e2 : upd P i md j = P j := by simp [upd, e]
        rw [e2]
        refine ⟨hf, ay, cy, au, cu, av, cv, fun n hn => ?_, hF'⟩
        rw [List.getElem?_set_ne (by omega)]
        exact hx n hn
theorem PL.media {w : World} {B g cap k : Nat} {P : Nat → Pic} (h : PL w B (.slice (some ⟨g, 0, none⟩) k cap) k P) {i : Nat} (hi : i < k) : w.cell? ⟨g, i * 7, none⟩ = some (.string (P i).media) := by
  obtain ⟨xs, h1, h2⟩ := h
  obtain ⟨_, ay, cy, au, cu, av, cv, hx, _⟩ := h2 i hi
  exact h1.cell ((hx 0 (by decide)).trans rfl)
theorem PL.thaw {w : World} {B g cap k : Nat} {P : Nat → Pic} (h : PL w B (.slice (some ⟨g, 0, none⟩) k cap) k P) (o : Nat) : w.frozen? ⟨g, o, none⟩ = false := by
  obtain ⟨xs, h1, h2⟩ := h
  rcases h1 with ⟨h, _⟩ | ⟨g', cap', cur, e, hB, hg, _⟩
  · simp at h
  · simp only [Value.slice.injEq, Option.some.injEq, Addr.mk.injEq, and_true, true_and] at e
    obtain ⟨rfl, rfl⟩ := e
    simp [World.frozen?, hg]
theorem PL.lt {w : World} {B g cap k : Nat} {P : Nat → Pic} (h : PL w B (.slice (some ⟨g, 0, none⟩) k cap) k P) : B ≤ g ∧ g < w.heap.size := by
  obtain ⟨xs, h1, h2⟩ := h
  rcases h1 with ⟨h, _⟩ | ⟨g', cap', cur, e, hB, hg, _⟩
  · simp at h
  · simp only [Value.slice.injEq, Option.some.injEq, Addr.mk.injEq, and_true, true_and] at e
    obtain ⟨rfl, rfl⟩ := e
    exact ⟨hB, (Array.getElem?_eq_some_iff.1 hg).1⟩
theorem PL.open {w : World} {B k : Nat} {v : Value} {P : Nat → Pic} (h : PL w B v k P) (hk : 0 < k) : ∃ g cap, v = .slice (some ⟨g, 0, none⟩) k cap := by
  obtain ⟨xs, h1, h2⟩ := h
  rcases h1 with ⟨_, h, _⟩ | ⟨g', cap', cur, e, _⟩
  · omega
  · exact ⟨g', cap', e⟩

/-- append of m pictures to a list that is not nil: all other blocks stay. -/
theorem wpList_appY (w : World) {ops : Array Oper} {rest : List Oper} {op : Oper} {a : Act} {Q : Exit → Act → World → Prop} (hg : op.guard = none) (s x : Operand)
    (hop : op.op = .call { callee := .builtin .append, args := #[s, x], argTypes := #[59, 59] }) (hty : op.type = 59) (B : Nat) (g k cap : Nat) (P : Nat → Pic) (hs : a.eval s = .slice (some ⟨g, 0, none⟩) k cap) (h : PL w B (.slice (some ⟨g, 0, none⟩) k cap) k P) (hB : B ≤ w.heap.size)
    (b o m c : Nat) (R : Nat → Pic) (hx : a.eval x = .slice (some ⟨b, o, none⟩) m c) (hL : LA w (.slice (some ⟨b, o, none⟩) m c) m R) (hm : 0 < m) (hfit : (k + m) * 112 ≤ 140737488355328)
    (hK : ∀ g' c' w', PL w' B (.slice (some ⟨g', 0, none⟩) (k + m) c') (k + m) (cat k P R) → Below B w w' → (∀ b, b < w.heap.size → b ≠ g → w'.heap[b]? = w.heap[b]?) → wpList Try.prog ops Q rest (a.put op.dst (.slice (some ⟨g', 0, none⟩) (k + m) c')) w') : wpList Try.prog ops Q (op :: rest) a w := by
  refine wpList_plain hg fun K hK' => ?_
  obtain ⟨xs, h1, h2⟩ := h
  obtain ⟨ys, hl, y1, y2, y3, y4⟩ := hL.cells
  obtain ⟨v', w', hrun, r1, r2, _, r3, _⟩ := append_x w B 59 68 7 112 zp Try.underlying59 info68 zeros68 _ k xs h1 hB ⟨b, o, none⟩ m c ys hl y1 y2 y3 hm (by unfold maxLen; omega) (fun cap h1 h2 => growslice_fits h2 hfit)
  have hlx : xs.length = k * 7 := h1.len
  have hP : PL w' B v' (k + m) (cat k P R) := ⟨xs ++ ys, r1, (h2.app hlx y4).mono r2.fa⟩
  obtain ⟨g', c', rfl⟩ := hP.open (by omega)
  unfold Oper.wp
  simp [execOp, hop, resolve, invoke, builtin, hs, hx, hty, hrun, Result.andThen]
  exact hK' _ _ (hK g' c' w' hP r2.below (fun b hb hne => r3 b hb (fun g1 c1 e hbg => by
    simp only [Value.slice.injEq, Option.some.injEq, Addr.mk.injEq, and_true, true_and] at e
    exact hne (hbg.trans e.1.symm))))

theorem BX.of_block {w w' : World} {b : Nat} {c0 c1 c2 c3 c4 : Value} (h : BX w b c0 c1 c2 c3 c4) (e : w'.heap[b]? = w.heap[b]?) : BX w' b c0 c1 c2 c3 c4 :=
  ⟨(World.cell?_of_block (w := w) (a := ⟨b, 0, none⟩) e).trans h.k0, (World.cell?_of_block (w := w) (a := ⟨b, 1, none⟩) e).trans h.k1, (World.cell?_of_block (w := w) (a := ⟨b, 2, none⟩) e).trans h.k2, (World.cell?_of_block (w := w) (a := ⟨b, 3, none⟩) e).trans h.k3, (World.cell?_of_block (w := w) (a := ⟨b, 4, none⟩) e).trans h.k4⟩
theorem BX.put {w : World} {b : Nat} {x0 x1 x2 x3 x4 : Value} (h : BX w b x0 x1 x2 x3 x4) (c0 c1 c2 c3 c4 : Value) :
    BX (((((w.setCell ⟨b, 0, none⟩ c0).setCell ⟨b, 1, none⟩ c1).setCell ⟨b, 2, none⟩ c2).setCell ⟨b, 3, none⟩ c3).setCell ⟨b, 4, none⟩ c4) b c0 c1 c2 c3 c4 := by
  obtain ⟨k0, k1, k2, k3, k4⟩ := h
  constructor <;> simp [go_sem, k0, k1, k2, k3, k4]
theorem BX.far {w : World} {b : Nat} {x0 x1 x2 x3 x4 : Value} (h : BX w b x0 x1 x2 x3 x4) {a : Addr} (hn : a.block ≠ b) (u : Value) : BX (w.setCell a u) b x0 x1 x2 x3 x4 :=
  h.of_block (Deep.blk_setCell_other w a u b (fun e => hn e.symm))
def boxZ (w : World) (b : Nat) : Prop := BX w b (.int .i64 0) (.int .i64 0) (.slice none 0 0) (.slice none 0 0) (.slice none 0 0) ∧ ∀ o, w.frozen? ⟨b, o, none⟩ = false
theorem boxZ.below {w w' : World} {b : Nat} (h : boxZ w b) (hb : Below w.heap.size w w') : boxZ w' b := ⟨h.1.below hb, fun o => (hb.frozen (p := ⟨b, o, none⟩) h.1.lt).trans (h.2 o)⟩
theorem boxZ.of_block {w w' : World} {b : Nat} (h : boxZ w b) (e : w'.heap[b]? = w.heap[b]?) : boxZ w' b := ⟨h.1.of_block e, fun o => (World.frozen?_of_block (w := w) (a := ⟨b, o, none⟩) e).trans (h.2 o)⟩
theorem boxZ.of_alloc (w : World) (b : Nat) (h : b = w.heap.size) : boxZ (w.alloc (.cells #[.int .i64 0, .int .i64 0, .slice none 0 0, .slice none 0 0, .slice none 0 0] 26)) b := by
  subst h
  exact ⟨BX.of_alloc _ _ _ _ _ _ _, fun o => by simp [go_sem]⟩
/-- A list of pictures lies in no box of a frame. -/
theorem PL.ne {w : World} {B g cap k gx : Nat} {P : Nat → Pic} (h : PL w B (.slice (some ⟨g, 0, none⟩) k cap) k P) (hk : 0 < k) (hx : boxZ w gx) : gx ≠ g := by
  rintro rfl
  have h1 := h.media hk
  rw [Nat.zero_mul] at h1
  have h2 := h1.symm.trans hx.1.k0
  simp at h2
/-- A frame in a box of its own. -/
def AtF (y0 : World) (F : Fr) (a : Value) (wx : World) : Prop := ∃ gx ay cy au cu av cv, a = .pointer (some ⟨gx, 0, none⟩) ∧ y0.heap.size ≤ gx ∧ BX wx gx (.int .i64 F.W) (.int .i64 F.H) (.slice ay F.nY cy) (.slice au F.nU cu) (.slice av F.nV cv) ∧
  FA wx (.agg #[.int .i64 F.W, .int .i64 F.H, .slice ay F.nY cy, .slice au F.nU cu, .slice av F.nV cv]) F
theorem AtF.below {y0 wx wy : World} {F : Fr} {a : Value} (h : AtF y0 F a wx) (hb : Below wx.heap.size wx wy) : AtF y0 F a wy := by
  obtain ⟨gx, ay, cy, au, cu, av, cv, h1, h2, h3, h4⟩ := h
  exact ⟨gx, ay, cy, au, cu, av, cv, h1, h2, h3.below hb, h4.below hb⟩
theorem AtF.far {y0 wx : World} {F : Fr} {a : Value} (h : AtF y0 F a wx) {p : Addr} {u : Value} (hp : p.block < y0.heap.size) (hc : wx.cell? p = some u) (hu : ∀ q, u ≠ .int .u8 q) (x : Value) : AtF y0 F a (wx.setCell p x) := by
  obtain ⟨gx, ay, cy, au, cu, av, cv, h1, h2, h3, h4⟩ := h
  exact ⟨gx, ay, cy, au, cu, av, cv, h1, h2, h3.far (by omega) x, h4.put hc hu x⟩
theorem cat_16 {P R : Nat → Pic} (h : ∀ i, i < 24 → PicOK i (P i)) (h2 : ∀ i, i < 24 → (R i).fr.ok = true ∧ (R i).fr.W = 16 ∧ (R i).fr.H = 16) (i : Nat) (hi : i < 48) : (cat (0 + 24) (cat 0 P P) R i).fr.ok = true ∧ (cat (0 + 24) (cat 0 P P) R i).fr.W = 16 ∧ (cat (0 + 24) (cat 0 P P) R i).fr.H = 16 := by
  unfold cat
  by_cases h24 : i < 0 + 24
  · rw [if_pos h24, if_neg (Nat.not_lt_zero i)]
    exact (h i (by omega)).2.2
  · rw [if_neg h24]
    exact h2 (i - (0 + 24)) (by omega)
theorem cat_lo {P R : Nat → Pic} (i : Nat) (hi : i < 24) : cat (0 + 24) (cat 0 P P) R i = P i := by
  unfold cat
  rw [if_pos (by omega), if_neg (Nat.not_lt_zero i)]
  rfl
theorem cat_hi {P R : Nat → Pic} (i : Nat) : cat (0 + 24) (cat 0 P P) R (24 + i) = R i := by
  unfold cat
  rw [if_neg (by omega), show 24 + i - (0 + 24) = i by omega]
/-- The names as far as they are changed. -/
def names (Q : Nat → Pic) (n : Nat) (j : Nat) : Pic := if j < n then { Q j with media := (⟨#[110]⟩ : ByteArray) ++ (Q j).media } else Q j
theorem names_upd (Q : Nat → Pic) (n : Nat) (md : ByteArray) (h : md = (⟨#[110]⟩ : ByteArray) ++ (Q n).media) (j : Nat) : upd (names Q n) n md j = names Q (n + 1) j := by
  subst h
  unfold upd names
  by_cases e : j = n
  · subst e
    simp
  · by_cases hlt : j < n
    · simp [e, hlt, Nat.lt_succ_of_lt hlt]
    · rw [if_neg e, if_neg hlt, if_neg (by omega)]

theorem names_fr (Q : Nat → Pic) (n j : Nat) : (names Q n j).fr = (Q j).fr := by
  unfold names
  split <;> rfl
theorem names_size {R : Nat → Pic} (h : ∀ i, i < 24 → PicOK i (R i)) (i : Nat) (hi : i < 24) : (names R 24 i).media.size = 3 := by
  unfold names
  rw [if_pos hi]
  show ((⟨#[110]⟩ : ByteArray) ++ (R i).media).size = 3
  rw [(h i hi).1, ByteArray.size_append]
  rfl
theorem names_fit {R : Nat → Pic} (h : ∀ i, i < 24 → PicOK i (R i)) (i : Nat) (hi : i < 24) : ((⟨#[110]⟩ : ByteArray) ++ (R i).media).size ≤ 9223372036854775807 := by
  rw [(h i hi).1, ByteArray.size_append]
  show 1 + 2 ≤ _
  omega
theorem names_at (R : Nat → Pic) (n : Nat) : (names R n n).media = (R n).media := by simp [names]
theorem cat_16n {P R : Nat → Pic} (h : ∀ i, i < 24 → PicOK i (P i)) (h2 : ∀ i, i < 24 → PicOK i (R i)) (i : Nat) (hi : i < 48) : (cat (0 + 24) (cat 0 (names R 24) (names R 24)) P i).fr.ok = true ∧ (cat (0 + 24) (cat 0 (names R 24) (names R 24)) P i).fr.W = 16 ∧ (cat (0 + 24) (cat 0 (names R 24) (names R 24)) P i).fr.H = 16 := by
  unfold cat
  by_cases h24 : i < 0 + 24
  · rw [if_pos h24, if_neg (Nat.not_lt_zero i), names_fr]
    exact (h2 i (by omega)).2.2
  · rw [if_neg h24]
    exact (h (i - (0 + 24)) (by omega)).2.2

end Go.Proofs.Ytnnobdcbmagbaaa

/- The law of names. -/
namespace Go.Proofs.Ytnnobdcbmagbaaa
open Go.RowKit
set_option linter.unusedVariables false

theorem emp_at' (w : World) (t : TypeId) : (w.alloc (.cells #[] t)).heap[w.heap.size]? = some (.cells #[] t (0, 0)) := by
  show (w.heap.push _)[w.heap.size]? = _
  simp

set_option maxRecDepth 100000 in
set_option maxHeartbeats 1000000 in
theorem law_named (u : Value) (w : World) (ht : RI w u) :
    Calls Try.prog 15 #[u] w fun e w' => e = .returned (.bool true) ∧ Below w.heap.size w w' := by
  have HT := Lib.hid ht
  obtain ⟨uo, un, uc, rfl, _⟩ := ht
  go_enter Try.func15, Try.ntmps15
  go_upto_region 2 with fail
  obtain ⟨w1, hw1⟩ : ∃ x, x = w.alloc (.cells #[.slice uo un uc, .int .i64 0] 61) := ⟨_, rfl⟩
  rw [← hw1]
  have hs1 : w1.heap.size = w.heap.size + 1 := by rw [hw1]; simp [go_sem]
  have hE1 : Below w.heap.size w w1 := by rw [hw1]; exact below_box _ _
  have hT1 : TP w1 w.heap.size w.heap.size 0 := by
    refine TP.start HT.out (by omega) (by omega) hE1 ?_ ?_ ?_ <;> rw [hw1] <;> simp [go_sem]
  have HTP := Lib.hid hT1
  have HB := Lib.hid hE1
  clear hw1 hE1 hT1 HT
  go_wp2_with fail
  refine (expr_any 3 w.heap.size w.heap.size 0 w1 HTP.out (by decide) (by omega)).mono ?_
  rintro e w2 ⟨va, Xa, k1, rfl, hX_, hok, hgood, hT_, hk1, hg_⟩
  have hk1' : k1 ≤ 67 := hk1
  obtain ⟨aoa, ca, hva⟩ := hX_.open
  subst hva
  have hs2 : w1.heap.size ≤ w2.heap.size := hg_.size
  have HX := Lib.hid hX_
  replace HTP := Lib.hid hT_
  have HG := Lib.hid hg_
  have HOK := Lib.hid hok
  have HGD := Lib.hid hgood
  clear hX_ hT_ hg_ hk1 hok hgood
  simp only [Fld.val]
  go_wp2_with fail
  obtain ⟨w3, hw3⟩ : ∃ x, x = w2.alloc (.cells #[.int .i64 Xa.f.op, .string Xa.f.media, .int .i64 Xa.f.frame, .int .i64 Xa.f.num, .int .i64 Xa.f.den, .int .i64 Xa.f.par, .string Xa.f.text, .slice aoa Xa.f.n ca] 58) := ⟨_, rfl⟩
  rw [← hw3]
  obtain ⟨gE, hgE⟩ : ∃ g, g = w2.heap.size := ⟨_, rfl⟩
  have hs3 : w3.heap.size = w2.heap.size + 1 := by rw [hw3]; simp [go_sem]
  have hE3 : Below w2.heap.size w2 w3 := by rw [hw3]; exact below_box _ _
  have hB3 : B8 w3 gE Xa.f (.slice aoa Xa.f.n ca) := by rw [hw3, hgE]; exact B8.of_alloc w2 _ Xa.f _ 58 rfl
  rw [← hgE]
  replace HX := Lib.hid (HX.out.bel hE3)
  replace HTP := Lib.hid (HTP.out.below hE3)
  replace HB := Lib.hid ((HB.out.trans (only_below HG.out (by omega) (by omega))).trans (hE3.mono (by omega)))
  have HBx := Lib.hid hB3
  have hgE1 : w.heap.size < gE := by omega
  have hgE2 : gE < w3.heap.size := by omega
  clear hw3 hE3 hB3 HG hgE
  refine (pictures_any w.heap.size w.heap.size k1 w3 HTP.out (by omega)).mono ?_
  rintro e w4 ⟨vl, xs, P, k2, rfl, hP_, hT_, hk2, hg_⟩
  have hs4 : w3.heap.size ≤ w4.heap.size := hg_.size
  have HPS := Lib.hid hP_
  obtain ⟨gl, capl, rfl, hgl, hcapl⟩ : ∃ g cap, vl = .slice (some ⟨g, 0, none⟩) 24 cap ∧ w3.heap.size ≤ g ∧ 24 ≤ cap := by
    rcases hP_.row with ⟨_, h, _⟩ | ⟨g, cap, cur, h1, h2, h3, h4, h5⟩
    · omega
    · exact ⟨g, cap, h1, h2, h4⟩
  replace HTP := Lib.hid hT_
  replace HBx := Lib.hid (HBx.out.only (by omega) hg_)
  replace HX := Lib.hid (HX.out.only (by omega) hg_)
  replace HB := Lib.hid (HB.out.trans (only_below hg_ (by omega) (by omega)))
  clear hP_ hT_ hg_
  have HX4 := HX
  have HPS4 := HPS
  have HBx4 := HBx
  have HB4 := HB
  go_wp2_with fail
  refine (pictures_any w.heap.size w.heap.size k2 w4 HTP.out (by omega)).mono ?_
  rintro e w5 ⟨vo, ys, R, k3, rfl, hP_, hT_, hk3, hg_⟩
  have hs5 : w4.heap.size ≤ w5.heap.size := hg_.size
  have HPR := Lib.hid hP_
  have HG45 := Lib.hid hg_
  obtain ⟨go, capo, rfl, hgo, hcapo⟩ : ∃ g cap, vo = .slice (some ⟨g, 0, none⟩) 24 cap ∧ w4.heap.size ≤ g ∧ 24 ≤ cap := by
    rcases hP_.row with ⟨_, h, _⟩ | ⟨g, cap, cur, h1, h2, h3, h4, h5⟩
    · omega
    · exact ⟨g, cap, h1, h2, h4⟩
  have HNP := Lib.hid (show ∀ i, i < 24 → PicOK i (P i) from HPS.out.names)
  have HNR := Lib.hid (show ∀ i, i < 24 → PicOK i (R i) from hP_.names)
  have HPL := Lib.hid (show PL w5 w3.heap.size (.slice (some ⟨gl, 0, none⟩) 24 capl) 24 P from ⟨xs, (HPS.out.only (by omega) hg_).row, (HPS.out.only (by omega) hg_).holds⟩)
  have HRL := Lib.hid (show PL w5 w4.heap.size (.slice (some ⟨go, 0, none⟩) 24 capo) 24 R from ⟨ys, hP_.row, hP_.holds⟩)
  replace HBx := Lib.hid (HBx.out.only (by omega) hg_)
  replace HX := Lib.hid (HX.out.only (by omega) hg_).XA
  replace HB := Lib.hid (HB.out.trans (only_below hg_ (by omega) (by omega)))
  clear hP_ hT_ hg_ HPS HTP hk1' hk2 hk3 HPR
  have hgo5 : go < w5.heap.size := HRL.out.lt.2
  have HE0 := Lib.hid (named_own (X := Xa) HNP.out HOK.out HGD.out)
  obtain ⟨F, hF⟩ : ∃ F, F = (evX P 24 16 16 Xa).2 := ⟨_, rfl⟩
  rw [← hF] at HE0
  have HFq := Lib.hid hF
  clear hF
  -- region 5
  obtain ⟨b0, b1, b2, b3, b4, b5, b6, b7⟩ := HBx.out
  go_wp2_with fail
  refine (eval_any _ _ Xa 24 P 16 16 w5 HX.out HPL.out.LA).mono ?_
  rintro e w6 ⟨xa, rfl, hFa, hba⟩
  rw [HE0.out.1]
  rw [HE0.out.2.1] at hFa
  obtain ⟨prY, crY, prU, crU, prV, crV, rfl⟩ := hFa.shape
  have HFa := Lib.hid hFa
  have HBa := Lib.hid hba
  clear hFa hba b0 b1 b2 b3 b4 b5 b6 b7
  go_upto_region 6 with fail
  obtain ⟨w7, hw7⟩ : ∃ x, x = w6.alloc (.cells #[.int .i64 F.W, .int .i64 F.H, .slice prY F.nY crY, .slice prU F.nU crU, .slice prV F.nV crV] 26) := ⟨_, rfl⟩
  rw [← hw7]
  obtain ⟨ga, hga⟩ : ∃ g, g = w6.heap.size := ⟨_, rfl⟩
  have hB7 : Below w6.heap.size w6 w7 := by rw [hw7]; exact below_box _ _
  have BXa := Lib.hid (show BX w7 ga _ _ _ _ _ by rw [hw7, hga]; exact BX.of_alloc _ _ _ _ _ _ _)
  rw [← hga]
  have hs6 := HBa.out.size
  have hAF : AtF w5 F (.pointer (some ⟨ga, 0, none⟩)) w7 := ⟨ga, _, _, _, _, _, _, rfl, by omega, BXa.out, HFa.out.below hB7⟩
  have HAF := Lib.hid hAF
  have hB57 := HBa.out.trans (hB7.mono hs6)
  have HB57 := Lib.hid hB57
  replace HPL := Lib.hid (HPL.out.below hB57)
  replace HRL := Lib.hid (HRL.out.below hB57)
  replace HBx := Lib.hid (HBx.out.below hB57)
  replace HX := Lib.hid (HX.out.bel hB57)
  replace HB := Lib.hid (HB.out.trans (hB57.mono HB.out.size))
  have hs7 := hB57.size
  clear hAF hw7 hB7 hB57 HFa HBa BXa hs6 hga
  have HE1 := Lib.hid (named_other (X := Xa) (P := P) (R := cat (0 + 24) (cat 0 P P) R) HNP.out (cat_16 HNP.out (fun i hi => (HNR.out i hi).2.2)) (Or.inl cat_lo) HOK.out HGD.out)
  rw [← HFq.out] at HE1
  go_cut [9, 10] from 9 to 38 (fun a b wx => b = .int .i64 0 ∧ AtF w7 F a wx ∧ Below w7.heap.size w7 wx)
  case first =>
    refine Plan.wp_region_tree (fun w' => Below w7.heap.size w7 w') (.run ([0, 2, 4].map (·, true)) (.fork 1 (.dyn (.fork 3 (.dyn (.fork 5 (.dyn (.fork 6 (.dyn (.run (([7, 8, 9].map (·, true)) ++ (([10, 11].map (·, false)) ++ ([12].map (·, true)))) .leaf)) 10 (.dyn (.run (([6].map (·, false)) ++ (([7, 8, 9].map (·, true)) ++ (([11].map (·, false)) ++ ([12].map (·, true))))) .leaf)))) 10 (.dyn (.run (([5, 6].map (·, false)) ++ (([7, 8, 9].map (·, true)) ++ (([11].map (·, false)) ++ ([12].map (·, true))))) .leaf)))) 10 (.dyn (.run (([3, 5, 6].map (·, false)) ++ (([7, 8, 9].map (·, true)) ++ (([11].map (·, false)) ++ ([12].map (·, true))))) .leaf)))) 10 (.dyn (.run (([1, 3, 5, 6].map (·, false)) ++ (([7, 8, 9].map (·, true)) ++ (([11].map (·, false)) ++ ([12].map (·, true))))) .leaf)))) (by kernel_rfl) (by kernel_rfl) (by kernel_rfl) (Below.refl _ _).drew ?_
    obtain ⟨y0, hy⟩ : ∃ x, x = w7.drew := ⟨_, rfl⟩
    rw [← hy]
    have HD := Lib.hid (show Below w7.heap.size w7 y0 by rw [hy]; exact (Below.refl _ _).drew)
    clear hy
    refine Plan.tree_run ?_
    refine' Plan.plan_seg _ [0, 2, 4] ([]) (by kernel_rfl) (by kernel_rfl) rfl (by exact HD.out) (fun wx hS => ?_) ?_
    rotate_left
    · obtain ⟨b0, b1, b2, b3, b4, b5, b6, b7⟩ := HBx.out.below hS
      clear hS
      go_light
      iterate 3 (apply Plan.seg_pick; rfl; intro K hK; go_wp)
      exact Plan.seg_nil
    refine Plan.plan_nil ?_
    refine Plan.tree_fork ?_ ?_
    · skip
      refine Plan.op_of_list rfl (fun K hK => ?_)
      go_wp2_with fail
      obtain ⟨y1, hy1⟩ : ∃ x, x = y0.alloc (.cells #[] 68) := ⟨_, rfl⟩
      rw [← hy1]
      obtain ⟨ge, hge⟩ : ∃ g, g = y0.heap.size := ⟨_, rfl⟩
      rw [← hge]
      have hbb : Below y0.heap.size y0 y1 := by rw [hy1]; exact below_box _ _
      have hemp : y1.heap[ge]? = some (.cells #[] 68 (0, 0)) := by rw [hy1, hge]; exact emp_at' _ _
      have hsz := HD.out.size
      have HL := Lib.hid (show PL y1 ge (.slice (some ⟨ge, 0, none⟩) 0 0) 0 P from PL.empty (Nat.le_refl _) hemp _)
      have hgw : w7.heap.size ≤ ge := by omega
      have hgl : ge < y1.heap.size := (Array.getElem?_eq_some_iff.1 hemp).1
      replace HD := Lib.hid (HD.out.trans (hbb.mono HD.out.size))
      clear hy1 hbb hemp hge hsz
      refine ⟨HD.out, Plan.tree_dyn _ (fun _ h => h) HD.out ?_⟩
      refine Plan.tree_fork ?_ ?_
      · skip
        refine Plan.op_of_list rfl (fun K hK => ?_)
        refine wpList_appY y1 rfl (.tmp 31) (.tmp 32) rfl rfl ge ge 0 0 P rfl HL.out (by have := HL.out.lt; omega) gl 0 24 capl P rfl ((HPL.out.below HD.out).LA) (by decide) (by decide) (fun gc cc y2 hP_ hb_ ho_ => ?_)
        have hsz := HD.out.size
        replace HL := Lib.hid hP_
        replace HD := Lib.hid (HD.out.trans (hb_.mono hgw))
        clear hP_ hb_ ho_ hsz
        go_wp2_with fail
        refine ⟨HD.out, Plan.tree_dyn _ (fun _ h => h) HD.out ?_⟩
        refine Plan.tree_fork ?_ ?_
        · skip
          refine Plan.op_of_list rfl (fun K hK => ?_)
          refine wpList_appY y2 rfl (.tmp 33) (.tmp 34) rfl rfl ge gc (0 + 24) cc (cat 0 P P) rfl HL.out (by have := HL.out.lt; omega) go 0 24 capo R rfl ((HRL.out.below HD.out).LA) (by decide) (by decide) (fun gd cd y3 hP_ hb_ ho_ => ?_)
          have hsz := HD.out.size
          replace HL := Lib.hid hP_
          replace HD := Lib.hid (HD.out.trans (hb_.mono hgw))
          clear hP_ hb_ ho_ hsz
          go_wp2_with fail
          refine ⟨HD.out, Plan.tree_dyn _ (fun _ h => h) HD.out ?_⟩
          refine Plan.tree_fork ?_ ?_
          · skip
            refine Plan.op_of_list rfl (fun K hK => ?_)
            go_wp2_with fail
            refine (eval_any _ _ Xa (0 + 24 + 24) (cat (0 + 24) (cat 0 P P) R) 16 16 y3 (HX.out.bel HD.out) HL.out.LA).mono ?_
            rintro e y4 ⟨xr, rfl, hF_, hb_⟩
            rw [HE1.out.1]
            rw [HE1.out.2] at hF_
            obtain ⟨qY, dY, qU, dU, qV, dV, rfl⟩ := hF_.shape
            have HFr := Lib.hid hF_
            replace HD := Lib.hid (HD.out.trans (hb_.mono HD.out.size))
            clear hF_ hb_ HL
            go_wp2_with fail
            refine ⟨HD.out, Plan.tree_dyn _ (fun _ h => h) HD.out ?_⟩
            refine Plan.tree_run ?_
            refine' Plan.plan_seg _ [7, 8, 9] (([10, 11].map (·, false)) ++ ([12].map (·, true))) (by kernel_rfl) (by kernel_rfl) rfl (by exact HD.out) (fun wx hS => ?_) ?_
            rotate_left
            · skip
              clear hS
              go_light
              iterate 3 (apply Plan.seg_pick; rfl; intro K hK; go_wp)
              exact Plan.seg_nil
            refine Plan.plan_of_effect rfl (fun K hK => ?_)
            go_wp2_with fail
            obtain ⟨y5, hy5⟩ : ∃ x, x = y4.alloc (.cells #[.int .i64 0, .int .i64 0, .slice none 0 0, .slice none 0 0, .slice none 0 0] 26) := ⟨_, rfl⟩
            rw [← hy5]
            obtain ⟨gx, hgx⟩ : ∃ g, g = y4.heap.size := ⟨_, rfl⟩
            rw [← hgx]
            have hbb : Below y4.heap.size y4 y5 := by rw [hy5]; exact below_box _ _
            have HZ := Lib.hid (show boxZ y5 gx by rw [hy5, hgx]; exact boxZ.of_alloc _ _ rfl)
            have hsz := HD.out.size
            have hgx0 : w7.heap.size ≤ gx := by omega
            replace HD := Lib.hid (HD.out.trans (hbb.mono HD.out.size))
            replace HFr := Lib.hid (HFr.out.below hbb)
            clear hy5 hbb hgx hsz
            refine ⟨HD.out, ?_⟩
            obtain ⟨⟨k0, k1, k2, k3, k4⟩, kz⟩ := HZ.out
            refine Plan.plan_of_effect rfl (fun K hK => ?_)
            go_wp2_with fail
            have HBX := Lib.hid (HZ.out.1.put (.int .i64 F.W) (.int .i64 F.H) (.slice qY F.nY dY) (.slice qU F.nU dU) (.slice qV F.nV dV))
            have HFS := Lib.hid (HFr.out.put5 (x0 := .int .i64 F.W) (x1 := .int .i64 F.H) (x2 := .slice qY F.nY dY) (x3 := .slice qU F.nU dU) (x4 := .slice qV F.nV dV) k0 k1 k2 k3 k4)
            have hbS : Below w7.heap.size y5 (((((y5.setCell ⟨gx, 0, none⟩ (.int .i64 F.W)).setCell ⟨gx, 1, none⟩ (.int .i64 F.H)).setCell ⟨gx, 2, none⟩ (.slice qY F.nY dY)).setCell ⟨gx, 3, none⟩ (.slice qU F.nU dU)).setCell ⟨gx, 4, none⟩ (.slice qV F.nV dV)) := by go_grown
            obtain ⟨yz, hyz⟩ : ∃ x, x = (((((y5.setCell ⟨gx, 0, none⟩ (.int .i64 F.W)).setCell ⟨gx, 1, none⟩ (.int .i64 F.H)).setCell ⟨gx, 2, none⟩ (.slice qY F.nY dY)).setCell ⟨gx, 3, none⟩ (.slice qU F.nU dU)).setCell ⟨gx, 4, none⟩ (.slice qV F.nV dV)) := ⟨_, rfl⟩
            rw [← hyz] at HBX HFS hbS ⊢
            replace HD := Lib.hid (HD.out.trans hbS)
            clear hyz hbS k0 k1 k2 k3 k4 kz
            refine ⟨HD.out, ?_⟩
            refine' Plan.plan_seg _ [12] ([]) (by kernel_rfl) (by kernel_rfl) rfl (by exact HD.out) (fun wx hS => ?_) ?_
            rotate_left
            · skip
              clear hS
              go_light
              iterate 1 (apply Plan.seg_pick; rfl; intro K hK; go_wp)
              exact Plan.seg_nil
            refine Plan.plan_nil ?_
            refine Plan.tree_leaf ?_
            go_wp2_with fail
            go_meet
            case rel => exact ⟨rfl, ⟨gx, _, _, _, _, _, _, rfl, hgx0, HBX.out, HFS.out⟩, HD.out⟩
          · skip
            refine Plan.op_of_list rfl (fun K hK => ?_)
            go_wp2_with fail
            obtain ⟨y4, hy4⟩ : ∃ x, x = y3.alloc (.cells #[.int .i64 0, .int .i64 0, .slice none 0 0, .slice none 0 0, .slice none 0 0] 26) := ⟨_, rfl⟩
            rw [← hy4]
            obtain ⟨gx, hgx⟩ : ∃ g, g = y3.heap.size := ⟨_, rfl⟩
            rw [← hgx]
            have hbb : Below y3.heap.size y3 y4 := by rw [hy4]; exact below_box _ _
            have HZ := Lib.hid (show boxZ y4 gx by rw [hy4, hgx]; exact boxZ.of_alloc _ _ rfl)
            have hsz := HD.out.size
            have hgx0 : w7.heap.size ≤ gx := by omega
            replace HD := Lib.hid (HD.out.trans (hbb.mono HD.out.size))
            replace HL := Lib.hid (HL.out.below hbb)
            have hgl' := HL.out.lt.2
            clear hy4 hbb hgx hsz
            refine ⟨HD.out, Plan.tree_dyn _ (fun _ h => h) HD.out ?_⟩
            refine Plan.tree_run ?_
            refine Plan.plan_of_effect rfl (fun K hK => ?_)
            go_wp2_with fail
            refine (eval_any _ _ Xa (0 + 24 + 24) (cat (0 + 24) (cat 0 P P) R) 16 16 y4 (HX.out.bel HD.out) HL.out.LA).mono ?_
            rintro e y5 ⟨xr, rfl, hF_, hb_⟩
            rw [HE1.out.1]
            rw [HE1.out.2] at hF_
            obtain ⟨qY, dY, qU, dU, qV, dV, rfl⟩ := hF_.shape
            have HFr := Lib.hid hF_
            replace HD := Lib.hid (HD.out.trans (hb_.mono HD.out.size))
            replace HZ := Lib.hid (show boxZ y5 gx from HZ.out.below hb_)
            clear hF_ hb_ HL
            go_wp2_with fail
            refine ⟨HD.out, ?_⟩
            refine' Plan.plan_seg _ [7, 8, 9] (([11].map (·, false)) ++ ([12].map (·, true))) (by kernel_rfl) (by kernel_rfl) rfl (by exact HD.out) (fun wx hS => ?_) ?_
            rotate_left
            · skip
              clear hS
              go_light
              iterate 3 (apply Plan.seg_pick; rfl; intro K hK; go_wp)
              exact Plan.seg_nil
            obtain ⟨⟨k0, k1, k2, k3, k4⟩, kz⟩ := HZ.out
            refine Plan.plan_of_effect rfl (fun K hK => ?_)
            go_wp2_with fail
            have HBX := Lib.hid (HZ.out.1.put (.int .i64 F.W) (.int .i64 F.H) (.slice qY F.nY dY) (.slice qU F.nU dU) (.slice qV F.nV dV))
            have HFS := Lib.hid (HFr.out.put5 (x0 := .int .i64 F.W) (x1 := .int .i64 F.H) (x2 := .slice qY F.nY dY) (x3 := .slice qU F.nU dU) (x4 := .slice qV F.nV dV) k0 k1 k2 k3 k4)
            have hbS : Below w7.heap.size y5 (((((y5.setCell ⟨gx, 0, none⟩ (.int .i64 F.W)).setCell ⟨gx, 1, none⟩ (.int .i64 F.H)).setCell ⟨gx, 2, none⟩ (.slice qY F.nY dY)).setCell ⟨gx, 3, none⟩ (.slice qU F.nU dU)).setCell ⟨gx, 4, none⟩ (.slice qV F.nV dV)) := by go_grown
            obtain ⟨yz, hyz⟩ : ∃ x, x = (((((y5.setCell ⟨gx, 0, none⟩ (.int .i64 F.W)).setCell ⟨gx, 1, none⟩ (.int .i64 F.H)).setCell ⟨gx, 2, none⟩ (.slice qY F.nY dY)).setCell ⟨gx, 3, none⟩ (.slice qU F.nU dU)).setCell ⟨gx, 4, none⟩ (.slice qV F.nV dV)) := ⟨_, rfl⟩
            rw [← hyz] at HBX HFS hbS ⊢
            replace HD := Lib.hid (HD.out.trans hbS)
            clear hyz hbS k0 k1 k2 k3 k4 kz
            refine ⟨HD.out, ?_⟩
            refine' Plan.plan_seg _ [12] ([]) (by kernel_rfl) (by kernel_rfl) rfl (by exact HD.out) (fun wx hS => ?_) ?_
            rotate_left
            · skip
              clear hS
              go_light
              iterate 1 (apply Plan.seg_pick; rfl; intro K hK; go_wp)
              exact Plan.seg_nil
            refine Plan.plan_nil ?_
            refine Plan.tree_leaf ?_
            go_wp2_with fail
            go_meet
            case rel => exact ⟨rfl, ⟨gx, _, _, _, _, _, _, rfl, hgx0, HBX.out, HFS.out⟩, HD.out⟩
        · skip
          refine Plan.op_of_list rfl (fun K hK => ?_)
          go_wp2_with fail
          obtain ⟨y3, hy3⟩ : ∃ x, x = y2.alloc (.cells #[.int .i64 0, .int .i64 0, .slice none 0 0, .slice none 0 0, .slice none 0 0] 26) := ⟨_, rfl⟩
          rw [← hy3]
          obtain ⟨gx, hgx⟩ : ∃ g, g = y2.heap.size := ⟨_, rfl⟩
          rw [← hgx]
          have hbb : Below y2.heap.size y2 y3 := by rw [hy3]; exact below_box _ _
          have HZ := Lib.hid (show boxZ y3 gx by rw [hy3, hgx]; exact boxZ.of_alloc _ _ rfl)
          have hsz := HD.out.size
          have hgx0 : w7.heap.size ≤ gx := by omega
          replace HD := Lib.hid (HD.out.trans (hbb.mono HD.out.size))
          replace HL := Lib.hid (HL.out.below hbb)
          have hgl' := HL.out.lt.2
          clear hy3 hbb hgx hsz
          refine ⟨HD.out, Plan.tree_dyn _ (fun _ h => h) HD.out ?_⟩
          refine Plan.tree_run ?_
          refine Plan.plan_of_effect rfl (fun K hK => ?_)
          have hne : gx ≠ gc := HL.out.ne (by decide) HZ.out
          refine wpList_appY y3 rfl (.tmp 33) (.tmp 34) rfl rfl ge gc (0 + 24) cc (cat 0 P P) rfl HL.out (by have := HL.out.lt; omega) go 0 24 capo R rfl ((HRL.out.below HD.out).LA) (by decide) (by decide) (fun gd cd y4 hP_ hb_ ho_ => ?_)
          have hsz := HD.out.size
          replace HL := Lib.hid hP_
          replace HD := Lib.hid (HD.out.trans (hb_.mono hgw))
          replace HZ := Lib.hid (show boxZ y4 gx from HZ.out.of_block (ho_ gx HZ.out.1.lt hne))
          clear hne
          clear hP_ hb_ ho_ hsz
          go_wp2_with fail
          refine ⟨HD.out, ?_⟩
          refine Plan.plan_of_effect rfl (fun K hK => ?_)
          go_wp2_with fail
          refine (eval_any _ _ Xa (0 + 24 + 24) (cat (0 + 24) (cat 0 P P) R) 16 16 y4 (HX.out.bel HD.out) HL.out.LA).mono ?_
          rintro e y5 ⟨xr, rfl, hF_, hb_⟩
          rw [HE1.out.1]
          rw [HE1.out.2] at hF_
          obtain ⟨qY, dY, qU, dU, qV, dV, rfl⟩ := hF_.shape
          have HFr := Lib.hid hF_
          replace HD := Lib.hid (HD.out.trans (hb_.mono HD.out.size))
          replace HZ := Lib.hid (show boxZ y5 gx from HZ.out.below hb_)
          clear hF_ hb_ HL
          go_wp2_with fail
          refine ⟨HD.out, ?_⟩
          refine' Plan.plan_seg _ [7, 8, 9] (([11].map (·, false)) ++ ([12].map (·, true))) (by kernel_rfl) (by kernel_rfl) rfl (by exact HD.out) (fun wx hS => ?_) ?_
          rotate_left
          · skip
            clear hS
            go_light
            iterate 3 (apply Plan.seg_pick; rfl; intro K hK; go_wp)
            exact Plan.seg_nil
          obtain ⟨⟨k0, k1, k2, k3, k4⟩, kz⟩ := HZ.out
          refine Plan.plan_of_effect rfl (fun K hK => ?_)
          go_wp2_with fail
          have HBX := Lib.hid (HZ.out.1.put (.int .i64 F.W) (.int .i64 F.H) (.slice qY F.nY dY) (.slice qU F.nU dU) (.slice qV F.nV dV))
          have HFS := Lib.hid (HFr.out.put5 (x0 := .int .i64 F.W) (x1 := .int .i64 F.H) (x2 := .slice qY F.nY dY) (x3 := .slice qU F.nU dU) (x4 := .slice qV F.nV dV) k0 k1 k2 k3 k4)
          have hbS : Below w7.heap.size y5 (((((y5.setCell ⟨gx, 0, none⟩ (.int .i64 F.W)).setCell ⟨gx, 1, none⟩ (.int .i64 F.H)).setCell ⟨gx, 2, none⟩ (.slice qY F.nY dY)).setCell ⟨gx, 3, none⟩ (.slice qU F.nU dU)).setCell ⟨gx, 4, none⟩ (.slice qV F.nV dV)) := by go_grown
          obtain ⟨yz, hyz⟩ : ∃ x, x = (((((y5.setCell ⟨gx, 0, none⟩ (.int .i64 F.W)).setCell ⟨gx, 1, none⟩ (.int .i64 F.H)).setCell ⟨gx, 2, none⟩ (.slice qY F.nY dY)).setCell ⟨gx, 3, none⟩ (.slice qU F.nU dU)).setCell ⟨gx, 4, none⟩ (.slice qV F.nV dV)) := ⟨_, rfl⟩
          rw [← hyz] at HBX HFS hbS ⊢
          replace HD := Lib.hid (HD.out.trans hbS)
          clear hyz hbS k0 k1 k2 k3 k4 kz
          refine ⟨HD.out, ?_⟩
          refine' Plan.plan_seg _ [12] ([]) (by kernel_rfl) (by kernel_rfl) rfl (by exact HD.out) (fun wx hS => ?_) ?_
          rotate_left
          · skip
            clear hS
            go_light
            iterate 1 (apply Plan.seg_pick; rfl; intro K hK; go_wp)
            exact Plan.seg_nil
          refine Plan.plan_nil ?_
          refine Plan.tree_leaf ?_
          go_wp2_with fail
          go_meet
          case rel => exact ⟨rfl, ⟨gx, _, _, _, _, _, _, rfl, hgx0, HBX.out, HFS.out⟩, HD.out⟩
      · skip
        refine Plan.op_of_list rfl (fun K hK => ?_)
        go_wp2_with fail
        obtain ⟨y2, hy2⟩ : ∃ x, x = y1.alloc (.cells #[.int .i64 0, .int .i64 0, .slice none 0 0, .slice none 0 0, .slice none 0 0] 26) := ⟨_, rfl⟩
        rw [← hy2]
        obtain ⟨gx, hgx⟩ : ∃ g, g = y1.heap.size := ⟨_, rfl⟩
        rw [← hgx]
        have hbb : Below y1.heap.size y1 y2 := by rw [hy2]; exact below_box _ _
        have HZ := Lib.hid (show boxZ y2 gx by rw [hy2, hgx]; exact boxZ.of_alloc _ _ rfl)
        have hsz := HD.out.size
        have hgx0 : w7.heap.size ≤ gx := by omega
        replace HD := Lib.hid (HD.out.trans (hbb.mono HD.out.size))
        have hne : gx ≠ ge := by omega
        replace HL := Lib.hid (HL.out.below hbb)
        have hgl' := HL.out.lt.2
        clear hy2 hbb hgx hsz
        refine ⟨HD.out, Plan.tree_dyn _ (fun _ h => h) HD.out ?_⟩
        refine Plan.tree_run ?_
        refine Plan.plan_of_effect rfl (fun K hK => ?_)
        refine wpList_appY y2 rfl (.tmp 31) (.tmp 32) rfl rfl ge ge 0 0 P rfl HL.out (by have := HL.out.lt; omega) gl 0 24 capl P rfl ((HPL.out.below HD.out).LA) (by decide) (by decide) (fun gc cc y3 hP_ hb_ ho_ => ?_)
        have hsz := HD.out.size
        replace HL := Lib.hid hP_
        replace HD := Lib.hid (HD.out.trans (hb_.mono hgw))
        replace HZ := Lib.hid (show boxZ y3 gx from HZ.out.of_block (ho_ gx HZ.out.1.lt hne))
        clear hne
        clear hP_ hb_ ho_ hsz
        go_wp2_with fail
        refine ⟨HD.out, ?_⟩
        refine Plan.plan_of_effect rfl (fun K hK => ?_)
        have hne : gx ≠ gc := HL.out.ne (by decide) HZ.out
        refine wpList_appY y3 rfl (.tmp 33) (.tmp 34) rfl rfl ge gc (0 + 24) cc (cat 0 P P) rfl HL.out (by have := HL.out.lt; omega) go 0 24 capo R rfl ((HRL.out.below HD.out).LA) (by decide) (by decide) (fun gd cd y4 hP_ hb_ ho_ => ?_)
        have hsz := HD.out.size
        replace HL := Lib.hid hP_
        replace HD := Lib.hid (HD.out.trans (hb_.mono hgw))
        replace HZ := Lib.hid (show boxZ y4 gx from HZ.out.of_block (ho_ gx HZ.out.1.lt hne))
        clear hne
        clear hP_ hb_ ho_ hsz
        go_wp2_with fail
        refine ⟨HD.out, ?_⟩
        refine Plan.plan_of_effect rfl (fun K hK => ?_)
        go_wp2_with fail
        refine (eval_any _ _ Xa (0 + 24 + 24) (cat (0 + 24) (cat 0 P P) R) 16 16 y4 (HX.out.bel HD.out) HL.out.LA).mono ?_
        rintro e y5 ⟨xr, rfl, hF_, hb_⟩
        rw [HE1.out.1]
        rw [HE1.out.2] at hF_
        obtain ⟨qY, dY, qU, dU, qV, dV, rfl⟩ := hF_.shape
        have HFr := Lib.hid hF_
        replace HD := Lib.hid (HD.out.trans (hb_.mono HD.out.size))
        replace HZ := Lib.hid (show boxZ y5 gx from HZ.out.below hb_)
        clear hF_ hb_ HL
        go_wp2_with fail
        refine ⟨HD.out, ?_⟩
        refine' Plan.plan_seg _ [7, 8, 9] (([11].map (·, false)) ++ ([12].map (·, true))) (by kernel_rfl) (by kernel_rfl) rfl (by exact HD.out) (fun wx hS => ?_) ?_
        rotate_left
        · skip
          clear hS
          go_light
          iterate 3 (apply Plan.seg_pick; rfl; intro K hK; go_wp)
          exact Plan.seg_nil
        obtain ⟨⟨k0, k1, k2, k3, k4⟩, kz⟩ := HZ.out
        refine Plan.plan_of_effect rfl (fun K hK => ?_)
        go_wp2_with fail
        have HBX := Lib.hid (HZ.out.1.put (.int .i64 F.W) (.int .i64 F.H) (.slice qY F.nY dY) (.slice qU F.nU dU) (.slice qV F.nV dV))
        have HFS := Lib.hid (HFr.out.put5 (x0 := .int .i64 F.W) (x1 := .int .i64 F.H) (x2 := .slice qY F.nY dY) (x3 := .slice qU F.nU dU) (x4 := .slice qV F.nV dV) k0 k1 k2 k3 k4)
        have hbS : Below w7.heap.size y5 (((((y5.setCell ⟨gx, 0, none⟩ (.int .i64 F.W)).setCell ⟨gx, 1, none⟩ (.int .i64 F.H)).setCell ⟨gx, 2, none⟩ (.slice qY F.nY dY)).setCell ⟨gx, 3, none⟩ (.slice qU F.nU dU)).setCell ⟨gx, 4, none⟩ (.slice qV F.nV dV)) := by go_grown
        obtain ⟨yz, hyz⟩ : ∃ x, x = (((((y5.setCell ⟨gx, 0, none⟩ (.int .i64 F.W)).setCell ⟨gx, 1, none⟩ (.int .i64 F.H)).setCell ⟨gx, 2, none⟩ (.slice qY F.nY dY)).setCell ⟨gx, 3, none⟩ (.slice qU F.nU dU)).setCell ⟨gx, 4, none⟩ (.slice qV F.nV dV)) := ⟨_, rfl⟩
        rw [← hyz] at HBX HFS hbS ⊢
        replace HD := Lib.hid (HD.out.trans hbS)
        clear hyz hbS k0 k1 k2 k3 k4 kz
        refine ⟨HD.out, ?_⟩
        refine' Plan.plan_seg _ [12] ([]) (by kernel_rfl) (by kernel_rfl) rfl (by exact HD.out) (fun wx hS => ?_) ?_
        rotate_left
        · skip
          clear hS
          go_light
          iterate 1 (apply Plan.seg_pick; rfl; intro K hK; go_wp)
          exact Plan.seg_nil
        refine Plan.plan_nil ?_
        refine Plan.tree_leaf ?_
        go_wp2_with fail
        go_meet
        case rel => exact ⟨rfl, ⟨gx, _, _, _, _, _, _, rfl, hgx0, HBX.out, HFS.out⟩, HD.out⟩
    · skip
      refine Plan.op_of_list rfl (fun K hK => ?_)
      go_wp2_with fail
      obtain ⟨y1, hy1⟩ : ∃ x, x = y0.alloc (.cells #[.int .i64 0, .int .i64 0, .slice none 0 0, .slice none 0 0, .slice none 0 0] 26) := ⟨_, rfl⟩
      rw [← hy1]
      obtain ⟨gx, hgx⟩ : ∃ g, g = y0.heap.size := ⟨_, rfl⟩
      rw [← hgx]
      have hbb : Below y0.heap.size y0 y1 := by rw [hy1]; exact below_box _ _
      have HZ := Lib.hid (show boxZ y1 gx by rw [hy1, hgx]; exact boxZ.of_alloc _ _ rfl)
      have hsz := HD.out.size
      have hgx0 : w7.heap.size ≤ gx := by omega
      replace HD := Lib.hid (HD.out.trans (hbb.mono HD.out.size))
      clear hy1 hbb hgx hsz
      refine ⟨HD.out, Plan.tree_dyn _ (fun _ h => h) HD.out ?_⟩
      refine Plan.tree_run ?_
      refine Plan.plan_of_effect rfl (fun K hK => ?_)
      go_wp2_with fail
      obtain ⟨y2, hy2⟩ : ∃ x, x = y1.alloc (.cells #[] 68) := ⟨_, rfl⟩
      rw [← hy2]
      obtain ⟨ge, hge⟩ : ∃ g, g = y1.heap.size := ⟨_, rfl⟩
      rw [← hge]
      have hbb : Below y1.heap.size y1 y2 := by rw [hy2]; exact below_box _ _
      have hemp : y2.heap[ge]? = some (.cells #[] 68 (0, 0)) := by rw [hy2, hge]; exact emp_at' _ _
      have hsz := HD.out.size
      have HL := Lib.hid (show PL y2 ge (.slice (some ⟨ge, 0, none⟩) 0 0) 0 P from PL.empty (Nat.le_refl _) hemp _)
      have hgw : w7.heap.size ≤ ge := by omega
      have hgl : ge < y2.heap.size := (Array.getElem?_eq_some_iff.1 hemp).1
      replace HD := Lib.hid (HD.out.trans (hbb.mono HD.out.size))
      have hne : gx ≠ ge := by have := HZ.out.1.lt; omega
      replace HZ := Lib.hid (show boxZ y2 gx from HZ.out.below hbb)
      clear hy2 hbb hemp hge hsz
      refine ⟨HD.out, ?_⟩
      refine Plan.plan_of_effect rfl (fun K hK => ?_)
      refine wpList_appY y2 rfl (.tmp 31) (.tmp 32) rfl rfl ge ge 0 0 P rfl HL.out (by have := HL.out.lt; omega) gl 0 24 capl P rfl ((HPL.out.below HD.out).LA) (by decide) (by decide) (fun gc cc y3 hP_ hb_ ho_ => ?_)
      have hsz := HD.out.size
      replace HL := Lib.hid hP_
      replace HD := Lib.hid (HD.out.trans (hb_.mono hgw))
      replace HZ := Lib.hid (show boxZ y3 gx from HZ.out.of_block (ho_ gx HZ.out.1.lt hne))
      clear hne
      clear hP_ hb_ ho_ hsz
      go_wp2_with fail
      refine ⟨HD.out, ?_⟩
      refine Plan.plan_of_effect rfl (fun K hK => ?_)
      have hne : gx ≠ gc := HL.out.ne (by decide) HZ.out
      refine wpList_appY y3 rfl (.tmp 33) (.tmp 34) rfl rfl ge gc (0 + 24) cc (cat 0 P P) rfl HL.out (by have := HL.out.lt; omega) go 0 24 capo R rfl ((HRL.out.below HD.out).LA) (by decide) (by decide) (fun gd cd y4 hP_ hb_ ho_ => ?_)
      have hsz := HD.out.size
      replace HL := Lib.hid hP_
      replace HD := Lib.hid (HD.out.trans (hb_.mono hgw))
      replace HZ := Lib.hid (show boxZ y4 gx from HZ.out.of_block (ho_ gx HZ.out.1.lt hne))
      clear hne
      clear hP_ hb_ ho_ hsz
      go_wp2_with fail
      refine ⟨HD.out, ?_⟩
      refine Plan.plan_of_effect rfl (fun K hK => ?_)
      go_wp2_with fail
      refine (eval_any _ _ Xa (0 + 24 + 24) (cat (0 + 24) (cat 0 P P) R) 16 16 y4 (HX.out.bel HD.out) HL.out.LA).mono ?_
      rintro e y5 ⟨xr, rfl, hF_, hb_⟩
      rw [HE1.out.1]
      rw [HE1.out.2] at hF_
      obtain ⟨qY, dY, qU, dU, qV, dV, rfl⟩ := hF_.shape
      have HFr := Lib.hid hF_
      replace HD := Lib.hid (HD.out.trans (hb_.mono HD.out.size))
      replace HZ := Lib.hid (show boxZ y5 gx from HZ.out.below hb_)
      clear hF_ hb_ HL
      go_wp2_with fail
      refine ⟨HD.out, ?_⟩
      refine' Plan.plan_seg _ [7, 8, 9] (([11].map (·, false)) ++ ([12].map (·, true))) (by kernel_rfl) (by kernel_rfl) rfl (by exact HD.out) (fun wx hS => ?_) ?_
      rotate_left
      · skip
        clear hS
        go_light
        iterate 3 (apply Plan.seg_pick; rfl; intro K hK; go_wp)
        exact Plan.seg_nil
      obtain ⟨⟨k0, k1, k2, k3, k4⟩, kz⟩ := HZ.out
      refine Plan.plan_of_effect rfl (fun K hK => ?_)
      go_wp2_with fail
      have HBX := Lib.hid (HZ.out.1.put (.int .i64 F.W) (.int .i64 F.H) (.slice qY F.nY dY) (.slice qU F.nU dU) (.slice qV F.nV dV))
      have HFS := Lib.hid (HFr.out.put5 (x0 := .int .i64 F.W) (x1 := .int .i64 F.H) (x2 := .slice qY F.nY dY) (x3 := .slice qU F.nU dU) (x4 := .slice qV F.nV dV) k0 k1 k2 k3 k4)
      have hbS : Below w7.heap.size y5 (((((y5.setCell ⟨gx, 0, none⟩ (.int .i64 F.W)).setCell ⟨gx, 1, none⟩ (.int .i64 F.H)).setCell ⟨gx, 2, none⟩ (.slice qY F.nY dY)).setCell ⟨gx, 3, none⟩ (.slice qU F.nU dU)).setCell ⟨gx, 4, none⟩ (.slice qV F.nV dV)) := by go_grown
      obtain ⟨yz, hyz⟩ : ∃ x, x = (((((y5.setCell ⟨gx, 0, none⟩ (.int .i64 F.W)).setCell ⟨gx, 1, none⟩ (.int .i64 F.H)).setCell ⟨gx, 2, none⟩ (.slice qY F.nY dY)).setCell ⟨gx, 3, none⟩ (.slice qU F.nU dU)).setCell ⟨gx, 4, none⟩ (.slice qV F.nV dV)) := ⟨_, rfl⟩
      rw [← hyz] at HBX HFS hbS ⊢
      replace HD := Lib.hid (HD.out.trans hbS)
      clear hyz hbS k0 k1 k2 k3 k4 kz
      refine ⟨HD.out, ?_⟩
      refine' Plan.plan_seg _ [12] ([]) (by kernel_rfl) (by kernel_rfl) rfl (by exact HD.out) (fun wx hS => ?_) ?_
      rotate_left
      · skip
        clear hS
        go_light
        iterate 1 (apply Plan.seg_pick; rfl; intro K hK; go_wp)
        exact Plan.seg_nil
      refine Plan.plan_nil ?_
      refine Plan.tree_leaf ?_
      go_wp2_with fail
      go_meet
      case rel => exact ⟨rfl, ⟨gx, _, _, _, _, _, _, rfl, hgx0, HBX.out, HFS.out⟩, HD.out⟩
  case rest =>
  obtain ⟨rfl, hAFb, hB8⟩ := hcut
  obtain ⟨gb, bY, eY, bU, eU, bV, eV, rfl, hgb, hBXb, hFb⟩ := hAFb
  have HAB := Lib.hid (show AtF w7 F (.pointer (some ⟨gb, 0, none⟩)) _ from ⟨gb, bY, eY, bU, eU, bV, eV, rfl, hgb, hBXb, hFb⟩)
  replace HAF := Lib.hid (HAF.out.below (hB8.mono (by omega)))
  have hgo7 : go < w7.heap.size := HRL.out.lt.2
  replace HRL := Lib.hid (HRL.out.below hB8)
  have HG4 := Lib.hid (only_low HG45.out (HB57.out.trans (hB8.mono (by omega))) (by omega))
  clear HPL HX HBx HB HG45 HB57 hB8 hBXb hFb HE1
  go_upto_region 8 with fail
  go_loopw [41] (fun i wr => ∃ n : Nat, n ≤ 24 ∧ i = .int .i64 (n : Int) ∧ w4.grownBy wr (some w.heap.size) ∧ PL wr w4.heap.size (.slice (some ⟨go, 0, none⟩) 24 capo) 24 (names R n) ∧ AtF w5 F (.pointer (some ⟨ga, 0, none⟩)) wr ∧ AtF w7 F (.pointer (some ⟨gb, 0, none⟩)) wr) (fun i _ => 24 - (intOf i).toNat)
  case atStart => exact ⟨0, by omega, rfl, HG4.out, HRL.out.congr (fun i _ => by simp [names]), HAF.out, HAB.out⟩
  case round =>
    obtain ⟨n, hn, rfl, hg, hP, hA, hBb⟩ := hrel
    have HGr := Lib.hid hg
    have HPr := Lib.hid hP
    have HAr := Lib.hid hA
    have HBr := Lib.hid hBb
    clear hg hP hA hBb HAF HAB HRL HG4
    by_cases hlt : n < 24
    · have hdec : decide ((n : Int) < 24) = true := by simp; omega
      obtain ⟨M, hM⟩ : ∃ M, M = (R n).media := ⟨_, rfl⟩
      have hc := HPr.out.media hlt
      have hz := HPr.out.thaw (n * 7)
      have hft := names_fit HNR.out n hlt
      rw [names_at, ← hM] at hc
      rw [← hM] at hft
      have HM := Lib.hid hM
      have HFT := Lib.hid hft
      have hft' : 1 + M.size ≤ 9223372036854775807 := by rw [ByteArray.size_append] at hft; exact hft
      clear hM
      go_wp2_with fail
      have hgw := HPr.out.lt.1
      have e1 : wr.cell? ⟨go, n * 7, none⟩ = some (.string M) := hc
      have hp := (HPr.out.name hlt ((⟨#[110]⟩ : ByteArray) ++ M) HFT.out).1
      refine ⟨⟨n + 1, by omega, by go_num, only_low HGr.out (Below.setCell (Below.refl _ _) hgw _) (Nat.le_refl _), hp.congr (fun i _ => names_upd R n _ (by rw [HM.out]) i), HAr.out.far (by simpa using hgo5) e1 (by simp) _, HBr.out.far (by simpa using hgo7) e1 (by simp) _⟩, ?_⟩
      simp [intOf]
      omega
    · have hdec : decide ((n : Int) < 24) = false := by simp; omega
      obtain rfl : n = 24 := by omega
      have hr4 := HGr.out.size
      have HPn := Lib.hid (show PL wr w3.heap.size (.slice (some ⟨gl, 0, none⟩) 24 capl) 24 P from ⟨xs, (HPS4.out.only (by omega) HGr.out).row, (HPS4.out.only (by omega) HGr.out).holds⟩)
      have HBn := Lib.hid (HBx4.out.only (by omega) HGr.out)
      have HXn := Lib.hid (HX4.out.only (by omega) HGr.out).XA
      have HWn := Lib.hid (HB4.out.trans (only_below HGr.out (Nat.le_refl _) (by omega)))
      have HE2 := Lib.hid (named_other (X := Xa) (P := P) (R := cat (0 + 24) (cat 0 (names R 24) (names R 24)) P) HNP.out (cat_16n HNP.out HNR.out) (Or.inr ⟨fun i hi => by rw [cat_lo i hi]; exact names_size HNR.out i hi, fun i _ => cat_hi i⟩) HOK.out HGD.out)
      rw [← HFq.out] at HE2
      clear HGr HPS4 HBx4 HX4 HB4 hdec
      go_upto_region 12 with fail
      go_cut [12, 13] from 12 to 64 (fun a b wx => b = .int .i64 0 ∧ AtF wr F a wx ∧ Below wr.heap.size wr wx)
      case first =>
        refine Plan.wp_region_tree (fun w' => Below wr.heap.size wr w') (.run ([0, 2, 4].map (·, true)) (.fork 1 (.dyn (.fork 3 (.dyn (.fork 5 (.dyn (.fork 6 (.dyn (.run (([7, 8, 9].map (·, true)) ++ (([10, 11].map (·, false)) ++ ([12].map (·, true)))) .leaf)) 10 (.dyn (.run (([6].map (·, false)) ++ (([7, 8, 9].map (·, true)) ++ (([11].map (·, false)) ++ ([12].map (·, true))))) .leaf)))) 10 (.dyn (.run (([5, 6].map (·, false)) ++ (([7, 8, 9].map (·, true)) ++ (([11].map (·, false)) ++ ([12].map (·, true))))) .leaf)))) 10 (.dyn (.run (([3, 5, 6].map (·, false)) ++ (([7, 8, 9].map (·, true)) ++ (([11].map (·, false)) ++ ([12].map (·, true))))) .leaf)))) 10 (.dyn (.run (([1, 3, 5, 6].map (·, false)) ++ (([7, 8, 9].map (·, true)) ++ (([11].map (·, false)) ++ ([12].map (·, true))))) .leaf)))) (by kernel_rfl) (by kernel_rfl) (by kernel_rfl) (Below.refl _ _).drew ?_
        obtain ⟨y0, hy⟩ : ∃ x, x = wr.drew := ⟨_, rfl⟩
        rw [← hy]
        have HD := Lib.hid (show Below wr.heap.size wr y0 by rw [hy]; exact (Below.refl _ _).drew)
        clear hy
        refine Plan.tree_run ?_
        refine' Plan.plan_seg _ [0, 2, 4] ([]) (by kernel_rfl) (by kernel_rfl) rfl (by exact HD.out) (fun wx hS => ?_) ?_
        rotate_left
        · obtain ⟨b0, b1, b2, b3, b4, b5, b6, b7⟩ := HBn.out.below hS
          clear hS
          go_light
          iterate 3 (apply Plan.seg_pick; rfl; intro K hK; go_wp)
          exact Plan.seg_nil
        refine Plan.plan_nil ?_
        refine Plan.tree_fork ?_ ?_
        · skip
          refine Plan.op_of_list rfl (fun K hK => ?_)
          go_wp2_with fail
          obtain ⟨y1, hy1⟩ : ∃ x, x = y0.alloc (.cells #[] 68) := ⟨_, rfl⟩
          rw [← hy1]
          obtain ⟨ge, hge⟩ : ∃ g, g = y0.heap.size := ⟨_, rfl⟩
          rw [← hge]
          have hbb : Below y0.heap.size y0 y1 := by rw [hy1]; exact below_box _ _
          have hemp : y1.heap[ge]? = some (.cells #[] 68 (0, 0)) := by rw [hy1, hge]; exact emp_at' _ _
          have hsz := HD.out.size
          have HL := Lib.hid (show PL y1 ge (.slice (some ⟨ge, 0, none⟩) 0 0) 0 (names R 24) from PL.empty (Nat.le_refl _) hemp _)
          have hgw : wr.heap.size ≤ ge := by omega
          have hgl : ge < y1.heap.size := (Array.getElem?_eq_some_iff.1 hemp).1
          replace HD := Lib.hid (HD.out.trans (hbb.mono HD.out.size))
          clear hy1 hbb hemp hge hsz
          refine ⟨HD.out, Plan.tree_dyn _ (fun _ h => h) HD.out ?_⟩
          refine Plan.tree_fork ?_ ?_
          · skip
            refine Plan.op_of_list rfl (fun K hK => ?_)
            refine wpList_appY y1 rfl (.tmp 57) (.tmp 58) rfl rfl ge ge 0 0 (names R 24) rfl HL.out (by have := HL.out.lt; omega) go 0 24 capo (names R 24) rfl ((HPr.out.below HD.out).LA) (by decide) (by decide) (fun gc cc y2 hP_ hb_ ho_ => ?_)
            have hsz := HD.out.size
            replace HL := Lib.hid hP_
            replace HD := Lib.hid (HD.out.trans (hb_.mono hgw))
            clear hP_ hb_ ho_ hsz
            go_wp2_with fail
            refine ⟨HD.out, Plan.tree_dyn _ (fun _ h => h) HD.out ?_⟩
            refine Plan.tree_fork ?_ ?_
            · skip
              refine Plan.op_of_list rfl (fun K hK => ?_)
              refine wpList_appY y2 rfl (.tmp 59) (.tmp 60) rfl rfl ge gc (0 + 24) cc (cat 0 (names R 24) (names R 24)) rfl HL.out (by have := HL.out.lt; omega) gl 0 24 capl P rfl ((HPn.out.below HD.out).LA) (by decide) (by decide) (fun gd cd y3 hP_ hb_ ho_ => ?_)
              have hsz := HD.out.size
              replace HL := Lib.hid hP_
              replace HD := Lib.hid (HD.out.trans (hb_.mono hgw))
              clear hP_ hb_ ho_ hsz
              go_wp2_with fail
              refine ⟨HD.out, Plan.tree_dyn _ (fun _ h => h) HD.out ?_⟩
              refine Plan.tree_fork ?_ ?_
              · skip
                refine Plan.op_of_list rfl (fun K hK => ?_)
                go_wp2_with fail
                refine (eval_any _ _ Xa (0 + 24 + 24) (cat (0 + 24) (cat 0 (names R 24) (names R 24)) P) 16 16 y3 (HXn.out.bel HD.out) HL.out.LA).mono ?_
                rintro e y4 ⟨xr, rfl, hF_, hb_⟩
                rw [HE2.out.1]
                rw [HE2.out.2] at hF_
                obtain ⟨qY, dY, qU, dU, qV, dV, rfl⟩ := hF_.shape
                have HFr := Lib.hid hF_
                replace HD := Lib.hid (HD.out.trans (hb_.mono HD.out.size))
                clear hF_ hb_ HL
                go_wp2_with fail
                refine ⟨HD.out, Plan.tree_dyn _ (fun _ h => h) HD.out ?_⟩
                refine Plan.tree_run ?_
                refine' Plan.plan_seg _ [7, 8, 9] (([10, 11].map (·, false)) ++ ([12].map (·, true))) (by kernel_rfl) (by kernel_rfl) rfl (by exact HD.out) (fun wx hS => ?_) ?_
                rotate_left
                · skip
                  clear hS
                  go_light
                  iterate 3 (apply Plan.seg_pick; rfl; intro K hK; go_wp)
                  exact Plan.seg_nil
                refine Plan.plan_of_effect rfl (fun K hK => ?_)
                go_wp2_with fail
                obtain ⟨y5, hy5⟩ : ∃ x, x = y4.alloc (.cells #[.int .i64 0, .int .i64 0, .slice none 0 0, .slice none 0 0, .slice none 0 0] 26) := ⟨_, rfl⟩
                rw [← hy5]
                obtain ⟨gx, hgx⟩ : ∃ g, g = y4.heap.size := ⟨_, rfl⟩
                rw [← hgx]
                have hbb : Below y4.heap.size y4 y5 := by rw [hy5]; exact below_box _ _
                have HZ := Lib.hid (show boxZ y5 gx by rw [hy5, hgx]; exact boxZ.of_alloc _ _ rfl)
                have hsz := HD.out.size
                have hgx0 : wr.heap.size ≤ gx := by omega
                replace HD := Lib.hid (HD.out.trans (hbb.mono HD.out.size))
                replace HFr := Lib.hid (HFr.out.below hbb)
                clear hy5 hbb hgx hsz
                refine ⟨HD.out, ?_⟩
                obtain ⟨⟨k0, k1, k2, k3, k4⟩, kz⟩ := HZ.out
                refine Plan.plan_of_effect rfl (fun K hK => ?_)
                go_wp2_with fail
                have HBX := Lib.hid (HZ.out.1.put (.int .i64 F.W) (.int .i64 F.H) (.slice qY F.nY dY) (.slice qU F.nU dU) (.slice qV F.nV dV))
                have HFS := Lib.hid (HFr.out.put5 (x0 := .int .i64 F.W) (x1 := .int .i64 F.H) (x2 := .slice qY F.nY dY) (x3 := .slice qU F.nU dU) (x4 := .slice qV F.nV dV) k0 k1 k2 k3 k4)
                have hbS : Below wr.heap.size y5 (((((y5.setCell ⟨gx, 0, none⟩ (.int .i64 F.W)).setCell ⟨gx, 1, none⟩ (.int .i64 F.H)).setCell ⟨gx, 2, none⟩ (.slice qY F.nY dY)).setCell ⟨gx, 3, none⟩ (.slice qU F.nU dU)).setCell ⟨gx, 4, none⟩ (.slice qV F.nV dV)) := by go_grown
                obtain ⟨yz, hyz⟩ : ∃ x, x = (((((y5.setCell ⟨gx, 0, none⟩ (.int .i64 F.W)).setCell ⟨gx, 1, none⟩ (.int .i64 F.H)).setCell ⟨gx, 2, none⟩ (.slice qY F.nY dY)).setCell ⟨gx, 3, none⟩ (.slice qU F.nU dU)).setCell ⟨gx, 4, none⟩ (.slice qV F.nV dV)) := ⟨_, rfl⟩
                rw [← hyz] at HBX HFS hbS ⊢
                replace HD := Lib.hid (HD.out.trans hbS)
                clear hyz hbS k0 k1 k2 k3 k4 kz
                refine ⟨HD.out, ?_⟩
                refine' Plan.plan_seg _ [12] ([]) (by kernel_rfl) (by kernel_rfl) rfl (by exact HD.out) (fun wx hS => ?_) ?_
                rotate_left
                · skip
                  clear hS
                  go_light
                  iterate 1 (apply Plan.seg_pick; rfl; intro K hK; go_wp)
                  exact Plan.seg_nil
                refine Plan.plan_nil ?_
                refine Plan.tree_leaf ?_
                go_wp2_with fail
                go_meet
                case rel => exact ⟨rfl, ⟨gx, _, _, _, _, _, _, rfl, hgx0, HBX.out, HFS.out⟩, HD.out⟩
              · skip
                refine Plan.op_of_list rfl (fun K hK => ?_)
                go_wp2_with fail
                obtain ⟨y4, hy4⟩ : ∃ x, x = y3.alloc (.cells #[.int .i64 0, .int .i64 0, .slice none 0 0, .slice none 0 0, .slice none 0 0] 26) := ⟨_, rfl⟩
                rw [← hy4]
                obtain ⟨gx, hgx⟩ : ∃ g, g = y3.heap.size := ⟨_, rfl⟩
                rw [← hgx]
                have hbb : Below y3.heap.size y3 y4 := by rw [hy4]; exact below_box _ _
                have HZ := Lib.hid (show boxZ y4 gx by rw [hy4, hgx]; exact boxZ.of_alloc _ _ rfl)
                have hsz := HD.out.size
                have hgx0 : wr.heap.size ≤ gx := by omega
                replace HD := Lib.hid (HD.out.trans (hbb.mono HD.out.size))
                replace HL := Lib.hid (HL.out.below hbb)
                have hgl' := HL.out.lt.2
                clear hy4 hbb hgx hsz
                refine ⟨HD.out, Plan.tree_dyn _ (fun _ h => h) HD.out ?_⟩
                refine Plan.tree_run ?_
                refine Plan.plan_of_effect rfl (fun K hK => ?_)
                go_wp2_with fail
                refine (eval_any _ _ Xa (0 + 24 + 24) (cat (0 + 24) (cat 0 (names R 24) (names R 24)) P) 16 16 y4 (HXn.out.bel HD.out) HL.out.LA).mono ?_
                rintro e y5 ⟨xr, rfl, hF_, hb_⟩
                rw [HE2.out.1]
                rw [HE2.out.2] at hF_
                obtain ⟨qY, dY, qU, dU, qV, dV, rfl⟩ := hF_.shape
                have HFr := Lib.hid hF_
                replace HD := Lib.hid (HD.out.trans (hb_.mono HD.out.size))
                replace HZ := Lib.hid (show boxZ y5 gx from HZ.out.below hb_)
                clear hF_ hb_ HL
                go_wp2_with fail
                refine ⟨HD.out, ?_⟩
                refine' Plan.plan_seg _ [7, 8, 9] (([11].map (·, false)) ++ ([12].map (·, true))) (by kernel_rfl) (by kernel_rfl) rfl (by exact HD.out) (fun wx hS => ?_) ?_
                rotate_left
                · skip
                  clear hS
                  go_light
                  iterate 3 (apply Plan.seg_pick; rfl; intro K hK; go_wp)
                  exact Plan.seg_nil
                obtain ⟨⟨k0, k1, k2, k3, k4⟩, kz⟩ := HZ.out
                refine Plan.plan_of_effect rfl (fun K hK => ?_)
                go_wp2_with fail
                have HBX := Lib.hid (HZ.out.1.put (.int .i64 F.W) (.int .i64 F.H) (.slice qY F.nY dY) (.slice qU F.nU dU) (.slice qV F.nV dV))
                have HFS := Lib.hid (HFr.out.put5 (x0 := .int .i64 F.W) (x1 := .int .i64 F.H) (x2 := .slice qY F.nY dY) (x3 := .slice qU F.nU dU) (x4 := .slice qV F.nV dV) k0 k1 k2 k3 k4)
                have hbS : Below wr.heap.size y5 (((((y5.setCell ⟨gx, 0, none⟩ (.int .i64 F.W)).setCell ⟨gx, 1, none⟩ (.int .i64 F.H)).setCell ⟨gx, 2, none⟩ (.slice qY F.nY dY)).setCell ⟨gx, 3, none⟩ (.slice qU F.nU dU)).setCell ⟨gx, 4, none⟩ (.slice qV F.nV dV)) := by go_grown
                obtain ⟨yz, hyz⟩ : ∃ x, x = (((((y5.setCell ⟨gx, 0, none⟩ (.int .i64 F.W)).setCell ⟨gx, 1, none⟩ (.int .i64 F.H)).setCell ⟨gx, 2, none⟩ (.slice qY F.nY dY)).setCell ⟨gx, 3, none⟩ (.slice qU F.nU dU)).setCell ⟨gx, 4, none⟩ (.slice qV F.nV dV)) := ⟨_, rfl⟩
                rw [← hyz] at HBX HFS hbS ⊢
                replace HD := Lib.hid (HD.out.trans hbS)
                clear hyz hbS k0 k1 k2 k3 k4 kz
                refine ⟨HD.out, ?_⟩
                refine' Plan.plan_seg _ [12] ([]) (by kernel_rfl) (by kernel_rfl) rfl (by exact HD.out) (fun wx hS => ?_) ?_
                rotate_left
                · skip
                  clear hS
                  go_light
                  iterate 1 (apply Plan.seg_pick; rfl; intro K hK; go_wp)
                  exact Plan.seg_nil
                refine Plan.plan_nil ?_
                refine Plan.tree_leaf ?_
                go_wp2_with fail
                go_meet
                case rel => exact ⟨rfl, ⟨gx, _, _, _, _, _, _, rfl, hgx0, HBX.out, HFS.out⟩, HD.out⟩
            · skip
              refine Plan.op_of_list rfl (fun K hK => ?_)
              go_wp2_with fail
              obtain ⟨y3, hy3⟩ : ∃ x, x = y2.alloc (.cells #[.int .i64 0, .int .i64 0, .slice none 0 0, .slice none 0 0, .slice none 0 0] 26) := ⟨_, rfl⟩
              rw [← hy3]
              obtain ⟨gx, hgx⟩ : ∃ g, g = y2.heap.size := ⟨_, rfl⟩
              rw [← hgx]
              have hbb : Below y2.heap.size y2 y3 := by rw [hy3]; exact below_box _ _
              have HZ := Lib.hid (show boxZ y3 gx by rw [hy3, hgx]; exact boxZ.of_alloc _ _ rfl)
              have hsz := HD.out.size
              have hgx0 : wr.heap.size ≤ gx := by omega
              replace HD := Lib.hid (HD.out.trans (hbb.mono HD.out.size))
              replace HL := Lib.hid (HL.out.below hbb)
              have hgl' := HL.out.lt.2
              clear hy3 hbb hgx hsz
              refine ⟨HD.out, Plan.tree_dyn _ (fun _ h => h) HD.out ?_⟩
              refine Plan.tree_run ?_
              refine Plan.plan_of_effect rfl (fun K hK => ?_)
              have hne : gx ≠ gc := HL.out.ne (by decide) HZ.out
              refine wpList_appY y3 rfl (.tmp 59) (.tmp 60) rfl rfl ge gc (0 + 24) cc (cat 0 (names R 24) (names R 24)) rfl HL.out (by have := HL.out.lt; omega) gl 0 24 capl P rfl ((HPn.out.below HD.out).LA) (by decide) (by decide) (fun gd cd y4 hP_ hb_ ho_ => ?_)
              have hsz := HD.out.size
              replace HL := Lib.hid hP_
              replace HD := Lib.hid (HD.out.trans (hb_.mono hgw))
              replace HZ := Lib.hid (show boxZ y4 gx from HZ.out.of_block (ho_ gx HZ.out.1.lt hne))
              clear hne
              clear hP_ hb_ ho_ hsz
              go_wp2_with fail
              refine ⟨HD.out, ?_⟩
              refine Plan.plan_of_effect rfl (fun K hK => ?_)
              go_wp2_with fail
              refine (eval_any _ _ Xa (0 + 24 + 24) (cat (0 + 24) (cat 0 (names R 24) (names R 24)) P) 16 16 y4 (HXn.out.bel HD.out) HL.out.LA).mono ?_
              rintro e y5 ⟨xr, rfl, hF_, hb_⟩
              rw [HE2.out.1]
              rw [HE2.out.2] at hF_
              obtain ⟨qY, dY, qU, dU, qV, dV, rfl⟩ := hF_.shape
              have HFr := Lib.hid hF_
              replace HD := Lib.hid (HD.out.trans (hb_.mono HD.out.size))
              replace HZ := Lib.hid (show boxZ y5 gx from HZ.out.below hb_)
              clear hF_ hb_ HL
              go_wp2_with fail
              refine ⟨HD.out, ?_⟩
              refine' Plan.plan_seg _ [7, 8, 9] (([11].map (·, false)) ++ ([12].map (·, true))) (by kernel_rfl) (by kernel_rfl) rfl (by exact HD.out) (fun wx hS => ?_) ?_
              rotate_left
              · skip
                clear hS
                go_light
                iterate 3 (apply Plan.seg_pick; rfl; intro K hK; go_wp)
                exact Plan.seg_nil
              obtain ⟨⟨k0, k1, k2, k3, k4⟩, kz⟩ := HZ.out
              refine Plan.plan_of_effect rfl (fun K hK => ?_)
              go_wp2_with fail
              have HBX := Lib.hid (HZ.out.1.put (.int .i64 F.W) (.int .i64 F.H) (.slice qY F.nY dY) (.slice qU F.nU dU) (.slice qV F.nV dV))
              have HFS := Lib.hid (HFr.out.put5 (x0 := .int .i64 F.W) (x1 := .int .i64 F.H) (x2 := .slice qY F.nY dY) (x3 := .slice qU F.nU dU) (x4 := .slice qV F.nV dV) k0 k1 k2 k3 k4)
              have hbS : Below wr.heap.size y5 (((((y5.setCell ⟨gx, 0, none⟩ (.int .i64 F.W)).setCell ⟨gx, 1, none⟩ (.int .i64 F.H)).setCell ⟨gx, 2, none⟩ (.slice qY F.nY dY)).setCell ⟨gx, 3, none⟩ (.slice qU F.nU dU)).setCell ⟨gx, 4, none⟩ (.slice qV F.nV dV)) := by go_grown
              obtain ⟨yz, hyz⟩ : ∃ x, x = (((((y5.setCell ⟨gx, 0, none⟩ (.int .i64 F.W)).setCell ⟨gx, 1, none⟩ (.int .i64 F.H)).setCell ⟨gx, 2, none⟩ (.slice qY F.nY dY)).setCell ⟨gx, 3, none⟩ (.slice qU F.nU dU)).setCell ⟨gx, 4, none⟩ (.slice qV F.nV dV)) := ⟨_, rfl⟩
              rw [← hyz] at HBX HFS hbS ⊢
              replace HD := Lib.hid (HD.out.trans hbS)
              clear hyz hbS k0 k1 k2 k3 k4 kz
              refine ⟨HD.out, ?_⟩
              refine' Plan.plan_seg _ [12] ([]) (by kernel_rfl) (by kernel_rfl) rfl (by exact HD.out) (fun wx hS => ?_) ?_
              rotate_left
              · skip
                clear hS
                go_light
                iterate 1 (apply Plan.seg_pick; rfl; intro K hK; go_wp)
                exact Plan.seg_nil
              refine Plan.plan_nil ?_
              refine Plan.tree_leaf ?_
              go_wp2_with fail
              go_meet
              case rel => exact ⟨rfl, ⟨gx, _, _, _, _, _, _, rfl, hgx0, HBX.out, HFS.out⟩, HD.out⟩
          · skip
            refine Plan.op_of_list rfl (fun K hK => ?_)
            go_wp2_with fail
            obtain ⟨y2, hy2⟩ : ∃ x, x = y1.alloc (.cells #[.int .i64 0, .int .i64 0, .slice none 0 0, .slice none 0 0, .slice none 0 0] 26) := ⟨_, rfl⟩
            rw [← hy2]
            obtain ⟨gx, hgx⟩ : ∃ g, g = y1.heap.size := ⟨_, rfl⟩
            rw [← hgx]
            have hbb : Below y1.heap.size y1 y2 := by rw [hy2]; exact below_box _ _
            have HZ := Lib.hid (show boxZ y2 gx by rw [hy2, hgx]; exact boxZ.of_alloc _ _ rfl)
            have hsz := HD.out.size
            have hgx0 : wr.heap.size ≤ gx := by omega
            replace HD := Lib.hid (HD.out.trans (hbb.mono HD.out.size))
            have hne : gx ≠ ge := by omega
            replace HL := Lib.hid (HL.out.below hbb)
            have hgl' := HL.out.lt.2
            clear hy2 hbb hgx hsz
            refine ⟨HD.out, Plan.tree_dyn _ (fun _ h => h) HD.out ?_⟩
            refine Plan.tree_run ?_
            refine Plan.plan_of_effect rfl (fun K hK => ?_)
            refine wpList_appY y2 rfl (.tmp 57) (.tmp 58) rfl rfl ge ge 0 0 (names R 24) rfl HL.out (by have := HL.out.lt; omega) go 0 24 capo (names R 24) rfl ((HPr.out.below HD.out).LA) (by decide) (by decide) (fun gc cc y3 hP_ hb_ ho_ => ?_)
            have hsz := HD.out.size
            replace HL := Lib.hid hP_
            replace HD := Lib.hid (HD.out.trans (hb_.mono hgw))
            replace HZ := Lib.hid (show boxZ y3 gx from HZ.out.of_block (ho_ gx HZ.out.1.lt hne))
            clear hne
            clear hP_ hb_ ho_ hsz
            go_wp2_with fail
            refine ⟨HD.out, ?_⟩
            refine Plan.plan_of_effect rfl (fun K hK => ?_)
            have hne : gx ≠ gc := HL.out.ne (by decide) HZ.out
            refine wpList_appY y3 rfl (.tmp 59) (.tmp 60) rfl rfl ge gc (0 + 24) cc (cat 0 (names R 24) (names R 24)) rfl HL.out (by have := HL.out.lt; omega) gl 0 24 capl P rfl ((HPn.out.below HD.out).LA) (by decide) (by decide) (fun gd cd y4 hP_ hb_ ho_ => ?_)
            have hsz := HD.out.size
            replace HL := Lib.hid hP_
            replace HD := Lib.hid (HD.out.trans (hb_.mono hgw))
            replace HZ := Lib.hid (show boxZ y4 gx from HZ.out.of_block (ho_ gx HZ.out.1.lt hne))
            clear hne
            clear hP_ hb_ ho_ hsz
            go_wp2_with fail
            refine ⟨HD.out, ?_⟩
            refine Plan.plan_of_effect rfl (fun K hK => ?_)
            go_wp2_with fail
            refine (eval_any _ _ Xa (0 + 24 + 24) (cat (0 + 24) (cat 0 (names R 24) (names R 24)) P) 16 16 y4 (HXn.out.bel HD.out) HL.out.LA).mono ?_
            rintro e y5 ⟨xr, rfl, hF_, hb_⟩
            rw [HE2.out.1]
            rw [HE2.out.2] at hF_
            obtain ⟨qY, dY, qU, dU, qV, dV, rfl⟩ := hF_.shape
            have HFr := Lib.hid hF_
            replace HD := Lib.hid (HD.out.trans (hb_.mono HD.out.size))
            replace HZ := Lib.hid (show boxZ y5 gx from HZ.out.below hb_)
            clear hF_ hb_ HL
            go_wp2_with fail
            refine ⟨HD.out, ?_⟩
            refine' Plan.plan_seg _ [7, 8, 9] (([11].map (·, false)) ++ ([12].map (·, true))) (by kernel_rfl) (by kernel_rfl) rfl (by exact HD.out) (fun wx hS => ?_) ?_
            rotate_left
            · skip
              clear hS
              go_light
              iterate 3 (apply Plan.seg_pick; rfl; intro K hK; go_wp)
              exact Plan.seg_nil
            obtain ⟨⟨k0, k1, k2, k3, k4⟩, kz⟩ := HZ.out
            refine Plan.plan_of_effect rfl (fun K hK => ?_)
            go_wp2_with fail
            have HBX := Lib.hid (HZ.out.1.put (.int .i64 F.W) (.int .i64 F.H) (.slice qY F.nY dY) (.slice qU F.nU dU) (.slice qV F.nV dV))
            have HFS := Lib.hid (HFr.out.put5 (x0 := .int .i64 F.W) (x1 := .int .i64 F.H) (x2 := .slice qY F.nY dY) (x3 := .slice qU F.nU dU) (x4 := .slice qV F.nV dV) k0 k1 k2 k3 k4)
            have hbS : Below wr.heap.size y5 (((((y5.setCell ⟨gx, 0, none⟩ (.int .i64 F.W)).setCell ⟨gx, 1, none⟩ (.int .i64 F.H)).setCell ⟨gx, 2, none⟩ (.slice qY F.nY dY)).setCell ⟨gx, 3, none⟩ (.slice qU F.nU dU)).setCell ⟨gx, 4, none⟩ (.slice qV F.nV dV)) := by go_grown
            obtain ⟨yz, hyz⟩ : ∃ x, x = (((((y5.setCell ⟨gx, 0, none⟩ (.int .i64 F.W)).setCell ⟨gx, 1, none⟩ (.int .i64 F.H)).setCell ⟨gx, 2, none⟩ (.slice qY F.nY dY)).setCell ⟨gx, 3, none⟩ (.slice qU F.nU dU)).setCell ⟨gx, 4, none⟩ (.slice qV F.nV dV)) := ⟨_, rfl⟩
            rw [← hyz] at HBX HFS hbS ⊢
            replace HD := Lib.hid (HD.out.trans hbS)
            clear hyz hbS k0 k1 k2 k3 k4 kz
            refine ⟨HD.out, ?_⟩
            refine' Plan.plan_seg _ [12] ([]) (by kernel_rfl) (by kernel_rfl) rfl (by exact HD.out) (fun wx hS => ?_) ?_
            rotate_left
            · skip
              clear hS
              go_light
              iterate 1 (apply Plan.seg_pick; rfl; intro K hK; go_wp)
              exact Plan.seg_nil
            refine Plan.plan_nil ?_
            refine Plan.tree_leaf ?_
            go_wp2_with fail
            go_meet
            case rel => exact ⟨rfl, ⟨gx, _, _, _, _, _, _, rfl, hgx0, HBX.out, HFS.out⟩, HD.out⟩
        · skip
          refine Plan.op_of_list rfl (fun K hK => ?_)
          go_wp2_with fail
          obtain ⟨y1, hy1⟩ : ∃ x, x = y0.alloc (.cells #[.int .i64 0, .int .i64 0, .slice none 0 0, .slice none 0 0, .slice none 0 0] 26) := ⟨_, rfl⟩
          rw [← hy1]
          obtain ⟨gx, hgx⟩ : ∃ g, g = y0.heap.size := ⟨_, rfl⟩
          rw [← hgx]
          have hbb : Below y0.heap.size y0 y1 := by rw [hy1]; exact below_box _ _
          have HZ := Lib.hid (show boxZ y1 gx by rw [hy1, hgx]; exact boxZ.of_alloc _ _ rfl)
          have hsz := HD.out.size
          have hgx0 : wr.heap.size ≤ gx := by omega
          replace HD := Lib.hid (HD.out.trans (hbb.mono HD.out.size))
          clear hy1 hbb hgx hsz
          refine ⟨HD.out, Plan.tree_dyn _ (fun _ h => h) HD.out ?_⟩
          refine Plan.tree_run ?_
          refine Plan.plan_of_effect rfl (fun K hK => ?_)
          go_wp2_with fail
          obtain ⟨y2, hy2⟩ : ∃ x, x = y1.alloc (.cells #[] 68) := ⟨_, rfl⟩
          rw [← hy2]
          obtain ⟨ge, hge⟩ : ∃ g, g = y1.heap.size := ⟨_, rfl⟩
          rw [← hge]
          have hbb : Below y1.heap.size y1 y2 := by rw [hy2]; exact below_box _ _
          have hemp : y2.heap[ge]? = some (.cells #[] 68 (0, 0)) := by rw [hy2, hge]; exact emp_at' _ _
          have hsz := HD.out.size
          have HL := Lib.hid (show PL y2 ge (.slice (some ⟨ge, 0, none⟩) 0 0) 0 (names R 24) from PL.empty (Nat.le_refl _) hemp _)
          have hgw : wr.heap.size ≤ ge := by omega
          have hgl : ge < y2.heap.size := (Array.getElem?_eq_some_iff.1 hemp).1
          replace HD := Lib.hid (HD.out.trans (hbb.mono HD.out.size))
          have hne : gx ≠ ge := by have := HZ.out.1.lt; omega
          replace HZ := Lib.hid (show boxZ y2 gx from HZ.out.below hbb)
          clear hy2 hbb hemp hge hsz
          refine ⟨HD.out, ?_⟩
          refine Plan.plan_of_effect rfl (fun K hK => ?_)
          refine wpList_appY y2 rfl (.tmp 57) (.tmp 58) rfl rfl ge ge 0 0 (names R 24) rfl HL.out (by have := HL.out.lt; omega) go 0 24 capo (names R 24) rfl ((HPr.out.below HD.out).LA) (by decide) (by decide) (fun gc cc y3 hP_ hb_ ho_ => ?_)
          have hsz := HD.out.size
          replace HL := Lib.hid hP_
          replace HD := Lib.hid (HD.out.trans (hb_.mono hgw))
          replace HZ := Lib.hid (show boxZ y3 gx from HZ.out.of_block (ho_ gx HZ.out.1.lt hne))
          clear hne
          clear hP_ hb_ ho_ hsz
          go_wp2_with fail
          refine ⟨HD.out, ?_⟩
          refine Plan.plan_of_effect rfl (fun K hK => ?_)
          have hne : gx ≠ gc := HL.out.ne (by decide) HZ.out
          refine wpList_appY y3 rfl (.tmp 59) (.tmp 60) rfl rfl ge gc (0 + 24) cc (cat 0 (names R 24) (names R 24)) rfl HL.out (by have := HL.out.lt; omega) gl 0 24 capl P rfl ((HPn.out.below HD.out).LA) (by decide) (by decide) (fun gd cd y4 hP_ hb_ ho_ => ?_)
          have hsz := HD.out.size
          replace HL := Lib.hid hP_
          replace HD := Lib.hid (HD.out.trans (hb_.mono hgw))
          replace HZ := Lib.hid (show boxZ y4 gx from HZ.out.of_block (ho_ gx HZ.out.1.lt hne))
          clear hne
          clear hP_ hb_ ho_ hsz
          go_wp2_with fail
          refine ⟨HD.out, ?_⟩
          refine Plan.plan_of_effect rfl (fun K hK => ?_)
          go_wp2_with fail
          refine (eval_any _ _ Xa (0 + 24 + 24) (cat (0 + 24) (cat 0 (names R 24) (names R 24)) P) 16 16 y4 (HXn.out.bel HD.out) HL.out.LA).mono ?_
          rintro e y5 ⟨xr, rfl, hF_, hb_⟩
          rw [HE2.out.1]
          rw [HE2.out.2] at hF_
          obtain ⟨qY, dY, qU, dU, qV, dV, rfl⟩ := hF_.shape
          have HFr := Lib.hid hF_
          replace HD := Lib.hid (HD.out.trans (hb_.mono HD.out.size))
          replace HZ := Lib.hid (show boxZ y5 gx from HZ.out.below hb_)
          clear hF_ hb_ HL
          go_wp2_with fail
          refine ⟨HD.out, ?_⟩
          refine' Plan.plan_seg _ [7, 8, 9] (([11].map (·, false)) ++ ([12].map (·, true))) (by kernel_rfl) (by kernel_rfl) rfl (by exact HD.out) (fun wx hS => ?_) ?_
          rotate_left
          · skip
            clear hS
            go_light
            iterate 3 (apply Plan.seg_pick; rfl; intro K hK; go_wp)
            exact Plan.seg_nil
          obtain ⟨⟨k0, k1, k2, k3, k4⟩, kz⟩ := HZ.out
          refine Plan.plan_of_effect rfl (fun K hK => ?_)
          go_wp2_with fail
          have HBX := Lib.hid (HZ.out.1.put (.int .i64 F.W) (.int .i64 F.H) (.slice qY F.nY dY) (.slice qU F.nU dU) (.slice qV F.nV dV))
          have HFS := Lib.hid (HFr.out.put5 (x0 := .int .i64 F.W) (x1 := .int .i64 F.H) (x2 := .slice qY F.nY dY) (x3 := .slice qU F.nU dU) (x4 := .slice qV F.nV dV) k0 k1 k2 k3 k4)
          have hbS : Below wr.heap.size y5 (((((y5.setCell ⟨gx, 0, none⟩ (.int .i64 F.W)).setCell ⟨gx, 1, none⟩ (.int .i64 F.H)).setCell ⟨gx, 2, none⟩ (.slice qY F.nY dY)).setCell ⟨gx, 3, none⟩ (.slice qU F.nU dU)).setCell ⟨gx, 4, none⟩ (.slice qV F.nV dV)) := by go_grown
          obtain ⟨yz, hyz⟩ : ∃ x, x = (((((y5.setCell ⟨gx, 0, none⟩ (.int .i64 F.W)).setCell ⟨gx, 1, none⟩ (.int .i64 F.H)).setCell ⟨gx, 2, none⟩ (.slice qY F.nY dY)).setCell ⟨gx, 3, none⟩ (.slice qU F.nU dU)).setCell ⟨gx, 4, none⟩ (.slice qV F.nV dV)) := ⟨_, rfl⟩
          rw [← hyz] at HBX HFS hbS ⊢
          replace HD := Lib.hid (HD.out.trans hbS)
          clear hyz hbS k0 k1 k2 k3 k4 kz
          refine ⟨HD.out, ?_⟩
          refine' Plan.plan_seg _ [12] ([]) (by kernel_rfl) (by kernel_rfl) rfl (by exact HD.out) (fun wx hS => ?_) ?_
          rotate_left
          · skip
            clear hS
            go_light
            iterate 1 (apply Plan.seg_pick; rfl; intro K hK; go_wp)
            exact Plan.seg_nil
          refine Plan.plan_nil ?_
          refine Plan.tree_leaf ?_
          go_wp2_with fail
          go_meet
          case rel => exact ⟨rfl, ⟨gx, _, _, _, _, _, _, rfl, hgx0, HBX.out, HFS.out⟩, HD.out⟩
      case rest =>
      obtain ⟨rfl, hAFc, hB12⟩ := hcut
      obtain ⟨gc, cY, fY, cU, fU, cV, fV, rfl, hgc, BXc, hFc⟩ := hAFc
      have HW := Lib.hid (HWn.out.trans (hB12.mono HWn.out.size))
      obtain ⟨ga', aY, dY, aU, dU, aV, dV, ea, hga', BXa, hFa⟩ := HAr.out.below hB12
      obtain ⟨gb', bY', eY', bU', eU', bV', eV', eb, hgb', BXb, hFb⟩ := HBr.out.below hB12
      simp only [Value.pointer.injEq, Option.some.injEq, Addr.mk.injEq, and_true] at ea eb
      subst ea eb
      have HFa := Lib.hid hFa
      have HFb := Lib.hid hFb
      have HFc := Lib.hid hFc
      have HXa := Lib.hid BXa
      have HXb := Lib.hid BXb
      have HXc := Lib.hid BXc
      clear hFa hFb hFc hB12 HAr HBr HPr HPn HBn HXn HWn HE2 BXa BXb BXc
      obtain ⟨a0, a1, a2, a3, a4⟩ := HXa.out
      obtain ⟨b0, b1, b2, b3, b4⟩ := HXb.out
      go_wp2_with fail
      refine (same_yes _ _ F F _ HFa.out HFb.out (same_self _)).mono ?_
      rintro e we ⟨rfl, hbe⟩
      replace HW := Lib.hid (HW.out.trans (hbe.mono HW.out.size))
      replace HFa := Lib.hid (HFa.out.below hbe)
      replace HFc := Lib.hid (HFc.out.below hbe)
      replace HXa := Lib.hid (HXa.out.below hbe)
      replace HXc := Lib.hid (HXc.out.below hbe)
      clear hbe a0 a1 a2 a3 a4 b0 b1 b2 b3 b4 HXb HFb
      obtain ⟨a0, a1, a2, a3, a4⟩ := HXa.out
      obtain ⟨b0, b1, b2, b3, b4⟩ := HXc.out
      go_wp2_with fail
      refine (same_yes _ _ F F _ HFa.out HFc.out (same_self _)).mono ?_
      rintro e wf ⟨rfl, hbf⟩
      replace HW := Lib.hid (HW.out.trans (hbf.mono HW.out.size))
      clear hbf a0 a1 a2 a3 a4 b0 b1 b2 b3 b4 HXa HXc HFa HFc
      go_wp2_with fail
      refine (awake_any _).mono ?_
      rintro e wz ⟨rfl, hbz⟩
      have HBz := Lib.hid (HW.out.trans (hbz.mono HW.out.size))
      clear hbz
      go_wp2_with fail
      go_ret
      exact ⟨rfl, HBz.out⟩

end Go.Proofs.Ytnnobdcbmagbaaa


namespace Go.Proofs.Ytnnobdcbmagbaaa.composeNamed
open Go.ChangeShapes Go.WideShapes Go.ChangeAt Go.RowKit
set_option linter.unusedVariables false

theorem own : ownKnob Try.prog.godebug = none := by kernel_rfl

set_option maxRecDepth 100000 in
theorem lifted (os : Os) (started : os.Started) (H : Type) (enc : TypeId × Value → H) :
    ReturnsInHanded {} Try.checked os 15 .any (Rows.composeNamedSpec.pre6 enc Try.prog Try.f15 Rows.composeNamedRow.domain false) (Rows.composeNamedSpec.post enc Try.prog Try.f15 false true false false) := by
  refine returnsInHanded_of_change (C := Try.checked) own started (by kernel_rfl) Try.func15
    (ChangeSpec.witness6 (enc := enc) (C := Try.checked) false ⟨#[], #[.slice none 0 0], []⟩ 8 (by kernel_rfl) (by kernel_rfl) (by kernel_rfl) (by kernel_rfl)) ?_
  intro W base args ds gs before hval0 hW hcnd _
  have hval : ∀ (j : Nat) t v, Try.f15.params[j]? = some t → args[j]? = some v → Value.okWide Try.prog W .any base t v := hval0
  have hW' := hW
  obtain ⟨p, q, hA0, hV, rfl, hfz, hnd⟩ := hW
  have hA : DataW.TrodAll enc Try.prog W 0 (fun _ => true) true Try.f15.params.toList args.toList ds p := hA0
  have hAk := hA
  rw [Try.params15] at hA hval
  obtain ⟨v0, vs0, d0, ds0, p0, q0, hargs, rfl, rfl, h0, r0⟩ := trodAll_cons hA
  obtain ⟨rfl, rfl, rfl⟩ := trodAll_nil r0
  obtain rfl : args = #[v0] := by cases args; simp_all
  obtain ⟨rfl, rfl⟩ := trodVars_none hV
  have hr0 := open_tape (hval 0 33 v0 rfl rfl) h0
  simp only [List.append_nil] at hW' hAk
  refine (law_named v0 W hr0).mono fun e W' ⟨he, hg⟩ => ?_
  subst he
  exact ⟨_, rfl, composeBlack.post_of_below (pv := []) hW' (fun _ _ _ => (trodAll_cons_mk (shut_bool Try.underlying4 _) trodAll_mk0)) (fun sp hsp => trodAll_stays laid_out hg (by kernel_rfl) hAk (fun x hx => hW'.lt x (by simpa using hx)) (fun x hx => hsp x (by simpa using hx))) (fun _ _ => rfl) (by simp)
    hg (ok_one (by kernel_rfl) rfl (okWide_bool_mk Try.underlying4 _))⟩

theorem over : Rows.composeNamedRow.holds Try.pinned (OpenSpec.ofChange Rows.composeNamedSpec) :=
  OpenClaim.holds_of_wide 15 Try.f15 rfl rfl rfl rfl rfl rfl rfl ⟨rfl, rfl, rfl, rfl, rfl⟩ rfl rfl rfl rfl rfl (by kernel_rfl) Try.func15 (by kernel_rfl)
    (of_decide_eq_true (by kernel_rfl)) (by unfold Func.isWrapper; first | (rw [if_pos (by decide +kernel)]; kernel_rfl) | (rw [if_neg (by decide +kernel)]; exact ⟨rfl, rfl⟩))
    (fun os started H enc _ => lifted os started H enc)

/-- The statement. -/
theorem proved : Rows.ComposeNamedSaid :=
  over
end Go.Proofs.Ytnnobdcbmagbaaa.composeNamed
