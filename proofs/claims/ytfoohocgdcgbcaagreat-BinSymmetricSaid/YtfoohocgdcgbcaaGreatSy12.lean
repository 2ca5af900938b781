/- Texts of this claim joined: VQ VR HF HG HH HI. -/
import Derived.Deep.CutBlock
import Derived.Test.YtfoohocgdcgbcaaGreatSy11
set_option linter.unusedVariables false
set_option linter.unusedSimpArgs false
namespace Go.Proofs.YtfoohocgdcgbcaaGreat
open Go.RowKit
def edC (k p n c d sn sd : Int) (v : Value) : Array Value := #[.int .i64 k, .int .i64 p, .int .i64 n, .int .i64 c, .int .i64 d, .int .i64 sn, .int .i64 sd, v]
def edV (k p n c d sn sd : Int) (v : Value) : Value := .agg (edC k p n c d sn sd v)
structure ED (w : World) (b : Nat) (k p n c d sn sd : Int) (v : Value) : Prop where
 k0 : w.cell? ⟨b, 0, none⟩ = some (.int .i64 k)
 k1 : w.cell? ⟨b, 1, none⟩ = some (.int .i64 p)
 k2 : w.cell? ⟨b, 2, none⟩ = some (.int .i64 n)
 k3 : w.cell? ⟨b, 3, none⟩ = some (.int .i64 c)
 k4 : w.cell? ⟨b, 4, none⟩ = some (.int .i64 d)
 k5 : w.cell? ⟨b, 5, none⟩ = some (.int .i64 sn)
 k6 : w.cell? ⟨b, 6, none⟩ = some (.int .i64 sd)
 k7 : w.cell? ⟨b, 7, none⟩ = some v
 fz : ∀ o, w.frozen? ⟨b, o, none⟩ = false
theorem ED.lt {w : World} {b : Nat} {k p n c d sn sd : Int} {v : Value} (h : ED w b k p n c d sn sd v) : b < w.heap.size := block_lt_of_cell h.k0
theorem ED.lim {w w' : World} {m b : Nat} {k p n c d sn sd : Int} {v : Value} (h : ED w b k p n c d sn sd v) (hb : Below m w w') (hm : b < m) : ED w' b k p n c d sn sd v :=
 ⟨(hb.cell hm).trans h.k0, (hb.cell hm).trans h.k1, (hb.cell hm).trans h.k2, (hb.cell hm).trans h.k3, (hb.cell hm).trans h.k4, (hb.cell hm).trans h.k5, (hb.cell hm).trans h.k6, (hb.cell hm).trans h.k7, fun o => (hb.frozen (p := ⟨b, o, none⟩) hm).trans (h.fz o)⟩
theorem ED.below {w w' : World} {b : Nat} {k p n c d sn sd : Int} {v : Value} (h : ED w b k p n c d sn sd v) (hb : Below w.heap.size w w') : ED w' b k p n c d sn sd v := h.lim hb h.lt
theorem ED.box (w : World) (k p n c d sn sd : Int) (v : Value) (hv : v.oneCell' = true) (t : TypeId) : ED (w.alloc (.cells #[.int .i64 k, .int .i64 p, .int .i64 n, .int .i64 c, .int .i64 d, .int .i64 sn, .int .i64 sd, v] t)) w.heap.size k p n c d sn sd v := by
 constructor <;> simp [go_sem]
theorem ED.other {w : World} {b : Nat} {k p n c d sn sd : Int} {v : Value} (h : ED w b k p n c d sn sd v) {b2 : Nat} (hne : b ≠ b2) (o : Nat) (u : Value) : ED (w.setCell ⟨b2, o, none⟩ u) b k p n c d sn sd v := by
 have hs : (w.setCell ⟨b2, o, none⟩ u).heap[b]? = w.heap[b]? := by simp [World.setCell, Array.getElem?_modify, hne.symm]
 exact ⟨(World.cell?_of_block (a := ⟨b, 0, none⟩) hs).trans h.k0, (World.cell?_of_block (a := ⟨b, 1, none⟩) hs).trans h.k1, (World.cell?_of_block (a := ⟨b, 2, none⟩) hs).trans h.k2, (World.cell?_of_block (a := ⟨b, 3, none⟩) hs).trans h.k3, (World.cell?_of_block (a := ⟨b, 4, none⟩) hs).trans h.k4, (World.cell?_of_block (a := ⟨b, 5, none⟩) hs).trans h.k5, (World.cell?_of_block (a := ⟨b, 6, none⟩) hs).trans h.k6, (World.cell?_of_block (a := ⟨b, 7, none⟩) hs).trans h.k7, fun o' => (World.frozen?_setCell _ _ _ _).trans (h.fz o')⟩
def edPut (w : World) (b : Nat) (k p n c d sn sd : Int) (v : Value) : World := (((((((w.setCell ⟨b, 0, none⟩ (.int .i64 k)).setCell ⟨b, 1, none⟩ (.int .i64 p)).setCell ⟨b, 2, none⟩ (.int .i64 n)).setCell ⟨b, 3, none⟩ (.int .i64 c)).setCell ⟨b, 4, none⟩ (.int .i64 d)).setCell ⟨b, 5, none⟩ (.int .i64 sn)).setCell ⟨b, 6, none⟩ (.int .i64 sd)).setCell ⟨b, 7, none⟩ v
theorem ED.put {w : World} {b : Nat} {k p n c d sn sd : Int} {v : Value} (h : ED w b k p n c d sn sd v) (k' p' n' c' d' sn' sd' : Int) (v' : Value) : ED (edPut w b k' p' n' c' d' sn' sd' v') b k' p' n' c' d' sn' sd' v' := by
 obtain ⟨x0, x1, x2, x3, x4, x5, x6, x7, f⟩ := h
 unfold edPut
 exact ⟨by simp [go_sem, x0, x1, x2, x3, x4, x5, x6, x7], by simp [go_sem, x0, x1, x2, x3, x4, x5, x6, x7], by simp [go_sem, x0, x1, x2, x3, x4, x5, x6, x7], by simp [go_sem, x0, x1, x2, x3, x4, x5, x6, x7], by simp [go_sem, x0, x1, x2, x3, x4, x5, x6, x7], by simp [go_sem, x0, x1, x2, x3, x4, x5, x6, x7], by simp [go_sem, x0, x1, x2, x3, x4, x5, x6, x7], by simp [go_sem, x0, x1, x2, x3, x4, x5, x6, x7], fun o => by simp only [World.frozen?_setCell]; exact f o⟩
theorem Tk.lim {w w' : World} {n : Nat} {v : Value} {l : List Trk.Clip} (h : Tk w v l) (hb : Below n w w') (hn : ∀ b o k c, v = .slice (some ⟨b, o, none⟩) k c → b < n) : Tk w' v l := by
 obtain ⟨ao, cap, rfl, h1, h2, h3⟩ := h
 refine ⟨ao, cap, rfl, h1, h2, fun i c hc => ?_⟩
 obtain ⟨b, o, rfl, hA⟩ := h3 i c hc
 exact ⟨b, o, rfl, hA.same (hb.block b (hn b o _ _ rfl))⟩
theorem ED.same {w w' : World} {b : Nat} {k p n c d sn sd : Int} {v : Value} (h : ED w b k p n c d sn sd v) (hs : w'.heap[b]? = w.heap[b]?) : ED w' b k p n c d sn sd v :=
 ⟨(World.cell?_of_block (a := ⟨b, 0, none⟩) hs).trans h.k0, (World.cell?_of_block (a := ⟨b, 1, none⟩) hs).trans h.k1, (World.cell?_of_block (a := ⟨b, 2, none⟩) hs).trans h.k2, (World.cell?_of_block (a := ⟨b, 3, none⟩) hs).trans h.k3, (World.cell?_of_block (a := ⟨b, 4, none⟩) hs).trans h.k4, (World.cell?_of_block (a := ⟨b, 5, none⟩) hs).trans h.k5, (World.cell?_of_block (a := ⟨b, 6, none⟩) hs).trans h.k6, (World.cell?_of_block (a := ⟨b, 7, none⟩) hs).trans h.k7, fun o => (World.frozen?_of_block (a := ⟨b, o, none⟩) hs).trans (h.fz o)⟩
theorem OT.blk {w : World} {B g k cap : Nat} {v : Value} {l : List Trk.Clip} (h : OT w B v l) (e : v = .slice (some ⟨g, 0, none⟩) k cap) : B ≤ g ∧ g < w.heap.size := by
 subst e
 exact ⟨h.own.1, h.own.2.1⟩
theorem cutRaw_np (l : List Trk.Clip) (f : Int) {n : Int} (hn : n ≤ 0) : Trk.cutRaw l f n = [] := by
 cases l with
 | nil => unfold Trk.cutRaw; rw [if_neg (by omega)]
 | cons c l => unfold Trk.cutRaw; rw [if_pos hn]
def EdV (e : Trk.Ed) (u : Value) : Value := edV e.k e.p e.m e.c e.d e.sn e.sd u
def EdPost (w : World) (n l : List Trk.Clip) (a b uk : Int) (e : Ending) (w' : World) : Prop :=
 ∃ v' vr, e = .returned (.tuple #[v', EdV (Trk.backOf n a b uk) vr, .int .i64 0]) ∧ OT w' w.heap.size v' l ∧ OT w' w.heap.size vr (Trk.backOf n a b uk).ins ∧ Below w.heap.size w w'
structure E2 (w : World) (g1 g2 : Nat) (k p m c d sn sd : Int) (u : Value) : Prop where
 a : ED w g1 k p m c d sn sd u
 r : ED w g2 0 0 0 0 0 0 0 (.slice none 0 0)
theorem E2.below {w w' : World} {g1 g2 : Nat} {k p m c d sn sd : Int} {u : Value} (h : E2 w g1 g2 k p m c d sn sd u) (hb : Below w.heap.size w w') : E2 w' g1 g2 k p m c d sn sd u := ⟨h.a.below hb, h.r.below hb⟩
structure UK (n ins put rl : List Trk.Clip) (k uk p T rem mm : Int) : Prop where
 a : k = 1 → uk = 2 ∧ mm = T ∧ rl = [] ∧ put = ins
 b : k = 2 → uk = 1 ∧ mm = 0 ∧ rl = Trk.cut n p (p + rem) ∧ put = []
 c : k = 3 → uk = 3 ∧ mm = 0 ∧ rl = Trk.cut n p (p + rem) ∧ put = ins
 d : k = 4 → uk = 3 ∧ mm = 0 ∧ rl = Trk.cut n p (p + rem) ∧ put = Trk.gapL T
theorem UK.of {n ins put rl : List Trk.Clip} {k uk p T rem mm m : Int} (huk : uk = Trk.undoK k) (hmm : mm = if uk = 2 then p + T - p else 0) (hrl : rl = if uk = 2 then [] else Trk.cut n p (p + T)) (hr : rem = if k = 1 then 0 else T)
  (hp : put = if k = 4 then [Trk.gap m] else ins) (hm : k = 2 ∨ k = 4 → T = m ∧ ins = []) (ht : 1 ≤ T) : UK n ins put rl k uk p T rem mm := by
 unfold Trk.undoK at huk
 constructor
 ·rintro rfl
  have hu : uk = 2 := huk
  subst hu
  exact ⟨rfl, by rw [hmm, if_pos rfl]; omega, by rw [hrl, if_pos rfl], by rw [hp, if_neg (by decide)]⟩
 ·rintro rfl
  have hu : uk = 1 := huk
  subst hu
  rw [if_neg (by decide)] at hr hmm hrl hp
  exact ⟨rfl, hmm, by rw [hrl, hr], by rw [hp, (hm (.inl rfl)).2]⟩
 ·rintro rfl
  have hu : uk = 3 := huk
  subst hu
  rw [if_neg (by decide)] at hr hmm hrl hp
  exact ⟨rfl, hmm, by rw [hrl, hr], hp⟩
 ·rintro rfl
  have hu : uk = 3 := huk
  subst hu
  rw [if_neg (by decide)] at hr hmm hrl
  rw [if_pos rfl] at hp
  refine ⟨rfl, hmm, by rw [hrl, hr], ?_⟩
  rw [hp, ← (hm (.inr rfl)).1]
  unfold Trk.gapL
  rw [if_pos (by omega)]
def T26 (w : World) (b : Nat) : Prop := ∃ cs p, w.heap[b]? = some (.cells cs 40 p)
theorem T26.set {w : World} {b : Nat} (h : T26 w b) (p : Addr) (u : Value) : T26 (w.setCell p u) b := by
 obtain ⟨cs, q, hc⟩ := h
 by_cases hb : p.block = b
 ·subst hb
  simp only [T26, World.setCell, Array.getElem?_modify, hc, if_true, Option.map_some]
  exact ⟨_, _, rfl⟩
 ·refine ⟨cs, q, ?_⟩
  simp [World.setCell, Array.getElem?_modify, hb, hc]
theorem T26.put {w : World} {b : Nat} (h : T26 w b) (g : Nat) (k p n c d sn sd : Int) (u : Value) : T26 (edPut w g k p n c d sn sd u) b := by
 unfold edPut
 exact (((((((h.set _ _).set _ _).set _ _).set _ _).set _ _).set _ _).set _ _).set _ _
theorem T26.same {w w' : World} {b : Nat} (h : T26 w b) (hs : w'.heap[b]? = w.heap[b]?) : T26 w' b := by
 obtain ⟨cs, q, hc⟩ := h
 exact ⟨cs, q, hs.trans hc⟩
theorem T26.ne {w : World} {b B : Nat} {v : Value} {l : List Trk.Clip} (h : T26 w b) (ho : OT w B v l) : ∀ g kk cap, v = .slice (some ⟨g, 0, none⟩) kk cap → b ≠ g := by
 intro g kk cap e hbg
 subst hbg
 subst e
 obtain ⟨cs, q, hc⟩ := h
 rcases ho with ⟨e, _⟩ | ⟨g', cap', cur, e, hB, hg, _⟩
 ·simp at e
 ·simp only [Value.slice.injEq, Option.some.injEq, Addr.mk.injEq, and_true, true_and] at e
  obtain ⟨rfl, rfl, rfl⟩ := e
  rw [hc] at hg
  simp at hg
theorem ED.range {w : World} {b : Nat} {k p n c d sn sd : Int} {v : Value} (h : ED w b k p n c d sn sd v) : w.rangeAt b 0 (edC k p n c d sn sd v).toList := by
 intro j u hj
 have hl : j < 8 := (List.getElem?_eq_some_iff.1 hj).1
 rcases (show j = 0 ∨ j = 1 ∨ j = 2 ∨ j = 3 ∨ j = 4 ∨ j = 5 ∨ j = 6 ∨ j = 7 by omega) with rfl | rfl | rfl | rfl | rfl | rfl | rfl | rfl
 all_goals simp only [edC, List.getElem?_cons_zero, List.getElem?_cons_succ, Option.some.injEq] at hj; subst hj
 ·exact h.k0
 ·exact h.k1
 ·exact h.k2
 ·exact h.k3
 ·exact h.k4
 ·exact h.k5
 ·exact h.k6
 ·exact h.k7
theorem results_ed {fn : Func} {tmps : Array Value} {w : World} {s t r : Tmp} {b : Nat} {k p n c d sn sd : Int} {v x y : Value} (hr : fn.results = #[.tmp s, .cell t 40, .tmp r]) (hs : tmps.getD s undef = x) (ht : tmps.getD t undef = .pointer (some ⟨b, 0, none⟩)) (hy : tmps.getD r undef = y)
  (hc : ED w b k p n c d sn sd v) (hv : (∃ ao m cp, v = .slice ao m cp)) : (results fn tmps).run Tryz.prog w = .ok (.tuple #[x, edV k p n c d sn sd v, y]) w := by
 obtain ⟨ao, m, cp, rfl⟩ := hv
 have h := run_loadVar_mid (P := Tryz.prog) w b 0 40 (edC k p n c d sn sd (.slice ao m cp)).toList _ hc.range Tryz.underlying40 rfl (by kernel_rfl)
 obtain ⟨C, hC⟩ : ∃ C, C = (edC k p n c d sn sd (.slice ao m cp)).toList.toArray := ⟨_, rfl⟩
 rw [← hC] at h
 unfold results
 rw [hr]
 have ht2 : tmps[t]?.getD undef = .pointer (some ⟨b, 0, none⟩) := by rw [← Array.getD_eq_getD_getElem?]; exact ht
 have hs2 : tmps[s]?.getD undef = x := by rw [← Array.getD_eq_getD_getElem?]; exact hs
 have hy2 : tmps[r]?.getD undef = y := by rw [← Array.getD_eq_getD_getElem?]; exact hy
 simp [ht2, hs2, hy2, asAddr, h]
 rw [hC]
 rfl
theorem OT.blocks {w w' : World} {B : Nat} {v : Value} {l : List Trk.Clip} (h : OT w B v l) (hs : ∀ g kk cap, v = .slice (some ⟨g, 0, none⟩) kk cap → w'.heap[g]? = w.heap[g]?) : OT w' B v l := by
 obtain ⟨rfl, rfl⟩ | ⟨g, cap, rfl⟩ := h.shape
 ·exact OT.nil _ _
 ·exact h.same (hs g _ _ rfl)
theorem setCells_other (b b2 : Nat) (hn : b2 ≠ b) : ∀ (vs : List Value) (o : Nat) (w : World), (w.setCells b o vs).heap[b2]? = w.heap[b2]?
 | [], _, _ => rfl
 | v :: r, o, w => by
  rw [World.setCells, setCells_other b b2 hn r (o + 1)]
  simp [World.setCell, Array.getElem?_modify, hn.symm]
theorem size_setCells (b : Nat) : ∀ (vs : List Value) (o : Nat) (w : World), (w.setCells b o vs).heap.size = w.heap.size
 | [], _, _ => rfl
 | v :: r, o, w => by rw [World.setCells, size_setCells b r (o + 1), World.size_setCell]
theorem T26.cells {b : Nat} : ∀ (vs : List Value) (o g : Nat) (w : World), T26 w b → T26 (w.setCells g o vs) b
 | [], _, _, _, h => h
 | v :: r, o, g, w, h => by rw [World.setCells]; exact T26.cells r (o + 1) g _ (h.set _ _)
theorem ED.there {w : World} {b : Nat} {k p n c d sn sd : Int} {v : Value} (h : ED w b k p n c d sn sd v) : w.there b 0 8 := fun j hj => ⟨by
 have hj' : j < (edC k p n c d sn sd v).toList.length := hj
 rw [h.range j _ (List.getElem?_eq_getElem hj')]; rfl, h.fz _⟩
theorem ED.ofRange {w : World} {b : Nat} {k p n c d sn sd : Int} {v : Value} (h : w.rangeAt b 0 (edC k p n c d sn sd v).toList) (hf : ∀ o, w.frozen? ⟨b, o, none⟩ = false) : ED w b k p n c d sn sd v :=
 ⟨h 0 _ rfl, h 1 _ rfl, h 2 _ rfl, h 3 _ rfl, h 4 _ rfl, h 5 _ rfl, h 6 _ rfl, h 7 _ rfl, hf⟩
theorem wpList_appTo (w : World) {ops : Array Oper} {rest : List Oper} {op : Oper} {a : Act} {Q : Exit → Act → World → Prop} (T1 T2 : TypeId) (dst : Option Tmp) (hd : op.dst = dst) (h1 : Tryz.prog.underlying T1 = some (.slice 48)) (h2 : Tryz.prog.underlying T2 = some (.slice 48)) (hg : op.guard = none) (s x : Operand)
  (hop : op.op = .call { callee := .builtin .append, args := #[s, x], argTypes := #[T1, T2] }) (B : Nat) (v u : Value) (l m : List Trk.Clip) (hs : a.eval s = v) (hx : a.eval x = u) (h : OT w B v l) (hB : B ≤ w.heap.size) (hm : Tk w u m) (hl : l.length + m.length ≤ 1048576)
  (hK : ∀ v' w', OT w' B v' (l ++ m) → Below B w w' → (∀ b, b < w.heap.size → (∀ g cap, v = .slice (some ⟨g, 0, none⟩) l.length cap → b ≠ g) → w'.heap[b]? = w.heap[b]?) → w.heap.size ≤ w'.heap.size → wpList Tryz.prog ops Q rest (a.put dst v') w') : wpList Tryz.prog ops Q (op :: rest) a w := by
 subst hd
 exact wpList_appM w T1 T2 h1 h2 hg s x hop B v u l m hs hx h hB hm hl hK
theorem wpl_loadE {ops : Array Oper} {rest : List Oper} {op : Oper} {a : Act} {w : World} {Q : Exit → Act → World → Prop} {b : Nat} {k p n c d sn sd : Int} {ao : Option Addr} {m cp : Nat} {x : Operand} (hE : ED w b k p n c d sn sd (.slice ao m cp)) (hgd : op.guard = none) (ho : op.op = .load 40 x)
  (hx : a.eval x = .pointer (some ⟨b, 0, none⟩)) (h : wpList Tryz.prog ops Q rest (a.put op.dst (.agg (edC k p n c d sn sd (.slice ao m cp)))) w) : wpList Tryz.prog ops Q (op :: rest) a w :=
 wpList_load_mid hgd 40 x ho b 0 hx (edC k p n c d sn sd (.slice ao m cp)).toList _ hE.range Tryz.underlying40 rfl (by kernel_rfl) h
theorem wpl_storeE {ops : Array Oper} {rest : List Oper} {op : Oper} {a : Act} {w : World} {Q : Exit → Act → World → Prop} {b : Nat} {k p n c d sn sd : Int} {v : Value} (k' p' n' c' d' sn' sd' : Int) (ao : Option Addr) (m cp : Nat) {x y : Operand}
  (hE : ED w b k p n c d sn sd v) (hgd : op.guard = none) (ho : op.op = .store 40 x y) (hx : a.eval x = .pointer (some ⟨b, 0, none⟩)) (hy : a.eval y = .agg (edC k' p' n' c' d' sn' sd' (.slice ao m cp)))
  (h : ∀ w', ED w' b k' p' n' c' d' sn' sd' (.slice ao m cp) → (∀ b2, b2 ≠ b → w'.heap[b2]? = w.heap[b2]?) → w'.heap.size = w.heap.size → (∀ n w0, n ≤ b → Below n w0 w → Below n w0 w') → (T26 w b → T26 w' b) → wpList Tryz.prog ops Q rest (a.put op.dst undef) w') : wpList Tryz.prog ops Q (op :: rest) a w :=
 wpList_store_mid hgd 40 x y ho b 0 (edC k' p' n' c' d' sn' sd' (.slice ao m cp)) hx hy hE.there (by kernel_rfl) (by simp [edC, Value.oneCell'])
  (h _ (ED.ofRange (fun j u hj => World.rangeAt_setCells_same w b 0 (edC k' p' n' c' d' sn' sd' (.slice ao m cp)).toList hE.there j u hj) (fun o => (World.frozen?_setCells b _ _ w _).trans (hE.fz o)))
   (fun b2 hn => setCells_other b b2 hn _ _ _) (size_setCells b _ _ _) (fun n w0 hn hb => below_setCells b hn _ _ _ hb) (fun ht => T26.cells _ _ _ _ ht))
structure GB (w : World) (b : Nat) (c : Trk.Clip) (x : Value) : Prop where
 e : w.heap[b]? = some (.cells (clipG c x).toArray 48 (0, 0))
theorem GB.lt {w : World} {b : Nat} {c : Trk.Clip} {x : Value} (h : GB w b c x) : b < w.heap.size := (Array.getElem?_eq_some_iff.1 h.e).1
theorem GB.ga {w : World} {b : Nat} {c : Trk.Clip} {x : Value} (h : GB w b c x) : GA w b 0 c x := by
 refine GA.of fun j u hj => ?_
 have h := h.e
 rw [Nat.zero_add]
 unfold World.cell?
 simp only [h]
 simpa using hj
theorem GB.fz {w : World} {b : Nat} {c : Trk.Clip} {x : Value} (h : GB w b c x) (o : Nat) : w.frozen? ⟨b, o, none⟩ = false := by
 simp [World.frozen?, h.e]
theorem GB.there {w : World} {b : Nat} {c : Trk.Clip} {x : Value} (h : GB w b c x) : w.there b 0 22 := fun j hj => ⟨by
 have hj' : j < (clipG c x).length := hj
 rw [h.ga.get j _ (List.getElem?_eq_getElem hj')]; rfl, h.fz _⟩
theorem GB.below {w w' : World} {b : Nat} {c : Trk.Clip} {x : Value} (h : GB w b c x) (hb : Below w.heap.size w w') : GB w' b c x := ⟨(hb.block b h.lt).trans h.e⟩
theorem GB.box (w : World) (c : Trk.Clip) (x : Value) : GB (w.alloc (.cells (clipG c x).toArray 48)) w.heap.size c x := ⟨(MapKept.heap_alloc w _).1⟩
theorem GB.other {w : World} {b : Nat} {c : Trk.Clip} {x : Value} (h : GB w b c x) {b2 : Nat} (hne : b ≠ b2) (o : Nat) (v : Value) : GB (w.setCell ⟨b2, o, none⟩ v) b c x := by
 refine ⟨?_⟩
 rw [← h.e]
 simp [World.setCell, Array.getElem?_modify, hne.symm]
theorem GB.set {w : World} {b : Nat} {c c' : Trk.Clip} {x x' : Value} (h : GB w b c x) (n : Nat) (v : Value) (hx : (clipG c x).toArray.setIfInBounds n v = (clipG c' x').toArray) : GB (w.setCell ⟨b, n, none⟩ v) b c' x' := by
 refine ⟨?_⟩
 rw [← hx]
 simp [World.setCell, Array.getElem?_modify, h.e]
theorem GB.set_len {w : World} {b : Nat} {c : Trk.Clip} {x : Value} (h : GB w b c x) (v : Int) : GB (w.setCell ⟨b, 0, none⟩ (.int .i64 v)) b { c with len := v } x := h.set 0 _ rfl
theorem GB.set_off {w : World} {b : Nat} {c : Trk.Clip} {x : Value} (h : GB w b c x) (v : Int) : GB (w.setCell ⟨b, 16, none⟩ (.int .i64 v)) b { c with off := v } x := h.set 16 _ rfl
theorem GB.set_ch {w : World} {b : Nat} {c : Trk.Clip} {x : Value} (h : GB w b c x) (y : Value) : GB (w.setCell ⟨b, 21, none⟩ y) b c y := h.set 21 _ rfl
theorem GB.set_a {w : World} {b : Nat} {c : Trk.Clip} {x : Value} (h : GB w b c x) (s : Trk.Src) : GB (((((((w.setCell ⟨b, 2, none⟩ (.int .i64 s.kind)).setCell ⟨b, 3, none⟩ (.string s.name)).setCell ⟨b, 4, none⟩ (.int .i64 s.an)).setCell ⟨b, 5, none⟩ (.int .i64 s.ad)).setCell ⟨b, 6, none⟩ (.int .i64 s.sn)).setCell ⟨b, 7, none⟩ (.int .i64 s.sd)).setCell ⟨b, 8, none⟩ (.bool s.smooth)) b { c with a := s } x := by
 have h0 := h.set 2 (.int .i64 s.kind) (c' := { c with a := { c.a with kind := s.kind } }) (x' := x) rfl
 have h1 := h0.set 3 (.string s.name) (c' := { c with a := { c.a with kind := s.kind, name := s.name } }) (x' := x) rfl
 have h2 := h1.set 4 (.int .i64 s.an) (c' := { c with a := { c.a with kind := s.kind, name := s.name, an := s.an } }) (x' := x) rfl
 have h3 := h2.set 5 (.int .i64 s.ad) (c' := { c with a := { c.a with kind := s.kind, name := s.name, an := s.an, ad := s.ad } }) (x' := x) rfl
 have h4 := h3.set 6 (.int .i64 s.sn) (c' := { c with a := { c.a with kind := s.kind, name := s.name, an := s.an, ad := s.ad, sn := s.sn } }) (x' := x) rfl
 have h5 := h4.set 7 (.int .i64 s.sd) (c' := { c with a := { c.a with kind := s.kind, name := s.name, an := s.an, ad := s.ad, sn := s.sn, sd := s.sd } }) (x' := x) rfl
 have h6 := h5.set 8 (.bool s.smooth) (c' := { c with a := { c.a with kind := s.kind, name := s.name, an := s.an, ad := s.ad, sn := s.sn, sd := s.sd, smooth := s.smooth } }) (x' := x) rfl
 exact h6
theorem GB.set_b {w : World} {b : Nat} {c : Trk.Clip} {x : Value} (h : GB w b c x) (s : Trk.Src) : GB (((((((w.setCell ⟨b, 9, none⟩ (.int .i64 s.kind)).setCell ⟨b, 10, none⟩ (.string s.name)).setCell ⟨b, 11, none⟩ (.int .i64 s.an)).setCell ⟨b, 12, none⟩ (.int .i64 s.ad)).setCell ⟨b, 13, none⟩ (.int .i64 s.sn)).setCell ⟨b, 14, none⟩ (.int .i64 s.sd)).setCell ⟨b, 15, none⟩ (.bool s.smooth)) b { c with b := s } x := by
 have h0 := h.set 9 (.int .i64 s.kind) (c' := { c with b := { c.b with kind := s.kind } }) (x' := x) rfl
 have h1 := h0.set 10 (.string s.name) (c' := { c with b := { c.b with kind := s.kind, name := s.name } }) (x' := x) rfl
 have h2 := h1.set 11 (.int .i64 s.an) (c' := { c with b := { c.b with kind := s.kind, name := s.name, an := s.an } }) (x' := x) rfl
 have h3 := h2.set 12 (.int .i64 s.ad) (c' := { c with b := { c.b with kind := s.kind, name := s.name, an := s.an, ad := s.ad } }) (x' := x) rfl
 have h4 := h3.set 13 (.int .i64 s.sn) (c' := { c with b := { c.b with kind := s.kind, name := s.name, an := s.an, ad := s.ad, sn := s.sn } }) (x' := x) rfl
 have h5 := h4.set 14 (.int .i64 s.sd) (c' := { c with b := { c.b with kind := s.kind, name := s.name, an := s.an, ad := s.ad, sn := s.sn, sd := s.sd } }) (x' := x) rfl
 have h6 := h5.set 15 (.bool s.smooth) (c' := { c with b := { c.b with kind := s.kind, name := s.name, an := s.an, ad := s.ad, sn := s.sn, sd := s.sd, smooth := s.smooth } }) (x' := x) rfl
 exact h6
def setL (cur : Array Value) (o : Nat) : List Value → Array Value
 | [] => cur
 | v :: r => setL (cur.setIfInBounds o v) (o + 1) r
theorem setCells_block {b : Nat} {T : TypeId} {p : Nat × Nat} : ∀ (vs : List Value) {w : World} {cur : Array Value} (o : Nat), w.heap[b]? = some (.cells cur T p) → (w.setCells b o vs).heap[b]? = some (.cells (setL cur o vs) T p)
 | [], _, _, _, h => h
 | v :: r, w, cur, o, h => by
  rw [World.setCells]
  exact setCells_block r (o + 1) (by simp [World.setCell, Array.getElem?_modify, h])
theorem setL_all : ∀ (pre xs vs : List Value), xs.length = vs.length → setL (pre ++ xs).toArray pre.length vs = (pre ++ vs).toArray
 | pre, [], [], _ => rfl
 | pre, x :: xs, v :: vs, h => by
  unfold setL
  have e : (pre ++ x :: xs).toArray.setIfInBounds pre.length v = ((pre ++ [v]) ++ xs).toArray := by
   rw [List.setIfInBounds_toArray, List.set_append_right _ _ (Nat.le_refl _), Nat.sub_self]
   simp
  rw [e]
  have h2 := setL_all (pre ++ [v]) xs vs (by simpa using h)
  rw [List.length_append] at h2
  rw [show pre.length + 1 = pre.length + [v].length from rfl, h2]
  simp
theorem GB.put {w : World} {b : Nat} {c : Trk.Clip} {x : Value} (h : GB w b c x) (e : Trk.Clip) (z : Value) : GB (w.setCells b 0 (clipG e z)) b e z := by
 have h2 := setCells_block (clipG e z) 0 h.e
 rw [show setL (clipG c x).toArray 0 (clipG e z) = (clipG e z).toArray from setL_all [] (clipG c x) (clipG e z) rfl] at h2
 exact ⟨h2⟩
theorem GB.apart {w : World} {b : Nat} {c : Trk.Clip} {x : Value} (h : GB w b c x) {b2 : Nat} (hne : b ≠ b2) (vs : List Value) (o : Nat) : GB (w.setCells b2 o vs) b c x := ⟨(setCells_other b2 b hne vs o w).trans h.e⟩
theorem wpl_storeB2 {ops : Array Oper} {rest : List Oper} {op : Oper} {a : Act} {w : World} {Q : Exit → Act → World → Prop} {b : Nat} {c : Trk.Clip} {x : Value} (e : Trk.Clip) (ao : Option Addr) (m cp : Nat) {p q : Operand} (hc : GB w b c x) (hgd : op.guard = none) (ho : op.op = .store 48 p q)
  (hx : a.eval p = .pointer (some ⟨b, 0, none⟩)) (hy : a.eval q = .agg (clipG e (.slice ao m cp)).toArray)
  (h : ∀ w', GB w' b e (.slice ao m cp) → (∀ b2, b2 ≠ b → w'.heap[b2]? = w.heap[b2]?) → w'.heap.size = w.heap.size → (∀ n w0, n ≤ b → Below n w0 w → Below n w0 w') → wpList Tryz.prog ops Q rest (a.put op.dst undef) w') : wpList Tryz.prog ops Q (op :: rest) a w :=
 wpList_store_mid hgd 48 p q ho b 0 (clipG e (.slice ao m cp)).toArray hx hy hc.there (by kernel_rfl) (clipG_oneCell e ao m cp)
  (h _ (hc.put e _) (fun b2 hne => setCells_other b b2 hne _ _ _) (size_setCells b _ _ _) (fun n w0 hn hb => below_setCells b hn _ _ _ hb))
theorem results_clipG {fn : Func} {tmps : Array Value} {w : World} {s : Tmp} {b : Nat} {c : Trk.Clip} {x : Value} (hr : fn.results = #[.cell s 48]) (ht : tmps.getD s undef = .pointer (some ⟨b, 0, none⟩)) (hc : GA w b 0 c x) : (results fn tmps).run Tryz.prog w = .ok (.agg (clipG c x).toArray) w := by
 have h := run_loadVar_mid (P := Tryz.prog) w b 0 48 (clipG c x) _ hc.range Tryz.underlying48 rfl (by kernel_rfl)
 obtain ⟨C, hC⟩ : ∃ C, C = (clipG c x).toArray := ⟨_, rfl⟩
 rw [← hC] at h ⊢
 unfold results
 rw [hr]
 have ht2 : tmps[s]?.getD undef = .pointer (some ⟨b, 0, none⟩) := by rw [← Array.getD_eq_getD_getElem?]; exact ht
 simp [ht2, asAddr, h]
theorem Ch.far {w w' : World} {B : Nat} {x : Value} {l : List Int} (h : Ch w B x l) (hs : w.heap.size ≤ w'.heap.size) {g : Nat} {cur : Array Value} {T : TypeId} {p : Nat × Nat} (hg : w.heap[g]? = some (.cells cur T p)) (hT : T ≠ 3) (hB : B ≤ g)
  (hk : ∀ b, b < w.heap.size → b ≠ g → w'.heap[b]? = w.heap[b]?) : Ch w' B x l :=
 h.keep hs fun b hb hd => hk b hb (by
  rintro rfl
  rcases hd with h | ⟨c, hc⟩
  ·omega
  ·rw [hg] at hc
   simp only [Option.some.injEq, Obj.cells.injEq] at hc
   exact hT hc.2.1)
set_option maxRecDepth 100000 in
theorem wpl_allocB {ops : Array Oper} {rest : List Oper} {op : Oper} {a : Act} {w : World} {Q : Exit → Act → World → Prop} (hgd : op.guard = none) (ho : op.op = .alloc 48)
  (h : ∀ w', GB w' w.heap.size (Trk.gap 0) (.slice none 0 0) → Below w.heap.size w w' → w'.heap.size = w.heap.size + 1 → wpList Tryz.prog ops Q rest (a.put op.dst (.pointer (some ⟨w.heap.size, 0, none⟩))) w') : wpList Tryz.prog ops Q (op :: rest) a w := by
 refine Great.wpList_runTo hgd _ rfl (.pointer (some ⟨w.heap.size, 0, none⟩)) (w.alloc (.cells (clipC (Trk.gap 0)).toArray 48)) ?_ (h _ (GB.box w (Trk.gap 0) (.slice none 0 0)) (below_box _ _) (by simp))
 unfold execOp
 rw [ho]
 simp [go_sem, clipC, Trk.gap, Trk.black]
 rfl
set_option maxRecDepth 100000 in
set_option maxHeartbeats 4000000 in
theorem copiedg_any (c : Trk.Clip) (x : Value) (w : World) (hi : IT w x c.chan) (hl : c.chan.length ≤ 1048576) :
  Calls Tryz.prog 108 #[clipGV c x] w fun e w' => ∃ x', e = .returned (clipGV c x') ∧ Ch w' 0 x' c.chan ∧ Below w.heap.size w w' := by
 obtain ⟨ax, cx, ex, -⟩ := id hi
 have HI := Lib.hid (fun w1 (hb : Below w.heap.size w w1) => clonei_any x c.chan w1 (hi.below hb) hl)
 unfold clipGV
 rw [ex] at HI ⊢
 obtain ⟨nx, hnx⟩ : ∃ n, n = c.chan.length := ⟨_, rfl⟩
 rw [← hnx] at HI ⊢
 clear hi ex hnx hl
 obtain ⟨C, hC⟩ : ∃ C, C = (clipG c (.slice ax nx cx)).toArray := ⟨_, rfl⟩
 rw [← hC]
 have HC := Lib.hid hC
 clear hC
 go_enter Tryz.func108, Tryz.ntmps108
 go_upto_region 1 with fail
 obtain ⟨w1, hw1⟩ : ∃ x, x = (w.alloc (.cells C 48)).alloc (.cells (clipC (Trk.gap 0)).toArray 48) := ⟨_, rfl⟩
 have hw1' := hw1
 simp only [clipC, Trk.gap, Trk.black, show (ByteArray.empty : ByteArray) = ⟨#[]⟩ from rfl] at hw1'
 rw [← hw1']
 clear hw1'
 rw [HC.out] at hw1
 obtain ⟨hx, hy, hb1⟩ : GB w1 w.heap.size c (.slice ax nx cx) ∧ GB w1 (w.heap.size + 1) (Trk.gap 0) (.slice none 0 0) ∧ Below w.heap.size w w1 := by
  subst hw1
  refine ⟨(GB.box w c _).below (below_box _ _), ?_, by go_grown⟩
  have h2 := GB.box (w.alloc (.cells (clipG c (.slice ax nx cx)).toArray 48)) (Trk.gap 0) (.slice none 0 0)
  rw [show (w.alloc (.cells (clipG c (.slice ax nx cx)).toArray 48)).heap.size = w.heap.size + 1 by simp] at h2
  exact h2
 obtain ⟨g1, hg1⟩ : ∃ g, g = w.heap.size := ⟨_, rfl⟩
 obtain ⟨g2, hg2⟩ : ∃ g, g = w.heap.size + 1 := ⟨_, rfl⟩
 rw [← hg2] at hy ⊢
 rw [← hg1] at hx ⊢
 have hne : g1 ≠ g2 := by omega
 have hn1 : w.heap.size ≤ g1 := by omega
 have hn2 : w.heap.size ≤ g2 := by omega
 clear hw1 hg1 hg2
 have y21 := hx.ga.k21
 simp only [Nat.zero_add] at y21
 have HX := Lib.hid hx
 have HY := Lib.hid hy
 have HB := Lib.hid hb1
 clear hx hy hb1
 go_wp2_with fail
 refine (HI.out _ HB.out).mono ?_
 rintro e w2 ⟨x', rfl, hch, hb⟩
 obtain ⟨ay, cy, ey⟩ := hch.form
 obtain ⟨ny, hny⟩ : ∃ n, n = c.chan.length := ⟨_, rfl⟩
 rw [← hny] at ey
 subst ey
 have HX2 := Lib.hid (HX.out.below hb)
 have HY2 := Lib.hid (HY.out.below hb)
 have HB2 := Lib.hid (HB.out.trans (hb.mono HB.out.size))
 have HCH := Lib.hid hch
 have yf := HX2.out.fz
 have y21' := HX2.out.ga.k21
 simp only [Nat.zero_add] at y21'
 clear hb hch y21 hny
 go_upto_region 2 with fail
 have HX3 := Lib.hid (HX2.out.set_ch (.slice ay ny cy))
 have HY3 := Lib.hid (HY2.out.other hne.symm 21 (.slice ay ny cy))
 have HB3 := Lib.hid (HB2.out.setCell (p := ⟨g1, 21, none⟩) hn1 (.slice ay ny cy))
 have HCH3 := Lib.hid (HCH.out.far (w' := w2.setCell ⟨g1, 21, none⟩ (.slice ay ny cy)) (by simp) HX2.out.e (by decide) (Nat.zero_le _) (fun b hb hn => setCells_other g1 b hn [_] 21 w2))
 clear yf y21'
 obtain ⟨w3, hw3⟩ : ∃ x, x = w2.setCell ⟨g1, 21, none⟩ (.slice ay ny cy) := ⟨_, rfl⟩
 rw [← hw3] at HX3 HY3 HB3 HCH3 ⊢
 clear hw3
 rw [HC.out]
 apply wp_region_lit
 refine wpl_loadG HX3.out.ga rfl rfl rfl ?_
 refine wpl_storeB2 c ay ny cy HY3.out rfl rfl rfl rfl ?_
 intro w4 hv hk hs hb
 have hb4 := hb _ _ hn2 HB3.out
 have hch4 := HCH3.out.far (Nat.le_of_eq hs.symm) HY3.out.e (by decide) (Nat.zero_le _) (fun b hb hn => hk b hn)
 clear hb hk hs
 go_wp2_with fail
 refine bodyPost_ret (v := .agg (clipG c (.slice ay ny cy)).toArray) (results_clipG Tryz.results108 rfl hv.ga) rfl ⟨_, rfl, hch4, hb4⟩
structure OkG (c : Trk.Clip) : Prop where
 g : Trk.GoodC c
 a : Trk.OkW 8796093022208 c.a
 b : Trk.OkW 8796093022208 c.b
 ch : c.chan.length ≤ 4
 l : c.len ≤ 4294967296
 o : c.off.natAbs ≤ 4611686018427387904
set_option maxRecDepth 100000
theorem GB.other_a {w : World} {b2 : Nat} {c : Trk.Clip} {x : Value} (h : GB w b2 c x) {b : Nat} (hne : b2 ≠ b) (s : Trk.Src) : GB (((((((w.setCell ⟨b, 2, none⟩ (.int .i64 s.kind)).setCell ⟨b, 3, none⟩ (.string s.name)).setCell ⟨b, 4, none⟩ (.int .i64 s.an)).setCell ⟨b, 5, none⟩ (.int .i64 s.ad)).setCell ⟨b, 6, none⟩ (.int .i64 s.sn)).setCell ⟨b, 7, none⟩ (.int .i64 s.sd)).setCell ⟨b, 8, none⟩ (.bool s.smooth)) b2 c x := (((((((h.other hne 2 _).other hne 3 _).other hne 4 _).other hne 5 _).other hne 6 _).other hne 7 _).other hne 8 _)
theorem GB.other_b {w : World} {b2 : Nat} {c : Trk.Clip} {x : Value} (h : GB w b2 c x) {b : Nat} (hne : b2 ≠ b) (s : Trk.Src) : GB (((((((w.setCell ⟨b, 9, none⟩ (.int .i64 s.kind)).setCell ⟨b, 10, none⟩ (.string s.name)).setCell ⟨b, 11, none⟩ (.int .i64 s.an)).setCell ⟨b, 12, none⟩ (.int .i64 s.ad)).setCell ⟨b, 13, none⟩ (.int .i64 s.sn)).setCell ⟨b, 14, none⟩ (.int .i64 s.sd)).setCell ⟨b, 15, none⟩ (.bool s.smooth)) b2 c x := (((((((h.other hne 9 _).other hne 10 _).other hne 11 _).other hne 12 _).other hne 13 _).other hne 14 _).other hne 15 _)
structure CT3 (w0 w : World) (g1 g2 g3 : Nat) (d : Trk.Clip) (yv : Value) (c : Trk.Clip) (xv : Value) (e : Trk.Clip) : Prop where
 x : GB w g1 d yv
 y : GB w g2 c xv
 v : GB w g3 e xv
 u : Below w0.heap.size w0 w
theorem CT3.below {w0 w w' : World} {g1 g2 g3 : Nat} {d c e : Trk.Clip} {y x : Value} (h : CT3 w0 w g1 g2 g3 d y c x e) (hb : Below w.heap.size w w') : CT3 w0 w' g1 g2 g3 d y c x e :=
 ⟨h.x.below hb, h.y.below hb, h.v.below hb, h.u.trans (hb.mono h.u.size)⟩
theorem CT3.set_a {w0 w : World} {g1 g2 b : Nat} {d c e : Trk.Clip} {y x : Value} (h : CT3 w0 w g1 g2 b d y c x e) (h1 : g1 ≠ b) (h2 : g2 ≠ b) (hn : w0.heap.size ≤ b) (s : Trk.Src) : CT3 w0 (((((((w.setCell ⟨b, 2, none⟩ (.int .i64 s.kind)).setCell ⟨b, 3, none⟩ (.string s.name)).setCell ⟨b, 4, none⟩ (.int .i64 s.an)).setCell ⟨b, 5, none⟩ (.int .i64 s.ad)).setCell ⟨b, 6, none⟩ (.int .i64 s.sn)).setCell ⟨b, 7, none⟩ (.int .i64 s.sd)).setCell ⟨b, 8, none⟩ (.bool s.smooth)) g1 g2 b d y c x { e with a := s } :=
 ⟨h.x.other_a h1 s, h.y.other_a h2 s, h.v.set_a s, below_set_a h.u hn s⟩
theorem CT3.set_b {w0 w : World} {g1 g2 b : Nat} {d c e : Trk.Clip} {y x : Value} (h : CT3 w0 w g1 g2 b d y c x e) (h1 : g1 ≠ b) (h2 : g2 ≠ b) (hn : w0.heap.size ≤ b) (s : Trk.Src) : CT3 w0 (((((((w.setCell ⟨b, 9, none⟩ (.int .i64 s.kind)).setCell ⟨b, 10, none⟩ (.string s.name)).setCell ⟨b, 11, none⟩ (.int .i64 s.an)).setCell ⟨b, 12, none⟩ (.int .i64 s.ad)).setCell ⟨b, 13, none⟩ (.int .i64 s.sn)).setCell ⟨b, 14, none⟩ (.int .i64 s.sd)).setCell ⟨b, 15, none⟩ (.bool s.smooth)) g1 g2 b d y c x { e with b := s } :=
 ⟨h.x.other_b h1 s, h.y.other_b h2 s, h.v.set_b s, below_set_b h.u hn s⟩
theorem CT3.set_len {w0 w : World} {g1 g2 g3 : Nat} {d c e : Trk.Clip} {y x : Value} (h : CT3 w0 w g1 g2 g3 d y c x e) (h1 : g1 ≠ g3) (h2 : g2 ≠ g3) (hn : w0.heap.size ≤ g3) (v : Int) : CT3 w0 (w.setCell ⟨g3, 0, none⟩ (.int .i64 v)) g1 g2 g3 d y c x { e with len := v } :=
 ⟨h.x.other h1 _ _, h.y.other h2 _ _, h.v.set_len v, h.u.setCell hn _⟩
theorem CT3.set_off {w0 w : World} {g1 g2 g3 : Nat} {d c e : Trk.Clip} {y x : Value} (h : CT3 w0 w g1 g2 g3 d y c x e) (h1 : g1 ≠ g3) (h2 : g2 ≠ g3) (hn : w0.heap.size ≤ g3) (v : Int) : CT3 w0 (w.setCell ⟨g3, 16, none⟩ (.int .i64 v)) g1 g2 g3 d y c x { e with off := v } :=
 ⟨h.x.other h1 _ _, h.y.other h2 _ _, h.v.set_off v, h.u.setCell hn _⟩
set_option maxHeartbeats 4000000 in
theorem contg_gaps (d c : Trk.Clip) (y x : Value) (w : World) (k1 : c.kind = 0) (k2 : d.kind = 0) : Calls Tryz.prog 112 #[clipGV d y, clipGV c x] w fun e w' => e = .returned (.bool true) ∧ Below w.heap.size w w' := by
 unfold clipGV
 obtain ⟨C, hC⟩ : ∃ C, C = (clipG c x).toArray := ⟨_, rfl⟩
 obtain ⟨D, hD⟩ : ∃ D, D = (clipG d y).toArray := ⟨_, rfl⟩
 rw [← hC, ← hD]
 have HC := Lib.hid hC
 have HD := Lib.hid hD
 clear hC hD
 go_enter Tryz.func112, Tryz.ntmps112
 go_upto_region 1 with fail
 obtain ⟨w1, hw1⟩ : ∃ x, x = (w.alloc (.cells D 48)).alloc (.cells C 48) := ⟨_, rfl⟩
 rw [← hw1]
 rw [HC.out, HD.out] at hw1
 obtain ⟨hx, hy, hb1⟩ := boxG2_facts hw1
 obtain ⟨g1, hg1⟩ : ∃ g, g = w.heap.size := ⟨_, rfl⟩
 obtain ⟨g2, hg2⟩ : ∃ g, g = w.heap.size + 1 := ⟨_, rfl⟩
 rw [← hg2] at hy ⊢
 rw [← hg1] at hx ⊢
 have x1 := hx.c.k1
 have y1 := hy.c.k1
 rw [k2] at x1
 rw [k1] at y1
 simp only [Nat.zero_add] at x1 y1
 clear hw1 hg1 hg2 hx hy
 go_wp2_with fail
 go_ret
 exact ⟨rfl, hb1⟩
set_option maxHeartbeats 8000000 in
theorem contg_core (d c : Trk.Clip) (y x : Value) (w : World) (hd : OkG d) (hc : OkG c) (hiy : IT w y d.chan) (hix : IT w x c.chan) (hk : ¬ (c.kind = 0 ∧ d.kind = 0)) :
  Calls Tryz.prog 112 #[clipGV d y, clipGV c x] w fun e w' => e = .returned (.bool (decide (Trk.cont d c))) ∧ Below w.heap.size w w' := by
 have HQ := Lib.hid (show (decide (Trk.cont d c)) = decide (d = Trk.withLen (Trk.shift c c.len) d.len) from decide_eq_decide.2 (cont_law hd.g hc.g))
 have hl := hc.g.l
 have HMA := fun w => moved_wide c.a c.len w hc.a (by have := hc.l; omega)
 have HMB := fun w => moved_wide c.b c.len w hc.b (by have := hc.l; omega)
 obtain ⟨ma, hma⟩ : ∃ s, s = Trk.moved c.a c.len := ⟨_, rfl⟩
 obtain ⟨mb, hmb⟩ : ∃ s, s = Trk.moved c.b c.len := ⟨_, rfl⟩
 rw [← hma] at HMA
 rw [← hmb] at HMB
 simp only [srcV, srcC] at HMA HMB
 replace HMA := Lib.hid HMA
 replace HMB := Lib.hid HMB
 have HSH := Lib.hid (fun w => share_any c.kind w)
 have HEQ := Lib.hid (fun w1 (hb : Below w.heap.size w w1) => equalg_any d (Trk.withLen (Trk.shift c c.len) d.len) y x w1 (hiy.below hb) (hix.below hb))
 obtain ⟨ay, cy, ey, -⟩ := id hiy
 obtain ⟨ax, cx, ex, -⟩ := id hix
 obtain ⟨ny, hny⟩ : ∃ n, n = d.chan.length := ⟨_, rfl⟩
 obtain ⟨nx, hnx⟩ : ∃ n, n = c.chan.length := ⟨_, rfl⟩
 rw [← hny] at ey
 rw [← hnx] at ex
 rw [ex, ey] at HEQ
 rw [ex, ey]
 clear hiy hix ex ey hny hnx
 have HSF := Lib.hid (show Trk.withLen (Trk.shift c c.len) d.len = { c with len := d.len, a := ma, b := mb, off := if Trk.shares c.kind = true then c.off + c.len else c.off } by rw [hma, hmb]; rfl)
 clear hma hmb
 have hof := hc.o
 have hll := hc.l
 unfold clipGV at HEQ ⊢
 obtain ⟨C, hC⟩ : ∃ C, C = (clipG c (.slice ax nx cx)).toArray := ⟨_, rfl⟩
 obtain ⟨D, hD⟩ : ∃ D, D = (clipG d (.slice ay ny cy)).toArray := ⟨_, rfl⟩
 rw [← hC, ← hD]
 have HC := Lib.hid hC
 have HD := Lib.hid hD
 clear hC hD
 go_enter Tryz.func112, Tryz.ntmps112
 go_upto_region 1 with fail
 obtain ⟨w1, hw1⟩ : ∃ x, x = (w.alloc (.cells D 48)).alloc (.cells C 48) := ⟨_, rfl⟩
 rw [← hw1]
 rw [HC.out, HD.out] at hw1
 clear HD
 obtain ⟨hx, hy, hb1⟩ : GB w1 w.heap.size d (.slice ay ny cy) ∧ GB w1 (w.heap.size + 1) c (.slice ax nx cx) ∧ Below w.heap.size w w1 := by
  subst hw1
  refine ⟨(GB.box w d (.slice ay ny cy)).below (below_box _ _), ?_, by go_grown⟩
  have h2 := GB.box (w.alloc (.cells (clipG d (.slice ay ny cy)).toArray 48)) c (.slice ax nx cx)
  rw [show (w.alloc (.cells (clipG d (.slice ay ny cy)).toArray 48)).heap.size = w.heap.size + 1 by simp] at h2
  exact h2
 obtain ⟨g1, hg1⟩ : ∃ g, g = w.heap.size := ⟨_, rfl⟩
 obtain ⟨g2, hg2⟩ : ∃ g, g = w.heap.size + 1 := ⟨_, rfl⟩
 have hsz : w1.heap.size = g2 + 1 := by rw [hw1, hg2]; simp
 rw [← hg2] at hy ⊢
 rw [← hg1] at hx ⊢
 have hne : g1 ≠ g2 := by omega
 have hgg : g1 + 1 = g2 := by omega
 have hn1 : w.heap.size ≤ g1 := by omega
 have hn2 : w.heap.size ≤ g2 := by omega
 clear hw1 hg1 hg2
 have x1 := hx.ga.k1
 have y1 := hy.ga.k1
 simp only [Nat.zero_add] at x1 y1
 go_cut [13] from 6 (fun v wx => v = .bool false ∧ wx = w1)
 case first =>
  go_wp2_with fail
  all_goals go_meet
  all_goals first
   | exact ⟨rfl, rfl⟩
   | (refine ⟨?_, rfl⟩; simp_all)
 obtain ⟨e13, rfl⟩ := hcut
 subst e13
 go_upto_region 3 with fail
 clear x1 y1
 rw [HC.out]
 apply wp_region_lit
 refine wpl_loadG hy.ga rfl rfl rfl ?_
 refine wpl_allocB rfl rfl (fun w2 hg hb hs2 => ?_)
 rw [hsz] at hg hs2 ⊢
 replace hx := hx.below hb
 replace hy := hy.below hb
 replace hb1 := hb1.trans (hb.mono hb1.size)
 have h13 : g1 ≠ g2 + 1 := by omega
 have h23 : g2 ≠ g2 + 1 := by omega
 have hn3 : w.heap.size ≤ g2 + 1 := by omega
 obtain ⟨g3, hg3⟩ : ∃ g, g = g2 + 1 := ⟨_, rfl⟩
 rw [← hg3] at hg h13 h23 hn3 ⊢
 clear hb hs2 hsz hg3
 refine wpl_storeB2 c ax nx cx hg rfl rfl rfl rfl ?_
 intro w3 hv ho hsz3 hb
 replace hx : GB w3 g1 d (.slice ay ny cy) := ⟨(ho _ h13).trans hx.e⟩
 replace hy : GB w3 g2 c (.slice ax nx cx) := ⟨(ho _ h23).trans hy.e⟩
 replace hb1 := hb _ _ hn3 hb1
 have T := Lib.hid (CT3.mk hx hy hv hb1)
 clear hb ho hsz3 hg hx hy hv hb1
 simp only [Act.put, List.setIfInBounds_toArray, List.set_cons_succ, List.set_cons_zero]
 rw [← HC.out]
 go_upto_region 4 with fail
 go_cut [] from 14 (fun wx => CT3 w wx g1 g2 g3 d (.slice ay ny cy) c (.slice ax nx cx) { c with a := ma, b := mb })
 case first J K' h1 h2 =>
  refine Plan.wp_region_plan (fun w' => GB w' g2 c (.slice ax nx cx)) (([0, 1, 2, 3, 5, 6, 7, 8].map (·, true)) ++ (([4].map (·, false)) ++ (([10].map (·, true)) ++ (([9, 11].map (·, false)) ++ (([12].map (·, true)) ++ ([13].map (·, false))))))) (by kernel_rfl) (by kernel_rfl) (by kernel_rfl) (T.out.y.below (Below.refl _ _).drew) ?_
  refine' Plan.plan_seg _ [0, 1, 2, 3, 5, 6, 7, 8] (([4].map (·, false)) ++ (([10].map (·, true)) ++ (([9, 11].map (·, false)) ++ (([12].map (·, true)) ++ ([13].map (·, false)))))) (by kernel_rfl) (by kernel_rfl) rfl (by exact T.out.y.below (Below.refl _ _).drew) (fun wx hS => ?_) ?_
  rotate_left
  ·obtain ⟨x0, x1, x2, x3, x4, x5, x6, x7, x8, x9, x10, x11, x12, x13, x14, x15, x16, x17, x18, x19, x20, x21⟩ := hS.ga.at0
   clear hS
   go_light
   iterate 8 (apply Plan.seg_pick; rfl; intro K hK; go_wp)
   exact Plan.seg_nil
  obtain ⟨w4, hw4⟩ : ∃ x, x = w3.drew := ⟨_, rfl⟩
  rw [← hw4]
  have hb : Below w3.heap.size w3 w4 := by rw [hw4]; exact (Below.refl _ _).drew
  replace T := Lib.hid (T.out.below hb)
  clear hb hw4
  refine Plan.plan_of_effect rfl (fun K hK => ?_)
  go_wp2_with fail
  refine (HMA.out w4).mono ?_
  rintro e w5 ⟨rfl, hb⟩
  replace T := Lib.hid (T.out.below hb)
  clear hb
  go_wp2_with fail
  refine ⟨T.out.y, ?_⟩
  refine' Plan.plan_seg _ [10] (([9, 11].map (·, false)) ++ (([12].map (·, true)) ++ ([13].map (·, false)))) (by kernel_rfl) (by kernel_rfl) rfl (by exact T.out.y) (fun wx hS => ?_) ?_
  rotate_left
  ·clear hS
   go_light
   iterate 1 (apply Plan.seg_pick; rfl; intro K hK; go_wp)
   exact Plan.seg_nil
  refine Plan.plan_of_effect rfl (fun K hK => ?_)
  go_wp2_with fail
  refine (HMB.out w5).mono ?_
  rintro e w6 ⟨rfl, hb⟩
  replace T := Lib.hid (T.out.below hb)
  clear hb
  go_wp2_with fail
  refine ⟨T.out.y, ?_⟩
  refine Plan.plan_of_effect rfl (fun K hK => ?_)
  obtain ⟨_, _, x2, x3, x4, x5, x6, x7, x8, _⟩ := T.out.v.ga.at0
  have xf := T.out.v.fz
  go_wp2_with fail
  have T2 := Lib.hid (T.out.set_a h13 h23 hn3 ma)
  clear x2 x3 x4 x5 x6 x7 x8 xf T
  obtain ⟨w7, hw7⟩ : ∃ x, x = (((((((w6.setCell ⟨g3, 2, none⟩ (.int .i64 ma.kind)).setCell ⟨g3, 3, none⟩ (.string ma.name)).setCell ⟨g3, 4, none⟩ (.int .i64 ma.an)).setCell ⟨g3, 5, none⟩ (.int .i64 ma.ad)).setCell ⟨g3, 6, none⟩ (.int .i64 ma.sn)).setCell ⟨g3, 7, none⟩ (.int .i64 ma.sd)).setCell ⟨g3, 8, none⟩ (.bool ma.smooth)) := ⟨_, rfl⟩
  rw [← hw7] at T2 ⊢
  clear hw7
  refine ⟨T2.out.y, ?_⟩
  refine' Plan.plan_seg _ [12] ([13].map (·, false)) (by kernel_rfl) (by kernel_rfl) rfl (by exact T2.out.y) (fun wx hS => ?_) ?_
  rotate_left
  ·clear hS
   go_light
   iterate 1 (apply Plan.seg_pick; rfl; intro K hK; go_wp)
   exact Plan.seg_nil
  refine Plan.plan_of_effect rfl (fun K hK => ?_)
  obtain ⟨_, _, _, _, _, _, _, _, _, x9, x10, x11, x12, x13, x14, x15, _⟩ := T2.out.v.ga.at0
  have xf := T2.out.v.fz
  go_wp2_with fail
  have T := Lib.hid (T2.out.set_b h13 h23 hn3 mb)
  clear x9 x10 x11 x12 x13 x14 x15 xf T2
  obtain ⟨w8, hw8⟩ : ∃ x, x = (((((((w7.setCell ⟨g3, 9, none⟩ (.int .i64 mb.kind)).setCell ⟨g3, 10, none⟩ (.string mb.name)).setCell ⟨g3, 11, none⟩ (.int .i64 mb.an)).setCell ⟨g3, 12, none⟩ (.int .i64 mb.ad)).setCell ⟨g3, 13, none⟩ (.int .i64 mb.sn)).setCell ⟨g3, 14, none⟩ (.int .i64 mb.sd)).setCell ⟨g3, 15, none⟩ (.bool mb.smooth)) := ⟨_, rfl⟩
  rw [← hw8] at T ⊢
  clear hw8
  refine ⟨T.out.y, ?_⟩
  refine Plan.plan_done ?_
  refine h2 _ _ (Met.intro (h1 _ _ ?_))
  (repeat apply Exists.intro)
  exact ⟨T.out, rfl⟩
 clear T
 have T := Lib.hid hcut
 clear hcut
 have y1 := T.out.y.ga.k1
 simp only [Nat.zero_add] at y1
 go_upto_if 29 with (go_at_call 110; refine (HSH.out _).mono ?_; rintro e w' ⟨rfl, rfl⟩)
 clear y1
 obtain ⟨of, hof2⟩ : ∃ x, x = (if Trk.shares c.kind = true then c.off + c.len else c.off) := ⟨_, rfl⟩
 go_cut [] from 30 (fun wx => CT3 w wx g1 g2 g3 d (.slice ay ny cy) c (.slice ax nx cx) { c with len := c.len, a := ma, b := mb, off := of })
 case first =>
  have y0 := T.out.y.ga.at0.1
  have x16 := T.out.v.ga.k16
  simp only [Nat.zero_add] at x16
  have xf := T.out.v.fz
  go_wp2_with fail
  all_goals go_meet
  case rel =>
   rename_i hsh
   simp only [hsh, if_true] at hof2
   rw [hof2]
   exact T.out.set_off h13 h23 hn3 _
  case rel =>
   rename_i hsh
   simp only [hsh, Bool.false_eq_true, if_false] at hof2
   rw [hof2]
   exact T.out
 case rest =>
  clear T
  have T := Lib.hid hcut
  clear hcut
  rw [HSF.out, ← hof2] at HEQ HQ
  have z0 := T.out.x.ga.at0.1
  have x0 := T.out.v.ga.at0.1
  have xf := T.out.v.fz
  go_upto_region 8 with fail
  have T2 := Lib.hid (T.out.set_len h13 h23 hn3 d.len)
  clear z0 x0 xf T
  apply wp_region_lit
  obtain ⟨e, he⟩ : ∃ e : Trk.Clip, e = { c with len := d.len, a := ma, b := mb, off := of } := ⟨_, rfl⟩
  have hv : GA (wc.setCell ⟨g3, 0, none⟩ (.int .i64 d.len)) g3 0 e (.slice ax nx cx) := by rw [he]; exact T2.out.v.ga
  rw [← he] at HEQ HQ
  have hu := T2.out.u
  have hx := T2.out.x.ga
  clear T2 he
  refine wpl_loadG hx rfl rfl rfl ?_
  refine wpl_loadG hv rfl rfl rfl ?_
  obtain ⟨E, hE⟩ : ∃ E, E = (clipG e (.slice ax nx cx)).toArray := ⟨_, rfl⟩
  rw [← hE] at HEQ ⊢
  clear hE hv hx
  obtain ⟨D2, hD2⟩ : ∃ D2, D2 = (clipG d (.slice ay ny cy)).toArray := ⟨_, rfl⟩
  rw [← hD2] at HEQ ⊢
  clear hD2
  simp only [Act.put, List.setIfInBounds_toArray, List.set_cons_succ, List.set_cons_zero]
  go_wp2_with fail
  refine (HEQ.out _ hu).mono ?_
  rintro e w' ⟨rfl, hb⟩
  go_wp2_with fail
  go_ret
  rw [HQ.out]
  exact ⟨rfl, hu.trans (hb.mono hu.size)⟩
theorem contg_any (d c : Trk.Clip) (y x : Value) (w : World) (hd : OkG d) (hc : OkG c) (hiy : IT w y d.chan) (hix : IT w x c.chan) :
  Calls Tryz.prog 112 #[clipGV d y, clipGV c x] w fun e w' => e = .returned (.bool (decide (Trk.cont d c))) ∧ Below w.heap.size w w' := by
 by_cases hk : c.kind = 0 ∧ d.kind = 0
 ·have e := decide_eq_true (cont_gap hd.g hc.g hk.1 hk.2)
  rw [e]
  exact contg_gaps d c y x w hk.1 hk.2
 ·exact contg_core d c y x w hd hc hiy hix hk
def gcells : List Trk.Clip → List Value → List Value
 | c :: l, x :: xs => clipG c x ++ gcells l xs
 | _, _ => []
theorem gcells_length : ∀ {l : List Trk.Clip} {xs : List Value}, xs.length = l.length → (gcells l xs).length = l.length * 22
 | [], [], _ => rfl
 | c :: l, x :: xs, h => by
  show (clipG c x ++ gcells l xs).length = _
  rw [List.length_append, gcells_length (l := l) (xs := xs) (by simpa using h), clipG_length, List.length_cons]
  omega
theorem gcells_get : ∀ {l : List Trk.Clip} {xs : List Value} {i : Nat} {c : Trk.Clip} {x : Value}, l[i]? = some c → xs[i]? = some x → ∀ {j : Nat}, j < 22 → (gcells l xs)[i * 22 + j]? = (clipG c x)[j]?
 | [], _, i, c, x, h, _, _, _ => by simp at h
 | _ :: _, [], i, c, x, _, h, _, _ => by simp at h
 | d :: l, y :: xs, 0, c, x, h, k, j, hj => by
  simp only [List.getElem?_cons_zero, Option.some.injEq] at h k
  subst h k
  show (clipG d y ++ gcells l xs)[0 * 22 + j]? = _
  rw [Nat.zero_mul, Nat.zero_add, List.getElem?_append_left (by rw [clipG_length]; exact hj)]
 | d :: l, y :: xs, i + 1, c, x, h, k, j, hj => by
  simp only [List.getElem?_cons_succ] at h k
  show (clipG d y ++ gcells l xs)[(i + 1) * 22 + j]? = _
  rw [List.getElem?_append_right (by rw [clipG_length]; omega), clipG_length, show (i + 1) * 22 + j - 22 = i * 22 + j by omega]
  exact gcells_get h k hj
theorem gcells_append : ∀ {l : List Trk.Clip} {xs : List Value} (m : List Trk.Clip) (ys : List Value), xs.length = l.length → gcells (l ++ m) (xs ++ ys) = gcells l xs ++ gcells m ys
 | [], [], _, _, _ => rfl
 | c :: l, x :: xs, m, ys, h => by
  show clipG c x ++ gcells (l ++ m) (xs ++ ys) = (clipG c x ++ gcells l xs) ++ gcells m ys
  rw [gcells_append m ys (by simpa using h), List.append_assoc]
theorem gcells_one (c : Trk.Clip) (x : Value) : gcells [c] [x] = clipG c x := by simp [gcells]
def TG (w : World) (C : Nat) (v : Value) (l : List Trk.Clip) : Prop :=
 ∃ ao cap, v = .slice ao l.length cap ∧ l.length ≤ cap ∧ cap ≤ maxLen ∧ ∀ i c, l[i]? = some c → ∃ b o x, ao = some ⟨b, o, none⟩ ∧ GA w b (o + i * 22) c x ∧ Ch w C x c.chan
theorem TG.below {w w' : World} {C : Nat} {v : Value} {l : List Trk.Clip} (h : TG w C v l) (hb : Below w.heap.size w w') : TG w' C v l := by
 obtain ⟨ao, cap, e, h1, h2, h3⟩ := h
 refine ⟨ao, cap, e, h1, h2, fun i c hi => ?_⟩
 obtain ⟨b, o, x, e2, hc, hx⟩ := h3 i c hi
 exact ⟨b, o, x, e2, hc.below hb, hx.below hb⟩
theorem TG.nil (w : World) (C : Nat) : TG w C (.slice none 0 0) [] := ⟨none, 0, rfl, Nat.le_refl _, Nat.zero_le _, fun i c h => by simp at h⟩
theorem TG.up {w : World} {C D : Nat} {v : Value} {l : List Trk.Clip} (h : TG w C v l) (hC : C ≤ D) : TG w D v l := by
 obtain ⟨ao, cap, e, h1, h2, h3⟩ := h
 refine ⟨ao, cap, e, h1, h2, fun i c hi => ?_⟩
 obtain ⟨b, o, x, e2, hc, hx⟩ := h3 i c hi
 exact ⟨b, o, x, e2, hc, hx.up hC⟩
theorem TG.form {w : World} {C : Nat} {v : Value} {l : List Trk.Clip} (h : TG w C v l) : ∃ ao cap, v = .slice ao l.length cap := by
 obtain ⟨ao, cap, e, _⟩ := h
 exact ⟨ao, cap, e⟩
theorem Tk.tg {w : World} {v : Value} {l : List Trk.Clip} (h : Tk w v l) (hn : ∀ c ∈ l, c.chan = []) (C : Nat) : TG w C v l := by
 obtain ⟨ao, cap, e, h1, h2, h3⟩ := h
 refine ⟨ao, cap, e, h1, h2, fun i c hi => ?_⟩
 obtain ⟨b, o, e2, hc⟩ := h3 i c hi
 refine ⟨b, o, .slice none 0 0, e2, GA.of fun j u hu => hc.get j u hu, ?_⟩
 rw [hn c (List.mem_of_getElem? hi)]
 exact Ch.nil _ _
def OG (w : World) (B C : Nat) (v : Value) (l : List Trk.Clip) : Prop :=
 ∃ xs : List Value, xs.length = l.length ∧ RowX w B 48 22 v l.length (gcells l xs) ∧ ∀ (i : Nat) c x, l[i]? = some c → xs[i]? = some x → Ch w C x c.chan
theorem OG.nil (w : World) (B C : Nat) : OG w B C (.slice none 0 0) [] := ⟨[], rfl, Or.inl ⟨rfl, rfl, rfl⟩, fun i c x h => by simp at h⟩
theorem OG.below {w w' : World} {B C : Nat} {v : Value} {l : List Trk.Clip} (h : OG w B C v l) (hb : Below w.heap.size w w') : OG w' B C v l := by
 obtain ⟨xs, h1, h2, h3⟩ := h
 exact ⟨xs, h1, h2.below hb, fun i c x hi hx => (h3 i c x hi hx).below hb⟩
theorem OG.tg {w : World} {B C : Nat} {v : Value} {l : List Trk.Clip} (h : OG w B C v l) : TG w C v l := by
 obtain ⟨xs, h1, h2, h3⟩ := h
 have h' := h2
 rcases h2 with ⟨rfl, hl, _⟩ | ⟨g, cap, cur, rfl, hB, hg, hk, hc, _⟩
 ·have : l = [] := List.length_eq_zero_iff.1 hl
  subst this
  exact TG.nil w C
 ·refine ⟨_, _, rfl, hk, hc, fun i c hi => ?_⟩
  obtain ⟨x, hx⟩ : ∃ x, xs[i]? = some x := ⟨_, List.getElem?_eq_getElem (by rw [h1]; exact (List.getElem?_eq_some_iff.1 hi).1)⟩
  refine ⟨g, 0, x, rfl, GA.of fun j u hu => ?_, h3 i c x hi hx⟩
  have hj : j < 22 := (List.getElem?_eq_some_iff.1 hu).1
  have := RowX.cell h' ((gcells_get hi hx hj).trans hu)
  rw [Nat.zero_add]
  exact this
theorem OG.up {w : World} {B C D : Nat} {v : Value} {l : List Trk.Clip} (h : OG w B C v l) (hC : C ≤ D) : OG w B D v l := by
 obtain ⟨xs, h1, h2, h3⟩ := h
 exact ⟨xs, h1, h2, fun i c x hi hx => (h3 i c x hi hx).up hC⟩
theorem OG.lower {w : World} {B A C : Nat} {v : Value} {l : List Trk.Clip} (h : OG w B C v l) (hA : A ≤ B) : OG w A C v l := by
 obtain ⟨xs, h1, h2, h3⟩ := h
 refine ⟨xs, h1, ?_, h3⟩
 rcases h2 with h | ⟨g, cap, cur, e, hB, h⟩
 ·exact Or.inl h
 ·exact Or.inr ⟨g, cap, cur, e, Nat.le_trans hA hB, h⟩
theorem OG.shape {w : World} {B C : Nat} {v : Value} {l : List Trk.Clip} (h : OG w B C v l) : (v = .slice none 0 0 ∧ l = []) ∨ ∃ g cap, v = .slice (some ⟨g, 0, none⟩) l.length cap := by
 obtain ⟨xs, h1, h2, h3⟩ := h
 rcases h2 with ⟨rfl, hl, _⟩ | ⟨g, cap, cur, rfl, _⟩
 ·exact .inl ⟨rfl, List.length_eq_zero_iff.1 hl⟩
 ·exact .inr ⟨g, cap, rfl⟩
theorem OG.blk {w : World} {B C k cap g : Nat} {l : List Trk.Clip} (h : OG w B C (.slice (some ⟨g, 0, none⟩) k cap) l) : B ≤ g ∧ k = l.length ∧ k ≤ cap ∧ cap ≤ maxLen ∧ ∃ cur, w.heap[g]? = some (.cells cur 48 (0, 0)) ∧ cur.size = cap * 22 := by
 obtain ⟨xs, h1, h2, h3⟩ := h
 rcases h2 with ⟨e, _⟩ | ⟨g', cap', cur, e, hB, hg, hk, hc, hs, _⟩
 ·simp at e
 ·simp only [Value.slice.injEq, Option.some.injEq, Addr.mk.injEq, and_true, true_and] at e
  obtain ⟨rfl, rfl, rfl⟩ := e
  exact ⟨hB, rfl, hk, hc, cur, hg, hs⟩
theorem OG.lt {w : World} {B C k cap g : Nat} {l : List Trk.Clip} (h : OG w B C (.slice (some ⟨g, 0, none⟩) k cap) l) : g < w.heap.size := by
 obtain ⟨_, _, _, _, cur, hg, _⟩ := h.blk
 exact (Array.getElem?_eq_some_iff.1 hg).1
theorem OG.frozen {w : World} {B C k cap g : Nat} {l : List Trk.Clip} (h : OG w B C (.slice (some ⟨g, 0, none⟩) k cap) l) (o : Nat) : w.frozen? ⟨g, o, none⟩ = false := by
 obtain ⟨_, _, _, _, cur, hg, _⟩ := h.blk
 simp [World.frozen?, hg]
theorem OG.cell {w : World} {B C k cap g : Nat} {l : List Trk.Clip} (h : OG w B C (.slice (some ⟨g, 0, none⟩) k cap) l) {i : Nat} {c : Trk.Clip} (hi : l[i]? = some c) : ∃ x, GA w g (i * 22) c x ∧ Ch w C x c.chan := by
 obtain ⟨ao, cap', e, _, _, h3⟩ := h.tg
 obtain ⟨b, o, x, e2, hA, hC⟩ := h3 i c hi
 simp only [Value.slice.injEq] at e
 rw [← e.1] at e2
 simp only [Option.some.injEq, Addr.mk.injEq, and_true] at e2
 obtain ⟨rfl, rfl⟩ := e2
 rw [Nat.zero_add] at hA
 exact ⟨x, hA, hC⟩
theorem OG.keep {w w' : World} {B C : Nat} {v : Value} {l : List Trk.Clip} (h : OG w B C v l) (hs : w.heap.size ≤ w'.heap.size) (hr : ∀ g k cap, v = .slice (some ⟨g, 0, none⟩) k cap → w'.heap[g]? = w.heap[g]?)
  (hk : ∀ b, b < w.heap.size → (b < C ∨ ∃ cur, w.heap[b]? = some (.cells cur 3 (0, 0))) → w'.heap[b]? = w.heap[b]?) : OG w' B C v l := by
 obtain ⟨xs, h1, h2, h3⟩ := h
 refine ⟨xs, h1, ?_, fun i c x hi hx => (h3 i c x hi hx).keep hs hk⟩
 rcases h2 with h | ⟨g, cap, cur, e, hB, hg, h⟩
 ·exact Or.inl h
 ·exact Or.inr ⟨g, cap, cur, e, hB, (hr g _ cap e).trans hg, h⟩
theorem OG.far {w w' : World} {B C : Nat} {v : Value} {l : List Trk.Clip} (h : OG w B C v l) (hs : w.heap.size ≤ w'.heap.size) {g : Nat} {cur : Array Value} {T : TypeId} {p : Nat × Nat} (hg : w.heap[g]? = some (.cells cur T p)) (hT : T ≠ 3) (hC : C ≤ g)
  (hv : ∀ g2 k cap, v = .slice (some ⟨g2, 0, none⟩) k cap → g2 ≠ g) (hk : ∀ b, b < w.heap.size → b ≠ g → w'.heap[b]? = w.heap[b]?) : OG w' B C v l := by
 refine h.keep hs (fun g2 k cap e => hk g2 (by subst e; exact h.lt) (hv g2 k cap e)) fun b hb hd => hk b hb ?_
 rintro rfl
 rcases hd with h | ⟨c, hc⟩
 ·omega
 ·rw [hg] at hc
  simp only [Option.some.injEq, Obj.cells.injEq] at hc
  exact hT hc.2.1
theorem OG.setLen {w : World} {B C g cap k : Nat} {q : List Trk.Clip} {p : Trk.Clip} (h : OG w B C (.slice (some ⟨g, 0, none⟩) k cap) (q ++ [p])) (hC : C ≤ B) (n : Int) :
  OG (w.setCell ⟨g, q.length * 22, none⟩ (.int .i64 n)) B C (.slice (some ⟨g, 0, none⟩) k cap) (q ++ [Trk.withLen p n]) := by
 obtain ⟨hB, hkl, _, _, cur0, hg0, _⟩ := h.blk
 obtain ⟨xs, h1, h2, h3⟩ := h
 have hlen : (q ++ [Trk.withLen p n]).length = (q ++ [p]).length := by simp
 have hoth : ∀ b, b < w.heap.size → b ≠ g → (w.setCell ⟨g, q.length * 22, none⟩ (.int .i64 n)).heap[b]? = w.heap[b]? := fun b _ hn => by simp [World.setCell, Array.getElem?_modify, Ne.symm hn]
 refine ⟨xs, by rw [hlen]; exact h1, ?_, fun i c x hi hx => ?_⟩
 ·rcases h2 with ⟨e, _⟩ | ⟨g', cap', cur, e, hB, hg, hk, hc, hs, ht, hl⟩
  ·simp at e
  ·simp only [Value.slice.injEq, Option.some.injEq, Addr.mk.injEq, and_true, true_and] at e
   obtain ⟨rfl, rfl, rfl⟩ := e
   have hh : (w.setCell ⟨g, q.length * 22, none⟩ (.int .i64 n)).heap[g]? = some (.cells (cur.setIfInBounds (q.length * 22) (.int .i64 n)) 48 (0, 0)) := by
    simp [World.setCell, Array.getElem?_modify, hg]
   obtain ⟨ys, y, rfl⟩ : ∃ ys y, xs = ys ++ [y] := by
    have hne : xs ≠ [] := by rintro rfl; simp at h1
    exact ⟨xs.dropLast, xs.getLast hne, (List.dropLast_concat_getLast hne).symm⟩
   have hyl : ys.length = q.length := by simpa using h1
   refine Or.inr ⟨g, cap, _, by rw [hlen], hB, hh, by rw [hlen]; exact hk, hc, by simpa using hs, ?_, ?_⟩
   ·rw [hlen, Array.toList_setIfInBounds, List.take_set, ht, gcells_append _ _ hyl, gcells_append _ _ hyl, gcells_one, gcells_one, List.set_append_right _ _ (by rw [gcells_length hyl]; exact Nat.le_refl _), gcells_length hyl, Nat.sub_self]
    rfl
   ·rw [gcells_length (by rw [hlen]; exact h1)]
 ·have hch : ∀ d, (q ++ [p])[i]? = some d → Ch w C x d.chan → Ch (w.setCell ⟨g, q.length * 22, none⟩ (.int .i64 n)) C x d.chan := fun d _ hd => hd.far (by simp) hg0 (by decide) (by omega) hoth
  rcases Nat.lt_or_ge i q.length with h | h
  ·rw [List.getElem?_append_left h] at hi
   have hi2 : (q ++ [p])[i]? = some c := by rw [List.getElem?_append_left h]; exact hi
   exact hch c hi2 (h3 i c x hi2 hx)
  ·have e : i = q.length := by
    have := (List.getElem?_eq_some_iff.1 hi).1
    simp at this
    omega
   subst e
   have hc : c = Trk.withLen p n := by simpa using hi.symm
   subst hc
   exact hch p (by simp) (h3 _ p x (by simp) hx)
theorem run_appG (w : World) (B C : Nat) (v u : Value) (l m : List Trk.Clip) (h : OG w B C v l) (hB : B ≤ w.heap.size) (hC : C ≤ B) (hm : TG w C u m) (hl : l.length + m.length ≤ 1048576) :
  ∃ v' w', (Builtin.append_ #[23, 23] 23 #[v, u]).run Tryz.prog w = .ok v' w' ∧ OG w' B C v' (l ++ m) ∧ Below B w w' ∧ (∀ b, b < w.heap.size → (∀ g cap, v = .slice (some ⟨g, 0, none⟩) l.length cap → b ≠ g) → w'.heap[b]? = w.heap[b]?) ∧ w.heap.size ≤ w'.heap.size := by
 obtain ⟨i0, hi, hz0, hz1, hz2⟩ := info_parts info53
 cases m with
 | nil =>
  obtain ⟨ao, c, rfl, _⟩ := hm
  rw [List.append_nil]
  refine ⟨v, w, ?_, h, Below.refl _ _, fun _ _ _ => rfl, Nat.le_refl _⟩
  have hf : ∀ w : World, (Builtin.firstCells i0.size 0 (.slice ao 0 c)).run Tryz.prog w = .ok #[] w := by
   intro w
   cases ao with
   | none => simp [Builtin.firstCells]
   | some a => simp [Builtin.firstCells, loadCells, loadCellsFrom]
  obtain ⟨rfl, rfl⟩ | ⟨g, cap, rfl⟩ := h.shape
  ·simp [Builtin.append_, run_underlying Tryz.underlying23, sizeOf, typeInfo, hi, Builtin.lenOf, hf]
  ·have hk : l.length ≤ cap := h.blk.2.2.1
   simp [Builtin.append_, run_underlying Tryz.underlying23, sizeOf, typeInfo, hi, Builtin.lenOf, hf, hk, storeCells]
 | cons d m =>
  obtain ⟨ao, c, rfl, h1, h2, h3⟩ := hm
  obtain ⟨b, o, x0, rfl, _⟩ := h3 0 d rfl
  have hx : ∃ ys : List Value, ys.length = (d :: m).length ∧ ∀ i c x, (d :: m)[i]? = some c → ys[i]? = some x → GA w b (o + i * 22) c x ∧ Ch w C x c.chan := by
   generalize d :: m = l' at h3
   clear h hl h1
   have : ∀ n, n ≤ l'.length → ∃ ys : List Value, ys.length = n ∧ ∀ i c x, l'[i]? = some c → ys[i]? = some x → GA w b (o + i * 22) c x ∧ Ch w C x c.chan := by
    intro n
    induction n with
    | zero => exact fun _ => ⟨[], rfl, fun i c x _ hx => by simp at hx⟩
    | succ n ih =>
     intro hn
     obtain ⟨ys, hy, hp⟩ := ih (by omega)
     obtain ⟨b', o', x, e, hA, hc⟩ := h3 n _ (List.getElem?_eq_getElem (by omega))
     simp only [Option.some.injEq, Addr.mk.injEq, and_true] at e
     obtain ⟨rfl, rfl⟩ := e
     refine ⟨ys ++ [x], by simp [hy], fun i c y hi hy2 => ?_⟩
     rcases Nat.lt_or_ge i n with hlt | hge
     ·rw [List.getElem?_append_left (by omega)] at hy2
      exact hp i c y hi hy2
     ·have e : i = n := by
       have := (List.getElem?_eq_some_iff.1 hy2).1
       rw [List.length_append, List.length_singleton] at this
       omega
      subst e
      rw [List.getElem?_append_right (by omega), hy, Nat.sub_self] at hy2
      obtain rfl := Option.some.inj hy2
      rw [List.getElem?_eq_getElem (by omega)] at hi
      obtain rfl := Option.some.inj hi
      exact ⟨hA, hc⟩
   exact this _ (Nat.le_refl _)
  obtain ⟨ys, hyl, hyp⟩ := hx
  obtain ⟨xs, hxl, hrow, hch⟩ := h
  obtain ⟨v', w', hrun, r1, r2, r3, r4, r5⟩ := append_x w B 23 48 22 216 zClip Tryz.underlying23 info53 zeros53 v l.length (gcells l xs) hrow hB ⟨b, o, none⟩ (d :: m).length c (gcells (d :: m) ys) (gcells_length hyl)
   (fun j u hu => by
    have hjl : j < (d :: m).length * 22 := by have := (List.getElem?_eq_some_iff.1 hu).1; rw [gcells_length hyl] at this; exact this
    have hm' : j % 22 < 22 := Nat.mod_lt _ (by decide)
    have hq : j / 22 < (d :: m).length := by omega
    obtain ⟨c', hc'⟩ : ∃ c', (d :: m)[j / 22]? = some c' := ⟨_, List.getElem?_eq_getElem hq⟩
    obtain ⟨x', hx'⟩ : ∃ x', ys[j / 22]? = some x' := ⟨_, List.getElem?_eq_getElem (by rw [hyl]; exact hq)⟩
    have hg := gcells_get hc' hx' hm'
    rw [show j / 22 * 22 + j % 22 = j by omega, hu] at hg
    rw [Addr.add_mid, show o + j = o + j / 22 * 22 + j % 22 by omega]
    exact (hyp _ _ _ hc' hx').1.get _ _ hg.symm)
   (fun u hu => by
    obtain ⟨j, hj, e⟩ := List.getElem_of_mem hu
    have hjl : j < (d :: m).length * 22 := by rw [gcells_length hyl] at hj; exact hj
    have hm' : j % 22 < 22 := Nat.mod_lt _ (by decide)
    have hq : j / 22 < (d :: m).length := by omega
    obtain ⟨c', hc'⟩ : ∃ c', (d :: m)[j / 22]? = some c' := ⟨_, List.getElem?_eq_getElem hq⟩
    obtain ⟨x', hx'⟩ : ∃ x', ys[j / 22]? = some x' := ⟨_, List.getElem?_eq_getElem (by rw [hyl]; exact hq)⟩
    have hg := gcells_get hc' hx' hm'
    rw [show j / 22 * 22 + j % 22 = j by omega, List.getElem?_eq_getElem hj, e] at hg
    obtain ⟨ax, cx, ex, _⟩ := (hyp _ _ _ hc' hx').2
    have h1 := clipG_oneCell c' ax c'.chan.length cx
    rw [← ex, Array.all_eq_true_iff_forall_mem] at h1
    exact h1 u (by simpa using List.mem_of_getElem? hg.symm)) (by simp) (by unfold maxLen; omega) (fun cap h1 h2 => growslice_fits h2 (by omega))
  have hkeep : ∀ x (k : List Int), Ch w C x k → Ch w' C x k := fun x k hc => hc.keep r5 fun b' hb' hd => r4 b' hb' (by
   rintro g cap rfl rfl
   rcases hrow with ⟨e, _⟩ | ⟨g', cap', cur, e, hB', hg, _⟩
   ·simp at e
   ·simp only [Value.slice.injEq, Option.some.injEq, Addr.mk.injEq, and_true, true_and] at e
    obtain ⟨rfl, -⟩ := e
    rcases hd with h | ⟨cu, hcu⟩
    ·omega
    ·rw [hg] at hcu
     simp only [Option.some.injEq, Obj.cells.injEq] at hcu
     exact absurd hcu.2.1 (by decide))
  refine ⟨v', w', hrun, ⟨xs ++ ys, by rw [List.length_append, List.length_append, hxl, hyl], ?_, fun i c x hi hx => ?_⟩, r2, r4, r5⟩
  ·rw [gcells_append _ _ hxl, List.length_append]
   exact r1
  ·rcases Nat.lt_or_ge i l.length with hlt | hge
   ·rw [List.getElem?_append_left hlt] at hi
    rw [List.getElem?_append_left (by omega)] at hx
    exact hkeep _ _ (hch i c x hi hx)
   ·rw [List.getElem?_append_right hge] at hi
    rw [List.getElem?_append_right (by omega), hxl] at hx
    exact hkeep _ _ (hyp _ _ _ hi hx).2
theorem wpList_appG (w : World) {ops : Array Oper} {rest : List Oper} {op : Oper} {a : Act} {Q : Exit → Act → World → Prop} (T1 T2 : TypeId) (h1 : Tryz.prog.underlying T1 = some (.slice 48)) (h2 : Tryz.prog.underlying T2 = some (.slice 48)) (hg : op.guard = none) (s x : Operand)
  (hop : op.op = .call { callee := .builtin .append, args := #[s, x], argTypes := #[T1, T2] }) (B C : Nat) (v u : Value) (l m : List Trk.Clip) (hs : a.eval s = v) (hx : a.eval x = u) (h : OG w B C v l) (hB : B ≤ w.heap.size) (hC : C ≤ B) (hm : TG w C u m) (hl : l.length + m.length ≤ 1048576)
  (hK : ∀ v' w', OG w' B C v' (l ++ m) → Below B w w' → (∀ b, b < w.heap.size → (∀ g cap, v = .slice (some ⟨g, 0, none⟩) l.length cap → b ≠ g) → w'.heap[b]? = w.heap[b]?) → w.heap.size ≤ w'.heap.size → wpList Tryz.prog ops Q rest (a.put op.dst v') w') : wpList Tryz.prog ops Q (op :: rest) a w := by
 refine wpList_plain hg fun K hK' => ?_
 obtain ⟨v', w', hrun, r2, r3, r4, r5⟩ := run_appG w B C v u l m h hB hC hm hl
 obtain ⟨ao, ca, e⟩ := h.tg.form
 have hrun' : (Builtin.append_ #[T1, T2] op.type #[v, u]).run Tryz.prog w = .ok v' w' := by
  rw [e] at hrun ⊢
  exact (append_same T1 T2 op.type h1 h2 ao l.length ca u w).trans hrun
 unfold Oper.wp
 simp [execOp, hop, resolve, invoke, builtin, hs, hx, hrun', Result.andThen]
 exact hK' _ _ (hK v' w' r2 r3 r4 r5)
theorem GB.tg {w : World} {b C : Nat} {c : Trk.Clip} {x : Value} (h : GB w b c x) (hx : Ch w C x c.chan) : TG w C (.slice (some ⟨b, 0, none⟩) 1 1) [c] :=
 ⟨_, 1, rfl, Nat.le_refl _, by unfold maxLen; omega, fun i d hi => by
  have e : i = 0 := by have := (List.getElem?_eq_some_iff.1 hi).1; simpa using this
  subst e
  simp only [List.getElem?_cons_zero, Option.some.injEq] at hi
  subst hi
  exact ⟨b, 0, x, rfl, by rw [Nat.zero_mul, Nat.zero_add]; exact h.ga, hx⟩⟩
def OGPost (w : World) (l : List Trk.Clip) (e : Ending) (w' : World) : Prop := ∃ v', e = .returned v' ∧ OG w' w.heap.size 0 v' l ∧ Below w.heap.size w w'
set_option maxRecDepth 100000 in
theorem built_clipG (c : Trk.Clip) (x : Value) : Tryz.prog.builtSlice 48 1 [(0, .agg (clipG c x).toArray)] = some (clipG c x).toArray := by kernel_rfl
set_option maxRecDepth 100000 in
set_option maxHeartbeats 8000000 in
theorem packg_any (C : Nat) (v : Value) (l : List Trk.Clip) (w : World) (h : TG w C v l) (hO : ∀ c ∈ l, OkG c) (hl : l.length ≤ 1048576) (ht : Trk.total l ≤ 4611686018427387904) :
  Calls Tryz.prog 70 #[v] w (OGPost w (Trk.pk l)) := by
 unfold OGPost
 obtain ⟨ao, cap, rfl, hc1, hc2, hT⟩ := h
 have HT := Lib.hid (show TG w C (.slice ao l.length cap) l from ⟨ao, cap, rfl, hc1, hc2, hT⟩)
 clear hT
 have hG : Trk.GoodL l := fun c hc => (hO c hc).g
 have HO := Lib.hid hO
 have HG := Lib.hid hG
 have HTT := Lib.hid ht
 have HLL := Lib.hid (And.intro hl (And.intro hc1 hc2))
 obtain ⟨L, hL⟩ : ∃ L, L = l.length := ⟨_, rfl⟩
 rw [← hL] at hl hc1
 have HLe := Lib.hid hL
 rw [← hL]
 clear hO hG ht hL hc2
 go_enter Tryz.func70, Tryz.ntmps70
 go_wp2_with fail
 go_loopw [3, 8] (fun v3 v8 wr => ∃ k : Nat, k ≤ L ∧ v8 = .int .i64 (k : Int) ∧ OG wr w.heap.size 0 v3 (Trk.pk (l.take k)) ∧ Below w.heap.size w wr) (fun _ i _ => L - (intOf i).toNat)
 case atStart => exact ⟨0, Nat.zero_le _, rfl, by rw [List.take_zero]; exact OG.nil _ _ _, Below.refl _ _⟩
 case round =>
  obtain ⟨k, hk, rfl, ho, hb⟩ := hrel
  by_cases hlt : k < L
  ·have hlt' : (k : Int) < (L : Int) := by omega
   have hkl : k < l.length := by rw [← HLe.out]; exact hlt
   obtain ⟨c, hc⟩ : ∃ c, l[k]? = some c := ⟨_, List.getElem?_eq_getElem hkl⟩
   obtain ⟨ao', cap', e, _, _, hT⟩ := HT.out.below hb
   simp only [Value.slice.injEq, true_and] at e
   obtain ⟨rfl, rfl⟩ := e
   obtain ⟨b, o, x, rfl, hA, hX⟩ := hT k c hc
   obtain ⟨ax, cx, ex⟩ := hX.form
   obtain ⟨nx, hnx⟩ : ∃ n, n = c.chan.length := ⟨_, rfl⟩
   rw [← hnx] at ex
   subst ex
   clear hT hnx
   have HA := Lib.hid hA
   have HX := Lib.hid hX.it
   have HOT := Lib.hid ho
   have HB := Lib.hid hb
   have HC := Lib.hid hc
   clear hA ho hb hc hkl hX
   go_upto_region 4 with fail
   apply wp_region_lit
   iterate 6 go_step
   refine wpl_loadG HA.out rfl rfl rfl ?_
   refine wpl_allocB rfl rfl (fun w2 hg hb2 hs2 => ?_)
   obtain ⟨g, hgg⟩ : ∃ g, g = wr.heap.size := ⟨_, rfl⟩
   rw [← hgg] at hg ⊢
   have hgn : w.heap.size ≤ g := by rw [hgg]; exact HB.out.size
   have hno : ∀ g2 cp, (∃ x, OG wr w.heap.size 0 (.slice (some ⟨g2, 0, none⟩) x cp) (Trk.pk (l.take k))) → g2 ≠ g := fun g2 cp hx => by
    obtain ⟨x, hx⟩ := hx
    have := hx.lt
    omega
   have hno2 : ∀ g2 cp x, u3 = .slice (some ⟨g2, 0, none⟩) x cp → g2 ≠ g := fun g2 cp x e => hno g2 cp ⟨x, by rw [← e]; exact HOT.out⟩
   have HNO := Lib.hid hno2
   have HBX := Lib.hid (And.intro hb2 hgg)
   obtain ⟨C, hC⟩ : ∃ C, C = (clipG c (.slice ax nx cx)).toArray := ⟨_, rfl⟩
   rw [← hC]
   have HCC := Lib.hid hC
   clear hC hb2 hs2 hgg hno hno2
   simp only [Act.put, List.setIfInBounds_toArray, List.set_cons_succ, List.set_cons_zero]
   iterate 3 go_step
   refine wpl_storeB2 c ax nx cx hg rfl rfl rfl (by rw [← HCC.out]; rfl) ?_
   intro w3 hv ho3 hs3 hb3
   simp only [Act.put, List.setIfInBounds_toArray, List.set_cons_succ, List.set_cons_zero]
   have hbw : Below wr.heap.size wr w3 := hb3 _ _ (Nat.le_of_eq HBX.out.2.symm) HBX.out.1
   replace HA := Lib.hid (HA.out.below hbw)
   replace HX := Lib.hid (HX.out.below hbw)
   replace HOT := Lib.hid (HOT.out.below hbw)
   have HT3 := Lib.hid ((HT.out.below HB.out).below hbw)
   replace HB := Lib.hid (HB.out.trans (hbw.mono HB.out.size))
   have HV := Lib.hid hv
   clear hv ho3 hs3 hb3 hbw hg
   obtain ⟨tv, htv⟩ : ∃ t : Bool, t = (match (Trk.pk (l.take k)).getLast? with | none => false | some p => decide (Trk.cont c p)) := ⟨_, rfl⟩
   have HTV := Lib.hid htv
   clear htv
   go_upto_region 5 with fail
   go_cut [23] from 10 to 41 (fun v wx => v = .bool tv ∧ GB wx g c (.slice ax nx cx) ∧ IT wx (.slice ax nx cx) c.chan ∧ OG wx w.heap.size 0 u3 (Trk.pk (l.take k)) ∧ Below w.heap.size w wx)
   case first J K' h1 h2 =>
    by_cases hk0 : 0 < k
    ·have hk0' : (0 : Int) < (k : Int) := by omega
     have hkl : k - 1 < l.length := by rw [← HLe.out]; omega
     obtain ⟨d, hd⟩ : ∃ d, l[k - 1]? = some d := ⟨_, List.getElem?_eq_getElem hkl⟩
     obtain ⟨ao', cap', e, _, _, hT⟩ := HT3.out
     simp only [Value.slice.injEq, true_and] at e
     obtain ⟨e1, rfl⟩ := e
     obtain ⟨b', o', y, e2, hA2, hY⟩ := hT (k - 1) d hd
     obtain ⟨ay, cy, ey⟩ := hY.form
     obtain ⟨ny, hny⟩ : ∃ n, n = d.chan.length := ⟨_, rfl⟩
     rw [← hny] at ey
     subst ey
     have HY := Lib.hid hY.it
     clear hny hY
     rw [← e1] at e2
     simp only [Option.some.injEq, Addr.mk.injEq, and_true] at e2
     obtain ⟨rfl, rfl⟩ := e2
     have HD := Lib.hid hA2
     have hk1 : (k : Int) - 1 = ((k - 1 : Nat) : Int) := by omega
     have hkL : k - 1 < L := by omega
     clear hT e1 hA2
     refine Plan.wp_region_plan (fun w' => GB w' g c (.slice ax nx cx) ∧ GA w' b (o + (k - 1) * 22) d (.slice ay ny cy)) (([0, 1, 2, 3, 4, 5, 6, 7, 8].map (·, true)) ++ (([9].map (·, false)) ++ ([10].map (·, true)))) (by kernel_rfl) (by kernel_rfl) (by kernel_rfl) ⟨HV.out.below (Below.refl _ _).drew, HD.out.below (Below.refl _ _).drew⟩ ?_
     refine' Plan.plan_seg _ [0, 1, 2, 3, 4, 5, 6, 7, 8] (([9].map (·, false)) ++ ([10].map (·, true))) (by kernel_rfl) (by kernel_rfl) rfl (by exact ⟨HV.out.below (Below.refl _ _).drew, HD.out.below (Below.refl _ _).drew⟩) (fun wx hS => ?_) ?_
     rotate_left
     ·obtain ⟨S1, S2⟩ := hS
      have HS1 := Lib.hid S1
      have HS2 := Lib.hid S2
      clear S1 S2
      go_light
      iterate 3 (apply Plan.seg_pick; rfl; intro K hK; go_wp)
      (apply Plan.seg_pick; rfl; intro K hK)
      go_guarded
      refine wp_load_mid 48 _ rfl g 0 rfl (clipG c (.slice ax nx cx)) _ HS1.out.ga.range Tryz.underlying48 rfl (by kernel_rfl) ?_
      rw [← HCC.out]
      go_wp
      iterate 4 (apply Plan.seg_pick; rfl; intro K hK; go_wp)
      (apply Plan.seg_pick; rfl; intro K hK)
      go_guarded
      refine wp_load_mid 48 _ rfl b (o + (k - 1) * 22) rfl (clipG d (.slice ay ny cy)) _ HS2.out.range Tryz.underlying48 rfl (by kernel_rfl) ?_
      go_wp
      exact Plan.seg_nil
     obtain ⟨w4, hw4⟩ : ∃ x, x = w3.drew := ⟨_, rfl⟩
     rw [← hw4]
     have hb : Below w3.heap.size w3 w4 := by rw [hw4]; exact (Below.refl _ _).drew
     replace HV := Lib.hid (HV.out.below hb)
     replace HD := Lib.hid (HD.out.below hb)
     replace HX := Lib.hid (HX.out.below hb)
     replace HY := Lib.hid (HY.out.below hb)
     replace HOT := Lib.hid (HOT.out.below hb)
     replace HB := Lib.hid (HB.out.trans (hb.mono HB.out.size))
     clear hb hw4
     have hte : tv = decide (Trk.cont c d) := by
      rw [HTV.out]
      have hlast : (l.take k).getLast? = some d := by
       rw [List.getLast?_eq_getElem?, List.length_take, Nat.min_eq_left (by rw [← HLe.out]; exact hk), List.getElem?_take, if_pos (by omega)]
       exact hd
      have hG' : Trk.GoodL (l.take k) := fun x hx => HG.out x (List.mem_of_mem_take hx)
      cases hp : (Trk.pk (l.take k)).getLast? with
      | none =>
       have e0 := (Trk.pk_of hG').e.1 hp
       rw [e0] at hlast
       simp at hlast
      | some p => exact decide_eq_decide.2 (Trk.cont_last hG' hp hlast)
     have HCO := Lib.hid (show Calls Tryz.prog 112 #[.agg C, .agg (clipG d (.slice ay ny cy)).toArray] w4 fun e w' => e = .returned (.bool tv) ∧ Below w4.heap.size w4 w' from by
      rw [HCC.out, hte]
      exact contg_any c d _ _ w4 (HO.out c (List.mem_of_getElem? HC.out)) (HO.out d (List.mem_of_getElem? hd)) HX.out HY.out)
     clear hte
     refine Plan.plan_of_effect rfl (fun K hK => ?_)
     go_wp2_with fail
     refine HCO.out.mono ?_
     rintro e w5 ⟨rfl, hb⟩
     replace HV := Lib.hid (HV.out.below hb)
     replace HD := Lib.hid (HD.out.below hb)
     replace HX := Lib.hid (HX.out.below hb)
     replace HY := Lib.hid (HY.out.below hb)
     replace HOT := Lib.hid (HOT.out.below hb)
     replace HB := Lib.hid (HB.out.trans (hb.mono HB.out.size))
     clear hb
     go_wp2_with fail
     refine ⟨⟨HV.out, HD.out⟩, ?_⟩
     refine' Plan.plan_seg _ [10] [] (by kernel_rfl) (by kernel_rfl) rfl (by exact ⟨HV.out, HD.out⟩) (fun wx hS => ?_) ?_
     rotate_left
     ·clear hS
      go_light
      iterate 1 (apply Plan.seg_pick; rfl; intro K hK; go_wp)
      exact Plan.seg_nil
     refine Plan.plan_done ?_
     refine h2 _ _ (Met.intro (h1 _ _ ?_))
     (repeat apply Exists.intro)
     exact ⟨⟨rfl, HV.out, HX.out, HOT.out, HB.out⟩, rfl⟩
    ·obtain rfl : k = 0 := by omega
     have hte : tv = false := by rw [HTV.out]; rfl
     subst hte
     refine Plan.wp_region_plan (fun w' => GB w' g c (.slice ax nx cx)) (([0, 1, 2, 3, 4, 5, 6, 7, 8].map (·, true)) ++ (([9].map (·, false)) ++ ([10].map (·, true)))) (by kernel_rfl) (by kernel_rfl) (by kernel_rfl) (HV.out.below (Below.refl _ _).drew) ?_
     refine' Plan.plan_seg _ [0, 1, 2, 3, 4, 5, 6, 7, 8] (([9].map (·, false)) ++ ([10].map (·, true))) (by kernel_rfl) (by kernel_rfl) rfl (by exact HV.out.below (Below.refl _ _).drew) (fun wx hS => ?_) ?_
     rotate_left
     ·clear hS
      go_light
      iterate 9 (apply Plan.seg_pick; rfl; intro K hK; go_wp)
      exact Plan.seg_nil
     obtain ⟨w4, hw4⟩ : ∃ x, x = w3.drew := ⟨_, rfl⟩
     rw [← hw4]
     have hb : Below w3.heap.size w3 w4 := by rw [hw4]; exact (Below.refl _ _).drew
     replace HV := Lib.hid (HV.out.below hb)
     replace HX := Lib.hid (HX.out.below hb)
     replace HOT := Lib.hid (HOT.out.below hb)
     replace HB := Lib.hid (HB.out.trans (hb.mono HB.out.size))
     clear hb hw4
     refine Plan.plan_of_effect rfl (fun K hK => ?_)
     go_wp2_with fail
     refine ⟨HV.out, ?_⟩
     refine' Plan.plan_seg _ [10] [] (by kernel_rfl) (by kernel_rfl) rfl (by exact HV.out) (fun wx hS => ?_) ?_
     rotate_left
     ·clear hS
      go_light
      iterate 1 (apply Plan.seg_pick; rfl; intro K hK; go_wp)
      exact Plan.seg_nil
     refine Plan.plan_done ?_
     refine h2 _ _ (Met.intro (h1 _ _ ?_))
     (repeat apply Exists.intro)
     exact ⟨⟨rfl, HV.out, HX.out, HOT.out, HB.out⟩, rfl⟩
   case rest =>
    obtain ⟨e23, hv, hxx, ho, hb⟩ := hcut
    subst e23
    clear HV HOT HB HX
    have HV := Lib.hid hv
    have HX := Lib.hid hxx
    have HOT := Lib.hid ho
    have HB := Lib.hid hb
    clear hv ho hb hxx
    cases tv with
    | true =>
     obtain ⟨p, hp, hcp⟩ : ∃ p, (Trk.pk (l.take k)).getLast? = some p ∧ Trk.cont c p := by
      have h := HTV.out
      cases hp : (Trk.pk (l.take k)).getLast? with
      | none => rw [hp] at h; simp at h
      | some p => rw [hp] at h; exact ⟨p, rfl, of_decide_eq_true h.symm⟩
     have hq := Trk.getLast_split hp
     obtain ⟨q, hq2⟩ : ∃ q, q = (Trk.pk (l.take k)).dropLast := ⟨_, rfl⟩
     rw [← hq2] at hq
     have hsn : Trk.pk (l.take (k + 1)) = q ++ [Trk.withLen p (p.len + c.len)] := by
      rw [List.take_add_one, HC.out]
      show Trk.pk (l.take k ++ [c]) = _
      rw [Trk.pk_snoc]
      unfold Trk.snoc
      rw [hp]
      simp only
      rw [if_pos hcp, ← hq2]
     have HSN := Lib.hid hsn
     have hG' : Trk.GoodL (l.take k) := fun x hx => HG.out x (List.mem_of_mem_take hx)
     have hpk := Trk.pk_of hG'
     have hpl : p.len ≤ 4611686018427387904 := by
      have h1 := hpk.s.1
      have h2 := total_take l HG.out k
      have h3 := hpk.g
      rw [hq] at h1 h3
      rw [Trk.total_append] at h1
      have h4 := Trk.total_nonneg (l := q) (fun x hx => h3 x (List.mem_append_left _ hx))
      have h5 : Trk.total [p] = p.len := by show p.len + 0 = _; omega
      have h6 := HTT.out
      omega
     have hpl0 : 1 ≤ p.len := (hpk.g p (by rw [hq]; simp)).l
     have hcl := (HO.out c (List.mem_of_getElem? HC.out)).l
     have hcl0 := (HO.out c (List.mem_of_getElem? HC.out)).g.l
     rw [hq] at HOT
     obtain ⟨e, e0⟩ | ⟨g2, cp, e⟩ := HOT.out.shape
     ·simp at e0
     ·subst e
      have hng : g2 ≠ g := HNO.out g2 cp _ rfl
      have hng2 : ¬ g = g2 := fun e => hng e.symm
      obtain ⟨hB2, _⟩ := HOT.out.blk
      obtain ⟨xp, hCP, -⟩ := HOT.out.cell (i := q.length) (c := p) (by simp)
      have hfz := HOT.out.frozen
      have hqn : q.length ≤ 1048576 := by
       have := hpk.n
       rw [hq] at this
       simp only [List.length_append, List.length_cons, List.length_nil, List.length_take] at this
       omega
      obtain ⟨n, hn⟩ : ∃ n, n = q.length := ⟨_, rfl⟩
      have hln : (q ++ [p]).length = n + 1 := by simp [hn]
      rw [hln] at HOT ⊢
      rw [← hn] at hCP hqn
      have HN := Lib.hid hn
      have HCP := Lib.hid hCP
      have HFZ := Lib.hid hfz
      clear hn hCP hfz hp hcp hq hq2 hsn hG' hpk hln
      go_upto_region 6 with fail
      refine Plan.wp_region_plan (fun w' => GB w' g c (.slice ax nx cx)) (([0, 1, 2, 3, 4, 5, 7, 8].map (·, true)) ++ (([6].map (·, false)) ++ (([9, 10, 11].map (·, true)) ++ ([12].map (·, false))))) (by kernel_rfl) (by kernel_rfl) (by kernel_rfl) (HV.out.below (Below.refl _ _).drew) ?_
      refine' Plan.plan_seg _ [0, 1, 2, 3, 4, 5, 7, 8] (([6].map (·, false)) ++ (([9, 10, 11].map (·, true)) ++ ([12].map (·, false)))) (by kernel_rfl) (by kernel_rfl) rfl (by exact HV.out.below (Below.refl _ _).drew) (fun wx hS => ?_) ?_
      rotate_left
      ·have x0 := hS.ga.at0.1
       clear hS
       go_light
       iterate 8 (apply Plan.seg_pick; rfl; intro K hK; go_wp)
       exact Plan.seg_nil
      obtain ⟨w4, hw4⟩ : ∃ x, x = wc.drew := ⟨_, rfl⟩
      rw [← hw4]
      have hb : Below wc.heap.size wc w4 := by rw [hw4]; exact (Below.refl _ _).drew
      replace HOT := Lib.hid (HOT.out.below hb)
      replace HCP := Lib.hid (HCP.out.below hb)
      replace HB := Lib.hid (HB.out.trans (hb.mono HB.out.size))
      replace HV := Lib.hid (HV.out.below hb)
      clear hb hw4 HFZ
      have z0 := HCP.out.k0
      refine Plan.plan_of_effect rfl (fun K hK => ?_)
      go_wp2_with fail
      refine ⟨HV.out, ?_⟩
      refine' Plan.plan_seg _ [9, 10, 11] ([12].map (·, false)) (by kernel_rfl) (by kernel_rfl) rfl (by exact HV.out) (fun wx hS => ?_) ?_
      rotate_left
      ·clear hS
       go_light
       iterate 3 (apply Plan.seg_pick; rfl; intro K hK; go_wp)
       exact Plan.seg_nil
      have zf := HOT.out.frozen
      refine Plan.plan_of_effect rfl (fun K hK => ?_)
      go_wp2_with fail
      refine ⟨HV.out.other hng2 _ _, ?_⟩
      refine Plan.plan_done ?_
      have hnew := HOT.out.setLen (Nat.zero_le _) (p.len + c.len)
      rw [← HN.out, ← HSN.out] at hnew
      have HNE := Lib.hid hnew
      have HBN := Lib.hid (HB.out.setCell (p := ⟨g2, n * 22, none⟩) hB2 (.int .i64 (p.len + c.len)))
      clear z0 zf hnew
      obtain ⟨w5, hw5⟩ : ∃ x, x = w4.setCell ⟨g2, n * 22, none⟩ (.int .i64 (p.len + c.len)) := ⟨_, rfl⟩
      rw [← hw5] at HNE HBN ⊢
      clear hw5
      go_wp2_with fail
      go_roundw
      case rel =>
       exact ⟨k + 1, by omega, by simp, HNE.out, HBN.out⟩
      case measure =>
       show L - (intOf (.int .i64 ((k : Int) + 1))).toNat < L - (intOf (.int .i64 (k : Int))).toNat
       simp [intOf]
       omega
    | false =>
     have HCP := Lib.hid (fun w1 (hi : IT w1 (.slice ax nx cx) c.chan) => copiedg_any c (.slice ax nx cx) w1 hi (by have := (HO.out c (List.mem_of_getElem? HC.out)).ch; omega))
     unfold clipGV at HCP
     rw [← HCC.out] at HCP
     go_upto_region 7 with fail
     apply wp_region_lit
     iterate 3 go_step
     refine wpl_loadG HV.out.ga rfl rfl rfl ?_
     rw [← HCC.out]
     simp only [Act.put, List.setIfInBounds_toArray, List.set_cons_succ, List.set_cons_zero]
     iterate 2 go_step
     refine (HCP.out _ HX.out).mono ?_
     rintro e w5 ⟨x2, rfl, hch, hb⟩
     replace HOT := Lib.hid (HOT.out.below hb)
     replace HB := Lib.hid (HB.out.trans (hb.mono HB.out.size))
     obtain ⟨C2, hC2⟩ : ∃ C2, C2 = (clipG c x2).toArray := ⟨_, rfl⟩
     rw [← hC2]
     have HC2 := Lib.hid hC2
     have HCH := Lib.hid hch
     clear hb hC2 hch
     dsimp only
     go_step
     have hsn : Trk.pk (l.take (k + 1)) = Trk.pk (l.take k) ++ [c] := by
      rw [List.take_add_one, HC.out]
      show Trk.pk (l.take k ++ [c]) = _
      rw [Trk.pk_snoc]
      unfold Trk.snoc
      have h := HTV.out
      cases hp : (Trk.pk (l.take k)).getLast? with
      | none =>
       have e0 : Trk.pk (l.take k) = [] := List.getLast?_eq_none_iff.1 hp
       rw [e0]
       rfl
      | some p =>
       rw [hp] at h
       simp only
       rw [if_neg (of_decide_eq_false h.symm)]
     have HSN := Lib.hid hsn
     have hG' : Trk.GoodL (l.take k) := fun x hx => HG.out x (List.mem_of_mem_take hx)
     have hqn : (Trk.pk (l.take k)).length + 1 ≤ 1048576 := by
      have := (Trk.pk_of hG').n
      simp only [List.length_take] at this
      omega
     clear hsn hG'
     refine Great.wpList_buildSliceTo rfl 23 48 1 #[(0, .tmp 38)] rfl w5.heap.size rfl _ rfl Tryz.underlying23 C2 ?_ ?_
     ·simp only [List.map_toArray, List.map_cons, List.map_nil, List.toList_toArray]
      rw [HC2.out]
      exact built_clipG c x2
     have hb : Below w5.heap.size w5 (w5.alloc (.cells C2 48)) := below_box _ _
     have hbx : TG (w5.alloc (.cells C2 48)) 0 (.slice (some ⟨w5.heap.size, 0, none⟩) 1 1) [c] := by rw [HC2.out]; exact (GB.box w5 c x2).tg (HCH.out.below (below_box _ _))
     replace HOT := Lib.hid (HOT.out.below hb)
     replace HB := Lib.hid (HB.out.trans (hb.mono HB.out.size))
     clear hb
     simp only [Act.put, List.setIfInBounds_toArray, List.set_cons_succ, List.set_cons_zero]
     refine wpList_appG _ 23 23 Tryz.underlying23 Tryz.underlying23 rfl (.tmp 36) (.tmp 39) rfl w.heap.size 0 u3 _ (Trk.pk (l.take k)) [c] rfl rfl HOT.out HB.out.size (Nat.zero_le _) hbx (by simpa using hqn) ?_
     intro v' w6 r1 r2 r3 r4
     simp only [Act.put, List.setIfInBounds_toArray, List.set_cons_succ, List.set_cons_zero]
     rw [← HSN.out] at r1
     have HR := Lib.hid r1
     replace HB := Lib.hid (HB.out.trans r2)
     clear r1 r2 r3 r4 hbx
     go_wp2_with fail
     go_roundw
     case rel =>
      exact ⟨k + 1, by omega, by simp, HR.out, HB.out⟩
     case measure =>
      show L - (intOf (.int .i64 ((k : Int) + 1))).toNat < L - (intOf (.int .i64 (k : Int))).toNat
      simp [intOf]
      omega
  ·have hkl : k = L := by omega
   have e : l.take k = l := List.take_of_length_le (by rw [← HLe.out]; omega)
   rw [e] at ho
   have HOT := Lib.hid ho
   have HB := Lib.hid hb
   clear ho hb e
   subst hkl
   go_wp2_with fail
   go_ret
   exact ⟨_, rfl, HOT.out, HB.out⟩
end Go.Proofs.YtfoohocgdcgbcaaGreat
