/- Texts of this claim joined: J K. -/
import Derived.Deep.MidRow
import Derived.Test.YtfoohocgdcgbcaaGreatHb03
set_option linter.unusedVariables false
set_option linter.unusedSimpArgs false
namespace Go.Proofs.YtfoohocgdcgbcaaGreat
open Go.RowKit
set_option maxRecDepth 100000 in
set_option maxHeartbeats 40000000 in
theorem equal_any (c d : Trk.Clip) (w : World) (hc : c.chan = []) (hd : d.chan = []) :
  Calls Tryz.prog 66 #[clipV c, clipV d] w fun e w' => e = .returned (.bool (decide (c = d))) ∧ Below w.heap.size w w' := by
 have HC := Lib.hid hc
 have HD := Lib.hid hd
 clear hc hd
 unfold clipV
 have hqa := run_eq_src c.a d.a
 have hqb := run_eq_src c.b d.b
 obtain ⟨C, hC⟩ : ∃ C, C = (clipC c).toArray := ⟨_, rfl⟩
 obtain ⟨D, hD⟩ : ∃ D, D = (clipC d).toArray := ⟨_, rfl⟩
 rw [← hC, ← hD]
 have HCC := Lib.hid hC
 have HDD := Lib.hid hD
 clear hC hD
 go_enter Tryz.func66, Tryz.ntmps66
 go_upto_region 1 with fail
 obtain ⟨w1, hw1⟩ : ∃ x, x = (w.alloc (.cells C 48)).alloc (.cells D 48) := ⟨_, rfl⟩
 rw [← hw1]
 rw [HCC.out, HDD.out] at hw1
 obtain ⟨hx, hy, hb1⟩ := box2_facts hw1
 obtain ⟨g1, hg1⟩ : ∃ g, g = w.heap.size := ⟨_, rfl⟩
 obtain ⟨g2, hg2⟩ : ∃ g, g = w.heap.size + 1 := ⟨_, rfl⟩
 rw [← hg2] at hy ⊢
 rw [← hg1] at hx ⊢
 have HB := Lib.hid hb1
 clear hw1 hb1 hg1 hg2
 obtain ⟨x0, x1, x2, x3, x4, x5, x6, x7, x8, x9, x10, x11, x12, x13, x14, x15, x16, x17, x18, x19, x20, x21⟩ := hx.at0
 obtain ⟨y0, y1, y2, y3, y4, y5, y6, y7, y8, y9, y10, y11, y12, y13, y14, y15, y16, y17, y18, y19, y20, y21⟩ := hy.at0
 clear hx hy
 go_wp2_with (go_at_call 107; refine (equal_nil _).mono ?_; rintro e w' ⟨rfl, rfl⟩)
 all_goals go_ret
 all_goals refine ⟨ret_bool ?_, HB.out⟩
 all_goals first
  | (refine (decide_eq_true ?_).symm
     refine Trk.Clip.ext2 ?_ ?_ ?_ ?_ ?_ ?_ ?_ ?_ ?_ (HC.out.trans HD.out.symm) <;> first | assumption | exact bytes_inj2 (by assumption))
  | (refine (decide_eq_false ?_).symm
     rintro rfl
     first | exact absurd rfl (by assumption) | (exfalso; simp_all))
theorem below_setCells {n : Nat} {w0 : World} (b : Nat) (hb : n ≤ b) : ∀ (vs : List Value) (o : Nat) (w : World), Below n w0 w → Below n w0 (w.setCells b o vs)
 | [], _, _, h => h
 | v :: r, o, w, h => by rw [World.setCells]; exact below_setCells b hb r (o + 1) _ (h.setCell hb _)
theorem CA.range {w : World} {b o : Nat} {c : Trk.Clip} (h : CA w b o c) : w.rangeAt b o (clipC c) := h.get
theorem clip_oneCell (c : Trk.Clip) : (clipC c).toArray.all (·.oneCell') = true := by simp [clipC, Value.oneCell']
structure CV (w : World) (b : Nat) (c : Trk.Clip) : Prop where
 c : CA w b 0 c
 f : ∀ o, w.frozen? ⟨b, o, none⟩ = false
theorem CV.lt {w : World} {b : Nat} {c : Trk.Clip} (h : CV w b c) : b < w.heap.size := h.c.lt
theorem CV.below {w w' : World} {b : Nat} {c : Trk.Clip} (h : CV w b c) (hb : Below w.heap.size w w') : CV w' b c :=
 ⟨h.c.below hb, fun o => (hb.frozen (p := ⟨b, o, none⟩) h.lt).trans (h.f o)⟩
theorem CV.box (w : World) (c : Trk.Clip) (t : TypeId) : CV (w.alloc (.cells (clipC c).toArray t)) w.heap.size c := ⟨CA.box w c t, fun o => by simp [go_sem]⟩
theorem CV.there {w : World} {b : Nat} {c : Trk.Clip} (h : CV w b c) : w.there b 0 22 := fun j hj => ⟨by
 have hj' : j < (clipC c).length := hj
 rw [h.c.get j _ (List.getElem?_eq_getElem hj')]; rfl, h.f _⟩
theorem CV.put {w : World} {b : Nat} {c : Trk.Clip} (h : CV w b c) (e : Trk.Clip) : CV (w.setCells b 0 (clipC e)) b e :=
 ⟨CA.of fun j v hj => World.rangeAt_setCells_same w b 0 (clipC e) h.there j v hj, fun o => (World.frozen?_setCells b _ _ w _).trans (h.f o)⟩
theorem CV.apart {w : World} {b : Nat} {c : Trk.Clip} (h : CV w b c) {b2 : Nat} (hne : b ≠ b2) (vs : List Value) (o : Nat) : CV (w.setCells b2 o vs) b c :=
 ⟨CA.of fun j v hj => World.rangeAt_setCells_apart h.c.range b2 o vs (.inl hne) j v hj, fun o' => (World.frozen?_setCells b2 _ _ w _).trans (h.f o')⟩
theorem CV.set_len {w : World} {b : Nat} {c : Trk.Clip} (h : CV w b c) (v : Int) : CV (w.setCell ⟨b, 0, none⟩ (.int .i64 v)) b { c with len := v } := by
 obtain ⟨h0, f⟩ := h
 obtain ⟨x0, x1, x2, x3, x4, x5, x6, x7, x8, x9, x10, x11, x12, x13, x14, x15, x16, x17, x18, x19, x20, x21⟩ := h0.at0
 exact ⟨by constructor <;> simp [go_sem, x0, x1, x2, x3, x4, x5, x6, x7, x8, x9, x10, x11, x12, x13, x14, x15, x16, x17, x18, x19, x20, x21], fun o => (World.frozen?_setCell _ _ _ _).trans (f o)⟩
theorem CV.set_off {w : World} {b : Nat} {c : Trk.Clip} (h : CV w b c) (v : Int) : CV (w.setCell ⟨b, 16, none⟩ (.int .i64 v)) b { c with off := v } := by
 obtain ⟨h0, f⟩ := h
 obtain ⟨x0, x1, x2, x3, x4, x5, x6, x7, x8, x9, x10, x11, x12, x13, x14, x15, x16, x17, x18, x19, x20, x21⟩ := h0.at0
 exact ⟨by constructor <;> simp [go_sem, x0, x1, x2, x3, x4, x5, x6, x7, x8, x9, x10, x11, x12, x13, x14, x15, x16, x17, x18, x19, x20, x21], fun o => (World.frozen?_setCell _ _ _ _).trans (f o)⟩
theorem CV.set_nil {w : World} {b : Nat} {c : Trk.Clip} (h : CV w b c) : CV (w.setCell ⟨b, 21, none⟩ (.slice none 0 0)) b c := by
 obtain ⟨h0, f⟩ := h
 obtain ⟨x0, x1, x2, x3, x4, x5, x6, x7, x8, x9, x10, x11, x12, x13, x14, x15, x16, x17, x18, x19, x20, x21⟩ := h0.at0
 exact ⟨by constructor <;> simp [go_sem, x0, x1, x2, x3, x4, x5, x6, x7, x8, x9, x10, x11, x12, x13, x14, x15, x16, x17, x18, x19, x20, x21], fun o => (World.frozen?_setCell _ _ _ _).trans (f o)⟩
theorem CV.other {w : World} {b : Nat} {c : Trk.Clip} (h : CV w b c) {b2 : Nat} (hne : b ≠ b2) (o : Nat) (v : Value) : CV (w.setCell ⟨b2, o, none⟩ v) b c :=
 ⟨h.c.same (by simp [World.setCell, Array.getElem?_modify, hne.symm]), fun o' => (World.frozen?_setCell _ _ _ _).trans (h.f o')⟩
theorem wpl_load {ops : Array Oper} {rest : List Oper} {op : Oper} {a : Act} {w : World} {Q : Exit → Act → World → Prop} {b o : Nat} {c : Trk.Clip} {x : Operand} (hc : CA w b o c) (hgd : op.guard = none) (ho : op.op = .load 48 x)
  (hx : a.eval x = .pointer (some ⟨b, o, none⟩)) (h : wpList Tryz.prog ops Q rest (a.put op.dst (.agg (clipC c).toArray)) w) : wpList Tryz.prog ops Q (op :: rest) a w :=
 wpList_load_mid hgd 48 x ho b o hx (clipC c) _ hc.range Tryz.underlying48 rfl (by kernel_rfl) h
theorem wpl_store {ops : Array Oper} {rest : List Oper} {op : Oper} {a : Act} {w : World} {Q : Exit → Act → World → Prop} {b : Nat} {c : Trk.Clip} (e : Trk.Clip) {x y : Operand} (hc : CV w b c) (hgd : op.guard = none) (ho : op.op = .store 48 x y)
  (hx : a.eval x = .pointer (some ⟨b, 0, none⟩)) (hy : a.eval y = .agg (clipC e).toArray)
  (h : ∀ w', CV w' b e → (∀ b2 c2, b2 ≠ b → CV w b2 c2 → CV w' b2 c2) → (∀ n w0, n ≤ b → Below n w0 w → Below n w0 w') → wpList Tryz.prog ops Q rest (a.put op.dst undef) w') : wpList Tryz.prog ops Q (op :: rest) a w :=
 wpList_store_mid hgd 48 x y ho b 0 (clipC e).toArray hx hy hc.there (by kernel_rfl) (clip_oneCell e)
  (h _ (hc.put e) (fun b2 c2 hne h2 => h2.apart hne _ _) (fun n w0 hn hb => below_setCells b hn _ _ _ hb))
theorem results_clip {fn : Func} {tmps : Array Value} {w : World} {s : Tmp} {b : Nat} {c : Trk.Clip} (hr : fn.results = #[.cell s 48]) (ht : tmps.getD s undef = .pointer (some ⟨b, 0, none⟩)) (hc : CA w b 0 c) : (results fn tmps).run Tryz.prog w = .ok (.agg (clipC c).toArray) w := by
 have h := run_loadVar_mid (P := Tryz.prog) w b 0 48 (clipC c) _ hc.range Tryz.underlying48 rfl (by kernel_rfl)
 obtain ⟨C, hC⟩ : ∃ C, C = (clipC c).toArray := ⟨_, rfl⟩
 rw [← hC] at h ⊢
 unfold results
 rw [hr]
 have ht2 : tmps[s]?.getD undef = .pointer (some ⟨b, 0, none⟩) := by rw [← Array.getD_eq_getD_getElem?]; exact ht
 simp [ht2, asAddr, h]
set_option maxRecDepth 100000 in
set_option maxHeartbeats 4000000 in
theorem copied_any (c : Trk.Clip) (w : World) : Calls Tryz.prog 108 #[clipV c] w fun e w' => e = .returned (clipV c) ∧ Below w.heap.size w w' := by
 unfold clipV
 obtain ⟨C, hC⟩ : ∃ C, C = (clipC c).toArray := ⟨_, rfl⟩
 rw [← hC]
 have HC := Lib.hid hC
 clear hC
 go_enter Tryz.func108, Tryz.ntmps108
 go_upto_region 1 with fail
 obtain ⟨w1, hw1⟩ : ∃ x, x = (w.alloc (.cells C 48)).alloc (.cells (clipC (Trk.gap 0)).toArray 48) := ⟨_, rfl⟩
 have hw1' := hw1
 simp only [clipC, Trk.gap, Trk.black, show (ByteArray.empty : ByteArray) = ⟨#[]⟩ from rfl] at hw1'
 rw [← hw1']
 clear hw1'
 rw [HC.out] at hw1
 obtain ⟨hx, hy, hb1⟩ : CV w1 w.heap.size c ∧ CV w1 (w.heap.size + 1) (Trk.gap 0) ∧ Below w.heap.size w w1 := by
  subst hw1
  refine ⟨(CV.box w c 48).below (below_box _ _), ?_, by go_grown⟩
  have h2 := CV.box (w.alloc (.cells (clipC c).toArray 48)) (Trk.gap 0) 48
  rw [show (w.alloc (.cells (clipC c).toArray 48)).heap.size = w.heap.size + 1 by simp] at h2
  exact h2
 obtain ⟨g1, hg1⟩ : ∃ g, g = w.heap.size := ⟨_, rfl⟩
 obtain ⟨g2, hg2⟩ : ∃ g, g = w.heap.size + 1 := ⟨_, rfl⟩
 rw [← hg2] at hy ⊢
 rw [← hg1] at hx ⊢
 have hne : g1 ≠ g2 := by omega
 have hn1 : w.heap.size ≤ g1 := by omega
 have hn2 : w.heap.size ≤ g2 := by omega
 clear hw1 hg1 hg2
 have y21 := hx.c.k21
 have yf := hx.f
 simp only [Nat.zero_add] at y21
 go_upto_region 2 with (go_at_call 91; refine (clone_nil _).mono ?_; rintro e w' ⟨rfl, rfl⟩)
 have hz := hx.set_nil
 have hz2 := hy.other hne.symm 21 (.slice none 0 0)
 have hb2 := hb1.setCell (p := ⟨g1, 21, none⟩) hn1 (.slice none 0 0)
 clear hx hy hb1 y21 yf
 obtain ⟨w3, hw3⟩ : ∃ x, x = w1.setCell ⟨g1, 21, none⟩ (.slice none 0 0) := ⟨_, rfl⟩
 rw [← hw3] at hz hz2 hb2 ⊢
 clear hw3
 rw [HC.out]
 apply wp_region_lit
 refine wpl_load hz.c rfl rfl rfl ?_
 refine wpl_store c hz2 rfl rfl rfl rfl ?_
 intro w4 hv _ hb
 have hb4 := hb _ _ hn2 hb2
 clear hb hz hz2 hb2
 go_wp2_with fail
 refine bodyPost_ret (v := .agg C) (by rw [HC.out]; exact results_clip Tryz.results108 rfl hv.c) rfl ⟨rfl, hb4⟩
structure OkC (c : Trk.Clip) : Prop where
 g : Trk.GoodC c
 a : OkS c.a
 b : OkS c.b
 ch : c.chan = []
 l : c.len ≤ 4294967296
 o : c.off.natAbs ≤ 4611686018427387904
theorem cont_law {c d : Trk.Clip} (hd : Trk.GoodC d) (hc : Trk.GoodC c) : Trk.cont d c ↔ d = Trk.withLen (Trk.shift c c.len) d.len := by
 unfold Trk.cont
 rw [Trk.one_zero hd]
 constructor
 ·intro h
  have h2 := congrArg (fun x => Trk.withLen x d.len) h
  exact h2
 ·intro h
  rw [h]
  rfl
theorem cont_gap {c d : Trk.Clip} (hd : Trk.GoodC d) (hc : Trk.GoodC c) (k1 : c.kind = 0) (k2 : d.kind = 0) : Trk.cont d c := by
 unfold Trk.cont
 rw [hd.g k2, hc.g k1, Trk.one_gap, Trk.one_gap]
end Go.Proofs.YtfoohocgdcgbcaaGreat
