/- Texts of this claim joined: UF UG XJ. -/
import Derived.DeepKeys4
import Derived.WideKeyMaps
import Derived.Maps.OwnOps
import Derived.Test.YtnnobdcbmagbaaaEv05
import Derived.Test.YtnnobdcbmagbaaaEv08
import Derived.Test.YtnnobdcbmagbaaaEv10
import Derived.Test.YtnnobdcbmagbaaaEv15
import Derived.Test.YtnnobdcbmagbaaaEv17
set_option linter.unusedVariables false
set_option linter.unusedSimpArgs false

/- The contract of cutroomref26.Title where it answers a frame. -/
namespace Go.Proofs.Ytnnobdcbmagbaaa
open Go.RowKit
set_option linter.unusedVariables false

/-- What the operations that make the copy leave. -/
def GT (B nY nU nV : Nat) (W H : Value) (Y U V : Nat → Int) (i lo hi : Nat) (v : Value) (w : World) : Prop :=
  (i = 4 ∨ i = 8 ∨ i = 12 → ∃ e, v = .slice (some ⟨e, 0, none⟩) 0 0) ∧
  (i = 7 → ∃ g c, v = .slice (some ⟨g, 0, none⟩) nY c ∧ Row w B g nY c Y ∧ lo ≤ g ∧ g < hi) ∧
  (i = 11 → ∃ g c, v = .slice (some ⟨g, 0, none⟩) nU c ∧ Row w B g nU c U ∧ lo ≤ g ∧ g < hi) ∧
  (i = 15 → ∃ g c, v = .slice (some ⟨g, 0, none⟩) nV c ∧ Row w B g nV c V ∧ lo ≤ g ∧ g < hi) ∧
  (i = 16 → ∃ g1 c1 g2 c2 g3 c3, v = .agg #[W, H, .slice (some ⟨g1, 0, none⟩) nY c1, .slice (some ⟨g2, 0, none⟩) nU c2, .slice (some ⟨g3, 0, none⟩) nV c3] ∧ K3 w B g1 g2 g3 nY nU nV c1 c2 c3 Y U V ∧ g1 ≠ g2 ∧ g1 ≠ g3 ∧ g2 ≠ g3) ∧
  (i = 17 → v = .pointer (some ⟨lo, 0, none⟩) ∧ lo < hi ∧ BX w lo (.int .i64 0) (.int .i64 0) (.slice none 0 0) (.slice none 0 0) (.slice none 0 0) ∧ Fz w lo)
theorem GT.ext {B nY nU nV : Nat} {W H : Value} {Y U V : Nat → Int} {i lo hi : Nat} {v : Value} {w w' : World} (h : GT B nY nU nV W H Y U V i lo hi v w) (e : Plan.Ext w w') : GT B nY nU nV W H Y U V i lo hi v w' := by
  obtain ⟨h0, h1, h2, h3, h5, h4⟩ := h
  refine ⟨h0, fun hi => ?_, fun hi => ?_, fun hi => ?_, fun hi => ?_, fun hi => ?_⟩
  · obtain ⟨g, c, rfl, r, q⟩ := h1 hi
    exact ⟨g, c, rfl, r.below e, q⟩
  · obtain ⟨g, c, rfl, r, q⟩ := h2 hi
    exact ⟨g, c, rfl, r.below e, q⟩
  · obtain ⟨g, c, rfl, r, q⟩ := h3 hi
    exact ⟨g, c, rfl, r.below e, q⟩
  · obtain ⟨g1, c1, g2, c2, g3, c3, rfl, r, q⟩ := h5 hi
    exact ⟨g1, c1, g2, c2, g3, c3, rfl, r.below e, q⟩
  · obtain ⟨rfl, q, x, z⟩ := h4 hi
    exact ⟨rfl, q, x.below e, z.below e⟩
theorem box_row {w : World} {B b g n c : Nat} {F : Nat → Int} {x : Int} {c1 c2 c3 c4 : Value} (hb : BX w b (.int .i64 x) c1 c2 c3 c4) (hr : Row w B g n c F) (hn : 0 < n) : b ≠ g := by
  intro e
  have h1 := hr.cell 0 hn
  have h2 := hb.k0
  rw [e, h1] at h2
  simp at h2
theorem BX.put5o {w : World} {b : Nat} {x0 x1 x2 x3 x4 : Value} (h : BX w b x0 x1 x2 x3 x4) (c0 c1 c2 c3 c4 : Value) {B : Nat} (hb : B ≤ b) (hs : B ≤ w.heap.size) :
    Below B w (((((w.setCell ⟨b, 0, none⟩ c0).setCell ⟨b, 1, none⟩ c1).setCell ⟨b, 2, none⟩ c2).setCell ⟨b, 3, none⟩ c3).setCell ⟨b, 4, none⟩ c4) := by
  refine Below.setCell (Below.setCell (Below.setCell (Below.setCell (Below.setCell (Below.refl _ _) ?_ _) ?_ _) ?_ _) ?_ _) ?_ _ <;> simpa using hb
theorem Row.put5 {w : World} {B g n c b : Nat} {F : Nat → Int} (h : Row w B g n c F) (hne : b ≠ g) (c0 c1 c2 c3 c4 : Value) : Row (((((w.setCell ⟨b, 0, none⟩ c0).setCell ⟨b, 1, none⟩ c1).setCell ⟨b, 2, none⟩ c2).setCell ⟨b, 3, none⟩ c3).setCell ⟨b, 4, none⟩ c4) B g n c F :=
  ((((h.far (by simpa using hne) _).far (by simpa using hne) _).far (by simpa using hne) _).far (by simpa using hne) _).far (by simpa using hne) _

theorem wpList_build5 (w : World) {ops : Array Oper} {rest : List Oper} {o : Oper} {a : Act} {Q : Exit → Act → World → Prop} (hgd : o.guard = none) (x0 x1 x2 x3 x4 : Operand) (n0 n1 : Int) (p2 p3 p4 : Option Addr) (k2 k3 k4 c2 c3 c4 : Nat)
    (ho : o.op = .build 26 #[(0, x0), (1, x1), (2, x2), (3, x3), (4, x4)]) (h0 : a.eval x0 = .int .i64 n0) (h1 : a.eval x1 = .int .i64 n1) (h2 : a.eval x2 = .slice p2 k2 c2) (h3 : a.eval x3 = .slice p3 k3 c3) (h4 : a.eval x4 = .slice p4 k4 c4)
    (h : wpList Try.prog ops Q rest (a.put o.dst (.agg #[.int .i64 n0, .int .i64 n1, .slice p2 k2 c2, .slice p3 k3 c3, .slice p4 k4 c4])) w) : wpList Try.prog ops Q (o :: rest) a w := by
  refine wpList_plain hgd fun K hK' => ?_
  unfold Oper.wp execOp
  generalize a.eval = ev at h0 h1 h2 h3 h4 ⊢
  simp [go_sem, ho, h0, h1, h2, h3, h4]
  exact hK' _ _ h
theorem BX.at {w : World} {b : Nat} {g : Nat → Int} (h : BX w b (.int .i64 (g 0)) (.int .i64 (g 1)) (.int .i64 (g 2)) (.int .i64 (g 3)) (.int .i64 (g 4))) (j : Nat) (hj : j < 5) : w.cell? ⟨b, j, none⟩ = some (.int .i64 (g j)) := by
  rcases (show j = 0 ∨ j = 1 ∨ j = 2 ∨ j = 3 ∨ j = 4 by omega) with rfl | rfl | rfl | rfl | rfl
  · exact h.k0
  · exact h.k1
  · exact h.k2
  · exact h.k3
  · exact h.k4
theorem tst_r (r : Int) (k m : Nat) (hk : k < 3) (hm : m = 2 - k) (h : 0 ≤ r ∧ r ≤ 7) : ∃ v, bits BinOp.and IntKind.i64 (r / 2 ^ m) 1 = v ∧ (v == 1) = tst r k := by
  subst hm
  rcases (show k = 0 ∨ k = 1 ∨ k = 2 by omega) with rfl | rfl | rfl <;> rcases (show r = 0 ∨ r = 1 ∨ r = 2 ∨ r = 3 ∨ r = 4 ∨ r = 5 ∨ r = 6 ∨ r = 7 by omega) with rfl | rfl | rfl | rfl | rfl | rfl | rfl | rfl <;> exact ⟨_, rfl, by decide +kernel⟩

set_option maxRecDepth 100000 in
set_option maxHeartbeats 4000000 in
theorem rtitle_yes (v : Value) (F : Fr) (s : ByteArray) (w : World) (hv : FA w v F) (hp : F.ok = true) (hs : okText s = true) (hm : s.size ≤ 9223372036854775807) :
    Calls Try.prog 32 #[v, .string s] w fun e w' => ∃ r, e = .returned (.tuple #[r, .int .i64 0]) ∧ FA w' r (titleFr (titleL F (sB s) s.size) F) ∧ Below w.heap.size w w' := by
  obtain ⟨paY, caY, paU, caU, paV, caV, rfl⟩ := hv.shape
  have bd := And.intro hv.bdY (And.intro hv.bdU hv.bdV)
  have HBD := Lib.hid bd
  have hs' := hs
  simp only [okText, decide_eq_true_eq] at hs'
  obtain ⟨ts1, ts2, ts3⟩ := hs'
  have HTS := Lib.hid ts3
  have HS := Lib.hid hs
  have HF := Lib.hid hp
  have hsz := (ok_dims hp).1
  obtain ⟨Wn, hWn⟩ := Int.eq_ofNat_of_zero_le (show 0 ≤ F.W by have := okSize_bd hsz; omega)
  obtain ⟨Hn, hHn⟩ := Int.eq_ofNat_of_zero_le (show 0 ≤ F.H by have := okSize_bd hsz; omega)
  have hd := ok_dims hp
  rw [hWn, hHn] at hd
  obtain ⟨f1, f2, f3, f4, nvu⟩ := ok_bd hp
  have HD := Lib.hid (And.intro hd.1 (And.intro hd.2.1 (And.intro hd.2.2.1 nvu)))
  obtain ⟨s1, s2, s3, s4, s5, s6, s7, s8⟩ := okSize_bd hd.1
  have EW := Lib.hid hWn
  have EH := Lib.hid hHn
  have hv2 : FA w (.agg #[.int .i64 F.W, .int .i64 F.H, .slice paY F.nY caY, .slice paU F.nU caU, .slice paV F.nV caV]) ⟨(Wn : Int), (Hn : Int), F.nY, F.nU, F.nV, F.Y, F.U, F.V⟩ := by rw [← hWn, ← hHn]; exact hv
  have hpa := hv.plane
  obtain ⟨ha1, ha2, ha3, -, -, -, la1, la2, la3⟩ := hpa
  obtain ⟨qa1, oa1, rfl, ca1⟩ := ha1 (by omega)
  obtain ⟨qa2, oa2, rfl, ca2⟩ := ha2 (by omega)
  obtain ⟨qa3, oa3, rfl, ca3⟩ := ha3 (by omega)
  have HC := Lib.hid (And.intro ca1 (And.intro ca2 ca3))
  have FA_a := Lib.hid hv2
  rw [hWn, hHn] at FA_a ⊢
  have i1 : 0 < F.nY ∧ F.nY ≤ 4096 := by omega
  have i2 : 0 < F.nU ∧ F.nU ≤ 1024 := by omega
  have i3 : 0 < F.nV ∧ F.nV ≤ 1024 := by omega
  have HB := Lib.hid (Below.refl w.heap.size w)
  clear hWn hHn hv hp hs hsz bd hd nvu ts3 hv2 ca1 ca2 ca3 f1 f2 f3 f4 ha1 ha2 ha3
  go_enter Try.func32, Try.ntmps32
  go_upto_region 1 with fail
  obtain ⟨w1, hw⟩ : ∃ x, x = (w.alloc (.cells #[.int .i64 (Wn : Int), .int .i64 (Hn : Int), .slice (some ⟨qa1, oa1, none⟩) F.nY caY, .slice (some ⟨qa2, oa2, none⟩) F.nU caU, .slice (some ⟨qa3, oa3, none⟩) F.nV caV] 26)).alloc (.cells #[.int .i64 0, .int .i64 0, .slice none 0 0, .slice none 0 0, .slice none 0 0] 26) := ⟨_, rfl⟩
  rw [← hw]
  have hE : Below w.heap.size w w1 := by rw [hw]; go_grown
  have BX_a := Lib.hid (show BX w1 w.heap.size _ _ _ _ _ by rw [hw]; exact (BX.of_alloc _ _ _ _ _ _ _).below (below_box _ _))
  have BX_r := Lib.hid (show BX w1 (w.heap.size + 1) _ _ _ _ _ by rw [hw]; exact BX.of_alloc' _ _ _ _ _ _ _ _ (by simp))
  have FZ_r := Lib.hid (show Fz w1 (w.heap.size + 1) from ⟨by rw [hw]; simp, fun o => by rw [hw]; simp [go_sem]⟩)
  replace FA_a := Lib.hid (FA_a.out.below hE)
  replace HB := Lib.hid hE
  clear hw hE
  obtain ⟨bla, hbla⟩ : ∃ b, b = w.heap.size := ⟨_, rfl⟩
  obtain ⟨blr, hblr⟩ : ∃ b, b = w.heap.size + 1 := ⟨_, rfl⟩
  rw [← hblr] at BX_r FZ_r ⊢
  rw [← hbla] at BX_a ⊢
  have n0 : w.heap.size ≤ blr := by omega
  clear hbla hblr
  obtain ⟨a0, a1, a2, a3, a4⟩ := BX_a.out
  go_wp2_with fail
  refine (r20valid_b _ ⟨(Wn : Int), (Hn : Int), F.nY, F.nU, F.nV, F.Y, F.U, F.V⟩ _ FA_a.out).mono ?_
  rintro e w2 ⟨rfl, hb⟩
  have hF' : Fr.ok ⟨(Wn : Int), (Hn : Int), F.nY, F.nU, F.nV, F.Y, F.U, F.V⟩ = true := by rw [← EW.out, ← EH.out]; exact HF.out
  rw [hF']
  have HF2 := Lib.hid hF'
  have HE := Lib.hid hb
  clear hb hF'

  clear a0 a1 a2 a3 a4
  replace FA_a := Lib.hid (FA_a.out.below HE.out)
  replace BX_a := Lib.hid (BX_a.out.below HE.out)
  replace BX_r := Lib.hid (BX_r.out.below HE.out)
  replace FZ_r := Lib.hid (FZ_r.out.below HE.out)
  replace HB := Lib.hid (HB.out.trans (HE.out.mono HB.out.size))
  clear HE
  go_wp2_with fail
  refine (validLine_any s _ hm).mono ?_
  rintro e w' ⟨rfl, rfl⟩
  rw [HS.out]
  go_upto_region 3 with fail
  have na := BX_a.out.lt
  have nr := BX_r.out.lt
  have m0 := HB.out.size
  obtain ⟨B, hB'⟩ : ∃ B, B = w2.heap.size := ⟨_, rfl⟩
  have HBE := Lib.hid hB'
  rw [← hB'] at na nr m0
  clear hB'
  obtain ⟨a0, a1, a2, a3, a4⟩ := BX_a.out
  refine Plan.wp_region_fresh2 (fun w' => Below w2.heap.size w2 w') 19 (GT B F.nY F.nU F.nV (.int .i64 (Wn : Int)) (.int .i64 (Hn : Int)) F.Y F.U F.V) ([0, 1, 2, 3, 5, 6, 9, 10, 13, 14].map (·, true) ++ []) [(4, 26), (7, 29), (8, 30), (11, 33), (12, 34), (15, 37), (16, 38), (17, 6)] ([18].map (·, false)) 116 (by kernel_rfl) (by kernel_rfl) (by kernel_rfl) (Below.refl _ _).drew ?_ ?_ ?_
  · intro wa wb ha hb
    exact ha.trans (hb.mono ha.size)
  · intro i lo hi v wa wb hG hE
    exact hG.ext hE
  refine' Plan.plan_seg _ [0, 1, 2, 3, 5, 6, 9, 10, 13, 14] [] (by kernel_rfl) (by kernel_rfl) rfl (by exact (Below.refl _ _).drew) (fun wx hS => ?_) ?_
  rotate_left
  · have b0 := (hS.cell (BX_a.out.lt)).trans a0
    have b1 := (hS.cell (BX_a.out.lt)).trans a1
    have b2 := (hS.cell (BX_a.out.lt)).trans a2
    have b3 := (hS.cell (BX_a.out.lt)).trans a3
    have b4 := (hS.cell (BX_a.out.lt)).trans a4
    clear hS
    go_light
    iterate 10 (apply Plan.seg_pick; rfl; intro K hK; go_wp)
    exact Plan.seg_nil
  refine Plan.plan_nil (Plan.fresh_at2 rfl ?_ ?_)
  · intro p hp o ho vs wx lo hi hS hE hG hap K hK
    have hB : B ≤ wx.heap.size := by have := hS.size; rw [HBE.out]; exact this
    simp only [List.mem_cons, List.not_mem_nil, or_false] at hp
    clear a0 a1 a2 a3 a4
    rcases hp with rfl | rfl | rfl | rfl | rfl | rfl | rfl | rfl
    all_goals obtain rfl := Option.some.inj ho
    · clear hG
      go_wp2
      exact hK _ _ ⟨fun _ => ⟨_, rfl⟩, (fun h => absurd h (by decide)), (fun h => absurd h (by decide)), (fun h => absurd h (by decide)), (fun h => absurd h (by decide)), (fun h => absurd h (by decide))⟩ (by go_grown)
    · obtain ⟨e0, he0⟩ := (hG (4, 26) (by simp) (by decide)).1 (by simp)
      clear hG
      have q1 : F.nY ≤ 1048576 := by omega
      refine wpList_clone2 wx rfl (.tmp 26) (.tmp 28) rfl e0 qa1 oa1 F.nY caY F.Y (by simp [Plan.puts, go_sem, he0]) (by simp [Plan.puts, go_sem]) ?_ q1 i1.1 (fun g c' w' hr hE' => wpList_nil (hK _ _ ?_ hE'))
      · intro i hi
        have h := HC.out.1 i hi
        have h1 := (HB.out.cell (block_lt_of_cell h)).trans h
        exact (hS.cell (block_lt_of_cell h1)).trans h1
      · have hlt := hr.le
        exact ⟨(fun h => absurd h (by decide)), fun _ => ⟨g, c', rfl, hr.mono hB, hlt.1, hlt.2.1⟩, by simp, by simp, by simp⟩
    · clear hG
      go_wp2
      exact hK _ _ ⟨fun _ => ⟨_, rfl⟩, (fun h => absurd h (by decide)), (fun h => absurd h (by decide)), (fun h => absurd h (by decide)), (fun h => absurd h (by decide)), (fun h => absurd h (by decide))⟩ (by go_grown)
    · obtain ⟨e0, he0⟩ := (hG (8, 30) (by simp) (by decide)).1 (by simp)
      clear hG
      have q1 : F.nU ≤ 1048576 := by omega
      refine wpList_clone2 wx rfl (.tmp 30) (.tmp 32) rfl e0 qa2 oa2 F.nU caU F.U (by simp [Plan.puts, go_sem, he0]) (by simp [Plan.puts, go_sem]) ?_ q1 i2.1 (fun g c' w' hr hE' => wpList_nil (hK _ _ ?_ hE'))
      · intro i hi
        have h := HC.out.2.1 i hi
        have h1 := (HB.out.cell (block_lt_of_cell h)).trans h
        exact (hS.cell (block_lt_of_cell h1)).trans h1
      · have hlt := hr.le
        exact ⟨(fun h => absurd h (by decide)), by simp, fun _ => ⟨g, c', rfl, hr.mono hB, hlt.1, hlt.2.1⟩, by simp, by simp⟩
    · clear hG
      go_wp2
      exact hK _ _ ⟨fun _ => ⟨_, rfl⟩, (fun h => absurd h (by decide)), (fun h => absurd h (by decide)), (fun h => absurd h (by decide)), (fun h => absurd h (by decide)), (fun h => absurd h (by decide))⟩ (by go_grown)
    · obtain ⟨e0, he0⟩ := (hG (12, 34) (by simp) (by decide)).1 (by simp)
      clear hG
      have q1 : F.nV ≤ 1048576 := by omega
      refine wpList_clone2 wx rfl (.tmp 34) (.tmp 36) rfl e0 qa3 oa3 F.nV caV F.V (by simp [Plan.puts, go_sem, he0]) (by simp [Plan.puts, go_sem]) ?_ q1 i3.1 (fun g c' w' hr hE' => wpList_nil (hK _ _ ?_ hE'))
      · intro i hi
        have h := HC.out.2.2 i hi
        have h1 := (HB.out.cell (block_lt_of_cell h)).trans h
        exact (hS.cell (block_lt_of_cell h1)).trans h1
      · have hlt := hr.le
        exact ⟨(fun h => absurd h (by decide)), by simp, by simp, fun _ => ⟨g, c', rfl, hr.mono hB, hlt.1, hlt.2.1⟩, by simp⟩
    · obtain ⟨g1, c1, v1, r1, p1, p1'⟩ := (hG (7, 29) (by simp) (by decide)).2.1 rfl
      obtain ⟨g2, c2, v2, r2, p2, p2'⟩ := (hG (11, 33) (by simp) (by decide)).2.2.1 rfl
      obtain ⟨g3, c3, v3, r3, p3, p3'⟩ := (hG (15, 37) (by simp) (by decide)).2.2.2.1 rfl
      have q12 := hap (7, 29) (by simp) (11, 33) (by simp) (by decide) (by decide) (by decide)
      have q13 := hap (7, 29) (by simp) (15, 37) (by simp) (by decide) (by decide) (by decide)
      have q23 := hap (11, 33) (by simp) (15, 37) (by simp) (by decide) (by decide) (by decide)
      simp only at v1 v2 v3 q12 q13 q23 p1 p1' p2 p2' p3 p3'
      have hR := Lib.hid (show K3 wx B g1 g2 g3 F.nY F.nU F.nV c1 c2 c3 F.Y F.U F.V ∧ g1 ≠ g2 ∧ g1 ≠ g3 ∧ g2 ≠ g3 from ⟨⟨r1, r2, r3⟩, by omega, by omega, by omega⟩)
      clear hG hap r1 r2 r3 q12 q13 q23 p1 p1' p2 p2' p3 p3'
      clear hS hE
      refine wpList_build5 wx rfl (.tmp 23) (.tmp 25) (.tmp 29) (.tmp 33) (.tmp 37) (Wn : Int) (Hn : Int) (some ⟨g1, 0, none⟩) (some ⟨g2, 0, none⟩) (some ⟨g3, 0, none⟩) F.nY F.nU F.nV c1 c2 c3 rfl (by simp [Plan.puts, go_sem]) (by simp [Plan.puts, go_sem]) (by simp [Plan.puts, go_sem, v1]) (by simp [Plan.puts, go_sem, v2]) (by simp [Plan.puts, go_sem, v3]) ?_
      exact wpList_nil (hK _ _ ⟨(fun h => absurd h (by decide)), (fun h => absurd h (by decide)), (fun h => absurd h (by decide)), (fun h => absurd h (by decide)), fun _ => ⟨g1, c1, g2, c2, g3, c3, rfl, hR.out⟩, (fun h => absurd h (by decide))⟩ (Plan.Ext.refl wx))
    · clear hG
      go_wp2
      exact hK _ _ ⟨(fun h => absurd h (by decide)), (fun h => absurd h (by decide)), (fun h => absurd h (by decide)), (fun h => absurd h (by decide)), (fun h => absurd h (by decide)), fun _ => ⟨rfl, by simp, BX.of_alloc _ _ _ _ _ _ _, ⟨by simp, fun o => by simp [go_sem]⟩⟩⟩ (by go_grown)
  intro vs lo hi wx hS hE hG hap
  obtain ⟨g1, c1, g2, c2, g3, c3, v3, rr, d12, d13, d23⟩ := (hG (16, 38) (by simp)).1.2.2.2.2.1 rfl
  obtain ⟨v4, p4, xt, zt⟩ := (hG (17, 6) (by simp)).1.2.2.2.2.2 rfl
  have hq := (hG (17, 6) (by simp)).2.1
  simp only at v3 v4 hq p4
  obtain ⟨blt, hblt⟩ : ∃ b, b = lo 17 := ⟨_, rfl⟩
  rw [← hblt] at v4 xt zt hq
  have d1t : blt ≠ g1 := box_row xt rr.r1 i1.1
  have d2t : blt ≠ g2 := box_row xt rr.r2 i2.1
  have d3t : blt ≠ g3 := box_row xt rr.r3 i3.1
  have hqt : B ≤ blt := by rw [HBE.out]; exact hq
  clear hG hap p4 hq hblt hE
  simp only [Plan.puts, v3, v4]
  clear v3 v4
  have HRX := Lib.hid rr
  have HXT := Lib.hid xt
  have HZT := Lib.hid zt
  have HSX := Lib.hid hS
  clear rr hS a0 a1 a2 a3 a4
  obtain ⟨t0, t1, t2, t3, t4⟩ := xt
  have zf := zt.2
  refine Plan.plan_of_effect rfl (fun K hK => ?_)
  go_wp2_with fail
  refine ⟨HXT.out.put5o _ _ _ _ _ (by rw [← HBE.out]; exact hqt) HSX.out.size |> HSX.out.trans, ?_⟩
  refine Plan.plan_done ?_
  clear t0 t1 t2 t3 t4 zf zt
  obtain ⟨u3, hw⟩ : ∃ x, x = (((((wx.setCell ⟨blt, 0, none⟩ (.int .i64 (Wn : Int))).setCell ⟨blt, 1, none⟩ (.int .i64 (Hn : Int))).setCell ⟨blt, 2, none⟩ (.slice (some ⟨g1, 0, none⟩) F.nY c1)).setCell ⟨blt, 3, none⟩ (.slice (some ⟨g2, 0, none⟩) F.nU c2)).setCell ⟨blt, 4, none⟩ (.slice (some ⟨g3, 0, none⟩) F.nV c3)) := ⟨_, rfl⟩
  rw [← hw]
  have hE : Below w2.heap.size w2 u3 := by rw [hw]; exact HSX.out.trans (HXT.out.put5o _ _ _ _ _ (by rw [← HBE.out]; exact hqt) HSX.out.size)
  have BX_t := Lib.hid (show BX u3 blt _ _ _ _ _ by rw [hw]; exact HXT.out.put5 _ _ _ _ _)
  have RR := Lib.hid (show K3 u3 B g1 g2 g3 F.nY F.nU F.nV c1 c2 c3 F.Y F.U F.V by rw [hw]; exact ⟨HRX.out.r1.put5 d1t _ _ _ _ _, HRX.out.r2.put5 d2t _ _ _ _ _, HRX.out.r3.put5 d3t _ _ _ _ _⟩)
  have HE := Lib.hid hE
  have nt := BX_t.out.lt
  have l1 := RR.out.r1.le
  have l2 := RR.out.r2.le
  have l3 := RR.out.r3.le
  clear hw hE HXT HRX HZT HSX
  replace FA_a := Lib.hid (FA_a.out.below HE.out)
  replace BX_a := Lib.hid (BX_a.out.below HE.out)
  replace BX_r := Lib.hid (BX_r.out.below HE.out)
  replace FZ_r := Lib.hid (FZ_r.out.below HE.out)
  replace HB := Lib.hid (HB.out.trans (HE.out.mono HB.out.size))
  clear HE HBE HC
  go_wp2_with fail
  go_loopw [7] (fun i7 wr => ∃ i : Nat, i ≤ s.size ∧ i7 = .int .i64 (i : Int) ∧ OnlyP u3 wr (In3 g1 g2 g3) ∧ K3 wr B g1 g2 g3 F.nY F.nU F.nV c1 c2 c3 (pY Wn (pixT Wn (Hn - 7) (sB s) i) F.Y) (pC Wn (pixT Wn (Hn - 7) (sB s) i) F.U) (pC Wn (pixT Wn (Hn - 7) (sB s) i) F.V)) (fun i7 _ => s.size - (intOf i7).toNat)
  case atStart => exact ⟨0, Nat.zero_le _, rfl, OnlyP.refl _ _, by have h := RR.out; exact ⟨h.r1.congr (fun i _ => (pY_nil _ _ i).symm), h.r2.congr (fun i _ => (pC_nil _ _ i).symm), h.r3.congr (fun i _ => (pC_nil _ _ i).symm)⟩⟩
  case round =>
    obtain ⟨i, hi, rfl, hgr, ho⟩ := hrel
    have nin : ¬ In3 g1 g2 g3 bla := In3.no (by omega) (by omega) (by omega)
    have nint : ¬ In3 g1 g2 g3 blt := In3.no d1t d2t d3t
    have ninr : ¬ In3 g1 g2 g3 blr := In3.no (by omega) (by omega) (by omega)
    by_cases hlt : i < s.size
    · have hcb := sB_at s i hlt
      have hbb := (s[i]).toNat_lt
      have HCB := Lib.hid hcb
      have HK := Lib.hid ho
      have HGR := Lib.hid hgr
      clear ho hgr hcb
      go_wp2_with fail
      refine (rglyph_any _ _ (by omega) (by omega)).mono ?_
      rintro e wg ⟨rfl, hb⟩
      rw [← HCB.out, glyphV_F]
      replace HGR := Lib.hid (HGR.out.trans (OnlyP.of_below hb))
      replace HK := Lib.hid (HK.out.below hb)
      clear hb hbb
      go_upto_region 8 with fail
      obtain ⟨w6, hw⟩ : ∃ x, x = wg.alloc (.cells #[.int .i64 (glyphF (sB s i) 0), .int .i64 (glyphF (sB s i) 1), .int .i64 (glyphF (sB s i) 2), .int .i64 (glyphF (sB s i) 3), .int .i64 (glyphF (sB s i) 4)] 49) := ⟨_, rfl⟩
      rw [← hw]
      have hE : Below wg.heap.size wg w6 := by rw [hw]; exact below_box _ _
      have BX_g := Lib.hid (show BX w6 wg.heap.size _ _ _ _ _ by rw [hw]; exact BX.of_alloc _ _ _ _ _ _ _)
      obtain ⟨blg, hblg⟩ : ∃ b, b = wg.heap.size := ⟨_, rfl⟩
      have q1 := HK.out.r1.le
      have q2 := HK.out.r2.le
      have q3 := HK.out.r3.le
      rw [← hblg] at BX_g q1 q2 q3 ⊢
      replace HGR := Lib.hid (HGR.out.trans (OnlyP.of_below hE))
      replace HK := Lib.hid (HK.out.below hE)
      clear hw hE hblg
      have ning : ¬ In3 g1 g2 g3 blg := In3.no (by omega) (by omega) (by omega)
      go_wp2_with fail
      go_loopw [9] (fun i9 wr => ∃ j : Nat, j ≤ 5 ∧ i9 = .int .i64 (j : Int) ∧ OnlyP w6 wr (In3 g1 g2 g3) ∧ K3 wr B g1 g2 g3 F.nY F.nU F.nV c1 c2 c3 (pY Wn (pixT Wn (Hn - 7) (sB s) i ++ pixG Wn (Hn - 7) (2 + 4 * i) (glyphF (sB s i)) j) F.Y) (pC Wn (pixT Wn (Hn - 7) (sB s) i ++ pixG Wn (Hn - 7) (2 + 4 * i) (glyphF (sB s i)) j) F.U) (pC Wn (pixT Wn (Hn - 7) (sB s) i ++ pixG Wn (Hn - 7) (2 + 4 * i) (glyphF (sB s i)) j) F.V)) (fun i9 _ => 5 - (intOf i9).toNat)
      case atStart => exact ⟨0, by omega, rfl, OnlyP.refl _ _, by simpa [pixG] using HK.out⟩
      case round =>
        obtain ⟨j, hj, rfl, hgr, ho⟩ := hrel
        by_cases hjl : j < 5
        · have xa := Lib.hid (BX_a.out.onlyP (HGR.out.trans hgr) nin)
          have xt := Lib.hid (BX_t.out.onlyP (HGR.out.trans hgr) nint)
          have xg := Lib.hid (BX_g.out.onlyP hgr ning)
          obtain ⟨y, hy⟩ := Int.eq_ofNat_of_zero_le (show 0 ≤ (Hn : Int) - 7 + (j : Int) by omega)
          have EY := Lib.hid (show y = Hn - 7 + j by omega)
          have y1 : y < Hn := by omega
          have HY := Lib.hid hy
          have HK1 := Lib.hid ho
          have HGR1 := Lib.hid hgr
          have hjd : decide ((j : Int) < 5) = true := by simp; omega
          clear ho hgr hy
          go_wp2_with fail
          obtain ⟨wo, hwo⟩ : ∃ x, x = wr := ⟨_, rfl⟩
          rw [← hwo] at xa xt xg HK1 HGR1 ⊢
          clear hwo
          go_loopw [10] (fun i10 wr => ∃ k : Nat, k ≤ 3 ∧ i10 = .int .i64 (k : Int) ∧ OnlyP wo wr (In3 g1 g2 g3) ∧ K3 wr B g1 g2 g3 F.nY F.nU F.nV c1 c2 c3 (pY Wn (pixT Wn (Hn - 7) (sB s) i ++ pixG Wn (Hn - 7) (2 + 4 * i) (glyphF (sB s i)) j ++ pixS Wn (Hn - 7 + j) (2 + 4 * i) (glyphF (sB s i) j) k) F.Y) (pC Wn (pixT Wn (Hn - 7) (sB s) i ++ pixG Wn (Hn - 7) (2 + 4 * i) (glyphF (sB s i)) j ++ pixS Wn (Hn - 7 + j) (2 + 4 * i) (glyphF (sB s i) j) k) F.U) (pC Wn (pixT Wn (Hn - 7) (sB s) i ++ pixG Wn (Hn - 7) (2 + 4 * i) (glyphF (sB s i)) j ++ pixS Wn (Hn - 7 + j) (2 + 4 * i) (glyphF (sB s i) j) k) F.V)) (fun i10 _ => 3 - (intOf i10).toNat)
          case atStart => exact ⟨0, by omega, rfl, OnlyP.refl _ _, by simpa [pixS] using HK1.out⟩
          case round =>
            obtain ⟨k, hk, rfl, hgr, ho⟩ := hrel
            by_cases hlk : k < 3
            · obtain ⟨M, hM⟩ : ∃ M, M = pixT Wn (Hn - 7) (sB s) i ++ pixG Wn (Hn - 7) (2 + 4 * i) (glyphF (sB s i)) j ++ pixS Wn (Hn - 7 + j) (2 + 4 * i) (glyphF (sB s i) j) k := ⟨_, rfl⟩
              rw [← hM] at ho
              have EM := Lib.hid hM
              clear hM
              have hy := HY.out
              have xb := xa.out.onlyP hgr nin
              have xc := xt.out.onlyP hgr nint
              have xd := xg.out.onlyP hgr ning
              have a0 := xb.k0
              have a1 := xb.k1
              have t2 := xc.k2
              have t3 := xc.k3
              have t4 := xc.k4
              have gj := xd.at j hjl
              clear xb xc xd
              obtain ⟨x, hx⟩ := Int.eq_ofNat_of_zero_le (show 0 ≤ 2 + 4 * (i : Int) + (k : Int) by omega)
              have x1 : x ≤ 302 := by omega
              have EX := Lib.hid (show x = 2 + 4 * i + k by omega)
              obtain ⟨m, hm'⟩ := Int.eq_ofNat_of_zero_le (show 0 ≤ (2 : Int) - (k : Int) by omega)
              have m1 : m ≤ 2 := by omega
              obtain ⟨bv, bt, bz⟩ := tst_r (glyphF (sB s i) j) k m hlk (by omega) (glyphF_bd _ j hjl)
              have gb := glyphF_bd (sB s i) j hjl
              have HO := Lib.hid ho
              have HGI2 := Lib.hid hgr
              clear ho hgr
              go_wp2_with fail
              refine Plan.wp_region_plan (fun w' => w'.cell? ⟨bla, 1, none⟩ = some (.int .i64 (Hn : Int))) (([0, 1, 2, 3, 4, 5, 6, 7, 8, 9, 10, 11].map (·, true))) (by kernel_rfl) (by kernel_rfl) (by kernel_rfl) a1 ?_
              refine' Plan.plan_seg _ [0, 1, 2, 3, 4, 5, 6, 7, 8, 9, 10, 11] ([]) (by kernel_rfl) (by kernel_rfl) rfl (by exact a1) (fun wx hS => ?_) ?_
              rotate_left
              · obtain z1 := hS
                go_light
                iterate 12 (apply Plan.seg_pick; rfl; intro K hK; go_wp)
                exact Plan.seg_nil
              refine Plan.plan_done ?_
              clear a1 hy hx
              by_cases hw : x < Wn
              · have hwd : decide (x < Wn) = true := by simpa using hw
                cases ht : tst (glyphF (sB s i) j) k
                · rw [ht] at bz
                  have HT := Lib.hid ht
                  clear ht
                  go_wp2_with fail
                  go_roundw
                  case rel =>
                    refine ⟨k + 1, by omega, by go_num, HGI2.out.drew, ?_⟩
                    have e : pixS Wn (Hn - 7 + j) (2 + 4 * i) (glyphF (sB s i) j) (k + 1) = pixS Wn (Hn - 7 + j) (2 + 4 * i) (glyphF (sB s i) j) k := by simp [pixS, HT.out]
                    rw [e, ← EM.out]; exact HO.out.below (Below.refl _ _).drew
                  case measure => simp [intOf]; omega
                · rw [ht] at bz
                  have HT := Lib.hid ht
                  clear ht
                  obtain ⟨ca, cb, ha, hb, ia, ib, ea, eb, v1, v2, v3, v4, v5, v6⟩ := pix_ix HD.out.1 HD.out.2.1 HD.out.2.2.1 hw y1
                  have nn3 := HD.out.2.2.2
                  have hc1 := HO.out.r1.cell ca ia
                  have hf1 := World.ownsRow.frozenAt HO.out.r1 ca
                  have EA := Lib.hid (And.intro ea eb)
                  have ib' : cb < F.nV := by omega
                  have EN := Lib.hid nn3
                  clear nn3 ea eb
                  go_wp2_with fail
                  obtain ⟨w7, hw7⟩ : ∃ z, z = (wr.setCell ⟨g1, ca, none⟩ (.int .u8 235)).drew := ⟨_, rfl⟩
                  rw [← hw7]
                  have hgr : OnlyP wo w7 (In3 g1 g2 g3) := by rw [hw7]; exact (HGI2.out.set (In3.a _ _ _) _ _).drew
                  have r1 : Row w7 B g1 F.nY c1 (pY Wn (M ++ [(x, y)]) F.Y) := by
                    rw [hw7]
                    refine (HO.out.r1.store ca (u := 235) ?_ (fun i _ hik => ?_)).drew
                    · rw [EA.out.1]; exact pY_at _ _ _ _ _
                    · exact pY_off _ _ _ _ _ _ (by rw [← EA.out.1]; exact hik)
                  have r2 : Row w7 B g2 F.nU c2 (pC Wn M F.U) := by rw [hw7]; exact (HO.out.r2.far (by simp; omega) _).drew
                  have r3 : Row w7 B g3 F.nV c3 (pC Wn M F.V) := by rw [hw7]; exact (HO.out.r3.far (by simp; omega) _).drew
                  clear hw7 hc1 hf1 HGI2 HO a0 t2 t3 t4 gj
                  have xb := xa.out.onlyP hgr nin
                  have xc := xt.out.onlyP hgr nint
                  have a0 := xb.k0
                  have t3 := xc.k3
                  have t4 := xc.k4
                  have hc2 := r2.cell cb ib
                  have hc3 := r3.cell cb ib'
                  have hf2 := World.ownsRow.frozenAt r2 cb
                  have hf3 := World.ownsRow.frozenAt r3 cb
                  have HO := Lib.hid (And.intro r1 (And.intro r2 r3))
                  have HGI2 := Lib.hid hgr
                  clear r1 r2 r3 hgr xb xc
                  refine Plan.wp_region_planz (fun w' => w'.cell? ⟨blt, 3, none⟩ = some (.slice (some ⟨g2, 0, none⟩) F.nU c2) ∧ w'.cell? ⟨blt, 4, none⟩ = some (.slice (some ⟨g3, 0, none⟩) F.nV c3) ∧ w'.cell? ⟨bla, 0, none⟩ = some (.int .i64 (Wn : Int))) 25 (([0, 1, 2, 3, 4, 5, 6, 7, 8, 9, 10, 11, 12, 13, 14, 15, 16, 17, 18, 19, 20, 21, 22].map (·, true)) ++ (([23].map (·, false)) ++ (([24].map (·, true)) ++ (([25].map (·, false)))))) (by kernel_rfl) (by kernel_rfl) (by kernel_rfl) ⟨t3, t4, a0⟩ ?_
                  refine' Plan.plan_seg _ [0, 1, 2, 3, 4, 5, 6, 7, 8, 9, 10, 11, 12, 13, 14, 15, 16, 17, 18, 19, 20, 21, 22] (([23].map (·, false)) ++ (([24].map (·, true)) ++ (([25].map (·, false))))) (by kernel_rfl) (by kernel_rfl) rfl (by exact ⟨t3, t4, a0⟩) (fun wx hS => ?_) ?_
                  rotate_left
                  · obtain ⟨z1, z2, z3⟩ := hS
                    go_light
                    iterate 23 (apply Plan.seg_pick; rfl; intro K hK; go_wp)
                    exact Plan.seg_nil
                  refine Plan.plan_of_effect rfl (fun K hK => ?_)
                  go_wp2_with fail
                  refine ⟨⟨(by simp only [World.cell?_drew]; rw [World.cell?_setCell_far _ _ _ _ (by simp; omega)]; exact t3), (by simp only [World.cell?_drew]; rw [World.cell?_setCell_far _ _ _ _ (by simp; omega)]; exact t4), (by simp only [World.cell?_drew]; rw [World.cell?_setCell_far _ _ _ _ (by simp; omega)]; exact a0)⟩, ?_⟩
                  refine' Plan.plan_seg _ [24] (([25].map (·, false))) (by kernel_rfl) (by kernel_rfl) rfl (by exact ⟨(by simp only [World.cell?_drew]; rw [World.cell?_setCell_far _ _ _ _ (by simp; omega)]; exact t3), (by simp only [World.cell?_drew]; rw [World.cell?_setCell_far _ _ _ _ (by simp; omega)]; exact t4), (by simp only [World.cell?_drew]; rw [World.cell?_setCell_far _ _ _ _ (by simp; omega)]; exact a0)⟩) (fun wx hS => ?_) ?_
                  rotate_left
                  · obtain ⟨z1, z2, z3⟩ := hS
                    go_light
                    iterate 1 (apply Plan.seg_pick; rfl; intro K hK; go_wp)
                    exact Plan.seg_nil
                  refine Plan.plan_of_last rfl (fun K hK => ?_)
                  go_wp2_with fail
                  refine Plan.plan_done ?_
                  go_wp2_with fail
                  go_roundw
                  case rel =>
                    have e : pixT Wn (Hn - 7) (sB s) i ++ pixG Wn (Hn - 7) (2 + 4 * i) (glyphF (sB s i)) j ++ pixS Wn (Hn - 7 + j) (2 + 4 * i) (glyphF (sB s i) j) (k + 1) = M ++ [(x, y)] := by
                      have h2 : 2 + 4 * i + k < Wn := by have := EX.out; omega
                      rw [EM.out, pixS, if_pos (by simp [HT.out, h2]), ← EX.out, ← EY.out, ← List.append_assoc]
                    refine ⟨k + 1, by omega, by go_num, ?_, ?_⟩
                    · repeat (with_reducible refine OnlyP.drew ?_)
                      exact (HGI2.out.set (In3.b _ _ _) _ _).set (In3.c _ _ _) _ _
                    rw [e]
                    refine ⟨?_, ?_, ?_⟩
                    · repeat (with_reducible refine Row.drew ?_)
                      exact (HO.out.1.far (by simp; omega) _).far (by simp; omega) _
                    · repeat (with_reducible refine Row.drew ?_)
                      refine (HO.out.2.1.store cb (F' := pC Wn (M ++ [(x, y)]) F.U) (u := 128) ?_ (fun i _ hik => ?_)).far (by simp; omega) _
                      · rw [EA.out.2]; exact pC_at _ _ _ _ _
                      · exact pC_off _ _ _ _ _ _ (by rw [← EA.out.2]; exact hik)
                    · repeat (with_reducible refine Row.drew ?_)
                      refine (HO.out.2.2.far (by simp; omega) _).store cb (F' := pC Wn (M ++ [(x, y)]) F.V) (u := 128) ?_ (fun i _ hik => ?_)
                      · rw [EA.out.2]; exact pC_at _ _ _ _ _
                      · exact pC_off _ _ _ _ _ _ (by rw [← EA.out.2]; exact hik)
                  case measure => simp [intOf]; omega
              · have hwd : decide (x < Wn) = false := by simp; omega
                go_wp2_with fail
                go_roundw
                case rel =>
                  refine ⟨k + 1, by omega, by go_num, HGI2.out.drew, ?_⟩
                  have e : pixS Wn (Hn - 7 + j) (2 + 4 * i) (glyphF (sB s i) j) (k + 1) = pixS Wn (Hn - 7 + j) (2 + 4 * i) (glyphF (sB s i) j) k := by
                    have h2 : ¬ 2 + 4 * i + k < Wn := by have := EX.out; omega
                    simp [pixS, h2]
                  rw [e, ← EM.out]; exact HO.out.below (Below.refl _ _).drew
                case measure => simp [intOf]; omega
            · obtain rfl : k = 3 := by omega
              have hgr2 := HGR1.out.trans hgr
              have HO := Lib.hid ho
              have HGI2 := Lib.hid hgr2
              clear ho hgr hgr2
              go_wp2_with fail
              go_roundw
              case rel =>
                refine ⟨j + 1, by omega, by go_num, HGI2.out, ?_⟩
                have e : pixT Wn (Hn - 7) (sB s) i ++ pixG Wn (Hn - 7) (2 + 4 * i) (glyphF (sB s i)) (j + 1) = pixT Wn (Hn - 7) (sB s) i ++ pixG Wn (Hn - 7) (2 + 4 * i) (glyphF (sB s i)) j ++ pixS Wn (Hn - 7 + j) (2 + 4 * i) (glyphF (sB s i) j) 3 := by rw [pixG, List.append_assoc]
                rw [e]; exact HO.out
              case measure => simp [intOf]; omega
        · obtain rfl : j = 5 := by omega
          have hgr2 := HGR.out.trans hgr
          have HO := Lib.hid ho
          have HGI2 := Lib.hid hgr2
          clear ho hgr hgr2
          go_wp2_with fail
          go_roundw
          case rel =>
            refine ⟨i + 1, by omega, by go_num, HGI2.out, ?_⟩
            rw [pixT]; exact HO.out
          case measure => simp [intOf]; omega
    · obtain rfl : i = s.size := by omega
      have RT := Lib.hid ho
      replace BX_t := Lib.hid (BX_t.out.onlyP hgr nint)
      replace BX_r := Lib.hid (BX_r.out.onlyP hgr ninr)
      replace FZ_r := Lib.hid (FZ_r.out.onlyP hgr ninr)
      replace HB := Lib.hid (HB.out.trans (hgr.below (In3.ge (by omega) (by omega) (by omega)) HB.out.size))
      clear ho hgr
      obtain ⟨t0, t1, t2, t3, t4⟩ := BX_t.out
      obtain ⟨r0, r1, r2, r3, r4⟩ := BX_r.out
      have fz := FZ_r.out.2
      go_wp2_with fail
      refine bodyPost_ret (results_cell_tmp rfl _ _ _ rfl rfl (load_fr (BX_r.out.put5 _ _ _ _ _))) rfl ?_
      have e : titleFr (titleL F (sB s) s.size) F = ⟨(Wn : Int), (Hn : Int), F.nY, F.nU, F.nV, pY Wn (pixT Wn (Hn - 7) (sB s) s.size) F.Y, pC Wn (pixT Wn (Hn - 7) (sB s) s.size) F.U, pC Wn (pixT Wn (Hn - 7) (sB s) s.size) F.V⟩ := by unfold titleFr titleL; rw [EW.out, EH.out]; rfl
      rw [e]
      refine ⟨_, rfl, ?_, below_put5 HB.out n0 _ _ _ _ _⟩
      exact K3.FA (((((RT.out.far (by omega) _ _).far (by omega) _ _).far (by omega) _ _).far (by omega) _ _).far (by omega) _ _) (pY_bd HBD.out.1) (pC_bd HBD.out.2.1) (pC_bd HBD.out.2.2)

end Go.Proofs.Ytnnobdcbmagbaaa

/- Both Titles: where they refuse, and together. -/
namespace Go.Proofs.Ytnnobdcbmagbaaa
open Go.RowKit
set_option linter.unusedVariables false

set_option maxRecDepth 100000 in
set_option maxHeartbeats 2000000 in
theorem title_no (v : Value) (F : Fr) (s : ByteArray) (w : World) (hv : FA w v F) (hp : (F.ok && okText s) = false) (hm : s.size ≤ 9223372036854775807) :
    Calls Try.prog 31 #[v, .string s] w fun e w' => e = .returned (.tuple #[zeroV, .int .i64 1]) ∧ Below w.heap.size w w' := by
  have hmf : ∀ (fn : Fn) (first cap : Array Value) (w : World), (Instr.makeFunc fn first cap).run Try.prog w = .ok (.func fn first cap) w := fun _ _ _ _ => rfl
  have hv0 := hv
  obtain ⟨y, u1, z, rfl, _, _, _⟩ := hv
  have B0 : ∀ o1 o2 o3, Below w.heap.size w (((w.alloc o1).alloc o2).alloc o3) := fun _ _ _ => by go_grown
  have HV := Lib.hid hv0
  have HP := Lib.hid hp
  clear hv0 hp
  go_enter_defers Try.func31, Try.ntmps31
  go_wp2_with fail
  refine (valid_b _ F _ ?_).mono ?_
  · exact HV.out.below (by go_grown)
  rintro e w1 ⟨rfl, hb⟩
  have hc := fun (p : Addr) (h : p.block < w.heap.size + 3) => hb.cell (p := p) (by simpa using h)
  have hz := fun (p : Addr) (h : p.block < w.heap.size + 3) => hb.frozen (p := p) (by simpa using h)
  have r0 : w1.cell? ⟨w.heap.size + 1, 0, none⟩ = some (.int .i64 0) := (hc _ (by simp)).trans (by simp [go_sem])
  have r1 : w1.cell? ⟨w.heap.size + 1, 1, none⟩ = some (.int .i64 0) := (hc _ (by simp)).trans (by simp [go_sem])
  have r2 : w1.cell? ⟨w.heap.size + 1, 2, none⟩ = some (.slice none 0 0) := (hc _ (by simp)).trans (by simp [go_sem])
  have r3 : w1.cell? ⟨w.heap.size + 1, 3, none⟩ = some (.slice none 0 0) := (hc _ (by simp)).trans (by simp [go_sem])
  have r4 : w1.cell? ⟨w.heap.size + 1, 4, none⟩ = some (.slice none 0 0) := (hc _ (by simp)).trans (by simp [go_sem])
  have s0 : w1.cell? ⟨w.heap.size + 2, 0, none⟩ = some (.int .i64 0) := (hc _ (by simp)).trans (by simp [go_sem])
  have z4 : ∀ o, w1.frozen? ⟨w.heap.size + 1, o, none⟩ = false := fun o => (hz _ (by simp)).trans (by simp [go_sem])
  have z5 : w1.frozen? ⟨w.heap.size + 2, 0, none⟩ = false := (hz _ (by simp)).trans (by simp [go_sem])
  have hN : w.heap.size + 3 ≤ w1.heap.size := by have := hb.size; simpa using this
  have W1 : Below w.heap.size w w1 := (B0 _ _ _).trans (hb.mono (by simp; omega))
  clear hb hc hz
  cases hpk : F.ok
  · have HK := Lib.hid hpk
    clear hpk
    go_wp2_with fail
    refine leaves_cons (f := 56) (args := #[.pointer (some ⟨w.heap.size + 1, 0, none⟩), .pointer (some ⟨w.heap.size + 1 + 1, 0, none⟩)]) (by simp) (by simp [go_sem]) ?_
    refine (idle56 _ _ _).mono ?_
    rintro e u' w'' ⟨rfl, rfl, rfl⟩
    simp [Leaves, settle, results, Try.results31, go_sem, r0, r1, r2, r3, r4, s0, zeroV]
    go_grown
  · have hs : okText s = false := by have := HP.out; simpa [hpk] using this
    have HK := Lib.hid hpk
    have HS := Lib.hid hs
    clear hpk hs
    go_wp2_with fail
    refine (validText_any s _ hm).mono ?_
    rintro e w2 ⟨rfl, rfl⟩
    rw [HS.out]
    go_wp2_with fail
    refine leaves_cons (f := 56) (args := #[.pointer (some ⟨w.heap.size + 1, 0, none⟩), .pointer (some ⟨w.heap.size + 1 + 1, 0, none⟩)]) (by simp) (by simp [go_sem]) ?_
    refine (idle56 _ _ _).mono ?_
    rintro e u' w'' ⟨rfl, rfl, rfl⟩
    simp [Leaves, settle, results, Try.results31, go_sem, r0, r1, r2, r3, r4, s0, zeroV]
    go_grown

set_option maxRecDepth 100000 in
set_option maxHeartbeats 2000000 in
theorem rtitle_no (v : Value) (F : Fr) (s : ByteArray) (w : World) (hv : FA w v F) (hp : (F.ok && okText s) = false) (hm : s.size ≤ 9223372036854775807) :
    Calls Try.prog 32 #[v, .string s] w fun e w' => e = .returned (.tuple #[zeroV, .int .i64 1]) ∧ Below w.heap.size w w' := by
  have hv0 := hv
  obtain ⟨y, u1, z, rfl, _, _, _⟩ := hv
  have B0 : ∀ o1 o2, Below w.heap.size w ((w.alloc o1).alloc o2) := fun _ _ => by go_grown
  have HV := Lib.hid hv0
  have HP := Lib.hid hp
  clear hv0 hp
  go_enter Try.func32, Try.ntmps32
  go_wp2_with fail
  refine (r20valid_b _ F _ ?_).mono ?_
  · exact HV.out.below (by go_grown)
  rintro e w1 ⟨rfl, hb⟩
  have hc := fun (p : Addr) (h : p.block < w.heap.size + 2) => hb.cell (p := p) (by simpa using h)
  have hz := fun (p : Addr) (h : p.block < w.heap.size + 2) => hb.frozen (p := p) (by simpa using h)
  have r0 : w1.cell? ⟨w.heap.size + 1, 0, none⟩ = some (.int .i64 0) := (hc _ (by simp)).trans (by simp [go_sem])
  have r1 : w1.cell? ⟨w.heap.size + 1, 1, none⟩ = some (.int .i64 0) := (hc _ (by simp)).trans (by simp [go_sem])
  have r2 : w1.cell? ⟨w.heap.size + 1, 2, none⟩ = some (.slice none 0 0) := (hc _ (by simp)).trans (by simp [go_sem])
  have r3 : w1.cell? ⟨w.heap.size + 1, 3, none⟩ = some (.slice none 0 0) := (hc _ (by simp)).trans (by simp [go_sem])
  have r4 : w1.cell? ⟨w.heap.size + 1, 4, none⟩ = some (.slice none 0 0) := (hc _ (by simp)).trans (by simp [go_sem])
  have z4 : ∀ o, w1.frozen? ⟨w.heap.size + 1, o, none⟩ = false := fun o => (hz _ (by simp)).trans (by simp [go_sem])
  have hN : w.heap.size + 2 ≤ w1.heap.size := by have := hb.size; simpa using this
  have W1 : Below w.heap.size w w1 := (B0 _ _).trans (hb.mono (by simp; omega))
  clear hb hc hz
  cases hpk : F.ok
  · have HK := Lib.hid hpk
    clear hpk
    go_wp2_with fail
    refine bodyPost_ret (v := .tuple #[zeroV, .int .i64 1]) (by simp [results, Try.results32, go_sem, r0, r1, r2, r3, r4, zeroV]) rfl ?_
    exact ⟨rfl, by go_grown⟩
  · have hs : okText s = false := by have := HP.out; simpa [hpk] using this
    have HK := Lib.hid hpk
    have HS := Lib.hid hs
    clear hpk hs
    go_wp2_with fail
    refine (validLine_any s _ hm).mono ?_
    rintro e w2 ⟨rfl, rfl⟩
    rw [HS.out]
    go_wp2_with fail
    refine bodyPost_ret (v := .tuple #[zeroV, .int .i64 1]) (by simp [results, Try.results32, go_sem, r0, r1, r2, r3, r4, zeroV]) rfl ?_
    exact ⟨rfl, by go_grown⟩

def titleR (F : Fr) (s : ByteArray) : Fr := if F.ok && okText s then titleFr (titleL F (sB s) s.size) F else Fr.zero
def titleE (F : Fr) (s : ByteArray) : Int := if F.ok && okText s then 0 else 1

theorem title_any (v : Value) (F : Fr) (s : ByteArray) (w : World) (hv : FA w v F) (hm : s.size ≤ 9223372036854775807) :
    Calls Try.prog 31 #[v, .string s] w fun e w' => ∃ r, e = .returned (.tuple #[r, .int .i64 (titleE F s)]) ∧ FA w' r (titleR F s) ∧ Below w.heap.size w w' := by
  cases h : F.ok && okText s
  · refine (title_no v F s w hv h hm).mono ?_
    rintro e w' ⟨rfl, hb⟩
    exact ⟨zeroV, by simp [titleE, h], by simp only [titleR, h]; exact FA.zero _, hb⟩
  · have h' := h
    simp only [Bool.and_eq_true] at h'
    refine (title_yes v F s w hv h'.1 h'.2 hm).mono ?_
    rintro e w' ⟨r, rfl, hf, hb⟩
    exact ⟨r, by simp [titleE, h], by simp only [titleR, h]; exact hf, hb⟩

theorem rtitle_any (v : Value) (F : Fr) (s : ByteArray) (w : World) (hv : FA w v F) (hm : s.size ≤ 9223372036854775807) :
    Calls Try.prog 32 #[v, .string s] w fun e w' => ∃ r, e = .returned (.tuple #[r, .int .i64 (titleE F s)]) ∧ FA w' r (titleR F s) ∧ Below w.heap.size w w' := by
  cases h : F.ok && okText s
  · refine (rtitle_no v F s w hv h hm).mono ?_
    rintro e w' ⟨rfl, hb⟩
    exact ⟨zeroV, by simp [titleE, h], by simp only [titleR, h]; exact FA.zero _, hb⟩
  · have h' := h
    simp only [Bool.and_eq_true] at h'
    refine (rtitle_yes v F s w hv h'.1 h'.2 hm).mono ?_
    rintro e w' ⟨r, rfl, hf, hb⟩
    exact ⟨r, by simp [titleE, h], by simp only [titleR, h]; exact hf, hb⟩

end Go.Proofs.Ytnnobdcbmagbaaa

/- Pictures as data; the map of pictures: keys, look-ups. -/
namespace Go.Proofs.Ytnnobdcbmagbaaa
open Go.RowKit
set_option linter.unusedVariables false

structure Pic where
  media : ByteArray
  num : Int
  fr : Fr
structure Pic.fit (p : Pic) : Prop where
  m : p.media.size ≤ 9223372036854775807
  lo : -9223372036854775808 ≤ p.num
  hi : p.num ≤ 9223372036854775807

/-- Seven cells of a list of pictures. -/
structure C7 (w : World) (b p : Nat) (q : Pic) (y u z : Value) : Prop where
  k0 : w.cell? ⟨b, p, none⟩ = some (.string q.media)
  k1 : w.cell? ⟨b, p + 1, none⟩ = some (.int .i64 q.num)
  k2 : w.cell? ⟨b, p + 2, none⟩ = some (.int .i64 q.fr.W)
  k3 : w.cell? ⟨b, p + 3, none⟩ = some (.int .i64 q.fr.H)
  k4 : w.cell? ⟨b, p + 4, none⟩ = some y
  k5 : w.cell? ⟨b, p + 5, none⟩ = some u
  k6 : w.cell? ⟨b, p + 6, none⟩ = some z
theorem C7.lt {w : World} {b p : Nat} {q : Pic} {y u z : Value} (h : C7 w b p q y u z) : b < w.heap.size := block_lt_of_cell h.k0
theorem C7.below {w w' : World} {b p : Nat} {q : Pic} {y u z : Value} (h : C7 w b p q y u z) (hb : Below w.heap.size w w') : C7 w' b p q y u z :=
  ⟨(hb.cell h.lt).trans h.k0, (hb.cell h.lt).trans h.k1, (hb.cell h.lt).trans h.k2, (hb.cell h.lt).trans h.k3, (hb.cell h.lt).trans h.k4, (hb.cell h.lt).trans h.k5, (hb.cell h.lt).trans h.k6⟩

/-- v reads as the list of the pictures P 0, .., P (m-1). -/
def LA (w : World) (v : Value) (m : Nat) (P : Nat → Pic) : Prop :=
  ∃ ao c, v = .slice ao m c ∧ m ≤ c ∧ m ≤ 9223372036854775807 ∧ ∀ i, i < m → (P i).fit ∧ ∃ b o y u z, ao = some ⟨b, o, none⟩ ∧ C7 w b (o + i * 7) (P i) y u z ∧
    FA w (.agg #[.int .i64 (P i).fr.W, .int .i64 (P i).fr.H, y, u, z]) (P i).fr
theorem LA.below {w w' : World} {v : Value} {m : Nat} {P : Nat → Pic} (h : LA w v m P) (hb : Below w.heap.size w w') : LA w' v m P := by
  obtain ⟨ao, c, rfl, hc, hm, H⟩ := h
  refine ⟨ao, c, rfl, hc, hm, fun i hi => ⟨(H i hi).1, ?_⟩⟩
  obtain ⟨b, o, y, u, z, e, hC, hF⟩ := (H i hi).2
  exact ⟨b, o, y, u, z, e, hC.below hb, hF.below hb⟩

/-- The first of the first k pictures of a name. -/
def findP (P : Nat → Pic) (md : ByteArray) (nb : Int) : Nat → Option Nat
  | 0 => none
  | k + 1 => match findP P md nb k with
    | some i => some i
    | none => if (P k).media = md ∧ (P k).num = nb then some k else none
theorem findP_lt {P : Nat → Pic} {md : ByteArray} {nb : Int} : ∀ {k i : Nat}, findP P md nb k = some i → i < k ∧ (P i).media = md ∧ (P i).num = nb
  | 0, i, h => by simp [findP] at h
  | k + 1, i, h => by
    unfold findP at h
    split at h
    · rename_i j hj
      obtain rfl : j = i := by simpa using h
      have := findP_lt hj
      exact ⟨by omega, this.2⟩
    · split at h
      · rename_i hc
        obtain rfl : k = i := by simpa using h
        exact ⟨by omega, hc⟩
      · simp at h
theorem findP_old {P : Nat → Pic} {md : ByteArray} {nb : Int} {k i : Nat} (h : findP P md nb k = some i) : findP P md nb (k + 1) = some i := by
  simp [findP, h]
theorem findP_skip {P : Nat → Pic} {md : ByteArray} {nb : Int} {k : Nat} (h : ¬ ((P k).media = md ∧ (P k).num = nb)) : findP P md nb (k + 1) = findP P md nb k := by
  rw [findP]
  cases hf : findP P md nb k with
  | some i => rfl
  | none => simp only [if_neg h]
theorem findP_new {P : Nat → Pic} {md : ByteArray} {nb : Int} {k : Nat} (h : findP P md nb k = none) (hc : (P k).media = md ∧ (P k).num = nb) : findP P md nb (k + 1) = some k := by
  simp [findP, h, hc]

/-- What an expression denotes: an error, a frame. -/
def evX (P : Nat → Pic) (m : Nat) (W H : Int) : Ex → Int × Fr
  | .nil => (1, Fr.zero)
  | .mk f a =>
    if f.op = 1 then (match findP P f.media f.frame m with | some i => (0, (P i).fr) | none => (7, Fr.zero))
    else if f.op = 2 then
      if (evX P m W H (a 0)).1 ≠ 0 then ((evX P m W H (a 0)).1, Fr.zero) else if (evX P m W H (a 1)).1 ≠ 0 then ((evX P m W H (a 1)).1, Fr.zero)
      else (mixE (evX P m W H (a 0)).2 (evX P m W H (a 1)).2 f.num f.den, mixR (evX P m W H (a 0)).2 (evX P m W H (a 1)).2 f.num f.den)
    else if f.op = 3 then
      if (evX P m W H (a 0)).1 ≠ 0 then ((evX P m W H (a 0)).1, Fr.zero) else if (evX P m W H (a 1)).1 ≠ 0 then ((evX P m W H (a 1)).1, Fr.zero)
      else (wipeE (evX P m W H (a 0)).2 (evX P m W H (a 1)).2 f.num f.den f.par, wipeR (evX P m W H (a 0)).2 (evX P m W H (a 1)).2 f.num f.den f.par)
    else if f.op = 4 then
      if (evX P m W H (a 0)).1 ≠ 0 then ((evX P m W H (a 0)).1, Fr.zero) else if (evX P m W H (a 1)).1 ≠ 0 then ((evX P m W H (a 1)).1, Fr.zero)
      else (keyE (evX P m W H (a 0)).2 (evX P m W H (a 1)).2 f.par, keyR (evX P m W H (a 0)).2 (evX P m W H (a 1)).2 f.par)
    else if f.op = 5 then
      if (evX P m W H (a 0)).1 ≠ 0 then ((evX P m W H (a 0)).1, Fr.zero)
      else (titleE (evX P m W H (a 0)).2 f.text, titleR (evX P m W H (a 0)).2 f.text)
    else (0, blackFr W H)

/- The map's keys. -/
def keyV (md : ByteArray) (nb : Int) : Value := .agg #[.string md, .int .i64 nb]
theorem laidOut : laidOutB Try.prog = true := by kernel_rfl
theorem row95 : (95 : TypeId) < Try.prog.types.size := of_decide_eq_true (by kernel_rfl)
theorem wide95 : (match Try.prog.underlying 95 with | some (.array _ _) | some (.struct _) => true | _ => false) = true := by kernel_rfl
set_option maxRecDepth 100000 in
theorem law95 : WideMaps.KeyLaw Try.prog 95 := deep_law_laid laidOut (m := 2) (by omega) row95 (by kernel_rfl) wide95
theorem cells95 : Try.prog.cellsOf 95 = 2 := by kernel_rfl
theorem cells2 : Try.prog.cellsOf 2 = 1 := by kernel_rfl
theorem cells9 : Try.prog.cellsOf 9 = 1 := by kernel_rfl
theorem keyType95 : Try.prog.keyType 95 = true := by kernel_rfl
theorem size127 : Try.prog.types.size = 126 + 1 := by kernel_rfl
theorem min64 : IntKind.min .i64 = -9223372036854775808 := by decide
theorem max64 : IntKind.max .i64 = 9223372036854775807 := by decide
theorem wf64 {nb : Int} (h2 : -9223372036854775808 ≤ nb) (h3 : nb ≤ 9223372036854775807) : (Lit.int .i64 nb).wf = true := by
  simp only [Lit.wf, min64, max64, Bool.and_eq_true, decide_eq_true_eq]
  exact ⟨h2, h3⟩
theorem kl_str (d : Nat) (s : ByteArray) (h : s.size ≤ maxLen) : Try.prog.keyLits (d + 1) 9 [.string s] = some [.string s.data.toList] := by
  unfold Program.keyLits
  rw [Try.underlying9]
  simp only [h, if_true]
theorem kl_int (d : Nat) (n : Int) (h : (Lit.int .i64 n).wf = true) : Try.prog.keyLits (d + 1) 2 [.int .i64 n] = some [.int .i64 n] := by
  unfold Program.keyLits
  rw [Try.underlying2]
  simp only [h, and_self, if_true]
theorem size126 : Try.prog.types.size = 125 + 1 + 1 := by kernel_rfl
theorem kl_top (d : Nat) (s : ByteArray) (n : Int) (h1 : s.size ≤ maxLen) (h : (Lit.int .i64 n).wf = true) : ∃ l, Try.prog.keyLits (d + 1 + 1) 95 [.string s, .int .i64 n] = some l := by
  unfold Program.keyLits
  rw [Try.underlying95]
  simp [cells95, cells2, cells9, kl_str d s h1, kl_int d n h]
theorem key95 (md : ByteArray) (nb : Int) (h1 : md.size ≤ 9223372036854775807) (h2 : -9223372036854775808 ≤ nb) (h3 : nb ≤ 9223372036854775807) : ∃ l, keyOf Try.prog 95 (keyV md nb) = some l := by
  obtain ⟨l, hl⟩ := kl_top 126 md nb (by unfold maxLen; omega) (wf64 h2 h3)
  have hf : (keyV md nb).formed Try.prog 95 = true := by
    unfold keyV
    simp [Value.formed, Try.underlying95, cells95]
  refine ⟨.string (keyBytes l), ?_⟩
  unfold keyOf
  rw [Try.underlying95]
  simp only [keyType95, hf, Bool.and_self, if_true]
  rw [size126]
  show (Try.prog.keyLits (126 + 1 + 1) 95 [.string md, .int .i64 nb]).map _ = _
  rw [hl]
  rfl

/-- Block mb holds a map of the first m pictures' names. -/
def MapA (w : World) (mb m : Nat) (P : Nat → Pic) : Prop :=
  ∃ es clock, w.heap[mb]? = some (.map es clock) ∧
    (∀ e ∈ es.toList, ∃ i, i < m ∧ (P i).fit ∧ e.key = keyV (P i).media (P i).num ∧ findP P (P i).media (P i).num m = some i ∧ FA w e.val (P i).fr) ∧
    (∀ md nb, (∀ e ∈ es.toList, e.key ≠ keyV md nb) → findP P md nb m = none)
theorem MapA.lt {w : World} {mb m : Nat} {P : Nat → Pic} (h : MapA w mb m P) : mb < w.heap.size := by
  obtain ⟨es, clock, hb, _⟩ := h
  exact (Array.getElem?_eq_some_iff.1 hb).1
theorem MapA.below {w w' : World} {mb m : Nat} {P : Nat → Pic} (h : MapA w mb m P) (hb : Below w.heap.size w w') : MapA w' mb m P := by
  have hl := h.lt
  obtain ⟨es, clock, hm, H1, H2⟩ := h
  refine ⟨es, clock, (hb.block mb hl).trans hm, fun e he => ?_, H2⟩
  obtain ⟨i, hi, hf, hk, hF, hA⟩ := H1 e he
  exact ⟨i, hi, hf, hk, hF, hA.below hb⟩
theorem MapA.of_alloc (w : World) (P : Nat → Pic) (b : Nat) (h : b = w.heap.size) : MapA (w.alloc (.map #[] 0)) b 0 P := by
  subst h
  exact ⟨#[], 0, (MapKept.heap_alloc w _).1, fun e he => by simp at he, fun md nb _ => rfl⟩
theorem keyV_inj {a b : ByteArray} {c d : Int} (h : keyV a c = keyV b d) : a = b ∧ c = d := by
  simpa [keyV] using h
theorem MapA.keys {w : World} {m : Nat} {P : Nat → Pic} {es : Array MapEntry} (H1 : ∀ e ∈ es.toList, ∃ i, i < m ∧ (P i).fit ∧ e.key = keyV (P i).media (P i).num ∧ findP P (P i).media (P i).num m = some i ∧ FA w e.val (P i).fr) :
    ∀ e ∈ es.toList, ∃ l, keyOf Try.prog 95 e.key = some l := fun e he => by
  obtain ⟨i, hi, hf, hk, _⟩ := H1 e he
  rw [hk]
  exact key95 _ _ hf.m hf.lo hf.hi
theorem MapA.look {w : World} {mb m : Nat} {P : Nat → Pic} (h : MapA w mb m P) (md : ByteArray) (nb : Int) (h1 : md.size ≤ 9223372036854775807) (h2 : -9223372036854775808 ≤ nb) (h3 : nb ≤ 9223372036854775807) :
    ∃ r ok, (Instr.lookup 91 (.map (some mb)) (keyV md nb) true).run Try.prog w = .ok (.tuple #[r, .bool ok]) w ∧
      ((ok = true ∧ ∃ i, findP P md nb m = some i ∧ FA w r (P i).fr) ∨ (ok = false ∧ findP P md nb m = none ∧ r = zeroV)) := by
  obtain ⟨es, clock, hb, H1, H2⟩ := h
  obtain ⟨l, hl⟩ := key95 md nb h1 h2 h3
  have hz : (zeroValue 26).run Try.prog w = .ok zeroV w := by kernel_rfl
  rcases law95.find w hl es.toList (MapA.keys H1) with ⟨f1, f2⟩ | ⟨j, e0, f1, f2, f3⟩
  · exact ⟨zeroV, false, by simp [Instr.lookup, run_underlying Try.underlying91, MapKept.run_getObj_map hb, law95.check w _ hl, f1, hz, Result.andThen], Or.inr ⟨rfl, H2 md nb f2, rfl⟩⟩
  · refine ⟨e0.val, true, by simp [Instr.lookup, run_underlying Try.underlying91, MapKept.run_getObj_map hb, law95.check w _ hl, f1, Result.andThen], Or.inl ⟨rfl, ?_⟩⟩
    obtain ⟨i, hi, hf, hk, hF, hA⟩ := H1 e0 (List.mem_of_getElem? f2)
    obtain ⟨e1, e2⟩ := keyV_inj (hk.symm.trans f3)
    rw [e1, e2] at hF
    exact ⟨i, hF, hA⟩

/-- All blocks but the map's stay. -/
structure Keep (mb : Nat) (w w' : World) : Prop where
  os : w'.os = w.os
  tape : w'.tape = w.tape
  output : w'.output = w.output
  size : w.heap.size ≤ w'.heap.size
  block : ∀ k, k < w.heap.size → k ≠ mb → w'.heap[k]? = w.heap[k]?
theorem Keep.refl (mb : Nat) (w : World) : Keep mb w w := ⟨rfl, rfl, rfl, Nat.le_refl _, fun _ _ _ => rfl⟩
theorem Keep.trans {mb : Nat} {a b c : World} (h : Keep mb a b) (k : Keep mb b c) : Keep mb a c :=
  ⟨k.os.trans h.os, k.tape.trans h.tape, k.output.trans h.output, Nat.le_trans h.size k.size, fun i hi hn => (k.block i (Nat.lt_of_lt_of_le hi h.size) hn).trans (h.block i hi hn)⟩
theorem Keep.of_below {mb : Nat} {w w' : World} (h : Below w.heap.size w w') : Keep mb w w' := ⟨h.os, h.tape, h.output, h.size, fun k hk _ => h.block k hk⟩
theorem Keep.cell {mb : Nat} {w w' : World} (h : Keep mb w w') {p : Addr} (hp : p.block < w.heap.size) (hn : p.block ≠ mb) : w'.cell? p = w.cell? p := World.cell?_of_block (w := w) (h.block p.block hp hn)
theorem Keep.frozen {mb : Nat} {w w' : World} (h : Keep mb w w') {p : Addr} (hp : p.block < w.heap.size) (hn : p.block ≠ mb) : w'.frozen? p = w.frozen? p := World.frozen?_of_block (w := w) (h.block p.block hp hn)
theorem Keep.below {mb : Nat} {w w' : World} (h : Keep mb w w') {B : Nat} (hB : B ≤ mb) (hB2 : B ≤ w.heap.size) : Below B w w' := ⟨h.os, h.tape, h.output, h.size, fun k hk => h.block k (by omega) (by omega)⟩

theorem FA.keep {w w' : World} {v : Value} {F : Fr} {mb : Nat} {es : Array MapEntry} {clock : Nat} (h : FA w v F) (hb : w.heap[mb]? = some (.map es clock)) (hk : Keep mb w w') : FA w' v F := by
  have step : ∀ {v : Value} {n : Nat} {f : Nat → Int}, BA w v n f → BA w' v n f := by
    rintro v n f ⟨ao, c, rfl, hc, H⟩
    refine ⟨ao, c, rfl, hc, fun i hi => ?_⟩
    obtain ⟨⟨b, o, he, hcell⟩, h2⟩ := H i hi
    have hne : b ≠ mb := by
      rintro rfl
      simp [World.cell?, hb] at hcell
    exact ⟨⟨b, o, he, (hk.cell (p := ⟨b, o + i, none⟩) (block_lt_of_cell hcell) hne).trans hcell⟩, h2⟩
  obtain ⟨y, u, z, rfl, h1, h2, h3⟩ := h
  exact ⟨y, u, z, rfl, step h1, step h2, step h3⟩

theorem MapA.update {w : World} {mb m : Nat} {P : Nat → Pic} (h : MapA w mb m P) (val : Value) (hf : (P m).fit) (hF : FA w val (P m).fr) (hnone : findP P (P m).media (P m).num m = none) :
    ∃ w', (Instr.mapUpdate 91 (.map (some mb)) (keyV (P m).media (P m).num) val).run Try.prog w = .ok () w' ∧ MapA w' mb (m + 1) P ∧ Keep mb w w' := by
  obtain ⟨es, clock, hb, H1, H2⟩ := h
  obtain ⟨l, hl⟩ := key95 _ _ hf.m hf.lo hf.hi
  rcases law95.find w hl es.toList (MapA.keys H1) with ⟨f1, f2⟩ | ⟨j, e0, f1, f2, f3⟩
  · have hk : Keep mb w (ChangeMaps.setBlock w mb (.map (es.push ⟨keyV (P m).media (P m).num, val, clock⟩) (clock + 1))) :=
      ⟨rfl, rfl, rfl, by simp [ChangeMaps.setBlock], fun k hk hn => ChangeMaps.heap_setBlock_other hb _ hn⟩
    refine ⟨ChangeMaps.setBlock w mb (.map (es.push ⟨keyV (P m).media (P m).num, val, clock⟩) (clock + 1)), ?_, ⟨_, _, ChangeMaps.heap_setBlock_same hb _, ?_, ?_⟩, hk⟩
    · simp [Instr.mapUpdate, run_underlying Try.underlying91, MapKept.run_getObj_map hb, law95.check w false hl, f1, MapKept.run_setObj_map _ hb, Result.andThen, ChangeMaps.setBlock]
    · intro e he
      simp only [Array.toList_push, List.mem_append, List.mem_singleton] at he
      rcases he with he | rfl
      · obtain ⟨i, hi, hfi, hki, hFi, hA⟩ := H1 e he
        exact ⟨i, by omega, hfi, hki, findP_old hFi, hA.keep hb hk⟩
      · exact ⟨m, by omega, hf, rfl, findP_new hnone ⟨rfl, rfl⟩, hF.keep hb hk⟩
    · intro md nb hne
      have h1 := H2 md nb (fun e he => hne e (by simp [he]))
      have h2 : keyV (P m).media (P m).num ≠ keyV md nb := hne ⟨keyV (P m).media (P m).num, val, clock⟩ (by simp)
      rw [findP_skip (fun ⟨e1, e2⟩ => h2 (by rw [e1, e2])), h1]
  · obtain ⟨i, hi, hfi, hki, hFi, hA⟩ := H1 e0 (List.mem_of_getElem? f2)
    obtain ⟨e1, e2⟩ := keyV_inj (hki.symm.trans f3)
    rw [e1, e2, hnone] at hFi
    cases hFi
/-- A picture whose name is known changes nothing. -/
theorem MapA.skip {w : World} {mb m : Nat} {P : Nat → Pic} {i : Nat} (h : MapA w mb m P) (hs : findP P (P m).media (P m).num m = some i) : MapA w mb (m + 1) P := by
  obtain ⟨es, clock, hb, H1, H2⟩ := h
  refine ⟨es, clock, hb, fun e he => ?_, fun md nb hne => ?_⟩
  · obtain ⟨j, hj, hfi, hki, hFi, hA⟩ := H1 e he
    exact ⟨j, by omega, hfi, hki, findP_old hFi, hA⟩
  · have h1 := H2 md nb hne
    rw [findP_skip (fun ⟨e1, e2⟩ => by rw [← e1, ← e2, hs] at h1; cases h1), h1]

/-- 'v, ok := m[k]' at the operation. -/
theorem wpList_look (w : World) {ops : Array Oper} {rest : List Oper} {o : Oper} {a : Act} {Q : Exit → Act → World → Prop}
    (hg : o.guard = none) (mo x : Operand) (hop : o.op = Op.lookup 91 mo x true) (mb m : Nat) (P : Nat → Pic) (hm : a.eval mo = .map (some mb)) (hM : MapA w mb m P)
    (md : ByteArray) (nb : Int) (hx : a.eval x = .agg #[.string md, .int .i64 nb]) (h1 : md.size ≤ 9223372036854775807) (h2 : -9223372036854775808 ≤ nb) (h3 : nb ≤ 9223372036854775807)
    (hK : ∀ r ok, ((ok = true ∧ ∃ i, findP P md nb m = some i ∧ FA w r (P i).fr) ∨ (ok = false ∧ findP P md nb m = none ∧ r = zeroV)) → wpList Try.prog ops Q rest (a.put o.dst (.tuple #[r, .bool ok])) w) :
    wpList Try.prog ops Q (o :: rest) a w := by
  refine wpList_plain hg fun K' hK' => ?_
  obtain ⟨r, ok, hrun, H⟩ := hM.look md nb h1 h2 h3
  unfold keyV at hrun
  unfold Oper.wp
  simp [execOp, hop, hm, hx, hrun, Result.andThen]
  exact hK' _ _ (hK r ok H)
/-- 'm[k] = v' at the operation, at a new name. -/
theorem wpList_update (w : World) {ops : Array Oper} {rest : List Oper} {o : Oper} {a : Act} {Q : Exit → Act → World → Prop}
    (hg : o.guard = none) (mo x v : Operand) (hop : o.op = Op.mapUpdate 91 mo x v) (mb m : Nat) (P : Nat → Pic) (hm : a.eval mo = .map (some mb)) (hM : MapA w mb m P)
    (val : Value) (hx : a.eval x = .agg #[.string (P m).media, .int .i64 (P m).num]) (hv : a.eval v = val) (hf : (P m).fit) (hF : FA w val (P m).fr) (hnone : findP P (P m).media (P m).num m = none)
    (hK : ∀ w', MapA w' mb (m + 1) P → Keep mb w w' → wpList Try.prog ops Q rest (a.put o.dst undef) w') :
    wpList Try.prog ops Q (o :: rest) a w := by
  refine wpList_plain hg fun K' hK' => ?_
  obtain ⟨w', hrun, H1, H2⟩ := hM.update val hf hF hnone
  unfold keyV at hrun
  unfold Oper.wp
  simp [execOp, hop, hm, hx, hv, hrun, Result.andThen]
  exact hK' _ _ (hK w' H1 H2)

end Go.Proofs.Ytnnobdcbmagbaaa
