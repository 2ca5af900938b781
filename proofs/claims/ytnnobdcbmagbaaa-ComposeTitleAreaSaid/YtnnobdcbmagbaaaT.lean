/- The contract of cutroomlaw26.awake: it answers true. -/
import Derived.Test.YtnnobdcbmagbaaaS
import Derived.Test.YtnnobdcbmagbaaaR
import Derived.Test.YtnnobdcbmagbaaaJ
import Derived.Test.YtnnobdcbmagbaaaK
import Derived.DeepKeys
namespace Go.Proofs.Ytnnobdcbmagbaaa
open Go.RowKit

theorem eq_73 (w : World) : (Op.equalIn 10000 49 (.agg #[.int .i64 7, .int .i64 2, .int .i64 2, .int .i64 2, .int .i64 7]) (.agg #[.int .i64 7, .int .i64 2, .int .i64 2, .int .i64 2, .int .i64 7])).run Try.prog w = .ok true w := by
  obtain ⟨la, hl⟩ := Option.isSome_iff_exists.mp (show (Try.prog.keyLits 4 49 [.int .i64 7, .int .i64 2, .int .i64 2, .int .i64 2, .int .i64 7]).isSome = true by kernel_rfl)
  obtain ⟨r, hr, hi⟩ := run_equalIn_deep (P := Try.prog) 9998 2 49 (by kernel_rfl) w 4 4 (.agg #[.int .i64 7, .int .i64 2, .int .i64 2, .int .i64 2, .int .i64 7]) (.agg #[.int .i64 7, .int .i64 2, .int .i64 2, .int .i64 2, .int .i64 7]) la la (by kernel_rfl) (by kernel_rfl) hl hl
  rw [hi.mpr rfl] at hr
  exact hr

def frA : Fr := ⟨16, 16, 256, 64, 64, fun _ => 16, fun _ => 128, fun _ => 128⟩
def frB : Fr := ⟨16, 16, 256, 64, 64, fun i => if i = 7 then 235 else 16, fun _ => 128, fun _ => 128⟩
theorem frA_black : blackFr 16 16 = frA := rfl
theorem eqB_of {n : Nat} {f g : Nat → Int} (h : ∀ i, i < n → f i = g i) : eqB n f n g = true := by
  unfold eqB bstr
  rw [List.map_congr_left (fun i hi => h i (by simpa using hi))]
  simp
theorem frSame_of {F G : Fr} (h1 : F.W = G.W) (h2 : F.H = G.H) (n1 : F.nY = G.nY) (n2 : F.nU = G.nU) (n3 : F.nV = G.nV) (e1 : ∀ i, i < F.nY → F.Y i = G.Y i) (e2 : ∀ i, i < F.nU → F.U i = G.U i) (e3 : ∀ i, i < F.nV → F.V i = G.V i) : frSame F G = true := by
  unfold frSame
  rw [h1, h2, ← n1, ← n2, ← n3, eqB_of e1, eqB_of e2, eqB_of e3]
  simp
theorem same_frA : frSame frA frA = true := frSame_of rfl rfl rfl rfl rfl (fun _ _ => rfl) (fun _ _ => rfl) (fun _ _ => rfl)
theorem wipe_none {W H : Int} {X Y : Nat → Int} (hW : 0 < W) (i : Nat) : wipeF W H 0 0 1 X Y i = X i := by
  unfold wipeF
  rw [if_neg]
  simp [placeF]
  exact Int.emod_nonneg _ (by omega)
theorem same_wipe : frSame (wipeFr 0 1 0 frA frB) frA = true := frSame_of rfl rfl rfl rfl rfl (fun i _ => wipe_none (W := 16) (H := 16) (X := frA.Y) (Y := frB.Y) (by decide) i) (fun i _ => wipe_none (W := 16 / 2) (H := 16 / 2) (X := frA.U) (Y := frB.U) (by decide) i) (fun i _ => wipe_none (W := 16 / 2) (H := 16 / 2) (X := frA.V) (Y := frB.V) (by decide) i)
theorem glyph_73 : glyphV 73 = .agg #[.int .i64 7, .int .i64 2, .int .i64 2, .int .i64 2, .int .i64 7] := by kernel_rfl

/-- What each fresh operation of the region makes: the empty slice, the copied row, the empty frame. -/
def GA (B : Nat) (u z : Value) (i lo hi : Nat) (v : Value) (w : World) : Prop :=
  (i = 0 → ∃ e, v = .slice (some ⟨e, 0, none⟩) 0 0) ∧
  (i = 3 → ∃ g c, v = .slice (some ⟨g, 0, none⟩) 256 c ∧ Row w B g 256 c (fun _ => 16)) ∧
  (i = 8 → ∃ g c, v = .agg #[.int .i64 16, .int .i64 16, .slice (some ⟨g, 0, none⟩) 256 c, u, z] ∧ Row w B g 256 c (fun _ => 16)) ∧
  (i = 9 → v = .pointer (some ⟨lo, 0, none⟩) ∧ lo < w.heap.size ∧ lo < hi ∧ (∀ j, w.cell? ⟨lo, j, none⟩ = (#[Value.int .i64 0, .int .i64 0, .slice none 0 0, .slice none 0 0, .slice none 0 0] : Array Value)[j]?) ∧ ∀ o, w.frozen? ⟨lo, o, none⟩ = false)

theorem GA.ext {B : Nat} {u z : Value} {i lo hi : Nat} {v : Value} {w w' : World} (h : GA B u z i lo hi v w) (e : Plan.Ext w w') : GA B u z i lo hi v w' := by
  obtain ⟨h0, h3, h8, h9⟩ := h
  refine ⟨h0, fun hi => ?_, fun hi => ?_, fun hi => ?_⟩
  · obtain ⟨g, c, rfl, r⟩ := h3 hi
    exact ⟨g, c, rfl, r.below e⟩
  · obtain ⟨g, c, rfl, r⟩ := h8 hi
    exact ⟨g, c, rfl, r.below e⟩
  · obtain ⟨rfl, h1, h2, h3, h4⟩ := h9 hi
    have := e.size
    exact ⟨rfl, by omega, h2, fun j => (e.cell (by simpa using h1)).trans (h3 j), fun o => (e.frozen (by simpa using h1)).trans (h4 o)⟩

set_option maxRecDepth 100000 in
set_option maxHeartbeats 4000000 in
theorem awake_any (w : World) : Calls Try.prog 20 #[] w fun e w' => e = .returned (.bool true) ∧ Below w.heap.size w w' := by
  go_enter Try.func20, Try.ntmps20
  go_wp2_with fail
  refine (black_yes 16 16 _ (by decide)).mono ?_
  rintro e w1 ⟨r, rfl, hf, hb1⟩
  rw [frA_black] at hf
  have hf0 := hf
  obtain ⟨y, u1, z, rfl, hy, hu1, hz⟩ := hf
  obtain ⟨p1, q1, c1, rfl, l1, X1, Z1⟩ := hy.open (by decide)
  obtain ⟨p2, q2, c2, rfl, l2, X2, Z2⟩ := hu1.open (by decide)
  obtain ⟨p3, q3, c3, rfl, l3, X3, Z3⟩ := hz.open (by decide)
  simp only [frA] at X1 X2 X3 Z1 Z2 Z3 l1 l2 l3 ⊢
  have HX := Lib.hid (And.intro X1 (And.intro X2 X3))
  have HF := Lib.hid hf0
  clear X1 X2 X3 Z1 Z2 Z3 hy hu1 hz hf0
  go_wp2_with fail
  generalize hw2 : w1.alloc _ = w2
  have hsz : w2.heap.size = w1.heap.size + 1 := by rw [← hw2]; simp
  have a0 : w2.cell? ⟨w1.heap.size, 0, none⟩ = some (.int .i64 16) := by rw [← hw2]; simp [go_sem]
  have a1 : w2.cell? ⟨w1.heap.size, 1, none⟩ = some (.int .i64 16) := by rw [← hw2]; simp [go_sem]
  have a2 : w2.cell? ⟨w1.heap.size, 2, none⟩ = some (.slice (some ⟨p1, q1, none⟩) 256 c1) := by rw [← hw2]; simp [go_sem]
  have a3 : w2.cell? ⟨w1.heap.size, 3, none⟩ = some (.slice (some ⟨p2, q2, none⟩) 64 c2) := by rw [← hw2]; simp [go_sem]
  have a4 : w2.cell? ⟨w1.heap.size, 4, none⟩ = some (.slice (some ⟨p3, q3, none⟩) 64 c3) := by rw [← hw2]; simp [go_sem]
  have az : ∀ o, w2.frozen? ⟨w1.heap.size, o, none⟩ = false := fun o => by rw [← hw2]; simp [go_sem]
  have hb2 : Below w1.heap.size w1 w2 := by rw [← hw2]; exact below_box _ _
  have HZ := Lib.hid hsz
  have HX2 := Lib.hid (And.intro (fun i (hi : i < 256) => (hb2.cell (p := ⟨p1, q1 + i, none⟩) (block_lt_of_cell (HX.out.1 i hi))).trans (HX.out.1 i hi)) (And.intro (fun i (hi : i < 64) => (hb2.cell (p := ⟨p2, q2 + i, none⟩) (block_lt_of_cell (HX.out.2.1 i hi))).trans (HX.out.2.1 i hi)) (fun i (hi : i < 64) => (hb2.cell (p := ⟨p3, q3 + i, none⟩) (block_lt_of_cell (HX.out.2.2 i hi))).trans (HX.out.2.2 i hi))))
  have W1 := Lib.hid hb1
  have B12 := Lib.hid hb2
  have n1 := Lib.hid hb1.size
  clear hw2 hsz hb1 hb2
  refine Plan.wp_region_fresh (fun w' => Below (w1.heap.size + 1) w2 w') 10 (GA (w1.heap.size + 1) (.slice (some ⟨p2, q2, none⟩) 64 c2) (.slice (some ⟨p3, q3, none⟩) 64 c3)) ([1, 2, 4, 5, 6, 7].map (·, true) ++ []) [(0, 22), (3, 25), (8, 30), (9, 3)] ([10].map (·, false)) 96 (by kernel_rfl) (by kernel_rfl) (by kernel_rfl) (Below.refl _ _).drew ?_ ?_ ?_
  · intro wa wb ha hb
    exact ha.trans (hb.mono (by have := ha.size; rw [HZ.out] at this; exact this))
  · intro i lo hi v wa wb hG hE
    exact hG.ext hE
  refine' Plan.plan_seg _ [1, 2, 4, 5, 6, 7] [] (by kernel_rfl) (by kernel_rfl) rfl (by exact (Below.refl _ _).drew) (fun wx hS => ?_) ?_
  rotate_left
  · have b2 := (hS.cell (p := ⟨w1.heap.size, 2, none⟩) (by simp)).trans a2
    have b3 := (hS.cell (p := ⟨w1.heap.size, 3, none⟩) (by simp)).trans a3
    have b4 := (hS.cell (p := ⟨w1.heap.size, 4, none⟩) (by simp)).trans a4
    clear hS
    iterate 6 (apply Plan.seg_pick; rfl; intro K hK; go_wp)
    exact Plan.seg_nil
  refine Plan.plan_nil (Plan.fresh_at rfl ?_ ?_)
  · intro p hp o ho vs wx lo hi hS hE hG K hK
    have hB : w1.heap.size + 1 ≤ wx.heap.size := by have := hS.size; rw [HZ.out] at this; exact this
    simp only [List.mem_cons, List.not_mem_nil, or_false] at hp
    rcases hp with rfl | rfl | rfl | rfl
    all_goals obtain rfl := Option.some.inj ho
    · clear hG
      go_wp2
      exact hK _ _ ⟨fun _ => ⟨_, rfl⟩, by simp, by simp, by simp⟩ (by go_grown)
    · obtain ⟨e0, he0⟩ := (hG (0, 22) (by simp) (by decide)).1 rfl
      clear hG
      refine wpList_clone2 wx rfl _ _ rfl e0 p1 q1 256 c1 (fun _ => 16) he0 rfl ?_ (by omega) (by omega) (fun g c' w' hr hE' => wpList_nil (hK _ _ ?_ hE'))
      · intro i hi
        have h := HX2.out.1 i hi
        exact (hS.cell (by have := block_lt_of_cell h; rw [HZ.out] at this; simpa using this)).trans h
      · exact ⟨by simp, fun _ => ⟨g, c', rfl, hr.mono hB⟩, by simp, by simp⟩
    · obtain ⟨g, c, he, hr⟩ := (hG (3, 25) (by simp) (by decide)).2.1 rfl
      clear hG
      simp only at he
      simp only [Plan.puts, he] at hK ⊢
      go_wp2
      exact hK _ _ ⟨by simp, by simp, fun _ => ⟨g, c, rfl, hr⟩, by simp⟩ (by go_grown)
    · clear hG
      go_wp2
      exact hK _ _ ⟨by simp, by simp, by simp, fun _ => ⟨rfl, by simp, by simp, by simp [go_sem], by simp [go_sem]⟩⟩ (by go_grown)
  · intro vs lo hi wx hS hE hG hap
    obtain ⟨⟨e0, v0⟩, _⟩ := (show _ ∧ True from ⟨(hG (0, 22) (by simp)).1.1 rfl, trivial⟩)
    obtain ⟨g0, c0, v1, _⟩ := (hG (3, 25) (by simp)).1.2.1 rfl
    obtain ⟨g, c, v2, hr⟩ := (hG (8, 30) (by simp)).1.2.2.1 rfl
    obtain ⟨v3, h1, h2, h3, h4⟩ := (hG (9, 3) (by simp)).1.2.2.2 rfl
    have hq := (hG (9, 3) (by simp)).2.1
    clear hG hap hE
    have hd : w2.drew.heap.size = w1.heap.size + 1 := HZ.out
    rw [hd] at hq
    simp only at v0 v1 v2 v3 h1 h2 h3 h4 hq
    generalize lo 9 = q at v3 h1 h2 h3 h4 hq
    clear h2
    simp only [Plan.puts, v0, v1, v2, v3]
    have hne : q ≠ g := by
      intro e
      have k1 := hr.cell 0 (by omega)
      have k2 := h3 0
      rw [e, k1] at k2
      simp at k2
    have k0 := h3 0
    have k1 := h3 1
    have k2 := h3 2
    have k3 := h3 3
    have k4 := h3 4
    simp at k0 k1 k2 k3 k4
    have ux : ∀ i : Nat, 0 ≤ i → True := fun _ _ => trivial
    clear ux
    have HR := Lib.hid hr
    have HS := Lib.hid hS
    have az' : ∀ o, wx.frozen? ⟨w1.heap.size, o, none⟩ = false := fun o => (hS.frozen (p := ⟨w1.heap.size, o, none⟩) (by simp)).trans (az o)
    clear hr hS v0 v1 v2 v3 h3 az
    refine Plan.plan_of_last rfl (fun K hK => ?_)
    go_wp2_with fail
    refine Plan.plan_done ?_
    have hr := HR.out
    have hl := hr.le
    have B4 : Below (w1.heap.size + 1) w2 (((((wx.setCell ⟨q, 0, none⟩ (.int .i64 16)).setCell ⟨q, 1, none⟩ (.int .i64 16)).setCell ⟨q, 2, none⟩ (.slice (some ⟨g, 0, none⟩) 256 c)).setCell ⟨q, 3, none⟩ (.slice (some ⟨p2, q2, none⟩) 64 c2)).setCell ⟨q, 4, none⟩ (.slice (some ⟨p3, q3, none⟩) 64 c3)) := by
      repeat (refine Below.setCell ?_ (by simpa using hq) _)
      exact HS.out
    have r4 : Row (((((wx.setCell ⟨q, 0, none⟩ (.int .i64 16)).setCell ⟨q, 1, none⟩ (.int .i64 16)).setCell ⟨q, 2, none⟩ (.slice (some ⟨g, 0, none⟩) 256 c)).setCell ⟨q, 3, none⟩ (.slice (some ⟨p2, q2, none⟩) 64 c2)).setCell ⟨q, 4, none⟩ (.slice (some ⟨p3, q3, none⟩) 64 c3)) (w1.heap.size + 1) g 256 c (fun _ => 16) := by
      repeat (refine Row.far ?_ (by simpa using hne) _)
      exact hr
    have m0 : (((((wx.setCell ⟨q, 0, none⟩ (.int .i64 16)).setCell ⟨q, 1, none⟩ (.int .i64 16)).setCell ⟨q, 2, none⟩ (.slice (some ⟨g, 0, none⟩) 256 c)).setCell ⟨q, 3, none⟩ (.slice (some ⟨p2, q2, none⟩) 64 c2)).setCell ⟨q, 4, none⟩ (.slice (some ⟨p3, q3, none⟩) 64 c3)).cell? ⟨q, 0, none⟩ = some (.int .i64 16) := by simp [go_sem, k0]
    have m1 : (((((wx.setCell ⟨q, 0, none⟩ (.int .i64 16)).setCell ⟨q, 1, none⟩ (.int .i64 16)).setCell ⟨q, 2, none⟩ (.slice (some ⟨g, 0, none⟩) 256 c)).setCell ⟨q, 3, none⟩ (.slice (some ⟨p2, q2, none⟩) 64 c2)).setCell ⟨q, 4, none⟩ (.slice (some ⟨p3, q3, none⟩) 64 c3)).cell? ⟨q, 1, none⟩ = some (.int .i64 16) := by simp [go_sem, k1]
    have m2 : (((((wx.setCell ⟨q, 0, none⟩ (.int .i64 16)).setCell ⟨q, 1, none⟩ (.int .i64 16)).setCell ⟨q, 2, none⟩ (.slice (some ⟨g, 0, none⟩) 256 c)).setCell ⟨q, 3, none⟩ (.slice (some ⟨p2, q2, none⟩) 64 c2)).setCell ⟨q, 4, none⟩ (.slice (some ⟨p3, q3, none⟩) 64 c3)).cell? ⟨q, 2, none⟩ = some (.slice (some ⟨g, 0, none⟩) 256 c) := by simp [go_sem, k2]
    have m3 : (((((wx.setCell ⟨q, 0, none⟩ (.int .i64 16)).setCell ⟨q, 1, none⟩ (.int .i64 16)).setCell ⟨q, 2, none⟩ (.slice (some ⟨g, 0, none⟩) 256 c)).setCell ⟨q, 3, none⟩ (.slice (some ⟨p2, q2, none⟩) 64 c2)).setCell ⟨q, 4, none⟩ (.slice (some ⟨p3, q3, none⟩) 64 c3)).cell? ⟨q, 3, none⟩ = some (.slice (some ⟨p2, q2, none⟩) 64 c2) := by simp [go_sem, k3]
    have m4 : (((((wx.setCell ⟨q, 0, none⟩ (.int .i64 16)).setCell ⟨q, 1, none⟩ (.int .i64 16)).setCell ⟨q, 2, none⟩ (.slice (some ⟨g, 0, none⟩) 256 c)).setCell ⟨q, 3, none⟩ (.slice (some ⟨p2, q2, none⟩) 64 c2)).setCell ⟨q, 4, none⟩ (.slice (some ⟨p3, q3, none⟩) 64 c3)).cell? ⟨q, 4, none⟩ = some (.slice (some ⟨p3, q3, none⟩) 64 c3) := by simp [go_sem, k4]
    clear hr k0 k1 k2 k3 k4 HR HS h4 az'
    generalize (((((wx.setCell ⟨q, 0, none⟩ (.int .i64 16)).setCell ⟨q, 1, none⟩ (.int .i64 16)).setCell ⟨q, 2, none⟩ (.slice (some ⟨g, 0, none⟩) 256 c)).setCell ⟨q, 3, none⟩ (.slice (some ⟨p2, q2, none⟩) 64 c2)).setCell ⟨q, 4, none⟩ (.slice (some ⟨p3, q3, none⟩) 64 c3)) = w4 at B4 r4 m0 m1 m2 m3 m4 ⊢
    replace a0 := (B4.cell (p := ⟨w1.heap.size, 0, none⟩) (by simp)).trans a0
    replace a1 := (B4.cell (p := ⟨w1.heap.size, 1, none⟩) (by simp)).trans a1
    replace a2 := (B4.cell (p := ⟨w1.heap.size, 2, none⟩) (by simp)).trans a2
    replace a3 := (B4.cell (p := ⟨w1.heap.size, 3, none⟩) (by simp)).trans a3
    replace a4 := (B4.cell (p := ⟨w1.heap.size, 4, none⟩) (by simp)).trans a4
    have zg : w4.frozen? ⟨g, 7, none⟩ = false := World.ownsRow.frozenAt r4 7
    have z4 := r4.cell 7 (by omega)
    have u1 : ¬ g = w1.heap.size := by have := r4.le; omega
    have u2 : ¬ g = q := by omega
    have u3 := r4.le
    have B5 : Below (w1.heap.size + 1) w2 (w4.setCell ⟨g, 7, none⟩ (.int .u8 235)) := B4.setCell (by simpa using u3.1) _
    have F5 : FA (w4.setCell ⟨g, 7, none⟩ (.int .u8 235)) (.agg #[.int .i64 16, .int .i64 16, .slice (some ⟨p1, q1, none⟩) 256 c1, .slice (some ⟨p2, q2, none⟩) 64 c2, .slice (some ⟨p3, q3, none⟩) 64 c3]) frA :=
      HF.out.below (B12.out.trans (B5.mono (by omega)))
    have r5 : Row (w4.setCell ⟨g, 7, none⟩ (.int .u8 235)) (w1.heap.size + 1) g 256 c (fun i => if i = 7 then 235 else 16) := r4.store 7 (by simp) (fun i _ hi => by simp [hi])
    have G5 : FA (w4.setCell ⟨g, 7, none⟩ (.int .u8 235)) (.agg #[.int .i64 16, .int .i64 16, .slice (some ⟨g, 0, none⟩) 256 c, .slice (some ⟨p2, q2, none⟩) 64 c2, .slice (some ⟨p3, q3, none⟩) 64 c3]) frB := by
      obtain ⟨y, u, z, he, _, hu, hz⟩ := F5
      simp only [Value.agg.injEq] at he
      refine ⟨_, _, _, rfl, r5.BA (fun i _ => by split <;> omega), ?_, ?_⟩
      · have := congrArg (fun a => a[3]?) he; simp at this; rw [this]; exact hu
      · have := congrArg (fun a => a[4]?) he; simp at this; rw [this]; exact hz
    have H5 := Lib.hid (And.intro B5 (And.intro F5 G5))
    have aa0 : (w4.setCell ⟨g, 7, none⟩ (.int .u8 235)).cell? ⟨w1.heap.size, 0, none⟩ = some (.int .i64 16) := by rw [World.cell?_setCell_far _ _ _ _ (by simp; omega)]; exact a0
    have aa1 : (w4.setCell ⟨g, 7, none⟩ (.int .u8 235)).cell? ⟨w1.heap.size, 1, none⟩ = some (.int .i64 16) := by rw [World.cell?_setCell_far _ _ _ _ (by simp; omega)]; exact a1
    have aa2 : (w4.setCell ⟨g, 7, none⟩ (.int .u8 235)).cell? ⟨w1.heap.size, 2, none⟩ = some (.slice (some ⟨p1, q1, none⟩) 256 c1) := by rw [World.cell?_setCell_far _ _ _ _ (by simp; omega)]; exact a2
    have aa3 : (w4.setCell ⟨g, 7, none⟩ (.int .u8 235)).cell? ⟨w1.heap.size, 3, none⟩ = some (.slice (some ⟨p2, q2, none⟩) 64 c2) := by rw [World.cell?_setCell_far _ _ _ _ (by simp; omega)]; exact a3
    have aa4 : (w4.setCell ⟨g, 7, none⟩ (.int .u8 235)).cell? ⟨w1.heap.size, 4, none⟩ = some (.slice (some ⟨p3, q3, none⟩) 64 c3) := by rw [World.cell?_setCell_far _ _ _ _ (by simp; omega)]; exact a4
    have mm0 : (w4.setCell ⟨g, 7, none⟩ (.int .u8 235)).cell? ⟨q, 0, none⟩ = some (.int .i64 16) := by rw [World.cell?_setCell_far _ _ _ _ (by simp; omega)]; exact m0
    have mm1 : (w4.setCell ⟨g, 7, none⟩ (.int .u8 235)).cell? ⟨q, 1, none⟩ = some (.int .i64 16) := by rw [World.cell?_setCell_far _ _ _ _ (by simp; omega)]; exact m1
    have mm2 : (w4.setCell ⟨g, 7, none⟩ (.int .u8 235)).cell? ⟨q, 2, none⟩ = some (.slice (some ⟨g, 0, none⟩) 256 c) := by rw [World.cell?_setCell_far _ _ _ _ (by simp; omega)]; exact m2
    have mm3 : (w4.setCell ⟨g, 7, none⟩ (.int .u8 235)).cell? ⟨q, 3, none⟩ = some (.slice (some ⟨p2, q2, none⟩) 64 c2) := by rw [World.cell?_setCell_far _ _ _ _ (by simp; omega)]; exact m3
    have mm4 : (w4.setCell ⟨g, 7, none⟩ (.int .u8 235)).cell? ⟨q, 4, none⟩ = some (.slice (some ⟨p3, q3, none⟩) 64 c3) := by rw [World.cell?_setCell_far _ _ _ _ (by simp; omega)]; exact m4
    have u4 : q < w4.heap.size := block_lt_of_cell m0
    have s5 : (w4.setCell ⟨g, 7, none⟩ (.int .u8 235)).heap.size = w4.heap.size := World.size_setCell ..
    clear B5 F5 G5 r5 B4
    go_wp2_with fail
    clear a0 a1 a2 a3 a4 m0 m1 m2 m3 m4 r4 zg z4
    have a0 := aa0
    clear aa0
    have a1 := aa1
    clear aa1
    have a2 := aa2
    clear aa2
    have a3 := aa3
    clear aa3
    have a4 := aa4
    clear aa4
    have m0 := mm0
    clear mm0
    have m1 := mm1
    clear mm1
    have m2 := mm2
    clear mm2
    have m3 := mm3
    clear mm3
    have m4 := mm4
    clear mm4
    generalize w4.setCell ⟨g, 7, none⟩ (.int .u8 235) = w5 at H5 a0 a1 a2 a3 a4 m0 m1 m2 m3 m4 s5 ⊢
    have s2 := H5.out.1.size
    have HZ2 := HZ.out
    refine (mix_yes _ _ frA frB 1 2 _ H5.out.2.1 H5.out.2.2 (by decide) (by decide)).mono ?_
    rintro e w6 ⟨r, rfl, hf, hb6⟩
    obtain ⟨y, uu, z, rfl, hy, hu, hz⟩ := hf
    obtain ⟨p4, q4, c4, rfl, l4, X4, _⟩ := hy.open (by decide)
    obtain ⟨p5, q5, c5, rfl, l5, _, _⟩ := hu.open (by decide)
    obtain ⟨p6, q6, c6, rfl, l6, _, _⟩ := hz.open (by decide)
    have y7 : w6.cell? ⟨p4, q4 + 7, none⟩ = some (.int .u8 126) := X4 7 (by decide)
    have y8 : w6.cell? ⟨p4, q4 + 8, none⟩ = some (.int .u8 16) := X4 8 (by decide)
    clear X4 hy hu hz
    have n6 := hb6.size
    replace a0 := (hb6.cell (p := ⟨w1.heap.size, 0, none⟩) (by simp; omega)).trans a0
    replace a1 := (hb6.cell (p := ⟨w1.heap.size, 1, none⟩) (by simp; omega)).trans a1
    replace a2 := (hb6.cell (p := ⟨w1.heap.size, 2, none⟩) (by simp; omega)).trans a2
    replace a3 := (hb6.cell (p := ⟨w1.heap.size, 3, none⟩) (by simp; omega)).trans a3
    replace a4 := (hb6.cell (p := ⟨w1.heap.size, 4, none⟩) (by simp; omega)).trans a4
    replace m0 := (hb6.cell (p := ⟨q, 0, none⟩) (by simp; omega)).trans m0
    replace m1 := (hb6.cell (p := ⟨q, 1, none⟩) (by simp; omega)).trans m1
    replace m2 := (hb6.cell (p := ⟨q, 2, none⟩) (by simp; omega)).trans m2
    replace m3 := (hb6.cell (p := ⟨q, 3, none⟩) (by simp; omega)).trans m3
    replace m4 := (hb6.cell (p := ⟨q, 4, none⟩) (by simp; omega)).trans m4
    have u5 : w1.heap.size < w6.heap.size := by omega
    have u6 : q < w6.heap.size := by omega
    have HB6 := Lib.hid (H5.out.1.trans (hb6.mono (by omega)))
    have HF6 := Lib.hid (And.intro (H5.out.2.1.below hb6) (H5.out.2.2.below hb6))
    clear H5 hb6
    simp only [mixFr, frA] at l4 l5 l6 ⊢
    go_wp2_with fail
    refine (wipe_yes _ _ frA frB 0 1 0 _ (HF6.out.1.below (below_box _ _)) (HF6.out.2.below (below_box _ _)) (by decide) (by decide) (by decide)).mono ?_
    rintro e w7 ⟨r, rfl, hf, hb7⟩
    have HW := Lib.hid hf
    obtain ⟨ay, cy, au, cu, av, cv, rfl⟩ := hf.shape
    clear hf
    simp only [wipeFr, frA] at HW ⊢
    have n7 := hb7.size
    simp only [World.size_alloc] at n7
    have E7 := (below_box w6 _).trans (hb7.mono (by simp))
    replace y7 := (E7.cell (block_lt_of_cell y7)).trans y7
    replace y8 := (E7.cell (block_lt_of_cell y8)).trans y8
    clear m0 m1 m2 m3 m4
    have k0 := (hb7.cell (p := ⟨w6.heap.size, 0, none⟩) (by simp)).trans (show _ = some (.int .i64 16) by simp [go_sem])
    have k1 := (hb7.cell (p := ⟨w6.heap.size, 1, none⟩) (by simp)).trans (show _ = some (.int .i64 16) by simp [go_sem])
    have k2 := (hb7.cell (p := ⟨w6.heap.size, 2, none⟩) (by simp)).trans (show _ = some (.slice (some ⟨p4, q4, none⟩) 256 c4) by simp [go_sem])
    have k3 := (hb7.cell (p := ⟨w6.heap.size, 3, none⟩) (by simp)).trans (show _ = some (.slice (some ⟨p5, q5, none⟩) 64 c5) by simp [go_sem])
    have k4 := (hb7.cell (p := ⟨w6.heap.size, 4, none⟩) (by simp)).trans (show _ = some (.slice (some ⟨p6, q6, none⟩) 64 c6) by simp [go_sem])
    replace a0 := (E7.cell (p := ⟨w1.heap.size, 0, none⟩) (by simp; omega)).trans a0
    replace a1 := (E7.cell (p := ⟨w1.heap.size, 1, none⟩) (by simp; omega)).trans a1
    replace a2 := (E7.cell (p := ⟨w1.heap.size, 2, none⟩) (by simp; omega)).trans a2
    replace a3 := (E7.cell (p := ⟨w1.heap.size, 3, none⟩) (by simp; omega)).trans a3
    replace a4 := (E7.cell (p := ⟨w1.heap.size, 4, none⟩) (by simp; omega)).trans a4
    have HB7 := Lib.hid (HB6.out.trans (E7.mono (by omega)))
    have HF7 := Lib.hid (HF6.out.1.below E7)
    clear hb7 E7 HB6 HF6
    have u7 : w1.heap.size < w7.heap.size := by omega
    have u8 : w6.heap.size < w7.heap.size := by omega
    go_wp2_with fail
    refine (eval_black 16 16 _ (by decide)).mono ?_
    rintro e w8 ⟨r, rfl, hf, hb8⟩
    rw [frA_black] at hf
    have HE := Lib.hid hf
    obtain ⟨ay2, cy2, au2, cu2, av2, cv2, rfl⟩ := hf.shape
    clear hf
    simp only [frA]
    have n8 := hb8.size
    simp only [World.size_alloc] at n8
    have E8 := (below_box w7 _).trans (hb8.mono (by simp))
    replace y7 := (E8.cell (block_lt_of_cell y7)).trans y7
    replace y8 := (E8.cell (block_lt_of_cell y8)).trans y8
    have d0 := (hb8.cell (p := ⟨w7.heap.size, 0, none⟩) (by simp)).trans (show _ = some (.int .i64 16) by simp [go_sem])
    have d1 := (hb8.cell (p := ⟨w7.heap.size, 1, none⟩) (by simp)).trans (show _ = some (.int .i64 16) by simp [go_sem])
    have d2 := (hb8.cell (p := ⟨w7.heap.size, 2, none⟩) (by simp)).trans (show _ = some (.slice ay 256 cy) by simp [go_sem])
    have d3 := (hb8.cell (p := ⟨w7.heap.size, 3, none⟩) (by simp)).trans (show _ = some (.slice au 64 cu) by simp [go_sem])
    have d4 := (hb8.cell (p := ⟨w7.heap.size, 4, none⟩) (by simp)).trans (show _ = some (.slice av 64 cv) by simp [go_sem])
    replace a0 := (E8.cell (p := ⟨w1.heap.size, 0, none⟩) (by simp; omega)).trans a0
    replace a1 := (E8.cell (p := ⟨w1.heap.size, 1, none⟩) (by simp; omega)).trans a1
    replace a2 := (E8.cell (p := ⟨w1.heap.size, 2, none⟩) (by simp; omega)).trans a2
    replace a3 := (E8.cell (p := ⟨w1.heap.size, 3, none⟩) (by simp; omega)).trans a3
    replace a4 := (E8.cell (p := ⟨w1.heap.size, 4, none⟩) (by simp; omega)).trans a4
    replace k0 := (E8.cell (p := ⟨w6.heap.size, 0, none⟩) (by simp; omega)).trans k0
    replace k1 := (E8.cell (p := ⟨w6.heap.size, 1, none⟩) (by simp; omega)).trans k1
    replace k2 := (E8.cell (p := ⟨w6.heap.size, 2, none⟩) (by simp; omega)).trans k2
    replace k3 := (E8.cell (p := ⟨w6.heap.size, 3, none⟩) (by simp; omega)).trans k3
    replace k4 := (E8.cell (p := ⟨w6.heap.size, 4, none⟩) (by simp; omega)).trans k4
    have HB8 := Lib.hid (HB7.out.trans (E8.mono (by omega)))
    have HF8 := Lib.hid (HF7.out.below E8)
    have HW8 := Lib.hid (HW.out.below E8)
    clear hb8 E8 HB7 HF7 HW
    have v7 : w1.heap.size < w8.heap.size := by omega
    have v8 : w6.heap.size < w8.heap.size := by omega
    have v9 : w7.heap.size < w8.heap.size := by omega
    have v7b : w1.heap.size < w8.heap.size + 1 := by omega
    have v7c : w1.heap.size < w8.heap.size + 1 + 1 := by omega
    have v10 := block_lt_of_cell y7
    simp only at v10
    go_wp2_with fail
    refine (same_any _ _ (wipeFr 0 1 0 frA frB) frA _ (HW8.out.below (below_box _ _)) (HF8.out.below (below_box _ _))).mono ?_
    rintro e w9 ⟨rfl, rfl⟩
    rw [same_wipe]
    go_wp2_with fail
    refine (same_any _ _ frA frA _ (HE.out.below (by go_grown)) (HF8.out.below (by go_grown))).mono ?_
    rintro e w9 ⟨rfl, rfl⟩
    rw [same_frA]
    go_wp2_with fail
    refine (glyph_low 73 _ (by decide) (by decide) (by decide)).mono ?_
    rintro e w10 ⟨rfl, hb10⟩
    rw [glyph_73]
    have heq := eq_73
    go_wp2_with fail
    go_ret
    refine ⟨rfl, W1.out.trans (Below.mono (B := w1.heap.size) ?_ n1.out)⟩
    have P5 : ∀ o1 o2 o3 o4 o5, Below w8.heap.size w8 (((((w8.alloc o1).alloc o2).alloc o3).alloc o4).alloc o5) := fun _ _ _ _ _ => by go_grown
    have Z1 : Below w8.heap.size w8 w10 := (P5 _ _ _ _ _).trans (hb10.mono (by simp; omega))
    exact (B12.out.trans (HB8.out.mono (by omega))).trans (Z1.mono (by omega))
end Go.Proofs.Ytnnobdcbmagbaaa
