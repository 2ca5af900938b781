/- Texts of this claim joined: TB TC P. -/
import Derived.Test.YtnnobdcbmagbaaaEv00
import Derived.Test.YtnnobdcbmagbaaaEv01
set_option linter.unusedVariables false
set_option linter.unusedSimpArgs false

/- The contract of the tape's Image: some frame of that size in rows of its own; the tape's place moves on. -/
namespace Go.Proofs.Ytnnobdcbmagbaaa
open Go.RowKit

/-- Block g is a row of n bytes. -/
def BR (w : World) (B g n : Nat) : Prop := ∃ F : Nat → Int, Row w B g n n F ∧ ∀ i, i < n → 0 ≤ F i ∧ F i < 256
theorem BR.cell {w : World} {B g n : Nat} (h : BR w B g n) (j : Nat) (hj : j < n) : ∃ x, w.cell? ⟨g, j, none⟩ = some (.int .u8 x) ∧ w.frozen? ⟨g, j, none⟩ = false := by
  obtain ⟨F, r, _⟩ := h
  exact ⟨F j, r.cell j hj, World.ownsRow.frozenAt r j⟩
theorem BR.store {w : World} {B g n : Nat} (h : BR w B g n) (j : Nat) {u : Int} (h0 : 0 ≤ u) (h1 : u < 256) : BR (w.setCell ⟨g, j, none⟩ (.int .u8 u)) B g n := by
  obtain ⟨F, r, hb⟩ := h
  refine ⟨fun i => if i = j then u else F i, r.store j (by simp) (fun i _ hij => by simp [hij]), fun i hi => ?_⟩
  by_cases e : i = j
  · simp [e]; omega
  · simp [e]; exact hb i hi
theorem BR.far {w : World} {B g n : Nat} (h : BR w B g n) {a : Addr} (ha : a.block ≠ g) (u : Value) : BR (w.setCell a u) B g n := by
  obtain ⟨F, r, hb⟩ := h
  exact ⟨F, r.far ha u, hb⟩
theorem BR.only {w w' : World} {B g n g' : Nat} (h : BR w B g n) (hg : w.grownBy w' (some g')) (hne : g ≠ g') : BR w' B g n := by
  obtain ⟨F, r, hb⟩ := h
  exact ⟨F, only_row hg r hne, hb⟩
theorem BR.drew {w : World} {B g n : Nat} (h : BR w B g n) : BR w.drew B g n := by
  obtain ⟨F, r, hb⟩ := h
  exact ⟨F, r.below (Below.refl _ _).drew, hb⟩
theorem BR.le {w : World} {B g n : Nat} (h : BR w B g n) : B ≤ g ∧ g < w.heap.size := by
  obtain ⟨F, r, _⟩ := h
  exact ⟨r.le.1, r.le.2.1⟩
theorem only_trans {a b c : World} {g : Nat} (h : a.grownBy b (some g)) (k : b.grownBy c (some g)) : a.grownBy c (some g) :=
  ⟨k.os.trans h.os, k.tape.trans h.tape, k.output.trans h.output, Nat.le_trans h.size k.size, fun i hi hne => (k.block i (Nat.lt_of_lt_of_le hi h.size) hne).trans (h.block i hi hne)⟩
theorem only_far {w w' : World} {r : Option Nat} (h : w.grownBy w' r) {a : Addr} (ha : w.heap.size ≤ a.block) (u : Value) : w.grownBy (w'.setCell a u) r :=
  ⟨h.os, h.tape, h.output, by rw [World.size_setCell]; exact h.size, fun k hk hne => by rw [Below.heap_setCell _ _ _ _ (by omega)]; exact h.block k hk hne⟩
theorem only_of_below {w w' : World} {r : Option Nat} (h : Below w.heap.size w w') : w.grownBy w' r := ⟨h.os, h.tape, h.output, h.size, fun k hk _ => h.block k hk⟩

theorem TP.far {w : World} {B p k : Nat} (h : TP w B p k) {a : Addr} (h1 : a.block ≠ p) (h2 : B ≤ a.block) (u : Value) : TP (w.setCell a u) B p k := by
  obtain ⟨hB, hs, ao, m, c, c0, c1, hf, hmc, hm, hx⟩ := h
  have hh := fun b (hb : b ≠ a.block) => Below.heap_setCell w a u b hb
  refine ⟨hB, by rw [World.size_setCell]; exact hs, ao, m, c, (World.cell?_of_block (hh p (Ne.symm h1))).trans c0, (World.cell?_of_block (hh p (Ne.symm h1))).trans c1, (World.frozen?_of_block (hh p (Ne.symm h1))).trans hf, hmc, hm, fun i hi => ?_⟩
  obtain ⟨b, o, x, e, hb, hc⟩ := hx i hi
  exact ⟨b, o, x, e, hb, (World.cell?_of_block (hh b (by omega))).trans hc⟩
theorem TP.drew {w : World} {B p k : Nat} (h : TP w B p k) : TP w.drew B p k := h
theorem TP.below {w w' : World} {B p k : Nat} (h : TP w B p k) (hb : Below w.heap.size w w') : TP w' B p k := by
  obtain ⟨hB, hs, ao, m, c, c0, c1, hf, hmc, hm, hx⟩ := h
  refine ⟨hB, Nat.lt_of_lt_of_le hs hb.size, ao, m, c, (hb.cell hs).trans c0, (hb.cell hs).trans c1, (hb.frozen hs).trans hf, hmc, hm, fun i hi => ?_⟩
  obtain ⟨b, o, x, e, hb', hc⟩ := hx i hi
  exact ⟨b, o, x, e, hb', (hb.cell (p := ⟨b, o + i, none⟩) (Nat.lt_trans hb' (Nat.lt_of_le_of_lt hB hs))).trans hc⟩

/-- The state of Image: the frame's block, its rows, the tape, the result's block. -/
structure IS (w w' : World) (B p k g0 g1 g2 g3 n1 n2 : Nat) (W H : Int) : Prop where
  grow : w.grownBy w' (some p)
  tape : TP w' B p k
  c0 : w'.cell? ⟨g0, 0, none⟩ = some (.int .i64 W)
  c1 : w'.cell? ⟨g0, 1, none⟩ = some (.int .i64 H)
  c2 : w'.cell? ⟨g0, 2, none⟩ = some (.slice (some ⟨g1, 0, none⟩) n1 n1)
  c3 : w'.cell? ⟨g0, 3, none⟩ = some (.slice (some ⟨g2, 0, none⟩) n2 n2)
  c4 : w'.cell? ⟨g0, 4, none⟩ = some (.slice (some ⟨g3, 0, none⟩) n2 n2)
  r1 : BR w' w.heap.size g1 n1
  r2 : BR w' w.heap.size g2 n2
  r3 : BR w' w.heap.size g3 n2
  e0 : w'.cell? ⟨w.heap.size, 0, none⟩ = some (.int .i64 0)
  e1 : w'.cell? ⟨w.heap.size, 1, none⟩ = some (.int .i64 0)
  e2 : w'.cell? ⟨w.heap.size, 2, none⟩ = some (.slice none 0 0)
  e3 : w'.cell? ⟨w.heap.size, 3, none⟩ = some (.slice none 0 0)
  e4 : w'.cell? ⟨w.heap.size, 4, none⟩ = some (.slice none 0 0)
  ez : ∀ o, w'.frozen? ⟨w.heap.size, o, none⟩ = false
  sz : w.heap.size < w'.heap.size
  hp : p < w.heap.size
  h0 : w.heap.size < g0
  h1 : w.heap.size < g1
  h2 : w.heap.size < g2
  h3 : w.heap.size < g3
  d01 : g0 ≠ g1
  d02 : g0 ≠ g2
  d03 : g0 ≠ g3
  d12 : g1 ≠ g2
  d13 : g1 ≠ g3
  d23 : g2 ≠ g3

section
variable {w w' w2 : World} {B p k g0 g1 g2 g3 n1 n2 : Nat} {W H : Int}
theorem IS.drew (h : IS w w' B p k g0 g1 g2 g3 n1 n2 W H) : IS w w'.drew B p k g0 g1 g2 g3 n1 n2 W H :=
  { h with grow := only_drew h.grow, tape := h.tape.drew, r1 := h.r1.drew, r2 := h.r2.drew, r3 := h.r3.drew }
theorem IS.only (h : IS w w' B p k g0 g1 g2 g3 n1 n2 W H) {k' : Nat} (hg : w'.grownBy w2 (some p)) (ht : TP w2 B p k') : IS w w2 B p k' g0 g1 g2 g3 n1 n2 W H := by
  obtain ⟨grow, tape, c0, c1, c2, c3, c4, r1, r2, r3, e0, e1, e2, e3, e4, ez, sz, hp, h0, h1, h2, h3, d01, d02, d03, d12, d13, d23⟩ := h
  exact ⟨only_trans grow hg, ht, only_cell hg c0 (by omega), only_cell hg c1 (by omega), only_cell hg c2 (by omega), only_cell hg c3 (by omega), only_cell hg c4 (by omega), r1.only hg (by omega), r2.only hg (by omega), r3.only hg (by omega),
    only_cell hg e0 (by omega), only_cell hg e1 (by omega), only_cell hg e2 (by omega), only_cell hg e3 (by omega), only_cell hg e4 (by omega), fun o => only_frozen hg sz (ez o) (by omega), Nat.lt_of_lt_of_le sz hg.size, hp, h0, h1, h2, h3, d01, d02, d03, d12, d13, d23⟩
theorem IS.far (h : IS w w' B p k g0 g1 g2 g3 n1 n2 W H) {g j : Nat} {u : Int} (hg : g = g1 ∨ g = g2 ∨ g = g3) (u0 : 0 ≤ u) (u1 : u < 256) :
    IS w (w'.setCell ⟨g, j, none⟩ (.int .u8 u)) B p k g0 g1 g2 g3 n1 n2 W H := by
  obtain ⟨grow, tape, c0, c1, c2, c3, c4, r1, r2, r3, e0, e1, e2, e3, e4, ez, sz, hp, h0, h1, h2, h3, d01, d02, d03, d12, d13, d23⟩ := h
  have hgN : w.heap.size < g := by omega
  have hg0 : g0 ≠ g := by omega
  have hh := fun b (hb : b ≠ g) => Below.heap_setCell w' ⟨g, j, none⟩ (.int .u8 u) b hb
  have cc := fun b (hb : b ≠ g) o => World.cell?_of_block (a := ⟨b, o, none⟩) (hh b hb)
  have ff := fun b (hb : b ≠ g) o => World.frozen?_of_block (a := ⟨b, o, none⟩) (hh b hb)
  refine ⟨only_far grow (by simp; omega) _, tape.far (by simp; omega) (by have := tape.1; simp; omega) _, (cc _ hg0 _).trans c0, (cc _ hg0 _).trans c1, (cc _ hg0 _).trans c2, (cc _ hg0 _).trans c3, (cc _ hg0 _).trans c4, ?_, ?_, ?_,
    (cc _ (by omega) _).trans e0, (cc _ (by omega) _).trans e1, (cc _ (by omega) _).trans e2, (cc _ (by omega) _).trans e3, (cc _ (by omega) _).trans e4, fun o => (ff _ (by omega) o).trans (ez o), by rw [World.size_setCell]; exact sz, hp, h0, h1, h2, h3, d01, d02, d03, d12, d13, d23⟩
  · by_cases e : g = g1
    · subst e; exact r1.store j u0 u1
    · exact r1.far e _
  · by_cases e : g = g2
    · subst e; exact r2.store j u0 u1
    · exact r2.far e _
  · by_cases e : g = g3
    · subst e; exact r3.store j u0 u1
    · exact r3.far e _
end

theorem IS.start {w wx : World} {B p k q g1 g2 g3 n1 n2 : Nat} {W H : Int} (hB : Below w.heap.size w wx) (ht : TP w B p k) (r1 : Row wx w.heap.size g1 n1 n1 (fun _ => 0)) (r2 : Row wx w.heap.size g2 n2 n2 (fun _ => 0)) (r3 : Row wx w.heap.size g3 n2 n2 (fun _ => 0))
    (m : wx.cell? ⟨w.heap.size, 0, none⟩ = some (.int .i64 0) ∧ wx.cell? ⟨w.heap.size, 1, none⟩ = some (.int .i64 0) ∧ wx.cell? ⟨w.heap.size, 2, none⟩ = some (.slice none 0 0) ∧ wx.cell? ⟨w.heap.size, 3, none⟩ = some (.slice none 0 0) ∧ wx.cell? ⟨w.heap.size, 4, none⟩ = some (.slice none 0 0) ∧ ∀ o, wx.frozen? ⟨w.heap.size, o, none⟩ = false)
    (z0 : wx.cell? ⟨q, 0, none⟩ = some (.int .i64 0)) (z1 : wx.cell? ⟨q, 1, none⟩ = some (.int .i64 0)) (z2 : wx.cell? ⟨q, 2, none⟩ = some (.slice none 0 0)) (z3 : wx.cell? ⟨q, 3, none⟩ = some (.slice none 0 0)) (z4 : wx.cell? ⟨q, 4, none⟩ = some (.slice none 0 0))
    (hq : w.heap.size < q) (a1 : q ≠ g1) (a2 : q ≠ g2) (a3 : q ≠ g3) (a4 : w.heap.size ≠ g1) (a5 : w.heap.size ≠ g2) (a6 : w.heap.size ≠ g3) (d12 : g1 ≠ g2) (d13 : g1 ≠ g3) (d23 : g2 ≠ g3) (v1 v2 v3 : Value) (e1 : v1 = .slice (some ⟨g1, 0, none⟩) n1 n1) (e2 : v2 = .slice (some ⟨g2, 0, none⟩) n2 n2) (e3 : v3 = .slice (some ⟨g3, 0, none⟩) n2 n2) :
    IS w (((((wx.setCell ⟨q, 0, none⟩ (.int .i64 W)).setCell ⟨q, 1, none⟩ (.int .i64 H)).setCell ⟨q, 2, none⟩ v1).setCell ⟨q, 3, none⟩ v2).setCell ⟨q, 4, none⟩ v3) B p k q g1 g2 g3 n1 n2 W H := by
  obtain ⟨m0, m1, m2, m3, m4, mz⟩ := m
  have hp := ht.2.1
  have hqx : q < wx.heap.size := block_lt_of_cell z0
  have B5 : Below w.heap.size w (((((wx.setCell ⟨q, 0, none⟩ (.int .i64 W)).setCell ⟨q, 1, none⟩ (.int .i64 H)).setCell ⟨q, 2, none⟩ v1).setCell ⟨q, 3, none⟩ v2).setCell ⟨q, 4, none⟩ v3) :=
    ((((hB.setCell (by simp; omega) _).setCell (by simp; omega) _).setCell (by simp; omega) _).setCell (by simp; omega) _).setCell (by simp; omega) _
  have hh := fun b (hb : b ≠ q) => (Below.heap_setCell ((((wx.setCell ⟨q, 0, none⟩ (.int .i64 W)).setCell ⟨q, 1, none⟩ (.int .i64 H)).setCell ⟨q, 2, none⟩ v1).setCell ⟨q, 3, none⟩ v2) ⟨q, 4, none⟩ v3 b hb).trans
    ((Below.heap_setCell (((wx.setCell ⟨q, 0, none⟩ (.int .i64 W)).setCell ⟨q, 1, none⟩ (.int .i64 H)).setCell ⟨q, 2, none⟩ v1) ⟨q, 3, none⟩ v2 b hb).trans ((Below.heap_setCell ((wx.setCell ⟨q, 0, none⟩ (.int .i64 W)).setCell ⟨q, 1, none⟩ (.int .i64 H)) ⟨q, 2, none⟩ v1 b hb).trans
    ((Below.heap_setCell (wx.setCell ⟨q, 0, none⟩ (.int .i64 W)) ⟨q, 1, none⟩ (.int .i64 H) b hb).trans (Below.heap_setCell wx ⟨q, 0, none⟩ (.int .i64 W) b hb))))
  have zf := fun o => World.frozen?_of_block (a := ⟨w.heap.size, o, none⟩) (hh w.heap.size (by omega))
  have zc := fun o => World.cell?_of_block (a := ⟨w.heap.size, o, none⟩) (hh w.heap.size (by omega))
  subst e1 e2 e3
  exact ⟨only_of_below B5, ht.below B5, by simp [go_sem, z0], by simp [go_sem, z1], by simp [go_sem, z2], by simp [go_sem, z3], by simp [go_sem, z4],
    ⟨_, ((((r1.far (by simp; omega) _).far (by simp; omega) _).far (by simp; omega) _).far (by simp; omega) _).far (by simp; omega) _, fun i _ => by simp⟩,
    ⟨_, ((((r2.far (by simp; omega) _).far (by simp; omega) _).far (by simp; omega) _).far (by simp; omega) _).far (by simp; omega) _, fun i _ => by simp⟩,
    ⟨_, ((((r3.far (by simp; omega) _).far (by simp; omega) _).far (by simp; omega) _).far (by simp; omega) _).far (by simp; omega) _, fun i _ => by simp⟩,
    (zc 0).trans m0, (zc 1).trans m1, (zc 2).trans m2, (zc 3).trans m3, (zc 4).trans m4, fun o => (zf o).trans (mz o), by simp only [World.size_setCell]; omega, hp, hq, by have := r1.le.1; omega, by have := r2.le.1; omega, by have := r3.le.1; omega, a1, a2, a3, d12, d13, d23⟩

/-- The frame stands in rows of its own, from B on. -/
def OwnFr (w : World) (B : Nat) (v : Value) (F : Fr) : Prop := ∃ g1 g2 g3, v = .agg #[.int .i64 F.W, .int .i64 F.H, .slice (some ⟨g1, 0, none⟩) F.nY F.nY, .slice (some ⟨g2, 0, none⟩) F.nU F.nU, .slice (some ⟨g3, 0, none⟩) F.nV F.nV] ∧
  Row w B g1 F.nY F.nY F.Y ∧ Row w B g2 F.nU F.nU F.U ∧ Row w B g3 F.nV F.nV F.V ∧ (∀ i, i < F.nY → 0 ≤ F.Y i ∧ F.Y i < 256) ∧ (∀ i, i < F.nU → 0 ≤ F.U i ∧ F.U i < 256) ∧ (∀ i, i < F.nV → 0 ≤ F.V i ∧ F.V i < 256) ∧ g1 ≠ g2 ∧ g1 ≠ g3 ∧ g2 ≠ g3

theorem OwnFr.FA {w : World} {B : Nat} {v : Value} {F : Fr} (h : OwnFr w B v F) : FA w v F := by
  obtain ⟨g1, g2, g3, rfl, r1, r2, r3, b1, b2, b3, _⟩ := h
  exact ⟨_, _, _, rfl, r1.BA b1, r2.BA b2, r3.BA b3⟩

def ImgPost (w : World) (B p k : Nat) (W H : Int) (e : Ending) (w' : World) : Prop :=
  ∃ v F k', e = .returned v ∧ OwnFr w' w.heap.size v F ∧ F.ok = true ∧ F.W = W ∧ F.H = H ∧ TP w' B p k' ∧ k' ≤ k + 12 ∧ w.grownBy w' (some p)

theorem IS.post {w w' : World} {B p k k' g0 g1 g2 g3 : Nat} {W H : Int} (h : IS w w' B p k' g0 g1 g2 g3 (W * H).toNat (W * H / 4).toNat W H) (hs : okSize W H = true) (hk : k' ≤ k + 12) (c0 c1 c2 c3 c4 : Value) :
    ImgPost w B p k W H (.returned (.agg #[.int .i64 W, .int .i64 H, .slice (some ⟨g1, 0, none⟩) (W * H).toNat (W * H).toNat, .slice (some ⟨g2, 0, none⟩) (W * H / 4).toNat (W * H / 4).toNat, .slice (some ⟨g3, 0, none⟩) (W * H / 4).toNat (W * H / 4).toNat]))
      (((((w'.setCell ⟨w.heap.size, 0, none⟩ c0).setCell ⟨w.heap.size, 1, none⟩ c1).setCell ⟨w.heap.size, 2, none⟩ c2).setCell ⟨w.heap.size, 3, none⟩ c3).setCell ⟨w.heap.size, 4, none⟩ c4) := by
  obtain ⟨F1, r1, b1⟩ := h.r1
  obtain ⟨F2, r2, b2⟩ := h.r2
  obtain ⟨F3, r3, b3⟩ := h.r3
  have x1 := h.h1
  have x2 := h.h2
  have x3 := h.h3
  have hp := h.hp
  have hB := h.tape.1
  refine ⟨_, ⟨W, H, _, _, _, F1, F2, F3⟩, k', rfl, ⟨g1, g2, g3, rfl, ((((r1.far (by simp; omega) _).far (by simp; omega) _).far (by simp; omega) _).far (by simp; omega) _).far (by simp; omega) _,
    ((((r2.far (by simp; omega) _).far (by simp; omega) _).far (by simp; omega) _).far (by simp; omega) _).far (by simp; omega) _, ((((r3.far (by simp; omega) _).far (by simp; omega) _).far (by simp; omega) _).far (by simp; omega) _).far (by simp; omega) _, b1, b2, b3, h.d12, h.d13, h.d23⟩, ?_, rfl, rfl,
    ((((h.tape.far (by simp; omega) (by simp; omega) _).far (by simp; omega) (by simp; omega) _).far (by simp; omega) (by simp; omega) _).far (by simp; omega) (by simp; omega) _).far (by simp; omega) (by simp; omega) _, hk,
    only_far (only_far (only_far (only_far (only_far h.grow (by simp) _) (by simp) _) (by simp) _) (by simp) _) (by simp) _⟩
  have q := quarter hs
  obtain ⟨b1, b2, b3, b4, b5, b6, b7, b8⟩ := okSize_bd hs
  have z : 0 ≤ W * H / 4 := by omega
  have e1 : ((W * H).toNat : Int) = W * H := by omega
  have e2 : ((W * H / 4).toNat : Int) = W / 2 * (H / 2) := by omega
  simp only [Fr.ok, hs, Bool.true_and, Bool.and_eq_true, decide_eq_true_eq]
  exact ⟨⟨e1, e2⟩, e2⟩

/-- What each fresh operation of the first region makes. -/
def GI (B n1 n2 : Nat) (W H : Int) (i lo hi : Nat) (v : Value) (w : World) : Prop :=
  (i = 5 → Made B n1 lo hi v w) ∧ (i = 10 → Made B n2 lo hi v w) ∧ (i = 15 → Made B n2 lo hi v w) ∧
  (i = 16 → ∃ g1 g2 g3, v = .agg #[.int .i64 W, .int .i64 H, .slice (some ⟨g1, 0, none⟩) n1 n1, .slice (some ⟨g2, 0, none⟩) n2 n2, .slice (some ⟨g3, 0, none⟩) n2 n2] ∧
    Row w B g1 n1 n1 (fun _ => 0) ∧ Row w B g2 n2 n2 (fun _ => 0) ∧ Row w B g3 n2 n2 (fun _ => 0) ∧ g1 ≠ g2 ∧ g1 ≠ g3 ∧ g2 ≠ g3) ∧
  (i = 17 → v = .pointer (some ⟨lo, 0, none⟩) ∧ lo < w.heap.size ∧ lo < hi ∧ (∀ j, w.cell? ⟨lo, j, none⟩ = (#[Value.int .i64 0, .int .i64 0, .slice none 0 0, .slice none 0 0, .slice none 0 0] : Array Value)[j]?) ∧ ∀ o, w.frozen? ⟨lo, o, none⟩ = false)
theorem GI.ext {B n1 n2 i lo hi : Nat} {W H : Int} {v : Value} {w w' : World} (h : GI B n1 n2 W H i lo hi v w) (e : Plan.Ext w w') : GI B n1 n2 W H i lo hi v w' := by
  obtain ⟨h1, h2, h3, h5, h4⟩ := h
  refine ⟨fun hi => (h1 hi).ext e, fun hi => (h2 hi).ext e, fun hi => (h3 hi).ext e, fun hi => ?_, fun hi => ?_⟩
  · obtain ⟨g1, g2, g3, rfl, r1, r2, r3, d⟩ := h5 hi
    exact ⟨g1, g2, g3, rfl, r1.below e, r2.below e, r3.below e, d⟩
  · obtain ⟨rfl, h1, h2, h3, h4⟩ := h4 hi
    have := e.size
    exact ⟨rfl, by omega, h2, fun j => (e.cell (by simpa using h1)).trans (h3 j), fun o => (e.frozen (by simpa using h1)).trans (h4 o)⟩

set_option maxRecDepth 100000 in
set_option maxHeartbeats 4000000 in
theorem image_any (B p k : Nat) (W H : Int) (w : World) (ht : TP w B p k) (hk : k < 900000) (hs : okSize W H = true) :
    Calls Try.prog 69 #[.pointer (some ⟨p, 0, none⟩), .int .i64 W, .int .i64 H] w (ImgPost w B p k W H) := by
  obtain ⟨b1, b2, b3, b4, b5, b6, b7, b8⟩ := okSize_bd hs
  have q1 := IntWalk.i64_in (W * H) (by omega)
  have q2 := IntWalk.i64_in (W * H / 4) (by omega)
  have q3 : 0 ≤ W * H := by omega
  have HS := Lib.hid hs
  clear hs
  obtain ⟨w0, hw0⟩ : ∃ w0, w0 = w.alloc (.cells #[.int .i64 0, .int .i64 0, .slice none 0 0, .slice none 0 0, .slice none 0 0] 26) := ⟨_, rfl⟩
  have hsz : w0.heap.size = w.heap.size + 1 := by rw [hw0]; simp
  have k0 : w0.cell? ⟨w.heap.size, 0, none⟩ = some (.int .i64 0) := by rw [hw0]; simp [go_sem]
  have k1 : w0.cell? ⟨w.heap.size, 1, none⟩ = some (.int .i64 0) := by rw [hw0]; simp [go_sem]
  have k2 : w0.cell? ⟨w.heap.size, 2, none⟩ = some (.slice none 0 0) := by rw [hw0]; simp [go_sem]
  have k3 : w0.cell? ⟨w.heap.size, 3, none⟩ = some (.slice none 0 0) := by rw [hw0]; simp [go_sem]
  have k4 : w0.cell? ⟨w.heap.size, 4, none⟩ = some (.slice none 0 0) := by rw [hw0]; simp [go_sem]
  have kz : ∀ o, w0.frozen? ⟨w.heap.size, o, none⟩ = false := fun o => by rw [hw0]; simp [go_sem]
  have hb0 : Below w.heap.size w w0 := by rw [hw0]; exact below_box _ _
  have HW := Lib.hid hw0
  have HZ := Lib.hid hsz
  have HT := Lib.hid ht
  clear hw0 hsz ht
  go_enter Try.func69, Try.ntmps69
  go_wp2_with fail
  rw [← HW.out]
  refine Plan.wp_region_fresh2 (fun w' => Below (w.heap.size + 1) w0 w') 18 (GI w.heap.size (W * H).toNat (W * H / 4).toNat W H) ([0, 1, 2, 3, 4, 6, 7, 8, 9, 11, 12, 13, 14].map (·, true) ++ []) [(5, 19), (10, 24), (15, 29), (16, 30), (17, 7)] ([18].map (·, false)) 113 (by kernel_rfl) (by kernel_rfl) (by kernel_rfl) (Below.refl _ _).drew ?_ ?_ ?_
  · intro wa wb ha hb
    exact ha.trans (hb.mono (by have := ha.size; rw [HZ.out] at this; exact this))
  · intro i lo hi v wa wb hG hE
    exact hG.ext hE
  refine' Plan.plan_seg _ [0, 1, 2, 3, 4, 6, 7, 8, 9, 11, 12, 13, 14] [] (by kernel_rfl) (by kernel_rfl) rfl (by exact (Below.refl _ _).drew) (fun wx hS => ?_) ?_
  rotate_left
  · clear hS
    iterate 13 (apply Plan.seg_pick; rfl; intro K hK; go_wp)
    exact Plan.seg_nil
  refine Plan.plan_nil (Plan.fresh_at2 rfl ?_ ?_)
  · intro p hp o ho vs wx lo hi hS hE hG hap K hK
    have hB : w.heap.size ≤ wx.heap.size := by have := hS.size; rw [HZ.out] at this; omega
    simp only [List.mem_cons, List.not_mem_nil, or_false] at hp
    rcases hp with rfl | rfl | rfl | rfl | rfl
    all_goals obtain rfl := Option.some.inj ho
    · refine wpList_made wx rfl _ _ rfl w.heap.size (W * H) ?_ ?_ (by kernel_rfl) (by kernel_rfl) hB (fun v w' hG hE' => wpList_nil (hK v w' ⟨fun _ => hG, (fun h => absurd h (by decide)), (fun h => absurd h (by decide)), (fun h => absurd h (by decide)), (fun h => absurd h (by decide))⟩ hE'))
      · omega
      · omega
    · refine wpList_made wx rfl _ _ rfl w.heap.size (W * H / 4) ?_ ?_ (by kernel_rfl) (by kernel_rfl) hB (fun v w' hG hE' => wpList_nil (hK v w' ⟨(fun h => absurd h (by decide)), fun _ => hG, (fun h => absurd h (by decide)), (fun h => absurd h (by decide)), (fun h => absurd h (by decide))⟩ hE'))
      · omega
      · omega
    · refine wpList_made wx rfl _ _ rfl w.heap.size (W * H / 4) ?_ ?_ (by kernel_rfl) (by kernel_rfl) hB (fun v w' hG hE' => wpList_nil (hK v w' ⟨(fun h => absurd h (by decide)), (fun h => absurd h (by decide)), fun _ => hG, (fun h => absurd h (by decide)), (fun h => absurd h (by decide))⟩ hE'))
      · omega
      · omega
    · obtain ⟨hG1, _⟩ := hG (5, 19) (by simp) (by decide)
      obtain ⟨_, hG2, _⟩ := hG (10, 24) (by simp) (by decide)
      obtain ⟨_, _, hG3, _⟩ := hG (15, 29) (by simp) (by decide)
      obtain ⟨g1, v1, r1, x1, y1⟩ := hG1 rfl
      obtain ⟨g2, v2, r2, x2, y2⟩ := hG2 rfl
      obtain ⟨g3, v3, r3, x3, y3⟩ := hG3 rfl
      have p1 := hap (5, 19) (by simp) (10, 24) (by simp) (by decide) (by decide) (by decide)
      have p2 := hap (5, 19) (by simp) (15, 29) (by simp) (by decide) (by decide) (by decide)
      have p3 := hap (10, 24) (by simp) (15, 29) (by simp) (by decide) (by decide) (by decide)
      simp only at p1 p2 p3 v1 v2 v3 x1 x2 x3 y1 y2 y3
      have hR := Lib.hid (show Row wx w.heap.size g1 _ _ _ ∧ Row wx w.heap.size g2 _ _ _ ∧ Row wx w.heap.size g3 _ _ _ ∧ g1 ≠ g2 ∧ g1 ≠ g3 ∧ g2 ≠ g3 from ⟨r1, r2, r3, by omega, by omega, by omega⟩)
      clear hG hap r1 r2 r3 x1 x2 x3 y1 y2 y3 p1 p2 p3 hG1 hG2 hG3
      have hE0 := Plan.Ext.refl wx
      simp only [Plan.puts, v1, v2, v3] at hK ⊢
      go_wp2
      exact hK _ _ ⟨(fun h => absurd h (by decide)), (fun h => absurd h (by decide)), (fun h => absurd h (by decide)), fun _ => ⟨g1, g2, g3, rfl, hR.out⟩, (fun h => absurd h (by decide))⟩ hE0
    · clear hG
      go_wp2
      exact hK _ _ ⟨(fun h => absurd h (by decide)), (fun h => absurd h (by decide)), (fun h => absurd h (by decide)), (fun h => absurd h (by decide)), fun _ => ⟨rfl, by simp, by simp, by simp [go_sem], by simp [go_sem]⟩⟩ (by go_grown)
  · intro vs lo hi wx hS hE hG hap
    obtain ⟨⟨_, _, _, hG3, _⟩, q9, q9'⟩ := hG (16, 30) (by simp)
    obtain ⟨⟨_, _, _, _, hG4⟩, q10, q10'⟩ := hG (17, 7) (by simp)
    obtain ⟨g1, g2, g3, v3, r1, r2, r3, d12, d13, d23⟩ := hG3 rfl
    obtain ⟨v4, x4, y4, z4, f4⟩ := hG4 rfl
    have hd : w0.drew.heap.size = w.heap.size + 1 := HZ.out
    rw [hd] at q9 q10
    simp only at q9 q10 q9' q10' v3 v4 x4 y4 z4 f4
    simp only [Plan.puts, v3, v4]
    generalize lo 17 = q at v4 x4 y4 z4 f4 q10
    have hsz := hS.size
    rw [HZ.out] at hsz
    have m0 := (hS.cell (p := ⟨w.heap.size, 0, none⟩) (by simp)).trans k0
    have m1 := (hS.cell (p := ⟨w.heap.size, 1, none⟩) (by simp)).trans k1
    have m2 := (hS.cell (p := ⟨w.heap.size, 2, none⟩) (by simp)).trans k2
    have m3 := (hS.cell (p := ⟨w.heap.size, 3, none⟩) (by simp)).trans k3
    have m4 := (hS.cell (p := ⟨w.heap.size, 4, none⟩) (by simp)).trans k4
    have mz := fun o => (hS.frozen (p := ⟨w.heap.size, o, none⟩) (by simp)).trans (kz o)
    have z0 : wx.cell? ⟨q, 0, none⟩ = some (.int .i64 0) := (z4 0).trans rfl
    have z1 : wx.cell? ⟨q, 1, none⟩ = some (.int .i64 0) := (z4 1).trans rfl
    have z2 : wx.cell? ⟨q, 2, none⟩ = some (.slice none 0 0) := (z4 2).trans rfl
    have z3 : wx.cell? ⟨q, 3, none⟩ = some (.slice none 0 0) := (z4 3).trans rfl
    have z5 : wx.cell? ⟨q, 4, none⟩ = some (.slice none 0 0) := (z4 4).trans rfl
    have apart : ∀ (b g : Nat) (F : Nat → Int) (n : Nat), wx.cell? ⟨b, 0, none⟩ = some (.int .i64 0) → Row wx w.heap.size g n n F → 0 < n → b ≠ g := by
      intro b g F n hb hr hn e
      have := hr.cell 0 hn
      rw [← e, hb] at this
      simp at this
    have a1 := apart q g1 _ _ z0 r1 (by omega)
    have a2 := apart q g2 _ _ z0 r2 (by omega)
    have a3 := apart q g3 _ _ z0 r3 (by omega)
    have a4 := apart _ g1 _ _ m0 r1 (by omega)
    have a5 := apart _ g2 _ _ m0 r2 (by omega)
    have a6 := apart _ g3 _ _ m0 r3 (by omega)
    have hB := hb0.trans (hS.mono (by omega))
    have l1 := r1.le.1
    have l2 := r2.le.1
    have l3 := r3.le.1
    have HR := Lib.hid (And.intro r1 (And.intro r2 r3))
    have HS2 := Lib.hid hS
    have HB := Lib.hid hB
    have HM := Lib.hid (And.intro m0 (And.intro m1 (And.intro m2 (And.intro m3 (And.intro m4 mz)))))
    clear hG hap hG3 hG4 r1 r2 r3 hE hd z4 apart k0 k1 k2 k3 k4 kz hb0 hS hB m0 m1 m2 m3 m4 mz
    refine Plan.plan_of_last rfl (fun K hK => ?_)
    go_wp2_with fail
    refine Plan.plan_done ?_
    go_wp2_with fail
    obtain ⟨w3, hw3⟩ : ∃ w3, w3 = ((((wx.setCell ⟨q, 0, none⟩ (.int .i64 W)).setCell ⟨q, 1, none⟩ (.int .i64 H)).setCell ⟨q, 2, none⟩ (.slice (some ⟨g1, 0, none⟩) (W * H).toNat (W * H).toNat)).setCell ⟨q, 3, none⟩ (.slice (some ⟨g2, 0, none⟩) (W * H / 4).toNat (W * H / 4).toNat)).setCell ⟨q, 4, none⟩ (.slice (some ⟨g3, 0, none⟩) (W * H / 4).toNat (W * H / 4).toNat) := ⟨_, rfl⟩
    rw [← hw3]
    have hI0 : IS w w3 B p k q g1 g2 g3 (W * H).toNat (W * H / 4).toNat W H := by
      rw [hw3]
      exact IS.start HB.out HT.out HR.out.1 HR.out.2.1 HR.out.2.2 HM.out z0 z1 z2 z3 z5 (by omega) a1 a2 a3 a4 a5 a6 d12 d13 d23 _ _ _ rfl rfl rfl
    have HI0 := Lib.hid hI0
    clear hw3 hI0 z0 z1 z2 z3 z5 v3 v4 x4 y4 f4 q9 q9' q10 q10' hsz
    refine (next_any B p k 256 _ HI0.out.tape (by omega) (by omega) (by omega)).mono ?_
    rintro e w4 ⟨a, rfl, u1, u2, t4, s4⟩
    have HI1 := Lib.hid (HI0.out.only s4 t4)
    clear t4 s4
    go_wp2_with fail
    refine (next_any B p (k + 1) 17 _ HI1.out.tape (by omega) (by omega) (by omega)).mono ?_
    rintro e w5 ⟨b, rfl, u3, u4, t4, s4⟩
    have HI2 := Lib.hid (HI1.out.only s4 t4)
    clear t4 s4
    go_wp2_with fail
    refine (next_any B p (k + 1 + 1) 9 _ HI2.out.tape (by omega) (by omega) (by omega)).mono ?_
    rintro e w6 ⟨c, rfl, u5, u6, t4, s4⟩
    have HI3 := Lib.hid (HI2.out.only s4 t4)
    clear t4 s4
    go_wp2_with fail
    have n1b : (W * H).toNat ≤ 4096 := by omega
    have n2b : (W * H / 4).toNat ≤ 4096 := by omega
    have n1c : 1 ≤ (W * H).toNat := by omega
    go_loopw [11] (fun i wr => ∃ j : Nat, j ≤ (W * H).toNat ∧ i = .int .i64 (j : Int) ∧ IS w wr B p (k + 1 + 1 + 1) q g1 g2 g3 (W * H).toNat (W * H / 4).toNat W H) (fun i _ => (W * H).toNat - (intOf i).toNat)
    case atStart => exact ⟨0, by omega, rfl, HI3.out⟩
    case round =>
      obtain ⟨j, hj, rfl, hI⟩ := hrel
      have c2 := hI.c2
      by_cases hlt : j < (W * H).toNat
      · obtain ⟨x, hx, hf⟩ := hI.r1.cell j hlt
        have HI := Lib.hid hI
        clear hI
        go_wp2_with fail
        refine Plan.wp_region_plan (fun w' => w'.cell? ⟨q, 2, none⟩ = some (.slice (some ⟨g1, 0, none⟩) (W * H).toNat (W * H).toNat)) (([0, 1, 2, 3, 4, 5, 6, 7, 8, 9, 10, 11, 12, 13, 14, 15, 16, 17].map (·, true)) ++ (([18].map (·, false)))) (by kernel_rfl) (by kernel_rfl) (by kernel_rfl) (by exact c2) ?_
        refine' Plan.plan_seg _ [0, 1, 2, 3, 4, 5, 6, 7, 8, 9, 10, 11, 12, 13, 14, 15, 16, 17] (([18].map (·, false))) (by kernel_rfl) (by kernel_rfl) rfl (by exact c2) (fun wx hS => ?_) ?_
        rotate_left
        · obtain s0 := hS
          go_light
          iterate 18 (apply Plan.seg_pick; rfl; intro K hK; go_wp)
          exact Plan.seg_nil
        refine Plan.plan_of_effect rfl (fun K hK => ?_)
        go_wp2_with fail
        refine ⟨(HI.out.far (.inl rfl) ?_ ?_).c2, Plan.plan_done ?_⟩
        · omega
        · omega
        go_wp2_with fail
        go_roundw
        case rel =>
          refine ⟨j + 1, by omega, by go_num, ?_⟩
          exact (HI.out.far (.inl rfl) (by omega) (by omega)).drew
        case measure => simp [intOf]; omega
      · obtain rfl : j = (W * H).toNat := by omega
        have HI := Lib.hid hI
        clear hI
        go_wp2_with fail
        go_loopw [12] (fun i wr => ∃ j : Nat, j ≤ (W * H / 4).toNat ∧ i = .int .i64 (j : Int) ∧ IS w wr B p (k + 1 + 1 + 1) q g1 g2 g3 (W * H).toNat (W * H / 4).toNat W H) (fun i _ => (W * H / 4).toNat - (intOf i).toNat)
        case atStart => exact ⟨0, by omega, rfl, HI.out⟩
        case round =>
          obtain ⟨j, hj, rfl, hI⟩ := hrel
          have c3 := hI.c3
          have c4 := hI.c4
          have d02 := hI.d02
          have d03 := hI.d03
          have d23 := hI.d23
          by_cases hlt : j < (W * H / 4).toNat
          · obtain ⟨x, hx, hf⟩ := hI.r2.cell j hlt
            obtain ⟨y, hy, hz⟩ := hI.r3.cell j hlt
            have HI' := Lib.hid hI
            clear hI HI
            go_wp2_with fail
            go_roundw
            case rel =>
              exact ⟨j + 1, by omega, by go_num, (HI'.out.far (.inr (.inl rfl)) (by omega) (by omega)).far (.inr (.inr rfl)) (by omega) (by omega)⟩
            case measure => simp [intOf]; omega
          · obtain rfl : j = (W * H / 4).toNat := by omega
            have HI' := Lib.hid hI
            clear hI HI c4 d02 d03 d23
            go_wp2_with fail
            refine (next_any B p (k + 1 + 1 + 1) 5 _ HI'.out.tape (by omega) (by omega) (by omega)).mono ?_
            rintro e w7 ⟨m, rfl, u7, u8, t4, s4⟩
            have HI4 := Lib.hid (HI'.out.only s4 t4)
            clear t4 s4 HI'
            go_wp2_with fail
            go_loopw [13] (fun i wr => ∃ (z : Int) (k' : Nat), 0 ≤ z ∧ z ≤ 4 ∧ i = .int .i64 z ∧ k' + 2 * z.toNat ≤ k + 12 ∧ IS w wr B p k' q g1 g2 g3 (W * H).toNat (W * H / 4).toNat W H) (fun i _ => (intOf i).toNat)
            case atStart => exact ⟨m, _, u7, by omega, rfl, by omega, HI4.out⟩
            case round =>
              obtain ⟨z, k', z0, z1, rfl, hk', hI⟩ := hrel
              have c2 := hI.c2
              have d01 := hI.d01
              by_cases hlt : 0 < z
              · have HI5 := Lib.hid hI
                clear hI HI4
                go_wp2_with fail
                refine Plan.wp_region_plan (fun w' => w'.cell? ⟨q, 2, none⟩ = some (.slice (some ⟨g1, 0, none⟩) (W * H).toNat (W * H).toNat)) (([0, 1, 2, 3, 4, 5, 7].map (·, true)) ++ (([6, 8].map (·, false)) ++ (([9, 10].map (·, true)) ++ (([11].map (·, false)))))) (by kernel_rfl) (by kernel_rfl) (by kernel_rfl) (by exact c2) ?_
                refine' Plan.plan_seg _ [0, 1, 2, 3, 4, 5, 7] (([6, 8].map (·, false)) ++ (([9, 10].map (·, true)) ++ (([11].map (·, false))))) (by kernel_rfl) (by kernel_rfl) rfl (by exact c2) (fun wx hS => ?_) ?_
                rotate_left
                · obtain s0 := hS
                  go_light
                  iterate 7 (apply Plan.seg_pick; rfl; intro K hK; go_wp)
                  exact Plan.seg_nil
                refine Plan.plan_of_effect rfl (fun K hK => ?_)
                go_wp2_with fail
                refine (next_any B p k' _ _ HI5.out.drew.tape (by omega) (by omega) (by omega)).mono ?_
                rintro e w8 ⟨r, rfl, u9, u10, t4, s4⟩
                have HI6 := Lib.hid (HI5.out.drew.only s4 t4)
                clear t4 s4
                go_wp2_with fail
                refine ⟨HI6.out.c2, ?_⟩
                refine Plan.plan_of_effect rfl (fun K hK => ?_)
                go_wp2_with fail
                refine (next_any B p (k' + 1) 256 _ HI6.out.tape (by omega) (by omega) (by omega)).mono ?_
                rintro e w9 ⟨s, rfl, u11, u12, t4, s4⟩
                have HI7 := Lib.hid (HI6.out.only s4 t4)
                clear t4 s4
                go_wp2_with fail
                refine ⟨HI7.out.c2, ?_⟩
                obtain ⟨r, rfl⟩ := Int.eq_ofNat_of_zero_le u9
                obtain ⟨x, hx, hf⟩ := HI7.out.r1.cell r (by omega)
                refine' Plan.plan_seg _ [9, 10] (([11].map (·, false))) (by kernel_rfl) (by kernel_rfl) rfl (by exact HI7.out.c2) (fun wx hS => ?_) ?_
                rotate_left
                · obtain s0 := hS
                  go_light
                  iterate 2 (apply Plan.seg_pick; rfl; intro K hK; go_wp)
                  exact Plan.seg_nil
                refine Plan.plan_of_effect rfl (fun K hK => ?_)
                go_wp2_with fail
                refine ⟨(HI7.out.far (.inl rfl) ?_ ?_).c2, Plan.plan_done ?_⟩
                · omega
                · omega
                go_wp2_with fail
                go_roundw
                case rel =>
                  exact ⟨z - 1, k' + 1 + 1, by omega, by omega, rfl, by omega, HI7.out.far (.inl rfl) (by omega) (by omega)⟩
                case measure => simp [intOf]; omega
              · obtain rfl : z = 0 := by omega
                have e0 := hI.e0
                have e1 := hI.e1
                have e2 := hI.e2
                have e3 := hI.e3
                have e4 := hI.e4
                have ez := hI.ez
                have x0 := hI.c0
                have x1 := hI.c1
                have x2 := hI.c2
                have x3 := hI.c3
                have x4 := hI.c4
                have hq := hI.h0
                have HI5 := Lib.hid hI
                clear hI HI4
                go_wp2_with fail
                refine bodyPost_ret (v := .agg #[.int .i64 W, .int .i64 H, .slice (some ⟨g1, 0, none⟩) (W * H).toNat (W * H).toNat, .slice (some ⟨g2, 0, none⟩) (W * H / 4).toNat (W * H / 4).toNat, .slice (some ⟨g3, 0, none⟩) (W * H / 4).toNat (W * H / 4).toNat]) (by simp [results, Try.results69, go_sem, e0, e1, e2, e3, e4]) rfl ?_
                exact HI5.out.post HS.out (by omega) _ _ _ _ _

end Go.Proofs.Ytnnobdcbmagbaaa

/- The contracts of the tape's Picture and of two: two frames of one size in rows of their own, and a tape. -/
namespace Go.Proofs.Ytnnobdcbmagbaaa
open Go.RowKit
set_option linter.unusedVariables false

theorem OwnFr.far {w : World} {B b : Nat} {v : Value} {F : Fr} (h : OwnFr w B v F) (hb : b < B) (o : Nat) (u : Value) : OwnFr (w.setCell ⟨b, o, none⟩ u) B v F := by
  obtain ⟨g1, g2, g3, rfl, r1, r2, r3, b1, b2, b3, d⟩ := h
  exact ⟨g1, g2, g3, rfl, r1.far (by have := r1.le.1; simp; omega) u, r2.far (by have := r2.le.1; simp; omega) u, r3.far (by have := r3.le.1; simp; omega) u, b1, b2, b3, d⟩
theorem OwnFr.mono {w : World} {B B' : Nat} {v : Value} {F : Fr} (h : OwnFr w B v F) (hb : B' ≤ B) : OwnFr w B' v F := by
  obtain ⟨g1, g2, g3, rfl, r1, r2, r3, b1, b2, b3, d⟩ := h
  exact ⟨g1, g2, g3, rfl, r1.mono hb, r2.mono hb, r3.mono hb, b1, b2, b3, d⟩
theorem OwnFr.below {w w' : World} {B : Nat} {v : Value} {F : Fr} (h : OwnFr w B v F) (hb : Below w.heap.size w w') : OwnFr w' B v F := by
  obtain ⟨g1, g2, g3, rfl, r1, r2, r3, b1, b2, b3, d⟩ := h
  exact ⟨g1, g2, g3, rfl, r1.below hb, r2.below hb, r3.below hb, b1, b2, b3, d⟩
theorem OwnFr.only {w w' : World} {B p : Nat} {v : Value} {F : Fr} (h : OwnFr w B v F) (hg : w.grownBy w' (some p)) (hp : p < B) : OwnFr w' B v F := by
  obtain ⟨g1, g2, g3, rfl, r1, r2, r3, b1, b2, b3, d⟩ := h
  exact ⟨g1, g2, g3, rfl, only_row hg r1 (by have := r1.le.1; omega), only_row hg r2 (by have := r2.le.1; omega), only_row hg r3 (by have := r3.le.1; omega), b1, b2, b3, d⟩

/-- Five cells of block b stored. -/
def put5 (w : World) (b : Nat) (c0 c1 c2 c3 c4 : Value) : World := ((((w.setCell ⟨b, 0, none⟩ c0).setCell ⟨b, 1, none⟩ c1).setCell ⟨b, 2, none⟩ c2).setCell ⟨b, 3, none⟩ c3).setCell ⟨b, 4, none⟩ c4
theorem OwnFr.put5 {w : World} {B b : Nat} {v : Value} {F : Fr} (h : OwnFr w B v F) (hb : b < B) (c0 c1 c2 c3 c4 : Value) : OwnFr (put5 w b c0 c1 c2 c3 c4) B v F :=
  ((((h.far hb _ _).far hb _ _).far hb _ _).far hb _ _).far hb _ _
theorem TP.put5 {w : World} {B p k b : Nat} (h : TP w B p k) (h1 : b ≠ p) (h2 : B ≤ b) (c0 c1 c2 c3 c4 : Value) : TP (put5 w b c0 c1 c2 c3 c4) B p k :=
  ((((h.far h1 h2 c0).far h1 h2 c1).far h1 h2 c2).far h1 h2 c3).far h1 h2 c4
theorem below_put5 {B b : Nat} {w w' : World} (h : Below B w w') (hb : B ≤ b) (c0 c1 c2 c3 c4 : Value) : Below B w (put5 w' b c0 c1 c2 c3 c4) :=
  ((((h.setCell hb _).setCell hb _).setCell hb _).setCell hb _).setCell hb _

/-- A frame's value stored into the fresh block w.heap.size of five cells. -/
theorem put_frame {w w1 w2 : World} {N B p k : Nat} {v : Value} {F : Fr} {c0 c1 c2 c3 c4 : Value} (hO : OwnFr w1 (N + 1) v F) (ht : TP w1 B p k) (hp : p < N) (hBp : B ≤ p) (hN : w.heap.size = N) (hN1 : N < w1.heap.size)
    (hg : (w.alloc (.cells #[.int .i64 0, .int .i64 0, .slice none 0 0, .slice none 0 0, .slice none 0 0] 26)).grownBy w1 (some p)) (h2 : w2 = ((((w1.setCell ⟨N, 0, none⟩ c0).setCell ⟨N, 1, none⟩ c1).setCell ⟨N, 2, none⟩ c2).setCell ⟨N, 3, none⟩ c3).setCell ⟨N, 4, none⟩ c4) :
    OwnFr w2 N v F ∧ TP w2 B p k ∧ w.grownBy w2 (some p) := by
  subst h2
  have hg0 : w.grownBy w1 (some p) := only_trans (only_of_below (below_box _ _)) hg
  exact ⟨(((((hO.far (by omega) 0 c0).far (by omega) 1 c1).far (by omega) 2 c2).far (by omega) 3 c3).far (by omega) 4 c4).mono (by omega),
    ((((ht.far (by simp; omega) (by simp; omega) c0).far (by simp; omega) (by simp; omega) c1).far (by simp; omega) (by simp; omega) c2).far (by simp; omega) (by simp; omega) c3).far (by simp; omega) (by simp; omega) c4,
    only_far (only_far (only_far (only_far (only_far hg0 (by simp; omega) _) (by simp; omega) _) (by simp; omega) _) (by simp; omega) _) (by simp; omega) _⟩

set_option maxRecDepth 100000 in
set_option maxHeartbeats 1000000 in
theorem picture_any (B p k : Nat) (n : Int) (w : World) (ht : TP w B p k) (hk : k < 900000) (hs : okSize n n = true) :
    Calls Try.prog 44 #[.pointer (some ⟨p, 0, none⟩), .int .i64 n] w (ImgPost w B p k n n) := by
  have hp := ht.2.1
  have hBp := ht.1
  have HT := Lib.hid (ht.below (below_box w (.cells #[.int .i64 0, .int .i64 0, .slice none 0 0, .slice none 0 0, .slice none 0 0] 26)))
  have HS := Lib.hid hs
  clear ht hs
  go_enter Try.func44, Try.ntmps44
  go_wp2_with fail
  refine (image_any B p k n n _ HT.out hk HS.out).mono ?_
  rintro e w1 ⟨v, F, k', rfl, hO, hok, rfl, e2, t, hk', hg⟩
  have c := fun j v (h : _ = some v) => only_cell (b := w.heap.size) (o := j) (v := v) hg h (by omega)
  have c0 := c 0 (.int .i64 0) (by simp [go_sem])
  have c1 := c 1 (.int .i64 0) (by simp [go_sem])
  have c2 := c 2 (.slice none 0 0) (by simp [go_sem])
  have c3 := c 3 (.slice none 0 0) (by simp [go_sem])
  have c4 := c 4 (.slice none 0 0) (by simp [go_sem])
  have fz := fun o => only_frozen (b := w.heap.size) (o := o) hg (by simp) (by simp [go_sem]) (by omega)
  rw [World.size_alloc] at hO
  have hsz := hg.size
  rw [World.size_alloc] at hsz
  have HO := Lib.hid hO
  obtain ⟨g1, g2, g3, rfl, _⟩ := hO
  obtain ⟨W, H, nY, nU, nV, fY, fU, fV⟩ := F
  simp only at e2 HO HS HT ⊢
  subst e2
  have HK := Lib.hid hok
  have HG := Lib.hid hg
  have HTT := Lib.hid t
  clear c hok hg t
  go_wp2_with fail
  refine bodyPost_ret (v := .agg #[.int .i64 H, .int .i64 H, .slice (some ⟨g1, 0, none⟩) nY nY, .slice (some ⟨g2, 0, none⟩) nU nU, .slice (some ⟨g3, 0, none⟩) nV nV]) (by simp [results, Try.results44, go_sem, c0, c1, c2, c3, c4]) rfl ?_
  obtain ⟨h1, h2, h3⟩ := put_frame (w := w) HO.out HTT.out hp hBp rfl (by omega) HG.out rfl
  exact ⟨_, _, k', rfl, h1, HK.out, rfl, rfl, h2, hk', h3⟩

/-- v reads in w as a slice of integers. -/
def RI (w : World) (v : Value) : Prop := ∃ ao n c, v = .slice ao n c ∧ n ≤ c ∧ n ≤ 9223372036854775807 ∧ ∀ i, i < n → ∃ b o x, ao = some ⟨b, o, none⟩ ∧ w.cell? ⟨b, o + i, none⟩ = some (.int .i64 x)

def TwoPost (w : World) (e : Ending) (w' : World) : Prop :=
  ∃ v u F G p k, e = .returned (.tuple #[v, u, .pointer (some ⟨p, 0, none⟩)]) ∧ OwnFr w' w.heap.size v F ∧ OwnFr w' w.heap.size u G ∧ F.ok = true ∧ G.ok = true ∧ (F.W = 16 ∨ F.W = 32) ∧ F.H = F.W ∧ G.W = F.W ∧ G.H = F.W ∧ TP w' w.heap.size p k ∧ k ≤ 100 ∧ Below w.heap.size w w'

theorem TP.start {w w1 : World} {v : Value} {p : Nat} (h : RI w v) (hp : w.heap.size ≤ p) (hp1 : p < w1.heap.size) (hb : Below w.heap.size w w1) (c0 : w1.cell? ⟨p, 0, none⟩ = some v) (c1 : w1.cell? ⟨p, 1, none⟩ = some (.int .i64 0)) (hf : w1.frozen? ⟨p, 1, none⟩ = false) : TP w1 w.heap.size p 0 := by
  obtain ⟨ao, n, c, rfl, h1, h2, hx⟩ := h
  refine ⟨hp, hp1, ao, n, c, c0, c1, hf, h1, h2, fun i hi => ?_⟩
  obtain ⟨b, o, x, e, hc⟩ := hx i hi
  have hl : b < w.heap.size := block_lt_of_cell hc
  exact ⟨b, o, x, e, hl, (hb.cell (p := ⟨b, o + i, none⟩) hl).trans hc⟩

set_option maxRecDepth 100000 in
set_option maxHeartbeats 1000000 in
theorem two_any (v : Value) (w : World) (hv : RI w v) : Calls Try.prog 21 #[v] w (TwoPost w) := by
  have HV := Lib.hid hv
  obtain ⟨ao, n, c, rfl, _⟩ := hv
  go_enter Try.func21, Try.ntmps21
  go_wp2_with fail
  obtain ⟨w0, hw0⟩ : ∃ w0, w0 = ((w.alloc (.cells #[.int .i64 0, .int .i64 0, .slice none 0 0, .slice none 0 0, .slice none 0 0] 26)).alloc (.cells #[.int .i64 0, .int .i64 0, .slice none 0 0, .slice none 0 0, .slice none 0 0] 26)).alloc (.cells #[.slice ao n c, .int .i64 0] 61) := ⟨_, rfl⟩
  rw [← hw0]
  have s0 : w0.heap.size = w.heap.size + 3 := by rw [hw0]; simp
  have x00 : w0.cell? ⟨w.heap.size, 0, none⟩ = some (.int .i64 0) := by rw [hw0]; simp [go_sem]
  have x01 : w0.cell? ⟨w.heap.size, 1, none⟩ = some (.int .i64 0) := by rw [hw0]; simp [go_sem]
  have x02 : w0.cell? ⟨w.heap.size, 2, none⟩ = some (.slice none 0 0) := by rw [hw0]; simp [go_sem]
  have x03 : w0.cell? ⟨w.heap.size, 3, none⟩ = some (.slice none 0 0) := by rw [hw0]; simp [go_sem]
  have x04 : w0.cell? ⟨w.heap.size, 4, none⟩ = some (.slice none 0 0) := by rw [hw0]; simp [go_sem]
  have x10 : w0.cell? ⟨w.heap.size + 1, 0, none⟩ = some (.int .i64 0) := by rw [hw0]; simp [go_sem]
  have x11 : w0.cell? ⟨w.heap.size + 1, 1, none⟩ = some (.int .i64 0) := by rw [hw0]; simp [go_sem]
  have x12 : w0.cell? ⟨w.heap.size + 1, 2, none⟩ = some (.slice none 0 0) := by rw [hw0]; simp [go_sem]
  have x13 : w0.cell? ⟨w.heap.size + 1, 3, none⟩ = some (.slice none 0 0) := by rw [hw0]; simp [go_sem]
  have x14 : w0.cell? ⟨w.heap.size + 1, 4, none⟩ = some (.slice none 0 0) := by rw [hw0]; simp [go_sem]
  have z0 : ∀ o, w0.frozen? ⟨w.heap.size, o, none⟩ = false := fun o => by rw [hw0]; simp [go_sem]
  have z1 : ∀ o, w0.frozen? ⟨w.heap.size + 1, o, none⟩ = false := fun o => by rw [hw0]; simp [go_sem]
  have hB : Below w.heap.size w w0 := by rw [hw0]; go_grown
  have hT : TP w0 w.heap.size (w.heap.size + 1 + 1) 0 := TP.start HV.out (by omega) (by omega) hB (by rw [hw0]; simp [go_sem]) (by rw [hw0]; simp [go_sem]) (by rw [hw0]; simp [go_sem])
  have HB := Lib.hid hB
  clear hB hw0
  refine (next_any _ _ _ 2 _ hT (by omega) (by omega) (by omega)).mono ?_
  rintro e w1 ⟨r, rfl, r0, r1, hT1, hg1⟩
  replace x00 := only_cell hg1 x00 (by omega)
  replace x01 := only_cell hg1 x01 (by omega)
  replace x02 := only_cell hg1 x02 (by omega)
  replace x03 := only_cell hg1 x03 (by omega)
  replace x04 := only_cell hg1 x04 (by omega)
  replace x10 := only_cell hg1 x10 (by omega)
  replace x11 := only_cell hg1 x11 (by omega)
  replace x12 := only_cell hg1 x12 (by omega)
  replace x13 := only_cell hg1 x13 (by omega)
  replace x14 := only_cell hg1 x14 (by omega)
  replace z0 := fun o => only_frozen hg1 (by omega) (z0 o) (by omega)
  replace z1 := fun o => only_frozen hg1 (by omega) (z1 o) (by omega)
  have s1 := hg1.size
  have HG1 := Lib.hid hg1
  have HT1 := Lib.hid hT1
  clear hg1 hT hT1
  go_wp2_with fail
  have hok : okSize (16 + 16 * r) (16 + 16 * r) = true := by
    rcases (show r = 0 ∨ r = 1 by omega) with rfl | rfl <;> decide
  have hW : 16 + 16 * r = 16 ∨ 16 + 16 * r = 32 := by omega
  have HO := Lib.hid (And.intro hok hW)
  clear hok hW
  generalize 16 + 16 * r = sz at *
  refine (picture_any _ _ _ sz _ HT1.out (by omega) HO.out.1).mono ?_
  rintro e w2 ⟨v, F, k2, rfl, o2, f2, f3, f4, hT2, hk2, hg2⟩
  replace x00 := only_cell hg2 x00 (by omega)
  replace x01 := only_cell hg2 x01 (by omega)
  replace x02 := only_cell hg2 x02 (by omega)
  replace x03 := only_cell hg2 x03 (by omega)
  replace x04 := only_cell hg2 x04 (by omega)
  replace x10 := only_cell hg2 x10 (by omega)
  replace x11 := only_cell hg2 x11 (by omega)
  replace x12 := only_cell hg2 x12 (by omega)
  replace x13 := only_cell hg2 x13 (by omega)
  replace x14 := only_cell hg2 x14 (by omega)
  replace z0 := fun o => only_frozen hg2 (by omega) (z0 o) (by omega)
  replace z1 := fun o => only_frozen hg2 (by omega) (z1 o) (by omega)
  have s2 := hg2.size
  have HG2 := Lib.hid (only_trans HG1.out hg2)
  have HT2 := Lib.hid hT2
  have HF := Lib.hid (And.intro o2 (And.intro f2 (And.intro f3 f4)))
  clear hg2 hT2 o2 f2 f3 f4
  go_wp2_with fail
  refine (picture_any _ _ _ sz _ HT2.out (by omega) HO.out.1).mono ?_
  rintro e w3 ⟨u, G, k3, rfl, o3, f2, f3, f4, hT3, hk3, hg3⟩
  replace x00 := only_cell hg3 x00 (by omega)
  replace x01 := only_cell hg3 x01 (by omega)
  replace x02 := only_cell hg3 x02 (by omega)
  replace x03 := only_cell hg3 x03 (by omega)
  replace x04 := only_cell hg3 x04 (by omega)
  replace x10 := only_cell hg3 x10 (by omega)
  replace x11 := only_cell hg3 x11 (by omega)
  replace x12 := only_cell hg3 x12 (by omega)
  replace x13 := only_cell hg3 x13 (by omega)
  replace x14 := only_cell hg3 x14 (by omega)
  replace z0 := fun o => only_frozen hg3 (by omega) (z0 o) (by omega)
  replace z1 := fun o => only_frozen hg3 (by omega) (z1 o) (by omega)
  have s3 := hg3.size
  have hg4 := only_trans HG2.out hg3
  have hB3 : Below w.heap.size w w3 := HB.out.trans (only_below hg4 (by omega) (by omega))
  have o2 : OwnFr w3 (w.heap.size + 3) v F := (HF.out.1.only hg3 (by omega)).mono (by omega)
  replace o3 : OwnFr w3 (w.heap.size + 3) u G := o3.mono (by omega)
  have HR := Lib.hid (And.intro o2 (And.intro o3 (And.intro f2 (And.intro f3 (And.intro f4 (And.intro hT3 (And.intro hg4 hB3)))))))
  obtain ⟨a1, a2, a3, rfl, _⟩ := o2
  obtain ⟨b1, b2, b3, rfl, _⟩ := o3
  clear hg3 hT3 f2 f3 f4 hg4 hB3
  go_wp2_with fail
  refine bodyPost_ret (v := .tuple #[.agg #[.int .i64 F.W, .int .i64 F.H, .slice (some ⟨a1, 0, none⟩) F.nY F.nY, .slice (some ⟨a2, 0, none⟩) F.nU F.nU, .slice (some ⟨a3, 0, none⟩) F.nV F.nV],
    .agg #[.int .i64 G.W, .int .i64 G.H, .slice (some ⟨b1, 0, none⟩) G.nY G.nY, .slice (some ⟨b2, 0, none⟩) G.nU G.nU, .slice (some ⟨b3, 0, none⟩) G.nV G.nV], .pointer (some ⟨w.heap.size + 1 + 1, 0, none⟩)])
    (by simp [results, Try.results21, go_sem, x00, x01, x02, x03, x04, x10, x11, x12, x13, x14]) rfl ?_
  obtain ⟨o2, o3, g2, g3, g4, hT3, hg4, hB3⟩ := HR.out
  obtain ⟨f1, f2, f3⟩ := HF.out.2
  have hsz := HO.out.2
  exact ⟨_, _, F, G, _, k3, rfl, ((o2.put5 (b := w.heap.size) (by omega) _ _ _ _ _).put5 (b := w.heap.size + 1) (by omega) _ _ _ _ _).mono (by omega),
    ((o3.put5 (b := w.heap.size) (by omega) _ _ _ _ _).put5 (b := w.heap.size + 1) (by omega) _ _ _ _ _).mono (by omega),
    f1, g2, by omega, by omega, by omega, by omega, (hT3.put5 (b := w.heap.size) (by omega) (by omega) _ _ _ _ _).put5 (b := w.heap.size + 1) (by omega) (by omega) _ _ _ _ _, by omega,
    below_put5 (below_put5 hB3 (b := w.heap.size) (by omega) _ _ _ _ _) (b := w.heap.size + 1) (by omega) _ _ _ _ _⟩

end Go.Proofs.Ytnnobdcbmagbaaa

/- The contracts of denote.Valid, the stage's eval and Eval at the black expression. -/
namespace Go.Proofs.Ytnnobdcbmagbaaa
open Go.RowKit

def blackV : Value := .agg #[.int .i64 0, .string ByteArray.empty, .int .i64 0, .int .i64 0, .int .i64 0, .int .i64 0, .string ByteArray.empty, .slice none 0 0]

set_option maxRecDepth 100000 in
set_option maxHeartbeats 2000000 in
theorem validFields_black (w : World) : Calls Try.prog 71 #[blackV] w fun e w' => e = .returned (.bool true) ∧ Below w.heap.size w w' := by
  unfold blackV
  go_enter Try.func71, Try.ntmps71
  go_wp2
  refine Plan.wp_region_plan (fun w' => w'.cell? ⟨w.heap.size, 5, none⟩ = some (.int .i64 0) ∧ w'.cell? ⟨w.heap.size, 6, none⟩ = some (.string ByteArray.empty)) (([0, 1, 2, 3, 4, 5, 6, 7].map (·, true))) (by kernel_rfl) (by kernel_rfl) (by kernel_rfl) ⟨by simp [go_sem], by simp [go_sem]⟩ ?_
  refine' Plan.plan_seg _ [0, 1, 2, 3, 4, 5, 6, 7] ([]) (by kernel_rfl) (by kernel_rfl) rfl (by exact ⟨by simp [go_sem], by simp [go_sem]⟩) (fun wx hS => ?_) ?_
  rotate_left
  · obtain ⟨s0, s1⟩ := hS
    iterate 8 (apply Plan.seg_pick; rfl; intro K hK; go_wp)
    exact Plan.seg_nil
  refine Plan.plan_done ?_
  go_wp2
  go_ret
  exact ⟨rfl, by go_grown⟩

set_option maxRecDepth 100000 in
set_option maxHeartbeats 2000000 in
theorem dvalid_black (w : World) : Calls Try.prog 63 #[blackV] w fun e w' => e = .returned (.bool true) ∧ Below w.heap.size w w' := by
  unfold blackV
  go_enter Try.func63, Try.ntmps63
  go_wp2_with fail
  refine (validFields_black _).mono ?_
  rintro e w1 ⟨rfl, hb⟩
  have c7 : w1.cell? ⟨w.heap.size, 7, none⟩ = some (.slice none 0 0) := (hb.cell (by simp)).trans (by simp [go_sem])
  have W1 := (below_box w (.cells #[.int .i64 0, .string ByteArray.empty, .int .i64 0, .int .i64 0, .int .i64 0, .int .i64 0, .string ByteArray.empty, .slice none 0 0] 58)).trans (hb.mono (by simp))
  clear hb
  go_wp2_with fail
  refine wp_loop_rounds 1 ?_
  rw [rounds_succ]
  go_wp2_with fail
  go_ret
  exact ⟨rfl, W1⟩

end Go.Proofs.Ytnnobdcbmagbaaa
