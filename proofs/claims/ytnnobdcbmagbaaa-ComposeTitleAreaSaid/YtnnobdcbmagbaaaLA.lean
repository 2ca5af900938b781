/- Aid for the laws' walks: a frame in a box, the same frame twice. -/
import Derived.Test.YtnnobdcbmagbaaaTC
import Derived.Test.YtnnobdcbmagbaaaT
import Derived.Test.YtnnobdcbmagbaaaPA
namespace Go.Proofs.Ytnnobdcbmagbaaa
open Go.RowKit

/-- Block b holds the five cells of a frame. -/
structure BX (w : World) (b : Nat) (c0 c1 c2 c3 c4 : Value) : Prop where
  k0 : w.cell? ⟨b, 0, none⟩ = some c0
  k1 : w.cell? ⟨b, 1, none⟩ = some c1
  k2 : w.cell? ⟨b, 2, none⟩ = some c2
  k3 : w.cell? ⟨b, 3, none⟩ = some c3
  k4 : w.cell? ⟨b, 4, none⟩ = some c4
theorem BX.lt {w : World} {b : Nat} {c0 c1 c2 c3 c4 : Value} (h : BX w b c0 c1 c2 c3 c4) : b < w.heap.size := block_lt_of_cell h.k0
theorem BX.below {w w' : World} {b : Nat} {c0 c1 c2 c3 c4 : Value} (h : BX w b c0 c1 c2 c3 c4) (hb : Below w.heap.size w w') : BX w' b c0 c1 c2 c3 c4 :=
  ⟨(hb.cell h.lt).trans h.k0, (hb.cell h.lt).trans h.k1, (hb.cell h.lt).trans h.k2, (hb.cell h.lt).trans h.k3, (hb.cell h.lt).trans h.k4⟩
theorem BX.of_alloc (w : World) (c0 c1 c2 c3 c4 : Value) (t : TypeId) : BX (w.alloc (.cells #[c0, c1, c2, c3, c4] t)) w.heap.size c0 c1 c2 c3 c4 :=
  ⟨by simp [go_sem], by simp [go_sem], by simp [go_sem], by simp [go_sem], by simp [go_sem]⟩

/-- X has the size of F. -/
def Dim (X F : Fr) : Prop := X.W = F.W ∧ X.H = F.H ∧ X.nY = F.nY ∧ X.nU = F.nU ∧ X.nV = F.nV
theorem Dim.refl (F : Fr) : Dim F F := ⟨rfl, rfl, rfl, rfl, rfl⟩
theorem Dim.of_pair {F G : Fr} (h : pairOk F G = true) : Dim G F := by
  obtain ⟨_, _, e1, e2, e3, e4, e5⟩ := pair_dims h
  exact ⟨e1.symm, e2.symm, e3, e4, e5⟩
theorem FA.shapeAs {w : World} {v : Value} {X F : Fr} (h : FA w v X) (d : Dim X F) : ∃ ay cy au cu av cv, v = .agg #[.int .i64 F.W, .int .i64 F.H, .slice ay F.nY cy, .slice au F.nU cu, .slice av F.nV cv] := by
  obtain ⟨d1, d2, d3, d4, d5⟩ := d
  rw [← d1, ← d2, ← d3, ← d4, ← d5]
  exact h.shape
theorem BX.of_alloc' (w : World) (b : Nat) (c0 c1 c2 c3 c4 : Value) (t : TypeId) (h : b = w.heap.size) : BX (w.alloc (.cells #[c0, c1, c2, c3, c4] t)) b c0 c1 c2 c3 c4 := h ▸ BX.of_alloc w c0 c1 c2 c3 c4 t

theorem same_yes (v u : Value) (F G : Fr) (w : World) (hv : FA w v F) (hu : FA w u G) (h : frSame F G = true) :
    Calls Try.prog 19 #[v, u] w fun e w' => e = .returned (.bool true) ∧ Below w.heap.size w w' := by
  refine (same_any v u F G w hv hu).mono ?_
  rintro e w' ⟨rfl, rfl⟩
  exact ⟨by rw [h], by go_grown⟩

theorem pairOk_of {F G : Fr} (h1 : F.ok = true) (h2 : G.ok = true) (h3 : F.W = G.W) (h4 : F.H = G.H) : pairOk F G = true := by simp [pairOk, h1, h2, h3, h4]
theorem okShare_of {n d : Int} (h1 : 1 ≤ d) (h2 : d ≤ 2147483648) (h3 : 0 ≤ n) (h4 : n ≤ d) : okShare n d = true := by simp [okShare]; omega
theorem FA.bdY {w : World} {v : Value} {F : Fr} (h : FA w v F) : ∀ i, i < F.nY → 0 ≤ F.Y i ∧ F.Y i < 256 := by obtain ⟨_, _, _, _, a, _, _⟩ := h; exact a.bd
theorem FA.bdU {w : World} {v : Value} {F : Fr} (h : FA w v F) : ∀ i, i < F.nU → 0 ≤ F.U i ∧ F.U i < 256 := by obtain ⟨_, _, _, _, _, a, _⟩ := h; exact a.bd
theorem FA.bdV {w : World} {v : Value} {F : Fr} (h : FA w v F) : ∀ i, i < F.nV → 0 ≤ F.V i ∧ F.V i < 256 := by obtain ⟨_, _, _, _, _, _, a⟩ := h; exact a.bd

theorem mix_zero {F G : Fr} {den : Int} (hd : 1 ≤ den) (h1 : ∀ i, i < F.nY → 0 ≤ F.Y i ∧ F.Y i < 256) (h2 : ∀ i, i < F.nU → 0 ≤ F.U i ∧ F.U i < 256) (h3 : ∀ i, i < F.nV → 0 ≤ F.V i ∧ F.V i < 256) : frSame (mixFr 0 den F G) F = true :=
  frSame_of rfl rfl rfl rfl rfl (fun i hi => blend_first hd (h1 i hi).1 (h1 i hi).2) (fun i hi => blend_first hd (h2 i hi).1 (h2 i hi).2) (fun i hi => blend_first hd (h3 i hi).1 (h3 i hi).2)
theorem mix_one {F G : Fr} {den : Int} (hp : pairOk F G = true) (hd : 1 ≤ den) (h1 : ∀ i, i < G.nY → 0 ≤ G.Y i ∧ G.Y i < 256) (h2 : ∀ i, i < G.nU → 0 ≤ G.U i ∧ G.U i < 256) (h3 : ∀ i, i < G.nV → 0 ≤ G.V i ∧ G.V i < 256) : frSame (mixFr den den F G) G = true := by
  obtain ⟨_, _, e1, e2, e3, e4, e5⟩ := pair_dims hp
  exact frSame_of e1 e2 e3.symm e4.symm e5.symm (fun i (hi : i < F.nY) => blend_second hd (h1 i (by omega)).1 (h1 i (by omega)).2) (fun i (hi : i < F.nU) => blend_second hd (h2 i (by omega)).1 (h2 i (by omega)).2) (fun i (hi : i < F.nV) => blend_second hd (h3 i (by omega)).1 (h3 i (by omega)).2)
theorem mix_self {F : Fr} {num den : Int} (hd : 1 ≤ den) (h1 : ∀ i, i < F.nY → 0 ≤ F.Y i ∧ F.Y i < 256) (h2 : ∀ i, i < F.nU → 0 ≤ F.U i ∧ F.U i < 256) (h3 : ∀ i, i < F.nV → 0 ≤ F.V i ∧ F.V i < 256) : frSame (mixFr num den F F) F = true :=
  frSame_of rfl rfl rfl rfl rfl (fun i hi => blend_same hd (h1 i hi).1 (h1 i hi).2) (fun i hi => blend_same hd (h2 i hi).1 (h2 i hi).2) (fun i hi => blend_same hd (h3 i hi).1 (h3 i hi).2)

/-- A byte of a plane, by its address. -/
theorem FA.plane {w : World} {F : Fr} {W H : Value} {ay au av : Option Addr} {n1 c1 n2 c2 n3 c3 : Nat} (h : FA w (.agg #[W, H, .slice ay n1 c1, .slice au n2 c2, .slice av n3 c3]) F) :
    (0 < F.nY → ∃ b o, ay = some ⟨b, o, none⟩ ∧ ∀ i, i < F.nY → w.cell? ⟨b, o + i, none⟩ = some (.int .u8 (F.Y i))) ∧ (0 < F.nU → ∃ b o, au = some ⟨b, o, none⟩ ∧ ∀ i, i < F.nU → w.cell? ⟨b, o + i, none⟩ = some (.int .u8 (F.U i))) ∧ (0 < F.nV → ∃ b o, av = some ⟨b, o, none⟩ ∧ ∀ i, i < F.nV → w.cell? ⟨b, o + i, none⟩ = some (.int .u8 (F.V i))) ∧ n1 = F.nY ∧ n2 = F.nU ∧ n3 = F.nV ∧ F.nY ≤ c1 ∧ F.nU ≤ c2 ∧ F.nV ≤ c3 := by
  obtain ⟨y, u, z, e, ⟨a1, d1, rfl, l1, H1⟩, ⟨a2, d2, rfl, l2, H2⟩, ⟨a3, d3, rfl, l3, H3⟩⟩ := h
  simp only [Value.agg.injEq, Array.mk.injEq, List.cons.injEq, Value.slice.injEq, and_true] at e
  obtain ⟨_, _, ⟨rfl, rfl, rfl⟩, ⟨rfl, rfl, rfl⟩, rfl, rfl, rfl⟩ := e
  have key : ∀ (a : Option Addr) (n : Nat) (f : Nat → Int), (∀ i, i < n → (∃ b o, a = some ⟨b, o, none⟩ ∧ w.cell? ⟨b, o + i, none⟩ = some (.int .u8 (f i))) ∧ 0 ≤ f i ∧ f i < 256) → 0 < n → ∃ b o, a = some ⟨b, o, none⟩ ∧ ∀ i, i < n → w.cell? ⟨b, o + i, none⟩ = some (.int .u8 (f i)) := by
    intro a n f hh hn
    obtain ⟨⟨b, o, rfl, _⟩, _⟩ := hh 0 hn
    refine ⟨b, o, rfl, fun i hi => ?_⟩
    obtain ⟨⟨b', o', e, hc⟩, _⟩ := hh i hi
    simp only [Option.some.injEq, Addr.mk.injEq, and_true] at e
    obtain ⟨rfl, rfl⟩ := e
    exact hc
  exact ⟨key _ _ _ H1, key _ _ _ H2, key _ _ _ H3, rfl, rfl, rfl, l1, l2, l3⟩

end Go.Proofs.Ytnnobdcbmagbaaa
