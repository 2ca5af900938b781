/- Texts of this claim joined: XW XZ V RA RE XY. -/
import Derived.Laws.OwnMore
import Derived.Deep.CutRange
import Derived.Test.YtnnobdcbmagbaaaRows
import Derived.WalkKit
import Derived.ProofKit
import Derived.OpenShut
import Derived.Carry
import Derived.ChangeSlices
import Derived.ChangeSame
import Derived.Deep.Slices
import Derived.Test.YtnnobdcbmagbaaaEv02
import Derived.Test.YtnnobdcbmagbaaaEv04
import Derived.Test.YtnnobdcbmagbaaaEv08
import Derived.Test.YtnnobdcbmagbaaaEv10
import Derived.Test.YtnnobdcbmagbaaaEv18
import Derived.Test.YtnnobdcbmagbaaaEv25
import Derived.Test.YtnnobdcbmagbaaaEv26
set_option linter.unusedVariables false
set_option linter.unusedSimpArgs false

/- append of any list of pictures to one of the call's own. -/
namespace Go.Proofs.Ytnnobdcbmagbaaa
open Go.RowKit
set_option linter.unusedVariables false

theorem setRow_id (w : World) (g : Nat) (cur : Array Value) (hg : w.heap[g]? = some (.cells cur 68 (0, 0))) : w.setRow g cur = w := by
  have e : (w.setRow g cur).heap = w.heap := by
    apply Array.ext_getElem?
    intro i
    by_cases h : i = g
    · subst h
      rw [setRow_heap w i cur cur 68 (0, 0) hg, hg]
    · exact setRow_other w g i cur h
  unfold World.setRow at e ⊢
  simp only at e
  rw [e]

theorem PL.congr {w : World} {B k : Nat} {v : Value} {P Q : Nat → Pic} (h : PL w B v k P) (e : ∀ i, i < k → P i = Q i) : PL w B v k Q := by
  obtain ⟨xs, h1, h2⟩ := h
  refine ⟨xs, h1, fun i hi => ?_⟩
  rw [← e i hi]
  exact h2 i hi

/-- append of m pictures (none, too) to a list that is not nil, at the operation. -/
theorem wpList_appX (w : World) {ops : Array Oper} {rest : List Oper} {op : Oper} {a : Act} {Q : Exit → Act → World → Prop} (hg : op.guard = none) (s x : Operand)
    (hop : op.op = .call { callee := .builtin .append, args := #[s, x], argTypes := #[59, 59] }) (hty : op.type = 59) (B : Nat) (g k cap : Nat) (P : Nat → Pic) (hs : a.eval s = .slice (some ⟨g, 0, none⟩) k cap) (h : PL w B (.slice (some ⟨g, 0, none⟩) k cap) k P) (hB : B ≤ w.heap.size)
    (m : Nat) (R : Nat → Pic) (v : Value) (hx : a.eval x = v) (hv : (v = .slice none 0 0 ∧ m = 0) ∨ ∃ a c, v = .slice (some a) m c) (hL : LA w v m R) (hfit : (k + m) * 112 ≤ 140737488355328)
    (hK : ∀ v' w', PL w' B v' (k + m) (cat k P R) → Grew w w' B → wpList Try.prog ops Q rest (a.put op.dst v') w') : wpList Try.prog ops Q (op :: rest) a w := by
  have hcat : ∀ i, i < k → P i = cat k P R i := fun i hi => by simp [cat, hi]
  rcases hv with ⟨rfl, rfl⟩ | ⟨ad, c, rfl⟩
  · refine wpList_plain hg fun K hK' => ?_
    obtain ⟨i0, hi, hz0, hz1, hz2⟩ := info_parts info68
    have hrun : (Builtin.append_ #[59, 59] 59 #[.slice (some ⟨g, 0, none⟩) k cap, .slice none 0 0]).run Try.prog w = .ok (.slice (some ⟨g, 0, none⟩) k cap) w := by
      obtain ⟨xs, h1, _⟩ := h
      rcases h1 with ⟨h1, _⟩ | ⟨g', cap', cur, h1, _, _, hk, _⟩
      · simp at h1
      · simp only [Value.slice.injEq, Option.some.injEq, Addr.mk.injEq, and_true, true_and] at h1
        obtain ⟨rfl, rfl⟩ := h1
        simp [Builtin.append_, run_underlying Try.underlying59, sizeOf, typeInfo, hi, Builtin.lenOf, Builtin.firstCells, hk, storeCells]
    unfold Oper.wp
    simp [execOp, hop, resolve, invoke, builtin, hs, hx, hty, hrun, Result.andThen]
    exact hK' _ _ (hK _ w (h.congr hcat) ⟨fun _ _ h => h, Below.refl _ _⟩)
  · by_cases hm : 0 < m
    · obtain ⟨b, o, rfl⟩ : ∃ b o, ad = ⟨b, o, none⟩ := by
        obtain ⟨ao, c', e, _, _, H⟩ := hL
        simp only [Value.slice.injEq, true_and] at e
        obtain ⟨rfl, rfl⟩ := e
        obtain ⟨_, b, o, y, u, z, e, _⟩ := H 0 hm
        exact ⟨b, o, Option.some.inj e⟩
      refine wpList_appP w hg s x hop hty B _ k P hs h hB b o m c R hx hL hm (by unfold maxLen; omega) (fun cap h1 h2 => growslice_fits h2 hfit) hK
    · obtain rfl : m = 0 := by omega
      refine wpList_plain hg fun K hK' => ?_
      obtain ⟨i0, hi, hz0, hz1, hz2⟩ := info_parts info68
      obtain ⟨xs, h1, h2⟩ := h
      rcases h1 with ⟨h1, _⟩ | ⟨g', cap', cur, h1, hg0, hg1, hk, hc, hsz, hpl, htk, hlen⟩
      · simp at h1
      · simp only [Value.slice.injEq, Option.some.injEq, Addr.mk.injEq, and_true, true_and] at h1
        obtain ⟨rfl, rfl⟩ := h1
        have hrun := run_append_room (P := Try.prog) w 59 59 68 i0 Try.underlying59 hi g k cap cur hg1 ad 0 c [] (by simp) (by simp) (by simp) (by omega) (by rw [hz1, hsz]; simp; exact Nat.mul_le_mul_right _ hk)
        have hset : (w.setRow g (cur.toList.take (k * i0.size) ++ [] ++ cur.toList.drop (k * i0.size + ([] : List Value).length)).toArray) = w := by
          simp only [List.append_nil, List.length_nil, Nat.add_zero, List.take_append_drop, Array.toArray_toList]
          exact setRow_id w g cur hg1
        rw [hset] at hrun
        unfold Oper.wp
        simp [execOp, hop, resolve, invoke, builtin, hs, hx, hty, hrun, Result.andThen]
        exact hK' _ _ (hK _ w (PL.congr ⟨xs, Or.inr ⟨g, cap, cur, rfl, hg0, hg1, hk, hc, hsz, hpl, htk, hlen⟩, h2⟩ hcat) ⟨fun _ _ h => h, Below.refl _ _⟩)

/-- A part of a list of pictures. -/
theorem LA.part {w : World} {b o m c : Nat} {P : Nat → Pic} (h : LA w (.slice (some ⟨b, o, none⟩) m c) m P) (i n d : Nat) (hi : i + n ≤ m) (hd : n ≤ d) : LA w (.slice (some ⟨b, o + i * 7, none⟩) n d) n (fun j => P (j + i)) := by
  obtain ⟨ao, c', e, hc, hm, H⟩ := h
  simp only [Value.slice.injEq, true_and] at e
  obtain ⟨rfl, rfl⟩ := e
  refine ⟨_, _, rfl, hd, by omega, fun j hj => ?_⟩
  obtain ⟨hf, b', o', y, u, z, e, hC, hF⟩ := H (j + i) (by omega)
  simp only [Option.some.injEq, Addr.mk.injEq, and_true] at e
  obtain ⟨rfl, rfl⟩ := e
  refine ⟨hf, _, _, y, u, z, rfl, ?_, hF⟩
  have e2 : o + i * 7 + j * 7 = o + (j + i) * 7 := by rw [Nat.add_mul]; omega
  rw [e2]
  exact hC
theorem PL.empty {w : World} {B e : Nat} (hB : B ≤ e) (h : w.heap[e]? = some (.cells #[] 68 (0, 0))) (P : Nat → Pic) : PL w B (.slice (some ⟨e, 0, none⟩) 0 0) 0 P :=
  ⟨[], Or.inr ⟨e, 0, #[], rfl, hB, h, Nat.le_refl _, by unfold maxLen; omega, rfl, fun u hu => by simp at hu, rfl, rfl⟩, fun i hi => absurd hi (Nat.not_lt_zero i)⟩

end Go.Proofs.Ytnnobdcbmagbaaa

/- The law of evaluations. -/
namespace Go.Proofs.Ytnnobdcbmagbaaa
open Go.RowKit
set_option linter.unusedVariables false

/-- What the three lists and the two expressions are, once laid. -/
structure Got (w wx : World) (b1 b2 : Nat) (f1 : Fld) (s1 : Value) (X1 : Ex) (f2 : Fld) (s2 : Value) (X2 : Ex) (g : Nat) (v0 v1 v2 : Value) (m0 m1 m2 : Nat) (P0 P1 P2 : Nat → Pic) : Prop where
  c0 : wx.cell? ⟨g, 0, none⟩ = some v0
  c1 : wx.cell? ⟨g, 1, none⟩ = some v1
  c2 : wx.cell? ⟨g, 2, none⟩ = some v2
  l0 : LA wx v0 m0 P0
  l1 : LA wx v1 m1 P1
  l2 : LA wx v2 m2 P2
  e1 : B8 wx b1 f1 s1
  e2 : B8 wx b2 f2 s2
  x1 : XA wx (f1.val s1) X1
  x2 : XA wx (f2.val s2) X2
  low : Below w.heap.size w wx

theorem Got.below {w wx wy : World} {b1 b2 : Nat} {f1 : Fld} {s1 : Value} {X1 : Ex} {f2 : Fld} {s2 : Value} {X2 : Ex} {g : Nat} {v0 v1 v2 : Value} {m0 m1 m2 : Nat} {P0 P1 P2 : Nat → Pic} (h : Got w wx b1 b2 f1 s1 X1 f2 s2 X2 g v0 v1 v2 m0 m1 m2 P0 P1 P2) (hb : Below wx.heap.size wx wy) : Got w wy b1 b2 f1 s1 X1 f2 s2 X2 g v0 v1 v2 m0 m1 m2 P0 P1 P2 :=
  ⟨(hb.cell (block_lt_of_cell h.c0)).trans h.c0, (hb.cell (block_lt_of_cell h.c1)).trans h.c1, (hb.cell (block_lt_of_cell h.c2)).trans h.c2, h.l0.below hb, h.l1.below hb, h.l2.below hb, h.e1.below hb, h.e2.below hb, h.x1.bel hb, h.x2.bel hb, h.low.trans (hb.mono h.low.size)⟩
def Any (w : World) : Prop := True
theorem emp_at (w : World) (t : TypeId) : (w.alloc (.cells #[] t)).heap[w.heap.size]? = some (.cells #[] t (0, 0)) := by
  show (w.heap.push _)[w.heap.size]? = _
  simp

set_option maxRecDepth 100000 in
set_option maxHeartbeats 1000000 in
theorem law_evals (v l u : Value) (X : Ex) (m : Nat) (R : Nat → Pic) (W H : Int) (w : World) (hv : XA w v X) (hl : LA w l m R) (hl2 : (l = .slice none 0 0 ∧ m = 0) ∨ ∃ a c, l = .slice (some a) m c) (hm : (19 + m) * 112 ≤ 140737488355328) (ht : RI w u) :
    Calls Try.prog 14 #[v, l, u, .int .i64 W, .int .i64 H] w fun e w' => e = .returned (.bool true) ∧ Below w.heap.size w w' := by
  have HV := Lib.hid hv
  have HL := Lib.hid hl
  have HL2 := Lib.hid hl2
  have HT := Lib.hid ht
  obtain ⟨f, eao, ec, hvs⟩ : ∃ (f : Fld) (b : Option Addr) (c : Nat), v = f.val (Value.slice b f.n c) := by
    cases hv with
    | mk f a ao c g hf hc hcell hsub => exact ⟨f, ao, c, rfl⟩
  subst hvs
  obtain ⟨uo, un, uc, rfl, _⟩ := ht
  clear hl hl2
  go_enter Try.func14, Try.ntmps14
  go_upto_region 2 with fail
  simp only [Fld.val]
  obtain ⟨w0, hw0⟩ : ∃ x, x = w.alloc (.cells #[.int .i64 f.op, .string f.media, .int .i64 f.frame, .int .i64 f.num, .int .i64 f.den, .int .i64 f.par, .string f.text, .slice eao f.n ec] 58) := ⟨_, rfl⟩
  rw [← hw0]
  have hs0 : w0.heap.size = w.heap.size + 1 := by rw [hw0]; simp [go_sem]
  have hE0 : Below w.heap.size w w0 := by rw [hw0]; exact below_box _ _
  have hB0 : B8 w0 w.heap.size f (.slice eao f.n ec) := by rw [hw0]; exact B8.of_alloc w _ f _ 58 rfl
  clear hw0
  obtain ⟨w1, hw1⟩ : ∃ x, x = w0.alloc (.cells #[.slice uo un uc, .int .i64 0] 61) := ⟨_, rfl⟩
  rw [← hw1]
  have hs1 : w1.heap.size = w.heap.size + 2 := by rw [hw1]; simp [go_sem, hs0]
  have hE1' : Below w0.heap.size w0 w1 := by rw [hw1]; exact below_box _ _
  have hE1 : Below w.heap.size w w1 := hE0.trans (hE1'.mono (by omega))
  have hT1 : TP w1 w.heap.size (w.heap.size + 1) 0 := by
    refine TP.start HT.out (by omega) (by omega) hE1 ?_ ?_ ?_ <;> rw [hw1, ← hs0] <;> simp [go_sem]
  have HBe := Lib.hid (hB0.below hE1')
  have HTP := Lib.hid hT1
  have HB := Lib.hid hE1
  clear hw1 hE1 hE1' hE0 hB0 hT1 hv HT
  go_wp2_with fail
  refine (expr_any 3 w.heap.size (w.heap.size + 1) 0 w1 HTP.out (by decide) (by omega)).mono ?_
  rintro e w2 ⟨va, Xa, k1, rfl, hX_, hok, hgood, hT_, hk1, hg_⟩
  have hk1' : k1 ≤ 67 := hk1
  obtain ⟨aoa, ca, hva⟩ := hX_.open
  subst hva
  have hs2 : w1.heap.size ≤ w2.heap.size := hg_.size
  have HX := Lib.hid hX_
  replace HTP := Lib.hid hT_
  replace HBe := Lib.hid (HBe.out.only (by omega) hg_)
  have HG := Lib.hid hg_
  clear hX_ hT_ hg_ hk1
  simp only [Fld.val]
  go_wp2_with fail
  obtain ⟨w3, hw3⟩ : ∃ x, x = w2.alloc (.cells #[.int .i64 Xa.f.op, .string Xa.f.media, .int .i64 Xa.f.frame, .int .i64 Xa.f.num, .int .i64 Xa.f.den, .int .i64 Xa.f.par, .string Xa.f.text, .slice aoa Xa.f.n ca] 58) := ⟨_, rfl⟩
  rw [← hw3]
  have hs3 : w3.heap.size = w2.heap.size + 1 := by rw [hw3]; simp [go_sem]
  have hE3 : Below w2.heap.size w2 w3 := by rw [hw3]; exact below_box _ _
  have hB3 : B8 w3 w2.heap.size Xa.f (.slice aoa Xa.f.n ca) := by rw [hw3]; exact B8.of_alloc w2 _ Xa.f _ 58 rfl
  replace HX := Lib.hid (HX.out.bel hE3)
  replace HTP := Lib.hid (HTP.out.below hE3)
  replace HBe := Lib.hid (HBe.out.below hE3)
  replace HB := Lib.hid ((HB.out.trans (only_below HG.out (by omega) (by omega))).trans (hE3.mono (by omega)))
  have HBx := Lib.hid hB3
  clear hw3 hE3 hB3 HG
  refine (pictures_any w.heap.size (w.heap.size + 1) k1 w3 HTP.out (by omega)).mono ?_
  rintro e w4 ⟨vl, xs, P, k2, rfl, hP_, hT_, hk2, hg_⟩
  have hs4 : w3.heap.size ≤ w4.heap.size := hg_.size
  have HPS := Lib.hid hP_
  obtain ⟨gl, capl, rfl, hgl, hcapl⟩ : ∃ g cap, vl = .slice (some ⟨g, 0, none⟩) 24 cap ∧ w3.heap.size ≤ g ∧ 24 ≤ cap := by
    rcases hP_.row with ⟨_, h, _⟩ | ⟨g, cap, cur, h1, h2, h3, h4, h5⟩
    · omega
    · exact ⟨g, cap, h1, h2, h4⟩
  replace HTP := Lib.hid hT_
  replace HBe := Lib.hid (HBe.out.only (by omega) hg_)
  replace HBx := Lib.hid (HBx.out.only (by omega) hg_)
  replace HX := Lib.hid (HX.out.only (by omega) hg_)
  replace HB := Lib.hid (HB.out.trans (only_below hg_ (by omega) (by omega)))
  clear hP_ hT_ hg_
  go_upto_region 4 with fail
  go_cut [44, 45, 46] from 31 to 46 (fun a b c wx => b = .int .i64 3 ∧ c = .int .i64 0 ∧ ∃ g v0 v1 v2 m0 m1 m2 P0 P1 P2, a = .slice (some ⟨g, 0, none⟩) 3 3 ∧ Got w wx w.heap.size w2.heap.size f (.slice eao f.n ec) X Xa.f (.slice aoa Xa.f.n ca) Xa g v0 v1 v2 m0 m1 m2 P0 P1 P2)
  case rest =>
    obtain ⟨rfl, rfl, gg, v0, v1, v2, m0, m1, m2, P0, P1, P2, rfl, hGot⟩ := hcut
    have HGOT := Lib.hid hGot
    clear hGot HTP HPS HBe HBx HX HV HB HL HL2
    go_upto_region 5 with fail
    go_loopw [46] (fun i wx => ∃ n : Nat, n ≤ 3 ∧ i = .int .i64 (n : Int) ∧ Got w wx w.heap.size w2.heap.size f (.slice eao f.n ec) X Xa.f (.slice aoa Xa.f.n ca) Xa gg v0 v1 v2 m0 m1 m2 P0 P1 P2) (fun i _ => 3 - (intOf i).toNat)
    case atStart => exact ⟨0, by omega, rfl, HGOT.out⟩
    case round =>
      obtain ⟨n, hn, rfl, hGot⟩ := hrel
      have HG := Lib.hid hGot
      have hwl := hGot.low.size
      by_cases hlt : n < 3
      · have hdec : decide ((n : Int) < 3) = true := by simp; omega
        obtain ⟨vv, mm, PP, hcv, hlv⟩ : ∃ vv mm PP, wr.cell? ⟨gg, n, none⟩ = some vv ∧ LA wr vv mm PP := by
          rcases (show n = 0 ∨ n = 1 ∨ n = 2 by omega) with rfl | rfl | rfl
          · exact ⟨_, _, _, hGot.c0, hGot.l0⟩
          · exact ⟨_, _, _, hGot.c1, hGot.l1⟩
          · exact ⟨_, _, _, hGot.c2, hGot.l2⟩
        have HLV := Lib.hid hlv
        obtain ⟨b0, b1, b2, b3, b4, b5, b6, b7⟩ := hGot.e1
        obtain ⟨d0, d1, d2, d3, d4, d5, d6, d7⟩ := hGot.e2
        clear hGot hlv
        go_upto_region 8 with fail
        obtain ⟨w5, hw5⟩ : ∃ x, x = wr.alloc (.cells #[.int .i64 Xa.f.op, .string Xa.f.media, .int .i64 Xa.f.frame, .int .i64 Xa.f.num, .int .i64 Xa.f.den, .int .i64 Xa.f.par, .string Xa.f.text, .slice aoa Xa.f.n ca, .int .i64 f.op, .string f.media, .int .i64 f.frame, .int .i64 f.num, .int .i64 f.den, .int .i64 f.par, .string f.text, .slice eao f.n ec] 58) := ⟨_, rfl⟩
        rw [← hw5]
        obtain ⟨ge, hge⟩ : ∃ g, g = wr.heap.size := ⟨_, rfl⟩
        have hB5 : Below wr.heap.size wr w5 := by rw [hw5]; exact below_box _ _
        have HC0 := Lib.hid (show C8 w5 ge 0 Xa.f (.slice aoa Xa.f.n ca) by rw [hw5, hge]; constructor <;> simp [go_sem])
        have HC1 := Lib.hid (show C8 w5 ge 8 f (.slice eao f.n ec) by rw [hw5, hge]; constructor <;> simp [go_sem])
        rw [← hge]
        replace HG := Lib.hid (HG.out.below hB5)
        replace HLV := Lib.hid (HLV.out.below hB5)
        have h5s := hB5.size
        clear hw5 hge b0 b1 b2 b3 b4 b5 b6 b7 d0 d1 d2 d3 d4 d5 d6 d7 hcv hB5
        go_loopw [54] (fun i wx => ∃ k : Nat, k ≤ 2 ∧ i = .int .i64 (k : Int) ∧ Below w5.heap.size w5 wx) (fun i _ => 2 - (intOf i).toNat)
        case atStart => exact ⟨0, by omega, rfl, Below.refl _ _⟩
        case round =>
          obtain ⟨k, hk, rfl, hb6⟩ := hrel
          have HB6 := Lib.hid hb6
          clear hb6
          by_cases hlk : k < 2
          · have hdeck : decide ((k : Int) < 2) = true := by simp; omega
            obtain ⟨F, fao, fc, XX, hC, hXX⟩ : ∃ F fao fc XX, C8 w5 ge (k * 8) F (.slice fao F.n fc) ∧ XA w5 (F.val (.slice fao F.n fc)) XX := by
              rcases (show k = 0 ∨ k = 1 by omega) with rfl | rfl
              · exact ⟨_, _, _, _, HC0.out, HG.out.x2⟩
              · exact ⟨_, _, _, _, HC1.out, HG.out.x1⟩
            have HXX := Lib.hid (hXX.bel HB6.out)
            obtain ⟨c0, c1, c2, c3, c4, c5, c6, c7⟩ := hC.below HB6.out
            clear hC hXX
            go_upto_region 11 with fail
            obtain ⟨w6, hw6⟩ : ∃ x, x = wr.alloc (.cells #[.int .i64 F.op, .string F.media, .int .i64 F.frame, .int .i64 F.num, .int .i64 F.den, .int .i64 F.par, .string F.text, .slice fao F.n fc] 58) := ⟨_, rfl⟩
            rw [← hw6]
            have h6s : w6.heap.size = wr.heap.size + 1 := by rw [hw6]; simp [go_sem]
            have hB7 : Below wr.heap.size wr w6 := by rw [hw6]; exact below_box _ _
            have hE6 : B8 w6 wr.heap.size F (.slice fao F.n fc) := by rw [hw6]; exact B8.of_alloc wr _ F _ 58 rfl
            obtain ⟨w7, hw7⟩ : ∃ x, x = w6.alloc (.cells #[.int .i64 16, .int .i64 16, .int .i64 W, .int .i64 H] 22) := ⟨_, rfl⟩
            rw [← hw7]
            have hB8 : Below w6.heap.size w6 w7 := by rw [hw7]; exact below_box _ _
            obtain ⟨gz, hgz⟩ : ∃ g, g = wr.heap.size + 1 := ⟨_, rfl⟩
            have hz : w7.cell? ⟨gz, 0, none⟩ = some (.int .i64 16) ∧ w7.cell? ⟨gz, 1, none⟩ = some (.int .i64 16) ∧ w7.cell? ⟨gz, 2, none⟩ = some (.int .i64 W) ∧ w7.cell? ⟨gz, 3, none⟩ = some (.int .i64 H) := by rw [hw7, hgz, ← h6s]; simp [go_sem]
            rw [← hgz]
            obtain ⟨gx, hgx⟩ : ∃ g, g = wr.heap.size := ⟨_, rfl⟩
            rw [← hgx] at hE6 ⊢
            have HZ := Lib.hid hz
            have HE7 := Lib.hid (hE6.below hB8)
            have hB9 := hB7.trans (hB8.mono (by omega))
            replace HB6 := Lib.hid (HB6.out.trans (hB9.mono HB6.out.size))
            replace HXX := Lib.hid (HXX.out.bel hB9)
            clear hz hw7 hw6 hB7 hB8 hB9 hE6 c0 c1 c2 c3 c4 c5 c6 c7 hgz hgx h6s
            go_loopw [64] (fun i wx => ∃ q : Nat, q ≤ 2 ∧ i = .int .i64 (q : Int) ∧ Below w7.heap.size w7 wx) (fun i _ => 2 - (intOf i).toNat)
            case atStart => exact ⟨0, by omega, rfl, Below.refl _ _⟩
            case round =>
              obtain ⟨q, hq, rfl, hb⟩ := hrel
              have HBq := Lib.hid hb
              clear hb
              by_cases hlq : q < 2
              · have hdecq : decide ((q : Int) < 2) = true := by simp; omega
                obtain ⟨WW, HH, z0, z1⟩ : ∃ WW HH : Int, wr.cell? ⟨gz, q * 2, none⟩ = some (.int .i64 WW) ∧ wr.cell? ⟨gz, q * 2 + 1, none⟩ = some (.int .i64 HH) := by
                  have hz := HZ.out
                  have hc : ∀ (o : Nat) (x : Value), w7.cell? ⟨gz, o, none⟩ = some x → wr.cell? ⟨gz, o, none⟩ = some x := fun o x h => (HBq.out.cell (block_lt_of_cell h)).trans h
                  rcases (show q = 0 ∨ q = 1 by omega) with rfl | rfl
                  · exact ⟨_, _, hc _ _ hz.1, hc _ _ hz.2.1⟩
                  · exact ⟨_, _, hc _ _ hz.2.2.1, hc _ _ hz.2.2.2⟩
                go_upto_region 13 with fail
                obtain ⟨wp, hwp⟩ : ∃ x, x = wr.alloc (.cells #[.int .i64 WW, .int .i64 HH] 22) := ⟨_, rfl⟩
                rw [← hwp]
                obtain ⟨gp, hgp⟩ : ∃ g, g = wr.heap.size := ⟨_, rfl⟩
                have hBp : Below wr.heap.size wr wp := by rw [hwp]; exact below_box _ _
                have hp0 : wp.cell? ⟨gp, 0, none⟩ = some (.int .i64 WW) := by rw [hwp, hgp]; simp [go_sem]
                have hp1 : wp.cell? ⟨gp, 1, none⟩ = some (.int .i64 HH) := by rw [hwp, hgp]; simp [go_sem]
                rw [← hgp]
                replace HBq := Lib.hid (HBq.out.trans (hBp.mono HBq.out.size))
                clear hwp hgp hBp z0 z1
                obtain ⟨c0, c1, c2, c3, c4, c5, c6, c7⟩ := HE7.out.below HBq.out
                have HX9 := Lib.hid (HXX.out.bel HBq.out)
                have HV9 := Lib.hid ((HLV.out.below HB6.out).below HBq.out)
                go_wp2_with fail
                refine (eval_any _ vv XX mm PP WW HH wp HX9.out HV9.out).mono ?_
                rintro e wa ⟨xa, rfl, hFa, hba⟩
                obtain ⟨E, hE⟩ : ∃ E, E = evE PP mm WW HH XX := ⟨_, rfl⟩
                rw [← hE]
                obtain ⟨prY, crY, prU, crU, prV, crV, rfl⟩ := hFa.shape
                have HFa := Lib.hid hFa
                have HBa := Lib.hid hba
                clear hFa hba
                replace HX9 := Lib.hid (HX9.out.bel HBa.out)
                replace HV9 := Lib.hid (HV9.out.below HBa.out)
                go_upto_region 14 with fail
                obtain ⟨wb, hwb⟩ : ∃ x, x = wa.alloc (.cells #[.int .i64 (evR PP mm WW HH XX).W, .int .i64 (evR PP mm WW HH XX).H, .slice prY (evR PP mm WW HH XX).nY crY, .slice prU (evR PP mm WW HH XX).nU crU, .slice prV (evR PP mm WW HH XX).nV crV] 26) := ⟨_, rfl⟩
                rw [← hwb]
                obtain ⟨gb, hgb⟩ : ∃ g, g = wa.heap.size := ⟨_, rfl⟩
                have hBb : Below wa.heap.size wa wb := by rw [hwb]; exact below_box _ _
                have BXb := Lib.hid (show BX wb gb _ _ _ _ _ by rw [hwb, hgb]; exact BX.of_alloc _ _ _ _ _ _ _)
                rw [← hgb]
                replace HFa := Lib.hid (HFa.out.below hBb)
                have hAb := HBa.out.trans (hBb.mono HBa.out.size)
                replace HX9 := Lib.hid (HX9.out.bel hBb)
                replace HV9 := Lib.hid (HV9.out.below hBb)
                have hp0' := (hAb.cell (block_lt_of_cell hp0)).trans hp0
                have hp1' := (hAb.cell (block_lt_of_cell hp1)).trans hp1
                replace HBq := Lib.hid (HBq.out.trans (hAb.mono HBq.out.size))
                clear hwb hgb hBb hAb c0 c1 c2 c3 c4 c5 c6 c7 hp0 hp1 HBa
                obtain ⟨c0, c1, c2, c3, c4, c5, c6, c7⟩ := HE7.out.below HBq.out
                go_wp2_with fail
                refine (rEval_any _ vv XX mm PP WW HH wb HX9.out HV9.out).mono ?_
                rintro e wc ⟨xc, rfl, hFc, hbc⟩
                rw [← hE]
                obtain ⟨qY, dqY, qU, dqU, qV, dqV, rfl⟩ := hFc.shape
                have HFc := Lib.hid hFc
                replace HFa := Lib.hid (HFa.out.below hbc)
                replace BXb := Lib.hid (BXb.out.below hbc)
                replace HBq := Lib.hid (HBq.out.trans (hbc.mono HBq.out.size))
                clear hFc hbc c0 c1 c2 c3 c4 c5 c6 c7 hp0' hp1' HX9 HV9
                go_upto_region 15 with fail
                obtain ⟨wd, hwd⟩ : ∃ x, x = wc.alloc (.cells #[.int .i64 (evR PP mm WW HH XX).W, .int .i64 (evR PP mm WW HH XX).H, .slice qY (evR PP mm WW HH XX).nY dqY, .slice qU (evR PP mm WW HH XX).nU dqU, .slice qV (evR PP mm WW HH XX).nV dqV] 26) := ⟨_, rfl⟩
                rw [← hwd]
                obtain ⟨gd, hgd⟩ : ∃ g, g = wc.heap.size := ⟨_, rfl⟩
                have hBd : Below wc.heap.size wc wd := by rw [hwd]; exact below_box _ _
                have BXd := Lib.hid (show BX wd gd _ _ _ _ _ by rw [hwd, hgd]; exact BX.of_alloc _ _ _ _ _ _ _)
                rw [← hgd]
                replace HFa := Lib.hid (HFa.out.below hBd)
                replace HFc := Lib.hid (HFc.out.below hBd)
                replace BXb := Lib.hid (BXb.out.below hBd)
                replace HBq := Lib.hid (HBq.out.trans (hBd.mono HBq.out.size))
                clear hwd hgd hBd
                obtain ⟨a0, a1, a2, a3, a4⟩ := BXb.out
                obtain ⟨d0, d1, d2, d3, d4⟩ := BXd.out
                go_wp2_with fail
                refine (same_yes _ _ _ _ wd HFa.out HFc.out (same_self _)).mono ?_
                rintro e we ⟨rfl, hbe⟩
                have HBe := Lib.hid (HBq.out.trans (hbe.mono HBq.out.size))
                clear hbe
                go_wp2_with fail
                refine ⟨⟨q + 1, by omega, by go_num, HBe.out⟩, ?_⟩
                simp [intOf]
                omega
              · have hdecq : decide ((q : Int) < 2) = false := by simp; omega
                go_wp2_with fail
                refine ⟨⟨k + 1, by omega, by go_num, HB6.out.trans (HBq.out.mono HB6.out.size)⟩, ?_⟩
                simp [intOf]
                omega
          · have hdeck : decide ((k : Int) < 2) = false := by simp; omega
            go_wp2_with fail
            refine ⟨⟨n + 1, by omega, by go_num, HG.out.below HB6.out⟩, ?_⟩
            simp [intOf]
            omega
      · have hdec : decide ((n : Int) < 3) = false := by simp; omega
        clear hGot
        go_wp2_with fail
        refine (awake_any _).mono ?_
        rintro e wz ⟨rfl, hb5⟩
        have HB5 := Lib.hid hb5
        clear hb5
        go_wp2_with fail
        go_ret
        exact ⟨rfl, HG.out.low.trans (HB5.out.mono hwl)⟩
  case first =>
  refine Plan.wp_region_tree (fun _ => True) (.run ([0, 1, 2, 3, 4, 8, 9, 11, 15].map (·, true)) (.fork 5 (.run (([6].map (·, true)) ++ (([7, 10, 12, 13].map (·, false)) ++ (([14].map (·, true))))) .leaf) 7 (.dyn (.run (([5].map (·, false)) ++ (([6].map (·, true)) ++ (([10, 12, 13].map (·, false)) ++ (([14].map (·, true)))))) .leaf)))) (by kernel_rfl) (by kernel_rfl) (by kernel_rfl) trivial ?_
  obtain ⟨y0, hy⟩ : ∃ x, x = w4.drew := ⟨_, rfl⟩
  rw [← hy]
  have hy0 : y0.heap.size = w4.heap.size := by rw [hy]; rfl
  have hB_ : Below w4.heap.size w4 y0 := by rw [hy]; exact (Below.refl _ _).drew
  replace HTP := Lib.hid (HTP.out.below hB_)
  replace HPS := Lib.hid (HPS.out.below hB_)
  replace HBe := Lib.hid (HBe.out.below hB_)
  replace HBx := Lib.hid (HBx.out.below hB_)
  replace HX := Lib.hid (HX.out.bel hB_)
  replace HB := Lib.hid (HB.out.trans (hB_.mono (by omega)))
  clear hy hB_
  refine Plan.tree_run ?_
  refine' Plan.plan_seg _ [0, 1, 2, 3, 4, 8, 9, 11, 15] ([]) (by kernel_rfl) (by kernel_rfl) rfl (by exact trivial) (fun wx hS => ?_) ?_
  rotate_left
  · skip
    clear hS
    go_light
    iterate 9 (apply Plan.seg_pick; rfl; intro K hK; go_wp)
    exact Plan.seg_nil
  refine Plan.plan_nil ?_
  refine Plan.tree_fork ?_ ?_
  · skip
    refine Plan.op_of_list rfl (fun K hK => ?_)
    go_wp2_with fail
    refine (next_any w.heap.size (w.heap.size + 1) k2 24 _ HTP.out (by omega) (by omega) (by omega)).mono ?_
    rintro e y1 ⟨ri, rfl, ri0, ri1, hT_, hg_⟩
    obtain ⟨n, rfl⟩ : ∃ n : Nat, ri = n := ⟨ri.toNat, by omega⟩
    have hn : n < 24 := by omega
    have HG1 := Lib.hid hg_
    have hs1' := hg_.size
    clear hT_ hg_ ri0 ri1
    go_wp2_with fail
    refine ⟨trivial, ?_⟩
    refine Plan.tree_run ?_
    refine' Plan.plan_seg _ [6] (([7, 10, 12, 13].map (·, false)) ++ (([14].map (·, true)))) (by kernel_rfl) (by kernel_rfl) rfl (by exact trivial) (fun wx hS => ?_) ?_
    rotate_left
    · skip
      clear hS
      go_light
      iterate 1 (apply Plan.seg_pick; rfl; intro K hK; go_wp)
      exact Plan.seg_nil
    refine Plan.plan_of_effect rfl (fun K hK => ?_)
    go_wp2_with fail
    obtain ⟨y2, hy2⟩ : ∃ x, x = y1.alloc (.cells #[] 68) := ⟨_, rfl⟩
    rw [← hy2]
    obtain ⟨ge, hge⟩ : ∃ g, g = y1.heap.size := ⟨_, rfl⟩
    have hemp : y2.heap[ge]? = some (.cells #[] 68 (0, 0)) := by rw [hy2, hge]; exact emp_at _ _
    have HG2 := Lib.hid (only_trans HG1.out (show y1.grownBy y2 _ by rw [hy2]; exact only_of_below (below_box _ _)))
    rw [← hge]
    clear hy2
    refine ⟨trivial, ?_⟩
    have hge2 : ge < y2.heap.size := (Array.getElem?_eq_some_iff.1 hemp).1
    have hps : PL y2 ge (.slice (some ⟨ge, 0, none⟩) 0 0) 0 P := PL.empty (Nat.le_refl _) hemp P
    have hS2 := HPS.out.only (by omega) HG2.out
    have hl0 : LA y2 (.slice (some ⟨gl, 0, none⟩) 24 capl) 24 P := PL.LA ⟨xs, hS2.row, hS2.holds⟩
    refine Plan.plan_of_effect rfl (fun K hK => ?_)
    refine wpList_appX y2 rfl (.tmp 38) (.tmp 40) rfl rfl ge ge 0 0 P rfl hps (by omega) 19 (fun j => P (j + 5)) _ rfl (Or.inr ⟨_, _, rfl⟩) (hl0.part 5 19 (capl - 5) (by omega) (by omega)) (by omega) (fun v3 y3 hP3 hW3 => ?_)
    have HP3 := Lib.hid hP3
    have HW3 := Lib.hid hW3.below
    clear hps hS2 hl0 hP3 hW3
    go_wp2_with fail
    refine ⟨trivial, ?_⟩
    obtain ⟨ga, c3, rfl⟩ : ∃ ga c3, v3 = .slice (some ⟨ga, 0, none⟩) (0 + 19) c3 := by
      obtain ⟨xs3, h3, _⟩ := HP3.out
      rcases h3 with ⟨_, h, _⟩ | ⟨g, cap, cur, h1, _⟩
      · omega
      · exact ⟨g, cap, h1⟩
    have hL3 : LA y3 l m R := HL.out.below (((HB.out.trans (only_below HG2.out (by omega) (by omega))).trans (HW3.out.mono (by omega))).mono (Nat.le_refl _))
    refine Plan.plan_of_effect rfl (fun K hK => ?_)
    refine wpList_appX y3 rfl (.tmp 41) (.tmp 42) rfl rfl ge ga (0 + 19) c3 _ rfl HP3.out (by have := HW3.out.size; omega) m R _ rfl HL2.out hL3 (by omega) (fun v4 y4 hP4 hW4 => ?_)
    obtain ⟨gb, c4, rfl⟩ : ∃ gb c4, v4 = .slice (some ⟨gb, 0, none⟩) (0 + 19 + m) c4 := by
      obtain ⟨xs4, h4, _⟩ := hP4
      rcases h4 with ⟨_, h, _⟩ | ⟨g, cap, cur, h1, _⟩
      · omega
      · exact ⟨g, cap, h1⟩
    have HP4 := Lib.hid hP4.LA
    have HW4 := Lib.hid (HW3.out.trans hW4.below)
    clear hL3 hP4 hW4
    go_wp2_with fail
    refine ⟨trivial, ?_⟩
    refine Plan.plan_of_effect rfl (fun K hK => ?_)
    go_wp2_with fail
    refine ⟨trivial, ?_⟩
    refine' Plan.plan_seg _ [14] ([]) (by kernel_rfl) (by kernel_rfl) rfl (by exact trivial) (fun wx hS => ?_) ?_
    rotate_left
    · skip
      clear hS
      go_light
      iterate 1 (apply Plan.seg_pick; rfl; intro K hK; go_wp)
      exact Plan.seg_nil
    refine Plan.plan_nil ?_
    refine Plan.tree_leaf ?_
    obtain ⟨y5, hy5⟩ : ∃ x, x = y4.alloc (.cells #[.slice (some ⟨gl, 0, none⟩) 24 capl, .slice (some ⟨gl, 0, none⟩) n capl, .slice (some ⟨gb, 0, none⟩) (19 + m) c4] 59) := ⟨_, rfl⟩
    rw [← hy5]
    have hB5 : Below y4.heap.size y4 y5 := by rw [hy5]; exact below_box _ _
    have hs4' := HW4.out.size
    have HG5 := Lib.hid (only_low HG2.out (HW4.out.trans (hB5.mono (by omega))) (show y0.heap.size ≤ ge by omega))
    have HGot : Got w y5 w.heap.size w2.heap.size f (.slice eao f.n ec) X Xa.f (.slice aoa Xa.f.n ca) Xa y4.heap.size (.slice (some ⟨gl, 0, none⟩) 24 capl) (.slice (some ⟨gl, 0, none⟩) n capl) (.slice (some ⟨gb, 0, none⟩) (19 + m) c4) 24 n (19 + m) P (fun j => P (j + 0)) (cat (0 + 19) (cat 0 P (fun j => P (j + 5))) R) := by
      have hS5 := HPS.out.only (by omega) HG5.out
      have hl5 : LA y5 (.slice (some ⟨gl, 0, none⟩) 24 capl) 24 P := PL.LA ⟨xs, hS5.row, hS5.holds⟩
      have hb5 := HB.out.trans (only_below HG5.out (show w.heap.size ≤ w.heap.size + 1 by omega) (by omega))
      exact ⟨by rw [hy5]; simp [go_sem], by rw [hy5]; simp [go_sem], by rw [hy5]; simp [go_sem], hl5, hl5.part 0 n capl (by omega) (by omega), HP4.out.below hB5, HBe.out.only (by omega) HG5.out, HBx.out.only (by omega) HG5.out, HV.out.bel hb5, (HX.out.only (by omega) HG5.out).XA, hb5⟩
    have HGOT := Lib.hid HGot
    clear HGot hy5
    go_wp2_with fail
    go_meet
    case rel => exact ⟨rfl, rfl, _, _, _, _, _, _, _, _, _, _, rfl, HGOT.out⟩
  · skip
    refine Plan.op_of_list rfl (fun K hK => ?_)
    go_wp2_with fail
    obtain ⟨y1, hy1⟩ : ∃ x, x = y0.alloc (.cells #[] 68) := ⟨_, rfl⟩
    rw [← hy1]
    obtain ⟨ge, hge⟩ : ∃ g, g = w4.heap.size := ⟨_, rfl⟩
    have hemp1 : y1.heap[ge]? = some (.cells #[] 68 (0, 0)) := by rw [hy1, hge, ← hy0]; exact emp_at _ _
    have hbx1 : Below y0.heap.size y0 y1 := by rw [hy1]; exact below_box _ _
    have hT1' := HTP.out.below hbx1
    have HG1 := Lib.hid (show y0.grownBy y1 (some (w.heap.size + 1)) from only_of_below hbx1)
    rw [← hge]
    have hge0 : w4.heap.size ≤ ge := Nat.le_of_eq hge.symm
    clear hy1 hbx1 hge
    refine ⟨trivial, Plan.tree_dyn Any (fun _ _ => trivial) trivial ?_⟩
    refine Plan.tree_run ?_
    refine Plan.plan_of_effect rfl (fun K hK => ?_)
    go_wp2_with fail
    refine (next_any w.heap.size (w.heap.size + 1) k2 24 _ hT1' (by omega) (by omega) (by omega)).mono ?_
    rintro e y2 ⟨ri, rfl, ri0, ri1, hT_, hg_⟩
    obtain ⟨n, rfl⟩ : ∃ n : Nat, ri = n := ⟨ri.toNat, by omega⟩
    have hn : n < 24 := by omega
    have HG2 := Lib.hid (only_trans HG1.out hg_)
    have hge1 : ge < y1.heap.size := (Array.getElem?_eq_some_iff.1 hemp1).1
    have hemp : y2.heap[ge]? = some (.cells #[] 68 (0, 0)) := (hg_.block ge hge1 (by simp; omega)).trans hemp1
    have hs1' := hg_.size
    clear hT_ hT1' hg_ ri0 ri1 hemp1
    go_wp2_with fail
    refine ⟨trivial, ?_⟩
    refine' Plan.plan_seg _ [6] (([10, 12, 13].map (·, false)) ++ (([14].map (·, true)))) (by kernel_rfl) (by kernel_rfl) rfl (by exact trivial) (fun wx hS => ?_) ?_
    rotate_left
    · skip
      clear hS
      go_light
      iterate 1 (apply Plan.seg_pick; rfl; intro K hK; go_wp)
      exact Plan.seg_nil
    have hge2 : ge < y2.heap.size := (Array.getElem?_eq_some_iff.1 hemp).1
    have hps : PL y2 ge (.slice (some ⟨ge, 0, none⟩) 0 0) 0 P := PL.empty (Nat.le_refl _) hemp P
    have hS2 := HPS.out.only (by omega) HG2.out
    have hl0 : LA y2 (.slice (some ⟨gl, 0, none⟩) 24 capl) 24 P := PL.LA ⟨xs, hS2.row, hS2.holds⟩
    refine Plan.plan_of_effect rfl (fun K hK => ?_)
    refine wpList_appX y2 rfl (.tmp 38) (.tmp 40) rfl rfl ge ge 0 0 P rfl hps (by omega) 19 (fun j => P (j + 5)) _ rfl (Or.inr ⟨_, _, rfl⟩) (hl0.part 5 19 (capl - 5) (by omega) (by omega)) (by omega) (fun v3 y3 hP3 hW3 => ?_)
    have HP3 := Lib.hid hP3
    have HW3 := Lib.hid hW3.below
    clear hps hS2 hl0 hP3 hW3
    go_wp2_with fail
    refine ⟨trivial, ?_⟩
    obtain ⟨ga, c3, rfl⟩ : ∃ ga c3, v3 = .slice (some ⟨ga, 0, none⟩) (0 + 19) c3 := by
      obtain ⟨xs3, h3, _⟩ := HP3.out
      rcases h3 with ⟨_, h, _⟩ | ⟨g, cap, cur, h1, _⟩
      · omega
      · exact ⟨g, cap, h1⟩
    have hL3 : LA y3 l m R := HL.out.below (((HB.out.trans (only_below HG2.out (by omega) (by omega))).trans (HW3.out.mono (by omega))).mono (Nat.le_refl _))
    refine Plan.plan_of_effect rfl (fun K hK => ?_)
    refine wpList_appX y3 rfl (.tmp 41) (.tmp 42) rfl rfl ge ga (0 + 19) c3 _ rfl HP3.out (by have := HW3.out.size; omega) m R _ rfl HL2.out hL3 (by omega) (fun v4 y4 hP4 hW4 => ?_)
    obtain ⟨gb, c4, rfl⟩ : ∃ gb c4, v4 = .slice (some ⟨gb, 0, none⟩) (0 + 19 + m) c4 := by
      obtain ⟨xs4, h4, _⟩ := hP4
      rcases h4 with ⟨_, h, _⟩ | ⟨g, cap, cur, h1, _⟩
      · omega
      · exact ⟨g, cap, h1⟩
    have HP4 := Lib.hid hP4.LA
    have HW4 := Lib.hid (HW3.out.trans hW4.below)
    clear hL3 hP4 hW4
    go_wp2_with fail
    refine ⟨trivial, ?_⟩
    refine Plan.plan_of_effect rfl (fun K hK => ?_)
    go_wp2_with fail
    refine ⟨trivial, ?_⟩
    refine' Plan.plan_seg _ [14] ([]) (by kernel_rfl) (by kernel_rfl) rfl (by exact trivial) (fun wx hS => ?_) ?_
    rotate_left
    · skip
      clear hS
      go_light
      iterate 1 (apply Plan.seg_pick; rfl; intro K hK; go_wp)
      exact Plan.seg_nil
    refine Plan.plan_nil ?_
    refine Plan.tree_leaf ?_
    obtain ⟨y5, hy5⟩ : ∃ x, x = y4.alloc (.cells #[.slice (some ⟨gl, 0, none⟩) 24 capl, .slice (some ⟨gl, 0, none⟩) n capl, .slice (some ⟨gb, 0, none⟩) (19 + m) c4] 59) := ⟨_, rfl⟩
    rw [← hy5]
    have hB5 : Below y4.heap.size y4 y5 := by rw [hy5]; exact below_box _ _
    have hs4' := HW4.out.size
    have HG5 := Lib.hid (only_low HG2.out (HW4.out.trans (hB5.mono (by omega))) (show y0.heap.size ≤ ge by omega))
    have HGot : Got w y5 w.heap.size w2.heap.size f (.slice eao f.n ec) X Xa.f (.slice aoa Xa.f.n ca) Xa y4.heap.size (.slice (some ⟨gl, 0, none⟩) 24 capl) (.slice (some ⟨gl, 0, none⟩) n capl) (.slice (some ⟨gb, 0, none⟩) (19 + m) c4) 24 n (19 + m) P (fun j => P (j + 0)) (cat (0 + 19) (cat 0 P (fun j => P (j + 5))) R) := by
      have hS5 := HPS.out.only (by omega) HG5.out
      have hl5 : LA y5 (.slice (some ⟨gl, 0, none⟩) 24 capl) 24 P := PL.LA ⟨xs, hS5.row, hS5.holds⟩
      have hb5 := HB.out.trans (only_below HG5.out (show w.heap.size ≤ w.heap.size + 1 by omega) (by omega))
      exact ⟨by rw [hy5]; simp [go_sem], by rw [hy5]; simp [go_sem], by rw [hy5]; simp [go_sem], hl5, hl5.part 0 n capl (by omega) (by omega), HP4.out.below hB5, HBe.out.only (by omega) HG5.out, HBx.out.only (by omega) HG5.out, HV.out.bel hb5, (HX.out.only (by omega) HG5.out).XA, hb5⟩
    have HGOT := Lib.hid HGot
    clear HGot hy5
    go_wp2_with fail
    go_meet
    case rel => exact ⟨rfl, rfl, _, _, _, _, _, _, _, _, _, _, rfl, HGOT.out⟩

end Go.Proofs.Ytnnobdcbmagbaaa

/- Rows.ComposeBlackSaid is proved here. The shell is the print of the seat's proof-skeleton; the walk is law_black. -/
namespace Go.Proofs.Ytnnobdcbmagbaaa.composeBlack
open Go.ChangeShapes Go.WideShapes Go.ChangeAt Go.RowKit
set_option linter.unusedVariables false

variable {P : Program} {H : Type} {enc : TypeId × Value → H}
/-- The row's post where all that was there when the call began is as it was. -/
theorem post_of_below {f : Func} {s : ChangeSpec} {apart fresh handsOn again : Bool} {W W' : World} {args : Array Value} {v : Value} {ds gs : List (DataW H)} {before pa pv : List MemPlace}
    (hW : DataW.Whole enc P f.params.toList s.vars apart W args.toList ds gs before)
    (hres : ∀ (b : Nat) (sp : Nat → Bool) (hd : Bool), DataW.TrodAll enc P W' b sp hd f.resultTypes.toList (v.resultList f.resultTypes.size) (s.fn H (ds ++ gs)).results [])
    (hargs : ∀ sp : Nat → Bool, (∀ p ∈ before, sp p.block = true) → DataW.TrodAll enc P W' 0 sp true f.params.toList args.toList (s.fn H (ds ++ gs)).args pa)
    (hvars : ∀ sp : Nat → Bool, (∀ p ∈ before, sp p.block = true) → DataW.TrodVars enc P W' sp s.vars (s.fn H (ds ++ gs)).vars pv)
    (hps : before = pa ++ pv) (hb : Below W.heap.size W W')
    (hok : ∀ (j : Nat) (t : TypeId) (r : Value), f.resultTypes[j]? = some t → (v.resultList f.resultTypes.size)[j]? = some r → Value.okWide P W' .any 0 t r) :
    s.post enc P f apart fresh handsOn again W args v W' := by
  have old : ∀ p ∈ before, (fun b => decide (b < W.heap.size)) p.block = true := fun p hp => by simpa using hW.lt p hp
  have kept : W.keptBut W' (· ∈ before) := hb.frame _
  refine ⟨ds, gs, before, [], pa, pv, hW, hres _ _ _, hargs _ old, hvars _ old, World.keptBut_mono (fun p hp => ⟨hp, by rw [hps, List.mem_append] at hp; exact Or.inr hp⟩) kept, fun _ => ?_⟩
  have lt := hW.lt
  obtain ⟨_, _, _, _, _, hz, hn⟩ := hW
  refine ⟨hok, _, _, ([] ++ pa) ++ pv, ⟨[] ++ pa, pv, trodAll_append (hargs _ (fun _ _ => rfl)) (hres _ _ _), hvars _ (fun _ _ => rfl), rfl, ?_, ?_⟩, ?_⟩
  · intro b off hp
    have hp' : MemPlace.cell b off ∈ before := by rw [hps]; simpa using hp
    rw [hb.frozen (p := ⟨b, off, none⟩) (lt _ hp')]
    exact hz b off hp'
  · intro ha
    have h := hn ha
    rw [hps] at h
    simpa using h
  · intro p hp _
    rw [hps]
    simpa using hp

theorem own : ownKnob Try.prog.godebug = none := by kernel_rfl

theorem walk (a0 : Int) (a1 : Int) (w : World) :
    Calls Try.prog 3 #[.int .i64 a0, .int .i64 a1] w fun e w' => e = .returned (.bool true) ∧ Below w.heap.size w w' := law_black a0 a1 w

set_option maxRecDepth 100000 in
theorem lifted (os : Os) (started : os.Started) (H : Type) (enc : TypeId × Value → H) :
    ReturnsInHanded {} Try.checked os 3 .any (Rows.composeBlackSpec.pre6 enc Try.prog Try.f3 Rows.composeBlackRow.domain false) (Rows.composeBlackSpec.post enc Try.prog Try.f3 false true false false) := by
  refine returnsInHanded_of_change (C := Try.checked) own started (by kernel_rfl) Try.func3
    (ChangeSpec.witness6 (enc := enc) (C := Try.checked) false ⟨#[], #[.int .i64 0, .int .i64 0], []⟩ 8 (by kernel_rfl) (by kernel_rfl) (by kernel_rfl) (by kernel_rfl)) ?_
  intro W base args ds gs before hval0 hW hcnd _
  have hval : ∀ (j : Nat) t v, Try.f3.params[j]? = some t → args[j]? = some v → Value.okWide Try.prog W .any base t v := hval0
  have hW' := hW
  obtain ⟨p, q, hA0, hV, rfl, hfz, hnd⟩ := hW
  have hA : DataW.TrodAll enc Try.prog W 0 (fun _ => true) true Try.f3.params.toList args.toList ds p := hA0
  rw [Try.params3] at hA hval
  obtain ⟨v0, vs0, d0, ds0, p0, q0, hargs, rfl, rfl, h0, r0⟩ := trodAll_cons hA
  obtain ⟨v1, vs1, d1, ds1, p1, q1, rfl, rfl, rfl, h1, r1⟩ := trodAll_cons r0
  obtain ⟨rfl, rfl, rfl⟩ := trodAll_nil r1
  obtain rfl : args = #[v0, v1] := by cases args; simp_all
  obtain ⟨rfl, rfl⟩ := trodVars_none hV
  obtain ⟨a0, rfl, rfl, rfl, w0⟩ := open_int Try.underlying3 (hval 0 3 v0 rfl rfl) h0
  obtain ⟨a1, rfl, rfl, rfl, w1⟩ := open_int Try.underlying3 (hval 1 3 v1 rfl rfl) h1
  clear hA0 hval0
  simp only [List.append_nil] at hW'
  refine (walk a0 a1 W).mono fun e W' ⟨he, hg⟩ => ?_
  subst he
  exact ⟨_, rfl, post_of_below (pa := []) (pv := []) hW' (fun _ _ _ => (trodAll_cons_mk (shut_bool Try.underlying4 _) trodAll_mk0)) (fun sp _ => (trodAll_cons_mk (shut_int Try.underlying3 w0) (trodAll_cons_mk (shut_int Try.underlying3 w1) trodAll_mk0))) (fun _ _ => rfl) rfl
    hg (ok_one (by kernel_rfl) rfl (okWide_bool_mk Try.underlying4 _))⟩

theorem over : Rows.composeBlackRow.holds Try.pinned (OpenSpec.ofChange Rows.composeBlackSpec) :=
  OpenClaim.holds_of_wide 3 Try.f3 rfl rfl rfl rfl rfl rfl rfl ⟨rfl, rfl, rfl, rfl, rfl⟩ rfl rfl rfl rfl rfl (by kernel_rfl) Try.func3 (by kernel_rfl)
    (of_decide_eq_true (by kernel_rfl)) (by unfold Func.isWrapper; first | (rw [if_pos (by decide +kernel)]; kernel_rfl) | (rw [if_neg (by decide +kernel)]; exact ⟨rfl, rfl⟩))
    (fun os started H enc _ => lifted os started H enc)

/-- The statement. -/
theorem proved : Rows.ComposeBlackSaid :=
  over
end Go.Proofs.Ytnnobdcbmagbaaa.composeBlack

/- Aid for the rows: arguments that stay as they were; a slice of integers, a frame, read off an argument. -/
namespace Go.Proofs.Ytnnobdcbmagbaaa
open Go.ChangeShapes Go.WideShapes Go.ChangeAt Go.RowKit

theorem laid_out : laidOutB Try.prog = true := by kernel_rfl
theorem cells3 : Try.prog.cellsOf 3 = 1 := by kernel_rfl
theorem cells5 : Try.prog.cellsOf 5 = 1 := by kernel_rfl

section
variable {H : Type} {enc : TypeId × Value → H}

theorem trodAll_stays {P : Program} (hl : laidOutB P = true) {W W' : World} {sp : Nat → Bool} (hb : Below W.heap.size W W') : ∀ {ts : List TypeId} {vs : List Value} {ds : List (DataW H)} {ps : List MemPlace}, (ts.all fun t => P.readableRec t && decide (t < P.types.size)) = true →
    DataW.TrodAll enc P W 0 (fun _ => true) true ts vs ds ps → (∀ x ∈ ps, x.block < W.heap.size) → (∀ x ∈ ps, sp x.block = true) → DataW.TrodAll enc P W' 0 sp true ts vs ds ps := by
  intro ts
  induction ts with
  | nil =>
    intro vs ds ps _ h _ _
    cases vs with
    | nil => cases ds with
      | nil => exact h
      | cons => exact h.elim
    | cons => exact h.elim
  | cons t ts ih =>
    intro vs ds ps hr h hlt hs
    cases vs with
    | nil => exact h.elim
    | cons v vs => cases ds with
      | nil => exact h.elim
      | cons d ds =>
        obtain ⟨p, q, h1, h2, rfl⟩ := h
        simp only [List.all_cons, Bool.and_eq_true, decide_eq_true_eq] at hr
        exact ⟨p, q, WideElems.Trod_stays hl hr.1.1 hr.1.2 h1 (fun x hx => hb.same (hlt x (List.mem_append_left _ hx))) (fun x hx => hs x (List.mem_append_left _ hx)),
          ih hr.2 h2 (fun x hx => hlt x (List.mem_append_right _ hx)) (fun x hx => hs x (List.mem_append_right _ hx)), rfl⟩

set_option maxRecDepth 100000 in
/-- A slice of integers that came in. -/
theorem open_tape {W : World} {base : Nat} {v : Value} {d : DataW H} {p : List MemPlace} (hval : Value.okWide Try.prog W .any base 33 v) (h : DataW.Trod enc Try.prog W 0 (fun _ => true) true 33 v d p) : RI W v := by
  obtain ⟨a1, len, cap, rfl⟩ := okWide_slice Try.underlying33 hval
  obtain ⟨fuel, hf⟩ := h
  rcases open_ints Try.underlying33 Try.underlying3 cells3 hf with ⟨hcs, hx⟩ | ⟨a, len', cap', zs, hcs, _, hl, hm, hz, hx, hcell, hwz⟩
  · simp [Value.cells] at hcs
    obtain ⟨rfl, rfl, rfl⟩ := hcs
    exact ⟨none, 0, 0, rfl, Nat.le_refl _, by omega, fun i hi => absurd hi (Nat.not_lt_zero i)⟩
  · simp [Value.cells] at hcs
    obtain ⟨rfl, rfl, rfl⟩ := hcs
    simp only [if_true] at hz
    refine ⟨_, _, _, rfl, hl, by unfold maxLen at hm; omega, fun i hi => ?_⟩
    obtain ⟨ab, ao, spot⟩ := a
    have hspot : spot = none := by simpa [Addr.add] using World.cell?_spot (hcell 0 (by omega))
    subst hspot
    have hc := hcell i (by omega)
    rw [Addr.add_lit] at hc
    exact ⟨ab, ao, _, rfl, hc⟩

end
end Go.Proofs.Ytnnobdcbmagbaaa

/- Aid for the rows: a frame read off an argument. -/
namespace Go.Proofs.Ytnnobdcbmagbaaa
open Go.ChangeShapes Go.WideShapes Go.ChangeAt Go.RowKit
set_option linter.unusedVariables false

section
variable {H : Type} {enc : TypeId × Value → H}

set_option maxRecDepth 100000 in
theorem bytes_of {W : World} {n : Nat} {c : Value} {y : DataW H × List MemPlace} (h : DataW.trod enc Try.prog W 0 (fun _ => true) true n 24 [c] = some y) : ∃ m f, BA W c m f := by
  rcases open_ints Try.underlying24 Try.underlying5 cells5 h with ⟨hcs, hx⟩ | ⟨a, len', cap', zs, hcs, _, hl, hm, hz, hx, hcell, hwz⟩
  · obtain rfl : c = .slice none 0 0 := by simpa using hcs
    exact ⟨0, fun _ => 0, none, 0, rfl, Nat.le_refl _, fun i hi => absurd hi (Nat.not_lt_zero i)⟩
  · obtain rfl : c = .slice (some a) len' cap' := by simpa using hcs
    simp only [if_true] at hz
    refine ⟨len', fun i => zs.getD i 0, _, _, rfl, hl, fun i hi => ?_⟩
    obtain ⟨ab, ao, spot⟩ := a
    have hspot : spot = none := by simpa [Addr.add] using World.cell?_spot (hcell 0 (by omega))
    subst hspot
    have hc := hcell i (by omega)
    rw [Addr.add_lit] at hc
    refine ⟨⟨ab, ao, rfl, hc⟩, ?_⟩
    have hb := hwz (zs.getD i 0) (by
      rw [List.getD_eq_getElem?_getD, List.getElem?_eq_getElem (show i < zs.length by omega)]
      exact List.getElem_mem _)
    simp only [Lit.wf, IntKind.min, IntKind.max, IntKind.signed, IntKind.bits] at hb
    simp at hb
    exact ⟨hb.1, by have := hb.2; show zs.getD i 0 < 256; rw [List.getD_eq_getElem?_getD]; omega⟩

theorem cells26 : Try.prog.cellsOf 26 = 5 := by kernel_rfl
theorem cells24 : Try.prog.cellsOf 24 = 1 := by kernel_rfl

set_option maxRecDepth 100000 in
/-- A frame that came in. -/
theorem open_frame {W : World} {base : Nat} {v : Value} {d : DataW H} {p : List MemPlace} (hval : Value.okWide Try.prog W .any base 26 v) (h : DataW.Trod enc Try.prog W 0 (fun _ => true) true 26 v d p) : ∃ F, FA W v F := by
  obtain ⟨cs, rfl, hsz⟩ := okWide_struct Try.underlying26 hval
  obtain ⟨fuel, hf⟩ := h
  obtain ⟨xs, n, _, hx, _, hlen, hg⟩ := DataW.trod_struct Try.underlying26 hf
  obtain ⟨l⟩ := cs
  match l, hsz.trans cells26 with
  | [c0, c1, c2, c3, c4], _ =>
    match xs, hlen with
    | [y0, y1, y2, y3, y4], _ =>
      have h0 := hg 0 _ rfl
      have h1 := hg 1 _ rfl
      have h2 := hg 2 _ rfl
      have h3 := hg 3 _ rfl
      have h4 := hg 4 _ rfl
      simp [Value.cells, cells3, cells24] at h0 h1 h2 h3 h4
      obtain ⟨a, e0, _⟩ := DataW.trod_int Try.underlying3 h0
      obtain ⟨b, e1, _⟩ := DataW.trod_int Try.underlying3 h1
      obtain rfl : c0 = .int .i64 a := by simpa using e0
      obtain rfl : c1 = .int .i64 b := by simpa using e1
      obtain ⟨m2, f2, b2⟩ := bytes_of h2
      obtain ⟨m3, f3, b3⟩ := bytes_of h3
      obtain ⟨m4, f4, b4⟩ := bytes_of h4
      exact ⟨⟨a, b, m2, m3, m4, f2, f3, f4⟩, _, _, _, rfl, b2, b3, b4⟩

end
end Go.Proofs.Ytnnobdcbmagbaaa

/- Aid for the rows: an expression read off an argument. -/
namespace Go.Proofs.Ytnnobdcbmagbaaa
open Go.ChangeShapes Go.WideShapes Go.ChangeAt Go.RowKit
set_option linter.unusedVariables false

theorem cellsT2 : Try.prog.cellsOf 2 = 1 := by kernel_rfl
theorem cellsT3 : Try.prog.cellsOf 3 = 1 := by kernel_rfl
theorem cellsT9 : Try.prog.cellsOf 9 = 1 := by kernel_rfl
theorem cellsT56 : Try.prog.cellsOf 56 = 1 := by kernel_rfl
theorem cellsT58 : Try.prog.cellsOf 58 = 8 := by kernel_rfl

section
variable {H : Type} {enc : TypeId × Value → H}

theorem size_mem {l : List (DataW H)} {d : DataW H} (h : d ∈ l) : SizeOf.sizeOf d < SizeOf.sizeOf l := List.sizeOf_lt_of_mem h

set_option maxRecDepth 100000 in
theorem expr_of {W : World} : ∀ (N : Nat) (y : DataW H × List MemPlace), SizeOf.sizeOf y.1 ≤ N → ∀ (n : Nat) (cs : List Value), DataW.trod enc Try.prog W 0 (fun _ => true) true n 58 cs = some y →
    ∃ (f : Fld) (ao : Option Addr) (c : Nat) (a : Nat → Ex), cs = [.int .i64 f.op, .string f.media, .int .i64 f.frame, .int .i64 f.num, .int .i64 f.den, .int .i64 f.par, .string f.text, .slice ao f.n c] ∧ XA W (f.val (.slice ao f.n c)) (.mk f a) := by
  intro N
  induction N with
  | zero =>
    intro y hy n cs h
    obtain ⟨xs, n2, _, hx, _⟩ := DataW.trod_struct Try.underlying58 h
    rw [hx] at hy
    simp at hy
  | succ N ih =>
    intro y hy n cs h
    obtain ⟨xs, n2, _, hx, hl, hxl, hg⟩ := DataW.trod_struct Try.underlying58 h
    rw [cellsT58] at hl
    match cs, hl with
    | [c0, c1, c2, c3, c4, c5, c6, c7], _ =>
      match xs, hxl with
      | [y0, y1, y2, y3, y4, y5, y6, y7], _ =>
        have h0 := hg 0 _ rfl
        have h1 := hg 1 _ rfl
        have h2 := hg 2 _ rfl
        have h3 := hg 3 _ rfl
        have h4 := hg 4 _ rfl
        have h5 := hg 5 _ rfl
        have h6 := hg 6 _ rfl
        have h7 := hg 7 _ rfl
        simp [cellsT2, cellsT3, cellsT9, cellsT56] at h0 h1 h2 h3 h4 h5 h6 h7
        obtain ⟨op, e0, _⟩ := DataW.trod_int Try.underlying3 h0
        obtain ⟨media, e1, _, hm⟩ := DataW.trod_string Try.underlying9 h1
        obtain ⟨frame, e2, _⟩ := DataW.trod_int Try.underlying2 h2
        obtain ⟨num, e3, _⟩ := DataW.trod_int Try.underlying2 h3
        obtain ⟨den, e4, _⟩ := DataW.trod_int Try.underlying2 h4
        obtain ⟨par, e5, _⟩ := DataW.trod_int Try.underlying3 h5
        obtain ⟨text, e6, _, ht⟩ := DataW.trod_string Try.underlying9 h6
        obtain rfl : c0 = .int .i64 op := by simpa using e0
        obtain rfl : c1 = .string media := by simpa using e1
        obtain rfl : c2 = .int .i64 frame := by simpa using e2
        obtain rfl : c3 = .int .i64 num := by simpa using e3
        obtain rfl : c4 = .int .i64 den := by simpa using e4
        obtain rfl : c5 = .int .i64 par := by simpa using e5
        obtain rfl : c6 = .string text := by simpa using e6
        have hy7 : SizeOf.sizeOf y7.1 < SizeOf.sizeOf y.1 := by
          rw [hx]
          have h := size_mem (l := [y0.1, y1.1, y2.1, y3.1, y4.1, y5.1, y6.1, y7.1]) (d := y7.1) (by simp)
          simp only [List.map_cons, List.map_nil, DataW.agg.sizeOf_spec]
          omega
        rcases Go.Deep.open_slice Try.underlying56 h7 with ⟨hcs, _⟩ | ⟨a, len, cap, m, n', D, Pl, hcs, _, hlc, hcm, hmm, hy7', hi⟩
        · obtain rfl : c7 = .slice none 0 0 := by simpa using hcs
          exact ⟨⟨op, media, frame, num, den, par, text, 0⟩, none, 0, fun _ => .nil, rfl, .mk _ _ _ _ (fun _ => .slice none 0 0) ⟨by unfold maxLen at hm; exact Nat.le_trans hm (by decide), by unfold maxLen at ht; exact Nat.le_trans ht (by decide), by show (0 : Nat) ≤ _; omega⟩ (Nat.le_refl _) (fun i hi => absurd hi (Nat.not_lt_zero i)) (fun i hi => absurd hi (Nat.not_lt_zero i))⟩
        · obtain rfl : c7 = .slice (some a) len cap := by simpa using hcs
          simp only [if_true] at hmm
          subst hmm
          have hD : ∀ i, i < len → SizeOf.sizeOf (D i) ≤ N := fun i hil => by
            have h := size_mem (l := (List.range len).map D) (d := D i) (List.mem_map.2 ⟨i, List.mem_range.2 hil, rfl⟩)
            rw [hy7'] at hy7
            simp only [DataW.slice.sizeOf_spec] at hy7
            omega
          obtain ⟨ab, ao, spot⟩ := a
          have key : ∀ i : Nat, ∃ (X : Ex) (g : Value), i < len → spot = none ∧ (∀ j, j < 8 → W.cell? ⟨ab, ao + i * 8 + j, none⟩ = cells8 X.f g j) ∧ XA W (X.f.val g) X := by
            intro i
            by_cases hil : i < len
            · obtain ⟨cs', hc', ht'⟩ := hi i (by omega)
              rw [cellsT58] at hc'
              obtain ⟨_, hl', hat⟩ := World.cells?_some hc'
              obtain ⟨f, ao', c', a', rfl, hXA⟩ := ih (D i, Pl i) (hD i hil) n' cs' ht'
              have hspot : spot = none := by
                obtain ⟨cs0, hc0, ht0⟩ := hi 0 (by omega)
                rw [cellsT58] at hc0
                obtain ⟨_, hl0, hat0⟩ := World.cells?_some hc0
                have h0 := hat0 0 (by decide)
                rw [List.getElem?_eq_getElem (by omega)] at h0
                have := World.cell?_spot h0
                simpa [Addr.add] using this
              subst hspot
              refine ⟨.mk f a', .slice ao' f.n c', fun _ => ⟨rfl, fun j hj => ?_, hXA⟩⟩
              have := hat j hj
              rw [Addr.add_lit, Addr.add_lit] at this
              rw [this]
              match j, hj with
              | 0, _ => rfl
              | 1, _ => rfl
              | 2, _ => rfl
              | 3, _ => rfl
              | 4, _ => rfl
              | 5, _ => rfl
              | 6, _ => rfl
              | 7, _ => rfl
            · exact ⟨.nil, .slice none 0 0, fun h => absurd h hil⟩
          refine ⟨⟨op, media, frame, num, den, par, text, len⟩, some ⟨ab, ao, spot⟩, m, fun i => Classical.choose (key i), rfl, .mk _ _ _ _ (fun i => Classical.choose (Classical.choose_spec (key i))) ⟨by unfold maxLen at hm; exact Nat.le_trans hm (by decide), by unfold maxLen at ht; exact Nat.le_trans ht (by decide), by unfold maxLen at hcm; show len ≤ _; omega⟩ (by omega) (fun i hil => ?_) (fun i hil => ?_)⟩
          · obtain ⟨rfl, h, _⟩ := Classical.choose_spec (Classical.choose_spec (key i)) hil
            exact ⟨ab, ao, rfl, h⟩
          · exact (Classical.choose_spec (Classical.choose_spec (key i)) hil).2.2

theorem cellsT24 : Try.prog.cellsOf 24 = 1 := by kernel_rfl
theorem cellsT26 : Try.prog.cellsOf 26 = 5 := by kernel_rfl
theorem cellsT68 : Try.prog.cellsOf 68 = 7 := by kernel_rfl
set_option maxRecDepth 100000 in
theorem frame_of {W : World} {n : Nat} {cs : List Value} {y : DataW H × List MemPlace} (h : DataW.trod enc Try.prog W 0 (fun _ => true) true n 26 cs = some y) :
    ∃ (F : Fr) (c2 c3 c4 : Value), cs = [.int .i64 F.W, .int .i64 F.H, c2, c3, c4] ∧ FA W (.agg #[.int .i64 F.W, .int .i64 F.H, c2, c3, c4]) F := by
  obtain ⟨xs, n2, _, hx, hl, hlen, hg⟩ := DataW.trod_struct Try.underlying26 h
  rw [cellsT26] at hl
  match cs, hl with
  | [c0, c1, c2, c3, c4], _ =>
    match xs, hlen with
    | [y0, y1, y2, y3, y4], _ =>
      have h0 := hg 0 _ rfl
      have h1 := hg 1 _ rfl
      have h2 := hg 2 _ rfl
      have h3 := hg 3 _ rfl
      have h4 := hg 4 _ rfl
      simp [cellsT3, cellsT24] at h0 h1 h2 h3 h4
      obtain ⟨a, e0, _⟩ := DataW.trod_int Try.underlying3 h0
      obtain ⟨b, e1, _⟩ := DataW.trod_int Try.underlying3 h1
      obtain rfl : c0 = .int .i64 a := by simpa using e0
      obtain rfl : c1 = .int .i64 b := by simpa using e1
      obtain ⟨m2, f2, b2⟩ := bytes_of h2
      obtain ⟨m3, f3, b3⟩ := bytes_of h3
      obtain ⟨m4, f4, b4⟩ := bytes_of h4
      exact ⟨⟨a, b, m2, m3, m4, f2, f3, f4⟩, c2, c3, c4, rfl, _, _, _, rfl, b2, b3, b4⟩

set_option maxRecDepth 100000 in
theorem pics_of {W : World} {n : Nat} {c : Value} {y : DataW H × List MemPlace} (h : DataW.trod enc Try.prog W 0 (fun _ => true) true n 59 [c] = some y) :
    ∃ (m : Nat) (P : Nat → Pic), LA W c m P ∧ ((c = .slice none 0 0 ∧ m = 0) ∨ ∃ a d, c = .slice (some a) m d) := by
  rcases Go.Deep.open_slice Try.underlying59 h with ⟨hcs, _⟩ | ⟨a, len, cap, m, n', D, Pl, hcs, _, hlc, hcm, hmm, _, hi⟩
  · obtain rfl : c = .slice none 0 0 := by simpa using hcs
    exact ⟨0, fun _ => ⟨ByteArray.empty, 0, Fr.zero⟩, ⟨none, 0, rfl, Nat.le_refl _, by omega, fun i hi => absurd hi (Nat.not_lt_zero i)⟩, Or.inl ⟨rfl, rfl⟩⟩
  · obtain rfl : c = .slice (some a) len cap := by simpa using hcs
    simp only [if_true] at hmm
    subst hmm
    obtain ⟨ab, ao, spot⟩ := a
    have key : ∀ i : Nat, ∃ Q : Pic, i < len → spot = none ∧ Q.fit ∧ ∃ y u z, C7 W ab (ao + i * 7) Q y u z ∧ FA W (.agg #[.int .i64 Q.fr.W, .int .i64 Q.fr.H, y, u, z]) Q.fr := by
      intro i
      by_cases hil : i < len
      · obtain ⟨cs', hc', ht'⟩ := hi i (by omega)
        rw [cellsT68] at hc'
        obtain ⟨_, hl', hat⟩ := World.cells?_some hc'
        have hspot : spot = none := by
          obtain ⟨cs0, hc0, ht0⟩ := hi 0 (by omega)
          rw [cellsT68] at hc0
          obtain ⟨_, hl0, hat0⟩ := World.cells?_some hc0
          have h0 := hat0 0 (by decide)
          rw [List.getElem?_eq_getElem (by omega)] at h0
          have := World.cell?_spot h0
          simpa [Addr.add] using this
        subst hspot
        obtain ⟨xs, n2, _, hx, hl, hxl, hg⟩ := DataW.trod_struct Try.underlying68 ht'
        rw [cellsT68] at hl
        match cs', hl with
        | [c0, c1, c2, c3, c4, c5, c6], _ =>
          match xs, hxl with
          | [y0, y1, y2], _ =>
            have h0 := hg 0 _ rfl
            have h1 := hg 1 _ rfl
            have h2 := hg 2 _ rfl
            simp [cellsT2, cellsT9, cellsT26] at h0 h1 h2
            obtain ⟨media, e0, _, hm⟩ := DataW.trod_string Try.underlying9 h0
            obtain ⟨num, e1, _, hw⟩ := DataW.trod_int Try.underlying2 h1
            obtain rfl : c0 = .string media := by simpa using e0
            obtain rfl : c1 = .int .i64 num := by simpa using e1
            obtain ⟨F, d2, d3, d4, e2, hF⟩ := frame_of h2
            simp only [List.cons.injEq, and_true] at e2
            obtain ⟨rfl, rfl, rfl, rfl, rfl⟩ := e2
            simp only [Lit.wf, min64, max64, Bool.and_eq_true, decide_eq_true_eq] at hw
            refine ⟨⟨media, num, F⟩, fun _ => ⟨rfl, ⟨by unfold maxLen at hm; exact Nat.le_trans hm (by decide), hw.1, hw.2⟩, c4, c5, c6, ?_, hF⟩⟩
            have hc : ∀ j, j < 7 → W.cell? ⟨ab, ao + i * 7 + j, none⟩ = ([.string media, .int .i64 num, .int .i64 F.W, .int .i64 F.H, c4, c5, c6] : List Value)[j]? := fun j hj => by
              have := hat j hj
              rw [Addr.add_lit, Addr.add_lit] at this
              exact this
            exact ⟨hc 0 (by decide), hc 1 (by decide), hc 2 (by decide), hc 3 (by decide), hc 4 (by decide), hc 5 (by decide), hc 6 (by decide)⟩
      · exact ⟨⟨ByteArray.empty, 0, Fr.zero⟩, fun h => absurd h hil⟩
    refine ⟨len, fun i => Classical.choose (key i), ⟨_, _, rfl, hlc, by unfold maxLen at hcm; omega, fun i hil => ?_⟩, Or.inr ⟨_, _, rfl⟩⟩
    obtain ⟨rfl, h1, y, u, z, h2, h3⟩ := Classical.choose_spec (key i) hil
    exact ⟨h1, ab, ao, y, u, z, rfl, h2, h3⟩

end
end Go.Proofs.Ytnnobdcbmagbaaa
