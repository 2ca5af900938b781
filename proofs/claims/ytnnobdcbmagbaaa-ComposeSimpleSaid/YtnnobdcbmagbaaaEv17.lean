/- Texts of this claim joined: KE UE. -/
import Derived.Test.YtnnobdcbmagbaaaEv08
import Derived.Test.YtnnobdcbmagbaaaEv10
import Derived.Test.YtnnobdcbmagbaaaEv16
set_option linter.unusedVariables false
set_option linter.unusedSimpArgs false

/- Both Keys answer the same frame and error. -/
namespace Go.Proofs.Ytnnobdcbmagbaaa
open Go.RowKit

def keyR (F G : Fr) (t : Int) : Fr := if pairOk F G && okThr t then keyFr t F G else Fr.zero
def keyE (F G : Fr) (t : Int) : Int := if pairOk F G && okThr t then 0 else 1

theorem key_any (v u : Value) (F G : Fr) (t : Int) (w : World) (hv : FA w v F) (hu : FA w u G) :
    Calls Try.prog 26 #[v, u, .int .i64 t] w fun e w' => ∃ r, e = .returned (.tuple #[r, .int .i64 (keyE F G t)]) ∧ FA w' r (keyR F G t) ∧ Below w.heap.size w w' := by
  cases h : pairOk F G && okThr t
  · refine (key_no v u F G t w hv hu h).mono ?_
    rintro e w' ⟨rfl, hb⟩
    exact ⟨zeroV, by simp [keyE, h], by simp only [keyR, h]; exact FA.zero _, hb⟩
  · have h' := h
    simp only [Bool.and_eq_true] at h'
    refine (key_yes v u F G t w hv hu h'.1 h'.2).mono ?_
    rintro e w' ⟨r, rfl, hf, hb⟩
    exact ⟨r, by simp [keyE, h], by simp only [keyR, h]; exact hf, hb⟩

theorem rkey_any (v u : Value) (F G : Fr) (t : Int) (w : World) (hv : FA w v F) (hu : FA w u G) :
    Calls Try.prog 27 #[v, u, .int .i64 t] w fun e w' => ∃ r, e = .returned (.tuple #[r, .int .i64 (keyE F G t)]) ∧ FA w' r (keyR F G t) ∧ Below w.heap.size w w' := by
  cases h : pairOk F G && okThr t
  · refine (rkey_no v u F G t w hv hu h).mono ?_
    rintro e w' ⟨rfl, hb⟩
    exact ⟨zeroV, by simp [keyE, h], by simp only [keyR, h]; exact FA.zero _, hb⟩
  · have h' := h
    simp only [Bool.and_eq_true] at h'
    refine (rkey_yes v u F G t w hv hu h'.1 h'.2).mono ?_
    rintro e w' ⟨r, rfl, hf, hb⟩
    exact ⟨r, by simp [keyE, h], by simp only [keyR, h]; exact hf, hb⟩

end Go.Proofs.Ytnnobdcbmagbaaa

/- The contract of compose.Title where it answers a frame. -/
namespace Go.Proofs.Ytnnobdcbmagbaaa
open Go.RowKit
set_option linter.unusedVariables false

theorem valid_b (v : Value) (F : Fr) (w : World) (hv : FA w v F) : Calls Try.prog 57 #[v] w fun e w' => e = .returned (.bool F.ok) ∧ Below w.heap.size w w' := by
  refine (valid_any v F w hv).mono ?_
  rintro e w' ⟨rfl, rfl⟩
  exact ⟨rfl, below_box _ _⟩
theorem r20valid_b (v : Value) (F : Fr) (w : World) (hv : FA w v F) : Calls Try.prog 38 #[v] w fun e w' => e = .returned (.bool F.ok) ∧ Below w.heap.size w w' := by
  refine (r20valid_any v F w hv).mono ?_
  rintro e w' ⟨rfl, rfl⟩
  exact ⟨rfl, below_box _ _⟩
theorem At.pos {w : World} {b : Nat} {s : ByteArray} {pos : Nat} (h : At w b s pos) : w.iterPos b = pos := by
  unfold At at h; simp [World.iterPos, h]
/-- One of four blocks. -/
def In4 (g1 g2 g3 g4 : Nat) (b : Nat) : Prop := b = g1 ∨ b = g2 ∨ b = g3 ∨ b = g4
theorem In4.no {g1 g2 g3 g4 b : Nat} (h1 : b ≠ g1) (h2 : b ≠ g2) (h3 : b ≠ g3) (h4 : b ≠ g4) : ¬ In4 g1 g2 g3 g4 b := by unfold In4; omega
theorem In4.ge {g1 g2 g3 g4 B : Nat} (h1 : B ≤ g1) (h2 : B ≤ g2) (h3 : B ≤ g3) (h4 : B ≤ g4) : ∀ b, In4 g1 g2 g3 g4 b → B ≤ b := by unfold In4; omega
theorem In4.d (g1 g2 g3 g4 : Nat) : In4 g1 g2 g3 g4 g4 := .inr (.inr (.inr rfl))
theorem OnlyP.wide {w w' : World} {P Q : Nat → Prop} (k : OnlyP w w' P) (h : ∀ b, P b → Q b) : OnlyP w w' Q :=
  ⟨k.os, k.tape, k.output, k.size, fun i hi hq => k.block i hi (fun hp => hq (h i hp))⟩
theorem In3.four (g1 g2 g3 g4 : Nat) : ∀ b, In3 g1 g2 g3 b → In4 g1 g2 g3 g4 b := by unfold In3 In4; omega
theorem K3.only {w w' : World} {P : Nat → Prop} {B g1 g2 g3 n1 n2 n3 c1 c2 c3 : Nat} {F1 F2 F3 : Nat → Int} (h : K3 w B g1 g2 g3 n1 n2 n3 c1 c2 c3 F1 F2 F3) (k : OnlyP w w' P) (h1 : ¬ P g1) (h2 : ¬ P g2) (h3 : ¬ P g3) : K3 w' B g1 g2 g3 n1 n2 n3 c1 c2 c3 F1 F2 F3 :=
  ⟨k.row h.r1 h1, k.row h.r2 h2, k.row h.r3 h3⟩

set_option maxRecDepth 100000 in
set_option maxHeartbeats 4000000 in
theorem title_yes (v : Value) (F : Fr) (s : ByteArray) (w : World) (hv : FA w v F) (hp : F.ok = true) (hs : okText s = true) (hm : s.size ≤ 9223372036854775807) :
    Calls Try.prog 31 #[v, .string s] w fun e w' => ∃ r, e = .returned (.tuple #[r, .int .i64 0]) ∧ FA w' r (titleFr (titleL F (sB s) s.size) F) ∧ Below w.heap.size w w' := by
  have hmf : ∀ (fn : Fn) (first cap : Array Value) (w : World), (Instr.makeFunc fn first cap).run Try.prog w = .ok (.func fn first cap) w := fun _ _ _ _ => rfl
  obtain ⟨paY, caY, paU, caU, paV, caV, rfl⟩ := hv.shape
  have bd := And.intro hv.bdY (And.intro hv.bdU hv.bdV)
  have HBD := Lib.hid bd
  have hs' := hs
  simp only [okText, decide_eq_true_eq] at hs'
  obtain ⟨ts1, ts2, ts3⟩ := hs'
  have HTS := Lib.hid ts3
  have HS := Lib.hid hs
  have HF := Lib.hid hp
  have hsz := (ok_dims hp).1
  obtain ⟨Wn, hWn⟩ := Int.eq_ofNat_of_zero_le (show 0 ≤ F.W by have := okSize_bd hsz; omega)
  obtain ⟨Hn, hHn⟩ := Int.eq_ofNat_of_zero_le (show 0 ≤ F.H by have := okSize_bd hsz; omega)
  have hd := ok_dims hp
  rw [hWn, hHn] at hd
  have nvu := (ok_bd hp).2.2.2.2
  have HD := Lib.hid (And.intro hd.1 (And.intro hd.2.1 (And.intro hd.2.2.1 nvu)))
  have EW := Lib.hid hWn
  have EH := Lib.hid hHn
  have hv2 : FA w (.agg #[.int .i64 F.W, .int .i64 F.H, .slice paY F.nY caY, .slice paU F.nU caU, .slice paV F.nV caV]) ⟨(Wn : Int), (Hn : Int), F.nY, F.nU, F.nV, F.Y, F.U, F.V⟩ := by rw [← hWn, ← hHn]; exact hv
  have FA_a := Lib.hid hv2
  rw [hWn, hHn] at FA_a ⊢
  clear hv2
  have HB := Lib.hid (Below.refl w.heap.size w)
  clear hWn hHn hv hp hs hsz bd hd nvu ts3
  go_enter_defers Try.func31, Try.ntmps31
  go_wp2_with fail
  obtain ⟨w1, hw⟩ : ∃ x, x = ((w.alloc (.cells #[.int .i64 (Wn : Int), .int .i64 (Hn : Int), .slice paY F.nY caY, .slice paU F.nU caU, .slice paV F.nV caV] 26)).alloc (.cells #[.int .i64 0, .int .i64 0, .slice none 0 0, .slice none 0 0, .slice none 0 0] 26)).alloc (.cells #[.int .i64 0] 27) := ⟨_, rfl⟩
  rw [← hw]
  have hE : Below w.heap.size w w1 := by rw [hw]; go_grown
  have BX_a := Lib.hid (show BX w1 w.heap.size _ _ _ _ _ by rw [hw]; exact ((BX.of_alloc _ _ _ _ _ _ _).below (below_box _ _)).below (below_box _ _))
  have BX_r := Lib.hid (show BX w1 (w.heap.size + 1) _ _ _ _ _ by rw [hw]; exact (BX.of_alloc' _ _ _ _ _ _ _ _ (by simp)).below (below_box _ _))
  have CE := Lib.hid (show C1 w1 (w.heap.size + 1 + 1) (.int .i64 0) by rw [hw]; exact ⟨by simp [go_sem]⟩)
  have FZ_r := Lib.hid (show Fz w1 (w.heap.size + 1) from ⟨by rw [hw]; simp, fun o => by rw [hw]; simp [go_sem]⟩)
  have FZ_e := Lib.hid (show Fz w1 (w.heap.size + 1 + 1) from ⟨by rw [hw]; simp, fun o => by rw [hw]; simp [go_sem]⟩)
  replace FA_a := Lib.hid (FA_a.out.below hE)
  replace HB := Lib.hid hE
  clear hw hE
  obtain ⟨bla, hbla⟩ : ∃ b, b = w.heap.size := ⟨_, rfl⟩
  obtain ⟨blr, hblr⟩ : ∃ b, b = w.heap.size + 1 := ⟨_, rfl⟩
  obtain ⟨ble, hble⟩ : ∃ b, b = w.heap.size + 1 + 1 := ⟨_, rfl⟩
  rw [← hble] at CE FZ_e ⊢
  rw [← hblr] at BX_r FZ_r ⊢
  rw [← hbla] at BX_a ⊢
  have n0 : w.heap.size ≤ blr := by omega
  have n1 : blr < ble := by omega
  clear hbla hblr hble
  obtain ⟨a0, a1, a2, a3, a4⟩ := BX_a.out
  try go_wp2_with fail
  refine (valid_b _ ⟨(Wn : Int), (Hn : Int), F.nY, F.nU, F.nV, F.Y, F.U, F.V⟩ _ FA_a.out).mono ?_
  rintro e w2 ⟨rfl, hb⟩
  have hF' : Fr.ok ⟨(Wn : Int), (Hn : Int), F.nY, F.nU, F.nV, F.Y, F.U, F.V⟩ = true := by rw [← EW.out, ← EH.out]; exact HF.out
  rw [hF']
  have HF2 := Lib.hid hF'
  have HE := Lib.hid hb
  clear hb hF'

  clear a0 a1 a2 a3 a4
  replace FA_a := Lib.hid (FA_a.out.below HE.out)
  replace BX_a := Lib.hid (BX_a.out.below HE.out)
  replace BX_r := Lib.hid (BX_r.out.below HE.out)
  replace FZ_r := Lib.hid (FZ_r.out.below HE.out)
  replace CE := Lib.hid (CE.out.below HE.out)
  replace FZ_e := Lib.hid (FZ_e.out.below HE.out)
  replace HB := Lib.hid (HB.out.trans (HE.out.mono HB.out.size))
  clear HE
  go_wp2_with fail
  refine (validText_any s _ hm).mono ?_
  rintro e w' ⟨rfl, rfl⟩
  rw [HS.out]
  go_upto_region 4 with fail
  obtain ⟨a0, a1, a2, a3, a4⟩ := BX_a.out
  go_wp2_with fail
  refine (clone_fr _ ⟨(Wn : Int), (Hn : Int), F.nY, F.nU, F.nV, F.Y, F.U, F.V⟩ _ FA_a.out HF2.out).mono ?_
  rintro e w3 ⟨g1, c1, g2, c2, g3, c3, rfl, hR, d12, d13, d23, hb⟩
  have na := BX_a.out.lt
  have nr := BX_r.out.lt
  have ne := CE.out.lt
  have m0 := HB.out.size
  obtain ⟨B, hB⟩ : ∃ B, B = w2.heap.size := ⟨_, rfl⟩
  rw [← hB] at hR na nr ne m0
  have l1 := hR.r1.le
  have l2 := hR.r2.le
  have l3 := hR.r3.le
  have RR := Lib.hid hR
  have HE := Lib.hid hb
  clear hb hR hB
  clear a0 a1 a2 a3 a4
  go_upto_region 5 with fail
  obtain ⟨w4, hw⟩ : ∃ x, x = w3.alloc (.cells #[(.int .i64 (Wn : Int)), (.int .i64 (Hn : Int)), (.slice (some ⟨g1, 0, none⟩) F.nY c1), (.slice (some ⟨g2, 0, none⟩) F.nU c2), (.slice (some ⟨g3, 0, none⟩) F.nV c3)] 26) := ⟨_, rfl⟩
  rw [← hw]
  have hE : Below w3.heap.size w3 w4 := by rw [hw]; exact below_box _ _
  have BX_t := Lib.hid (show BX w4 w3.heap.size _ _ _ _ _ by rw [hw]; exact BX.of_alloc _ _ _ _ _ _ _)
  replace RR := Lib.hid (RR.out.below hE)
  have HE2 := Lib.hid (HE.out.trans (hE.mono HE.out.size))
  obtain ⟨blt, hblt⟩ : ∃ b, b = w3.heap.size := ⟨_, rfl⟩
  rw [← hblt] at BX_t l1 l2 l3 ⊢
  have nt := BX_t.out.lt
  clear hw hE HE hblt
  replace FA_a := Lib.hid (FA_a.out.below HE2.out)
  replace BX_a := Lib.hid (BX_a.out.below HE2.out)
  replace BX_r := Lib.hid (BX_r.out.below HE2.out)
  replace FZ_r := Lib.hid (FZ_r.out.below HE2.out)
  replace CE := Lib.hid (CE.out.below HE2.out)
  replace FZ_e := Lib.hid (FZ_e.out.below HE2.out)
  replace HB := Lib.hid (HB.out.trans (HE2.out.mono HB.out.size))
  clear HE2
  go_wp2_with fail
  obtain ⟨w5, hw⟩ : ∃ x, x = w4.iter s 0 := ⟨_, rfl⟩
  rw [← hw]
  have hE : Below w4.heap.size w4 w5 := by rw [hw]; exact below_box _ _
  have AT := Lib.hid (show At w5 w4.heap.size s 0 by rw [hw]; exact World.iter_heap _ _ _)
  obtain ⟨bi, hbi⟩ : ∃ b, b = w4.heap.size := ⟨_, rfl⟩
  rw [← hbi] at AT nt ⊢
  have HE := Lib.hid hE
  clear hw hE hbi
  replace FA_a := Lib.hid (FA_a.out.below HE.out)
  replace BX_a := Lib.hid (BX_a.out.below HE.out)
  replace BX_r := Lib.hid (BX_r.out.below HE.out)
  replace FZ_r := Lib.hid (FZ_r.out.below HE.out)
  replace CE := Lib.hid (CE.out.below HE.out)
  replace FZ_e := Lib.hid (FZ_e.out.below HE.out)
  replace BX_t := Lib.hid (BX_t.out.below HE.out)
  replace RR := Lib.hid (RR.out.below HE.out)
  replace HB := Lib.hid (HB.out.trans (HE.out.mono HB.out.size))
  clear HE
  go_loopw [7] (fun i wr => ∃ pos : Nat, pos ≤ s.size ∧ At wr bi s pos ∧ OnlyP w5 wr (In4 g1 g2 g3 bi) ∧ K3 wr B g1 g2 g3 F.nY F.nU F.nV c1 c2 c3 (pY Wn (pixT Wn (Hn - 7) (sB s) pos) F.Y) (pC Wn (pixT Wn (Hn - 7) (sB s) pos) F.U) (pC Wn (pixT Wn (Hn - 7) (sB s) pos) F.V)) (fun _ wr => s.size - wr.iterPos bi)
  case atStart => exact ⟨0, Nat.zero_le _, AT.out, OnlyP.refl _ _, by have h := RR.out; exact ⟨h.r1.congr (fun i _ => (pY_nil _ _ i).symm), h.r2.congr (fun i _ => (pC_nil _ _ i).symm), h.r3.congr (fun i _ => (pC_nil _ _ i).symm)⟩⟩
  case round =>
    obtain ⟨pos, hpos, hat, hgr, ho⟩ := hrel
    have nin : ¬ In4 g1 g2 g3 bi blt := In4.no (by omega) (by omega) (by omega) (by omega)
    by_cases hlt : pos < s.size
    · have tb := HTS.out pos hlt
      have hnx := fun ty => next_at (P := Try.prog) ty hat hlt tb.2
      have HK := Lib.hid ho
      have HGR := Lib.hid hgr
      have HAT := Lib.hid hat
      clear hat ho hgr
      go_wp2_with fail
      clear hnx
      obtain ⟨wq, hw⟩ : ∃ x, x = World.itStep wr bi s (pos + 1) := ⟨_, rfl⟩
      rw [← hw]
      have h4 : OnlyP wr wq (In4 g1 g2 g3 bi) := by rw [hw]; exact (OnlyP.refl _ _).itStep (In4.d _ _ _ _) _ _
      have h4' : OnlyP wr wq (fun b => b = bi) := by rw [hw]; exact (OnlyP.refl wr (fun b => b = bi)).itStep rfl _ _
      have hat : At wq bi s (pos + 1) := by rw [hw]; exact HAT.out.step _
      have hmq := HAT.out.pos
      have HMQ := Lib.hid hmq
      replace HK := Lib.hid (HK.out.only h4' (by omega) (by omega) (by omega))
      replace HGR := Lib.hid (HGR.out.trans h4)
      replace HAT := Lib.hid hat
      clear hw h4 h4' hat hmq
      obtain ⟨t0, t1, t2, t3, t4⟩ := BX_t.out.onlyP HGR.out nin
      refine Plan.wp_region_plan (fun w' => w'.cell? ⟨blt, 0, none⟩ = some (.int .i64 (Wn : Int)) ∧ w'.cell? ⟨blt, 1, none⟩ = some (.int .i64 (Hn : Int)) ∧ w'.cell? ⟨blt, 2, none⟩ = some (.slice (some ⟨g1, 0, none⟩) F.nY c1) ∧ w'.cell? ⟨blt, 3, none⟩ = some (.slice (some ⟨g2, 0, none⟩) F.nU c2) ∧ w'.cell? ⟨blt, 4, none⟩ = some (.slice (some ⟨g3, 0, none⟩) F.nV c3)) (([0, 1, 2, 3, 4, 5].map (·, true)) ++ (([6, 7].map (·, false)))) (by kernel_rfl) (by kernel_rfl) (by kernel_rfl) ⟨t0, t1, t2, t3, t4⟩ ?_
      refine' Plan.plan_seg _ [0, 1, 2, 3, 4, 5] (([6, 7].map (·, false))) (by kernel_rfl) (by kernel_rfl) rfl (by exact ⟨t0, t1, t2, t3, t4⟩) (fun wx hS => ?_) ?_
      rotate_left
      · obtain ⟨z0, z1, z2, z3, z4⟩ := hS
        go_light
        iterate 6 (apply Plan.seg_pick; rfl; intro K hK; go_wp)
        exact Plan.seg_nil
      refine Plan.plan_of_effect rfl (fun K hK => ?_)
      go_wp2_with fail
      refine (glyph_any (sB s pos) _ (by omega) (by omega)).mono ?_
      rintro e wg ⟨rfl, hb⟩
      have h4 : Below wq.heap.size wq wg := (Below.refl wq.heap.size wq).drew.trans hb
      rw [glyphV_F]
      replace HGR := Lib.hid (HGR.out.trans (OnlyP.of_below h4))
      replace HK := Lib.hid (HK.out.below h4)
      replace HAT := Lib.hid (HAT.out.below h4)
      clear hb h4 t0 t1 t2 t3 t4
      obtain ⟨t0, t1, t2, t3, t4⟩ := BX_t.out.onlyP HGR.out nin
      go_wp2_with fail
      refine ⟨⟨t0, t1, t2, t3, t4⟩, ?_⟩
      refine Plan.plan_of_effect rfl (fun K hK => ?_)
      go_wp2_with fail
      refine (draw_any Wn Hn (2 + 4 * pos) F.nY F.nU F.nV g1 g2 g3 c1 c2 c3 B _ (glyphF (sB s pos)) (pixT Wn (Hn - 7) (sB s) pos) F.Y F.U F.V wg (by simp) (by omega) HD.out.1 HD.out.2.1 HD.out.2.2.1 HD.out.2.2.2 (glyphF_bd _) d12 d13 d23 HK.out).mono ?_
      rintro e wd ⟨rfl, hk3, hon⟩
      have h4 : OnlyP wg wd (In4 g1 g2 g3 bi) := hon.wide (In3.four _ _ _ _)
      replace HGR := Lib.hid (HGR.out.trans h4)
      replace HAT := Lib.hid (HAT.out.onlyP hon (In3.no (by omega) (by omega) (by omega)))
      replace HK := Lib.hid hk3
      clear h4 hon hk3 t0 t1 t2 t3 t4
      obtain ⟨t0, t1, t2, t3, t4⟩ := BX_t.out.onlyP HGR.out nin
      go_wp2_with fail
      refine ⟨⟨t0, t1, t2, t3, t4⟩, ?_⟩
      refine Plan.plan_done ?_
      clear t0 t1 t2 t3 t4
      go_wp2_with fail
      go_roundw
      case rel => exact ⟨pos + 1, by omega, HAT.out, HGR.out, HK.out⟩
      case measure => rw [HAT.out.pos, HMQ.out]; omega
    · obtain rfl : pos = s.size := by omega
      have hnx := fun ty => next_end (P := Try.prog) ty hat hlt
      have RT := Lib.hid ho
      replace BX_t := Lib.hid (BX_t.out.onlyP hgr nin)
      replace BX_r := Lib.hid (BX_r.out.onlyP hgr (In4.no (by omega) (by omega) (by omega) (by omega)))
      replace FZ_r := Lib.hid (FZ_r.out.onlyP hgr (In4.no (by omega) (by omega) (by omega) (by omega)))
      replace CE := Lib.hid (CE.out.onlyP hgr (In4.no (by omega) (by omega) (by omega) (by omega)))
      replace FZ_e := Lib.hid (FZ_e.out.onlyP hgr (In4.no (by omega) (by omega) (by omega) (by omega)))
      replace HB := Lib.hid (HB.out.trans (hgr.below (In4.ge (by omega) (by omega) (by omega) (by omega)) HB.out.size))
      clear hat ho hgr
      obtain ⟨t0, t1, t2, t3, t4⟩ := BX_t.out
      obtain ⟨r0, r1, r2, r3, r4⟩ := BX_r.out
      have s0 := CE.out.k0
      have fz := FZ_r.out.2
      have fe := FZ_e.out.2
      go_wp2_with fail
      refine leaves_cons (f := 56) (args := #[.pointer (some ⟨blr, 0, none⟩), .pointer (some ⟨ble, 0, none⟩)]) (by simp) (by simp [go_sem]) ?_
      refine (idle56 _ _ _).mono ?_
      rintro e u' w'' ⟨rfl, rfl, rfl⟩
      simp [Leaves, settle, results, Try.results31, go_sem, r0, r1, r2, r3, r4, s0]
      have e : titleFr (titleL F (sB s) s.size) F = ⟨(Wn : Int), (Hn : Int), F.nY, F.nU, F.nV, pY Wn (pixT Wn (Hn - 7) (sB s) s.size) F.Y, pC Wn (pixT Wn (Hn - 7) (sB s) s.size) F.U, pC Wn (pixT Wn (Hn - 7) (sB s) s.size) F.V⟩ := by unfold titleFr titleL; rw [EW.out, EH.out]; rfl
      rw [e]
      refine ⟨K3.FA ((((((RT.out.far (by omega) _ _).far (by omega) _ _).far (by omega) _ _).far (by omega) _ _).far (by omega) _ _).far (by omega) _ _) (pY_bd HBD.out.1) (pC_bd HBD.out.2.1) (pC_bd HBD.out.2.2), ?_⟩
      exact (below_put5 HB.out n0 _ _ _ _ _).setCell (by simp; omega) _

end Go.Proofs.Ytnnobdcbmagbaaa
