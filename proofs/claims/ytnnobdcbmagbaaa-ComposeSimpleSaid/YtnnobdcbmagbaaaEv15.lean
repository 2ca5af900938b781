/- Texts of this claim joined: LG KB KC. -/
import Derived.Test.YtnnobdcbmagbaaaEv05
import Derived.Test.YtnnobdcbmagbaaaEv10
import Derived.Test.YtnnobdcbmagbaaaEv11
import Derived.Test.YtnnobdcbmagbaaaEv12
import Derived.Test.YtnnobdcbmagbaaaEv13
import Derived.Test.YtnnobdcbmagbaaaEv14
set_option linter.unusedVariables false
set_option linter.unusedSimpArgs false

/- The contracts of Wipe and of the reference's Wipe at all inputs: the same frame and error. -/
namespace Go.Proofs.Ytnnobdcbmagbaaa
open Go.RowKit
set_option linter.unusedVariables false

set_option maxRecDepth 100000 in
set_option maxHeartbeats 2000000 in
theorem rwipe_no (v u : Value) (F G : Fr) (num den d : Int) (w : World) (hv : FA w v F) (hu : FA w u G) (hp : (pairOk F G && okShare num den && okDir d) = false) :
    Calls Try.prog 25 #[v, u, .int .i64 num, .int .i64 den, .int .i64 d] w fun e w' => e = .returned (.tuple #[zeroV, .int .i64 1]) ∧ Below w.heap.size w w' := by
  have FA_a := Lib.hid hv
  have FA_b := Lib.hid hu
  obtain ⟨ay, cy, au, cu, av, cv, rfl⟩ := hv.shape
  obtain ⟨ay', cy', au', cu', av', cv', rfl⟩ := hu.shape
  have HP := Lib.hid hp
  clear hv hu hp
  go_enter Try.func25, Try.ntmps25
  go_upto_region 1 with fail
  obtain ⟨w1, hw⟩ : ∃ x, x = ((w.alloc (.cells #[.int .i64 F.W, .int .i64 F.H, .slice ay F.nY cy, .slice au F.nU cu, .slice av F.nV cv] 26)).alloc (.cells #[.int .i64 G.W, .int .i64 G.H, .slice ay' G.nY cy', .slice au' G.nU cu', .slice av' G.nV cv'] 26)).alloc (.cells #[.int .i64 0, .int .i64 0, .slice none 0 0, .slice none 0 0, .slice none 0 0] 26) := ⟨_, rfl⟩
  rw [← hw]
  have hE : Below w.heap.size w w1 := by rw [hw]; go_grown
  have BX_a := Lib.hid (show BX w1 w.heap.size _ _ _ _ _ by rw [hw]; exact ((BX.of_alloc _ _ _ _ _ _ _).below (below_box _ _)).below (below_box _ _))
  have BX_b := Lib.hid (show BX w1 (w.heap.size + 1) _ _ _ _ _ by rw [hw]; exact (BX.of_alloc' _ _ _ _ _ _ _ _ (by simp)).below (below_box _ _))
  have BX_r := Lib.hid (show BX w1 (w.heap.size + 1 + 1) _ _ _ _ _ by rw [hw]; exact BX.of_alloc' _ _ _ _ _ _ _ _ (by simp))
  have FZ_r := Lib.hid (show Fz w1 (w.heap.size + 1 + 1) from ⟨by rw [hw]; simp, fun o => by rw [hw]; simp [go_sem]⟩)
  replace FA_a := Lib.hid (FA_a.out.below hE)
  replace FA_b := Lib.hid (FA_b.out.below hE)
  have HB := Lib.hid hE
  clear hw hE
  obtain ⟨bla, hbla⟩ : ∃ b, b = w.heap.size := ⟨_, rfl⟩
  obtain ⟨blb, hblb⟩ : ∃ b, b = w.heap.size + 1 := ⟨_, rfl⟩
  obtain ⟨blr, hblr⟩ : ∃ b, b = w.heap.size + 1 + 1 := ⟨_, rfl⟩
  rw [← hblr] at BX_r FZ_r ⊢
  rw [← hblb] at BX_b ⊢
  rw [← hbla] at BX_a ⊢
  have n0 : w.heap.size ≤ blr := by omega
  clear hbla hblb hblr
  obtain ⟨a0, a1, a2, a3, a4⟩ := BX_a.out
  obtain ⟨b0, b1, b2, b3, b4⟩ := BX_b.out
  go_wp2_with fail
  refine (pair_any _ _ F G _ FA_a.out FA_b.out).mono ?_
  rintro e w2 ⟨rfl, hb⟩
  have HE := Lib.hid hb
  clear hb a0 a1 a2 a3 a4 b0 b1 b2 b3 b4
  replace BX_r := Lib.hid (BX_r.out.below HE.out)
  replace FZ_r := Lib.hid (FZ_r.out.below HE.out)
  replace HB := Lib.hid (HB.out.trans (HE.out.mono HB.out.size))
  clear HE
  obtain ⟨r0, r1, r2, r3, r4⟩ := BX_r.out
  have fz := FZ_r.out.2
  cases hpk : pairOk F G
  · clear hpk
    go_wp2_with fail
    refine bodyPost_ret (v := .tuple #[zeroV, .int .i64 1]) (by simp [results, Try.results25, go_sem, r0, r1, r2, r3, r4, zeroV]) rfl ?_
    have hB := HB.out
    exact ⟨rfl, by go_grown⟩
  cases hsk : okShare num den
  · have HS := Lib.hid hsk
    clear hpk hsk
    go_wp2_with fail
    refine (ratio_any _ _ _).mono ?_
    rintro e w' ⟨rfl, rfl⟩
    rw [HS.out]
    go_wp2_with fail
    refine bodyPost_ret (v := .tuple #[zeroV, .int .i64 1]) (by simp [results, Try.results25, go_sem, r0, r1, r2, r3, r4, zeroV]) rfl ?_
    have hB := HB.out
    exact ⟨rfl, by go_grown⟩
  have hdk : okDir d = false := by have := HP.out; simpa [hpk, hsk] using this
  have HS := Lib.hid hsk
  simp only [okDir, decide_eq_false_iff_not] at hdk
  clear hpk hsk
  by_cases hd0 : d < 0
  · clear hdk
    go_wp2_with fail
    refine (ratio_any _ _ _).mono ?_
    rintro e w' ⟨rfl, rfl⟩
    rw [HS.out]
    go_wp2_with fail
    refine bodyPost_ret (v := .tuple #[zeroV, .int .i64 1]) (by simp [results, Try.results25, go_sem, r0, r1, r2, r3, r4, zeroV]) rfl ?_
    have hB := HB.out
    exact ⟨rfl, by go_grown⟩
  · have hd3 : 3 < d := by omega
    clear hdk
    go_wp2_with fail
    refine (ratio_any _ _ _).mono ?_
    rintro e w' ⟨rfl, rfl⟩
    rw [HS.out]
    go_wp2_with fail
    refine bodyPost_ret (v := .tuple #[zeroV, .int .i64 1]) (by simp [results, Try.results25, go_sem, r0, r1, r2, r3, r4, zeroV]) rfl ?_
    have hB := HB.out
    exact ⟨rfl, by go_grown⟩

def wipeR (F G : Fr) (num den d : Int) : Fr := if pairOk F G && okShare num den && okDir d then wipeFr num den d F G else Fr.zero
def wipeE (F G : Fr) (num den d : Int) : Int := if pairOk F G && okShare num den && okDir d then 0 else 1

theorem wipe_any (v u : Value) (F G : Fr) (num den d : Int) (w : World) (hv : FA w v F) (hu : FA w u G) :
    Calls Try.prog 24 #[v, u, .int .i64 num, .int .i64 den, .int .i64 d] w fun e w' => ∃ r, e = .returned (.tuple #[r, .int .i64 (wipeE F G num den d)]) ∧ FA w' r (wipeR F G num den d) ∧ Below w.heap.size w w' := by
  cases h : pairOk F G && okShare num den && okDir d
  · refine (wipe_no v u F G num den d w hv hu h).mono ?_
    rintro e w' ⟨rfl, hb⟩
    exact ⟨zeroV, by simp [wipeE, h], by simp only [wipeR, h]; exact FA.zero _, hb⟩
  · have h' := h
    simp only [Bool.and_eq_true] at h'
    refine (wipe_yes v u F G num den d w hv hu h'.1.1 h'.1.2 h'.2).mono ?_
    rintro e w' ⟨r, rfl, hf, hb⟩
    exact ⟨r, by simp [wipeE, h], by simp only [wipeR, h]; exact hf, hb⟩

theorem rwipe_yes (v u : Value) (F G : Fr) (num den d : Int) (w : World) (hv : FA w v F) (hu : FA w u G) (hp : pairOk F G = true) (hs : okShare num den = true) (hd : okDir d = true) :
    Calls Try.prog 25 #[v, u, .int .i64 num, .int .i64 den, .int .i64 d] w fun e w' => ∃ r, e = .returned (.tuple #[r, .int .i64 0]) ∧ FA w' r (wipeFr num den d F G) ∧ Below w.heap.size w w' := by
  simp only [okDir, decide_eq_true_eq] at hd
  rcases (show d = 0 ∨ d = 1 ∨ d = 2 ∨ d = 3 by omega) with rfl | rfl | rfl | rfl
  · exact rwipe_yes0 v u F G num den w hv hu hp hs
  · exact rwipe_yes1 v u F G num den w hv hu hp hs
  · exact rwipe_yes2 v u F G num den w hv hu hp hs
  · exact rwipe_yes3 v u F G num den w hv hu hp hs

theorem rwipe_any (v u : Value) (F G : Fr) (num den d : Int) (w : World) (hv : FA w v F) (hu : FA w u G) :
    Calls Try.prog 25 #[v, u, .int .i64 num, .int .i64 den, .int .i64 d] w fun e w' => ∃ r, e = .returned (.tuple #[r, .int .i64 (wipeE F G num den d)]) ∧ FA w' r (wipeR F G num den d) ∧ Below w.heap.size w w' := by
  cases h : pairOk F G && okShare num den && okDir d
  · refine (rwipe_no v u F G num den d w hv hu h).mono ?_
    rintro e w' ⟨rfl, hb⟩
    exact ⟨zeroV, by simp [wipeE, h], by simp only [wipeR, h]; exact FA.zero _, hb⟩
  · have h' := h
    simp only [Bool.and_eq_true] at h'
    refine (rwipe_yes v u F G num den d w hv hu h'.1.1 h'.1.2 h'.2).mono ?_
    rintro e w' ⟨r, rfl, hf, hb⟩
    exact ⟨r, by simp [wipeE, h], by simp only [wipeR, h]; exact hf, hb⟩

end Go.Proofs.Ytnnobdcbmagbaaa

/- The contract of compose.Key where it answers a frame. -/
namespace Go.Proofs.Ytnnobdcbmagbaaa
open Go.RowKit
set_option linter.unusedVariables false

set_option maxRecDepth 100000 in
set_option maxHeartbeats 4000000 in
theorem key_yes (v u : Value) (F G : Fr) (t : Int) (w : World) (hv : FA w v F) (hu : FA w u G) (hp : pairOk F G = true) (ht : okThr t = true) :
    Calls Try.prog 26 #[v, u, .int .i64 t] w fun e w' => ∃ r, e = .returned (.tuple #[r, .int .i64 0]) ∧ FA w' r (keyFr t F G) ∧ Below w.heap.size w w' := by
  have hmf : ∀ (fn : Fn) (first cap : Array Value) (w : World), (Instr.makeFunc fn first cap).run Try.prog w = .ok (.func fn first cap) w := fun _ _ _ _ => rfl
  obtain ⟨paY, caY, paU, caU, paV, caV, rfl⟩ := hv.shape
  obtain ⟨pbY, cbY, pbU, cbU, pbV, cbV, rfl⟩ := hu.shapeAs (Dim.of_pair hp)
  have hd := Dim.of_pair hp
  obtain ⟨xd1, xd2, xd3, xd4, xd5⟩ := hd
  have fb := ok_bd (pair_dims hp).1
  obtain ⟨f1, f2, f3, f4, f5⟩ := fb
  have hpa := hv.plane
  have hpb := hu.plane
  obtain ⟨ha1, ha2, ha3, -, -, -, la1, la2, la3⟩ := hpa
  obtain ⟨hb1, hb2, hb3, -, -, -, lb1, lb2, lb3⟩ := hpb
  obtain ⟨qa1, oa1, rfl, ca1⟩ := ha1 (by omega)
  obtain ⟨qb1, ob1, rfl, cb1⟩ := hb1 (by omega)
  obtain ⟨qa2, oa2, rfl, ca2⟩ := ha2 (by omega)
  obtain ⟨qb2, ob2, rfl, cb2⟩ := hb2 (by omega)
  obtain ⟨qa3, oa3, rfl, ca3⟩ := ha3 (by omega)
  obtain ⟨qb3, ob3, rfl, cb3⟩ := hb3 (by omega)
  have ba1 := hv.bdY
  have ba2 := hv.bdU
  have ba3 := hv.bdV
  have bb1 := hu.bdY
  have bb2 := hu.bdU
  have bb3 := hu.bdV
  rw [xd3] at cb1 bb1 lb1
  rw [xd4] at cb2 bb2 lb2
  rw [xd5] at cb3 bb3 lb3
  have HC1 := Lib.hid (And.intro ca1 (And.intro cb1 (And.intro ba1 bb1)))
  have HC2 := Lib.hid (And.intro ca2 (And.intro cb2 (And.intro ba2 bb2)))
  have HC3 := Lib.hid (And.intro ca3 (And.intro cb3 (And.intro ba3 bb3)))
  have FA_a := Lib.hid hv
  have FA_b := Lib.hid hu
  have HP := Lib.hid hp
  have HF := Lib.hid (pair_dims hp).1
  have i1 : F.nY ≤ 4096 := f2
  have i2 : F.nU ≤ 1024 := f4
  have i3 : F.nV ≤ 1024 := by omega
  obtain ⟨s1, s2, s3, s4, _, _, _, _⟩ := okSize_bd (ok_dims HF.out).1
  have HB := Lib.hid (Below.refl w.heap.size w)
  clear ca1 ca2 ca3 cb1 cb2 cb3 ba1 ba2 ba3 bb1 bb2 bb3 xd1 xd2 xd3 xd4 xd5 f1 f2 f3 f4 f5 hv hu hp
  simp only [okThr, decide_eq_true_eq] at ht
  obtain ⟨th0, th1⟩ := ht
  obtain ⟨Wn, hWn⟩ := Int.eq_ofNat_of_zero_le (show 0 ≤ F.W by omega)
  have wn1 : 16 ≤ Wn := by omega
  have wn2 : Wn ≤ 64 := by omega
  have nv1 : F.nV ≤ F.nU := by have := (ok_bd HF.out).2.2.2.2; omega
  have nv2 : F.nU ≤ F.nV := by have := (ok_bd HF.out).2.2.2.2; omega
  have HG := Lib.hid (pair_dims HP.out).2.1
  have HD := Lib.hid (Dim.of_pair HP.out)
  rw [hWn] at FA_a FA_b ⊢
  have EW := Lib.hid hWn
  clear hWn s1 s2
  go_enter_defers Try.func26, Try.ntmps26
  go_wp2_with fail
  obtain ⟨w1, hw⟩ : ∃ x, x = (((w.alloc (.cells #[.int .i64 (Wn : Int), .int .i64 F.H, .slice (some ⟨qa1, oa1, none⟩) F.nY caY, .slice (some ⟨qa2, oa2, none⟩) F.nU caU, .slice (some ⟨qa3, oa3, none⟩) F.nV caV] 26)).alloc (.cells #[.int .i64 (Wn : Int), .int .i64 F.H, .slice (some ⟨qb1, ob1, none⟩) F.nY cbY, .slice (some ⟨qb2, ob2, none⟩) F.nU cbU, .slice (some ⟨qb3, ob3, none⟩) F.nV cbV] 26)).alloc (.cells #[.int .i64 0, .int .i64 0, .slice none 0 0, .slice none 0 0, .slice none 0 0] 26)).alloc (.cells #[.int .i64 0] 27) := ⟨_, rfl⟩
  rw [← hw]
  have hE : Below w.heap.size w w1 := by rw [hw]; go_grown
  have BX_a := Lib.hid (show BX w1 w.heap.size _ _ _ _ _ by rw [hw]; exact (((BX.of_alloc _ _ _ _ _ _ _).below (below_box _ _)).below (below_box _ _)).below (below_box _ _))
  have BX_b := Lib.hid (show BX w1 (w.heap.size + 1) _ _ _ _ _ by rw [hw]; exact ((BX.of_alloc' _ _ _ _ _ _ _ _ (by simp)).below (below_box _ _)).below (below_box _ _))
  have BX_r := Lib.hid (show BX w1 (w.heap.size + 1 + 1) _ _ _ _ _ by rw [hw]; exact (BX.of_alloc' _ _ _ _ _ _ _ _ (by simp)).below (below_box _ _))
  have CE := Lib.hid (show C1 w1 (w.heap.size + 1 + 1 + 1) (.int .i64 0) by rw [hw]; exact ⟨by simp [go_sem]⟩)
  have FZ_r := Lib.hid (show Fz w1 (w.heap.size + 1 + 1) from ⟨by rw [hw]; simp, fun o => by rw [hw]; simp [go_sem]⟩)
  have FZ_e := Lib.hid (show Fz w1 (w.heap.size + 1 + 1 + 1) from ⟨by rw [hw]; simp, fun o => by rw [hw]; simp [go_sem]⟩)
  replace FA_a := Lib.hid (FA_a.out.below hE)
  replace FA_b := Lib.hid (FA_b.out.below hE)
  replace HB := Lib.hid hE
  clear hw hE
  obtain ⟨bla, hbla⟩ : ∃ b, b = w.heap.size := ⟨_, rfl⟩
  obtain ⟨blb, hblb⟩ : ∃ b, b = w.heap.size + 1 := ⟨_, rfl⟩
  obtain ⟨blr, hblr⟩ : ∃ b, b = w.heap.size + 1 + 1 := ⟨_, rfl⟩
  obtain ⟨ble, hble⟩ : ∃ b, b = w.heap.size + 1 + 1 + 1 := ⟨_, rfl⟩
  rw [← hble] at CE FZ_e ⊢
  rw [← hblr] at BX_r FZ_r ⊢
  rw [← hblb] at BX_b ⊢
  rw [← hbla] at BX_a ⊢
  have n0 : w.heap.size ≤ blr := by omega
  have n1 : blr < ble := by omega
  clear hbla hblb hblr hble
  refine (matching_any _ _ F G _ FA_a.out FA_b.out).mono ?_
  rintro e w2 ⟨rfl, hb⟩
  rw [HP.out]
  have HE := Lib.hid hb
  clear hb
  replace FA_a := Lib.hid (FA_a.out.below HE.out)
  replace FA_b := Lib.hid (FA_b.out.below HE.out)
  replace BX_a := Lib.hid (BX_a.out.below HE.out)
  replace BX_b := Lib.hid (BX_b.out.below HE.out)
  replace BX_r := Lib.hid (BX_r.out.below HE.out)
  replace FZ_r := Lib.hid (FZ_r.out.below HE.out)
  replace CE := Lib.hid (CE.out.below HE.out)
  replace FZ_e := Lib.hid (FZ_e.out.below HE.out)
  replace HB := Lib.hid (HB.out.trans (HE.out.mono HB.out.size))
  clear HE
  go_upto_region 4 with fail
  obtain ⟨b0, b1, b2, b3, b4⟩ := BX_b.out
  go_wp2_with fail
  refine (clone_as _ F G Wn _ FA_b.out HG.out HD.out EW.out).mono ?_
  rintro e w3 ⟨g1, c1, g2, c2, g3, c3, rfl, hR, d12, d13, d23, hb⟩
  have na := BX_a.out.lt
  have nb := BX_b.out.lt
  have nr := BX_r.out.lt
  have ne := CE.out.lt
  have m0 := HB.out.size
  obtain ⟨B, hB⟩ : ∃ B, B = w2.heap.size := ⟨_, rfl⟩
  rw [← hB] at hR na nb nr ne m0
  have l1 := hR.r1.le
  have l2 := hR.r2.le
  have l3 := hR.r3.le
  have RR := Lib.hid hR
  have HE := Lib.hid hb
  clear hb hR hB
  clear b0 b1 b2 b3 b4
  go_upto_region 5 with fail
  obtain ⟨w4, hw⟩ : ∃ x, x = w3.alloc (.cells #[(.int .i64 (Wn : Int)), (.int .i64 F.H), (.slice (some ⟨g1, 0, none⟩) F.nY c1), (.slice (some ⟨g2, 0, none⟩) F.nU c2), (.slice (some ⟨g3, 0, none⟩) F.nV c3)] 26) := ⟨_, rfl⟩
  rw [← hw]
  have hE : Below w3.heap.size w3 w4 := by rw [hw]; exact below_box _ _
  have BX_t := Lib.hid (show BX w4 w3.heap.size _ _ _ _ _ by rw [hw]; exact BX.of_alloc _ _ _ _ _ _ _)
  replace RR := Lib.hid (RR.out.below hE)
  have HE2 := Lib.hid (HE.out.trans (hE.mono HE.out.size))
  obtain ⟨blt, hblt⟩ : ∃ b, b = w3.heap.size := ⟨_, rfl⟩
  rw [← hblt] at BX_t l1 l2 l3 ⊢
  clear hw hE HE hblt
  replace FA_a := Lib.hid (FA_a.out.below HE2.out)
  replace FA_b := Lib.hid (FA_b.out.below HE2.out)
  replace BX_a := Lib.hid (BX_a.out.below HE2.out)
  replace BX_b := Lib.hid (BX_b.out.below HE2.out)
  replace BX_r := Lib.hid (BX_r.out.below HE2.out)
  replace FZ_r := Lib.hid (FZ_r.out.below HE2.out)
  replace CE := Lib.hid (CE.out.below HE2.out)
  replace FZ_e := Lib.hid (FZ_e.out.below HE2.out)
  replace HB := Lib.hid (HB.out.trans (HE2.out.mono HB.out.size))
  clear HE2
  obtain ⟨a0, a1, a2, a3, a4⟩ := BX_a.out
  go_wp2_with fail
  go_loopw [35] (fun i wr => ∃ k : Nat, k ≤ F.nY ∧ i = .int .i64 (k : Int) ∧ w4.grownBy wr (some g1) ∧ Row wr B g1 F.nY c1 (fun j => if j < k then keyY t F.Y G.Y j else G.Y j)) (fun i _ => F.nY - (intOf i).toNat)
  case atStart => exact ⟨0, Nat.zero_le _, rfl, only_refl _ _, RR.out.r1.congr (fun i _ => by simp)⟩
  case round =>
    clear a0 a1 a2 a3 a4
    obtain ⟨k, hk, rfl, hgr, ho⟩ := hrel
    by_cases hlt : k < F.nY
    · have zc := (BX_t.out.only hgr (by omega)).k2
      have hbw := HB.out.trans (only_below hgr (by omega) HB.out.size)
      have xb := (hbw.cell (p := ⟨qa1, oa1 + k, none⟩) (block_lt_of_cell (HC1.out.1 k hlt))).trans (HC1.out.1 k hlt)
      have b1 := HC1.out.2.2.1 k hlt
      have hc := ho.cell k hlt
      rw [if_neg (by omega)] at hc
      have hf := World.ownsRow.frozenAt ho k
      have HO := Lib.hid ho
      have HGR := Lib.hid hgr
      clear ho hgr hbw
      by_cases hge : t ≤ F.Y k
      · go_wp2_with fail
        go_roundw
        case rel =>
          refine ⟨k + 1, by omega, by go_num, only_store HGR.out _ _, HO.out.store k (F' := fun j => if j < k + 1 then keyY t F.Y G.Y j else G.Y j) (u := F.Y k) ?_ (fun i _ hik => ite_iff (by omega))⟩
          simp [keyY, hge]
        case measure => simp [intOf]; omega
      · go_wp2_with fail
        go_roundw
        case rel =>
          refine ⟨k + 1, by omega, by go_num, HGR.out, HO.out.congr (fun i hi => ?_)⟩
          by_cases e : i = k
          · subst e; simp [keyY, hge]
          · exact ite_iff (by omega)
        case measure => simp [intOf]; omega
    · obtain rfl : k = F.nY := by omega
      have hRow := ho.congr (F' := keyY t F.Y G.Y) (fun i hi => if_pos hi)
      replace RR := Lib.hid (K3.mk hRow (only_row hgr RR.out.r2 (by omega)) (only_row hgr RR.out.r3 (by omega)))
      replace BX_t := Lib.hid (BX_t.out.only hgr (by omega))
      replace BX_a := Lib.hid (BX_a.out.only hgr (by omega))
      replace BX_r := Lib.hid (BX_r.out.only hgr (by omega))
      replace FZ_r := Lib.hid (FZ_r.out.only hgr (by omega))
      replace CE := Lib.hid (CE.out.only hgr (by omega))
      replace FZ_e := Lib.hid (FZ_e.out.only hgr (by omega))
      replace HB := Lib.hid (HB.out.trans (only_below hgr (by omega) HB.out.size))
      clear hRow ho hgr
      obtain ⟨w5, hw⟩ : ∃ x, x = wr := ⟨_, rfl⟩
      rw [← hw] at RR BX_t BX_a BX_r FZ_r CE FZ_e HB ⊢
      clear hw
      obtain ⟨a0, a1, a2, a3, a4⟩ := BX_a.out
      go_wp2_with fail
      clear a0 a1 a2 a3 a4
      go_loopw [56] (fun i wr => ∃ k : Nat, k ≤ F.nU ∧ i = .int .i64 (k : Int) ∧ Only2 w5 wr g2 g3 ∧ Row wr B g2 F.nU c2 (fun j => if j < k then keyC t F.W F.Y F.U G.U j else G.U j) ∧ Row wr B g3 F.nV c3 (fun j => if j < k then keyC t F.W F.Y F.V G.V j else G.V j)) (fun i _ => F.nU - (intOf i).toNat)
      case atStart => exact ⟨0, Nat.zero_le _, rfl, Only2.refl _ _ _, RR.out.r2.congr (fun i _ => by simp), RR.out.r3.congr (fun i _ => by simp)⟩
      case round =>
        obtain ⟨k, hk, rfl, hgr, ho, hv⟩ := hrel
        by_cases hlt : k < F.nU
        · obtain ⟨m, hm, hm1, hm2, hm3, e1, e2, e3, e4, e5, e6, e7⟩ := corner_all HF.out EW.out hlt
          have xt := BX_t.out.only2 hgr (by omega) (by omega)
          have xa := BX_a.out.only2 hgr (by omega) (by omega)
          have t3 := xt.k3
          have t4 := xt.k4
          have a0 := xa.k0
          have a2 := xa.k2
          have a3 := xa.k3
          have a4 := xa.k4
          have hbw := HB.out.trans (hgr.below (by omega) (by omega) HB.out.size)
          have by1 : ∀ i, i < F.nY → wr.cell? ⟨qa1, oa1 + i, none⟩ = some (.int .u8 (F.Y i)) := fun i hi => (hbw.cell (p := ⟨qa1, oa1 + i, none⟩) (block_lt_of_cell (HC1.out.1 i hi))).trans (HC1.out.1 i hi)
          have y0 := by1 m (by omega)
          have y1 := by1 (m + 1) (by omega)
          have y2 := by1 (m + Wn) (by omega)
          have y3 := by1 (m + Wn + 1) (by omega)
          have x2 := (hbw.cell (p := ⟨qa2, oa2 + k, none⟩) (block_lt_of_cell (HC2.out.1 k hlt))).trans (HC2.out.1 k hlt)
          have x3 := (hbw.cell (p := ⟨qa3, oa3 + k, none⟩) (block_lt_of_cell (HC3.out.1 k (by omega)))).trans (HC3.out.1 k (by omega))
          have b0 := HC1.out.2.2.1 m (by omega)
          have b1 := HC1.out.2.2.1 (m + 1) (by omega)
          have b2 := HC1.out.2.2.1 (m + Wn) (by omega)
          have b3 := HC1.out.2.2.1 (m + Wn + 1) (by omega)
          have hc2 := ho.cell k hlt
          have hc3 := hv.cell k (by omega)
          rw [if_neg (by omega)] at hc2 hc3
          have hf2 := World.ownsRow.frozenAt ho k
          have hf3 := World.ownsRow.frozenAt hv k
          have HO := Lib.hid (And.intro ho hv)
          have HGR := Lib.hid hgr
          have hmean : keyMean F.W F.Y k = (F.Y m + F.Y (m + 1) + (F.Y (m + Wn) + F.Y (m + Wn + 1)) + 2) / 4 := by unfold keyMean; rw [hm2, hm3]
          have HME := Lib.hid hmean
          clear ho hv hgr hbw by1 xt xa hm2 hm3 hmean
          go_wp2_with fail
          refine Plan.wp_region_plan (fun w' => w'.cell? ⟨bla, 0, none⟩ = some (.int .i64 (Wn : Int))) (([0, 1, 2, 3, 4, 5, 6, 7, 8, 9, 10, 11, 12].map (·, true))) (by kernel_rfl) (by kernel_rfl) (by kernel_rfl) a0 ?_
          refine' Plan.plan_seg _ [0, 1, 2, 3, 4, 5, 6, 7, 8, 9, 10, 11, 12] ([]) (by kernel_rfl) (by kernel_rfl) rfl (by exact a0) (fun wx hS => ?_) ?_
          rotate_left
          · obtain x0 := hS
            go_light
            iterate 13 (apply Plan.seg_pick; rfl; intro K hK; go_wp)
            exact Plan.seg_nil
          refine Plan.plan_done ?_
          go_wp2_with fail
          refine Plan.wp_region_plan (fun w' => w'.cell? ⟨bla, 2, none⟩ = some (.slice (some ⟨qa1, oa1, none⟩) F.nY caY) ∧ w'.cell? ⟨qa1, oa1 + m, none⟩ = some (.int .u8 (F.Y m)) ∧ w'.cell? ⟨qa1, oa1 + (m + 1), none⟩ = some (.int .u8 (F.Y (m + 1)))) (([0, 1, 2, 3, 4, 5, 6, 7, 8, 9, 10, 11, 12, 13, 14].map (·, true))) (by kernel_rfl) (by kernel_rfl) (by kernel_rfl) ⟨a2, y0, y1⟩ ?_
          refine' Plan.plan_seg _ [0, 1, 2, 3, 4, 5, 6, 7, 8, 9, 10, 11, 12, 13, 14] ([]) (by kernel_rfl) (by kernel_rfl) rfl (by exact ⟨a2, y0, y1⟩) (fun wx hS => ?_) ?_
          rotate_left
          · obtain ⟨x0, x1, x9⟩ := hS
            go_light
            iterate 15 (apply Plan.seg_pick; rfl; intro K hK; go_wp)
            exact Plan.seg_nil
          refine Plan.plan_done ?_
          go_wp2_with fail
          refine Plan.wp_region_plan (fun w' => w'.cell? ⟨bla, 2, none⟩ = some (.slice (some ⟨qa1, oa1, none⟩) F.nY caY) ∧ w'.cell? ⟨bla, 0, none⟩ = some (.int .i64 (Wn : Int)) ∧ w'.cell? ⟨qa1, oa1 + (m + Wn), none⟩ = some (.int .u8 (F.Y (m + Wn))) ∧ w'.cell? ⟨qa1, oa1 + (m + Wn + 1), none⟩ = some (.int .u8 (F.Y (m + Wn + 1)))) (([0, 1, 2, 3, 4, 5, 6, 7, 8, 9, 10, 11, 12, 13, 14, 15, 16, 17, 18, 19, 20].map (·, true))) (by kernel_rfl) (by kernel_rfl) (by kernel_rfl) ⟨a2, a0, y2, y3⟩ ?_
          refine' Plan.plan_seg _ [0, 1, 2, 3, 4, 5, 6, 7, 8, 9, 10, 11, 12, 13, 14, 15, 16, 17, 18, 19, 20] ([]) (by kernel_rfl) (by kernel_rfl) rfl (by exact ⟨a2, a0, y2, y3⟩) (fun wx hS => ?_) ?_
          rotate_left
          · obtain ⟨x0, x1, x9, x8⟩ := hS
            go_light
            iterate 21 (apply Plan.seg_pick; rfl; intro K hK; go_wp)
            exact Plan.seg_nil
          refine Plan.plan_done ?_
          have lq2 : qa2 < w.heap.size := block_lt_of_cell (HC2.out.1 k hlt)
          have lq3 : qa3 < w.heap.size := block_lt_of_cell (HC3.out.1 k (by omega))
          by_cases hge : t ≤ (F.Y m + F.Y (m + 1) + (F.Y (m + Wn) + F.Y (m + Wn + 1)) + 2) / 4
          · have HGE := Lib.hid (show t ≤ keyMean F.W F.Y k by rw [HME.out]; exact hge)
            go_wp2_with fail
            refine Plan.wp_region_planz (fun w' => w'.cell? ⟨blt, 3, none⟩ = some (.slice (some ⟨g2, 0, none⟩) F.nU c2) ∧ w'.cell? ⟨blt, 4, none⟩ = some (.slice (some ⟨g3, 0, none⟩) F.nV c3) ∧ w'.cell? ⟨bla, 3, none⟩ = some (.slice (some ⟨qa2, oa2, none⟩) F.nU caU) ∧ w'.cell? ⟨bla, 4, none⟩ = some (.slice (some ⟨qa3, oa3, none⟩) F.nV caV) ∧ w'.cell? ⟨qa2, oa2 + k, none⟩ = some (.int .u8 (F.U k)) ∧ w'.cell? ⟨qa3, oa3 + k, none⟩ = some (.int .u8 (F.V k))) 19 (([0, 1, 2, 3, 4, 5, 6, 7, 8, 9, 10, 11, 12, 13, 14, 15, 16].map (·, true)) ++ (([17].map (·, false)) ++ (([18].map (·, true)) ++ (([19].map (·, false)))))) (by kernel_rfl) (by kernel_rfl) (by kernel_rfl) ⟨t3, t4, a3, a4, x2, x3⟩ ?_
            refine' Plan.plan_seg _ [0, 1, 2, 3, 4, 5, 6, 7, 8, 9, 10, 11, 12, 13, 14, 15, 16] (([17].map (·, false)) ++ (([18].map (·, true)) ++ (([19].map (·, false))))) (by kernel_rfl) (by kernel_rfl) rfl (by exact ⟨t3, t4, a3, a4, x2, x3⟩) (fun wx hS => ?_) ?_
            rotate_left
            · obtain ⟨z1, z2, z3, z4, z5, z6⟩ := hS
              go_light
              iterate 17 (apply Plan.seg_pick; rfl; intro K hK; go_wp)
              exact Plan.seg_nil
            refine Plan.plan_of_effect rfl (fun K hK => ?_)
            go_wp2_with fail
            refine ⟨⟨(by simp only [World.cell?_drew]; rw [World.cell?_setCell_far _ _ _ _ (by simp; omega)]; exact t3), (by simp only [World.cell?_drew]; rw [World.cell?_setCell_far _ _ _ _ (by simp; omega)]; exact t4), (by simp only [World.cell?_drew]; rw [World.cell?_setCell_far _ _ _ _ (by simp; omega)]; exact a3), (by simp only [World.cell?_drew]; rw [World.cell?_setCell_far _ _ _ _ (by simp; omega)]; exact a4), (by simp only [World.cell?_drew]; rw [World.cell?_setCell_far _ _ _ _ (by simp; omega)]; exact x2), (by simp only [World.cell?_drew]; rw [World.cell?_setCell_far _ _ _ _ (by simp; omega)]; exact x3)⟩, ?_⟩
            refine' Plan.plan_seg _ [18] (([19].map (·, false))) (by kernel_rfl) (by kernel_rfl) rfl (by exact ⟨(by simp only [World.cell?_drew]; rw [World.cell?_setCell_far _ _ _ _ (by simp; omega)]; exact t3), (by simp only [World.cell?_drew]; rw [World.cell?_setCell_far _ _ _ _ (by simp; omega)]; exact t4), (by simp only [World.cell?_drew]; rw [World.cell?_setCell_far _ _ _ _ (by simp; omega)]; exact a3), (by simp only [World.cell?_drew]; rw [World.cell?_setCell_far _ _ _ _ (by simp; omega)]; exact a4), (by simp only [World.cell?_drew]; rw [World.cell?_setCell_far _ _ _ _ (by simp; omega)]; exact x2), (by simp only [World.cell?_drew]; rw [World.cell?_setCell_far _ _ _ _ (by simp; omega)]; exact x3)⟩) (fun wx hS => ?_) ?_
            rotate_left
            · obtain ⟨z1, z2, z3, z4, z5, z6⟩ := hS
              go_light
              iterate 1 (apply Plan.seg_pick; rfl; intro K hK; go_wp)
              exact Plan.seg_nil
            refine Plan.plan_of_last rfl (fun K hK => ?_)
            go_wp2_with fail
            refine Plan.plan_done ?_
            go_wp2_with fail
            go_roundw
            case rel =>
              refine ⟨k + 1, by omega, by go_num, by repeat (first | with_reducible exact HGR.out | with_reducible refine Only2.drew ?_ | with_reducible refine Only2.set1 ?_ _ _ | with_reducible refine Only2.set2 ?_ _ _), ?_, ?_⟩
              · repeat (with_reducible refine Row.drew ?_)
                refine (HO.out.1.store k (F' := fun j => if j < k + 1 then keyC t F.W F.Y F.U G.U j else G.U j) (u := F.U k) ?_ (fun i _ hik => ite_iff (by omega))).far (by simp; omega) _
                simp only [show k < k + 1 by omega, if_true]; exact if_pos HGE.out
              · repeat (with_reducible refine Row.drew ?_)
                refine (HO.out.2.far (by simp; omega) _).store k (F' := fun j => if j < k + 1 then keyC t F.W F.Y F.V G.V j else G.V j) (u := F.V k) ?_ (fun i _ hik => ite_iff (by omega))
                simp only [show k < k + 1 by omega, if_true]; exact if_pos HGE.out
            case measure => simp [intOf]; omega
          · have HGE := Lib.hid (show ¬ t ≤ keyMean F.W F.Y k by rw [HME.out]; exact hge)
            go_wp2_with fail
            go_roundw
            case rel =>
              refine ⟨k + 1, by omega, by go_num, by repeat (first | with_reducible exact HGR.out | with_reducible refine Only2.drew ?_ | with_reducible refine Only2.set1 ?_ _ _ | with_reducible refine Only2.set2 ?_ _ _), ?_, ?_⟩
              · repeat (with_reducible refine Row.drew ?_)
                refine HO.out.1.congr (fun i hi => ?_)
                by_cases e : i = k
                · subst e; simp only [show i < i + 1 by omega, if_true, show ¬ i < i by omega, if_false]; exact (if_neg HGE.out).symm
                · exact ite_iff (by omega)
              · repeat (with_reducible refine Row.drew ?_)
                refine HO.out.2.congr (fun i hi => ?_)
                by_cases e : i = k
                · subst e; simp only [show i < i + 1 by omega, if_true, show ¬ i < i by omega, if_false]; exact (if_neg HGE.out).symm
                · exact ite_iff (by omega)
            case measure => simp [intOf]; omega
        · obtain rfl : k = F.nU := by omega
          have r1 := hgr.row RR.out.r1 (by omega) (by omega)
          have r2 := ho.congr (F' := keyC t F.W F.Y F.U G.U) (fun i hi => if_pos hi)
          have r3 := hv.congr (F' := keyC t F.W F.Y F.V G.V) (fun i hi => if_pos (by omega))
          replace RR := Lib.hid (K3.mk r1 r2 r3)
          replace BX_t := Lib.hid (BX_t.out.only2 hgr (by omega) (by omega))
          replace BX_r := Lib.hid (BX_r.out.only2 hgr (by omega) (by omega))
          replace FZ_r := Lib.hid (FZ_r.out.only2 hgr (by omega) (by omega))
          replace CE := Lib.hid (CE.out.only2 hgr (by omega) (by omega))
          replace FZ_e := Lib.hid (FZ_e.out.only2 hgr (by omega) (by omega))
          replace HB := Lib.hid (HB.out.trans (hgr.below (by omega) (by omega) HB.out.size))
          clear r1 r2 r3 ho hv hgr
          obtain ⟨t0, t1, t2, t3, t4⟩ := BX_t.out
          obtain ⟨r0, r1, r2, r3, r4⟩ := BX_r.out
          have s0 := CE.out.k0
          have fz := FZ_r.out.2
          have fe := FZ_e.out.2
          go_wp2_with fail
          refine leaves_cons (f := 54) (args := #[.pointer (some ⟨blr, 0, none⟩), .pointer (some ⟨ble, 0, none⟩)]) (by simp) (by simp [go_sem]) ?_
          refine (idle54 _ _ _).mono ?_
          rintro e u' w'' ⟨rfl, rfl, rfl⟩
          simp [Leaves, settle, results, Try.results26, go_sem, r0, r1, r2, r3, r4, s0]
          have e : keyFr t F G = ⟨(Wn : Int), F.H, F.nY, F.nU, F.nV, keyY t F.Y G.Y, keyC t F.W F.Y F.U G.U, keyC t F.W F.Y F.V G.V⟩ := by unfold keyFr; rw [EW.out]
          rw [e]
          refine ⟨K3.FA ((((((RR.out.far (by omega) _ _).far (by omega) _ _).far (by omega) _ _).far (by omega) _ _).far (by omega) _ _).far (by omega) _ _) (fun i hi => keyY_bd HC1.out.2.2.1 HC1.out.2.2.2 i hi) (fun i hi => keyC_bd HC2.out.2.2.1 HC2.out.2.2.2 i hi) (fun i hi => keyC_bd HC3.out.2.2.1 HC3.out.2.2.2 i hi), ?_⟩
          exact (below_put5 HB.out n0 _ _ _ _ _).setCell (by simp; omega) _

end Go.Proofs.Ytnnobdcbmagbaaa

/- compose.Key and its reference where they refuse. -/
namespace Go.Proofs.Ytnnobdcbmagbaaa
open Go.RowKit
set_option linter.unusedVariables false

set_option maxRecDepth 100000 in
set_option maxHeartbeats 2000000 in
theorem key_no (v u : Value) (F G : Fr) (t : Int) (w : World) (hv : FA w v F) (hu : FA w u G) (hp : (pairOk F G && okThr t) = false) :
    Calls Try.prog 26 #[v, u, .int .i64 t] w fun e w' => e = .returned (.tuple #[zeroV, .int .i64 1]) ∧ Below w.heap.size w w' := by
  have hmf : ∀ (fn : Fn) (first cap : Array Value) (w : World), (Instr.makeFunc fn first cap).run Try.prog w = .ok (.func fn first cap) w := fun _ _ _ _ => rfl
  have hv0 := hv
  have hu0 := hu
  obtain ⟨y, u1, z, rfl, _, _, _⟩ := hv
  obtain ⟨y', u', z', rfl, _, _, _⟩ := hu
  have B0 : ∀ o1 o2 o3 o4, Below w.heap.size w ((((w.alloc o1).alloc o2).alloc o3).alloc o4) := fun _ _ _ _ => by go_grown
  have HV := Lib.hid hv0
  have HU := Lib.hid hu0
  have HP := Lib.hid hp
  clear hv0 hu0 hp
  go_enter_defers Try.func26, Try.ntmps26
  go_wp2_with fail
  refine (matching_any _ _ F G _ ?_ ?_).mono ?_
  · exact HV.out.below (by go_grown)
  · exact HU.out.below (by go_grown)
  rintro e w1 ⟨rfl, hb⟩
  have hc := fun (p : Addr) (h : p.block < w.heap.size + 4) => hb.cell (p := p) (by simpa using h)
  have hz := fun (p : Addr) (h : p.block < w.heap.size + 4) => hb.frozen (p := p) (by simpa using h)
  have r0 : w1.cell? ⟨w.heap.size + 2, 0, none⟩ = some (.int .i64 0) := (hc _ (by simp)).trans (by simp [go_sem])
  have r1 : w1.cell? ⟨w.heap.size + 2, 1, none⟩ = some (.int .i64 0) := (hc _ (by simp)).trans (by simp [go_sem])
  have r2 : w1.cell? ⟨w.heap.size + 2, 2, none⟩ = some (.slice none 0 0) := (hc _ (by simp)).trans (by simp [go_sem])
  have r3 : w1.cell? ⟨w.heap.size + 2, 3, none⟩ = some (.slice none 0 0) := (hc _ (by simp)).trans (by simp [go_sem])
  have r4 : w1.cell? ⟨w.heap.size + 2, 4, none⟩ = some (.slice none 0 0) := (hc _ (by simp)).trans (by simp [go_sem])
  have s0 : w1.cell? ⟨w.heap.size + 3, 0, none⟩ = some (.int .i64 0) := (hc _ (by simp)).trans (by simp [go_sem])
  have z4 : ∀ o, w1.frozen? ⟨w.heap.size + 2, o, none⟩ = false := fun o => (hz _ (by simp)).trans (by simp [go_sem])
  have z5 : w1.frozen? ⟨w.heap.size + 3, 0, none⟩ = false := (hz _ (by simp)).trans (by simp [go_sem])
  have hN : w.heap.size + 4 ≤ w1.heap.size := by have := hb.size; simpa using this
  have W1 : Below w.heap.size w w1 := (B0 _ _ _ _).trans (hb.mono (by simp; omega))
  clear hb hc hz
  cases hpk : pairOk F G
  · have HK := Lib.hid hpk
    clear hpk
    go_wp2_with fail
    refine leaves_cons (f := 54) (args := #[.pointer (some ⟨w.heap.size + 1 + 1, 0, none⟩), .pointer (some ⟨w.heap.size + 1 + 1 + 1, 0, none⟩)]) (by simp) (by simp [go_sem]) ?_
    refine (idle54 _ _ _).mono ?_
    rintro e u' w'' ⟨rfl, rfl, rfl⟩
    simp [Leaves, settle, results, Try.results26, go_sem, r0, r1, r2, r3, r4, s0, zeroV]
    go_grown
  · have hs : ¬ (0 ≤ t ∧ t ≤ 255) := by have := HP.out; simpa [hpk, okThr] using this
    have HK := Lib.hid hpk
    clear hpk
    by_cases ht : t < 0
    · clear hs
      go_wp2_with fail
      refine leaves_cons (f := 54) (args := #[.pointer (some ⟨w.heap.size + 1 + 1, 0, none⟩), .pointer (some ⟨w.heap.size + 1 + 1 + 1, 0, none⟩)]) (by simp) (by simp [go_sem]) ?_
      refine (idle54 _ _ _).mono ?_
      rintro e u' w'' ⟨rfl, rfl, rfl⟩
      simp [Leaves, settle, results, Try.results26, go_sem, r0, r1, r2, r3, r4, s0, zeroV]
      go_grown
    · have ht1 : 0 ≤ t := by omega
      have ht2 : 255 < t := by omega
      clear hs ht
      go_wp2_with fail
      refine leaves_cons (f := 54) (args := #[.pointer (some ⟨w.heap.size + 1 + 1, 0, none⟩), .pointer (some ⟨w.heap.size + 1 + 1 + 1, 0, none⟩)]) (by simp) (by simp [go_sem]) ?_
      refine (idle54 _ _ _).mono ?_
      rintro e u' w'' ⟨rfl, rfl, rfl⟩
      simp [Leaves, settle, results, Try.results26, go_sem, r0, r1, r2, r3, r4, s0, zeroV]
      go_grown

set_option maxRecDepth 100000 in
set_option maxHeartbeats 2000000 in
theorem rkey_no (v u : Value) (F G : Fr) (t : Int) (w : World) (hv : FA w v F) (hu : FA w u G) (hp : (pairOk F G && okThr t) = false) :
    Calls Try.prog 27 #[v, u, .int .i64 t] w fun e w' => e = .returned (.tuple #[zeroV, .int .i64 1]) ∧ Below w.heap.size w w' := by
  have FA_a := Lib.hid hv
  have FA_b := Lib.hid hu
  have HP := Lib.hid hp
  obtain ⟨ay, cy, au, cu, av, cv, rfl⟩ := hv.shape
  obtain ⟨ay', cy', au', cu', av', cv', rfl⟩ := hu.shape
  clear hv hu hp
  go_enter Try.func27, Try.ntmps27
  go_upto_region 1 with fail
  obtain ⟨w1, hw⟩ : ∃ x, x = ((w.alloc (.cells #[.int .i64 F.W, .int .i64 F.H, .slice ay F.nY cy, .slice au F.nU cu, .slice av F.nV cv] 26)).alloc (.cells #[.int .i64 G.W, .int .i64 G.H, .slice ay' G.nY cy', .slice au' G.nU cu', .slice av' G.nV cv'] 26)).alloc (.cells #[.int .i64 0, .int .i64 0, .slice none 0 0, .slice none 0 0, .slice none 0 0] 26) := ⟨_, rfl⟩
  rw [← hw]
  have hE : Below w.heap.size w w1 := by rw [hw]; go_grown
  have BX_a := Lib.hid (show BX w1 w.heap.size _ _ _ _ _ by rw [hw]; exact ((BX.of_alloc _ _ _ _ _ _ _).below (below_box _ _)).below (below_box _ _))
  have BX_b := Lib.hid (show BX w1 (w.heap.size + 1) _ _ _ _ _ by rw [hw]; exact (BX.of_alloc' _ _ _ _ _ _ _ _ (by simp)).below (below_box _ _))
  have BX_r := Lib.hid (show BX w1 (w.heap.size + 1 + 1) _ _ _ _ _ by rw [hw]; exact BX.of_alloc' _ _ _ _ _ _ _ _ (by simp))
  have FZ_r := Lib.hid (show Fz w1 (w.heap.size + 1 + 1) from ⟨by rw [hw]; simp, fun o => by rw [hw]; simp [go_sem]⟩)
  replace FA_a := Lib.hid (FA_a.out.below hE)
  replace FA_b := Lib.hid (FA_b.out.below hE)
  have HB := Lib.hid hE
  clear hw hE
  obtain ⟨bla, hbla⟩ : ∃ b, b = w.heap.size := ⟨_, rfl⟩
  obtain ⟨blb, hblb⟩ : ∃ b, b = w.heap.size + 1 := ⟨_, rfl⟩
  obtain ⟨blr, hblr⟩ : ∃ b, b = w.heap.size + 1 + 1 := ⟨_, rfl⟩
  rw [← hblr] at BX_r FZ_r ⊢
  rw [← hblb] at BX_b ⊢
  rw [← hbla] at BX_a ⊢
  have n0 : w.heap.size ≤ blr := by omega
  clear hbla hblb hblr
  obtain ⟨a0, a1, a2, a3, a4⟩ := BX_a.out
  obtain ⟨b0, b1, b2, b3, b4⟩ := BX_b.out
  go_wp2_with fail
  refine (pair_any _ _ F G _ FA_a.out FA_b.out).mono ?_
  rintro e w2 ⟨rfl, hb⟩
  have HE := Lib.hid hb
  clear hb a0 a1 a2 a3 a4 b0 b1 b2 b3 b4
  replace BX_r := Lib.hid (BX_r.out.below HE.out)
  replace FZ_r := Lib.hid (FZ_r.out.below HE.out)
  replace HB := Lib.hid (HB.out.trans (HE.out.mono HB.out.size))
  clear HE
  obtain ⟨r0, r1, r2, r3, r4⟩ := BX_r.out
  have fz := FZ_r.out.2
  cases hpk : pairOk F G
  · clear hpk
    go_wp2_with fail
    refine bodyPost_ret (v := .tuple #[zeroV, .int .i64 1]) (by simp [results, Try.results27, go_sem, r0, r1, r2, r3, r4, zeroV]) rfl ?_
    have hB := HB.out
    exact ⟨rfl, by go_grown⟩
  · have hs : ¬ (0 ≤ t ∧ t ≤ 255) := by have := HP.out; simpa [hpk, okThr] using this
    clear hpk
    by_cases ht : t < 0
    · clear hs
      go_wp2_with fail
      refine bodyPost_ret (v := .tuple #[zeroV, .int .i64 1]) (by simp [results, Try.results27, go_sem, r0, r1, r2, r3, r4, zeroV]) rfl ?_
      have hB := HB.out
      exact ⟨rfl, by go_grown⟩
    · have ht1 : 0 ≤ t := by omega
      have ht2 : 255 < t := by omega
      clear hs ht
      go_wp2_with fail
      refine bodyPost_ret (v := .tuple #[zeroV, .int .i64 1]) (by simp [results, Try.results27, go_sem, r0, r1, r2, r3, r4, zeroV]) rfl ?_
      have hB := HB.out
      exact ⟨rfl, by go_grown⟩
end Go.Proofs.Ytnnobdcbmagbaaa
