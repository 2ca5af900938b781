/- The contracts of Wipe and of the reference's Wipe at all inputs: the same frame and error. -/
import Derived.Test.YtnnobdcbmagbaaaRP
import Derived.Test.YtnnobdcbmagbaaaRPB
import Derived.Test.YtnnobdcbmagbaaaRQ
import Derived.Test.YtnnobdcbmagbaaaRQB
import Derived.Test.YtnnobdcbmagbaaaLE
namespace Go.Proofs.Ytnnobdcbmagbaaa
open Go.RowKit
set_option linter.unusedVariables false

set_option maxRecDepth 100000 in
set_option maxHeartbeats 2000000 in
theorem rwipe_no (v u : Value) (F G : Fr) (num den d : Int) (w : World) (hv : FA w v F) (hu : FA w u G) (hp : (pairOk F G && okShare num den && okDir d) = false) :
    Calls Try.prog 25 #[v, u, .int .i64 num, .int .i64 den, .int .i64 d] w fun e w' => e = .returned (.tuple #[zeroV, .int .i64 1]) ∧ Below w.heap.size w w' := by
  have FA_a := Lib.hid hv
  have FA_b := Lib.hid hu
  obtain ⟨ay, cy, au, cu, av, cv, rfl⟩ := hv.shape
  obtain ⟨ay', cy', au', cu', av', cv', rfl⟩ := hu.shape
  have HP := Lib.hid hp
  clear hv hu hp
  go_enter Try.func25, Try.ntmps25
  go_upto_region 1 with fail
  obtain ⟨w1, hw⟩ : ∃ x, x = ((w.alloc (.cells #[.int .i64 F.W, .int .i64 F.H, .slice ay F.nY cy, .slice au F.nU cu, .slice av F.nV cv] 26)).alloc (.cells #[.int .i64 G.W, .int .i64 G.H, .slice ay' G.nY cy', .slice au' G.nU cu', .slice av' G.nV cv'] 26)).alloc (.cells #[.int .i64 0, .int .i64 0, .slice none 0 0, .slice none 0 0, .slice none 0 0] 26) := ⟨_, rfl⟩
  rw [← hw]
  have hE : Below w.heap.size w w1 := by rw [hw]; go_grown
  have BX_a := Lib.hid (show BX w1 w.heap.size _ _ _ _ _ by rw [hw]; exact ((BX.of_alloc _ _ _ _ _ _ _).below (below_box _ _)).below (below_box _ _))
  have BX_b := Lib.hid (show BX w1 (w.heap.size + 1) _ _ _ _ _ by rw [hw]; exact (BX.of_alloc' _ _ _ _ _ _ _ _ (by simp)).below (below_box _ _))
  have BX_r := Lib.hid (show BX w1 (w.heap.size + 1 + 1) _ _ _ _ _ by rw [hw]; exact BX.of_alloc' _ _ _ _ _ _ _ _ (by simp))
  have FZ_r := Lib.hid (show Fz w1 (w.heap.size + 1 + 1) from ⟨by rw [hw]; simp, fun o => by rw [hw]; simp [go_sem]⟩)
  replace FA_a := Lib.hid (FA_a.out.below hE)
  replace FA_b := Lib.hid (FA_b.out.below hE)
  have HB := Lib.hid hE
  clear hw hE
  obtain ⟨bla, hbla⟩ : ∃ b, b = w.heap.size := ⟨_, rfl⟩
  obtain ⟨blb, hblb⟩ : ∃ b, b = w.heap.size + 1 := ⟨_, rfl⟩
  obtain ⟨blr, hblr⟩ : ∃ b, b = w.heap.size + 1 + 1 := ⟨_, rfl⟩
  rw [← hblr] at BX_r FZ_r ⊢
  rw [← hblb] at BX_b ⊢
  rw [← hbla] at BX_a ⊢
  have n0 : w.heap.size ≤ blr := by omega
  clear hbla hblb hblr
  obtain ⟨a0, a1, a2, a3, a4⟩ := BX_a.out
  obtain ⟨b0, b1, b2, b3, b4⟩ := BX_b.out
  go_wp2_with fail
  refine (pair_any _ _ F G _ FA_a.out FA_b.out).mono ?_
  rintro e w2 ⟨rfl, hb⟩
  have HE := Lib.hid hb
  clear hb a0 a1 a2 a3 a4 b0 b1 b2 b3 b4
  replace BX_r := Lib.hid (BX_r.out.below HE.out)
  replace FZ_r := Lib.hid (FZ_r.out.below HE.out)
  replace HB := Lib.hid (HB.out.trans (HE.out.mono HB.out.size))
  clear HE
  obtain ⟨r0, r1, r2, r3, r4⟩ := BX_r.out
  have fz := FZ_r.out.2
  cases hpk : pairOk F G
  · clear hpk
    go_wp2_with fail
    refine bodyPost_ret (v := .tuple #[zeroV, .int .i64 1]) (by simp [results, Try.results25, go_sem, r0, r1, r2, r3, r4, zeroV]) rfl ?_
    have hB := HB.out
    exact ⟨rfl, by go_grown⟩
  cases hsk : okShare num den
  · have HS := Lib.hid hsk
    clear hpk hsk
    go_wp2_with fail
    refine (ratio_any _ _ _).mono ?_
    rintro e w' ⟨rfl, rfl⟩
    rw [HS.out]
    go_wp2_with fail
    refine bodyPost_ret (v := .tuple #[zeroV, .int .i64 1]) (by simp [results, Try.results25, go_sem, r0, r1, r2, r3, r4, zeroV]) rfl ?_
    have hB := HB.out
    exact ⟨rfl, by go_grown⟩
  have hdk : okDir d = false := by have := HP.out; simpa [hpk, hsk] using this
  have HS := Lib.hid hsk
  simp only [okDir, decide_eq_false_iff_not] at hdk
  clear hpk hsk
  by_cases hd0 : d < 0
  · clear hdk
    go_wp2_with fail
    refine (ratio_any _ _ _).mono ?_
    rintro e w' ⟨rfl, rfl⟩
    rw [HS.out]
    go_wp2_with fail
    refine bodyPost_ret (v := .tuple #[zeroV, .int .i64 1]) (by simp [results, Try.results25, go_sem, r0, r1, r2, r3, r4, zeroV]) rfl ?_
    have hB := HB.out
    exact ⟨rfl, by go_grown⟩
  · have hd3 : 3 < d := by omega
    clear hdk
    go_wp2_with fail
    refine (ratio_any _ _ _).mono ?_
    rintro e w' ⟨rfl, rfl⟩
    rw [HS.out]
    go_wp2_with fail
    refine bodyPost_ret (v := .tuple #[zeroV, .int .i64 1]) (by simp [results, Try.results25, go_sem, r0, r1, r2, r3, r4, zeroV]) rfl ?_
    have hB := HB.out
    exact ⟨rfl, by go_grown⟩

def wipeR (F G : Fr) (num den d : Int) : Fr := if pairOk F G && okShare num den && okDir d then wipeFr num den d F G else Fr.zero
def wipeE (F G : Fr) (num den d : Int) : Int := if pairOk F G && okShare num den && okDir d then 0 else 1

theorem wipe_any (v u : Value) (F G : Fr) (num den d : Int) (w : World) (hv : FA w v F) (hu : FA w u G) :
    Calls Try.prog 24 #[v, u, .int .i64 num, .int .i64 den, .int .i64 d] w fun e w' => ∃ r, e = .returned (.tuple #[r, .int .i64 (wipeE F G num den d)]) ∧ FA w' r (wipeR F G num den d) ∧ Below w.heap.size w w' := by
  cases h : pairOk F G && okShare num den && okDir d
  · refine (wipe_no v u F G num den d w hv hu h).mono ?_
    rintro e w' ⟨rfl, hb⟩
    exact ⟨zeroV, by simp [wipeE, h], by simp only [wipeR, h]; exact FA.zero _, hb⟩
  · have h' := h
    simp only [Bool.and_eq_true] at h'
    refine (wipe_yes v u F G num den d w hv hu h'.1.1 h'.1.2 h'.2).mono ?_
    rintro e w' ⟨r, rfl, hf, hb⟩
    exact ⟨r, by simp [wipeE, h], by simp only [wipeR, h]; exact hf, hb⟩

theorem rwipe_yes (v u : Value) (F G : Fr) (num den d : Int) (w : World) (hv : FA w v F) (hu : FA w u G) (hp : pairOk F G = true) (hs : okShare num den = true) (hd : okDir d = true) :
    Calls Try.prog 25 #[v, u, .int .i64 num, .int .i64 den, .int .i64 d] w fun e w' => ∃ r, e = .returned (.tuple #[r, .int .i64 0]) ∧ FA w' r (wipeFr num den d F G) ∧ Below w.heap.size w w' := by
  simp only [okDir, decide_eq_true_eq] at hd
  rcases (show d = 0 ∨ d = 1 ∨ d = 2 ∨ d = 3 by omega) with rfl | rfl | rfl | rfl
  · exact rwipe_yes0 v u F G num den w hv hu hp hs
  · exact rwipe_yes1 v u F G num den w hv hu hp hs
  · exact rwipe_yes2 v u F G num den w hv hu hp hs
  · exact rwipe_yes3 v u F G num den w hv hu hp hs

theorem rwipe_any (v u : Value) (F G : Fr) (num den d : Int) (w : World) (hv : FA w v F) (hu : FA w u G) :
    Calls Try.prog 25 #[v, u, .int .i64 num, .int .i64 den, .int .i64 d] w fun e w' => ∃ r, e = .returned (.tuple #[r, .int .i64 (wipeE F G num den d)]) ∧ FA w' r (wipeR F G num den d) ∧ Below w.heap.size w w' := by
  cases h : pairOk F G && okShare num den && okDir d
  · refine (rwipe_no v u F G num den d w hv hu h).mono ?_
    rintro e w' ⟨rfl, hb⟩
    exact ⟨zeroV, by simp [wipeE, h], by simp only [wipeR, h]; exact FA.zero _, hb⟩
  · have h' := h
    simp only [Bool.and_eq_true] at h'
    refine (rwipe_yes v u F G num den d w hv hu h'.1.1 h'.1.2 h'.2).mono ?_
    rintro e w' ⟨r, rfl, hf, hb⟩
    exact ⟨r, by simp [wipeE, h], by simp only [wipeR, h]; exact hf, hb⟩

end Go.Proofs.Ytnnobdcbmagbaaa
