/- Texts of this claim joined: YV ZD PlanD. -/
import Derived.Test.YtkhjkemllgjfmaaPu00
import Derived.Test.YtkhjkemllgjfmaaPu01
import Derived.Test.YtkhjkemllgjfmaaPu06
import Derived.Test.YtkhjkemllgjfmaaPu07
set_option linter.unusedVariables false
set_option linter.unusedSimpArgs false

/- The contract of the program's Put at a light valid file. -/
namespace Go.Proofs.Ytkhjkemllgjfmaa
open Go.RowKit
set_option linter.unusedVariables false
set_option linter.unusedSimpArgs false

def nFtyp : ByteArray := ⟨#[102, 116, 121, 112]⟩
def nMdat : ByteArray := ⟨#[109, 100, 97, 116]⟩
def ftypB : List Int := bytesT (.leaf nFtyp ftypL)
theorem ftypB_length : ftypB.length = 20 := by
  unfold ftypB
  simp only [bytesT, boxP_length, ftypL_length]
  rfl
def firstOf (F : Fl) : Int := ((ftypB ++ bytesT (moovT F 0)).length : Int) + 8
def putL (F : Fl) : List Int := ftypB ++ bytesT (moovT F (firstOf F)) ++ boxP nMdat (dataL F.T F.nT)
theorem idle37 (p q : Addr) (w : World) : CallsD Try.prog 37 #[.pointer (some p), .pointer (some q)] .returning w fun e u' w' => e = .returned (.tuple #[]) ∧ u' = .returning ∧ w' = w := by
  refine callsD_of_wpS Try.func37 rfl fun c₀ cs hu => ?_
  apply wpS_seq
  apply wpS_region
  simp [wpOpsS, go_sem, recoverD, hu, Try.ntmps37, Exit.thenS]
  refine wpS_cond (t := false) (by simp [Act.eval, Array.replicate]) ?_
  simp only [Bool.false_eq_true, if_false]
  refine wpS_of_wp (wp_skip ?_)
  cases c₀
  simp_all [bodyPostS, results, Try.results37]
theorem dataL_length (T : Nat → Tr) (n : Nat) : (dataL T n).length = offN T n := by
  unfold dataL
  induction n with
  | zero => rfl
  | succ n ih =>
    simp only [catN, offN, List.length_append, ih]
    rw [show (trL (T n)).length = sizeN (T n).S (T n).nS from catN_sm (T n).S (T n).nS]
theorem owns_setc {w : World} {B : Nat} {v : Value} {L : List Int} (h : Own w B v L) {p : Addr} (hp : p.block < B) (u : Value) : Own (w.setCell p u) B v L := owns_far h hp u

set_option maxRecDepth 100000 in
set_option maxHeartbeats 4000000 in
theorem put_any (v : Value) (F : Fl) (w : World) (hv : FA w v F) (hok : okFl F = true) (hn : F.nT ≤ 6) (hL : ∀ i, i < F.nT → LT (F.T i)) :
    Calls Try.prog 21 #[v] w fun e w' => ∃ r, e = .returned (.tuple #[r, .int .i64 0]) ∧ BL w' r (putL F) ∧ Below w.heap.size w w' := by
  have HV := Lib.hid hv
  obtain ⟨cT, rfl, hts⟩ := hv
  obtain ⟨aT, dT, rfl⟩ := hts.shape
  have HTS := Lib.hid hts
  have HLT := Lib.hid hL
  have HOK := Lib.hid hok
  clear hts hL hok
  go_enter_defers Try.func21, Try.ntmps21
  go_upto_region 2 with fail
  obtain ⟨w1, hw1⟩ : ∃ x, x = ((w.alloc (.cells #[.int .i64 F.sc, .slice aT F.nT dT] 56)).alloc (.cells #[.slice none 0 0] 22)).alloc (.cells #[.int .i64 0] 24) := ⟨_, rfl⟩
  rw [← hw1]
  obtain ⟨g1, hg1⟩ : ∃ g, g = w.heap.size := ⟨_, rfl⟩
  have hE1 : Below w.heap.size w w1 := by rw [hw1]; go_grown
  have hz1 : w1.heap.size = w.heap.size + 3 := by rw [hw1]; simp [go_sem]
  have x0 : w1.cell? ⟨g1, 0, none⟩ = some (.int .i64 F.sc) := by rw [hw1, hg1]; simp [go_sem]
  have x1 : w1.cell? ⟨g1, 1, none⟩ = some (.slice aT F.nT dT) := by rw [hw1, hg1]; simp [go_sem]
  have hb1 : C1 w1 (g1 + 1) (.slice none 0 0) := by rw [hw1, hg1]; constructor <;> simp [go_sem]
  have he1 : C1 w1 (g1 + 1 + 1) (.int .i64 0) := by rw [hw1, hg1]; constructor <;> simp [go_sem]
  rw [← hg1]
  obtain ⟨g2, hg2⟩ : ∃ g, g = g1 + 1 := ⟨_, rfl⟩
  rw [← hg2] at hb1 he1 ⊢
  obtain ⟨g3, hg3⟩ : ∃ g, g = g2 + 1 := ⟨_, rfl⟩
  rw [← hg3] at he1 ⊢
  have l1 : g1 < w1.heap.size := by omega
  have l2 : g2 < w1.heap.size := by omega
  have l3 : g3 < w1.heap.size := by omega
  have n12 : g1 ≠ g2 := by omega
  have n13 : g1 ≠ g3 := by omega
  have n23 : g2 ≠ g3 := by omega
  have m1 : w.heap.size ≤ g1 := by omega
  have m2 : w.heap.size ≤ g2 := by omega
  have m3 : w.heap.size ≤ g3 := by omega
  have hw0 : w.heap.size ≤ w1.heap.size := by omega
  have HB1 := Lib.hid hE1
  have HX := Lib.hid (And.intro x0 x1)
  have Hb := Lib.hid hb1
  have He := Lib.hid he1
  clear hw1 hE1 hg1 hg2 hg3 hz1 hb1 he1
  go_wp2_with fail
  refine (validF_any _ F w1 (HV.out.below HB1.out) (by omega)).mono ?_
  rintro e w2 ⟨rfl, hb2⟩
  rw [HOK.out]
  have HB2 := Lib.hid hb2
  have s2 := hb2.size
  clear hb2 x0 x1
  go_wp2_with fail
  refine (ftype_any w2).mono ?_
  rintro e w3 ⟨r, rfl, hO, hb3⟩
  obtain ⟨Lf, hLf⟩ : ∃ Lq, Lq = ftypL := ⟨_, rfl⟩
  rw [← hLf] at hO
  obtain ⟨ra, rc, rfl⟩ := hO.shape
  have s3 := hb3.size
  have HB3 := Lib.hid (HB2.out.trans (hb3.mono s2))
  have hcf : CA w3 (Value.slice none 0 0).ownBlock (.iface 109 (.agg #[.string nFtyp, .slice ra Lf.length rc])) (.leaf nFtyp ftypL) := by
    have h := hO.ca nFtyp (no := none) (by simp)
    rw [hLf] at h ⊢
    exact h
  have HCF := Lib.hid hcf
  clear hO hb3 hLf hcf
  go_wp2_with fail
  refine (appb_any (.leaf nFtyp ftypL) trivial (.slice none 0 0) _ [] w1.heap.size w3 (own_nil _ _) HCF.out (by have := ftypB_length; unfold ftypB at this; simp [this]) (by omega)).mono ?_
  rintro e w4 ⟨r, rfl, hO, hA⟩
  have hb4 : Below w1.heap.size w1 w4 := HB3.out.trans ((hA.below rfl).mono (by omega))
  obtain ⟨L1, hL1⟩ : ∃ Lq, Lq = ftypB := ⟨_, rfl⟩
  replace hO : Own w4 w1.heap.size r L1 := by rw [hL1]; exact hO
  have hn1 : L1.length = 20 := by rw [hL1, ftypB_length]
  obtain ⟨rb, qb, rfl⟩ := hO.shape
  have HO := Lib.hid hO
  have HB4 := Lib.hid hb4
  have HL1 := Lib.hid hL1
  have HN1 := Lib.hid hn1
  have s4 := hb4.size
  have hbc := (hb4.cell (p := ⟨g2, 0, none⟩) l2).trans Hb.out.k0
  have hbf := (hb4.frozen (p := ⟨g2, 0, none⟩) l2).trans Hb.out.fz
  clear hO hA hb4 hL1 hn1 HB3 HCF
  go_upto_region 5 with fail
  have HO5 := Lib.hid (owns_setc HO.out (p := ⟨g2, 0, none⟩) l2 (.slice rb L1.length qb))
  have HX5 := Lib.hid (show (w4.setCell ⟨g2, 0, none⟩ (.slice rb L1.length qb)).cell? ⟨g1, 0, none⟩ = some (.int .i64 F.sc) ∧ (w4.setCell ⟨g2, 0, none⟩ (.slice rb L1.length qb)).cell? ⟨g1, 1, none⟩ = some (.slice aT F.nT dT) from ⟨by rw [World.cell?_setCell_far _ _ _ _ (by simpa using Ne.symm n12)]; exact (HB4.out.cell (p := ⟨g1, 0, none⟩) l1).trans HX.out.1, by rw [World.cell?_setCell_far _ _ _ _ (by simpa using Ne.symm n12)]; exact (HB4.out.cell (p := ⟨g1, 1, none⟩) l1).trans HX.out.2⟩)
  have Hb5 := Lib.hid (show C1 (w4.setCell ⟨g2, 0, none⟩ (.slice rb L1.length qb)) g2 (.slice rb L1.length qb) from ⟨by simp [go_sem, hbc], by rw [World.frozen?_setCell]; exact hbf⟩)
  have He5 := Lib.hid (show C1 (w4.setCell ⟨g2, 0, none⟩ (.slice rb L1.length qb)) g3 (.int .i64 0) from ⟨by rw [World.cell?_setCell_far _ _ _ _ (by simpa using n23)]; exact (HB4.out.cell (p := ⟨g3, 0, none⟩) l3).trans He.out.k0, by rw [World.frozen?_setCell]; exact (HB4.out.frozen (p := ⟨g3, 0, none⟩) l3).trans He.out.fz⟩)
  have hbw5 : Below w.heap.size w (w4.setCell ⟨g2, 0, none⟩ (.slice rb L1.length qb)) := (HB1.out.trans (HB4.out.mono hw0)).setCell m2 _
  have hz5 : (w4.setCell ⟨g2, 0, none⟩ (.slice rb L1.length qb)).heap.size = w4.heap.size := World.size_setCell _ _ _
  obtain ⟨w5, hw5⟩ : ∃ x, x = w4.setCell ⟨g2, 0, none⟩ (.slice rb L1.length qb) := ⟨_, rfl⟩
  rw [← hw5] at HO5 HX5 Hb5 He5 hbw5 hz5 ⊢
  have HBW5 := Lib.hid hbw5
  have s5 : w1.heap.size ≤ w5.heap.size := by omega
  clear hw5 hbw5 hz5 HO HX Hb He HB4 HB1 HB2 hbc hbf
  refine Plan.wp_region_plan (fun wx => Below w1.heap.size w5 wx) (([0, 1].map (·, true)) ++ (([2, 3].map (·, false)) ++ (([4, 5, 6].map (·, true))))) (by kernel_rfl) (by kernel_rfl) (by kernel_rfl) (Below.refl _ _).drew ?_
  refine' Plan.plan_seg _ [0, 1] (([2, 3].map (·, false)) ++ (([4, 5, 6].map (·, true)))) (by kernel_rfl) (by kernel_rfl) rfl (by exact (Below.refl _ _).drew) (fun wx hS => ?_) ?_
  rotate_left
  · have y0 := (hS.cell (p := ⟨g1, 0, none⟩) l1).trans HX5.out.1
    have y1 := (hS.cell (p := ⟨g1, 1, none⟩) l1).trans HX5.out.2
    have y2 := (hS.cell (p := ⟨g2, 0, none⟩) l2).trans Hb5.out.k0
    clear hS
    go_light
    iterate 2 (apply Plan.seg_pick; rfl; intro K hK; go_wp)
    exact Plan.seg_nil
  obtain ⟨w6, hw6⟩ : ∃ x, x = w5.drew := ⟨_, rfl⟩
  rw [← hw6]
  have hD : Below w5.heap.size w5 w6 := by rw [hw6]; exact (Below.refl _ _).drew
  have HO6 := Lib.hid (HO5.out.below hD)
  have HD := Lib.hid (hD.mono s5)
  have HW6 := Lib.hid (HBW5.out.trans (hD.mono (by omega)))
  have s6 := HD.out.size
  clear hw6 hD
  refine Plan.plan_of_effect rfl (fun K hK => ?_)
  go_wp2_with fail
  refine (movie_any _ F 0 w6 (HV.out.below HW6.out) hn HLT.out (by decide) (by decide)).mono ?_
  rintro e w7 ⟨r, rfl, hca, hb7⟩
  obtain ⟨ty, rx, rfl⟩ := (hca none (by simp)).iface
  have HCA := Lib.hid hca
  have HO7 := Lib.hid (HO6.out.below hb7)
  have HB7 := Lib.hid (HD.out.trans (hb7.mono (by omega)))
  have s7 := HB7.out.size
  have s67 := hb7.size
  clear hca hb7
  go_wp2_with fail
  refine ⟨HB7.out, ?_⟩
  refine Plan.plan_of_effect rfl (fun K hK => ?_)
  go_wp2_with fail
  refine (appb_any (moovT F 0) (moov_small hn 0) _ _ L1 w1.heap.size w7 HO7.out (HCA.out _ (fun q hq => HO6.out.lt hq)) (by have := moov_len hn HLT.out 0; rw [HN1.out]; omega) (by omega)).mono ?_
  rintro e w8 ⟨r, rfl, hO8, hA8⟩
  have hb8 : Below w1.heap.size w5 w8 := HB7.out.trans (hA8.up HO7.out (by omega))
  obtain ⟨hpre, _⟩ := hA8.pre w1.heap.size L1 (by omega) HO7.out
  have HOb := Lib.hid hpre
  have HB8 := Lib.hid hb8
  obtain ⟨L8, hL8⟩ : ∃ Lq, Lq = L1 ++ bytesT (moovT F 0) := ⟨_, rfl⟩
  rw [← hL8] at hO8
  have hl8 : L8.length ≤ 80000 := by rw [hL8, List.length_append, HN1.out]; have := moov_len hn HLT.out 0; omega
  have hf8 : (L8.length : Int) + 8 = firstOf F := by rw [hL8, HL1.out]; rfl
  obtain ⟨rd, qd, rfl⟩ := hO8.shape
  have HF8 := Lib.hid hf8
  have s8 := hb8.size
  clear hO8 hA8 hb8 hpre hL8 hf8 HO7 HO6 HCA HB7 HD
  go_wp2_with fail
  refine ⟨HB8.out, ?_⟩
  refine' Plan.plan_seg _ [4, 5, 6] [] (by kernel_rfl) (by kernel_rfl) rfl (by exact HB8.out) (fun wx hS => ?_) ?_
  rotate_left
  · clear hS
    go_light
    iterate 3 (apply Plan.seg_pick; rfl; intro K hK; go_wp)
    exact Plan.seg_nil
  refine Plan.plan_done ?_
  have z1 := (HB8.out.cell (p := ⟨g1, 1, none⟩) l1).trans HX5.out.2
  obtain ⟨fi, hfi⟩ : ∃ fi : Int, fi = (L8.length : Int) + 8 := ⟨_, rfl⟩
  rw [← hfi] at HF8 ⊢
  have hfb : 0 ≤ fi ∧ fi ≤ 80008 := by omega
  have HFB := Lib.hid hfb
  clear hfi hfb hl8
  go_wp2_with fail
  clear z1
  have hfb := HFB.out
  go_loopw [5, 24] (fun g i wr => ∃ k : Nat, k ≤ F.nT ∧ i = .int .i64 (k : Int) ∧ g = .int .i64 (fi + (offN F.T k : Nat)) ∧ Below w8.heap.size w8 wr) (fun _ i _ => F.nT - (intOf i).toNat)
  case atStart => exact ⟨0, Nat.zero_le _, rfl, by simp [offN], Below.refl _ _⟩
  case round =>
    obtain ⟨k, hk, rfl, rfl, hbw⟩ := hrel
    have HW8 := Lib.hid (show Below w.heap.size w w8 from HBW5.out.trans (HB8.out.mono (by omega)))
    have hww := HW8.out.trans (hbw.mono (by omega))
    have HWW := Lib.hid hww
    have HBr := Lib.hid hbw
    have sr := hbw.size
    clear hbw
    by_cases hlt : k < F.nT
    · obtain ⟨ao, c', e, hcc, H⟩ := HTS.out
      simp only [Value.slice.injEq, true_and] at e
      obtain ⟨rfl, rfl⟩ := e
      obtain ⟨b', o', c0, c1, c2, c3, c4, rfl, h0, h1, h2, h3, h4, hTC⟩ := H k hlt
      have HTA := Lib.hid (show TA w (.agg #[c0, c1, c2, c3, c4]) (F.T k) from ⟨c0, c1, c2, c3, c4, rfl, hTC⟩)
      obtain ⟨rfl, rfl, b2, b3, b4⟩ := hTC
      obtain ⟨p2, q2, rfl⟩ := b2.shape
      obtain ⟨p3, q3, rfl⟩ := b3.shape
      obtain ⟨p4, q4, rfl⟩ := b4.shape
      replace h0 := (hww.cell (block_lt_of_cell h0)).trans h0
      replace h1 := (hww.cell (block_lt_of_cell h1)).trans h1
      replace h2 := (hww.cell (block_lt_of_cell h2)).trans h2
      replace h3 := (hww.cell (block_lt_of_cell h3)).trans h3
      replace h4 := (hww.cell (block_lt_of_cell h4)).trans h4
      have hl := HLT.out k hlt
      have hoff := offN_le HLT.out k (by omega)
      have hzz := hl.z
      have hl1 := hl.s
      have hst : offN F.T (k + 1) = offN F.T k + sizeN (F.T k).S (F.T k).nS := rfl
      obtain ⟨Tk, hTk⟩ : ∃ T, T = F.T k := ⟨_, rfl⟩
      rw [← hTk] at h0 h1 h2 h3 h4 HTA hzz hl1 hst
      obtain ⟨G, hG⟩ : ∃ G, G = offN F.T k := ⟨_, rfl⟩
      rw [← hG] at hoff hst ⊢
      have HST := Lib.hid hst
      clear H b2 b3 b4 hTk hG hl hww hst
      go_upto_region 10 with fail
      obtain ⟨ws, hws⟩ : ∃ x, x = wr.alloc (.cells #[.string Tk.h, .int .i64 Tk.sc, .slice p2 Tk.nC q2, .slice p3 Tk.nS q3, .slice p4 Tk.nE q4] 43) := ⟨_, rfl⟩
      rw [← hws]
      obtain ⟨gs, hgs⟩ : ∃ g, g = wr.heap.size := ⟨_, rfl⟩
      have hbs : Below wr.heap.size wr ws := by rw [hws]; exact below_box _ _
      have hcx : C5 ws gs (.string Tk.h) (.int .i64 Tk.sc) (.slice p2 Tk.nC q2) (.slice p3 Tk.nS q3) (.slice p4 Tk.nE q4) := by rw [hws, hgs]; constructor <;> simp [go_sem]
      rw [← hgs]
      have HBs := Lib.hid (HBr.out.trans (hbs.mono sr))
      have HTs := Lib.hid (HTA.out.below (HWW.out.trans (hbs.mono (by omega))))
      have ss := HBs.out.size
      clear hws hgs hbs h0 h1 h2 h3 h4
      obtain ⟨y0, y1, y2, y3, y4⟩ := hcx
      go_wp2_with fail
      refine (size_any _ Tk ws HTs.out (by omega) (by omega)).mono ?_
      rintro e wv ⟨rfl, hbv⟩
      have HBv := Lib.hid (HBs.out.trans (hbv.mono ss))
      obtain ⟨Z, hZ⟩ : ∃ Z, Z = sizeN Tk.S Tk.nS := ⟨_, rfl⟩
      rw [← hZ] at hzz HST ⊢
      clear hbv hZ y0 y1 y2 y3 y4
      go_wp2_with fail
      refine ⟨⟨k + 1, by omega, by go_num, by rw [HST.out]; go_num, HBv.out⟩, ?_⟩
      simp [intOf]
      omega
    · obtain rfl : k = F.nT := by omega
      have hoff := offN_le HLT.out F.nT (Nat.le_refl _)
      obtain ⟨G, hG⟩ : ∃ G, G = offN F.T F.nT := ⟨_, rfl⟩
      rw [← hG] at hoff ⊢
      have HGq := Lib.hid hG
      have h58 := HB8.out.trans (HBr.out.mono (by omega))
      have HBrr := Lib.hid h58
      have HX9 := Lib.hid (And.intro ((h58.cell (p := ⟨g1, 0, none⟩) l1).trans HX5.out.1) ((h58.cell (p := ⟨g1, 1, none⟩) l1).trans HX5.out.2))
      have Hb9 := Lib.hid (show C1 wr g2 (.slice rb L1.length qb) from ⟨(h58.cell (p := ⟨g2, 0, none⟩) l2).trans Hb5.out.k0, (h58.frozen (p := ⟨g2, 0, none⟩) l2).trans Hb5.out.fz⟩)
      have He9 := Lib.hid (show C1 wr g3 (.int .i64 0) from ⟨(h58.cell (p := ⟨g3, 0, none⟩) l3).trans He5.out.k0, (h58.frozen (p := ⟨g3, 0, none⟩) l3).trans He5.out.fz⟩)
      have HO9 := Lib.hid (HOb.out.below HBr.out)
      clear hG h58 HX5 Hb5 He5 HOb HBr HB8 HW8 hww
      go_upto_region 14 with fail
      have hgs : g1 < w1.heap.size := l1
      refine Plan.wp_region_planz (fun wx => Below w1.heap.size wr wx) 5 (([0, 1, 2].map (·, true)) ++ (([3, 4, 5].map (·, false)))) (by kernel_rfl) (by kernel_rfl) (by kernel_rfl) (Below.refl _ _).drew ?_
      refine' Plan.plan_seg _ [0, 1, 2] (([3, 4, 5].map (·, false))) (by kernel_rfl) (by kernel_rfl) rfl (by exact (Below.refl _ _).drew) (fun wx hS => ?_) ?_
      rotate_left
      · have y0 := (hS.cell (p := ⟨g1, 0, none⟩) l1).trans HX9.out.1
        have y1 := (hS.cell (p := ⟨g1, 1, none⟩) l1).trans HX9.out.2
        have y2 := (hS.cell (p := ⟨g2, 0, none⟩) l2).trans Hb9.out.k0
        clear hS
        go_light
        iterate 3 (apply Plan.seg_pick; rfl; intro K hK; go_wp)
        exact Plan.seg_nil
      obtain ⟨wa, hwa⟩ : ∃ x, x = wr.drew := ⟨_, rfl⟩
      rw [← hwa]
      have hD : Below wr.heap.size wr wa := by rw [hwa]; exact (Below.refl _ _).drew
      have sr' : w5.heap.size ≤ wr.heap.size := by have := HBrr.out.size; omega
      have HOa := Lib.hid (HO9.out.below hD)
      have HDa := Lib.hid (hD.mono (show w1.heap.size ≤ wr.heap.size by omega))
      have HWa := Lib.hid (HWW.out.trans (hD.mono (by omega)))
      have sa := HDa.out.size
      clear hwa hD
      refine Plan.plan_of_effect rfl (fun K hK => ?_)
      go_wp2_with fail
      refine (movie_any _ F fi wa (HV.out.below HWa.out) hn HLT.out hfb.1 (by omega)).mono ?_
      rintro e wb ⟨r, rfl, hca, hbb⟩
      obtain ⟨ty2, rx2, rfl⟩ := (hca none (by simp)).iface
      have HCA := Lib.hid hca
      have HOb := Lib.hid (HOa.out.below hbb)
      have HBb := Lib.hid (HDa.out.trans (hbb.mono (by omega)))
      have sb := HBb.out.size
      have sab := hbb.size
      clear hca hbb
      go_wp2_with fail
      refine ⟨HBb.out, ?_⟩
      refine Plan.plan_of_effect rfl (fun K hK => ?_)
      go_wp2_with fail
      refine (appb_any (moovT F fi) (moov_small hn fi) _ _ L1 w1.heap.size wb HOb.out (HCA.out _ (fun q hq => HOa.out.lt hq)) (by have := moov_len hn HLT.out fi; rw [HN1.out]; omega) (by omega)).mono ?_
      rintro e wc ⟨r, rfl, hOc, hAc⟩
      have hbc : Below w1.heap.size wr wc := HBb.out.trans (hAc.up HOb.out (by omega))
      have HBc := Lib.hid hbc
      obtain ⟨Lc, hLc⟩ : ∃ Lq, Lq = L1 ++ bytesT (moovT F fi) := ⟨_, rfl⟩
      rw [← hLc] at hOc
      have hlc : Lc.length ≤ 80000 := by rw [hLc, List.length_append, HN1.out]; have := moov_len hn HLT.out fi; omega
      have HLc := Lib.hid hLc
      obtain ⟨re, qe, rfl⟩ := hOc.shape
      have HOc := Lib.hid hOc
      have sc := hbc.size
      have yc2 := (hbc.cell (p := ⟨g2, 0, none⟩) l2).trans Hb9.out.k0
      have yf2 := (hbc.frozen (p := ⟨g2, 0, none⟩) l2).trans Hb9.out.fz
      clear hOc hAc hbc hLc HOb HOa HCA HBb HDa HO9
      go_wp2_with fail
      refine ⟨HBc.out, ?_⟩
      refine Plan.plan_of_last rfl (fun K hK => ?_)
      go_wp2_with fail
      refine Plan.plan_done ?_
      have HOd := Lib.hid (owns_setc HOc.out (p := ⟨g2, 0, none⟩) l2 (.slice re Lc.length qe))
      have u1 : (wc.setCell ⟨g2, 0, none⟩ (.slice re Lc.length qe)).cell? ⟨g1, 1, none⟩ = some (.slice aT F.nT dT) := by rw [World.cell?_setCell_far _ _ _ _ (by simpa using Ne.symm n12)]; exact (HBc.out.cell (p := ⟨g1, 1, none⟩) l1).trans HX9.out.2
      have u2 : C1 (wc.setCell ⟨g2, 0, none⟩ (.slice re Lc.length qe)) g2 (.slice re Lc.length qe) := ⟨by simp [go_sem, yc2], by rw [World.frozen?_setCell]; exact yf2⟩
      have u3 : C1 (wc.setCell ⟨g2, 0, none⟩ (.slice re Lc.length qe)) g3 (.int .i64 0) := ⟨by rw [World.cell?_setCell_far _ _ _ _ (by simpa using n23)]; exact (HBc.out.cell (p := ⟨g3, 0, none⟩) l3).trans He9.out.k0, by rw [World.frozen?_setCell]; exact (HBc.out.frozen (p := ⟨g3, 0, none⟩) l3).trans He9.out.fz⟩
      have hbd : Below w.heap.size w (wc.setCell ⟨g2, 0, none⟩ (.slice re Lc.length qe)) := (HWW.out.trans (HBc.out.mono hw0)).setCell m2 _
      have hzd : (wc.setCell ⟨g2, 0, none⟩ (.slice re Lc.length qe)).heap.size = wc.heap.size := World.size_setCell _ _ _
      obtain ⟨wd, hwd⟩ : ∃ x, x = wc.setCell ⟨g2, 0, none⟩ (.slice re Lc.length qe) := ⟨_, rfl⟩
      rw [← hwd] at HOd u1 u2 u3 hbd hzd ⊢
      have Hu2 := Lib.hid u2
      have Hu3 := Lib.hid u3
      have HBd := Lib.hid hbd
      have sd : w1.heap.size ≤ wd.heap.size := by omega
      have u20 := u2.k0
      clear hwd u2 u3 hbd hzd yc2 yf2 HBc HOc HX9 Hb9 He9
      go_wp2_with fail
      refine (appb_pay _ _ F.nT F.T Lc w1.heap.size w wd HOd.out HTS.out HBd.out hw0 (by omega) (fun i hi => by have := (HLT.out i hi).s; omega) (by rw [dataL_length, ← HGq.out]; omega) sd).mono ?_
      rintro e we ⟨r, rfl, hOe, hAe⟩
      obtain ⟨Le, hLe⟩ : ∃ Lq, Lq = Lc ++ boxP ⟨#[109, 100, 97, 116]⟩ (dataL F.T F.nT) := ⟨_, rfl⟩
      rw [← hLe] at hOe
      have HLe := Lib.hid hLe
      clear hLe
      obtain ⟨rf, qf, rfl⟩ := hOe.shape
      have hbe : Below w1.heap.size wd we := hAe.up HOd.out (by omega)
      have v20 := (hbe.cell (p := ⟨g2, 0, none⟩) l2).trans Hu2.out.k0
      have v2f := (hbe.frozen (p := ⟨g2, 0, none⟩) l2).trans Hu2.out.fz
      have v30 := (hbe.cell (p := ⟨g3, 0, none⟩) l3).trans Hu3.out.k0
      have v3f := (hbe.frozen (p := ⟨g3, 0, none⟩) l3).trans Hu3.out.fz
      have HOe := Lib.hid hOe
      have HBe := Lib.hid (HBd.out.trans (hbe.mono hw0))
      clear hOe hAe hbe Hu2 Hu3 HOd u1 u20
      go_wp2_with fail
      refine leaves_cons (f := 37) (args := #[.pointer (some ⟨g2, 0, none⟩), .pointer (some ⟨g3, 0, none⟩)]) (by simp) (by simp [go_sem]) ?_
      refine (idle37 _ _ _).mono ?_
      rintro e u' w'' ⟨rfl, rfl, rfl⟩
      simp [Leaves, settle, results, Try.results21, go_sem, v20, v30, n23, n23.symm]
      have hpl : Le = putL F := by rw [HLe.out, HLc.out, HL1.out, HF8.out]; rfl
      rw [← hpl]
      exact ⟨(owns_setc (owns_setc HOe.out (p := ⟨g2, 0, none⟩) l2 _) (p := ⟨g3, 0, none⟩) l3 _).bl, (HBe.out.setCell m2 _).setCell m3 _⟩
end Go.Proofs.Ytkhjkemllgjfmaa

/- The bytes of Put as the reference joins them. -/
namespace Go.Proofs.Ytkhjkemllgjfmaa
open Go.RowKit
set_option linter.unusedVariables false
set_option linter.unusedSimpArgs false

def frontL (F : Fl) (first : Int) : List Int := [boxL nFtyp [strB ⟨#[99, 114, 118, 109]⟩, numsL [0], strB ⟨#[105, 115, 111, 109]⟩].flatten, rmoovL F first].flatten
def rputL (F : Fl) : List Int := [frontL F (((frontL F 0).length : Int) + 8), boxL nMdat [dataL F.T F.nT].flatten].flatten
theorem front_ref (F : Fl) (first : Int) : ftypB ++ bytesT (moovT F first) = frontL F first := by
  unfold frontL ftypB
  rw [moov_ref]
  simp only [bytesT]
  rw [boxP_four _ _ rfl]
  unfold ftypL
  simp
theorem put_ref (F : Fl) : putL F = rputL F := by
  unfold putL rputL firstOf
  rw [front_ref, front_ref, flat1, boxP_four _ _ rfl]
  simp
end Go.Proofs.Ytkhjkemllgjfmaa

/- Regions in which two operations with an effect may come up in either order: a plan that forks. -/
namespace Go.Plan
open Go

/-- A plan that may fork. -/
inductive PT where
  | leaf
  | run (l : List (Nat × Bool)) (r : PT)
  | fork (i : Nat) (r : PT) (j : Nat) (s : PT)
  | dyn (r : PT)

def PT.cnt : PT → Nat
  | leaf => 0
  | run l r => r.cnt + l.length
  | fork _ r _ _ => r.cnt + 1
  | dyn r => r.cnt

def treeGo (ops : Array Oper) (z : Nat) : Array Bool → PT → Bool
  | listed, .leaf => (Region.ready .any ops listed).isEmpty
  | listed, .run l r => match planGo ops z listed l with
    | some l' => treeGo ops z l' r && decide (l'.size = ops.size)
    | none => false
  | listed, .fork i r j s => Region.ready .any ops listed == [i, j] && decide (r.cnt = s.cnt) && decide (listed.size = ops.size) && treeGo ops z (listed.setIfInBounds i true) r && treeGo ops z (listed.setIfInBounds j true) s
  | listed, .dyn r => treeGo ops z listed r

section
variable {P : Program} {ops : Array Oper} {Q : Exit → Act → World → Prop} {S : World → Prop} {z : Nat}

def wpTree (P : Program) (ops : Array Oper) (Q : Exit → Act → World → Prop) : PT → (World → Prop) → Act → World → Prop
  | .leaf, _, a, w => Q .normal a w
  | .run l r, S, a, w => wpPlan P ops Q S ops.size (wpTree P ops Q r S) l a w
  | .fork i r j s, S, a, w => wpOp P ops Q i (fun a' w' => S w' ∧ wpTree P ops Q r S a' w') a w ∧ wpOp P ops Q j (fun a' w' => S w' ∧ wpTree P ops Q s S a' w') a w
  | .dyn r, S, a, w => ∃ S2 : World → Prop, (∀ w, S2 w → S w) ∧ S2 w ∧ wpTree P ops Q r S2 a w

theorem anyS_weak {S S2 : World → Prop} (h : ∀ w, S2 w → S w) : ∀ (fuel : Nat) (listed : Array Bool) (a : Act) (w : World), anyS P ops Q S2 z fuel listed a w → anyS P ops Q S z fuel listed a w
  | 0, _, _, _, h' => h'
  | fuel + 1, _, _, _, h' => ⟨h'.1, fun i hi => wpOp_mono (fun a' w' hx => ⟨fun hz => h _ (hx.1 hz), anyS_weak h fuel _ a' w' hx.2⟩) (h'.2 i hi)⟩

theorem held_of_tree (hs : Region.noSelect ops = true) (hQ : ∀ c a d v w, Q (.panic c) (a.put d v) w → Q (.panic c) a w) :
    ∀ (t : PT) (S : World → Prop) (listed : Array Bool) (a : Act) (w : World), treeGo ops ops.size listed t = true → listed.size = ops.size → S w → wpTree P ops Q t S a w → anyS P ops Q S ops.size t.cnt listed a w
  | .leaf, S, listed, a, w, hg, _, hS, h => anyS_done (by simpa [treeGo] using hg) h 0
  | .run l r, S, listed, a, w, hg, hl, hS, h => by
    simp only [treeGo] at hg
    split at hg
    · rename_i l' hl'
      simp only [Bool.and_eq_true, decide_eq_true_eq] at hg
      refine held_of_plan hs (lastOK_none ops) hQ l' r.cnt (fun a w hSw hC => held_of_tree hs hQ r S l' a w hg.1 hg.2 (hSw ?_) hC) l listed a w hl' hl (fun _ => hS) h
      have e : l'.getD ops.size false = false := by
        rw [Array.getD_eq_getD_getElem?, Array.getElem?_eq_none (by omega)]
        rfl
      rw [e]; simp
    · cases hg
  | .fork i r j s, S, listed, a, w, hg, hl, hS, h => by
    simp only [treeGo, Bool.and_eq_true, beq_iff_eq, decide_eq_true_eq] at hg
    obtain ⟨⟨⟨⟨hr, hc⟩, _⟩, h1⟩, h2⟩ := hg
    refine ⟨fun h0 => by rw [hr] at h0; simp at h0, fun k hk => ?_⟩
    rw [hr] at hk
    simp only [List.mem_cons, List.not_mem_nil, or_false] at hk
    rcases hk with rfl | rfl
    · exact wpOp_mono (fun a' w' h' => ⟨fun _ => h'.1, held_of_tree hs hQ r S _ a' w' h1 (by simp [hl]) h'.1 h'.2⟩) h.1
    · refine wpOp_mono (fun a' w' h' => ⟨fun _ => h'.1, ?_⟩) h.2
      rw [show r.cnt = s.cnt from hc]
      exact held_of_tree hs hQ s S _ a' w' h2 (by simp [hl]) h'.1 h'.2
  | .dyn r, S, listed, a, w, hg, hl, hS, h => by
    obtain ⟨S2, h1, h2, h3⟩ := h
    exact anyS_weak h1 _ _ _ _ (held_of_tree hs hQ r S2 listed a w hg hl h2 h3)

theorem wp_region_tree {id : Nat} {l : List Oper} {a : Act} {w : World} (S : World → Prop) (t : PT) (hm : P.follows .mixedOrders = true)
    (hs : Region.noSelect l.toArray = true) (hp : (treeGo l.toArray l.toArray.size (Array.replicate l.toArray.size false) t && decide (t.cnt = l.toArray.size)) = true)
    (hS : S w.drew) (h : wpTree P l.toArray (NoPanic Q) t S a w.drew) : (Code.region id l.toArray true).wp P Q a w := by
  simp only [Bool.and_eq_true, decide_eq_true_eq] at hp
  refine wp_region_noPanic (wp_region_any hm (any_of_anyS (S := S) (z := l.toArray.size) _ _ _ _ ?_))
  have := held_of_tree (P := P) (Q := NoPanic Q) hs (fun c a d v w h => h.elim) t S _ a w.drew hp.1 (by simp) hS h
  rw [hp.2] at this
  exact this

/-- An operation of a fork, walked as ever. -/
theorem op_of_list {i : Nat} {o : Oper} {T : Act → World → Prop} {a : Act} {w : World} (ho : ops[i]? = some o)
    (h : ∀ K : Act → World → Prop, (∀ a' w', S w' ∧ T a' w' → K a' w') → wpList P ops (Exit.then K Q) [o] a w) : wpOp P ops Q i (fun a' w' => S w' ∧ T a' w') a w := by
  have := plan_of_effect (P := P) (Q := Q) (S := fun _ => True) (z := ops.size) (C := fun a' w' => S w' ∧ T a' w') (rest := []) (i := i) ho
    (fun K hK => h K fun a' w' h' => hK a' w' ⟨trivial, h'⟩)
  exact wpOp_mono (fun a' w' h' => h'.2) this
theorem tree_leaf {a : Act} {w : World} (h : Q .normal a w) : wpTree P ops (NoPanic Q) .leaf S a w := h
theorem tree_run {l : List (Nat × Bool)} {r : PT} {a : Act} {w : World} (h : wpPlan P ops Q S ops.size (wpTree P ops Q r S) l a w) : wpTree P ops Q (.run l r) S a w := h
theorem tree_dyn {r : PT} {a : Act} {w : World} (S2 : World → Prop) (h1 : ∀ w, S2 w → S w) (h2 : S2 w) (h : wpTree P ops Q r S2 a w) : wpTree P ops Q (.dyn r) S a w := ⟨S2, h1, h2, h⟩
theorem tree_fork {i j : Nat} {r s : PT} {a : Act} {w : World} (h1 : wpOp P ops Q i (fun a' w' => S w' ∧ wpTree P ops Q r S a' w') a w) (h2 : wpOp P ops Q j (fun a' w' => S w' ∧ wpTree P ops Q s S a' w') a w) : wpTree P ops Q (.fork i r j s) S a w := ⟨h1, h2⟩
end
end Go.Plan
