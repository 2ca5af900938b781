/- Rows.IsomediaPutsSaid is proved here, for every input; the walk is law_puts. -/
import Derived.ProofKit
import Derived.OpenShut
import Derived.Carry
import Derived.ChangeSlices
import Derived.ChangeSame
import Derived.Deep.Slices
import Derived.Test.YtkhjkemllgjfmaaRows
import Derived.WalkKit
import Derived.Test.YtkhjkemllgjfmaaPu00
import Derived.Test.YtkhjkemllgjfmaaPu01
import Derived.Test.YtkhjkemllgjfmaaPu02
import Derived.Test.YtkhjkemllgjfmaaPu03
import Derived.Test.YtkhjkemllgjfmaaPu07
import Derived.Test.YtkhjkemllgjfmaaPu09
set_option linter.unusedVariables false
set_option linter.unusedSimpArgs false

/- The contract of the reference's front. -/
namespace Go.Proofs.Ytkhjkemllgjfmaa
open Go.RowKit
set_option linter.unusedVariables false
set_option linter.unusedSimpArgs false

def litW (w : World) (L : List Int) : World := (w.alloc (.cells (bv L).toArray 5)).freeze ⟨w.heap.size, (bv L).length, none⟩ 1
theorem conv_lit (w : World) (L : List Int) (n : Nat) : (convert 22 22 (.slice (some ⟨w.heap.size, 0, none⟩) n n)).run Try.prog (w.alloc (.cells (bv L).toArray 5)) = .ok (.slice (some ⟨w.heap.size, 0, none⟩) n n) (litW w L) := by
  have hsh : ∀ c : Array Value, (w.alloc (.cells c 5)).shape? w.heap.size = some (5, c.size) := by
    intro c
    simp [World.shape?, World.alloc, -World.alloc_eq]
  simp [convert, run_underlying Try.underlying22, run_underlying Try.underlying5, markStringish, Question.forced, hsh, litW]
theorem litW_old (w : World) (L : List Int) (j : Nat) (hj : j < w.heap.size) : (litW w L).heap[j]? = w.heap[j]? := by
  have h1 : w.heap.size ≠ j := by omega
  simp [litW, World.freeze, World.alloc, -World.alloc_eq, Array.getElem?_modify, Array.getElem?_push, h1, Ne.symm h1]
theorem litW_size (w : World) (L : List Int) : (litW w L).heap.size = w.heap.size + 1 := by
  simp [litW, World.freeze, World.alloc, -World.alloc_eq]
theorem litW_new (w : World) (L : List Int) : (litW w L).heap[w.heap.size]? = some (.cells (bv L).toArray 5 (L.length, L.length + 1)) := by
  simp [litW, World.freeze, World.alloc, -World.alloc_eq, bv]
  rw [Array.getElem_modify_self]
  simp
theorem litW_below (w : World) (L : List Int) : Below w.heap.size w (litW w L) := ⟨rfl, rfl, rfl, by rw [litW_size]; omega, fun k hk => litW_old w L k hk⟩
theorem litW_bl (w : World) (L : List Int) : BL (litW w L) (.slice (some ⟨w.heap.size, 0, none⟩) L.length L.length) L := by
  refine ⟨_, _, rfl, Nat.le_refl _, fun i u hi => ⟨w.heap.size, 0, rfl, ?_⟩⟩
  simp [World.cell?, litW_new, bv, hi]
def mvL7 (F : Fl) : List (List Int) := [List.replicate 12 0, numsL [F.sc, 0, 65536], [1, 0], List.replicate 10 0, matL, List.replicate 24 0, numsL [(F.nT : Int) + 1]]
theorem mvL7_flat (F : Fl) : (mvL7 F).flatten = mvhdL F := by simp [mvL7, mvhdL, zs]
theorem mvhd_len (F : Fl) : (mvhdL F).length ≤ 1000 := by
  rw [← mvL7_flat]
  simp [mvL7, numsL_length, matL]
def frGd (F : Fl) : Nat → Gd
  | 0 => .bytes (List.replicate 12 0) | 3 => .ints [F.sc, 0, 65536] | 4 => .bytes (numsL [F.sc, 0, 65536]) | 5 => .bytes [1, 0] | 6 => .bytes (List.replicate 10 0) | 7 => .bytes matL | 8 => .bytes (List.replicate 24 0)
  | 13 => .ints [(F.nT : Int) + 1] | 14 => .bytes (numsL [(F.nT : Int) + 1]) | 15 => .rows (mvL7 F) | 16 => .own (boxL nMvhd (mvhdL F)) | _ => .any

def frS : List (Nat × Tmp) := [(0, 7), (3, 10), (4, 11), (5, 12), (6, 13), (7, 14), (8, 15), (13, 20), (14, 21), (15, 22), (16, 23)]
def rtrN (F : Fl) (first : Int) (k : Nat) : List Int := catN (fun i => rtrakL (F.T i) ((i : Int) + 1) (first + (offN F.T i : Nat))) k

set_option maxRecDepth 100000 in
set_option maxHeartbeats 4000000 in
theorem front_any (v : Value) (F : Fl) (first : Int) (w : World) (hv : FA w v F) (hn : F.nT ≤ 6) (hL : ∀ i, i < F.nT → LT (F.T i)) (hf0 : 0 ≤ first) (hf1 : first ≤ 1000000) :
    Calls Try.prog 42 #[v, .int .i64 first] w fun e w' => ∃ r, e = .returned r ∧ Own w' w.heap.size r (frontL F first) ∧ Below w.heap.size w w' := by
  obtain ⟨cT, rfl, hts⟩ := hv
  obtain ⟨aT, dT, rfl⟩ := hts.shape
  have HTS := Lib.hid hts
  have HLT := Lib.hid hL
  clear hts hL
  go_enter Try.func42, Try.ntmps42
  go_upto_region 1 with fail
  obtain ⟨w1, hw1⟩ : ∃ x, x = w.alloc (.cells #[.int .i64 F.sc, .slice aT F.nT dT] 37) := ⟨_, rfl⟩
  rw [← hw1]
  obtain ⟨gt, hgt⟩ : ∃ g, g = w.heap.size := ⟨_, rfl⟩
  have hE1 : Below w.heap.size w w1 := by rw [hw1]; exact below_box _ _
  have x0 : w1.cell? ⟨gt, 0, none⟩ = some (.int .i64 F.sc) := by rw [hw1, hgt]; simp [go_sem]
  have x1 : w1.cell? ⟨gt, 1, none⟩ = some (.slice aT F.nT dT) := by rw [hw1, hgt]; simp [go_sem]
  have hz1 : w.heap.size < w1.heap.size := by rw [hw1]; simp [go_sem]
  rw [← hgt]
  have hgtl : gt < w1.heap.size := block_lt_of_cell x0
  have HB1 := Lib.hid hE1
  have HX := Lib.hid (And.intro x0 x1)
  clear hw1 hE1 hgt x1
  go_cut [5] from 7 to 23 (fun v wx => Own wx w1.heap.size v (boxL nMvhd (mvhdL F)) ∧ Below w1.heap.size w1 wx)
  case first =>
    refine Plan.wp_region_fresh (fun w' => Below w1.heap.size w1 w') 17 (GG w1.heap.size (frGd F)) ([1, 2, 9, 10, 11, 12].map (·, true)) frS ([17].map (·, false)) 62 (by kernel_rfl) (by kernel_rfl) (by kernel_rfl) (Below.refl _ _).drew (fun wa wb ha hb => ha.trans (hb.mono ha.size)) GG.ext ?_
    refine' Plan.plan_seg _ [1, 2, 9, 10, 11, 12] [] (by kernel_rfl) (by kernel_rfl) rfl (by exact (Below.refl _ _).drew) (fun wx hS => ?_) ?_
    rotate_left
    · have y0 := (hS.cell (p := ⟨gt, 0, none⟩) hgtl).trans x0
      have y1 := (hS.cell (p := ⟨gt, 1, none⟩) hgtl).trans HX.out.2
      clear hS
      go_light
      iterate 6 (apply Plan.seg_pick; rfl; intro K hK; go_wp)
      exact Plan.seg_nil
    refine Plan.plan_nil ?_
    refine Plan.fresh_at_gen (fun A => A.tmps.size = 62 ∧ A.tmps[9]? = some (.int .i64 F.sc) ∧ A.tmps[19]? = some (.int .i64 ((F.nT : Int) + 1))) ⟨rfl, rfl, rfl⟩ rfl (fun A hA => ?_) ?_
    · obtain ⟨hsz, e9, e19⟩ := hA
      intro p hp o ho vs wx lo hi hS hE hG K hK
      have hSz : w1.heap.size ≤ wx.heap.size := hS.size
      simp only [frS, List.mem_cons, List.not_mem_nil, or_false] at hp
      rcases hp with rfl | rfl | rfl | rfl | rfl | rfl | rfl | rfl | rfl | rfl | rfl
      all_goals obtain rfl := Option.some.inj ho
      · exact step_zeros rfl 12 #[3] rfl (by decide) (fun r w' hR hB => hK _ _ (show BL _ _ _ from hR.bl) hB)
      · have t9 : (Plan.puts vs frS A).eval (.tmp 9) = .int .i64 F.sc := by rw [Plan.eval_out (by decide)]; simp [Act.eval, Array.getD_eq_getD_getElem?, e9]
        exact step_ints3 rfl (.tmp 9) (.const (.int .i64 0)) (.const (.int .i64 65536)) rfl F.sc 0 65536 t9 rfl rfl (fun r w' hR hB _ => hK _ _ (show IL _ _ _ from hR) hB)
      · have h3 := hG (3, 10) (by decide) (by decide)
        have t3 : (Plan.puts vs frS A).eval (.tmp 10) = vs 3 := Plan.eval_in (i := 3) (by decide) (by decide) (by rw [hsz]; decide)
        exact step_nums rfl (.tmp 10) #[51] rfl (vs 3) [F.sc, 0, 65536] t3 h3 (by simp) (fun r w' hR hB => hK _ _ (show BL _ _ _ from hR.bl) hB)
      · exact step_lit2 rfl 1 0 rfl (fun r w' hR hB => hK _ _ (show BL _ _ _ from hR.bl) hB)
      · exact step_zeros rfl 10 #[3] rfl (by decide) (fun r w' hR hB => hK _ _ (show BL _ _ _ from hR.bl) hB)
      · exact step_turned rfl #[] rfl (fun r w' hR hB => hK _ _ (show BL _ _ _ from hR.bl) hB)
      · exact step_zeros rfl 24 #[3] rfl (by decide) (fun r w' hR hB => hK _ _ (show BL _ _ _ from hR.bl) hB)
      · have t19 : (Plan.puts vs frS A).eval (.tmp 19) = .int .i64 ((F.nT : Int) + 1) := by rw [Plan.eval_out (by decide)]; simp [Act.eval, Array.getD_eq_getD_getElem?, e19]
        exact step_ints1 rfl (.tmp 19) rfl ((F.nT : Int) + 1) t19 (fun r w' hR hB _ => hK _ _ (show IL _ _ _ from hR) hB)
      · have h13 := hG (13, 20) (by decide) (by decide)
        have t13 : (Plan.puts vs frS A).eval (.tmp 20) = vs 13 := Plan.eval_in (i := 13) (by decide) (by decide) (by rw [hsz]; decide)
        exact step_nums rfl (.tmp 20) #[51] rfl (vs 13) [(F.nT : Int) + 1] t13 h13 (by simp) (fun r w' hR hB => hK _ _ (show BL _ _ _ from hR.bl) hB)
      · have h0 := hG (0, 7) (by decide) (by decide)
        have t0 : (Plan.puts vs frS A).eval (.tmp 7) = vs 0 := Plan.eval_in (i := 0) (by decide) (by decide) (by rw [hsz]; decide)
        have h4 := hG (4, 11) (by decide) (by decide)
        have t4 : (Plan.puts vs frS A).eval (.tmp 11) = vs 4 := Plan.eval_in (i := 4) (by decide) (by decide) (by rw [hsz]; decide)
        have h5 := hG (5, 12) (by decide) (by decide)
        have t5 : (Plan.puts vs frS A).eval (.tmp 12) = vs 5 := Plan.eval_in (i := 5) (by decide) (by decide) (by rw [hsz]; decide)
        have h6 := hG (6, 13) (by decide) (by decide)
        have t6 : (Plan.puts vs frS A).eval (.tmp 13) = vs 6 := Plan.eval_in (i := 6) (by decide) (by decide) (by rw [hsz]; decide)
        have h7 := hG (7, 14) (by decide) (by decide)
        have t7 : (Plan.puts vs frS A).eval (.tmp 14) = vs 7 := Plan.eval_in (i := 7) (by decide) (by decide) (by rw [hsz]; decide)
        have h8 := hG (8, 15) (by decide) (by decide)
        have t8 : (Plan.puts vs frS A).eval (.tmp 15) = vs 8 := Plan.eval_in (i := 8) (by decide) (by decide) (by rw [hsz]; decide)
        have h14 := hG (14, 21) (by decide) (by decide)
        have t14 : (Plan.puts vs frS A).eval (.tmp 21) = vs 14 := Plan.eval_in (i := 14) (by decide) (by decide) (by rw [hsz]; decide)
        exact step_rows7 rfl (.tmp 7) (.tmp 11) (.tmp 12) (.tmp 13) (.tmp 14) (.tmp 15) (.tmp 21) rfl (vs 0) (vs 4) (vs 5) (vs 6) (vs 7) (vs 8) (vs 14) _ _ _ _ _ _ _ t0 t4 t5 t6 t7 t8 t14 h0 h4 h5 h6 h7 h8 h14 (fun r w' hR hB => hK _ _ (show JL _ _ _ from hR) hB)
      · have h15 := hG (15, 22) (by decide) (by decide)
        have t15 : (Plan.puts vs frS A).eval (.tmp 22) = vs 15 := Plan.eval_in (i := 15) (by decide) (by decide) (by rw [hsz]; decide)
        refine step_box rfl nMvhd (.tmp 22) #[9, 116] rfl (vs 15) (mvL7 F) t15 h15 (by simp [mvL7]) ?_ (by decide) (fun r w' hR hB => hK _ _ ?_ hB)
        · rw [mvL7_flat]; have := mvhd_len F; omega
        · rw [mvL7_flat] at hR; exact hR.mono hSz
    · intro vs lo hi wx hS hE hall hap
      have h16 : Own wx w1.heap.size (vs 16) (boxL nMvhd (mvhdL F)) := (hall (16, 23) (by decide)).1
      obtain ⟨ra, rc, he⟩ := h16.shape
      have HO := Lib.hid h16
      have HS := Lib.hid hS
      rw [he] at HO
      simp only [frS, Plan.puts, he]
      clear hall hap hE hS h16 he x0
      refine Plan.plan_of_effect rfl (fun K hK => ?_)
      go_wp2_with fail
      refine ⟨HS.out, ?_⟩
      refine Plan.plan_done ?_
      go_wp2_with fail
      go_meet
      case rel => exact ⟨HO.out, HS.out⟩
  case rest =>
    obtain ⟨hO, hB⟩ := hcut
    have HO := Lib.hid hO
    have HB := Lib.hid hB
    have hx1 := (hB.cell (p := ⟨gt, 1, none⟩) hgtl).trans HX.out.2
    clear hO hB
    go_wp2_with fail
    go_loopw [1, 5, 6] (fun p v i wr => ∃ k : Nat, k ≤ F.nT ∧ i = .int .i64 (k : Int) ∧ p = .int .i64 (first + (offN F.T k : Nat)) ∧ Own wr w1.heap.size v (boxL nMvhd (mvhdL F) ++ rtrN F first k) ∧ Below w1.heap.size w1 wr) (fun _ _ i _ => F.nT - (intOf i).toNat)
    case atStart => exact ⟨0, Nat.zero_le _, rfl, by simp [offN], by rw [show rtrN F first 0 = [] from rfl, List.append_nil]; exact HO.out, HB.out⟩
    case round =>
      obtain ⟨k, hk, rfl, rfl, hO, hB⟩ := hrel
      replace HO := Lib.hid hO
      replace HB := Lib.hid hB
      have hsr := hB.size
      have hww := HB1.out.trans (hB.mono (by omega))
      have HWW := Lib.hid hww
      replace hx1 := (hB.cell (p := ⟨gt, 1, none⟩) hgtl).trans HX.out.2
      clear hO hB
      by_cases hlt : k < F.nT
      · obtain ⟨ao, c', e, hcc, H⟩ := HTS.out
        simp only [Value.slice.injEq, true_and] at e
        obtain ⟨rfl, rfl⟩ := e
        obtain ⟨b', o', c0, c1, c2, c3, c4, rfl, h0, h1, h2, h3, h4, hTC⟩ := H k hlt
        have HTA := Lib.hid (show TA w (.agg #[c0, c1, c2, c3, c4]) (F.T k) from ⟨c0, c1, c2, c3, c4, rfl, hTC⟩)
        obtain ⟨rfl, rfl, b2, b3, b4⟩ := hTC
        obtain ⟨p2, q2, rfl⟩ := b2.shape
        obtain ⟨p3, q3, rfl⟩ := b3.shape
        obtain ⟨p4, q4, rfl⟩ := b4.shape
        have HCK := Lib.hid (And.intro h0 (And.intro h1 (And.intro h2 (And.intro h3 h4))))
        replace h0 := (hww.cell (block_lt_of_cell h0)).trans h0
        replace h1 := (hww.cell (block_lt_of_cell h1)).trans h1
        replace h2 := (hww.cell (block_lt_of_cell h2)).trans h2
        replace h3 := (hww.cell (block_lt_of_cell h3)).trans h3
        replace h4 := (hww.cell (block_lt_of_cell h4)).trans h4
        have hl := HLT.out k hlt
        have hoff := offN_le HLT.out k (by omega)
        obtain ⟨Tk, hTk⟩ : ∃ T, T = F.T k := ⟨_, rfl⟩
        rw [← hTk] at h0 h1 h2 h3 h4 HTA hl HCK
        obtain ⟨G, hG⟩ : ∃ G, G = offN F.T k := ⟨_, rfl⟩
        rw [← hG] at hoff ⊢
        have HTk := Lib.hid hTk
        have HGq := Lib.hid hG
        have HL := Lib.hid hl
        have hzz := hl.z
        have hl1 := hl.s
        have hn_ : (boxL nMvhd (mvhdL F) ++ rtrN F first k).length ≤ 80000 := by
          have h1 := mvhd_len F
          have h2 := catN_bd (f := fun i => rtrakL (F.T i) ((i : Int) + 1) (first + (offN F.T i : Nat))) (m := 9000) k (fun i hi => by rw [← trak_ref]; exact trak_len (HLT.out i (by omega)) _ _)
          rw [List.length_append, boxL_length _ _ rfl]
          unfold rtrN
          omega
        have HN := Lib.hid hn_
        clear H b2 b3 b4 hTk hG hl hn_
        go_wp2_with fail
        refine (rtrack_any _ Tk (k : Int) (first + (G : Nat)) wr (HTA.out.below HWW.out) HL.out (by omega) (by omega) (by omega) (by omega)).mono ?_
        rintro e wt ⟨r, rfl, hR, hbt⟩
        obtain ⟨Lr, hLr⟩ : ∃ L, L = rtrakL Tk ((k : Int) + 1) (first + (G : Nat)) := ⟨_, rfl⟩
        rw [← hLr] at hR
        have hnr : Lr.length ≤ 9000 := by rw [hLr, ← trak_ref]; exact trak_len HL.out _ _
        have HR := Lib.hid hR.bl
        have HLr := Lib.hid hLr
        have HBT := Lib.hid hbt
        have HOt := Lib.hid (HO.out.below hbt)
        have hst := hbt.size
        have HNR := Lib.hid (show (boxL nMvhd (mvhdL F) ++ rtrN F first k).length + Lr.length ≤ 100000000 by have := HN.out; omega)
        clear hR hbt hLr h0 h1 h2 h3 h4 hx1 HO
        go_wp2_with (at_builtin; refine wpList_adv wt rfl (.tmp 31) (.tmp 39) rfl w1.heap.size _ _ (boxL nMvhd (mvhdL F) ++ rtrN F first k) Lr rfl HOt.out rfl HR.out HNR.out (by omega) ?_)
        intro v2 wu hO2 hA2
        have hwu : Below w1.heap.size w1 wu := (HB.out.trans (HBT.out.mono hsr)).trans (hA2.up HOt.out (by omega))
        have hwu0 := HB1.out.trans (hwu.mono (by omega))
        have HO2 := Lib.hid (show Own wu w1.heap.size v2 (boxL nMvhd (mvhdL F) ++ rtrN F first (k + 1)) by
          rw [show rtrN F first (k + 1) = rtrN F first k ++ rtrakL (F.T k) ((k : Int) + 1) (first + (offN F.T k : Nat)) from rfl, ← List.append_assoc, ← HTk.out, ← HGq.out, ← HLr.out]; exact hO2)
        have HU := Lib.hid hwu
        have HTU := Lib.hid (HTA.out.below hwu0)
        have hsu := hwu.size
        have hx1 := (hwu.cell (p := ⟨gt, 1, none⟩) hgtl).trans HX.out.2
        have h0 := (hwu0.cell (block_lt_of_cell HCK.out.1)).trans HCK.out.1
        have h1 := (hwu0.cell (block_lt_of_cell HCK.out.2.1)).trans HCK.out.2.1
        have h2 := (hwu0.cell (block_lt_of_cell HCK.out.2.2.1)).trans HCK.out.2.2.1
        have h3 := (hwu0.cell (block_lt_of_cell HCK.out.2.2.2.1)).trans HCK.out.2.2.2.1
        have h4 := (hwu0.cell (block_lt_of_cell HCK.out.2.2.2.2)).trans HCK.out.2.2.2.2
        clear hwu hwu0 hO2 hA2 HOt HR HNR HN HLr HB HBT HWW
        go_wp2_with fail
        refine (rsize_any _ Tk wu HTU.out (by omega) (by omega)).mono ?_
        rintro e wv ⟨rfl, hbv⟩
        have HOv := Lib.hid (HO2.out.below hbv)
        have HBv := Lib.hid (HU.out.trans (hbv.mono hsu))
        obtain ⟨Z, hZ⟩ : ∃ Z, Z = sizeN Tk.S Tk.nS := ⟨_, rfl⟩
        rw [← hZ] at hzz ⊢
        have HZ := Lib.hid hZ
        clear hbv hZ h0 h1 h2 h3 h4 hx1 HO2 HU
        go_wp2_with fail
        refine ⟨⟨k + 1, by omega, by go_num, ?_, HOv.out, HBv.out⟩, ?_⟩
        · have e1 : offN F.T (k + 1) = G + Z := by rw [HZ.out, HGq.out, HTk.out]; rfl
          rw [e1]
          go_num
        · simp [intOf]
          omega
      · obtain rfl : k = F.nT := by omega
        obtain ⟨Lmv, hLmv⟩ : ∃ L, L = boxL nMvhd (mvhdL F) ++ rtrN F first F.nT := ⟨_, rfl⟩
        have hn_ : Lmv.length ≤ 80000 := by
          have h1 := mvhd_len F
          have h2 := catN_bd (f := fun i => rtrakL (F.T i) ((i : Int) + 1) (first + (offN F.T i : Nat))) (m := 9000) F.nT (fun i hi => by rw [← trak_ref]; exact trak_len (HLT.out i (by omega)) _ _)
          rw [hLmv, List.length_append, boxL_length _ _ rfl]
          unfold rtrN
          omega
        have hO := HO.out
        rw [← hLmv] at hO
        obtain ⟨amv, cmv, hmv⟩ := hO.shape
        subst hmv
        have Mmv := Lib.hid hO.bl
        have Emv := Lib.hid hLmv
        have U := HB
        have hs_ := hsr
        clear hO HO HB hsr hLmv
        have hcvc : (convert 22 22 (.slice (some ⟨wr.heap.size, 0, none⟩) 4 4)).run Try.prog (wr.alloc (.cells #[.int .u8 99, .int .u8 114, .int .u8 118, .int .u8 109] 5)) = .ok (.slice (some ⟨wr.heap.size, 0, none⟩) 4 4) (litW wr [99, 114, 118, 109]) := conv_lit wr [99, 114, 118, 109] 4
        go_wp2_with fail
        obtain ⟨x1, hw⟩ : ∃ x, x = litW wr [99, 114, 118, 109] := ⟨_, rfl⟩
        have hb : Below wr.heap.size wr x1 := by rw [hw]; exact litW_below _ _
        have Mc := Lib.hid (show BL x1 (.slice (some ⟨wr.heap.size, 0, none⟩) 4 4) [99, 114, 118, 109] by rw [hw]; exact litW_bl wr [99, 114, 118, 109])
        rw [← hw]
        obtain ⟨gc, hg⟩ : ∃ g, g = wr.heap.size := ⟨_, rfl⟩
        rw [← hg] at Mc ⊢
        replace Mmv := Lib.hid (Mmv.out.below hb)
        replace U := Lib.hid (U.out.trans (hb.mono hs_))
        clear hb hw hg hs_ hcvc
        have hs_ := U.out.size
        refine (nums_any _ [0] _ (IL.build x1 [0] 2) (by simp)).mono ?_
        rintro e x2 ⟨r, rfl, hO, hb⟩
        replace hb : Below x1.heap.size x1 x2 := (below_box x1 _).trans (hb.mono (by simp))
        obtain ⟨Ln0, hL⟩ : ∃ L, L = numsL [0] := ⟨_, rfl⟩
        rw [← hL] at hO
        have nn0 : Ln0.length ≤ 4 := by rw [hL]; rw [numsL_length]; simp
        obtain ⟨an0, cn0, rfl⟩ := hO.shape
        replace Mmv := Lib.hid (Mmv.out.below hb)
        replace Mc := Lib.hid (Mc.out.below hb)
        have Mn0 := Lib.hid hO.bl
        have En0 := Lib.hid hL
        replace U := Lib.hid (U.out.trans (hb.mono hs_))
        clear hO hb hL hs_
        have hs_ := U.out.size
        have hcvi : (convert 22 22 (.slice (some ⟨x2.heap.size, 0, none⟩) 4 4)).run Try.prog (x2.alloc (.cells #[.int .u8 105, .int .u8 115, .int .u8 111, .int .u8 109] 5)) = .ok (.slice (some ⟨x2.heap.size, 0, none⟩) 4 4) (litW x2 [105, 115, 111, 109]) := conv_lit x2 [105, 115, 111, 109] 4
        go_wp2_with fail
        obtain ⟨x3, hw⟩ : ∃ x, x = litW x2 [105, 115, 111, 109] := ⟨_, rfl⟩
        have hb : Below x2.heap.size x2 x3 := by rw [hw]; exact litW_below _ _
        have Mi := Lib.hid (show BL x3 (.slice (some ⟨x2.heap.size, 0, none⟩) 4 4) [105, 115, 111, 109] by rw [hw]; exact litW_bl x2 [105, 115, 111, 109])
        rw [← hw]
        obtain ⟨gi, hg⟩ : ∃ g, g = x2.heap.size := ⟨_, rfl⟩
        rw [← hg] at Mi ⊢
        replace Mmv := Lib.hid (Mmv.out.below hb)
        replace Mc := Lib.hid (Mc.out.below hb)
        replace Mn0 := Lib.hid (Mn0.out.below hb)
        replace U := Lib.hid (U.out.trans (hb.mono hs_))
        clear hb hw hg hs_ hcvi
        have hs_ := U.out.size
        refine (box_any nFtyp _ [[99, 114, 118, 109], Ln0, [105, 115, 111, 109]] _ (JL.build (w := x3) (vs := [.slice (some ⟨gc, 0, none⟩) 4 4, .slice an0 Ln0.length cn0, .slice (some ⟨gi, 0, none⟩) 4 4]) (Ls := [[99, 114, 118, 109], Ln0, [105, 115, 111, 109]]) 22 ⟨Mc.out, Mn0.out, Mi.out, trivial⟩) (by simp) (by simp; omega) (by decide)).mono ?_
        rintro e x4 ⟨r, rfl, hO, hb⟩
        replace hb : Below x3.heap.size x3 x4 := (below_box x3 _).trans (hb.mono (by simp))
        obtain ⟨Lft, hL⟩ : ∃ L, L = boxL nFtyp [[99, 114, 118, 109], Ln0, [105, 115, 111, 109]].flatten := ⟨_, rfl⟩
        rw [← hL] at hO
        have nft : Lft.length ≤ 20 := by rw [hL]; rw [boxL_length _ _ rfl]; simp; omega
        obtain ⟨aft, cft, rfl⟩ := hO.shape
        replace Mmv := Lib.hid (Mmv.out.below hb)
        replace Mc := Lib.hid (Mc.out.below hb)
        replace Mn0 := Lib.hid (Mn0.out.below hb)
        replace Mi := Lib.hid (Mi.out.below hb)
        have Mft := Lib.hid hO.bl
        have Eft := Lib.hid hL
        replace U := Lib.hid (U.out.trans (hb.mono hs_))
        clear hO hb hL hs_
        have hs_ := U.out.size
        clear Mc Mn0 Mi
        go_wp2_with fail
        refine (box_any nMoov _ [Lmv] _ (JL.build (w := x4) (vs := [.slice amv Lmv.length cmv]) (Ls := [Lmv]) 22 ⟨Mmv.out, trivial⟩) (by simp) (by simp; omega) (by decide)).mono ?_
        rintro e x5 ⟨r, rfl, hO, hb⟩
        replace hb : Below x4.heap.size x4 x5 := (below_box x4 _).trans (hb.mono (by simp))
        obtain ⟨Lmo, hL⟩ : ∃ L, L = boxL nMoov [Lmv].flatten := ⟨_, rfl⟩
        rw [← hL] at hO
        have nmo : Lmo.length ≤ 80008 := by rw [hL]; rw [boxL_length _ _ rfl]; simp; omega
        obtain ⟨amo, cmo, rfl⟩ := hO.shape
        replace Mmv := Lib.hid (Mmv.out.below hb)
        replace Mft := Lib.hid (Mft.out.below hb)
        have Mmo := Lib.hid hO.bl
        have Emo := Lib.hid hL
        replace U := Lib.hid (U.out.trans (hb.mono hs_))
        clear hO hb hL hs_
        have hs_ := U.out.size
        clear Mmv
        go_wp2_with fail
        refine (join_any _ [Lft, Lmo] _ (JL.build (w := x5) (vs := [.slice aft Lft.length cft, .slice amo Lmo.length cmo]) (Ls := [Lft, Lmo]) 22 ⟨Mft.out, Mmo.out, trivial⟩) (by simp) (by simp; omega)).mono ?_
        rintro e x6 ⟨r, rfl, hO, hb⟩
        replace hb : Below x5.heap.size x5 x6 := (below_box x5 _).trans (hb.mono (by simp))
        obtain ⟨Lfr, hL⟩ : ∃ L, L = [Lft, Lmo].flatten := ⟨_, rfl⟩
        rw [← hL] at hO
        have nfr : Lfr.length ≤ 80028 := by rw [hL]; simp; omega
        obtain ⟨afr, cfr, rfl⟩ := hO.shape
        replace Mft := Lib.hid (Mft.out.below hb)
        replace Mmo := Lib.hid (Mmo.out.below hb)
        have Mfr := Lib.hid hO.bl
        have Efr := Lib.hid hL
        replace U := Lib.hid (U.out.trans (hb.mono hs_))
        have Ofr := Lib.hid (hO.mono (show w.heap.size ≤ _ by simp; omega))
        clear hO hb hL hs_
        have hs_ := U.out.size
        go_wp2_with fail
        go_ret
        refine ⟨_, rfl, ?_, HB1.out.trans (U.out.mono (by omega))⟩
        have hfin : Lfr = frontL F first := by
          rw [Efr.out, Eft.out, Emo.out, Emv.out, En0.out]
          rfl
        rw [← hfin]
        exact Ofr.out
end Go.Proofs.Ytkhjkemllgjfmaa

/- The contract of the reference's Put at a light valid file. -/
namespace Go.Proofs.Ytkhjkemllgjfmaa
open Go.RowKit
set_option linter.unusedVariables false
set_option linter.unusedSimpArgs false

theorem front_len {F : Fl} (hn : F.nT ≤ 6) (hL : ∀ i, i < F.nT → LT (F.T i)) (first : Int) : (frontL F first).length ≤ 70020 := by
  rw [← front_ref, List.length_append, ftypB_length]
  have := moov_len hn hL first
  omega

set_option maxRecDepth 100000 in
set_option maxHeartbeats 4000000 in
theorem rput_any (v : Value) (F : Fl) (w : World) (hv : FA w v F) (hok : okFl F = true) (hn : F.nT ≤ 6) (hL : ∀ i, i < F.nT → LT (F.T i)) :
    Calls Try.prog 22 #[v] w fun e w' => ∃ r, e = .returned (.tuple #[r, .int .i64 0]) ∧ BL w' r (rputL F) ∧ Below w.heap.size w w' := by
  have HV0 := Lib.hid hv
  obtain ⟨ts, rfl, hts⟩ := hv
  obtain ⟨aT, dT, rfl⟩ := hts.shape
  have HTS := Lib.hid hts
  have HOK := Lib.hid hok
  have HLT := Lib.hid hL
  have hfl0 := front_len hn hL 0
  have hoffn := offN_le hL F.nT (Nat.le_refl _)
  clear hts hok hL
  go_enter Try.func22, Try.ntmps22
  go_upto_region 1 with fail
  obtain ⟨w1, hw1⟩ : ∃ x, x = w.alloc (.cells #[.int .i64 F.sc, .slice aT F.nT dT] 37) := ⟨_, rfl⟩
  rw [← hw1]
  obtain ⟨gt, hgt⟩ : ∃ g, g = w.heap.size := ⟨_, rfl⟩
  have hE1 : Below w.heap.size w w1 := by rw [hw1]; exact below_box _ _
  have x0 : w1.cell? ⟨gt, 0, none⟩ = some (.int .i64 F.sc) := by rw [hw1, hgt]; simp [go_sem]
  have x1 : w1.cell? ⟨gt, 1, none⟩ = some (.slice aT F.nT dT) := by rw [hw1, hgt]; simp [go_sem]
  have hz1 : w.heap.size < w1.heap.size := by rw [hw1]; simp [go_sem]
  rw [← hgt]
  have hgtl : gt < w1.heap.size := block_lt_of_cell x0
  have HB1 := Lib.hid hE1
  have HX := Lib.hid (And.intro x0 x1)
  clear hw1 hE1 hgt
  go_wp2_with fail
  refine (rvalidF_any _ F w1 (HV0.out.below HB1.out) (by omega)).mono ?_
  rintro e wa ⟨rfl, hb⟩
  rw [HOK.out]
  have U := Lib.hid hb
  have hs_ := hb.size
  replace x0 := (hb.cell hgtl).trans HX.out.1
  replace x1 := (hb.cell hgtl).trans HX.out.2
  clear hb
  go_wp2_with fail
  refine (front_any _ F 0 wa (HV0.out.below (HB1.out.trans (U.out.mono (by omega)))) hn HLT.out (by decide) (by decide)).mono ?_
  rintro e wb ⟨r, rfl, hO, hb⟩
  obtain ⟨L0, hL0⟩ : ∃ L, L = frontL F 0 := ⟨_, rfl⟩
  rw [← hL0] at hO hfl0
  obtain ⟨a0, c0, rfl⟩ := hO.shape
  have HL0 := Lib.hid hL0
  replace U := Lib.hid (U.out.trans (hb.mono hs_))
  clear hO hb hL0 hs_ x0 x1
  have hs_ := U.out.size
  have x0 := (U.out.cell (p := ⟨gt, 0, none⟩) hgtl).trans HX.out.1
  have x1 := (U.out.cell (p := ⟨gt, 1, none⟩) hgtl).trans HX.out.2
  obtain ⟨n0, hn0⟩ : ∃ n, n = L0.length := ⟨_, rfl⟩
  rw [← hn0] at hfl0 ⊢
  have HN0 := Lib.hid hn0
  clear hn0
  go_wp2_with fail
  go_loopw [5, 6] (fun s i wr => ∃ k : Nat, k ≤ F.nT ∧ i = .int .i64 (k : Int) ∧ s = .int .i64 ((n0 : Int) + 8 + (offN F.T k : Nat)) ∧ Below w1.heap.size w1 wr) (fun _ i _ => F.nT - (intOf i).toNat)
  case atStart => exact ⟨0, Nat.zero_le _, rfl, by simp [offN], U.out⟩
  case round =>
    obtain ⟨k, hk, rfl, rfl, hB⟩ := hrel
    replace U := Lib.hid hB
    replace hs_ := hB.size
    have hww := HB1.out.trans (hB.mono (by omega))
    have HWW := Lib.hid hww
    replace x0 := (hB.cell (p := ⟨gt, 0, none⟩) hgtl).trans HX.out.1
    replace x1 := (hB.cell (p := ⟨gt, 1, none⟩) hgtl).trans HX.out.2
    clear hB
    by_cases hlt : k < F.nT
    · obtain ⟨ao, c', e, hcc, H⟩ := HTS.out
      simp only [Value.slice.injEq, true_and] at e
      obtain ⟨rfl, rfl⟩ := e
      obtain ⟨b', o', c0, c1, c2, c3, c4, rfl, h0, h1, h2, h3, h4, hTC⟩ := H k hlt
      have HTA := Lib.hid (show TA w (.agg #[c0, c1, c2, c3, c4]) (F.T k) from ⟨c0, c1, c2, c3, c4, rfl, hTC⟩)
      obtain ⟨rfl, rfl, b2, b3, b4⟩ := hTC
      obtain ⟨p2, q2, rfl⟩ := b2.shape
      obtain ⟨p3, q3, rfl⟩ := b3.shape
      obtain ⟨p4, q4, rfl⟩ := b4.shape
      replace h0 := (hww.cell (block_lt_of_cell h0)).trans h0
      replace h1 := (hww.cell (block_lt_of_cell h1)).trans h1
      replace h2 := (hww.cell (block_lt_of_cell h2)).trans h2
      replace h3 := (hww.cell (block_lt_of_cell h3)).trans h3
      replace h4 := (hww.cell (block_lt_of_cell h4)).trans h4
      have hl := HLT.out k hlt
      have hoff := offN_le HLT.out k (by omega)
      obtain ⟨Tk, hTk⟩ : ∃ T, T = F.T k := ⟨_, rfl⟩
      rw [← hTk] at h0 h1 h2 h3 h4 HTA hl
      obtain ⟨G, hG⟩ : ∃ G, G = offN F.T k := ⟨_, rfl⟩
      rw [← hG] at hoff ⊢
      have HTk := Lib.hid hTk
      have HGq := Lib.hid hG
      have hzz := hl.z
      have hl1 := hl.s
      clear H b2 b3 b4 hTk hG hl hww
      go_wp2_with fail
      refine (rsize_any _ Tk _ (HTA.out.below HWW.out) (by omega) (by omega)).mono ?_
      rintro e wv ⟨rfl, hbv⟩
      have HBv := Lib.hid (U.out.trans (hbv.mono hs_))
      obtain ⟨Z, hZ⟩ : ∃ Z, Z = sizeN Tk.S Tk.nS := ⟨_, rfl⟩
      rw [← hZ] at hzz ⊢
      have HZ := Lib.hid hZ
      clear hbv hZ h0 h1 h2 h3 h4 x0 x1
      go_wp2_with fail
      refine ⟨⟨k + 1, by omega, by go_num, ?_, HBv.out⟩, ?_⟩
      · have e1 : offN F.T (k + 1) = G + Z := by rw [HZ.out, HGq.out, HTk.out]; rfl
        rw [e1]
        go_num
      · simp [intOf]
        omega
    · obtain rfl : k = F.nT := by omega
      obtain ⟨G, hG⟩ : ∃ G, G = offN F.T F.nT := ⟨_, rfl⟩
      rw [← hG] at hoffn ⊢
      have HGn := Lib.hid hG
      clear hG HWW hww
      go_wp2_with fail
      go_loopw [7, 8, 9] (fun d i _ wq => ∃ k : Nat, k ≤ F.nT ∧ i = .int .i64 (k : Int) ∧ Own wq w1.heap.size d (dataL F.T k) ∧ Below w1.heap.size w1 wq) (fun _ i _ _ => F.nT - (intOf i).toNat)
      case atStart => exact ⟨0, Nat.zero_le _, rfl, own_nil _ _, U.out⟩
      case round =>
        obtain ⟨k, hk2, rfl, hO, hB⟩ := hrel
        have HO := Lib.hid hO
        replace U := Lib.hid hB
        replace hs_ := hB.size
        have hww := HB1.out.trans (hB.mono (by omega))
        have HWW := Lib.hid hww
        replace x0 := (hB.cell (p := ⟨gt, 0, none⟩) hgtl).trans HX.out.1
        replace x1 := (hB.cell (p := ⟨gt, 1, none⟩) hgtl).trans HX.out.2
        clear hB hO
        by_cases hlt2 : k < F.nT
        · obtain ⟨ao, c', e, hcc, H⟩ := HTS.out
          simp only [Value.slice.injEq, true_and] at e
          obtain ⟨rfl, rfl⟩ := e
          obtain ⟨b', o', c0, c1, c2, c3, c4, rfl, h0, h1, h2, h3, h4, hTC⟩ := H k hlt2
          obtain ⟨rfl, rfl, b2, b3, b4⟩ := hTC
          obtain ⟨p3, q3, rfl⟩ := b3.shape
          have hl := HLT.out k hlt2
          have hoff := offN_le HLT.out (k + 1) (by omega)
          obtain ⟨Tk, hTk⟩ : ∃ T, T = F.T k := ⟨_, rfl⟩
          rw [← hTk] at h3 b3 hl
          have HTk := Lib.hid hTk
          have H3 := Lib.hid h3
          have HB3 := Lib.hid b3
          have h3l := block_lt_of_cell h3
          have hzz := hl.z
          have hl1 := hl.s
          have hdl : (dataL F.T k).length ≤ 200000 := by rw [dataL_length]; have := offN_le HLT.out k (by omega); omega
          have HDL := Lib.hid hdl
          obtain ⟨wm, hwm⟩ : ∃ x : World, x = wr := ⟨_, rfl⟩
          clear H b2 b4 h0 h1 h2 h3 b3 hTk hl hdl hwm
          go_wp2_with fail
          go_loopw [7, 9] (fun d i wz => ∃ j : Nat, j ≤ Tk.nS ∧ i = .int .i64 (j : Int) ∧ Own wz w1.heap.size d (dataL F.T k ++ catN (fun j => smL (Tk.S j)) j) ∧ Below w1.heap.size w1 wz) (fun _ i _ => Tk.nS - (intOf i).toNat)
          case atStart => exact ⟨0, Nat.zero_le _, rfl, by rw [show catN (fun j => smL (Tk.S j)) 0 = [] from rfl, List.append_nil]; exact HO.out, U.out⟩
          case round =>
            obtain ⟨j, hj, rfl, hO, hB⟩ := hrel
            replace HO := Lib.hid hO
            replace U := Lib.hid hB
            replace hs_ := hB.size
            have hww2 := HB1.out.trans (hB.mono (by omega))
            replace x0 := (hB.cell (p := ⟨gt, 0, none⟩) hgtl).trans HX.out.1
            replace x1 := (hB.cell (p := ⟨gt, 1, none⟩) hgtl).trans HX.out.2
            have y3 := (hww2.cell h3l).trans H3.out
            clear hB hO
            by_cases hlt3 : j < Tk.nS
            · obtain ⟨ap, cp, e, hcc2, H⟩ := HB3.out
              simp only [Value.slice.injEq, true_and] at e
              obtain ⟨rfl, rfl⟩ := e
              obtain ⟨b4, o4, x, rfl, s0, s1, s2, s3, hba⟩ := H j hlt3
              have hbl : BL w x (smL (Tk.S j)) := BA.bl hba
              have HBL := Lib.hid (hbl.below hww2)
              obtain ⟨xa, xc, hxv⟩ := hbl.shape
              subst hxv
              have hsm : (smL (Tk.S j)).length ≤ 20000 := by
                rw [smL_length]
                have h1 := sizeN_mono Tk.S (show j + 1 ≤ Tk.nS by omega)
                simp only [sizeN] at h1
                omega
              have hdj : (catN (fun j => smL (Tk.S j)) j).length ≤ 20000 := by
                rw [catN_sm]
                have h1 := sizeN_mono Tk.S (show j ≤ Tk.nS by omega)
                omega
              have HNN := Lib.hid (show (dataL F.T k ++ catN (fun j => smL (Tk.S j)) j).length + (smL (Tk.S j)).length ≤ 100000000 by rw [List.length_append]; have := HDL.out; omega)
              replace s0 := (hww2.cell (block_lt_of_cell s0)).trans s0
              clear H hba hbl s1 s2 s3 hsm hdj hww2
              go_wp2_with (at_builtin; refine wpList_adv _ rfl (.tmp 53) (.tmp 63) rfl w1.heap.size _ _ (dataL F.T k ++ catN (fun j => smL (Tk.S j)) j) (smL (Tk.S j)) rfl HO.out rfl HBL.out HNN.out hs_ ?_)
              intro v2 wu hO2 hA2
              have hwu : Below w1.heap.size w1 wu := U.out.trans (hA2.up HO.out hs_)
              have HO2 := Lib.hid (show Own wu w1.heap.size v2 (dataL F.T k ++ catN (fun j => smL (Tk.S j)) (j + 1)) by
                rw [show catN (fun j => smL (Tk.S j)) (j + 1) = catN (fun j => smL (Tk.S j)) j ++ smL (Tk.S j) from rfl]; first | exact hO2 | (rw [← List.append_assoc]; exact hO2))
              have HU2 := Lib.hid hwu
              clear hO2 hA2 hwu s0 y3 x0 x1 HBL HNN HO U hs_
              go_wp2_with fail
              exact ⟨⟨j + 1, by omega, by go_num, HO2.out, HU2.out⟩, by simp [intOf]; omega⟩
            · obtain rfl : j = Tk.nS := by omega
              have HO2 := Lib.hid (show Own _ w1.heap.size _ (dataL F.T (k + 1)) by
                rw [show dataL F.T (k + 1) = dataL F.T k ++ trL (F.T k) from rfl, ← HTk.out]; exact HO.out)
              clear hww2 HO
              go_wp2_with fail
              exact ⟨⟨k + 1, by omega, by go_num, HO2.out, U.out⟩, by simp [intOf]; omega⟩
        · obtain rfl : k = F.nT := by omega
          obtain ⟨Ld, hLd⟩ : ∃ L, L = dataL F.T F.nT := ⟨_, rfl⟩
          have hO := HO.out
          rw [← hLd] at hO
          have nd : Ld.length ≤ 200000 := by rw [hLd, dataL_length]; have := offN_le HLT.out F.nT (by omega); omega
          obtain ⟨ad, cd, hdv⟩ := hO.shape
          subst hdv
          have Md := Lib.hid hO.bl
          have Ed := Lib.hid hLd
          have HVq := Lib.hid (HV0.out.below hww)
          clear hO HO hLd hww HWW
          go_wp2_with fail
          refine (front_any _ F ((n0 : Int) + 8) _ HVq.out hn HLT.out (by omega) (by omega)).mono ?_
          rintro e x1 ⟨r, rfl, hO, hb⟩
          obtain ⟨Lf, hL⟩ : ∃ L, L = frontL F ((n0 : Int) + 8) := ⟨_, rfl⟩
          rw [← hL] at hO
          have nf : Lf.length ≤ 70020 := by rw [hL]; exact front_len hn HLT.out _
          obtain ⟨af, cf, rfl⟩ := hO.shape
          replace Md := Lib.hid (Md.out.below hb)
          have Mf := Lib.hid hO.bl
          have Ef := Lib.hid hL
          replace U := Lib.hid (U.out.trans (hb.mono hs_))
          clear hO hb hL hs_
          have hs_ := U.out.size
          go_wp2_with fail
          refine (box_any nMdat _ [Ld] _ (JL.build (w := x1) (vs := [.slice ad Ld.length cd]) (Ls := [Ld]) 22 ⟨Md.out, trivial⟩) (by simp) (by simp; omega) (by decide)).mono ?_
          rintro e x2 ⟨r, rfl, hO, hb⟩
          replace hb : Below x1.heap.size x1 x2 := (below_box x1 _).trans (hb.mono (by simp))
          obtain ⟨Lm, hL⟩ : ∃ L, L = boxL nMdat [Ld].flatten := ⟨_, rfl⟩
          rw [← hL] at hO
          have nm : Lm.length ≤ 200008 := by rw [hL]; rw [boxL_length _ _ rfl]; simp; omega
          obtain ⟨am, cm, rfl⟩ := hO.shape
          replace Md := Lib.hid (Md.out.below hb)
          replace Mf := Lib.hid (Mf.out.below hb)
          have Mm := Lib.hid hO.bl
          have Em := Lib.hid hL
          replace U := Lib.hid (U.out.trans (hb.mono hs_))
          clear hO hb hL hs_
          have hs_ := U.out.size
          clear Md
          go_wp2_with fail
          refine (join_any _ [Lf, Lm] _ (JL.build (w := x2) (vs := [.slice af Lf.length cf, .slice am Lm.length cm]) (Ls := [Lf, Lm]) 22 ⟨Mf.out, Mm.out, trivial⟩) (by simp) (by simp; omega)).mono ?_
          rintro e x3 ⟨r, rfl, hO, hb⟩
          replace hb : Below x2.heap.size x2 x3 := (below_box x2 _).trans (hb.mono (by simp))
          obtain ⟨Lr, hL⟩ : ∃ L, L = [Lf, Lm].flatten := ⟨_, rfl⟩
          rw [← hL] at hO
          have nr : Lr.length ≤ 270028 := by rw [hL]; simp; omega
          obtain ⟨ar, cr, rfl⟩ := hO.shape
          replace Mf := Lib.hid (Mf.out.below hb)
          replace Mm := Lib.hid (Mm.out.below hb)
          have Mr := Lib.hid hO.bl
          have Er := Lib.hid hL
          replace U := Lib.hid (U.out.trans (hb.mono hs_))
          clear hO hb hL hs_
          have hs_ := U.out.size
          go_wp2_with fail
          go_ret2
          refine ⟨_, rfl, ?_, HB1.out.trans (U.out.mono (by omega))⟩
          have hfin : Lr = rputL F := by
            rw [Er.out, Ef.out, Em.out, Ed.out]
            unfold rputL
            rw [flat1, HN0.out, HL0.out]
          rw [← hfin]
          exact Mr.out
end Go.Proofs.Ytkhjkemllgjfmaa

/- The contract of the program's Put at a file that is not valid. -/
namespace Go.Proofs.Ytkhjkemllgjfmaa
open Go.RowKit
set_option linter.unusedVariables false
set_option linter.unusedSimpArgs false

set_option maxRecDepth 100000 in
set_option maxHeartbeats 4000000 in
theorem put_bad (v : Value) (F : Fl) (w : World) (hv : FA w v F) (hok : okFl F = false) (hn : F.nT ≤ 9223372036854775807) :
    Calls Try.prog 21 #[v] w fun e w' => e = .returned (.tuple #[.slice none 0 0, .int .i64 1]) ∧ Below w.heap.size w w' := by
  have HV := Lib.hid hv
  obtain ⟨cT, rfl, hts⟩ := hv
  obtain ⟨aT, dT, rfl⟩ := hts.shape
  have HTS := Lib.hid hts
  have HOK := Lib.hid hok
  clear hts hok
  go_enter_defers Try.func21, Try.ntmps21
  go_upto_region 2 with fail
  obtain ⟨w1, hw1⟩ : ∃ x, x = ((w.alloc (.cells #[.int .i64 F.sc, .slice aT F.nT dT] 56)).alloc (.cells #[.slice none 0 0] 22)).alloc (.cells #[.int .i64 0] 24) := ⟨_, rfl⟩
  rw [← hw1]
  obtain ⟨g1, hg1⟩ : ∃ g, g = w.heap.size := ⟨_, rfl⟩
  have hE1 : Below w.heap.size w w1 := by rw [hw1]; go_grown
  have hz1 : w1.heap.size = w.heap.size + 3 := by rw [hw1]; simp [go_sem]
  have x0 : w1.cell? ⟨g1, 0, none⟩ = some (.int .i64 F.sc) := by rw [hw1, hg1]; simp [go_sem]
  have x1 : w1.cell? ⟨g1, 1, none⟩ = some (.slice aT F.nT dT) := by rw [hw1, hg1]; simp [go_sem]
  have hb1 : C1 w1 (g1 + 1) (.slice none 0 0) := by rw [hw1, hg1]; constructor <;> simp [go_sem]
  have he1 : C1 w1 (g1 + 1 + 1) (.int .i64 0) := by rw [hw1, hg1]; constructor <;> simp [go_sem]
  rw [← hg1]
  obtain ⟨g2, hg2⟩ : ∃ g, g = g1 + 1 := ⟨_, rfl⟩
  rw [← hg2] at hb1 he1 ⊢
  obtain ⟨g3, hg3⟩ : ∃ g, g = g2 + 1 := ⟨_, rfl⟩
  rw [← hg3] at he1 ⊢
  have l1 : g1 < w1.heap.size := by omega
  have l2 : g2 < w1.heap.size := by omega
  have l3 : g3 < w1.heap.size := by omega
  have n12 : g1 ≠ g2 := by omega
  have n13 : g1 ≠ g3 := by omega
  have n23 : g2 ≠ g3 := by omega
  have m1 : w.heap.size ≤ g1 := by omega
  have m2 : w.heap.size ≤ g2 := by omega
  have m3 : w.heap.size ≤ g3 := by omega
  have hw0 : w.heap.size ≤ w1.heap.size := by omega
  have HB1 := Lib.hid hE1
  have HX := Lib.hid (And.intro x0 x1)
  have Hb := Lib.hid hb1
  have He := Lib.hid he1
  clear hw1 hE1 hg1 hg2 hg3 hz1 hb1 he1
  go_wp2_with fail
  refine (validF_any _ F w1 (HV.out.below HB1.out) (by omega)).mono ?_
  rintro e w2 ⟨rfl, hb2⟩
  rw [HOK.out]
  have HB2 := Lib.hid (HB1.out.trans (hb2.mono hw0))
  have y2 := (hb2.cell (p := ⟨g2, 0, none⟩) l2).trans Hb.out.k0
  have y2f := (hb2.frozen (p := ⟨g2, 0, none⟩) l2).trans Hb.out.fz
  have y3 := (hb2.cell (p := ⟨g3, 0, none⟩) l3).trans He.out.k0
  have y3f := (hb2.frozen (p := ⟨g3, 0, none⟩) l3).trans He.out.fz
  clear hb2 x0 x1 HX Hb He HB1
  go_wp2_with fail
  refine leaves_cons (f := 37) (args := #[.pointer (some ⟨g2, 0, none⟩), .pointer (some ⟨g3, 0, none⟩)]) (by simp) (by simp [go_sem]) ?_
  refine (idle37 _ _ _).mono ?_
  rintro e u' w'' ⟨rfl, rfl, rfl⟩
  simp [Leaves, settle, results, Try.results21, go_sem, y2, y3, n23, n23.symm]
  exact (HB2.out.setCell m2 _).setCell m3 _
end Go.Proofs.Ytkhjkemllgjfmaa

/- The contract of the reference's Put at a file that is not valid. -/
namespace Go.Proofs.Ytkhjkemllgjfmaa
open Go.RowKit
set_option linter.unusedVariables false
set_option linter.unusedSimpArgs false

set_option maxRecDepth 100000 in
set_option maxHeartbeats 4000000 in
theorem rput_bad (v : Value) (F : Fl) (w : World) (hv : FA w v F) (hok : okFl F = false) (hn : F.nT ≤ 9223372036854775807) :
    Calls Try.prog 22 #[v] w fun e w' => e = .returned (.tuple #[.slice none 0 0, .int .i64 1]) ∧ Below w.heap.size w w' := by
  have hv0 := hv
  obtain ⟨ts, rfl, hts⟩ := hv
  obtain ⟨ao, c, rfl⟩ := hts.shape
  have HV0 := Lib.hid hv0
  have HOK := Lib.hid hok
  clear hts hv0 hok
  go_enter Try.func22, Try.ntmps22
  go_wp2_with fail
  refine (rvalidF_any _ F _ (HV0.out.below (below_box w _)) hn).mono ?_
  rintro e w3 ⟨rfl, hb⟩
  rw [HOK.out]
  have HB := Lib.hid ((below_box w (.cells #[.int .i64 F.sc, .slice ao F.nT c] 37)).trans (hb.mono (by simp)))
  clear hb
  go_wp2_with fail
  go_ret2
  exact ⟨rfl, HB.out⟩
end Go.Proofs.Ytkhjkemllgjfmaa

/- The contract of the program's Take at bytes whose last box is not complete. -/
namespace Go.Proofs.Ytkhjkemllgjfmaa
open Go.RowKit
set_option linter.unusedVariables false
set_option linter.unusedSimpArgs false

set_option maxRecDepth 100000 in
set_option maxHeartbeats 4000000 in
theorem take_short (v : Value) (n : Nat) (f : Nat → Int) (w : World) (hv : BA w v n f) (hn : n ≤ 100000000) (hc : ∀ k, Walked f 0 n k → ¬ goOn f n (pos f 0 k) → codeAt f n (pos f 0 k) = 4) :
    Calls Try.prog 25 #[v] w fun e w' => e = .returned (.tuple #[.agg #[.int .i64 0, .slice none 0 0], .int .i64 4]) ∧ Below w.heap.size w w' := by
  obtain ⟨ao, cc, rfl⟩ := hv.shape
  have HV := Lib.hid hv
  have HC := Lib.hid hc
  have hn' : ¬ (2147483647 : Int) < (n : Int) := by omega
  have hn2 : ¬ 2147483647 < n := by omega
  have hmf : ∀ (fn : Fn) (first cap : Array Value) (w : World), (Instr.makeFunc fn first cap).run Try.prog w = .ok (.func fn first cap) w := fun _ _ _ _ => rfl
  clear hv hc
  go_enter_defers Try.func25, Try.ntmps25
  go_upto_region 2 with fail
  obtain ⟨w1, hw1⟩ : ∃ x, x = ((w.alloc (.cells #[.int .i64 0, .slice none 0 0] 56)).alloc (.cells #[.int .i64 0] 24)) := ⟨_, rfl⟩
  rw [← hw1]
  obtain ⟨g1, hg1⟩ : ∃ g, g = w.heap.size := ⟨_, rfl⟩
  have hE1 : Below w.heap.size w w1 := by rw [hw1]; go_grown
  have hz1 : w1.heap.size = w.heap.size + 2 := by rw [hw1]; simp [go_sem]
  have x0 : w1.cell? ⟨g1, 0, none⟩ = some (.int .i64 0) := by rw [hw1, hg1]; simp [go_sem]
  have x1 : w1.cell? ⟨g1, 1, none⟩ = some (.slice none 0 0) := by rw [hw1, hg1]; simp [go_sem]
  have f0 : w1.frozen? ⟨g1, 0, none⟩ = false := by rw [hw1, hg1]; simp [go_sem]
  have f1 : w1.frozen? ⟨g1, 1, none⟩ = false := by rw [hw1, hg1]; simp [go_sem]
  have he1 : C1 w1 (g1 + 1) (.int .i64 0) := by rw [hw1, hg1]; constructor <;> simp [go_sem]
  rw [← hg1]
  obtain ⟨g2, hg2⟩ : ∃ g, g = g1 + 1 := ⟨_, rfl⟩
  rw [← hg2] at he1 ⊢
  have l1 : g1 < w1.heap.size := by omega
  have l2 : g2 < w1.heap.size := by omega
  have n12 : g1 ≠ g2 := by omega
  have m1 : w.heap.size ≤ g1 := by omega
  have m2 : w.heap.size ≤ g2 := by omega
  have hw0 : w.heap.size ≤ w1.heap.size := by omega
  have HB1 := Lib.hid hE1
  have HX := Lib.hid (And.intro x0 x1)
  have He := Lib.hid he1
  have HF := Lib.hid (And.intro f0 f1)
  clear hw1 hE1 hg1 hg2 hz1 he1 x0 x1 f0 f1
  go_wp2_with fail
  refine (boxes_any _ n f 0 (n : Int) w1 (HV.out.below HB1.out) hn).mono ?_
  rintro e w2 ⟨v1, c, rfl, hb2, hcase⟩
  rw [if_neg (by omega)] at hcase
  obtain ⟨k, hk, hg, hcd, hnil, _⟩ := hcase
  obtain rfl : c = 4 := hcd.trans (HC.out k (by simpa using hk) (by simpa using hg))
  obtain rfl := hnil (by decide)
  have s2 := hb2.size
  have HB2 := Lib.hid (HB1.out.trans (hb2.mono hw0))
  have y0 := (hb2.cell (p := ⟨g1, 0, none⟩) l1).trans HX.out.1
  have y1 := (hb2.cell (p := ⟨g1, 1, none⟩) l1).trans HX.out.2
  have ye := (hb2.cell (p := ⟨g2, 0, none⟩) l2).trans He.out.k0
  have yf1 := (hb2.frozen (p := ⟨g1, 0, none⟩) l1).trans HF.out.1
  have yf3 := (hb2.frozen (p := ⟨g1, 1, none⟩) l1).trans HF.out.2
  have yf := (hb2.frozen (p := ⟨g2, 0, none⟩) l2).trans He.out.fz
  clear hk hg hcd hnil hb2
  go_upto_region 6 with fail
  obtain ⟨w3, hw3⟩ : ∃ x, x = w2.setCell ⟨g2, 0, none⟩ (.int .i64 4) := ⟨_, rfl⟩
  have z0 : w3.cell? ⟨g1, 0, none⟩ = some (.int .i64 0) := by rw [hw3, World.cell?_setCell_far _ _ _ _ (by simpa using Ne.symm n12)]; exact y0
  have z1 : w3.cell? ⟨g1, 1, none⟩ = some (.slice none 0 0) := by rw [hw3, World.cell?_setCell_far _ _ _ _ (by simpa using Ne.symm n12)]; exact y1
  have z2 : w3.cell? ⟨g2, 0, none⟩ = some (.int .i64 4) := by rw [hw3]; simp [go_sem, ye]
  have zf2 : w3.frozen? ⟨g2, 0, none⟩ = false := by rw [hw3, World.frozen?_setCell]; exact yf
  have zf1 : w3.frozen? ⟨g1, 0, none⟩ = false := by rw [hw3, World.frozen?_setCell]; exact yf1
  have zf3 : w3.frozen? ⟨g1, 1, none⟩ = false := by rw [hw3, World.frozen?_setCell]; exact yf3
  have HB3 := Lib.hid (show Below w.heap.size w w3 by rw [hw3]; exact HB2.out.setCell m2 _)
  rw [← hw3]
  clear hw3 y0 y1 ye yf yf1 yf3
  refine Plan.wp_region_plan (fun wx => Below w.heap.size w wx ∧ wx.cell? ⟨g2, 0, none⟩ = some (.int .i64 4)) (([0, 1].map (·, true)) ++ (([2, 3].map (·, false)))) (by kernel_rfl) (by kernel_rfl) (by kernel_rfl) ⟨HB3.out.drew, by simpa [go_sem] using z2⟩ ?_
  refine' Plan.plan_seg _ [0, 1] (([2, 3].map (·, false))) (by kernel_rfl) (by kernel_rfl) rfl (by exact ⟨HB3.out.drew, by simpa [go_sem] using z2⟩) (fun wx hS => ?_) ?_
  rotate_left
  · have q2 := hS.2
    clear hS
    go_light
    iterate 2 (apply Plan.seg_pick; rfl; intro K hK; go_wp)
    exact Plan.seg_nil
  refine Plan.plan_of_effect rfl (fun K hK => ?_)
  go_wp2_with fail
  have hb4 : Below w.heap.size w ((w3.setCell ⟨g1, 0, none⟩ (.int .i64 0)).setCell ⟨g1, 1, none⟩ (.slice none 0 0)).drew := ((HB3.out.setCell m1 _).setCell m1 _).drew
  have z4 : ((w3.setCell ⟨g1, 0, none⟩ (.int .i64 0)).setCell ⟨g1, 1, none⟩ (.slice none 0 0)).drew.cell? ⟨g2, 0, none⟩ = some (.int .i64 4) := by
    rw [World.cell?_drew, World.cell?_setCell_far _ _ _ _ (by simpa using n12), World.cell?_setCell_far _ _ _ _ (by simpa using n12)]; exact z2
  refine ⟨⟨hb4, z4⟩, ?_⟩
  have z40 : ((w3.setCell ⟨g1, 0, none⟩ (.int .i64 0)).setCell ⟨g1, 1, none⟩ (.slice none 0 0)).drew.cell? ⟨g1, 0, none⟩ = some (.int .i64 0) := by simp [go_sem, z0, z1]
  have z41 : ((w3.setCell ⟨g1, 0, none⟩ (.int .i64 0)).setCell ⟨g1, 1, none⟩ (.slice none 0 0)).drew.cell? ⟨g1, 1, none⟩ = some (.slice none 0 0) := by simp [go_sem, z0, z1]
  have z4f : ((w3.setCell ⟨g1, 0, none⟩ (.int .i64 0)).setCell ⟨g1, 1, none⟩ (.slice none 0 0)).drew.frozen? ⟨g2, 0, none⟩ = false := by simp [go_sem, zf2]
  obtain ⟨w4, hw4⟩ : ∃ x, x = ((w3.setCell ⟨g1, 0, none⟩ (.int .i64 0)).setCell ⟨g1, 1, none⟩ (.slice none 0 0)).drew := ⟨_, rfl⟩
  rw [← hw4] at hb4 z4 z40 z41 z4f ⊢
  have HB4 := Lib.hid hb4
  clear hw4 hb4 z0 z1 z2 zf1 zf2 zf3
  refine Plan.plan_of_effect rfl (fun K hK => ?_)
  go_wp2_with fail
  refine ⟨⟨HB4.out.setCell m2 _, by simp [go_sem, z4]⟩, ?_⟩
  refine Plan.plan_done ?_
  have z50 : (w4.setCell ⟨g2, 0, none⟩ (.int .i64 4)).cell? ⟨g2, 0, none⟩ = some (.int .i64 4) := by simp [go_sem, z4]
  have z51 : (w4.setCell ⟨g2, 0, none⟩ (.int .i64 4)).cell? ⟨g1, 0, none⟩ = some (.int .i64 0) := by rw [World.cell?_setCell_far _ _ _ _ (by simpa using Ne.symm n12)]; exact z40
  have z52 : (w4.setCell ⟨g2, 0, none⟩ (.int .i64 4)).cell? ⟨g1, 1, none⟩ = some (.slice none 0 0) := by rw [World.cell?_setCell_far _ _ _ _ (by simpa using Ne.symm n12)]; exact z41
  have hb5 : Below w.heap.size w (w4.setCell ⟨g2, 0, none⟩ (.int .i64 4)) := HB4.out.setCell m2 _
  obtain ⟨w5, hw5⟩ : ∃ x, x = w4.setCell ⟨g2, 0, none⟩ (.int .i64 4) := ⟨_, rfl⟩
  rw [← hw5] at z50 z51 z52 hb5 ⊢
  clear hw5 z4 z40 z41 z4f
  go_wp2_with fail
  refine leaves_cons (f := 47) (args := #[.pointer (some ⟨g1, 0, none⟩), .pointer (some ⟨g2, 0, none⟩)]) (by simp) (by simp [go_sem]) ?_
  refine (idle47 _ _ _).mono ?_
  rintro e u' w'' ⟨rfl, rfl, rfl⟩
  simp [Leaves, settle, results, Try.results25, go_sem, z50, z51, z52]
  exact hb5
end Go.Proofs.Ytkhjkemllgjfmaa

/- What bytes a light valid file has: each is a byte, and with some of the last seven missing its last box is not complete. -/
namespace Go.Proofs.Ytkhjkemllgjfmaa
open Go.RowKit
set_option linter.unusedVariables false
set_option linter.unusedSimpArgs false

def Byt (L : List Int) : Prop := ∀ u, u ∈ L → 0 ≤ u ∧ u < 256
theorem Byt.nil : Byt [] := fun u h => by simp at h
theorem Byt.app {a b : List Int} (h : Byt a) (k : Byt b) : Byt (a ++ b) := fun u hu => by
  rcases List.mem_append.1 hu with h' | h'
  · exact h u h'
  · exact k u h'
theorem Byt.num4 (n : Int) : Byt (num4 n) := fun u hu => by
  simp only [Proofs.Ytkhjkemllgjfmaa.num4, List.mem_cons, List.not_mem_nil, or_false] at hu
  omega
theorem Byt.nums (L : List Int) : Byt (numsL L) := fun u hu => by
  obtain ⟨x, _, hx⟩ := List.mem_flatMap.1 hu
  exact Byt.num4 x u hx
theorem Byt.strB (s : ByteArray) : Byt (strB s) := fun u hu => by
  obtain ⟨x, _, rfl⟩ := List.mem_map.1 hu
  have := x.toNat_lt
  omega
theorem Byt.zs (n : Nat) : Byt (zs n) := fun u hu => by
  have := List.eq_of_mem_replicate hu
  omega
theorem Byt.boxP (nm : ByteArray) {d : List Int} (h : Byt d) : Byt (boxP nm d) := (Byt.num4 _).app ((Byt.strB _).app h)
theorem Byt.catN {f : Nat → List Int} : ∀ n, (∀ i, i < n → Byt (f i)) → Byt (catN f n)
  | 0, _ => Byt.nil
  | n + 1, h => (Byt.catN n (fun i hi => h i (by omega))).app (h n (by omega))
theorem Byt.lit4 (a b c d : Int) (h : (0 ≤ a ∧ a < 256) ∧ (0 ≤ b ∧ b < 256) ∧ (0 ≤ c ∧ c < 256) ∧ (0 ≤ d ∧ d < 256)) : Byt [a, b, c, d] := fun u hu => by
  simp only [List.mem_cons, List.not_mem_nil, or_false] at hu
  rcases hu with rfl | rfl | rfl | rfl <;> omega
theorem Byt.lit2 (a b : Int) (h : (0 ≤ a ∧ a < 256) ∧ (0 ≤ b ∧ b < 256)) : Byt [a, b] := fun u hu => by
  simp only [List.mem_cons, List.not_mem_nil, or_false] at hu
  rcases hu with rfl | rfl <;> omega
structure BytT (T : Tr) : Prop where
  c : ∀ i, i < T.nC → 0 ≤ T.C i ∧ T.C i < 256
  s : ∀ j, j < T.nS → ∀ i, i < (T.S j).n → 0 ≤ (T.S j).D i ∧ (T.S j).D i < 256
theorem Byt.range {n : Nat} {f : Nat → Int} (h : ∀ i, i < n → 0 ≤ f i ∧ f i < 256) : Byt ((List.range n).map f) := fun u hu => by
  obtain ⟨i, hi, rfl⟩ := List.mem_map.1 hu
  exact h i (List.mem_range.1 hi)
theorem Byt.runs (f : Nat → Int) (n : Nat) : Byt (runsL f n) := by unfold runsL; exact (Byt.nums _).app (Byt.nums _)
theorem Byt.ed (E : Nat → Ed) (n : Nat) : Byt (edL E n) := Byt.catN n fun i _ => Byt.nums _
theorem Byt.desc {T : Tr} (h : BytT T) : Byt (descL T) := ((Byt.zs 6).app (Byt.lit2 0 1 (by omega))).app (Byt.range h.c)
theorem Byt.stsd {T : Tr} (h : BytT T) : Byt (stsdL T) := by unfold stsdL; simp only [bytesT]; exact (Byt.nums _).app (Byt.boxP _ (Byt.desc h))
theorem Byt.stss (T : Tr) : Byt (stssL T) := by unfold stssL; exact (Byt.nums _).app (Byt.nums _)
theorem Byt.stsz (T : Tr) : Byt (stszL T) := by unfold stszL; exact (Byt.nums _).app (Byt.nums _)
theorem Byt.stco (T : Tr) (first : Int) : Byt (stcoL T first) := by unfold stcoL; exact (Byt.nums _).app (Byt.nums _)
theorem Byt.chunk : Byt chunkL := by unfold chunkL; exact Byt.nums _
theorem Byt.stbl {T : Tr} (h : BytT T) (first : Int) (i : Nat) : Byt (bytesT (stbl T first i)) := by
  unfold Proofs.Ytkhjkemllgjfmaa.stbl
  split
  · simp only [bytesT]; exact Byt.boxP _ (Byt.stsd h)
  split
  · simp only [bytesT]; exact Byt.boxP _ (Byt.runs _ _)
  split
  · simp only [bytesT]; exact Byt.boxP _ (Byt.runs _ _)
  split
  · simp only [bytesT]; exact Byt.boxP _ (Byt.stss T)
  split
  · simp only [bytesT]; exact Byt.boxP _ (Byt.stsz T)
  split
  · simp only [bytesT]; exact Byt.boxP _ Byt.chunk
  · simp only [bytesT]; exact Byt.boxP _ (Byt.stco T _)
theorem Byt.mat : Byt matL := Byt.nums _
theorem Byt.tkhd (k : Int) : Byt (tkhdL k) := (((((((Byt.lit4 0 0 0 3 (by omega)).app (Byt.zs 8)).app (Byt.nums _)).app (Byt.zs 4)).app (Byt.nums _)).app (Byt.zs 16)).app Byt.mat).app (Byt.zs 8)
theorem Byt.mdhd (T : Tr) : Byt (mdhdL T) := ((Byt.nil.app (Byt.zs 12)).app (Byt.nums _)).app (Byt.lit4 _ _ _ _ (by omega))
theorem Byt.hdlr (T : Tr) : Byt (hdlrL T) := ((Byt.nil.app (Byt.zs 8)).app (Byt.strB _)).app (Byt.zs 13)
theorem Byt.minf {T : Tr} (h : BytT T) (first : Int) : Byt (bytesT (minfT T first)) := by
  unfold minfT
  simp only [bytesT]
  exact Byt.boxP _ (Byt.catN 1 fun i _ => Byt.boxP _ (Byt.catN 7 fun i _ => Byt.stbl h first i))
theorem Byt.mdia {T : Tr} (h : BytT T) (first : Int) : Byt (bytesT (mdiaT T first)) := by
  unfold mdiaT
  simp only [bytesT]
  refine Byt.boxP _ (Byt.catN 3 fun i _ => ?_)
  split
  · simp only [bytesT]; exact Byt.boxP _ (Byt.mdhd T)
  split
  · simp only [bytesT]; exact Byt.boxP _ (Byt.hdlr T)
  · exact Byt.minf h first
theorem Byt.edts (T : Tr) : Byt (bytesT (edtsT T)) := by
  unfold edtsT
  simp only [bytesT]
  exact Byt.boxP _ (Byt.catN 1 fun i _ => Byt.boxP _ ((Byt.nums _).app (Byt.ed _ _)))
theorem Byt.trak {T : Tr} (h : BytT T) (k first : Int) : Byt (bytesT (trakT T k first)) := by
  unfold trakT
  split <;> simp only [bytesT] <;> refine Byt.boxP _ (Byt.catN _ fun i _ => ?_)
  · split
    · simp only [bytesT]; exact Byt.boxP _ (Byt.tkhd k)
    split
    · exact Byt.edts T
    · exact Byt.mdia h first
  · split
    · simp only [bytesT]; exact Byt.boxP _ (Byt.tkhd k)
    · exact Byt.mdia h first
theorem Byt.moov {F : Fl} (h : ∀ i, i < F.nT → BytT (F.T i)) (first : Int) : Byt (bytesT (moovT F first)) := by
  unfold moovT
  simp only [bytesT]
  refine Byt.boxP _ (Byt.catN _ fun i hi => ?_)
  unfold moovP
  split
  · simp only [bytesT]
    exact Byt.boxP _ (((((((Byt.nil.app (Byt.zs 12)).app (Byt.nums _)).app (Byt.lit2 _ _ (by omega))).app (Byt.zs 10)).app Byt.mat).app (Byt.zs 24)).app (Byt.nums _))
  · exact Byt.trak (h _ (by omega)) _ _
theorem Byt.put {F : Fl} (h : ∀ i, i < F.nT → BytT (F.T i)) : Byt (putL F) :=
  ((Byt.boxP _ ((Byt.strB _).app ((Byt.nums _).app (Byt.strB _)))).app (Byt.moov h _)).app (Byt.boxP _ (Byt.catN _ fun i hi => Byt.catN _ fun j hj => Byt.range ((h i hi).s j hj)))
end Go.Proofs.Ytkhjkemllgjfmaa

/- With some of the last seven bytes missing the last box is not complete. -/
namespace Go.Proofs.Ytkhjkemllgjfmaa
open Go.RowKit
set_option linter.unusedVariables false
set_option linter.unusedSimpArgs false

theorem bits_nat (a b : Nat) (ha : a < 2147483648) (hb : b < 2147483648) : bits BinOp.or IntKind.i64 (a : Int) (b : Int) = ((a ||| b : Nat) : Int) := by
  unfold bits
  have h1 : (BitVec.ofInt IntKind.i64.bits (a : Int)).toNat = a := by
    rw [BitVec.toNat_ofInt]
    show ((a : Int) % ((2 ^ 64 : Nat) : Int)).toNat = a
    omega
  have h2 : (BitVec.ofInt IntKind.i64.bits (b : Int)).toNat = b := by
    rw [BitVec.toNat_ofInt]
    show ((b : Int) % ((2 ^ 64 : Nat) : Int)).toNat = b
    omega
  have h3 : a ||| b < 2 ^ 31 := Nat.or_lt_two_pow (by omega) (by omega)
  simp only [BitVec.toNat_or, h1, h2]
  unfold IntKind.wrap
  have h4 : ((a ||| b : Nat) : Int) % 2 ^ IntKind.i64.bits = ((a ||| b : Nat) : Int) := by
    show ((a ||| b : Nat) : Int) % 2 ^ 64 = _
    omega
  rw [h4]
  rw [if_neg]
  simp only [Bool.and_eq_true, decide_eq_true_eq, not_and]
  intro _
  show ¬ ((a ||| b : Nat) : Int) ≥ 2 ^ 63
  omega
theorem or_add (a b k : Nat) (hb : b < 2 ^ k) : (a * 2 ^ k) ||| b = a * 2 ^ k + b := by
  rw [Nat.mul_comm]
  exact (Nat.two_pow_add_eq_or_of_lt hb a).symm
theorem numI_nat (z : Nat) (hz : z < 2147483648) (f : Nat → Int) (p : Nat) (h0 : f p = (z : Int) / 16777216 % 256) (h1 : f (p + 1) = (z : Int) / 65536 % 256) (h2 : f (p + 2) = (z : Int) / 256 % 256) (h3 : f (p + 3) = (z : Int) % 256) : numI f p = (z : Int) := by
  unfold numI
  rw [h0, h1, h2, h3]
  rw [show (z : Int) / 16777216 % 256 * 16777216 = (((z / 16777216) * 2 ^ 24 : Nat) : Int) by omega]
  rw [show (z : Int) / 65536 % 256 * 65536 = (((z / 65536 % 256) * 2 ^ 16 : Nat) : Int) by omega]
  rw [show (z : Int) / 256 % 256 * 256 = (((z / 256 % 256) * 2 ^ 8 : Nat) : Int) by omega]
  rw [show (z : Int) % 256 = ((z % 256 : Nat) : Int) by omega]
  rw [bits_nat _ _ (by omega) (by omega), or_add _ _ 24 (by omega)]
  rw [show z / 16777216 * 2 ^ 24 + z / 65536 % 256 * 2 ^ 16 = (z / 65536) * 2 ^ 16 by omega]
  rw [bits_nat _ _ (by omega) (by omega), or_add _ _ 16 (by omega)]
  rw [show z / 65536 * 2 ^ 16 + z / 256 % 256 * 2 ^ 8 = (z / 256) * 2 ^ 8 by omega]
  rw [bits_nat _ _ (by omega) (by omega), or_add _ _ 8 (by omega)]
  omega
/-- A box's size, read where the box begins. -/
theorem numI_box {L A C : List Int} {nm : ByteArray} {d : List Int} {f : Nat → Int} (e : L = A ++ (boxP nm d ++ C)) (hl : (boxP nm d).length < 2147483648) (h : ∀ j, j < 4 → f (A.length + j) = L.getD (A.length + j) 0) : numI f A.length = ((boxP nm d).length : Int) := by
  have hz : ((d.length : Int) + 4 + nm.size) = ((boxP nm d).length : Int) := by rw [boxP_length]; omega
  have hg : ∀ j, j < 4 → L.getD (A.length + j) 0 = (num4 ((boxP nm d).length : Int)).getD j 0 := by
    intro j hj
    have hx : boxP nm d ++ C = num4 ((boxP nm d).length : Int) ++ (strB nm ++ d ++ C) := by
      conv => lhs; unfold boxP
      rw [hz, List.append_assoc]
    simp only [List.getD_eq_getElem?_getD]
    rw [e, List.getElem?_append_right (by omega), hx, List.getElem?_append_left (by simp [num4]; omega), Nat.add_sub_cancel_left]
  have k0 := (h 0 (by omega)).trans (hg 0 (by omega))
  have k1 := (h 1 (by omega)).trans (hg 1 (by omega))
  have k2 := (h 2 (by omega)).trans (hg 2 (by omega))
  have k3 := (h 3 (by omega)).trans (hg 3 (by omega))
  exact numI_nat _ hl f A.length (by simpa [num4] using k0) (by simpa [num4] using k1) (by simpa [num4] using k2) (by simpa [num4] using k3)
/-- Three boxes, the last cut short: the walk stops at the third with 'short'. -/
theorem short_three {A B C : List Int} {na nb nc : ByteArray} {da db dc : List Int} (hA : A = boxP na da) (hB : B = boxP nb db) (hC : C = boxP nc dc) (h4 : na.size = 4 ∧ nb.size = 4 ∧ nc.size = 4) (hs : A.length + B.length + C.length < 100000000) (n : Nat) (h1 : A.length + B.length < n) (h2 : n < A.length + B.length + C.length) {f : Nat → Int} (hf : ∀ i, i < n → f i = (A ++ B ++ C).getD i 0) (k : Nat) (hw : Walked f 0 n k) (hg : ¬ goOn f n (pos f 0 k)) : codeAt f n (pos f 0 k) = 4 := by
  have la : 8 ≤ A.length := by rw [hA, boxP_length]; omega
  have lb : 8 ≤ B.length := by rw [hB, boxP_length]; omega
  have lc : 8 ≤ C.length := by rw [hC, boxP_length]; omega
  have e0 : numI f 0 = (A.length : Int) := by
    have := numI_box (L := A ++ B ++ C) (A := []) (C := B ++ C) (nm := na) (d := da) (f := f) (by rw [hA]; simp) (by rw [← hA]; omega) (fun j hj => hf _ (by simp; omega))
    rw [← hA] at this
    exact this
  have e1 : numI f A.length = (B.length : Int) := by
    have := numI_box (L := A ++ B ++ C) (A := A) (C := C) (nm := nb) (d := db) (f := f) (by rw [hB]; simp) (by rw [← hB]; omega) (fun j hj => hf _ (by omega))
    rw [← hB] at this
    exact this
  have e2 : A.length + B.length + 8 ≤ n → numI f (A.length + B.length) = (C.length : Int) := by
    intro hn
    have := numI_box (L := A ++ B ++ C) (A := A ++ B) (C := []) (nm := nc) (d := dc) (f := f) (by rw [hC]; simp) (by rw [← hC]; omega) (fun j hj => hf _ (by simp; omega))
    rw [← hC, List.length_append] at this
    exact this
  have p1 : pos f 0 1 = A.length := by simp only [pos]; rw [e0]; omega
  have p2 : pos f 0 2 = A.length + B.length := by
    show pos f 0 1 + (numI f (pos f 0 1)).toNat = _
    rw [p1, e1]; omega
  have g0 : goOn f n (pos f 0 0) := ⟨by simp only [pos]; omega, by simp only [pos]; rw [e0]; omega, by simp only [pos]; rw [e0]; omega⟩
  have g1 : goOn f n (pos f 0 1) := by rw [p1]; exact ⟨by omega, by rw [e1]; omega, by rw [e1]; omega⟩
  have ng : ¬ goOn f n (pos f 0 2) := by
    rw [p2]
    rintro ⟨a, b, c⟩
    rw [e2 a] at c
    omega
  have w2 : Walked f 0 n 2 := by
    intro j hj
    rcases (show j = 0 ∨ j = 1 by omega) with rfl | rfl
    · exact g0
    · exact g1
  obtain rfl := hw.unique w2 hg ng
  rw [p2]
  unfold codeAt
  rw [if_neg (by omega)]
  split
  · rfl
  · rw [e2 (by omega), if_neg (by omega)]
end Go.Proofs.Ytkhjkemllgjfmaa

/- The contract of cutroomlaw18.IsomediaShort: it answers true. -/
namespace Go.Proofs.Ytkhjkemllgjfmaa
open Go.RowKit
set_option linter.unusedVariables false
set_option linter.unusedSimpArgs false

theorem lt_light {F : Fl} (h : lightF F = true) {k : Nat} (hk : k < F.nT) : LT (F.T k) := by
  unfold lightF at h
  simp only [Bool.and_eq_true, decide_eq_true_eq, all_range] at h
  have h1 := h.2 k hk
  unfold lightT at h1
  simp only [Bool.and_eq_true, decide_eq_true_eq, all_range] at h1
  have h2 := sizeN_le (S := (F.T k).S) (n := (F.T k).nS) (m := 500) h1.2
  have h3 : (F.T k).nS * 500 ≤ 40 * 500 := Nat.mul_le_mul_right _ h1.1.1.2
  exact ⟨h1.1.1.2, h1.1.1.1.2, h1.1.2, h1.1.1.1.1, by omega⟩
theorem light_six {F : Fl} (h : lightF F = true) : F.nT ≤ 6 := by
  unfold lightF at h
  simp only [Bool.and_eq_true, decide_eq_true_eq] at h
  exact h.1
theorem bytT_of {w : World} {v : Value} {F : Fl} (h : FA w v F) : ∀ i, i < F.nT → BytT (F.T i) := by
  intro i hi
  obtain ⟨c, rfl, ao, cc, rfl, hc, H⟩ := h
  obtain ⟨b, o, c0, c1, c2, c3, c4, e, _, _, _, _, _, k⟩ := H i hi
  refine ⟨fun j hj => ?_, fun j hj x hx => ?_⟩
  · obtain ⟨a, c', _, _, K⟩ := k.k2
    exact (K j hj).2
  · obtain ⟨a, c', _, _, K⟩ := k.k3
    obtain ⟨_, _, y, _, _, _, _, _, hy⟩ := K j hj
    obtain ⟨_, _, _, _, M⟩ := hy
    exact (M x hx).2
theorem putL_shape (F : Fl) : ∃ A B C : List Int, putL F = A ++ B ++ C ∧ A.length = 20 ∧ (∃ d, A = boxP nFtyp d) ∧ (∃ d, B = boxP nMoov d) ∧ (C = boxP nMdat (dataL F.T F.nT)) ∧ B = bytesT (moovT F (firstOf F)) :=
  ⟨ftypB, bytesT (moovT F (firstOf F)), boxP nMdat (dataL F.T F.nT), rfl, ftypB_length, ⟨_, rfl⟩, ⟨_, rfl⟩, rfl, rfl⟩
/-- The bytes less the last seven or fewer: what Boxes says of them. -/
theorem put_cut {F : Fl} (hn : F.nT ≤ 6) (hL : ∀ i, i < F.nT → LT (F.T i)) {m : Nat} (h1 : m < (putL F).length) (h2 : (putL F).length ≤ m + 7) (k : Nat) (hw : Walked (fun i => (putL F).getD i 0) 0 m k) (hg : ¬ goOn (fun i => (putL F).getD i 0) m (pos (fun i => (putL F).getD i 0) 0 k)) : codeAt (fun i => (putL F).getD i 0) m (pos (fun i => (putL F).getD i 0) 0 k) = 4 := by
  obtain ⟨A, B, C, e, hA, ⟨da, ha⟩, ⟨db, hb⟩, hc, hB⟩ := putL_shape F
  have hlb : B.length ≤ 70000 := by rw [hB]; exact moov_len hn hL _
  have hlc : C.length = 8 + (dataL F.T F.nT).length := by rw [hc, boxP_length]; rfl
  have hld : (dataL F.T F.nT).length ≤ F.nT * 20000 := by rw [dataL_length]; exact offN_le hL _ (Nat.le_refl _)
  have hln : (putL F).length = A.length + B.length + C.length := by rw [e, List.length_append, List.length_append]
  exact short_three ha hb hc ⟨rfl, rfl, rfl⟩ (by omega) m (by omega) (by omega) (fun i _ => by rw [e]) k hw hg
theorem put_len {F : Fl} (hn : F.nT ≤ 6) (hL : ∀ i, i < F.nT → LT (F.T i)) : 28 ≤ (putL F).length ∧ (putL F).length ≤ 1000000 := by
  obtain ⟨A, B, C, e, hA, ⟨da, ha⟩, ⟨db, hb⟩, hc, hB⟩ := putL_shape F
  have hlb : B.length ≤ 70000 := by rw [hB]; exact moov_len hn hL _
  have hlc : C.length = 8 + (dataL F.T F.nT).length := by rw [hc, boxP_length]; rfl
  have hld : (dataL F.T F.nT).length ≤ F.nT * 20000 := by rw [dataL_length]; exact offN_le hL _ (Nat.le_refl _)
  have hln : (putL F).length = A.length + B.length + C.length := by rw [e, List.length_append, List.length_append]
  omega

set_option maxRecDepth 100000 in
set_option maxHeartbeats 4000000 in
theorem law_short (v : Value) (F : Fl) (kk : Int) (w : World) (hv : FA w v F) (hm : F.nT ≤ 9223372036854775807) :
    Calls Try.prog 9 #[v, .int .i64 kk] w fun e w' => e = .returned (.bool true) ∧ Below w.heap.size w w' := by
  have hv0 := hv
  obtain ⟨ts, rfl, hts⟩ := hv
  obtain ⟨ao, c, rfl⟩ := hts.shape
  have HV0 := Lib.hid hv0
  clear hts hv0
  go_enter Try.func9, Try.ntmps9
  go_wp2_with fail
  obtain ⟨w1, hw⟩ : ∃ x, x = w.alloc (.cells #[.int .i64 F.sc, .slice ao F.nT c] 37) := ⟨_, rfl⟩
  rw [← hw]
  have hb1 : Below w.heap.size w w1 := by rw [hw]; exact below_box _ _
  have xf : B2 w1 w.heap.size (.int .i64 F.sc) (.slice ao F.nT c) := by
    rw [hw]; exact B2.of_alloc w _ _ _ 37 rfl
  obtain ⟨blf, hblf⟩ : ∃ z, z = w.heap.size := ⟨_, rfl⟩
  rw [← hblf] at xf ⊢
  have XF := Lib.hid xf
  have HB := Lib.hid hb1
  clear hw hb1 xf hblf
  refine (light_any _ F _ (HV0.out.below HB.out) hm).mono ?_
  rintro e w2 ⟨rfl, hb⟩
  replace XF := Lib.hid (XF.out.far hb XF.out.lt)
  replace HB := Lib.hid (HB.out.trans (hb.mono HB.out.size))
  have y0 := XF.out.k0
  have y1 := XF.out.k1
  clear hb
  cases hl : lightF F
  · go_wp2_with fail
    refine (awake_any _).mono ?_
    rintro e wz ⟨rfl, hb5⟩
    have HB5 := Lib.hid hb5
    clear hb5
    go_wp2_with fail
    go_ret
    exact ⟨rfl, HB.out.trans (HB5.out.mono HB.out.size)⟩
  have HL := Lib.hid hl
  go_wp2_with fail
  refine (rvalidF_any _ F w2 (HV0.out.below HB.out) (by omega)).mono ?_
  rintro e w3 ⟨rfl, hb⟩
  replace XF := Lib.hid (XF.out.far hb XF.out.lt)
  replace HB := Lib.hid (HB.out.trans (hb.mono HB.out.size))
  replace y0 := XF.out.k0
  replace y1 := XF.out.k1
  clear hb hl
  cases hok : okFl F
  · go_wp2_with fail
    refine (awake_any _).mono ?_
    rintro e wz ⟨rfl, hb5⟩
    have HB5 := Lib.hid hb5
    clear hb5
    go_wp2_with fail
    go_ret
    exact ⟨rfl, HB.out.trans (HB5.out.mono HB.out.size)⟩
  have HOK := Lib.hid hok
  clear hok
  by_cases hneg : kk < 0
  · go_wp2_with fail
    refine (awake_any _).mono ?_
    rintro e wz ⟨rfl, hb5⟩
    have HB5 := Lib.hid hb5
    clear hb5
    go_wp2_with fail
    go_ret
    exact ⟨rfl, HB.out.trans (HB5.out.mono HB.out.size)⟩
  obtain ⟨k, rfl⟩ := Int.eq_ofNat_of_zero_le (show 0 ≤ kk by omega)
  clear hneg
  have hn6 := light_six HL.out
  have HLT := Lib.hid (fun i hi => lt_light HL.out (k := i) hi)
  have HV := Lib.hid (HV0.out.below HB.out)
  go_wp2_with fail
  refine (given_any _ F w3 HV.out (by omega) (fun i hi => by have := (HLT.out i hi).s; have := (HLT.out i hi).e; omega)).mono ?_
  rintro e w4 ⟨r, rfl, hv4, hb⟩
  replace HB := Lib.hid (HB.out.trans (hb.mono HB.out.size))
  have HV4 := Lib.hid hv4
  clear hb hv4 y0 y1 XF
  go_wp2_with fail
  refine (put_any r F w4 HV4.out HOK.out hn6 HLT.out).mono ?_
  rintro e w5 ⟨r5, rfl, hbl, hb⟩
  replace HB := Lib.hid (HB.out.trans (hb.mono HB.out.size))
  clear hb
  have HBY := Lib.hid (Byt.put (bytT_of HV0.out))
  have HPL := Lib.hid (fun m h1 h2 => put_cut hn6 HLT.out (m := m) h1 h2)
  have hlen := put_len hn6 HLT.out
  obtain ⟨L, hL⟩ : ∃ L, L = putL F := ⟨_, rfl⟩
  rw [← hL] at hbl HBY HPL hlen
  clear hL
  obtain ⟨ra, rc, rfl, hrc, hcell⟩ := hbl
  have hxL : L[0]? = some L[0] := List.getElem?_eq_getElem (by omega)
  obtain ⟨rb, ro, rfl, _⟩ := hcell 0 _ hxL
  have HC5 := Lib.hid hcell
  clear hcell hxL
  obtain ⟨N, hN⟩ : ∃ N, N = L.length := ⟨_, rfl⟩
  rw [← hN] at hlen hrc HPL ⊢
  have HN := Lib.hid hN
  clear hN
  have hd20 : decide (N < 20) = false := by simp; omega
  go_wp2_with fail
  have hcb : BA w5 (.slice (some ⟨rb, ro, none⟩) (N - 1 - k % 7) rc) (N - 1 - k % 7) (fun i => L.getD i 0) := by
    refine ⟨_, rc, rfl, by omega, fun i hi => ?_⟩
    have hil : i < L.length := by have := HN.out; omega
    have hx : L[i]? = some L[i] := List.getElem?_eq_getElem hil
    have hy : L.getD i 0 = L[i] := by rw [List.getD_eq_getElem?_getD, hx]; rfl
    obtain ⟨b, o, e, h⟩ := HC5.out i _ hx
    refine ⟨⟨b, o, e, by show _ = some (Value.int .u8 (L.getD i 0)); rw [hy]; exact h⟩, ?_⟩
    show 0 ≤ L.getD i 0 ∧ L.getD i 0 < 256
    rw [hy]
    exact HBY.out _ (List.getElem_mem _)
  refine (take_short _ (N - 1 - k % 7) (fun i => L.getD i 0) w5 hcb (by omega) (HPL.out _ (by omega) (by omega))).mono ?_
  rintro e w6 ⟨rfl, hb⟩
  replace HB := Lib.hid (HB.out.trans (hb.mono HB.out.size))
  clear hb hcb HPL HBY HC5 HN
  go_wp2_with fail
  have hb7 : Below w.heap.size w (w6.alloc (.cells #[.int .i64 0, .slice none 0 0] 56)) := HB.out.trans ((below_box _ _).mono HB.out.size)
  refine (awake_any _).mono ?_
  rintro e w7 ⟨rfl, hb⟩
  have HB7 := Lib.hid (hb7.trans (hb.mono hb7.size))
  clear hb hb7
  go_wp2_with fail
  go_ret
  exact ⟨rfl, HB7.out⟩
end Go.Proofs.Ytkhjkemllgjfmaa

/- The law IsomediaPuts answers true for every input. -/
namespace Go.Proofs.Ytkhjkemllgjfmaa
open Go.RowKit
set_option linter.unusedVariables false
set_option linter.unusedSimpArgs false

def errF (F : Fl) : Int := if okFl F = true then 0 else 1
def outF (F : Fl) : List Int := if okFl F = true then putL F else []
theorem bl_nil (w : World) : BL w (.slice none 0 0) [] := ⟨none, 0, rfl, Nat.le_refl _, fun i u h => by simp at h⟩
theorem put_both (v : Value) (F : Fl) (w : World) (hv : FA w v F) (hn : F.nT ≤ 6) (hL : ∀ i, i < F.nT → LT (F.T i)) :
    Calls Try.prog 21 #[v] w fun e w' => ∃ r, e = .returned (.tuple #[r, .int .i64 (errF F)]) ∧ BL w' r (outF F) ∧ Below w.heap.size w w' := by
  unfold errF outF
  by_cases h : okFl F = true
  · rw [if_pos h, if_pos h]; exact put_any v F w hv h hn hL
  · rw [if_neg h, if_neg h]
    refine (put_bad v F w hv (by simpa using h) (by omega)).mono ?_
    rintro e w' ⟨rfl, hb⟩
    exact ⟨_, rfl, bl_nil w', hb⟩
theorem rput_both (v : Value) (F : Fl) (w : World) (hv : FA w v F) (hn : F.nT ≤ 6) (hL : ∀ i, i < F.nT → LT (F.T i)) :
    Calls Try.prog 22 #[v] w fun e w' => ∃ r, e = .returned (.tuple #[r, .int .i64 (errF F)]) ∧ BL w' r (outF F) ∧ Below w.heap.size w w' := by
  unfold errF outF
  by_cases h : okFl F = true
  · rw [if_pos h, if_pos h, put_ref]; exact rput_any v F w hv h hn hL
  · rw [if_neg h, if_neg h]
    refine (rput_bad v F w hv (by simpa using h) (by omega)).mono ?_
    rintro e w' ⟨rfl, hb⟩
    exact ⟨_, rfl, bl_nil w', hb⟩

set_option maxRecDepth 100000 in
set_option maxHeartbeats 4000000 in
theorem law_puts (v : Value) (F : Fl) (w : World) (hv : FA w v F) (hm : F.nT ≤ 9223372036854775807) :
    Calls Try.prog 7 #[v] w fun e w' => e = .returned (.bool true) ∧ Below w.heap.size w w' := by
  have hv0 := hv
  obtain ⟨ts, rfl, hts⟩ := hv
  obtain ⟨ao, c, rfl⟩ := hts.shape
  have HV0 := Lib.hid hv0
  clear hts hv0
  go_enter Try.func7, Try.ntmps7
  go_wp2_with fail
  obtain ⟨w1, hw⟩ : ∃ x, x = w.alloc (.cells #[.int .i64 F.sc, .slice ao F.nT c] 37) := ⟨_, rfl⟩
  rw [← hw]
  have hb1 : Below w.heap.size w w1 := by rw [hw]; exact below_box _ _
  have xf : B2 w1 w.heap.size (.int .i64 F.sc) (.slice ao F.nT c) := by
    rw [hw]; exact B2.of_alloc w _ _ _ 37 rfl
  obtain ⟨blf, hblf⟩ : ∃ z, z = w.heap.size := ⟨_, rfl⟩
  rw [← hblf] at xf ⊢
  have XF := Lib.hid xf
  have HB := Lib.hid hb1
  clear hw hb1 xf hblf
  refine (light_any _ F _ (HV0.out.below HB.out) hm).mono ?_
  rintro e w2 ⟨rfl, hb⟩
  replace XF := Lib.hid (XF.out.far hb XF.out.lt)
  replace HB := Lib.hid (HB.out.trans (hb.mono HB.out.size))
  have y0 := XF.out.k0
  have y1 := XF.out.k1
  clear hb
  cases hl : lightF F
  · go_wp2_with fail
    go_ret
    exact ⟨rfl, HB.out⟩
  have HL := Lib.hid hl
  clear hl
  have hn6 := light_six HL.out
  have HLT := Lib.hid (fun i hi => lt_light HL.out (k := i) hi)
  have HV := Lib.hid (HV0.out.below HB.out)
  go_wp2_with fail
  refine (given_any _ F _ HV.out (by omega) (fun i hi => by have := (HLT.out i hi).s; have := (HLT.out i hi).e; omega)).mono ?_
  rintro e w4 ⟨r, rfl, hv4, hb⟩
  replace HB := Lib.hid (HB.out.trans (hb.mono HB.out.size))
  replace XF := Lib.hid (XF.out.far hb XF.out.lt)
  have HV4 := Lib.hid hv4
  clear hb hv4 y0 y1
  go_wp2_with fail
  refine (put_both r F w4 HV4.out hn6 HLT.out).mono ?_
  rintro e w5 ⟨r5, rfl, hbl, hb⟩
  replace HB := Lib.hid (HB.out.trans (hb.mono HB.out.size))
  replace XF := Lib.hid (XF.out.far hb XF.out.lt)
  replace HV := Lib.hid (HV0.out.below HB.out)
  obtain ⟨L, hL⟩ : ∃ L, L = outF F := ⟨_, rfl⟩
  rw [← hL] at hbl
  obtain ⟨E, hE⟩ : ∃ E, E = errF F := ⟨_, rfl⟩
  rw [← hE]
  have HEE := Lib.hid hE
  have HLL := Lib.hid hL
  have H5 := Lib.hid hbl
  obtain ⟨a5, c5, h5⟩ := hbl.shape
  subst h5
  clear hb hbl hL hE
  have y0 := XF.out.k0
  have y1 := XF.out.k1
  go_wp2_with fail
  refine (rput_both _ F w5 HV.out hn6 HLT.out).mono ?_
  rintro e w6 ⟨r6, rfl, hbl, hb⟩
  rw [← HLL.out] at hbl
  rw [← HEE.out]
  replace HB := Lib.hid (HB.out.trans (hb.mono HB.out.size))
  replace XF := Lib.hid (XF.out.far hb XF.out.lt)
  replace H5 := Lib.hid (H5.out.below hb)
  have H6 := Lib.hid hbl
  obtain ⟨a6, c6, h6⟩ := hbl.shape
  subst h6
  clear hb hbl y0 y1 HLL HEE
  go_upto_region 5 with fail
  refine Plan.wp_region_plan (fun w' => B2 w' blf (.int .i64 F.sc) (.slice ao F.nT c)) (([0].map (·, false)) ++ (([1, 2, 5].map (·, true)) ++ (([3, 4, 6].map (·, false)) ++ (([7, 8, 9, 10, 11, 12, 13, 14, 15, 16].map (·, true)) ++ (([17].map (·, false)) ++ ([18, 19].map (·, true))))))) (by kernel_rfl) (by kernel_rfl) (by kernel_rfl) (XF.out.far (Below.refl _ _).drew XF.out.lt) ?_
  obtain ⟨wd, hwd⟩ : ∃ x, x = w6.drew := ⟨_, rfl⟩
  rw [← hwd]
  have hdr : Below w6.heap.size w6 wd := by rw [hwd]; exact (Below.refl _ _).drew
  replace XF := Lib.hid (XF.out.far hdr XF.out.lt)
  replace HB := Lib.hid (HB.out.trans (hdr.mono HB.out.size))
  replace H5 := Lib.hid (H5.out.below hdr)
  replace H6 := Lib.hid (H6.out.below hdr)
  clear hwd hdr
  refine Plan.plan_of_effect rfl (fun K hK => ?_)
  go_wp2_with fail
  refine (awake_any _).mono ?_
  rintro e wa ⟨rfl, hb⟩
  replace XF := Lib.hid (XF.out.far hb XF.out.lt)
  replace HB := Lib.hid (HB.out.trans (hb.mono HB.out.size))
  replace H5 := Lib.hid (H5.out.below hb)
  replace H6 := Lib.hid (H6.out.below hb)
  clear hb
  go_wp2_with fail
  refine ⟨XF.out, ?_⟩
  refine' Plan.plan_seg _ [1, 2, 5] (([3, 4, 6].map (·, false)) ++ (([7, 8, 9, 10, 11, 12, 13, 14, 15, 16].map (·, true)) ++ (([17].map (·, false)) ++ ([18, 19].map (·, true))))) (by kernel_rfl) (by kernel_rfl) rfl (by exact XF.out) (fun wx hS => ?_) ?_
  rotate_left
  · have z0 := hS.k0
    have z1 := hS.k1
    clear hS
    go_light
    iterate 3 (apply Plan.seg_pick; rfl; intro K hK; go_wp)
    exact Plan.seg_nil
  refine Plan.plan_of_effect rfl (fun K hK => ?_)
  go_wp2_with fail
  refine (given_any _ F wa (HV0.out.below HB.out) (by omega) (fun i hi => by have := (HLT.out i hi).s; have := (HLT.out i hi).e; omega)).mono ?_
  rintro e wb ⟨r, rfl, hv4, hb⟩
  replace XF := Lib.hid (XF.out.far hb XF.out.lt)
  replace HB := Lib.hid (HB.out.trans (hb.mono HB.out.size))
  replace H5 := Lib.hid (H5.out.below hb)
  replace H6 := Lib.hid (H6.out.below hb)
  have HVg := Lib.hid hv4
  clear hb hv4 HV4
  go_wp2_with fail
  refine ⟨XF.out, ?_⟩
  refine Plan.plan_of_effect rfl (fun K hK => ?_)
  go_wp2_with fail
  refine (validF_any r F wb HVg.out (by omega)).mono ?_
  rintro e wc ⟨rfl, hb⟩
  replace XF := Lib.hid (XF.out.far hb XF.out.lt)
  replace HB := Lib.hid (HB.out.trans (hb.mono HB.out.size))
  replace H5 := Lib.hid (H5.out.below hb)
  replace H6 := Lib.hid (H6.out.below hb)
  clear hb HVg
  go_wp2_with fail
  refine ⟨XF.out, ?_⟩
  refine Plan.plan_of_effect rfl (fun K hK => ?_)
  go_wp2_with fail
  refine (rvalidF_any _ F wc (HV0.out.below HB.out) (by omega)).mono ?_
  rintro e we ⟨rfl, hb⟩
  replace XF := Lib.hid (XF.out.far hb XF.out.lt)
  replace HB := Lib.hid (HB.out.trans (hb.mono HB.out.size))
  replace H5 := Lib.hid (H5.out.below hb)
  replace H6 := Lib.hid (H6.out.below hb)
  clear hb
  obtain ⟨ok, hok⟩ : ∃ b, b = okFl F := ⟨_, rfl⟩
  rw [← hok]
  clear hok
  go_wp2_with fail
  refine ⟨XF.out, ?_⟩
  refine' Plan.plan_seg _ [7, 8, 9, 10, 11, 12, 13, 14, 15, 16] (([17].map (·, false)) ++ ([18, 19].map (·, true))) (by kernel_rfl) (by kernel_rfl) rfl (by exact XF.out) (fun wx hS => ?_) ?_
  rotate_left
  · clear hS
    go_light
    iterate 10 (apply Plan.seg_pick; rfl; intro K hK; go_wp)
    exact Plan.seg_nil
  refine Plan.plan_of_effect rfl (fun K hK => ?_)
  go_wp2_with fail
  refine (same_any _ _ L we H5.out H6.out).mono ?_
  rintro e wf ⟨rfl, hb⟩
  replace XF := Lib.hid (XF.out.far hb XF.out.lt)
  replace HB := Lib.hid (HB.out.trans (hb.mono HB.out.size))
  replace H5 := Lib.hid (H5.out.below hb)
  replace H6 := Lib.hid (H6.out.below hb)
  clear hb
  go_wp2_with fail
  refine ⟨XF.out, ?_⟩
  refine' Plan.plan_seg _ [18, 19] [] (by kernel_rfl) (by kernel_rfl) rfl (by exact XF.out) (fun wx hS => ?_) ?_
  rotate_left
  · clear hS
    go_light
    iterate 2 (apply Plan.seg_pick; rfl; intro K hK; go_wp)
    exact Plan.seg_nil
  refine Plan.plan_done ?_
  go_wp2_with fail
  go_ret
  exact ⟨ret_bool (by simp), HB.out⟩
end Go.Proofs.Ytkhjkemllgjfmaa

/- Aid for the rows: arguments that stay as they were; bytes read off an argument. -/
namespace Go.Proofs.Ytkhjkemllgjfmaa
open Go.ChangeShapes Go.WideShapes Go.ChangeAt Go.RowKit
set_option linter.unusedVariables false

theorem laid_out : laidOutB Try.prog = true := by kernel_rfl
theorem cells3 : Try.prog.cellsOf 3 = 1 := by kernel_rfl
theorem cells5 : Try.prog.cellsOf 5 = 1 := by kernel_rfl
section
variable {P : Program} {H : Type} {enc : TypeId × Value → H}
/-- The row's post where all that was there when the call began is as it was. -/
theorem post_of_below {f : Func} {s : ChangeSpec} {apart fresh handsOn again : Bool} {W W' : World} {args : Array Value} {v : Value} {ds gs : List (DataW H)} {before pa pv : List MemPlace}
    (hW : DataW.Whole enc P f.params.toList s.vars apart W args.toList ds gs before)
    (hres : ∀ (b : Nat) (sp : Nat → Bool) (hd : Bool), DataW.TrodAll enc P W' b sp hd f.resultTypes.toList (v.resultList f.resultTypes.size) (s.fn H (ds ++ gs)).results [])
    (hargs : ∀ sp : Nat → Bool, (∀ p ∈ before, sp p.block = true) → DataW.TrodAll enc P W' 0 sp true f.params.toList args.toList (s.fn H (ds ++ gs)).args pa)
    (hvars : ∀ sp : Nat → Bool, (∀ p ∈ before, sp p.block = true) → DataW.TrodVars enc P W' sp s.vars (s.fn H (ds ++ gs)).vars pv)
    (hps : before = pa ++ pv) (hb : Below W.heap.size W W')
    (hok : ∀ (j : Nat) (t : TypeId) (r : Value), f.resultTypes[j]? = some t → (v.resultList f.resultTypes.size)[j]? = some r → Value.okWide P W' .any 0 t r) :
    s.post enc P f apart fresh handsOn again W args v W' := by
  have old : ∀ p ∈ before, (fun b => decide (b < W.heap.size)) p.block = true := fun p hp => by simpa using hW.lt p hp
  have kept : W.keptBut W' (· ∈ before) := hb.frame _
  refine ⟨ds, gs, before, [], pa, pv, hW, hres _ _ _, hargs _ old, hvars _ old, World.keptBut_mono (fun p hp => ⟨hp, by rw [hps, List.mem_append] at hp; exact Or.inr hp⟩) kept, fun _ => ?_⟩
  have lt := hW.lt
  obtain ⟨_, _, _, _, _, hz, hn⟩ := hW
  refine ⟨hok, _, _, ([] ++ pa) ++ pv, ⟨[] ++ pa, pv, trodAll_append (hargs _ (fun _ _ => rfl)) (hres _ _ _), hvars _ (fun _ _ => rfl), rfl, ?_, ?_⟩, ?_⟩
  · intro b off hp
    have hp' : MemPlace.cell b off ∈ before := by rw [hps]; simpa using hp
    rw [hb.frozen (p := ⟨b, off, none⟩) (lt _ hp')]
    exact hz b off hp'
  · intro ha
    have h := hn ha
    rw [hps] at h
    simpa using h
  · intro p hp _
    rw [hps]
    simpa using hp

end
section
variable {H : Type} {enc : TypeId × Value → H}
theorem trodAll_stays {P : Program} (hl : laidOutB P = true) {W W' : World} {sp : Nat → Bool} (hb : Below W.heap.size W W') : ∀ {ts : List TypeId} {vs : List Value} {ds : List (DataW H)} {ps : List MemPlace}, (ts.all fun t => P.readableRec t && decide (t < P.types.size)) = true →
    DataW.TrodAll enc P W 0 (fun _ => true) true ts vs ds ps → (∀ x ∈ ps, x.block < W.heap.size) → (∀ x ∈ ps, sp x.block = true) → DataW.TrodAll enc P W' 0 sp true ts vs ds ps := by
  intro ts
  induction ts with
  | nil =>
    intro vs ds ps _ h _ _
    cases vs with
    | nil => cases ds with
      | nil => exact h
      | cons => exact h.elim
    | cons => exact h.elim
  | cons t ts ih =>
    intro vs ds ps hr h hlt hs
    cases vs with
    | nil => exact h.elim
    | cons v vs => cases ds with
      | nil => exact h.elim
      | cons d ds =>
        obtain ⟨p, q, h1, h2, rfl⟩ := h
        simp only [List.all_cons, Bool.and_eq_true, decide_eq_true_eq] at hr
        exact ⟨p, q, WideElems.Trod_stays hl hr.1.1 hr.1.2 h1 (fun x hx => hb.same (hlt x (List.mem_append_left _ hx))) (fun x hx => hs x (List.mem_append_left _ hx)),
          ih hr.2 h2 (fun x hx => hlt x (List.mem_append_right _ hx)) (fun x hx => hs x (List.mem_append_right _ hx)), rfl⟩


set_option maxRecDepth 100000 in
theorem bytes_of {W : World} {n : Nat} {c : Value} {y : DataW H × List MemPlace} (h : DataW.trod enc Try.prog W 0 (fun _ => true) true n 22 [c] = some y) : ∃ m f, BA W c m f ∧ m ≤ maxLen := by
  rcases open_ints Try.underlying22 Try.underlying5 cells5 h with ⟨hcs, hx⟩ | ⟨a, len', cap', zs, hcs, _, hl, hm, hz, hx, hcell, hwz⟩
  · obtain rfl : c = .slice none 0 0 := by simpa using hcs
    exact ⟨0, fun _ => 0, ⟨none, 0, rfl, Nat.le_refl _, fun i hi => absurd hi (Nat.not_lt_zero i)⟩, Nat.zero_le _⟩
  · obtain rfl : c = .slice (some a) len' cap' := by simpa using hcs
    simp only [if_true] at hz
    refine ⟨len', fun i => zs.getD i 0, ⟨_, _, rfl, hl, fun i hi => ?_⟩, Nat.le_trans hl hm⟩
    obtain ⟨ab, ao, spot⟩ := a
    have hspot : spot = none := by simpa [Addr.add] using World.cell?_spot (hcell 0 (by omega))
    subst hspot
    have hc := hcell i (by omega)
    rw [Addr.add_lit] at hc
    refine ⟨⟨ab, ao, rfl, hc⟩, ?_⟩
    have hb := hwz (zs.getD i 0) (by
      rw [List.getD_eq_getElem?_getD, List.getElem?_eq_getElem (show i < zs.length by omega)]
      exact List.getElem_mem _)
    simp only [Lit.wf, IntKind.min, IntKind.max, IntKind.signed, IntKind.bits] at hb
    simp at hb
    exact ⟨hb.1, by have := hb.2; show zs.getD i 0 < 256; rw [List.getD_eq_getElem?_getD]; omega⟩


set_option maxRecDepth 100000 in
/-- Bytes that came in. -/
theorem open_bytes {W : World} {base : Nat} {v : Value} {d : DataW H} {p : List MemPlace} (hval : Value.okWide Try.prog W .any base 22 v) (h : DataW.Trod enc Try.prog W 0 (fun _ => true) true 22 v d p) : ∃ m f, BA W v m f ∧ m ≤ maxLen := by
  obtain ⟨a1, len, cap, rfl⟩ := okWide_slice Try.underlying22 hval
  obtain ⟨fuel, hf⟩ := h
  simp only [Value.cells] at hf
  exact bytes_of hf

end
end Go.Proofs.Ytkhjkemllgjfmaa

/- Aid for the rows: a media file read off an argument. -/
namespace Go.Proofs.Ytkhjkemllgjfmaa
open Go.ChangeShapes Go.WideShapes Go.ChangeAt Go.RowKit
set_option linter.unusedVariables false

theorem cellsT9 : Try.prog.cellsOf 9 = 1 := by kernel_rfl
theorem cellsT2 : Try.prog.cellsOf 2 = 1 := by kernel_rfl
theorem cellsT4 : Try.prog.cellsOf 4 = 1 := by kernel_rfl
theorem cellsT22 : Try.prog.cellsOf 22 = 1 := by kernel_rfl
theorem cellsT35 : Try.prog.cellsOf 35 = 1 := by kernel_rfl
theorem cellsT45 : Try.prog.cellsOf 45 = 1 := by kernel_rfl
theorem cellsT46 : Try.prog.cellsOf 46 = 1 := by kernel_rfl
theorem cellsT37 : Try.prog.cellsOf 37 = 2 := by kernel_rfl
theorem cellsT48 : Try.prog.cellsOf 48 = 5 := by kernel_rfl
theorem cellsT61 : Try.prog.cellsOf 61 = 2 := by kernel_rfl
theorem cellsT73 : Try.prog.cellsOf 73 = 4 := by kernel_rfl

section
variable {H : Type} {enc : TypeId × Value → H}

/-- A slice whose elements have k cells each. -/
theorem slice_at {W : World} {n : Nat} {c : Value} {t e : TypeId} {k : Nat} {y : DataW H × List MemPlace} (ht : Try.prog.underlying t = some (.slice e)) (hC : Try.prog.cellsOf e = k) (hk : 0 < k) (h : DataW.trod enc Try.prog W 0 (fun _ => true) true n t [c] = some y) :
    ∃ ao len cap, c = .slice ao len cap ∧ len ≤ cap ∧ len ≤ maxLen ∧ ∀ i, i < len → ∃ b o cs' n' y', ao = some ⟨b, o, none⟩ ∧ cs'.length = k ∧ (∀ j, j < k → W.cell? ⟨b, o + i * k + j, none⟩ = cs'[j]?) ∧ DataW.trod enc Try.prog W 0 (fun _ => true) true n' e cs' = some y' := by
  rcases Go.Deep.open_slice ht h with ⟨hcs, _⟩ | ⟨a, len, cap, m, n', D, Pl, hcs, _, hl, hm, hmm, _, hi⟩
  · obtain rfl : c = .slice none 0 0 := by simpa using hcs
    exact ⟨none, 0, 0, rfl, Nat.le_refl _, Nat.zero_le _, fun i hi => absurd hi (Nat.not_lt_zero i)⟩
  · obtain rfl : c = .slice (some a) len cap := by simpa using hcs
    simp only [if_true] at hmm
    subst hmm
    refine ⟨_, len, m, rfl, hl, Nat.le_trans hl hm, fun i hil => ?_⟩
    obtain ⟨ab, ao, spot⟩ := a
    have hspot : spot = none := by
      obtain ⟨cs0, hc0, _⟩ := hi 0 (by omega)
      rw [hC] at hc0
      obtain ⟨_, hl0, hat0⟩ := World.cells?_some hc0
      have h0 := hat0 0 hk
      rw [List.getElem?_eq_getElem (by omega)] at h0
      have := World.cell?_spot h0
      simpa [Addr.add] using this
    subst hspot
    obtain ⟨cs', hc', ht'⟩ := hi i (by omega)
    rw [hC] at hc'
    obtain ⟨_, hl', hat⟩ := World.cells?_some hc'
    refine ⟨ab, ao, cs', n', _, rfl, hl', fun j hj => ?_, ht'⟩
    have := hat j hj
    rw [Addr.add_lit, Addr.add_lit] at this
    exact this

set_option maxRecDepth 100000 in
theorem samples_of {W : World} {n : Nat} {c : Value} {y : DataW H × List MemPlace} (h : DataW.trod enc Try.prog W 0 (fun _ => true) true n 45 [c] = some y) : ∃ m S, SA W c m S ∧ m ≤ maxLen := by
  obtain ⟨ao, len, cap, rfl, hl, hm, hi⟩ := slice_at Try.underlying45 cellsT73 (by decide) h
  have key : ∀ i : Nat, ∃ s : Sm, i < len → ∃ b o x, ao = some ⟨b, o, none⟩ ∧ W.cell? ⟨b, o + i * 4, none⟩ = some x ∧ W.cell? ⟨b, o + i * 4 + 1, none⟩ = some (.int .i64 s.dur) ∧ W.cell? ⟨b, o + i * 4 + 2, none⟩ = some (.int .i64 s.shift) ∧ W.cell? ⟨b, o + i * 4 + 3, none⟩ = some (.bool s.sync) ∧ BA W x s.n s.D := by
    intro i
    by_cases hil : i < len
    · obtain ⟨b, o, cs', n', y', rfl, hlen, hat, ht⟩ := hi i hil
      obtain ⟨xs, n2, _, hx, _, hxl, hg⟩ := DataW.trod_struct Try.underlying73 ht
      match cs', hlen with
      | [c0, c1, c2, c3], _ =>
        match xs, hxl with
        | [y0, y1, y2, y3], _ =>
          have h0 := hg 0 _ rfl
          have h1 := hg 1 _ rfl
          have h2 := hg 2 _ rfl
          have h3 := hg 3 _ rfl
          simp [cellsT22, cellsT2, cellsT4] at h0 h1 h2 h3
          obtain ⟨a, e1, _⟩ := DataW.trod_int Try.underlying2 h1
          obtain ⟨b', e2, _⟩ := DataW.trod_int Try.underlying2 h2
          obtain ⟨d, e3, _⟩ := DataW.trod_bool Try.underlying4 h3
          obtain rfl : c1 = .int .i64 a := by simpa using e1
          obtain rfl : c2 = .int .i64 b' := by simpa using e2
          obtain rfl : c3 = .bool d := by simpa using e3
          obtain ⟨m0, f0, b0, _⟩ := bytes_of h0
          exact ⟨⟨m0, f0, a, b', d⟩, fun _ => ⟨b, o, c0, rfl, hat 0 (by decide), hat 1 (by decide), hat 2 (by decide), hat 3 (by decide), b0⟩⟩
    · exact ⟨⟨0, fun _ => 0, 0, 0, false⟩, fun h => absurd h hil⟩
  exact ⟨len, fun i => Classical.choose (key i), ⟨ao, cap, rfl, hl, fun i hil => Classical.choose_spec (key i) hil⟩, hm⟩

set_option maxRecDepth 100000 in
theorem edits_of {W : World} {n : Nat} {c : Value} {y : DataW H × List MemPlace} (h : DataW.trod enc Try.prog W 0 (fun _ => true) true n 46 [c] = some y) : ∃ m S, EA W c m S ∧ m ≤ maxLen := by
  obtain ⟨ao, len, cap, rfl, hl, hm, hi⟩ := slice_at Try.underlying46 cellsT61 (by decide) h
  have key : ∀ i : Nat, ∃ s : Ed, i < len → ∃ b o, ao = some ⟨b, o, none⟩ ∧ W.cell? ⟨b, o + i * 2, none⟩ = some (.int .i64 s.dur) ∧ W.cell? ⟨b, o + i * 2 + 1, none⟩ = some (.int .i64 s.time) := by
    intro i
    by_cases hil : i < len
    · obtain ⟨b, o, cs', n', y', rfl, hlen, hat, ht⟩ := hi i hil
      obtain ⟨xs, n2, _, hx, _, hxl, hg⟩ := DataW.trod_struct Try.underlying61 ht
      match cs', hlen with
      | [c0, c1], _ =>
        match xs, hxl with
        | [y0, y1], _ =>
          have h0 := hg 0 _ rfl
          have h1 := hg 1 _ rfl
          simp [cellsT2] at h0 h1
          obtain ⟨a, e0, _⟩ := DataW.trod_int Try.underlying2 h0
          obtain ⟨b', e1, _⟩ := DataW.trod_int Try.underlying2 h1
          obtain rfl : c0 = .int .i64 a := by simpa using e0
          obtain rfl : c1 = .int .i64 b' := by simpa using e1
          exact ⟨⟨a, b'⟩, fun _ => ⟨b, o, rfl, hat 0 (by decide), hat 1 (by decide)⟩⟩
    · exact ⟨⟨0, 0⟩, fun h => absurd h hil⟩
  exact ⟨len, fun i => Classical.choose (key i), ⟨ao, cap, rfl, hl, fun i hil => Classical.choose_spec (key i) hil⟩, hm⟩

set_option maxRecDepth 100000 in
theorem tracks_of {W : World} {n : Nat} {c : Value} {y : DataW H × List MemPlace} (h : DataW.trod enc Try.prog W 0 (fun _ => true) true n 35 [c] = some y) : ∃ m T, TSA W c m T ∧ m ≤ maxLen := by
  obtain ⟨ao, len, cap, rfl, hl, hm, hi⟩ := slice_at Try.underlying35 cellsT48 (by decide) h
  have key : ∀ i : Nat, ∃ T : Tr, i < len → ∃ b o c0 c1 c2 c3 c4, ao = some ⟨b, o, none⟩ ∧ W.cell? ⟨b, o + i * 5, none⟩ = some c0 ∧ W.cell? ⟨b, o + i * 5 + 1, none⟩ = some c1 ∧ W.cell? ⟨b, o + i * 5 + 2, none⟩ = some c2 ∧ W.cell? ⟨b, o + i * 5 + 3, none⟩ = some c3 ∧ W.cell? ⟨b, o + i * 5 + 4, none⟩ = some c4 ∧ TC W c0 c1 c2 c3 c4 T := by
    intro i
    by_cases hil : i < len
    · obtain ⟨b, o, cs', n', y', rfl, hlen, hat, ht⟩ := hi i hil
      obtain ⟨xs, n2, _, hx, _, hxl, hg⟩ := DataW.trod_struct Try.underlying48 ht
      match cs', hlen with
      | [c0, c1, c2, c3, c4], _ =>
        match xs, hxl with
        | [y0, y1, y2, y3, y4], _ =>
          have h0 := hg 0 _ rfl
          have h1 := hg 1 _ rfl
          have h2 := hg 2 _ rfl
          have h3 := hg 3 _ rfl
          have h4 := hg 4 _ rfl
          simp [cellsT9, cellsT2, cellsT22, cellsT45, cellsT46] at h0 h1 h2 h3 h4
          obtain ⟨s, e0, _⟩ := DataW.trod_string Try.underlying9 h0
          obtain ⟨a, e1, _⟩ := DataW.trod_int Try.underlying2 h1
          obtain rfl : c0 = .string s := by simpa using e0
          obtain rfl : c1 = .int .i64 a := by simpa using e1
          obtain ⟨m2, f2, b2, _⟩ := bytes_of h2
          obtain ⟨m3, S, b3, _⟩ := samples_of h3
          obtain ⟨m4, E, b4, _⟩ := edits_of h4
          exact ⟨⟨s, a, m2, f2, m3, S, m4, E⟩, fun _ => ⟨b, o, _, _, _, _, _, rfl, hat 0 (by decide), hat 1 (by decide), hat 2 (by decide), hat 3 (by decide), hat 4 (by decide), ⟨rfl, rfl, b2, b3, b4⟩⟩⟩
    · exact ⟨⟨ByteArray.empty, 0, 0, fun _ => 0, 0, fun _ => ⟨0, fun _ => 0, 0, 0, false⟩, 0, fun _ => ⟨0, 0⟩⟩, fun h => absurd h hil⟩
  exact ⟨len, fun i => Classical.choose (key i), ⟨ao, cap, rfl, hl, fun i hil => Classical.choose_spec (key i) hil⟩, hm⟩

set_option maxRecDepth 100000 in
/-- A file that came in. -/
theorem open_file {W : World} {base : Nat} {v : Value} {d : DataW H} {p : List MemPlace} (hval : Value.okWide Try.prog W .any base 37 v) (h : DataW.Trod enc Try.prog W 0 (fun _ => true) true 37 v d p) : ∃ F, FA W v F ∧ F.nT ≤ maxLen := by
  obtain ⟨cs, rfl, hsz⟩ := okWide_struct Try.underlying37 hval
  obtain ⟨fuel, hf⟩ := h
  obtain ⟨xs, n, _, hx, _, hlen, hg⟩ := DataW.trod_struct Try.underlying37 hf
  obtain ⟨l⟩ := cs
  match l, hsz.trans cellsT37 with
  | [c0, c1], _ =>
    match xs, hlen with
    | [y0, y1], _ =>
      have h0 := hg 0 _ rfl
      have h1 := hg 1 _ rfl
      simp [Value.cells, cellsT2, cellsT35] at h0 h1
      obtain ⟨a, e0, _⟩ := DataW.trod_int Try.underlying2 h0
      obtain rfl : c0 = .int .i64 a := by simpa using e0
      obtain ⟨m, T, ht, hm⟩ := tracks_of h1
      exact ⟨⟨a, m, T⟩, ⟨_, rfl, ht⟩, hm⟩

end
end Go.Proofs.Ytkhjkemllgjfmaa


namespace Go.Proofs.Ytkhjkemllgjfmaa.isomediaPuts
open Go.ChangeShapes Go.WideShapes Go.ChangeAt Go.RowKit
set_option linter.unusedVariables false

theorem own : ownKnob Try.prog.godebug = none := by kernel_rfl

set_option maxRecDepth 100000 in
theorem lifted (os : Os) (started : os.Started) (H : Type) (enc : TypeId × Value → H) :
    ReturnsInHanded {} Try.checked os 7 .any (Rows.isomediaPutsSpec.pre6 enc Try.prog Try.f7 Rows.isomediaPutsRow.domain false) (Rows.isomediaPutsSpec.post enc Try.prog Try.f7 false true false false) := by
  refine returnsInHanded_of_change (C := Try.checked) own started (by kernel_rfl) Try.func7
    (ChangeSpec.witness6 (enc := enc) (C := Try.checked) false ⟨#[], #[.agg #[.int .i64 0, .slice none 0 0]], []⟩ 8 (by kernel_rfl) (by kernel_rfl) (by kernel_rfl) (by kernel_rfl)) ?_
  intro W base args ds gs before hval0 hW hcnd _
  have hval : ∀ (j : Nat) t v, Try.f7.params[j]? = some t → args[j]? = some v → Value.okWide Try.prog W .any base t v := hval0
  have hW' := hW
  obtain ⟨p, q, hA0, hV, rfl, hfz, hnd⟩ := hW
  have hA : DataW.TrodAll enc Try.prog W 0 (fun _ => true) true Try.f7.params.toList args.toList ds p := hA0
  have hAk := hA
  rw [Try.params7] at hA hval
  obtain ⟨v0, vs0, d0, ds0, p0, q0, hargs, rfl, rfl, h0, r0⟩ := trodAll_cons hA
  obtain ⟨rfl, rfl, rfl⟩ := trodAll_nil r0
  obtain rfl : args = #[v0] := by cases args; simp_all
  obtain ⟨rfl, rfl⟩ := trodVars_none hV
  obtain ⟨F0, hr0, hm0⟩ := open_file (hval 0 37 v0 rfl rfl) h0
  simp only [List.append_nil] at hW' hAk
  refine (law_puts v0 F0 W hr0 (by unfold maxLen at hm0; omega)).mono fun e W' ⟨he, hg⟩ => ?_
  subst he
  exact ⟨_, rfl, post_of_below (pv := []) hW' (fun _ _ _ => (trodAll_cons_mk (shut_bool Try.underlying4 _) trodAll_mk0)) (fun sp hsp => trodAll_stays laid_out hg (by kernel_rfl) hAk (fun x hx => hW'.lt x (by simpa using hx)) (fun x hx => hsp x (by simpa using hx))) (fun _ _ => rfl) (by simp)
    hg (ok_one (by kernel_rfl) rfl (okWide_bool_mk Try.underlying4 _))⟩

theorem over : Rows.isomediaPutsRow.holds Try.pinned (OpenSpec.ofChange Rows.isomediaPutsSpec) :=
  OpenClaim.holds_of_wide 7 Try.f7 rfl rfl rfl rfl rfl rfl rfl ⟨rfl, rfl, rfl, rfl, rfl⟩ rfl rfl rfl rfl rfl (by kernel_rfl) Try.func7 (by kernel_rfl)
    (of_decide_eq_true (by kernel_rfl)) (by unfold Func.isWrapper; first | (rw [if_pos (by decide +kernel)]; kernel_rfl) | (rw [if_neg (by decide +kernel)]; exact ⟨rfl, rfl⟩))
    (fun os started H enc _ => lifted os started H enc)

/-- The statement. -/
theorem proved : Rows.IsomediaPutsSaid :=
  over
end Go.Proofs.Ytkhjkemllgjfmaa.isomediaPuts
