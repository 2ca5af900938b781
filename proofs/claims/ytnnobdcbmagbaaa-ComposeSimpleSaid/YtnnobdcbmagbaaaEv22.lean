/- Texts of this claim joined: XL. -/
import Derived.Deep.Cut
import Derived.Deep.Light
import Derived.Test.YtnnobdcbmagbaaaEv21
set_option linter.unusedVariables false
set_option linter.unusedSimpArgs false

/- The contract of the stage's eval: every valid expression. -/
namespace Go.Proofs.Ytnnobdcbmagbaaa
open Go.RowKit
set_option linter.unusedVariables false

theorem info26s : (Try.prog.info? 26).map (fun i => (i.zero, i.size, i.bytes)) = some (some (.agg #[.int .i64 0, .int .i64 0, .slice none 0 0, .slice none 0 0, .slice none 0 0]), 5, 88) := by kernel_rfl

/-- All cells of old blocks but those of block b stay. -/
def Stay (b : Nat) (w w' : World) : Prop := ∀ q : Addr, q.block < w.heap.size → q.block ≠ b → w'.cell? q = w.cell? q
theorem Stay.refl (b : Nat) (w : World) : Stay b w w := fun _ _ _ => rfl
theorem Stay.below {b : Nat} {w w1 w2 : World} (h : Stay b w w1) (hs : w.heap.size ≤ w1.heap.size) (hb : Below w1.heap.size w1 w2) : Stay b w w2 := fun q hq hn => (hb.cell (Nat.lt_of_lt_of_le hq hs)).trans (h q hq hn)
theorem Stay.set {b : Nat} {w w1 : World} (h : Stay b w w1) (o : Nat) (u : Value) : Stay b w (w1.setCell ⟨b, o, none⟩ u) := fun q hq hn => (World.cell?_setCell_far _ _ _ _ (fun e => hn e.symm)).trans (h q hq hn)

theorem Stay.set5 {b : Nat} {w w1 : World} (h : Stay b w w1) (c0 c1 c2 c3 c4 : Value) : Stay b w (((((w1.setCell ⟨b, 0, none⟩ c0).setCell ⟨b, 1, none⟩ c1).setCell ⟨b, 2, none⟩ c2).setCell ⟨b, 3, none⟩ c3).setCell ⟨b, 4, none⟩ c4) :=
  ((((h.set 0 c0).set 1 c1).set 2 c2).set 3 c3).set 4 c4

theorem evX_0 {P : Nat → Pic} {m : Nat} {W H : Int} {f : Fld} {a : Nat → Ex} (h : f.op = 0) : evX P m W H (.mk f a) = (0, blackFr W H) := by rw [evX]; simp [h]
theorem evX_1 {P : Nat → Pic} {m : Nat} {W H : Int} {f : Fld} {a : Nat → Ex} (h : f.op = 1) {i : Nat} (hi : findP P f.media f.frame m = some i) : evX P m W H (.mk f a) = (0, (P i).fr) := by rw [evX]; simp [h, hi]
theorem evX_1n {P : Nat → Pic} {m : Nat} {W H : Int} {f : Fld} {a : Nat → Ex} (h : f.op = 1) (hi : findP P f.media f.frame m = none) : evX P m W H (.mk f a) = (7, Fr.zero) := by rw [evX]; simp [h, hi]
theorem evX_2 {P : Nat → Pic} {m : Nat} {W H : Int} {f : Fld} {a : Nat → Ex} (h : f.op = 2) (h0 : (evX P m W H (a 0)).1 = 0) (h1 : (evX P m W H (a 1)).1 = 0) :
    evX P m W H (.mk f a) = (mixE (evX P m W H (a 0)).2 (evX P m W H (a 1)).2 f.num f.den, mixR (evX P m W H (a 0)).2 (evX P m W H (a 1)).2 f.num f.den) := by rw [evX]; simp [h, h0, h1]
theorem evX_3 {P : Nat → Pic} {m : Nat} {W H : Int} {f : Fld} {a : Nat → Ex} (h : f.op = 3) (h0 : (evX P m W H (a 0)).1 = 0) (h1 : (evX P m W H (a 1)).1 = 0) :
    evX P m W H (.mk f a) = (wipeE (evX P m W H (a 0)).2 (evX P m W H (a 1)).2 f.num f.den f.par, wipeR (evX P m W H (a 0)).2 (evX P m W H (a 1)).2 f.num f.den f.par) := by rw [evX]; simp [h, h0, h1]
theorem evX_4 {P : Nat → Pic} {m : Nat} {W H : Int} {f : Fld} {a : Nat → Ex} (h : f.op = 4) (h0 : (evX P m W H (a 0)).1 = 0) (h1 : (evX P m W H (a 1)).1 = 0) :
    evX P m W H (.mk f a) = (keyE (evX P m W H (a 0)).2 (evX P m W H (a 1)).2 f.par, keyR (evX P m W H (a 0)).2 (evX P m W H (a 1)).2 f.par) := by rw [evX]; simp [h, h0, h1]
theorem evX_5 {P : Nat → Pic} {m : Nat} {W H : Int} {f : Fld} {a : Nat → Ex} (h : f.op = 5) (h0 : (evX P m W H (a 0)).1 = 0) :
    evX P m W H (.mk f a) = (titleE (evX P m W H (a 0)).2 f.text, titleR (evX P m W H (a 0)).2 f.text) := by rw [evX]; simp [h, h0]

set_option maxRecDepth 100000 in
set_option maxHeartbeats 8000000 in
theorem seval_any {w0 : World} {v : Value} {e : Ex} (h : XA w0 v e) (W H : Int) (mb m : Nat) (P : Nat → Pic) (hs : okSize W H = true) (hP : ∀ i, i < m → (P i).fr.ok = true) :
    okX e = true → ∀ w, Below w0.heap.size w0 w → MapA w mb m P →
    Calls Try.prog 64 #[.agg #[.int .i64 W, .int .i64 H, .map (some mb)], v] w fun r w' => ∃ x, r = .returned (.tuple #[x, .int .i64 (evX P m W H e).1]) ∧ FA w' x (evX P m W H e).2 ∧ Below w.heap.size w w' := by
  induction h with
  | mk f a ao c g hf hc hcell hsub ih =>
    intro hok w hw hM
    obtain ⟨i0, hi, hz0, hz1, hz2⟩ := info_parts info26s
    obtain ⟨hok1, hok2⟩ := okX_f hok
    obtain ⟨hl, hu, hn⟩ := okFld_n hok1
    have hn2 : f.n ≤ 2 := by rw [hn]; split; omega; split <;> omega
    have HN := Lib.hid hn
    have HK := Lib.hid hok1
    have HS := Lib.hid hs
    clear hn hok hok1 hs
    have hmlt := hM.lt
    unfold Fld.val
    go_enter Try.func64, Try.ntmps64
    go_wp2_with (at_make; refine wpList_make_full _ rfl _ _ 99 rfl w.heap.size 26 i0 (.agg #[.int .i64 0, .int .i64 0, .slice none 0 0, .slice none 0 0, .slice none 0 0]) 5 Try.underlying99 hi hz0 hz1 _ _ _ _ f.n rfl rfl rfl rfl ?_ ?_ ?_ ?_)
    · rw [hz2]; omega
    · unfold maxLen; omega
    · simp; omega
    · intro w1 hown hg
      obtain ⟨hA0, hF0⟩ := args_made (R := fun i => (evX P m W H (a i)).2) hn2 hown
      clear hown
      have hb1 := (Below.refl _ _).grown hg (Nat.le_refl _) (fun k h => by cases h)
      clear hg
      have W1 : Below w.heap.size w w1 := by
        refine Below.trans ?_ (hb1.mono (by simp; omega))
        go_grown
      have hs1 : w.heap.size + 1 + 1 + 1 ≤ w1.heap.size := by have := hb1.size; simp at this; omega
      have BE := Lib.hid (show B8 w1 (w.heap.size + 1) f (.slice ao f.n c) from ((B8.of_alloc _ _ f (.slice ao f.n c) 58 (by simp)).below (below_box _ _)).below hb1)
      have c0 : w1.cell? ⟨w.heap.size, 0, none⟩ = some (.int .i64 W) := (hb1.cell (by simp; omega)).trans (by simp [go_sem])
      have c1 : w1.cell? ⟨w.heap.size, 1, none⟩ = some (.int .i64 H) := (hb1.cell (by simp; omega)).trans (by simp [go_sem])
      have c2 : w1.cell? ⟨w.heap.size, 2, none⟩ = some (.map (some mb)) := (hb1.cell (by simp; omega)).trans (by simp [go_sem])
      have BR : BX w1 (w.heap.size + 1 + 1) (.int .i64 0) (.int .i64 0) (.slice none 0 0) (.slice none 0 0) (.slice none 0 0) := (BX.of_alloc' _ _ _ _ _ _ _ _ (by simp)).below hb1
      have FR : ∀ o, w1.frozen? ⟨w.heap.size + 1 + 1, o, none⟩ = false := fun o => (hb1.frozen (by simp)).trans (by simp [go_sem])
      have e7 := BE.out.k7
      clear hb1 hi hz0 hz1 hz2
      go_wp2_with fail
      go_loopw [20] (fun i wr => ∃ k : Nat, k ≤ f.n ∧ i = .int .i64 (k : Int) ∧ Below (w.heap.size + 1 + 1 + 1) w1 wr ∧ ArgsA wr (w.heap.size + 1 + 1 + 1) f.n k (fun i => (evX P m W H (a i)).2) ∧ (∀ o, wr.frozen? ⟨w.heap.size + 1 + 1 + 1, o, none⟩ = false) ∧ Hid (∀ i, i < k → (evX P m W H (a i)).1 = 0)) (fun i _ => f.n - (intOf i).toNat)
      case atStart => exact ⟨0, Nat.zero_le _, rfl, Below.refl _ _, hA0, hF0, Lib.hid (fun i hi => absurd hi (Nat.not_lt_zero i))⟩
      case round =>
        obtain ⟨k, hk, rfl, hB, hA, hF, HZ⟩ := hrel
        clear hA0 hF0
        have hWr : Below w.heap.size w wr := W1.trans (hB.mono (by omega))
        have hsr : w.heap.size + 1 + 1 + 1 ≤ wr.heap.size := Nat.le_trans hs1 hB.size
        have hw0 := hw.trans (hWr.mono hw.size)
        have hMr := hM.below hWr
        have s0 : ∀ o, (wr.alloc o).cell? ⟨w.heap.size, 0, none⟩ = some (.int .i64 W) := fun o => ((below_box wr o).cell (by simp; omega)).trans ((hB.cell (p := ⟨w.heap.size, 0, none⟩) (by simp; omega)).trans c0)
        have s1 : ∀ o, (wr.alloc o).cell? ⟨w.heap.size, 1, none⟩ = some (.int .i64 H) := fun o => ((below_box wr o).cell (by simp; omega)).trans ((hB.cell (p := ⟨w.heap.size, 1, none⟩) (by simp; omega)).trans c1)
        have s2 : ∀ o, (wr.alloc o).cell? ⟨w.heap.size, 2, none⟩ = some (.map (some mb)) := fun o => ((below_box wr o).cell (by simp; omega)).trans ((hB.cell (p := ⟨w.heap.size, 2, none⟩) (by simp; omega)).trans c2)
        have HP := Lib.hid (And.intro ((hB.cell (p := ⟨w.heap.size, 0, none⟩) (by simp; omega)).trans c0) (And.intro ((hB.cell (p := ⟨w.heap.size, 1, none⟩) (by simp; omega)).trans c1) ((hB.cell (p := ⟨w.heap.size, 2, none⟩) (by simp; omega)).trans c2)))
        have HFr := Lib.hid (fun o => (hB.frozen (p := ⟨w.heap.size + 1 + 1, o, none⟩) (by simp)).trans (FR o))
        have HBr := Lib.hid (show BX wr (w.heap.size + 1 + 1) (.int .i64 0) (.int .i64 0) (.slice none 0 0) (.slice none 0 0) (.slice none 0 0) from
          ⟨(hB.cell (by simp)).trans BR.k0, (hB.cell (by simp)).trans BR.k1, (hB.cell (by simp)).trans BR.k2, (hB.cell (by simp)).trans BR.k3, (hB.cell (by simp)).trans BR.k4⟩)
        have HBe := Lib.hid (show B8 wr (w.heap.size + 1) f (.slice ao f.n c) from
          ⟨(hB.cell (by simp)).trans BE.out.k0, (hB.cell (by simp)).trans BE.out.k1, (hB.cell (by simp)).trans BE.out.k2, (hB.cell (by simp)).trans BE.out.k3, (hB.cell (by simp)).trans BE.out.k4, (hB.cell (by simp)).trans BE.out.k5, (hB.cell (by simp)).trans BE.out.k6, (hB.cell (by simp)).trans BE.out.k7⟩)
        have HB := Lib.hid hB
        have HA := Lib.hid hA
        have HF := Lib.hid hF
        clear hB hA hF c0 c1 c2 e7 BR FR
        by_cases hlt : k < f.n
        · obtain ⟨b, o, rfl, hC⟩ := hcell k hlt
          obtain ⟨c0, c1, c2, c3, c4, c5, c6, c7⟩ := (C8.of hC).below hw0
          obtain ⟨sa, sc, hg⟩ := (hsub k hlt).slice
          rw [hg] at c7
          have HI := ih k hlt (hok2 k hlt)
          rw [hg] at HI
          unfold Fld.val at HI
          clear hC
          have hEr := fun h => evX_err (P := P) (m := m) (W := W) (H := H) HK.out hlt HZ.out h
          have hGlt : w.heap.size + 1 + 1 + 1 < wr.heap.size := (HA.out.2 k (Nat.le_refl _) hlt).lt
          have HZs := fun (h : (evX P m W H (a k)).1 = 0) => (show ∀ i, i < k + 1 → (evX P m W H (a i)).1 = 0 from fun i hi => by
            by_cases e : i = k
            · subst e; exact h
            · exact HZ.out i (by omega))
          have HSt : ∀ (w' : World) {ay cy au cu av cv}, ArgsA w' (w.heap.size + 1 + 1 + 1) f.n k (fun i => (evX P m W H (a i)).2) →
              FA w' (.agg #[.int .i64 (evX P m W H (a k)).2.W, .int .i64 (evX P m W H (a k)).2.H, .slice ay (evX P m W H (a k)).2.nY cy, .slice au (evX P m W H (a k)).2.nU cu, .slice av (evX P m W H (a k)).2.nV cv]) (evX P m W H (a k)).2 → _ := fun w' => fun h1 h2 => ArgsA.store h1 hlt h2
          obtain ⟨X, hX⟩ : ∃ X, X = evX P m W H (a k) := ⟨_, rfl⟩
          rw [← hX] at HI hEr HZs HSt
          replace hEr := Lib.hid hEr
          replace HZs := Lib.hid HZs
          replace HSt := Lib.hid HSt
          obtain ⟨E, hE⟩ : ∃ E, E = a k := ⟨_, rfl⟩
          rw [← hE] at c0 c1 c2 c3 c4 c5 c6 c7 HI
          clear hE hg hX
          go_wp2_with fail
          refine (HI _ (hw0.alloc hw0.size _) (hMr.below (below_box _ _))).mono ?_
          rintro r w2 ⟨x, rfl, hFx, hb2⟩
          replace hb2 : Below wr.heap.size wr w2 := (below_box _ _).trans (hb2.mono (by simp))
          clear HI c0 c1 c2 c3 c4 c5 c6 c7 s0 s1 s2
          have HFx := Lib.hid hFx
          obtain ⟨ay, cy, au, cu, av, cv, rfl⟩ := hFx.shape
          clear hFx
          have n2 := hb2.size
          have A2 := HA.out.below hb2
          have F2 : ∀ o, w2.frozen? ⟨w.heap.size + 1 + 1 + 1, o, none⟩ = false := fun o => (hb2.frozen (by simpa using hGlt)).trans (HF.out o)
          have R2 := HBr.out.below hb2
          have FR2 : ∀ o, w2.frozen? ⟨w.heap.size + 1 + 1, o, none⟩ = false := fun o => (hb2.frozen (by simp; omega)).trans (HFr.out o)
          have W2 : Below w.heap.size w w2 := hWr.trans (hb2.mono (by omega))
          have B2 := Lib.hid (HB.out.trans (hb2.mono hsr))
          by_cases hx : X.1 = 0
          · rw [hx]
            have z := A2.2 k (Nat.le_refl _) hlt
            have z0 : ∀ o, (w2.alloc o).cell? ⟨w.heap.size + 1 + 1 + 1, k * 5, none⟩ = some (.int .i64 0) := fun o => ((below_box w2 o).cell (by simp; omega)).trans z.k0
            have z1 : ∀ o, (w2.alloc o).cell? ⟨w.heap.size + 1 + 1 + 1, k * 5 + 1, none⟩ = some (.int .i64 0) := fun o => ((below_box w2 o).cell (by simp; omega)).trans z.k1
            have z2 : ∀ o, (w2.alloc o).cell? ⟨w.heap.size + 1 + 1 + 1, k * 5 + 2, none⟩ = some (.slice none 0 0) := fun o => ((below_box w2 o).cell (by simp; omega)).trans z.k2
            have z3 : ∀ o, (w2.alloc o).cell? ⟨w.heap.size + 1 + 1 + 1, k * 5 + 3, none⟩ = some (.slice none 0 0) := fun o => ((below_box w2 o).cell (by simp; omega)).trans z.k3
            have z4 : ∀ o, (w2.alloc o).cell? ⟨w.heap.size + 1 + 1 + 1, k * 5 + 4, none⟩ = some (.slice none 0 0) := fun o => ((below_box w2 o).cell (by simp; omega)).trans z.k4
            have zf : ∀ o q, (w2.alloc o).frozen? ⟨w.heap.size + 1 + 1 + 1, q, none⟩ = false := fun o q => ((below_box w2 o).frozen (by simp; omega)).trans (F2 q)
            have A2' := Lib.hid A2
            have F2' := Lib.hid F2
            have HZn := Lib.hid (HZs.out hx)
            clear A2 F2 R2 FR2 z
            go_wp2_with fail
            go_round
            case rel =>
              refine ⟨k + 1, by omega, by go_num, ?_, HSt.out _ (A2'.out.below (below_box _ _)) (HFx.out.below (below_box _ _)), fun o => ?_, HZn⟩
              · iterate 5 refine Below.setCell ?_ (by simp) _
                exact B2.out.alloc (by omega) _
              · simp only [World.frozen?_setCell]
                exact zf _ o
            case measure => simp [intOf]; omega
          · have hxn : (X.1 != 0) = true := by rw [bne_iff_ne]; exact hx
            have HE := Lib.hid (hEr.out hx)
            have z0 : ∀ o, (w2.alloc o).cell? ⟨w.heap.size + 1 + 1, 0, none⟩ = some (.int .i64 0) := fun o => ((below_box w2 o).cell (by simp; omega)).trans R2.k0
            have z1 : ∀ o, (w2.alloc o).cell? ⟨w.heap.size + 1 + 1, 1, none⟩ = some (.int .i64 0) := fun o => ((below_box w2 o).cell (by simp; omega)).trans R2.k1
            have z2 : ∀ o, (w2.alloc o).cell? ⟨w.heap.size + 1 + 1, 2, none⟩ = some (.slice none 0 0) := fun o => ((below_box w2 o).cell (by simp; omega)).trans R2.k2
            have z3 : ∀ o, (w2.alloc o).cell? ⟨w.heap.size + 1 + 1, 3, none⟩ = some (.slice none 0 0) := fun o => ((below_box w2 o).cell (by simp; omega)).trans R2.k3
            have z4 : ∀ o, (w2.alloc o).cell? ⟨w.heap.size + 1 + 1, 4, none⟩ = some (.slice none 0 0) := fun o => ((below_box w2 o).cell (by simp; omega)).trans R2.k4
            have zf : ∀ o q, (w2.alloc o).frozen? ⟨w.heap.size + 1 + 1, q, none⟩ = false := fun o q => ((below_box w2 o).frozen (by simp; omega)).trans (FR2 q)
            have HR2 := Lib.hid (fun o => R2.below (below_box w2 o))
            clear A2 F2 R2 FR2
            go_wp2_with fail
            refine bodyPost_ret (results_cell_tmp Try.results64 _ _ _ rfl rfl (load_fr ((HR2.out _).put5 _ _ _ _ _))) rfl ?_
            exact ⟨_, by rw [HE.out]; rfl, by rw [HE.out]; exact FA.zero _, by go_grown⟩
        · obtain rfl : k = f.n := by omega
          have HM := Lib.hid hMr
          have R2 := HBr.out
          have FR2 := HFr.out
          have A2 := HA.out.1
          have E2 := HBe.out
          have e0 := E2.k0
          by_cases q : f.op = 1
          · rw [q] at e0
            have e1 := E2.k1
            have e2 := E2.k2
            obtain ⟨-, -, p2⟩ := HP.out
            have hfr : 0 ≤ f.frame ∧ f.frame ≤ 2147483646 := by
              have := HK.out
              rw [okF1 q] at this
              simp at this
              exact this.1.1.2
            obtain ⟨hf1, hf2⟩ := hfr
            obtain ⟨r, ok, hrun, HL⟩ := hMr.look f.media f.frame hf.m (by omega) (by omega)
            unfold keyV at hrun
            clear A2 E2 s0 s1 s2
            rcases HL with ⟨rfl, i, hi, hF⟩ | ⟨rfl, hi, rfl⟩
            · have HE := Lib.hid (evX_1 (P := P) (m := m) (W := W) (H := H) (a := a) q hi)
              have hPi := hP i (findP_lt hi).1
              have HFi := Lib.hid hF
              obtain ⟨ay, cy, au, cu, av, cv, rfl⟩ := hF.shape
              clear hF hi
              go_wp2_with fail
              refine (clone_fr _ (P i).fr _ (HFi.out.below (below_box _ _)) hPi).mono ?_
              rintro r2 w3 ⟨g1, d1, g2, d2, g3, d3, rfl, hK3, -, -, -, hb3⟩
              have BB : Below wr.heap.size wr w3 := (below_box _ _).trans (hb3.mono (by simp))
              have W3 : Below w.heap.size w w3 := hWr.trans (BB.mono (by omega))
              have FR3 : ∀ o, w3.frozen? ⟨w.heap.size + 1 + 1, o, none⟩ = false := fun o => (BB.frozen (by simp; omega)).trans (FR2 o)
              have HR3 := Lib.hid (R2.below BB)
              obtain ⟨k0, k1, k2, k3, k4⟩ := HR3.out
              have HFx := Lib.hid (show FA w3 (.agg #[.int .i64 (P i).fr.W, .int .i64 (P i).fr.H, .slice (some ⟨g1, 0, none⟩) (P i).fr.nY d1, .slice (some ⟨g2, 0, none⟩) (P i).fr.nU d2, .slice (some ⟨g3, 0, none⟩) (P i).fr.nV d3]) (P i).fr from hK3.FA HFi.out.bd1 HFi.out.bd2 HFi.out.bd3)
              clear hb3 hK3 BB R2 FR2 e0 e1 e2 p2 hrun
              go_wp2_with fail
              refine bodyPost_ret (results_cell_tmp Try.results64 _ _ _ rfl rfl (load_fr (HR3.out.put5 _ _ _ _ _))) rfl ?_
              exact ⟨_, by rw [HE.out]; rfl, by rw [HE.out]; exact HFx.out.put5 k0 k1 k2 k3 k4, by go_grown⟩
            · have HE := Lib.hid (evX_1n (P := P) (m := m) (W := W) (H := H) (a := a) q hi)
              unfold zeroV at hrun
              have z0 : ∀ o, (wr.alloc o).cell? ⟨w.heap.size + 1 + 1, 0, none⟩ = some (.int .i64 0) := fun o => ((below_box wr o).cell (by simp; omega)).trans R2.k0
              have z1 : ∀ o, (wr.alloc o).cell? ⟨w.heap.size + 1 + 1, 1, none⟩ = some (.int .i64 0) := fun o => ((below_box wr o).cell (by simp; omega)).trans R2.k1
              have z2 : ∀ o, (wr.alloc o).cell? ⟨w.heap.size + 1 + 1, 2, none⟩ = some (.slice none 0 0) := fun o => ((below_box wr o).cell (by simp; omega)).trans R2.k2
              have z3 : ∀ o, (wr.alloc o).cell? ⟨w.heap.size + 1 + 1, 3, none⟩ = some (.slice none 0 0) := fun o => ((below_box wr o).cell (by simp; omega)).trans R2.k3
              have z4 : ∀ o, (wr.alloc o).cell? ⟨w.heap.size + 1 + 1, 4, none⟩ = some (.slice none 0 0) := fun o => ((below_box wr o).cell (by simp; omega)).trans R2.k4
              have zf : ∀ o q, (wr.alloc o).frozen? ⟨w.heap.size + 1 + 1, q, none⟩ = false := fun o q => ((below_box wr o).frozen (by simp; omega)).trans (FR2 q)
              have HR2 := Lib.hid (fun o => R2.below (below_box wr o))
              clear R2 FR2
              go_wp2_with fail
              refine bodyPost_ret (results_cell_tmp Try.results64 _ _ _ rfl rfl (load_fr ((HR2.out _).put5 _ _ _ _ _))) rfl ?_
              exact ⟨_, by rw [HE.out]; rfl, by rw [HE.out]; exact FA.zero _, by go_grown⟩
          have q1 : (f.op == 1) = false := by rw [beq_eq_false_iff_ne]; exact q
          have n1 := q
          clear q
          by_cases q : f.op = 2
          · rw [q] at e0
            have hnn : f.n = 2 := by have := HN.out; rw [q] at this; simpa using this
            rw [hnn] at A2
            obtain ⟨ay0, cy0, au0, cu0, av0, cv0, hC0, hA0⟩ := A2 0 (by decide)
            obtain ⟨ay1, cy1, au1, cu1, av1, cv1, hC1, hA1⟩ := A2 1 (by decide)
            have HE := Lib.hid (evX_2 (P := P) (m := m) (W := W) (H := H) (a := a) q (HZ.out 0 (by omega)) (HZ.out 1 (by omega)))
            simp only at hC0 hA0 hC1 hA1
            obtain ⟨X0, hX0⟩ : ∃ X, X = evX P m W H (a 0) := ⟨_, rfl⟩
            rw [← hX0] at hC0 hA0 HE
            clear hX0
            obtain ⟨X1, hX1⟩ : ∃ X, X = evX P m W H (a 1) := ⟨_, rfl⟩
            rw [← hX1] at hC1 hA1 HE
            clear hX1
            have hG : w.heap.size + 1 + 1 + 1 < wr.heap.size := hC0.lt
            have a00 : wr.cell? ⟨w.heap.size + 1 + 1 + 1, 0, none⟩ = some (.int .i64 X0.2.W) := hC0.k0
            have a01 : wr.cell? ⟨w.heap.size + 1 + 1 + 1, 1, none⟩ = some (.int .i64 X0.2.H) := hC0.k1
            have a02 : wr.cell? ⟨w.heap.size + 1 + 1 + 1, 2, none⟩ = some (.slice ay0 X0.2.nY cy0) := hC0.k2
            have a03 : wr.cell? ⟨w.heap.size + 1 + 1 + 1, 3, none⟩ = some (.slice au0 X0.2.nU cu0) := hC0.k3
            have a04 : wr.cell? ⟨w.heap.size + 1 + 1 + 1, 4, none⟩ = some (.slice av0 X0.2.nV cv0) := hC0.k4
            have a10 : wr.cell? ⟨w.heap.size + 1 + 1 + 1, 5, none⟩ = some (.int .i64 X1.2.W) := hC1.k0
            have a11 : wr.cell? ⟨w.heap.size + 1 + 1 + 1, 6, none⟩ = some (.int .i64 X1.2.H) := hC1.k1
            have a12 : wr.cell? ⟨w.heap.size + 1 + 1 + 1, 7, none⟩ = some (.slice ay1 X1.2.nY cy1) := hC1.k2
            have a13 : wr.cell? ⟨w.heap.size + 1 + 1 + 1, 8, none⟩ = some (.slice au1 X1.2.nU cu1) := hC1.k3
            have a14 : wr.cell? ⟨w.heap.size + 1 + 1 + 1, 9, none⟩ = some (.slice av1 X1.2.nV cv1) := hC1.k4
            have e3 := E2.k3
            have e4 := E2.k4
            clear A2 E2 s0 s1 s2 hC0 hC1
            go_wp2_with fail
            refine Plan.wp_region_plan (Stay (w.heap.size + 1 + 1) wr) (([0, 1, 2, 3, 4, 5, 6, 7, 8, 9].map (·, true)) ++ (([10].map (·, false)) ++ (([11, 12].map (·, true)) ++ (([13].map (·, false)) ++ (([14].map (·, true))))))) (by kernel_rfl) (by kernel_rfl) (by kernel_rfl) (fun _ _ _ => rfl) ?_
            refine' Plan.plan_seg _ [0, 1, 2, 3, 4, 5, 6, 7, 8, 9] (([10].map (·, false)) ++ (([11, 12].map (·, true)) ++ (([13].map (·, false)) ++ (([14].map (·, true)))))) (by kernel_rfl) (by kernel_rfl) rfl (by exact (fun _ _ _ => rfl)) (fun wx hS => ?_) ?_
            rotate_left
            · skip
              have y_a00 := (hS ⟨w.heap.size + 1 + 1 + 1, 0, none⟩ hG (show w.heap.size + 1 + 1 + 1 ≠ w.heap.size + 1 + 1 by omega)).trans a00
              have y_a01 := (hS ⟨w.heap.size + 1 + 1 + 1, 1, none⟩ hG (show w.heap.size + 1 + 1 + 1 ≠ w.heap.size + 1 + 1 by omega)).trans a01
              have y_a02 := (hS ⟨w.heap.size + 1 + 1 + 1, 2, none⟩ hG (show w.heap.size + 1 + 1 + 1 ≠ w.heap.size + 1 + 1 by omega)).trans a02
              have y_a03 := (hS ⟨w.heap.size + 1 + 1 + 1, 3, none⟩ hG (show w.heap.size + 1 + 1 + 1 ≠ w.heap.size + 1 + 1 by omega)).trans a03
              have y_a04 := (hS ⟨w.heap.size + 1 + 1 + 1, 4, none⟩ hG (show w.heap.size + 1 + 1 + 1 ≠ w.heap.size + 1 + 1 by omega)).trans a04
              have y_a10 := (hS ⟨w.heap.size + 1 + 1 + 1, 5, none⟩ hG (show w.heap.size + 1 + 1 + 1 ≠ w.heap.size + 1 + 1 by omega)).trans a10
              have y_a11 := (hS ⟨w.heap.size + 1 + 1 + 1, 6, none⟩ hG (show w.heap.size + 1 + 1 + 1 ≠ w.heap.size + 1 + 1 by omega)).trans a11
              have y_a12 := (hS ⟨w.heap.size + 1 + 1 + 1, 7, none⟩ hG (show w.heap.size + 1 + 1 + 1 ≠ w.heap.size + 1 + 1 by omega)).trans a12
              have y_a13 := (hS ⟨w.heap.size + 1 + 1 + 1, 8, none⟩ hG (show w.heap.size + 1 + 1 + 1 ≠ w.heap.size + 1 + 1 by omega)).trans a13
              have y_a14 := (hS ⟨w.heap.size + 1 + 1 + 1, 9, none⟩ hG (show w.heap.size + 1 + 1 + 1 ≠ w.heap.size + 1 + 1 by omega)).trans a14
              have y_e3 := (hS ⟨w.heap.size + 1, 3, none⟩ (show w.heap.size + 1 < wr.heap.size by omega) (show w.heap.size + 1 ≠ w.heap.size + 1 + 1 by omega)).trans e3
              have y_e4 := (hS ⟨w.heap.size + 1, 4, none⟩ (show w.heap.size + 1 < wr.heap.size by omega) (show w.heap.size + 1 ≠ w.heap.size + 1 + 1 by omega)).trans e4
              clear hS
              go_light
              iterate 10 (apply Plan.seg_pick; rfl; intro K hK; go_wp)
              exact Plan.seg_nil
            clear a00 a01 a02 a03 a04 a10 a11 a12 a13 a14 e3 e4 e0
            refine Plan.plan_of_effect rfl (fun K hK => ?_)
            go_wp2_with fail
            refine (mix_any _ _ X0.2 X1.2 f.num f.den _ (hA0.below (Below.refl _ _).drew) (hA1.below (Below.refl _ _).drew)).mono ?_
            rintro r2 w3 ⟨x, rfl, hFx, hb3⟩
            have BB : Below wr.heap.size wr w3 := (Below.refl _ _).drew.trans hb3
            have S3 : Stay (w.heap.size + 1 + 1) wr w3 := Stay.below (fun _ _ _ => rfl) (Nat.le_refl _) BB
            have W3 : Below w.heap.size w w3 := hWr.trans (BB.mono (by omega))
            have FR3 : ∀ o, w3.frozen? ⟨w.heap.size + 1 + 1, o, none⟩ = false := fun o => (BB.frozen (by simp; omega)).trans (FR2 o)
            have HR3 := Lib.hid (R2.below BB)
            obtain ⟨k0, k1, k2, k3, k4⟩ := HR3.out
            have HFx := Lib.hid hFx
            obtain ⟨ay, cy, au, cu, av, cv, rfl⟩ := hFx.shape
            clear hFx hb3 BB R2 FR2
            go_wp2_with fail
            refine ⟨S3, ?_⟩
            refine' Plan.plan_seg _ [11, 12] (([13].map (·, false)) ++ (([14].map (·, true)))) (by kernel_rfl) (by kernel_rfl) rfl (by exact S3) (fun wx hS => ?_) ?_
            rotate_left
            · skip
              clear hS
              go_light
              iterate 2 (apply Plan.seg_pick; rfl; intro K hK; go_wp)
              exact Plan.seg_nil
            refine Plan.plan_of_effect rfl (fun K hK => ?_)
            go_wp2_with fail
            have S4 := Lib.hid S3
            clear S3
            refine ⟨Stay.set5 S4.out _ _ _ _ _, ?_⟩
            refine' Plan.plan_seg _ [14] ([]) (by kernel_rfl) (by kernel_rfl) rfl (by exact (Stay.set5 S4.out _ _ _ _ _)) (fun wx hS => ?_) ?_
            rotate_left
            · skip
              clear hS
              go_light
              iterate 1 (apply Plan.seg_pick; rfl; intro K hK; go_wp)
              exact Plan.seg_nil
            refine Plan.plan_done ?_
            go_wp2_with fail
            refine bodyPost_ret (results_cell_tmp Try.results64 _ _ _ rfl rfl (load_fr (HR3.out.put5 _ _ _ _ _))) rfl ?_
            exact ⟨_, by rw [HE.out]; rfl, by rw [HE.out]; exact HFx.out.put5 k0 k1 k2 k3 k4, by go_grown⟩
          have q2 : (f.op == 2) = false := by rw [beq_eq_false_iff_ne]; exact q
          have n2 := q
          clear q
          by_cases q : f.op = 3
          · rw [q] at e0
            have hnn : f.n = 2 := by have := HN.out; rw [q] at this; simpa using this
            rw [hnn] at A2
            obtain ⟨ay0, cy0, au0, cu0, av0, cv0, hC0, hA0⟩ := A2 0 (by decide)
            obtain ⟨ay1, cy1, au1, cu1, av1, cv1, hC1, hA1⟩ := A2 1 (by decide)
            have HE := Lib.hid (evX_3 (P := P) (m := m) (W := W) (H := H) (a := a) q (HZ.out 0 (by omega)) (HZ.out 1 (by omega)))
            simp only at hC0 hA0 hC1 hA1
            obtain ⟨X0, hX0⟩ : ∃ X, X = evX P m W H (a 0) := ⟨_, rfl⟩
            rw [← hX0] at hC0 hA0 HE
            clear hX0
            obtain ⟨X1, hX1⟩ : ∃ X, X = evX P m W H (a 1) := ⟨_, rfl⟩
            rw [← hX1] at hC1 hA1 HE
            clear hX1
            have hG : w.heap.size + 1 + 1 + 1 < wr.heap.size := hC0.lt
            have a00 : wr.cell? ⟨w.heap.size + 1 + 1 + 1, 0, none⟩ = some (.int .i64 X0.2.W) := hC0.k0
            have a01 : wr.cell? ⟨w.heap.size + 1 + 1 + 1, 1, none⟩ = some (.int .i64 X0.2.H) := hC0.k1
            have a02 : wr.cell? ⟨w.heap.size + 1 + 1 + 1, 2, none⟩ = some (.slice ay0 X0.2.nY cy0) := hC0.k2
            have a03 : wr.cell? ⟨w.heap.size + 1 + 1 + 1, 3, none⟩ = some (.slice au0 X0.2.nU cu0) := hC0.k3
            have a04 : wr.cell? ⟨w.heap.size + 1 + 1 + 1, 4, none⟩ = some (.slice av0 X0.2.nV cv0) := hC0.k4
            have a10 : wr.cell? ⟨w.heap.size + 1 + 1 + 1, 5, none⟩ = some (.int .i64 X1.2.W) := hC1.k0
            have a11 : wr.cell? ⟨w.heap.size + 1 + 1 + 1, 6, none⟩ = some (.int .i64 X1.2.H) := hC1.k1
            have a12 : wr.cell? ⟨w.heap.size + 1 + 1 + 1, 7, none⟩ = some (.slice ay1 X1.2.nY cy1) := hC1.k2
            have a13 : wr.cell? ⟨w.heap.size + 1 + 1 + 1, 8, none⟩ = some (.slice au1 X1.2.nU cu1) := hC1.k3
            have a14 : wr.cell? ⟨w.heap.size + 1 + 1 + 1, 9, none⟩ = some (.slice av1 X1.2.nV cv1) := hC1.k4
            have e3 := E2.k3
            have e4 := E2.k4
            have e5 := E2.k5
            clear A2 E2 s0 s1 s2 hC0 hC1
            go_wp2_with fail
            refine Plan.wp_region_plan (Stay (w.heap.size + 1 + 1) wr) (([0, 1, 2, 3, 4, 5, 6, 7, 8, 9, 10, 11].map (·, true)) ++ (([12].map (·, false)) ++ (([13, 14].map (·, true)) ++ (([15].map (·, false)) ++ (([16].map (·, true))))))) (by kernel_rfl) (by kernel_rfl) (by kernel_rfl) (fun _ _ _ => rfl) ?_
            refine' Plan.plan_seg _ [0, 1, 2, 3, 4, 5, 6, 7, 8, 9, 10, 11] (([12].map (·, false)) ++ (([13, 14].map (·, true)) ++ (([15].map (·, false)) ++ (([16].map (·, true)))))) (by kernel_rfl) (by kernel_rfl) rfl (by exact (fun _ _ _ => rfl)) (fun wx hS => ?_) ?_
            rotate_left
            · skip
              have y_a00 := (hS ⟨w.heap.size + 1 + 1 + 1, 0, none⟩ hG (show w.heap.size + 1 + 1 + 1 ≠ w.heap.size + 1 + 1 by omega)).trans a00
              have y_a01 := (hS ⟨w.heap.size + 1 + 1 + 1, 1, none⟩ hG (show w.heap.size + 1 + 1 + 1 ≠ w.heap.size + 1 + 1 by omega)).trans a01
              have y_a02 := (hS ⟨w.heap.size + 1 + 1 + 1, 2, none⟩ hG (show w.heap.size + 1 + 1 + 1 ≠ w.heap.size + 1 + 1 by omega)).trans a02
              have y_a03 := (hS ⟨w.heap.size + 1 + 1 + 1, 3, none⟩ hG (show w.heap.size + 1 + 1 + 1 ≠ w.heap.size + 1 + 1 by omega)).trans a03
              have y_a04 := (hS ⟨w.heap.size + 1 + 1 + 1, 4, none⟩ hG (show w.heap.size + 1 + 1 + 1 ≠ w.heap.size + 1 + 1 by omega)).trans a04
              have y_a10 := (hS ⟨w.heap.size + 1 + 1 + 1, 5, none⟩ hG (show w.heap.size + 1 + 1 + 1 ≠ w.heap.size + 1 + 1 by omega)).trans a10
              have y_a11 := (hS ⟨w.heap.size + 1 + 1 + 1, 6, none⟩ hG (show w.heap.size + 1 + 1 + 1 ≠ w.heap.size + 1 + 1 by omega)).trans a11
              have y_a12 := (hS ⟨w.heap.size + 1 + 1 + 1, 7, none⟩ hG (show w.heap.size + 1 + 1 + 1 ≠ w.heap.size + 1 + 1 by omega)).trans a12
              have y_a13 := (hS ⟨w.heap.size + 1 + 1 + 1, 8, none⟩ hG (show w.heap.size + 1 + 1 + 1 ≠ w.heap.size + 1 + 1 by omega)).trans a13
              have y_a14 := (hS ⟨w.heap.size + 1 + 1 + 1, 9, none⟩ hG (show w.heap.size + 1 + 1 + 1 ≠ w.heap.size + 1 + 1 by omega)).trans a14
              have y_e3 := (hS ⟨w.heap.size + 1, 3, none⟩ (show w.heap.size + 1 < wr.heap.size by omega) (show w.heap.size + 1 ≠ w.heap.size + 1 + 1 by omega)).trans e3
              have y_e4 := (hS ⟨w.heap.size + 1, 4, none⟩ (show w.heap.size + 1 < wr.heap.size by omega) (show w.heap.size + 1 ≠ w.heap.size + 1 + 1 by omega)).trans e4
              have y_e5 := (hS ⟨w.heap.size + 1, 5, none⟩ (show w.heap.size + 1 < wr.heap.size by omega) (show w.heap.size + 1 ≠ w.heap.size + 1 + 1 by omega)).trans e5
              clear hS
              go_light
              iterate 12 (apply Plan.seg_pick; rfl; intro K hK; go_wp)
              exact Plan.seg_nil
            clear a00 a01 a02 a03 a04 a10 a11 a12 a13 a14 e3 e4 e5 e0
            refine Plan.plan_of_effect rfl (fun K hK => ?_)
            go_wp2_with fail
            refine (wipe_any _ _ X0.2 X1.2 f.num f.den f.par _ (hA0.below (Below.refl _ _).drew) (hA1.below (Below.refl _ _).drew)).mono ?_
            rintro r2 w3 ⟨x, rfl, hFx, hb3⟩
            have BB : Below wr.heap.size wr w3 := (Below.refl _ _).drew.trans hb3
            have S3 : Stay (w.heap.size + 1 + 1) wr w3 := Stay.below (fun _ _ _ => rfl) (Nat.le_refl _) BB
            have W3 : Below w.heap.size w w3 := hWr.trans (BB.mono (by omega))
            have FR3 : ∀ o, w3.frozen? ⟨w.heap.size + 1 + 1, o, none⟩ = false := fun o => (BB.frozen (by simp; omega)).trans (FR2 o)
            have HR3 := Lib.hid (R2.below BB)
            obtain ⟨k0, k1, k2, k3, k4⟩ := HR3.out
            have HFx := Lib.hid hFx
            obtain ⟨ay, cy, au, cu, av, cv, rfl⟩ := hFx.shape
            clear hFx hb3 BB R2 FR2
            go_wp2_with fail
            refine ⟨S3, ?_⟩
            refine' Plan.plan_seg _ [13, 14] (([15].map (·, false)) ++ (([16].map (·, true)))) (by kernel_rfl) (by kernel_rfl) rfl (by exact S3) (fun wx hS => ?_) ?_
            rotate_left
            · skip
              clear hS
              go_light
              iterate 2 (apply Plan.seg_pick; rfl; intro K hK; go_wp)
              exact Plan.seg_nil
            refine Plan.plan_of_effect rfl (fun K hK => ?_)
            go_wp2_with fail
            have S4 := Lib.hid S3
            clear S3
            refine ⟨Stay.set5 S4.out _ _ _ _ _, ?_⟩
            refine' Plan.plan_seg _ [16] ([]) (by kernel_rfl) (by kernel_rfl) rfl (by exact (Stay.set5 S4.out _ _ _ _ _)) (fun wx hS => ?_) ?_
            rotate_left
            · skip
              clear hS
              go_light
              iterate 1 (apply Plan.seg_pick; rfl; intro K hK; go_wp)
              exact Plan.seg_nil
            refine Plan.plan_done ?_
            go_wp2_with fail
            refine bodyPost_ret (results_cell_tmp Try.results64 _ _ _ rfl rfl (load_fr (HR3.out.put5 _ _ _ _ _))) rfl ?_
            exact ⟨_, by rw [HE.out]; rfl, by rw [HE.out]; exact HFx.out.put5 k0 k1 k2 k3 k4, by go_grown⟩
          have q3 : (f.op == 3) = false := by rw [beq_eq_false_iff_ne]; exact q
          have n3 := q
          clear q
          by_cases q : f.op = 4
          · rw [q] at e0
            have hnn : f.n = 2 := by have := HN.out; rw [q] at this; simpa using this
            rw [hnn] at A2
            obtain ⟨ay0, cy0, au0, cu0, av0, cv0, hC0, hA0⟩ := A2 0 (by decide)
            obtain ⟨ay1, cy1, au1, cu1, av1, cv1, hC1, hA1⟩ := A2 1 (by decide)
            have HE := Lib.hid (evX_4 (P := P) (m := m) (W := W) (H := H) (a := a) q (HZ.out 0 (by omega)) (HZ.out 1 (by omega)))
            simp only at hC0 hA0 hC1 hA1
            obtain ⟨X0, hX0⟩ : ∃ X, X = evX P m W H (a 0) := ⟨_, rfl⟩
            rw [← hX0] at hC0 hA0 HE
            clear hX0
            obtain ⟨X1, hX1⟩ : ∃ X, X = evX P m W H (a 1) := ⟨_, rfl⟩
            rw [← hX1] at hC1 hA1 HE
            clear hX1
            have hG : w.heap.size + 1 + 1 + 1 < wr.heap.size := hC0.lt
            have a00 : wr.cell? ⟨w.heap.size + 1 + 1 + 1, 0, none⟩ = some (.int .i64 X0.2.W) := hC0.k0
            have a01 : wr.cell? ⟨w.heap.size + 1 + 1 + 1, 1, none⟩ = some (.int .i64 X0.2.H) := hC0.k1
            have a02 : wr.cell? ⟨w.heap.size + 1 + 1 + 1, 2, none⟩ = some (.slice ay0 X0.2.nY cy0) := hC0.k2
            have a03 : wr.cell? ⟨w.heap.size + 1 + 1 + 1, 3, none⟩ = some (.slice au0 X0.2.nU cu0) := hC0.k3
            have a04 : wr.cell? ⟨w.heap.size + 1 + 1 + 1, 4, none⟩ = some (.slice av0 X0.2.nV cv0) := hC0.k4
            have a10 : wr.cell? ⟨w.heap.size + 1 + 1 + 1, 5, none⟩ = some (.int .i64 X1.2.W) := hC1.k0
            have a11 : wr.cell? ⟨w.heap.size + 1 + 1 + 1, 6, none⟩ = some (.int .i64 X1.2.H) := hC1.k1
            have a12 : wr.cell? ⟨w.heap.size + 1 + 1 + 1, 7, none⟩ = some (.slice ay1 X1.2.nY cy1) := hC1.k2
            have a13 : wr.cell? ⟨w.heap.size + 1 + 1 + 1, 8, none⟩ = some (.slice au1 X1.2.nU cu1) := hC1.k3
            have a14 : wr.cell? ⟨w.heap.size + 1 + 1 + 1, 9, none⟩ = some (.slice av1 X1.2.nV cv1) := hC1.k4
            have e5 := E2.k5
            clear A2 E2 s0 s1 s2 hC0 hC1
            go_wp2_with fail
            refine Plan.wp_region_plan (Stay (w.heap.size + 1 + 1) wr) (([0, 1, 2, 3, 4, 5, 6, 7].map (·, true)) ++ (([8].map (·, false)) ++ (([9, 10].map (·, true)) ++ (([11].map (·, false)) ++ (([12].map (·, true))))))) (by kernel_rfl) (by kernel_rfl) (by kernel_rfl) (fun _ _ _ => rfl) ?_
            refine' Plan.plan_seg _ [0, 1, 2, 3, 4, 5, 6, 7] (([8].map (·, false)) ++ (([9, 10].map (·, true)) ++ (([11].map (·, false)) ++ (([12].map (·, true)))))) (by kernel_rfl) (by kernel_rfl) rfl (by exact (fun _ _ _ => rfl)) (fun wx hS => ?_) ?_
            rotate_left
            · skip
              have y_a00 := (hS ⟨w.heap.size + 1 + 1 + 1, 0, none⟩ hG (show w.heap.size + 1 + 1 + 1 ≠ w.heap.size + 1 + 1 by omega)).trans a00
              have y_a01 := (hS ⟨w.heap.size + 1 + 1 + 1, 1, none⟩ hG (show w.heap.size + 1 + 1 + 1 ≠ w.heap.size + 1 + 1 by omega)).trans a01
              have y_a02 := (hS ⟨w.heap.size + 1 + 1 + 1, 2, none⟩ hG (show w.heap.size + 1 + 1 + 1 ≠ w.heap.size + 1 + 1 by omega)).trans a02
              have y_a03 := (hS ⟨w.heap.size + 1 + 1 + 1, 3, none⟩ hG (show w.heap.size + 1 + 1 + 1 ≠ w.heap.size + 1 + 1 by omega)).trans a03
              have y_a04 := (hS ⟨w.heap.size + 1 + 1 + 1, 4, none⟩ hG (show w.heap.size + 1 + 1 + 1 ≠ w.heap.size + 1 + 1 by omega)).trans a04
              have y_a10 := (hS ⟨w.heap.size + 1 + 1 + 1, 5, none⟩ hG (show w.heap.size + 1 + 1 + 1 ≠ w.heap.size + 1 + 1 by omega)).trans a10
              have y_a11 := (hS ⟨w.heap.size + 1 + 1 + 1, 6, none⟩ hG (show w.heap.size + 1 + 1 + 1 ≠ w.heap.size + 1 + 1 by omega)).trans a11
              have y_a12 := (hS ⟨w.heap.size + 1 + 1 + 1, 7, none⟩ hG (show w.heap.size + 1 + 1 + 1 ≠ w.heap.size + 1 + 1 by omega)).trans a12
              have y_a13 := (hS ⟨w.heap.size + 1 + 1 + 1, 8, none⟩ hG (show w.heap.size + 1 + 1 + 1 ≠ w.heap.size + 1 + 1 by omega)).trans a13
              have y_a14 := (hS ⟨w.heap.size + 1 + 1 + 1, 9, none⟩ hG (show w.heap.size + 1 + 1 + 1 ≠ w.heap.size + 1 + 1 by omega)).trans a14
              have y_e5 := (hS ⟨w.heap.size + 1, 5, none⟩ (show w.heap.size + 1 < wr.heap.size by omega) (show w.heap.size + 1 ≠ w.heap.size + 1 + 1 by omega)).trans e5
              clear hS
              go_light
              iterate 8 (apply Plan.seg_pick; rfl; intro K hK; go_wp)
              exact Plan.seg_nil
            clear a00 a01 a02 a03 a04 a10 a11 a12 a13 a14 e5 e0
            refine Plan.plan_of_effect rfl (fun K hK => ?_)
            go_wp2_with fail
            refine (key_any _ _ X0.2 X1.2 f.par _ (hA0.below (Below.refl _ _).drew) (hA1.below (Below.refl _ _).drew)).mono ?_
            rintro r2 w3 ⟨x, rfl, hFx, hb3⟩
            have BB : Below wr.heap.size wr w3 := (Below.refl _ _).drew.trans hb3
            have S3 : Stay (w.heap.size + 1 + 1) wr w3 := Stay.below (fun _ _ _ => rfl) (Nat.le_refl _) BB
            have W3 : Below w.heap.size w w3 := hWr.trans (BB.mono (by omega))
            have FR3 : ∀ o, w3.frozen? ⟨w.heap.size + 1 + 1, o, none⟩ = false := fun o => (BB.frozen (by simp; omega)).trans (FR2 o)
            have HR3 := Lib.hid (R2.below BB)
            obtain ⟨k0, k1, k2, k3, k4⟩ := HR3.out
            have HFx := Lib.hid hFx
            obtain ⟨ay, cy, au, cu, av, cv, rfl⟩ := hFx.shape
            clear hFx hb3 BB R2 FR2
            go_wp2_with fail
            refine ⟨S3, ?_⟩
            refine' Plan.plan_seg _ [9, 10] (([11].map (·, false)) ++ (([12].map (·, true)))) (by kernel_rfl) (by kernel_rfl) rfl (by exact S3) (fun wx hS => ?_) ?_
            rotate_left
            · skip
              clear hS
              go_light
              iterate 2 (apply Plan.seg_pick; rfl; intro K hK; go_wp)
              exact Plan.seg_nil
            refine Plan.plan_of_effect rfl (fun K hK => ?_)
            go_wp2_with fail
            have S4 := Lib.hid S3
            clear S3
            refine ⟨Stay.set5 S4.out _ _ _ _ _, ?_⟩
            refine' Plan.plan_seg _ [12] ([]) (by kernel_rfl) (by kernel_rfl) rfl (by exact (Stay.set5 S4.out _ _ _ _ _)) (fun wx hS => ?_) ?_
            rotate_left
            · skip
              clear hS
              go_light
              iterate 1 (apply Plan.seg_pick; rfl; intro K hK; go_wp)
              exact Plan.seg_nil
            refine Plan.plan_done ?_
            go_wp2_with fail
            refine bodyPost_ret (results_cell_tmp Try.results64 _ _ _ rfl rfl (load_fr (HR3.out.put5 _ _ _ _ _))) rfl ?_
            exact ⟨_, by rw [HE.out]; rfl, by rw [HE.out]; exact HFx.out.put5 k0 k1 k2 k3 k4, by go_grown⟩
          have q4 : (f.op == 4) = false := by rw [beq_eq_false_iff_ne]; exact q
          have n4 := q
          clear q
          by_cases q : f.op = 5
          · rw [q] at e0
            have hnn : f.n = 1 := by have := HN.out; rw [q] at this; simpa using this
            rw [hnn] at A2
            obtain ⟨ay0, cy0, au0, cu0, av0, cv0, hC0, hA0⟩ := A2 0 (by decide)
            have HE := Lib.hid (evX_5 (P := P) (m := m) (W := W) (H := H) (a := a) q (HZ.out 0 (by omega)))
            simp only at hC0 hA0
            obtain ⟨X0, hX0⟩ : ∃ X, X = evX P m W H (a 0) := ⟨_, rfl⟩
            rw [← hX0] at hC0 hA0 HE
            clear hX0
            have hG : w.heap.size + 1 + 1 + 1 < wr.heap.size := hC0.lt
            have a00 : wr.cell? ⟨w.heap.size + 1 + 1 + 1, 0, none⟩ = some (.int .i64 X0.2.W) := hC0.k0
            have a01 : wr.cell? ⟨w.heap.size + 1 + 1 + 1, 1, none⟩ = some (.int .i64 X0.2.H) := hC0.k1
            have a02 : wr.cell? ⟨w.heap.size + 1 + 1 + 1, 2, none⟩ = some (.slice ay0 X0.2.nY cy0) := hC0.k2
            have a03 : wr.cell? ⟨w.heap.size + 1 + 1 + 1, 3, none⟩ = some (.slice au0 X0.2.nU cu0) := hC0.k3
            have a04 : wr.cell? ⟨w.heap.size + 1 + 1 + 1, 4, none⟩ = some (.slice av0 X0.2.nV cv0) := hC0.k4
            have e6 := E2.k6
            clear A2 E2 s0 s1 s2 hC0
            go_wp2_with fail
            refine Plan.wp_region_plan (Stay (w.heap.size + 1 + 1) wr) (([0, 1, 2, 3, 4].map (·, true)) ++ (([5].map (·, false)) ++ (([6, 7].map (·, true)) ++ (([8].map (·, false)) ++ (([9].map (·, true))))))) (by kernel_rfl) (by kernel_rfl) (by kernel_rfl) (fun _ _ _ => rfl) ?_
            refine' Plan.plan_seg _ [0, 1, 2, 3, 4] (([5].map (·, false)) ++ (([6, 7].map (·, true)) ++ (([8].map (·, false)) ++ (([9].map (·, true)))))) (by kernel_rfl) (by kernel_rfl) rfl (by exact (fun _ _ _ => rfl)) (fun wx hS => ?_) ?_
            rotate_left
            · skip
              have y_a00 := (hS ⟨w.heap.size + 1 + 1 + 1, 0, none⟩ hG (show w.heap.size + 1 + 1 + 1 ≠ w.heap.size + 1 + 1 by omega)).trans a00
              have y_a01 := (hS ⟨w.heap.size + 1 + 1 + 1, 1, none⟩ hG (show w.heap.size + 1 + 1 + 1 ≠ w.heap.size + 1 + 1 by omega)).trans a01
              have y_a02 := (hS ⟨w.heap.size + 1 + 1 + 1, 2, none⟩ hG (show w.heap.size + 1 + 1 + 1 ≠ w.heap.size + 1 + 1 by omega)).trans a02
              have y_a03 := (hS ⟨w.heap.size + 1 + 1 + 1, 3, none⟩ hG (show w.heap.size + 1 + 1 + 1 ≠ w.heap.size + 1 + 1 by omega)).trans a03
              have y_a04 := (hS ⟨w.heap.size + 1 + 1 + 1, 4, none⟩ hG (show w.heap.size + 1 + 1 + 1 ≠ w.heap.size + 1 + 1 by omega)).trans a04
              have y_e6 := (hS ⟨w.heap.size + 1, 6, none⟩ (show w.heap.size + 1 < wr.heap.size by omega) (show w.heap.size + 1 ≠ w.heap.size + 1 + 1 by omega)).trans e6
              clear hS
              go_light
              iterate 5 (apply Plan.seg_pick; rfl; intro K hK; go_wp)
              exact Plan.seg_nil
            clear a00 a01 a02 a03 a04 e6 e0
            refine Plan.plan_of_effect rfl (fun K hK => ?_)
            go_wp2_with fail
            refine (title_any _ X0.2 f.text _ (hA0.below (Below.refl _ _).drew) hf.t).mono ?_
            rintro r2 w3 ⟨x, rfl, hFx, hb3⟩
            have BB : Below wr.heap.size wr w3 := (Below.refl _ _).drew.trans hb3
            have S3 : Stay (w.heap.size + 1 + 1) wr w3 := Stay.below (fun _ _ _ => rfl) (Nat.le_refl _) BB
            have W3 : Below w.heap.size w w3 := hWr.trans (BB.mono (by omega))
            have FR3 : ∀ o, w3.frozen? ⟨w.heap.size + 1 + 1, o, none⟩ = false := fun o => (BB.frozen (by simp; omega)).trans (FR2 o)
            have HR3 := Lib.hid (R2.below BB)
            obtain ⟨k0, k1, k2, k3, k4⟩ := HR3.out
            have HFx := Lib.hid hFx
            obtain ⟨ay, cy, au, cu, av, cv, rfl⟩ := hFx.shape
            clear hFx hb3 BB R2 FR2
            go_wp2_with fail
            refine ⟨S3, ?_⟩
            refine' Plan.plan_seg _ [6, 7] (([8].map (·, false)) ++ (([9].map (·, true)))) (by kernel_rfl) (by kernel_rfl) rfl (by exact S3) (fun wx hS => ?_) ?_
            rotate_left
            · skip
              clear hS
              go_light
              iterate 2 (apply Plan.seg_pick; rfl; intro K hK; go_wp)
              exact Plan.seg_nil
            refine Plan.plan_of_effect rfl (fun K hK => ?_)
            go_wp2_with fail
            have S4 := Lib.hid S3
            clear S3
            refine ⟨Stay.set5 S4.out _ _ _ _ _, ?_⟩
            refine' Plan.plan_seg _ [9] ([]) (by kernel_rfl) (by kernel_rfl) rfl (by exact (Stay.set5 S4.out _ _ _ _ _)) (fun wx hS => ?_) ?_
            rotate_left
            · skip
              clear hS
              go_light
              iterate 1 (apply Plan.seg_pick; rfl; intro K hK; go_wp)
              exact Plan.seg_nil
            refine Plan.plan_done ?_
            go_wp2_with fail
            refine bodyPost_ret (results_cell_tmp Try.results64 _ _ _ rfl rfl (load_fr (HR3.out.put5 _ _ _ _ _))) rfl ?_
            exact ⟨_, by rw [HE.out]; rfl, by rw [HE.out]; exact HFx.out.put5 k0 k1 k2 k3 k4, by go_grown⟩
          have q5 : (f.op == 5) = false := by rw [beq_eq_false_iff_ne]; exact q
          have n5 := q
          clear q
          have q : f.op = 0 := by omega
          rw [q] at e0
          obtain ⟨p0, p1, -⟩ := HP.out
          have HE := Lib.hid (evX_0 (P := P) (m := m) (W := W) (H := H) (a := a) q)
          clear A2 E2 s0 s1 s2
          go_wp2_with fail
          refine (black_yes W H _ HS.out).mono ?_
          rintro r2 w3 ⟨x, rfl, hFx, hb3⟩
          have W3 : Below w.heap.size w w3 := hWr.trans (hb3.mono (by omega))
          have FR3 : ∀ o, w3.frozen? ⟨w.heap.size + 1 + 1, o, none⟩ = false := fun o => (hb3.frozen (by simp; omega)).trans (FR2 o)
          have HR3 := Lib.hid (R2.below hb3)
          obtain ⟨k0, k1, k2, k3, k4⟩ := HR3.out
          have HFx := Lib.hid hFx
          obtain ⟨ay, cy, au, cu, av, cv, rfl⟩ := hFx.shape
          clear hFx hb3 R2 FR2 e0 p0 p1
          go_wp2_with fail
          refine bodyPost_ret (results_cell_tmp Try.results64 _ _ _ rfl rfl (load_fr (HR3.out.put5 _ _ _ _ _))) rfl ?_
          exact ⟨_, by rw [HE.out]; rfl, by rw [HE.out]; exact HFx.out.put5 k0 k1 k2 k3 k4, by go_grown⟩

end Go.Proofs.Ytnnobdcbmagbaaa
