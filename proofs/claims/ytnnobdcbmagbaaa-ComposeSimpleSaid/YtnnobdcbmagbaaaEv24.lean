/- Texts of this claim joined: XP. -/
import Derived.Test.YtnnobdcbmagbaaaEv23
set_option linter.unusedVariables false
set_option linter.unusedSimpArgs false

/- The contract of the reference's eval: every valid expression. -/
namespace Go.Proofs.Ytnnobdcbmagbaaa
open Go.RowKit
set_option linter.unusedVariables false

theorem be_inj {a b : ByteArray} (h : a.toList = b.toList) : a = b := by
  rw [ByteArray.toList_eq, ByteArray.toList_eq] at h
  obtain ⟨⟨l⟩⟩ := a
  obtain ⟨⟨r⟩⟩ := b
  simp only at h
  subst h; rfl

theorem findP_stays {P : Nat → Pic} {md : ByteArray} {nb : Int} {i k : Nat} (h : findP P md nb k = some i) : ∀ d, findP P md nb (k + d) = some i
  | 0 => h
  | d + 1 => findP_old (findP_stays h d)
theorem Keep.set {mb : Nat} {w w1 : World} (h : Keep mb w w1) (o : Nat) (u : Value) : Keep mb w (w1.setCell ⟨mb, o, none⟩ u) :=
  ⟨h.os, h.tape, h.output, by rw [World.size_setCell]; exact h.size, fun k hk hn => (Below.heap_setCell w1 ⟨mb, o, none⟩ u k hn).trans (h.block k hk hn)⟩
theorem Keep.set5 {mb : Nat} {w w1 : World} (h : Keep mb w w1) (c0 c1 c2 c3 c4 : Value) : Keep mb w (((((w1.setCell ⟨mb, 0, none⟩ c0).setCell ⟨mb, 1, none⟩ c1).setCell ⟨mb, 2, none⟩ c2).setCell ⟨mb, 3, none⟩ c3).setCell ⟨mb, 4, none⟩ c4) :=
  ((((h.set 0 c0).set 1 c1).set 2 c2).set 3 c3).set 4 c4
/-- What the operations that make the copy leave. -/
def GU (B nY nU nV : Nat) (W H : Value) (Y U V : Nat → Int) (i lo hi : Nat) (v : Value) (w : World) : Prop :=
  (i = 2 ∨ i = 6 ∨ i = 10 → ∃ e, v = .slice (some ⟨e, 0, none⟩) 0 0) ∧
  (i = 5 → ∃ g c, v = .slice (some ⟨g, 0, none⟩) nY c ∧ Row w B g nY c Y ∧ lo ≤ g ∧ g < hi) ∧
  (i = 9 → ∃ g c, v = .slice (some ⟨g, 0, none⟩) nU c ∧ Row w B g nU c U ∧ lo ≤ g ∧ g < hi) ∧
  (i = 13 → ∃ g c, v = .slice (some ⟨g, 0, none⟩) nV c ∧ Row w B g nV c V ∧ lo ≤ g ∧ g < hi) ∧
  (i = 14 → ∃ g1 c1 g2 c2 g3 c3, v = .agg #[W, H, .slice (some ⟨g1, 0, none⟩) nY c1, .slice (some ⟨g2, 0, none⟩) nU c2, .slice (some ⟨g3, 0, none⟩) nV c3] ∧ K3 w B g1 g2 g3 nY nU nV c1 c2 c3 Y U V)
theorem GU.ext {B nY nU nV : Nat} {W H : Value} {Y U V : Nat → Int} {i lo hi : Nat} {v : Value} {w w' : World} (h : GU B nY nU nV W H Y U V i lo hi v w) (e : Plan.Ext w w') : GU B nY nU nV W H Y U V i lo hi v w' := by
  obtain ⟨h0, h1, h2, h3, h5⟩ := h
  refine ⟨h0, fun hi => ?_, fun hi => ?_, fun hi => ?_, fun hi => ?_⟩
  · obtain ⟨g, c, rfl, r, q⟩ := h1 hi
    exact ⟨g, c, rfl, r.below e, q⟩
  · obtain ⟨g, c, rfl, r, q⟩ := h2 hi
    exact ⟨g, c, rfl, r.below e, q⟩
  · obtain ⟨g, c, rfl, r, q⟩ := h3 hi
    exact ⟨g, c, rfl, r.below e, q⟩
  · obtain ⟨g1, c1, g2, c2, g3, c3, rfl, r⟩ := h5 hi
    exact ⟨g1, c1, g2, c2, g3, c3, rfl, r.below e⟩
set_option maxRecDepth 100000 in
set_option maxHeartbeats 8000000 in
theorem reval_any {w0 : World} {v : Value} {e : Ex} (h : XA w0 v e) (W H : Int) (l : Value) (m : Nat) (P : Nat → Pic) (hs : okSize W H = true) (hP : ∀ i, i < m → okP W H (P i) = true) :
    okX e = true → ∀ w, Below w0.heap.size w0 w → LA w l m P →
    Calls Try.prog 66 #[v, l, .int .i64 W, .int .i64 H] w fun r w' => ∃ x, r = .returned (.tuple #[x, .int .i64 (evX P m W H e).1]) ∧ FA w' x (evX P m W H e).2 ∧ Below w.heap.size w w' := by
  induction h with
  | mk f a ao c g hf hc hcell hsub ih =>
    intro hok w hw hLA
    obtain ⟨hok1, hok2⟩ := okX_f hok
    obtain ⟨hl, hu, hn⟩ := okFld_n hok1
    have hn2 : f.n ≤ 2 := by rw [hn]; split; omega; split <;> omega
    have HN := Lib.hid hn
    have HK := Lib.hid hok1
    have HS := Lib.hid hs
    have HL := Lib.hid hLA
    obtain ⟨lo, lc, rfl, hlc, hm, -⟩ := hLA
    clear hn hok hok1 hs
    unfold Fld.val
    go_enter Try.func66, Try.ntmps66
    go_upto_region 1 with fail
    obtain ⟨w1, hw1⟩ : ∃ x, x = (w.alloc (.cells #[.int .i64 f.op, .string f.media, .int .i64 f.frame, .int .i64 f.num, .int .i64 f.den, .int .i64 f.par, .string f.text, .slice ao f.n c] 58)).alloc (.cells #[.int .i64 0, .int .i64 0, .slice none 0 0, .slice none 0 0, .slice none 0 0] 26) := ⟨_, rfl⟩
    rw [← hw1]
    have W1 : Below w.heap.size w w1 := by rw [hw1]; go_grown
    have ng := Lib.hid (show w1.heap.size = w.heap.size + 1 + 1 by rw [hw1]; simp)
    have BE := Lib.hid (show B8 w1 w.heap.size f (.slice ao f.n c) from by rw [hw1]; exact (B8.of_alloc w _ f (.slice ao f.n c) 58 rfl).below (below_box _ _))
    have BR := Lib.hid (show BX w1 (w.heap.size + 1) (.int .i64 0) (.int .i64 0) (.slice none 0 0) (.slice none 0 0) (.slice none 0 0) by rw [hw1]; exact BX.of_alloc' _ _ _ _ _ _ _ _ (by simp))
    have FR := Lib.hid (show ∀ o, w1.frozen? ⟨w.heap.size + 1, o, none⟩ = false from fun o => by rw [hw1]; simp [go_sem])
    clear hw1
    go_wp2_with fail
    go_loopw [11, 10] (fun i v wr => ∃ k : Nat, k ≤ f.n ∧ i = .int .i64 (k : Int) ∧ Below (w.heap.size + 1 + 1) w1 wr ∧ Hid (RF wr (w.heap.size + 1 + 1) v k (fun i => (evX P m W H (a i)).2)) ∧ Hid (∀ i, i < k → (evX P m W H (a i)).1 = 0)) (fun i _ _ => f.n - (intOf i).toNat)
    case atStart => exact ⟨0, Nat.zero_le _, rfl, Below.refl _ _, Lib.hid (Or.inl ⟨rfl, rfl⟩), Lib.hid (fun i hi => absurd hi (Nat.not_lt_zero i))⟩
    case round =>
      obtain ⟨k, hk, rfl, hB, HA, HZ⟩ := hrel
      have hWr : Below w.heap.size w wr := W1.trans (hB.mono (by omega))
      have hsr : w.heap.size + 1 + 1 ≤ wr.heap.size := by have := hB.size; rw [ng.out] at this; exact this
      have hw0 := hw.trans (hWr.mono hw.size)
      have HLr := Lib.hid (HL.out.below hWr)
      have HFr := Lib.hid (fun o => (hB.frozen (p := ⟨w.heap.size + 1, o, none⟩) (by simp)).trans (FR.out o))
      have HBr := Lib.hid (show BX wr (w.heap.size + 1) (.int .i64 0) (.int .i64 0) (.slice none 0 0) (.slice none 0 0) (.slice none 0 0) from
        ⟨(hB.cell (by simp)).trans BR.out.k0, (hB.cell (by simp)).trans BR.out.k1, (hB.cell (by simp)).trans BR.out.k2, (hB.cell (by simp)).trans BR.out.k3, (hB.cell (by simp)).trans BR.out.k4⟩)
      have HBe := Lib.hid (show B8 wr w.heap.size f (.slice ao f.n c) from
        ⟨(hB.cell (by simp; omega)).trans BE.out.k0, (hB.cell (by simp; omega)).trans BE.out.k1, (hB.cell (by simp; omega)).trans BE.out.k2, (hB.cell (by simp; omega)).trans BE.out.k3, (hB.cell (by simp; omega)).trans BE.out.k4, (hB.cell (by simp; omega)).trans BE.out.k5, (hB.cell (by simp; omega)).trans BE.out.k6, (hB.cell (by simp; omega)).trans BE.out.k7⟩)
      have HB := Lib.hid hB
      clear hB
      have e7 := HBe.out.k7
      by_cases hlt : k < f.n
      · obtain ⟨b, o, rfl, hC⟩ := hcell k hlt
        obtain ⟨c0, c1, c2, c3, c4, c5, c6, c7⟩ := (C8.of hC).below hw0
        obtain ⟨sa, sc, hg⟩ := (hsub k hlt).slice
        rw [hg] at c7
        have HI := ih k hlt (hok2 k hlt)
        rw [hg] at HI
        unfold Fld.val at HI
        clear hC
        have hEr := fun h => evX_err (P := P) (m := m) (W := W) (H := H) HK.out hlt HZ.out h
        have HZs := fun (h : (evX P m W H (a k)).1 = 0) => (show ∀ i, i < k + 1 → (evX P m W H (a i)).1 = 0 from fun i hi => by
          by_cases e : i = k
          · subst e; exact h
          · exact HZ.out i (by omega))
        obtain ⟨R, hR⟩ : ∃ R : Nat → Fr, R = fun i => (evX P m W H (a i)).2 := ⟨_, rfl⟩
        obtain ⟨X, hX⟩ : ∃ X, X = evX P m W H (a k) := ⟨_, rfl⟩
        have HR := Lib.hid (show R k = X.2 by rw [hR, hX])
        rw [← hX] at HI hEr HZs
        rw [← hR] at HA
        replace hEr := Lib.hid hEr
        replace HZs := Lib.hid HZs
        have HRR := Lib.hid hR
        obtain ⟨E, hE⟩ : ∃ E, E = a k := ⟨_, rfl⟩
        rw [← hE] at c0 c1 c2 c3 c4 c5 c6 c7 HI
        clear hE hg hX hR
        go_wp2_with fail
        refine (HI _ hw0 HLr.out).mono ?_
        rintro r w2 ⟨x, rfl, hFx, hb2⟩
        clear HI c0 c1 c2 c3 c4 c5 c6 c7 e7
        have HFx := Lib.hid hFx
        obtain ⟨ay, cy, au, cu, av, cv, rfl⟩ := hFx.shape
        clear hFx
        have n2 := hb2.size
        have W2 : Below w.heap.size w w2 := hWr.trans (hb2.mono (by omega))
        have B2 := Lib.hid (HB.out.trans (hb2.mono hsr))
        have HA2 := Lib.hid (HA.out.below hb2)
        by_cases hx : X.1 = 0
        · rw [hx]
          have HZn := Lib.hid (HZs.out hx)
          go_wp2_with (at_builtin; refine wpList_appF _ rfl _ _ rfl rfl (w.heap.size + 1 + 1) _ k R rfl ((HA2.out.below (below_box _ _)).below (below_box _ _)) (by omega) (by simp; omega) _ _ _ rfl ay cy au cu av cv (by rw [HR.out]; constructor <;> simp [go_sem]) (by rw [HR.out]; exact (HFx.out.below (below_box _ _)).below (below_box _ _)) ?_; intro v' w4 hRF hb4)
          go_round
          case rel =>
            refine ⟨k + 1, by omega, by go_num, ?_, by rw [← HRR.out]; exact Lib.hid hRF, HZn⟩
            exact ((B2.out.alloc (by omega) _).alloc (by simp; omega) _).trans hb4
          case measure => simp [intOf]; omega
        · have hxn : (X.1 != 0) = true := by rw [bne_iff_ne]; exact hx
          have HE := Lib.hid (hEr.out hx)
          have R2 := HBr.out.below hb2
          have FR2 : ∀ o, w2.frozen? ⟨w.heap.size + 1, o, none⟩ = false := fun o => (hb2.frozen (by simp; omega)).trans (HFr.out o)
          have z0 : ∀ o, (w2.alloc o).cell? ⟨w.heap.size + 1, 0, none⟩ = some (.int .i64 0) := fun o => ((below_box w2 o).cell (by simp; omega)).trans R2.k0
          have z1 : ∀ o, (w2.alloc o).cell? ⟨w.heap.size + 1, 1, none⟩ = some (.int .i64 0) := fun o => ((below_box w2 o).cell (by simp; omega)).trans R2.k1
          have z2 : ∀ o, (w2.alloc o).cell? ⟨w.heap.size + 1, 2, none⟩ = some (.slice none 0 0) := fun o => ((below_box w2 o).cell (by simp; omega)).trans R2.k2
          have z3 : ∀ o, (w2.alloc o).cell? ⟨w.heap.size + 1, 3, none⟩ = some (.slice none 0 0) := fun o => ((below_box w2 o).cell (by simp; omega)).trans R2.k3
          have z4 : ∀ o, (w2.alloc o).cell? ⟨w.heap.size + 1, 4, none⟩ = some (.slice none 0 0) := fun o => ((below_box w2 o).cell (by simp; omega)).trans R2.k4
          have zf : ∀ o q, (w2.alloc o).frozen? ⟨w.heap.size + 1, q, none⟩ = false := fun o q => ((below_box w2 o).frozen (by simp; omega)).trans (FR2 q)
          have HR2 := Lib.hid (fun o => R2.below (below_box w2 o))
          clear R2 FR2
          go_wp2_with fail
          refine bodyPost_ret (results_cell_tmp Try.results66 _ _ _ rfl rfl (load_fr ((HR2.out _).put5 _ _ _ _ _))) rfl ?_
          exact ⟨_, by rw [HE.out]; rfl, by rw [HE.out]; exact FA.zero _, by go_grown⟩
      · obtain rfl : k = f.n := by omega
        have R2 := HBr.out
        have FR2 := HFr.out
        have E2 := HBe.out
        have e0 := E2.k0
        by_cases q : f.op = 1
        · rw [q] at e0
          have HQ1 := Lib.hid q
          clear q
          obtain ⟨wa, rfl⟩ : ∃ x, x = wr := ⟨_, rfl⟩
          have e1 := E2.k1
          have e2 := E2.k2
          have hml := hm
          go_wp2_with fail
          go_loopw [14] (fun i wr => ∃ k : Nat, k ≤ m ∧ i = .int .i64 (k : Int) ∧ Below wa.heap.size wa wr ∧ Hid (findP P f.media f.frame k = none)) (fun i _ => m - (intOf i).toNat)
          case atStart => exact ⟨0, Nat.zero_le _, rfl, Below.refl _ _, Lib.hid rfl⟩
          case round =>
            obtain ⟨k, hkm, rfl, hBx, HNf⟩ := hrel
            have hWx : Below w.heap.size w wr := hWr.trans (hBx.mono (by omega))
            have nx := hBx.size
            by_cases hlt2 : k < m
            · obtain ⟨lo', lc', e', hlc', hm', HLx⟩ := HL.out
              simp only [Value.slice.injEq, true_and] at e'
              obtain ⟨rfl, rfl⟩ := e'
              obtain ⟨hfit, b, o, y, u, z, rfl, hC, hF⟩ := HLx k hlt2
              obtain ⟨ay, cy, au, cu, av, cv, hsh⟩ := hF.shape
              simp only [Value.agg.injEq, Array.mk.injEq, List.cons.injEq, and_true, true_and] at hsh
              obtain ⟨rfl, rfl, rfl⟩ := hsh
              obtain ⟨q0, q1, q2, q3, q4, q5, q6⟩ := hC.below hWx
              clear hC
              have x1 := (hBx.cell (p := ⟨w.heap.size, 1, none⟩) (by simp; omega)).trans e1
              have x2 := (hBx.cell (p := ⟨w.heap.size, 2, none⟩) (by simp; omega)).trans e2
              have HBx := Lib.hid hBx
              have HF := Lib.hid hF
              clear HLx hBx hfit hF
              by_cases qm : (P k).media = f.media
              · rw [qm] at q0
                by_cases qn : (P k).num = f.frame
                · have HE := Lib.hid (evX_1 (P := P) (m := m) (W := W) (H := H) (a := a) HQ1.out (i := k) (by
                    have h := findP_stays (findP_new HNf.out ⟨qm, qn⟩) (m - (k + 1))
                    rw [show k + 1 + (m - (k + 1)) = m by omega] at h
                    exact h))
                  have hokP := hP k hlt2
                  simp only [okP, Bool.and_eq_true, decide_eq_true_eq] at hokP
                  obtain ⟨⟨hFok, hFW⟩, hFH⟩ := hokP
                  rw [qn] at q1
                  obtain ⟨F, hFd⟩ : ∃ F, F = (P k).fr := ⟨_, rfl⟩
                  rw [← hFd] at q2 q3 q4 q5 q6 HF HE hFok hFW hFH
                  clear hFd
                  have Hfr := Lib.hid (show (⟨W, H, F.nY, F.nU, F.nV, F.Y, F.U, F.V⟩ : Fr) = F by rw [← hFW, ← hFH])
                  obtain ⟨f1, f2, f3, f4, f5⟩ := ok_bd hFok
                  obtain ⟨ha1, ha2, ha3, -, -, -, la1, la2, la3⟩ := HF.out.plane
                  obtain ⟨qa1, oa1, rfl, ca1⟩ := ha1 (by omega)
                  obtain ⟨qa2, oa2, rfl, ca2⟩ := ha2 (by omega)
                  obtain ⟨qa3, oa3, rfl, ca3⟩ := ha3 (by omega)
                  have i1 : 0 < F.nY ∧ F.nY ≤ 4096 := by omega
                  have i2 : 0 < F.nU ∧ F.nU ≤ 1024 := by omega
                  have i3 : 0 < F.nV ∧ F.nV ≤ 1024 := by omega
                  have HC := Lib.hid (And.intro ca1 (And.intro ca2 ca3))
                  have HBD := Lib.hid (And.intro HF.out.bd1 (And.intro HF.out.bd2 HF.out.bd3))
                  clear ca1 ca2 ca3 ha1 ha2 ha3 f1 f2 f3 f4 f5 hFok hFW hFH qm qn
                  go_wp2_with fail
                  go_quiet (fail)
                  obtain ⟨wz, hz⟩ : ∃ x, x = wr.drewN nq := ⟨_, rfl⟩
                  rw [← hz]
                  have r2 : wz.cell? ⟨b, o + k * 7 + 2, none⟩ = some (.int .i64 F.W) := by rw [hz]; exact q2
                  have r3 : wz.cell? ⟨b, o + k * 7 + 3, none⟩ = some (.int .i64 F.H) := by rw [hz]; exact q3
                  have r4 : wz.cell? ⟨b, o + k * 7 + 4, none⟩ = some (.slice (some ⟨qa1, oa1, none⟩) F.nY cy) := by rw [hz]; exact q4
                  have r5 : wz.cell? ⟨b, o + k * 7 + 5, none⟩ = some (.slice (some ⟨qa2, oa2, none⟩) F.nU cu) := by rw [hz]; exact q5
                  have r6 : wz.cell? ⟨b, o + k * 7 + 6, none⟩ = some (.slice (some ⟨qa3, oa3, none⟩) F.nV cv) := by rw [hz]; exact q6
                  replace HBx := Lib.hid (show Below wa.heap.size wa wz by rw [hz]; exact below_drewN HBx.out _)
                  replace hWx : Below w.heap.size w wz := by rw [hz]; exact below_drewN hWx _
                  have nz : wa.heap.size ≤ wz.heap.size := HBx.out.size
                  clear hz q0 q1 q2 q3 q4 q5 q6 x1 x2
                  go_upto_region 16 with fail
                  obtain ⟨w2, hw⟩ : ∃ x, x = (wz).alloc (.cells #[.int .i64 F.W, .int .i64 F.H, .slice (some ⟨qa1, oa1, none⟩) F.nY cy, .slice (some ⟨qa2, oa2, none⟩) F.nU cu, .slice (some ⟨qa3, oa3, none⟩) F.nV cv] 26) := ⟨_, rfl⟩
                  rw [← hw]
                  have hE : Below wz.heap.size wz w2 := by rw [hw]; exact below_box _ _
                  have a2 : w2.cell? ⟨wz.heap.size, 2, none⟩ = some (.slice (some ⟨qa1, oa1, none⟩) F.nY cy) := by rw [hw]; simp [go_sem]
                  have a3 : w2.cell? ⟨wz.heap.size, 3, none⟩ = some (.slice (some ⟨qa2, oa2, none⟩) F.nU cu) := by rw [hw]; simp [go_sem]
                  have a4 : w2.cell? ⟨wz.heap.size, 4, none⟩ = some (.slice (some ⟨qa3, oa3, none⟩) F.nV cv) := by rw [hw]; simp [go_sem]
                  have W2 : Below w.heap.size w w2 := hWx.trans (hE.mono (by omega))
                  have HR3 := Lib.hid ((R2.below HBx.out).below hE)
                  have FR3 := Lib.hid (fun o => (hE.frozen (p := ⟨w.heap.size + 1, o, none⟩) (by simp; omega)).trans ((HBx.out.frozen (p := ⟨w.heap.size + 1, o, none⟩) (by simp; omega)).trans (FR2 o)))
                  have n2' := Lib.hid (show wz.heap.size < w2.heap.size from block_lt_of_cell a2)
                  obtain ⟨ba, hba⟩ : ∃ b, b = wz.heap.size := ⟨_, rfl⟩
                  have hbane : ba ≠ w.heap.size + 1 := by omega
                  have hba2 : ba < w2.heap.size := by have := n2'.out; omega
                  rw [← hba] at a2 a3 a4
                  try rw [← hba]
                  clear hw hE R2 FR2 r2 r3 r4 r5 r6 hba
                  obtain ⟨B, hB'⟩ : ∃ B, B = w2.heap.size := ⟨_, rfl⟩
                  have HBE := Lib.hid hB'
                  clear hB'
                  refine Plan.wp_region_fresh2 (Keep (w.heap.size + 1) w2) 17 (GU B F.nY F.nU F.nV (.int .i64 W) (.int .i64 H) F.Y F.U F.V) ([0, 1, 3, 4, 7, 8, 11, 12].map (·, true) ++ []) [(2, 78), (5, 81), (6, 82), (9, 85), (10, 86), (13, 89), (14, 90)] ([15].map (·, false) ++ ([16].map (·, true))) 152 (by kernel_rfl) (by kernel_rfl) (by kernel_rfl) (Keep.of_below (Below.refl _ _).drew) ?_ ?_ ?_
                  · intro wa wb ha hb
                    exact ha.trans (Keep.of_below hb)
                  · intro i lo hi v wa wb hG hE
                    exact hG.ext hE
                  refine' Plan.plan_seg _ [0, 1, 3, 4, 7, 8, 11, 12] [] (by kernel_rfl) (by kernel_rfl) rfl (by exact (Keep.of_below (Below.refl _ _).drew)) (fun wx hS => ?_) ?_
                  rotate_left
                  · have b2 := (hS.cell (p := ⟨ba, 2, none⟩) hba2 hbane).trans a2
                    have b3 := (hS.cell (p := ⟨ba, 3, none⟩) hba2 hbane).trans a3
                    have b4 := (hS.cell (p := ⟨ba, 4, none⟩) hba2 hbane).trans a4
                    clear hS
                    go_light
                    iterate 8 (apply Plan.seg_pick; rfl; intro K hK; go_wp)
                    exact Plan.seg_nil
                  refine Plan.plan_nil (Plan.fresh_at2 rfl ?_ ?_)
                  · intro p hp o ho vs wx lo hi hS hE hG hap K hK
                    have hB : B ≤ wx.heap.size := by have := hS.size; rw [HBE.out]; exact this
                    simp only [List.mem_cons, List.not_mem_nil, or_false] at hp
                    clear a2 a3 a4
                    rcases hp with rfl | rfl | rfl | rfl | rfl | rfl | rfl
                    all_goals obtain rfl := Option.some.inj ho
                    · clear hG
                      go_wp2
                      exact hK _ _ ⟨fun _ => ⟨_, rfl⟩, (fun h => absurd h (by decide)), (fun h => absurd h (by decide)), (fun h => absurd h (by decide)), (fun h => absurd h (by decide))⟩ (by go_grown)
                    · obtain ⟨e0, he0⟩ := (hG (2, 78) (by simp) (by decide)).1 (by simp)
                      clear hG
                      have q1 : F.nY ≤ 1048576 := by omega
                      refine wpList_clone2 wx rfl (.tmp 78) (.tmp 80) rfl e0 qa1 oa1 F.nY cy F.Y (by simp [Plan.puts, go_sem, he0]) (by simp [Plan.puts, go_sem]) ?_ q1 i1.1 (fun g c' w' hr hE' => wpList_nil (hK _ _ ?_ hE'))
                      · intro i hi
                        have h := HC.out.1 i hi
                        have hl := block_lt_of_cell h
                        have h1 := (W2.cell hl).trans h
                        exact (hS.cell (p := ⟨qa1, oa1 + i, none⟩) (block_lt_of_cell h1) (by simp at hl ⊢; omega)).trans h1
                      · have hlt := hr.le
                        exact ⟨(fun h => absurd h (by decide)), fun _ => ⟨g, c', rfl, hr.mono hB, hlt.1, hlt.2.1⟩, by simp, by simp, by simp⟩
                    · clear hG
                      go_wp2
                      exact hK _ _ ⟨fun _ => ⟨_, rfl⟩, (fun h => absurd h (by decide)), (fun h => absurd h (by decide)), (fun h => absurd h (by decide)), (fun h => absurd h (by decide))⟩ (by go_grown)
                    · obtain ⟨e0, he0⟩ := (hG (6, 82) (by simp) (by decide)).1 (by simp)
                      clear hG
                      have q1 : F.nU ≤ 1048576 := by omega
                      refine wpList_clone2 wx rfl (.tmp 82) (.tmp 84) rfl e0 qa2 oa2 F.nU cu F.U (by simp [Plan.puts, go_sem, he0]) (by simp [Plan.puts, go_sem]) ?_ q1 i2.1 (fun g c' w' hr hE' => wpList_nil (hK _ _ ?_ hE'))
                      · intro i hi
                        have h := HC.out.2.1 i hi
                        have hl := block_lt_of_cell h
                        have h1 := (W2.cell hl).trans h
                        exact (hS.cell (p := ⟨qa2, oa2 + i, none⟩) (block_lt_of_cell h1) (by simp at hl ⊢; omega)).trans h1
                      · have hlt := hr.le
                        exact ⟨(fun h => absurd h (by decide)), by simp, fun _ => ⟨g, c', rfl, hr.mono hB, hlt.1, hlt.2.1⟩, by simp, by simp⟩
                    · clear hG
                      go_wp2
                      exact hK _ _ ⟨fun _ => ⟨_, rfl⟩, (fun h => absurd h (by decide)), (fun h => absurd h (by decide)), (fun h => absurd h (by decide)), (fun h => absurd h (by decide))⟩ (by go_grown)
                    · obtain ⟨e0, he0⟩ := (hG (10, 86) (by simp) (by decide)).1 (by simp)
                      clear hG
                      have q1 : F.nV ≤ 1048576 := by omega
                      refine wpList_clone2 wx rfl (.tmp 86) (.tmp 88) rfl e0 qa3 oa3 F.nV cv F.V (by simp [Plan.puts, go_sem, he0]) (by simp [Plan.puts, go_sem]) ?_ q1 i3.1 (fun g c' w' hr hE' => wpList_nil (hK _ _ ?_ hE'))
                      · intro i hi
                        have h := HC.out.2.2 i hi
                        have hl := block_lt_of_cell h
                        have h1 := (W2.cell hl).trans h
                        exact (hS.cell (p := ⟨qa3, oa3 + i, none⟩) (block_lt_of_cell h1) (by simp at hl ⊢; omega)).trans h1
                      · have hlt := hr.le
                        exact ⟨(fun h => absurd h (by decide)), by simp, by simp, fun _ => ⟨g, c', rfl, hr.mono hB, hlt.1, hlt.2.1⟩, by simp⟩
                    · obtain ⟨g1, c1, v1, r1, p1, p1'⟩ := (hG (5, 81) (by simp) (by decide)).2.1 rfl
                      obtain ⟨g2, c2, v2, r2, p2, p2'⟩ := (hG (9, 85) (by simp) (by decide)).2.2.1 rfl
                      obtain ⟨g3, c3, v3, r3, p3, p3'⟩ := (hG (13, 89) (by simp) (by decide)).2.2.2.1 rfl
                      simp only at v1 v2 v3
                      have hR := Lib.hid (show K3 wx B g1 g2 g3 F.nY F.nU F.nV c1 c2 c3 F.Y F.U F.V from ⟨r1, r2, r3⟩)
                      clear hG hap r1 r2 r3 p1 p1' p2 p2' p3 p3'
                      clear hS hE
                      refine wpList_build5 wx rfl (.tmp 76) (.tmp 77) (.tmp 81) (.tmp 85) (.tmp 89) W H (some ⟨g1, 0, none⟩) (some ⟨g2, 0, none⟩) (some ⟨g3, 0, none⟩) F.nY F.nU F.nV c1 c2 c3 rfl (by simp [Plan.puts, go_sem]) (by simp [Plan.puts, go_sem]) (by simp [Plan.puts, go_sem, v1]) (by simp [Plan.puts, go_sem, v2]) (by simp [Plan.puts, go_sem, v3]) ?_
                      exact wpList_nil (hK _ _ ⟨(fun h => absurd h (by decide)), (fun h => absurd h (by decide)), (fun h => absurd h (by decide)), (fun h => absurd h (by decide)), fun _ => ⟨g1, c1, g2, c2, g3, c3, rfl, hR.out⟩⟩ (Plan.Ext.refl wx))
                  intro vs lo hi wx hS hE hG hap
                  obtain ⟨g1, c1, g2, c2, g3, c3, v3, rr⟩ := (hG (14, 90) (by simp)).1.2.2.2.2 rfl
                  simp only at v3
                  clear hG hap
                  simp only [Plan.puts, v3]
                  clear v3
                  have hE2 : Below w2.heap.size w2 wx := (Below.refl _ _).drew.trans hE
                  have HFx := Lib.hid (show FA wx (.agg #[.int .i64 W, .int .i64 H, .slice (some ⟨g1, 0, none⟩) F.nY c1, .slice (some ⟨g2, 0, none⟩) F.nU c2, .slice (some ⟨g3, 0, none⟩) F.nV c3]) F by
                    have := rr.FA (W := W) (H := H) HBD.out.1 HBD.out.2.1 HBD.out.2.2
                    rw [Hfr.out] at this
                    exact this)
                  have HSX := Lib.hid hS
                  have W3 : Below w.heap.size w wx := W2.trans (hE2.mono W2.size)
                  replace HR3 := Lib.hid (HR3.out.below hE2)
                  have FR4 : ∀ o, wx.frozen? ⟨w.heap.size + 1, o, none⟩ = false := fun o => (hE2.frozen (p := ⟨w.heap.size + 1, o, none⟩) (by simp; have := W2.size; have := n2'.out; omega)).trans (FR3.out o)
                  obtain ⟨k0, k1, k2, k3, k4⟩ := HR3.out
                  clear rr hS hE hE2 a2 a3 a4
                  refine Plan.plan_of_effect rfl (fun K hK => ?_)
                  go_wp2_with fail
                  refine ⟨Keep.set5 HSX.out _ _ _ _ _, ?_⟩
                  refine' Plan.plan_seg _ [16] [] (by kernel_rfl) (by kernel_rfl) rfl (by exact (Keep.set5 HSX.out _ _ _ _ _)) (fun wx hS => ?_) ?_
                  rotate_left
                  · clear hS
                    go_light
                    iterate 1 (apply Plan.seg_pick; rfl; intro K hK; go_wp)
                    exact Plan.seg_nil
                  refine Plan.plan_done ?_
                  go_wp2_with fail
                  refine bodyPost_ret (results_cell_tmp Try.results66 _ _ _ rfl rfl (load_fr (HR3.out.put5 _ _ _ _ _))) rfl ?_
                  exact ⟨_, by rw [HE.out]; rfl, by rw [HE.out]; exact HFx.out.put5 k0 k1 k2 k3 k4, by go_grown⟩
                · have qn' : ((P k).num == f.frame) = false := by rw [beq_eq_false_iff_ne]; exact qn
                  have qn'' : decide ((P k).num = f.frame) = false := by simpa using qn
                  have HNn := Lib.hid (show findP P f.media f.frame (k + 1) = none by rw [findP_skip (fun h => qn h.2)]; exact HNf.out)
                  go_wp2_with fail
                  go_quiet (fail)
                  go_wp2
                  go_round
                  case rel => exact ⟨k + 1, by omega, by go_num, below_drewN HBx.out _, HNn⟩
                  case measure => simp [intOf]; omega
              · have qm2 : decide ((P k).media = f.media) = false := by simpa using qm
                have qm3 : ¬ (P k).media.toList = f.media.toList := fun h => qm (be_inj h)
                have qm4 : decide ((P k).media.toList = f.media.toList) = false := by simpa using qm3
                have HNn := Lib.hid (show findP P f.media f.frame (k + 1) = none by rw [findP_skip (fun h => qm h.1)]; exact HNf.out)
                go_wp2_with fail
                go_quiet (fail)
                go_wp2
                go_round
                case rel => exact ⟨k + 1, by omega, by go_num, below_drewN HBx.out _, HNn⟩
                case measure => simp [intOf]; omega
            · obtain rfl : k = m := by omega
              have HE := Lib.hid (evX_1n (P := P) (m := k) (W := W) (H := H) (a := a) HQ1.out HNf.out)
              have FR3 : ∀ o, wr.frozen? ⟨w.heap.size + 1, o, none⟩ = false := fun o => (hBx.frozen (by simp; omega)).trans (FR2 o)
              have HR3 := Lib.hid (R2.below hBx)
              obtain ⟨k0, k1, k2, k3, k4⟩ := HR3.out
              clear R2 FR2 hBx
              go_wp2_with fail
              refine bodyPost_ret (results_cell_tmp Try.results66 _ _ _ rfl rfl (load_fr (HR3.out.put5 _ _ _ _ _))) rfl ?_
              exact ⟨_, by rw [HE.out]; rfl, by rw [HE.out]; exact FA.zero _, by go_grown⟩
        have q1 : (f.op == 1) = false := by rw [beq_eq_false_iff_ne]; exact q
        have n1 := q
        clear q
        by_cases q : f.op = 2
        · rw [q] at e0
          have hnn : f.n = 2 := by have := HN.out; rw [q] at this; simpa using this
          have HAA := HA.out
          rw [hnn] at HAA
          rcases HAA with ⟨_, h0⟩ | ⟨gb, cap, cur, rfl, h0, h2, h3, h4, h5, h6, h7, A2⟩
          · omega
          obtain ⟨ay0, cy0, au0, cu0, av0, cv0, hC0, hA0⟩ := A2 0 (by decide)
          obtain ⟨ay1, cy1, au1, cu1, av1, cv1, hC1, hA1⟩ := A2 1 (by decide)
          clear A2 h3 h5 h6 h7
          have HE := Lib.hid (evX_2 (P := P) (m := m) (W := W) (H := H) (a := a) q (HZ.out 0 (by omega)) (HZ.out 1 (by omega)))
          simp only at hC0 hA0 hC1 hA1
          obtain ⟨X0, hX0⟩ : ∃ X, X = evX P m W H (a 0) := ⟨_, rfl⟩
          rw [← hX0] at hC0 hA0 HE
          clear hX0
          obtain ⟨X1, hX1⟩ : ∃ X, X = evX P m W H (a 1) := ⟨_, rfl⟩
          rw [← hX1] at hC1 hA1 HE
          clear hX1
          have hG : gb < wr.heap.size := hC0.lt
          have hne : gb ≠ w.heap.size + 1 := by omega
          have a00 : wr.cell? ⟨gb, 0, none⟩ = some (.int .i64 X0.2.W) := hC0.k0
          have a01 : wr.cell? ⟨gb, 1, none⟩ = some (.int .i64 X0.2.H) := hC0.k1
          have a02 : wr.cell? ⟨gb, 2, none⟩ = some (.slice ay0 X0.2.nY cy0) := hC0.k2
          have a03 : wr.cell? ⟨gb, 3, none⟩ = some (.slice au0 X0.2.nU cu0) := hC0.k3
          have a04 : wr.cell? ⟨gb, 4, none⟩ = some (.slice av0 X0.2.nV cv0) := hC0.k4
          have a10 : wr.cell? ⟨gb, 5, none⟩ = some (.int .i64 X1.2.W) := hC1.k0
          have a11 : wr.cell? ⟨gb, 6, none⟩ = some (.int .i64 X1.2.H) := hC1.k1
          have a12 : wr.cell? ⟨gb, 7, none⟩ = some (.slice ay1 X1.2.nY cy1) := hC1.k2
          have a13 : wr.cell? ⟨gb, 8, none⟩ = some (.slice au1 X1.2.nU cu1) := hC1.k3
          have a14 : wr.cell? ⟨gb, 9, none⟩ = some (.slice av1 X1.2.nV cv1) := hC1.k4
          have e3 := E2.k3
          have e4 := E2.k4
          clear E2 hC0 hC1 e7
          have e7 := HBe.out.k7
          go_wp2_with fail
          refine Plan.wp_region_plan (Stay (w.heap.size + 1) wr) (([0, 1, 2, 3, 4, 5, 6, 7, 8, 9].map (·, true)) ++ (([10].map (·, false)) ++ (([11, 12].map (·, true)) ++ (([13].map (·, false)) ++ (([14].map (·, true))))))) (by kernel_rfl) (by kernel_rfl) (by kernel_rfl) (fun _ _ _ => rfl) ?_
          refine' Plan.plan_seg _ [0, 1, 2, 3, 4, 5, 6, 7, 8, 9] (([10].map (·, false)) ++ (([11, 12].map (·, true)) ++ (([13].map (·, false)) ++ (([14].map (·, true)))))) (by kernel_rfl) (by kernel_rfl) rfl (by exact (fun _ _ _ => rfl)) (fun wx hS => ?_) ?_
          rotate_left
          · skip
            have y_a00 := (hS ⟨gb, 0, none⟩ hG hne).trans a00
            have y_a01 := (hS ⟨gb, 1, none⟩ hG hne).trans a01
            have y_a02 := (hS ⟨gb, 2, none⟩ hG hne).trans a02
            have y_a03 := (hS ⟨gb, 3, none⟩ hG hne).trans a03
            have y_a04 := (hS ⟨gb, 4, none⟩ hG hne).trans a04
            have y_a10 := (hS ⟨gb, 5, none⟩ hG hne).trans a10
            have y_a11 := (hS ⟨gb, 6, none⟩ hG hne).trans a11
            have y_a12 := (hS ⟨gb, 7, none⟩ hG hne).trans a12
            have y_a13 := (hS ⟨gb, 8, none⟩ hG hne).trans a13
            have y_a14 := (hS ⟨gb, 9, none⟩ hG hne).trans a14
            have y_e3 := (hS ⟨w.heap.size, 3, none⟩ (show w.heap.size < wr.heap.size by omega) (show w.heap.size ≠ w.heap.size + 1 by omega)).trans e3
            have y_e4 := (hS ⟨w.heap.size, 4, none⟩ (show w.heap.size < wr.heap.size by omega) (show w.heap.size ≠ w.heap.size + 1 by omega)).trans e4
            clear hS
            go_light
            iterate 10 (apply Plan.seg_pick; rfl; intro K hK; go_wp)
            exact Plan.seg_nil
          clear a00 a01 a02 a03 a04 a10 a11 a12 a13 a14 e3 e4 e0 e7
          refine Plan.plan_of_effect rfl (fun K hK => ?_)
          go_wp2_with fail
          refine (rmix_any _ _ X0.2 X1.2 f.num f.den _ (hA0.below (Below.refl _ _).drew) (hA1.below (Below.refl _ _).drew)).mono ?_
          rintro r2 w3 ⟨x, rfl, hFx, hb3⟩
          have BB : Below wr.heap.size wr w3 := (Below.refl _ _).drew.trans hb3
          have S3 : Stay (w.heap.size + 1) wr w3 := Stay.below (fun _ _ _ => rfl) (Nat.le_refl _) BB
          have W3 : Below w.heap.size w w3 := hWr.trans (BB.mono (by omega))
          have FR3 : ∀ o, w3.frozen? ⟨w.heap.size + 1, o, none⟩ = false := fun o => (BB.frozen (by simp; omega)).trans (FR2 o)
          have HR3 := Lib.hid (R2.below BB)
          obtain ⟨k0, k1, k2, k3, k4⟩ := HR3.out
          have HFx := Lib.hid hFx
          obtain ⟨ay, cy, au, cu, av, cv, rfl⟩ := hFx.shape
          clear hFx hb3 BB R2 FR2
          go_wp2_with fail
          refine ⟨S3, ?_⟩
          refine' Plan.plan_seg _ [11, 12] (([13].map (·, false)) ++ (([14].map (·, true)))) (by kernel_rfl) (by kernel_rfl) rfl (by exact S3) (fun wx hS => ?_) ?_
          rotate_left
          · skip
            clear hS
            go_light
            iterate 2 (apply Plan.seg_pick; rfl; intro K hK; go_wp)
            exact Plan.seg_nil
          refine Plan.plan_of_effect rfl (fun K hK => ?_)
          go_wp2_with fail
          have S4 := Lib.hid S3
          clear S3
          refine ⟨Stay.set5 S4.out _ _ _ _ _, ?_⟩
          refine' Plan.plan_seg _ [14] ([]) (by kernel_rfl) (by kernel_rfl) rfl (by exact (Stay.set5 S4.out _ _ _ _ _)) (fun wx hS => ?_) ?_
          rotate_left
          · skip
            clear hS
            go_light
            iterate 1 (apply Plan.seg_pick; rfl; intro K hK; go_wp)
            exact Plan.seg_nil
          refine Plan.plan_done ?_
          go_wp2_with fail
          refine bodyPost_ret (results_cell_tmp Try.results66 _ _ _ rfl rfl (load_fr (HR3.out.put5 _ _ _ _ _))) rfl ?_
          exact ⟨_, by rw [HE.out]; rfl, by rw [HE.out]; exact HFx.out.put5 k0 k1 k2 k3 k4, by go_grown⟩
        have q2 : (f.op == 2) = false := by rw [beq_eq_false_iff_ne]; exact q
        have n2 := q
        clear q
        by_cases q : f.op = 3
        · rw [q] at e0
          have hnn : f.n = 2 := by have := HN.out; rw [q] at this; simpa using this
          have HAA := HA.out
          rw [hnn] at HAA
          rcases HAA with ⟨_, h0⟩ | ⟨gb, cap, cur, rfl, h0, h2, h3, h4, h5, h6, h7, A2⟩
          · omega
          obtain ⟨ay0, cy0, au0, cu0, av0, cv0, hC0, hA0⟩ := A2 0 (by decide)
          obtain ⟨ay1, cy1, au1, cu1, av1, cv1, hC1, hA1⟩ := A2 1 (by decide)
          clear A2 h3 h5 h6 h7
          have HE := Lib.hid (evX_3 (P := P) (m := m) (W := W) (H := H) (a := a) q (HZ.out 0 (by omega)) (HZ.out 1 (by omega)))
          simp only at hC0 hA0 hC1 hA1
          obtain ⟨X0, hX0⟩ : ∃ X, X = evX P m W H (a 0) := ⟨_, rfl⟩
          rw [← hX0] at hC0 hA0 HE
          clear hX0
          obtain ⟨X1, hX1⟩ : ∃ X, X = evX P m W H (a 1) := ⟨_, rfl⟩
          rw [← hX1] at hC1 hA1 HE
          clear hX1
          have hG : gb < wr.heap.size := hC0.lt
          have hne : gb ≠ w.heap.size + 1 := by omega
          have a00 : wr.cell? ⟨gb, 0, none⟩ = some (.int .i64 X0.2.W) := hC0.k0
          have a01 : wr.cell? ⟨gb, 1, none⟩ = some (.int .i64 X0.2.H) := hC0.k1
          have a02 : wr.cell? ⟨gb, 2, none⟩ = some (.slice ay0 X0.2.nY cy0) := hC0.k2
          have a03 : wr.cell? ⟨gb, 3, none⟩ = some (.slice au0 X0.2.nU cu0) := hC0.k3
          have a04 : wr.cell? ⟨gb, 4, none⟩ = some (.slice av0 X0.2.nV cv0) := hC0.k4
          have a10 : wr.cell? ⟨gb, 5, none⟩ = some (.int .i64 X1.2.W) := hC1.k0
          have a11 : wr.cell? ⟨gb, 6, none⟩ = some (.int .i64 X1.2.H) := hC1.k1
          have a12 : wr.cell? ⟨gb, 7, none⟩ = some (.slice ay1 X1.2.nY cy1) := hC1.k2
          have a13 : wr.cell? ⟨gb, 8, none⟩ = some (.slice au1 X1.2.nU cu1) := hC1.k3
          have a14 : wr.cell? ⟨gb, 9, none⟩ = some (.slice av1 X1.2.nV cv1) := hC1.k4
          have e3 := E2.k3
          have e4 := E2.k4
          have e5 := E2.k5
          clear E2 hC0 hC1 e7
          have e7 := HBe.out.k7
          go_wp2_with fail
          refine Plan.wp_region_plan (Stay (w.heap.size + 1) wr) (([0, 1, 2, 3, 4, 5, 6, 7, 8, 9, 10, 11].map (·, true)) ++ (([12].map (·, false)) ++ (([13, 14].map (·, true)) ++ (([15].map (·, false)) ++ (([16].map (·, true))))))) (by kernel_rfl) (by kernel_rfl) (by kernel_rfl) (fun _ _ _ => rfl) ?_
          refine' Plan.plan_seg _ [0, 1, 2, 3, 4, 5, 6, 7, 8, 9, 10, 11] (([12].map (·, false)) ++ (([13, 14].map (·, true)) ++ (([15].map (·, false)) ++ (([16].map (·, true)))))) (by kernel_rfl) (by kernel_rfl) rfl (by exact (fun _ _ _ => rfl)) (fun wx hS => ?_) ?_
          rotate_left
          · skip
            have y_a00 := (hS ⟨gb, 0, none⟩ hG hne).trans a00
            have y_a01 := (hS ⟨gb, 1, none⟩ hG hne).trans a01
            have y_a02 := (hS ⟨gb, 2, none⟩ hG hne).trans a02
            have y_a03 := (hS ⟨gb, 3, none⟩ hG hne).trans a03
            have y_a04 := (hS ⟨gb, 4, none⟩ hG hne).trans a04
            have y_a10 := (hS ⟨gb, 5, none⟩ hG hne).trans a10
            have y_a11 := (hS ⟨gb, 6, none⟩ hG hne).trans a11
            have y_a12 := (hS ⟨gb, 7, none⟩ hG hne).trans a12
            have y_a13 := (hS ⟨gb, 8, none⟩ hG hne).trans a13
            have y_a14 := (hS ⟨gb, 9, none⟩ hG hne).trans a14
            have y_e3 := (hS ⟨w.heap.size, 3, none⟩ (show w.heap.size < wr.heap.size by omega) (show w.heap.size ≠ w.heap.size + 1 by omega)).trans e3
            have y_e4 := (hS ⟨w.heap.size, 4, none⟩ (show w.heap.size < wr.heap.size by omega) (show w.heap.size ≠ w.heap.size + 1 by omega)).trans e4
            have y_e5 := (hS ⟨w.heap.size, 5, none⟩ (show w.heap.size < wr.heap.size by omega) (show w.heap.size ≠ w.heap.size + 1 by omega)).trans e5
            clear hS
            go_light
            iterate 12 (apply Plan.seg_pick; rfl; intro K hK; go_wp)
            exact Plan.seg_nil
          clear a00 a01 a02 a03 a04 a10 a11 a12 a13 a14 e3 e4 e5 e0 e7
          refine Plan.plan_of_effect rfl (fun K hK => ?_)
          go_wp2_with fail
          refine (rwipe_any _ _ X0.2 X1.2 f.num f.den f.par _ (hA0.below (Below.refl _ _).drew) (hA1.below (Below.refl _ _).drew)).mono ?_
          rintro r2 w3 ⟨x, rfl, hFx, hb3⟩
          have BB : Below wr.heap.size wr w3 := (Below.refl _ _).drew.trans hb3
          have S3 : Stay (w.heap.size + 1) wr w3 := Stay.below (fun _ _ _ => rfl) (Nat.le_refl _) BB
          have W3 : Below w.heap.size w w3 := hWr.trans (BB.mono (by omega))
          have FR3 : ∀ o, w3.frozen? ⟨w.heap.size + 1, o, none⟩ = false := fun o => (BB.frozen (by simp; omega)).trans (FR2 o)
          have HR3 := Lib.hid (R2.below BB)
          obtain ⟨k0, k1, k2, k3, k4⟩ := HR3.out
          have HFx := Lib.hid hFx
          obtain ⟨ay, cy, au, cu, av, cv, rfl⟩ := hFx.shape
          clear hFx hb3 BB R2 FR2
          go_wp2_with fail
          refine ⟨S3, ?_⟩
          refine' Plan.plan_seg _ [13, 14] (([15].map (·, false)) ++ (([16].map (·, true)))) (by kernel_rfl) (by kernel_rfl) rfl (by exact S3) (fun wx hS => ?_) ?_
          rotate_left
          · skip
            clear hS
            go_light
            iterate 2 (apply Plan.seg_pick; rfl; intro K hK; go_wp)
            exact Plan.seg_nil
          refine Plan.plan_of_effect rfl (fun K hK => ?_)
          go_wp2_with fail
          have S4 := Lib.hid S3
          clear S3
          refine ⟨Stay.set5 S4.out _ _ _ _ _, ?_⟩
          refine' Plan.plan_seg _ [16] ([]) (by kernel_rfl) (by kernel_rfl) rfl (by exact (Stay.set5 S4.out _ _ _ _ _)) (fun wx hS => ?_) ?_
          rotate_left
          · skip
            clear hS
            go_light
            iterate 1 (apply Plan.seg_pick; rfl; intro K hK; go_wp)
            exact Plan.seg_nil
          refine Plan.plan_done ?_
          go_wp2_with fail
          refine bodyPost_ret (results_cell_tmp Try.results66 _ _ _ rfl rfl (load_fr (HR3.out.put5 _ _ _ _ _))) rfl ?_
          exact ⟨_, by rw [HE.out]; rfl, by rw [HE.out]; exact HFx.out.put5 k0 k1 k2 k3 k4, by go_grown⟩
        have q3 : (f.op == 3) = false := by rw [beq_eq_false_iff_ne]; exact q
        have n3 := q
        clear q
        by_cases q : f.op = 4
        · rw [q] at e0
          have hnn : f.n = 2 := by have := HN.out; rw [q] at this; simpa using this
          have HAA := HA.out
          rw [hnn] at HAA
          rcases HAA with ⟨_, h0⟩ | ⟨gb, cap, cur, rfl, h0, h2, h3, h4, h5, h6, h7, A2⟩
          · omega
          obtain ⟨ay0, cy0, au0, cu0, av0, cv0, hC0, hA0⟩ := A2 0 (by decide)
          obtain ⟨ay1, cy1, au1, cu1, av1, cv1, hC1, hA1⟩ := A2 1 (by decide)
          clear A2 h3 h5 h6 h7
          have HE := Lib.hid (evX_4 (P := P) (m := m) (W := W) (H := H) (a := a) q (HZ.out 0 (by omega)) (HZ.out 1 (by omega)))
          simp only at hC0 hA0 hC1 hA1
          obtain ⟨X0, hX0⟩ : ∃ X, X = evX P m W H (a 0) := ⟨_, rfl⟩
          rw [← hX0] at hC0 hA0 HE
          clear hX0
          obtain ⟨X1, hX1⟩ : ∃ X, X = evX P m W H (a 1) := ⟨_, rfl⟩
          rw [← hX1] at hC1 hA1 HE
          clear hX1
          have hG : gb < wr.heap.size := hC0.lt
          have hne : gb ≠ w.heap.size + 1 := by omega
          have a00 : wr.cell? ⟨gb, 0, none⟩ = some (.int .i64 X0.2.W) := hC0.k0
          have a01 : wr.cell? ⟨gb, 1, none⟩ = some (.int .i64 X0.2.H) := hC0.k1
          have a02 : wr.cell? ⟨gb, 2, none⟩ = some (.slice ay0 X0.2.nY cy0) := hC0.k2
          have a03 : wr.cell? ⟨gb, 3, none⟩ = some (.slice au0 X0.2.nU cu0) := hC0.k3
          have a04 : wr.cell? ⟨gb, 4, none⟩ = some (.slice av0 X0.2.nV cv0) := hC0.k4
          have a10 : wr.cell? ⟨gb, 5, none⟩ = some (.int .i64 X1.2.W) := hC1.k0
          have a11 : wr.cell? ⟨gb, 6, none⟩ = some (.int .i64 X1.2.H) := hC1.k1
          have a12 : wr.cell? ⟨gb, 7, none⟩ = some (.slice ay1 X1.2.nY cy1) := hC1.k2
          have a13 : wr.cell? ⟨gb, 8, none⟩ = some (.slice au1 X1.2.nU cu1) := hC1.k3
          have a14 : wr.cell? ⟨gb, 9, none⟩ = some (.slice av1 X1.2.nV cv1) := hC1.k4
          have e5 := E2.k5
          clear E2 hC0 hC1 e7
          have e7 := HBe.out.k7
          go_wp2_with fail
          refine Plan.wp_region_plan (Stay (w.heap.size + 1) wr) (([0, 1, 2, 3, 4, 5, 6, 7].map (·, true)) ++ (([8].map (·, false)) ++ (([9, 10].map (·, true)) ++ (([11].map (·, false)) ++ (([12].map (·, true))))))) (by kernel_rfl) (by kernel_rfl) (by kernel_rfl) (fun _ _ _ => rfl) ?_
          refine' Plan.plan_seg _ [0, 1, 2, 3, 4, 5, 6, 7] (([8].map (·, false)) ++ (([9, 10].map (·, true)) ++ (([11].map (·, false)) ++ (([12].map (·, true)))))) (by kernel_rfl) (by kernel_rfl) rfl (by exact (fun _ _ _ => rfl)) (fun wx hS => ?_) ?_
          rotate_left
          · skip
            have y_a00 := (hS ⟨gb, 0, none⟩ hG hne).trans a00
            have y_a01 := (hS ⟨gb, 1, none⟩ hG hne).trans a01
            have y_a02 := (hS ⟨gb, 2, none⟩ hG hne).trans a02
            have y_a03 := (hS ⟨gb, 3, none⟩ hG hne).trans a03
            have y_a04 := (hS ⟨gb, 4, none⟩ hG hne).trans a04
            have y_a10 := (hS ⟨gb, 5, none⟩ hG hne).trans a10
            have y_a11 := (hS ⟨gb, 6, none⟩ hG hne).trans a11
            have y_a12 := (hS ⟨gb, 7, none⟩ hG hne).trans a12
            have y_a13 := (hS ⟨gb, 8, none⟩ hG hne).trans a13
            have y_a14 := (hS ⟨gb, 9, none⟩ hG hne).trans a14
            have y_e5 := (hS ⟨w.heap.size, 5, none⟩ (show w.heap.size < wr.heap.size by omega) (show w.heap.size ≠ w.heap.size + 1 by omega)).trans e5
            clear hS
            go_light
            iterate 8 (apply Plan.seg_pick; rfl; intro K hK; go_wp)
            exact Plan.seg_nil
          clear a00 a01 a02 a03 a04 a10 a11 a12 a13 a14 e5 e0 e7
          refine Plan.plan_of_effect rfl (fun K hK => ?_)
          go_wp2_with fail
          refine (rkey_any _ _ X0.2 X1.2 f.par _ (hA0.below (Below.refl _ _).drew) (hA1.below (Below.refl _ _).drew)).mono ?_
          rintro r2 w3 ⟨x, rfl, hFx, hb3⟩
          have BB : Below wr.heap.size wr w3 := (Below.refl _ _).drew.trans hb3
          have S3 : Stay (w.heap.size + 1) wr w3 := Stay.below (fun _ _ _ => rfl) (Nat.le_refl _) BB
          have W3 : Below w.heap.size w w3 := hWr.trans (BB.mono (by omega))
          have FR3 : ∀ o, w3.frozen? ⟨w.heap.size + 1, o, none⟩ = false := fun o => (BB.frozen (by simp; omega)).trans (FR2 o)
          have HR3 := Lib.hid (R2.below BB)
          obtain ⟨k0, k1, k2, k3, k4⟩ := HR3.out
          have HFx := Lib.hid hFx
          obtain ⟨ay, cy, au, cu, av, cv, rfl⟩ := hFx.shape
          clear hFx hb3 BB R2 FR2
          go_wp2_with fail
          refine ⟨S3, ?_⟩
          refine' Plan.plan_seg _ [9, 10] (([11].map (·, false)) ++ (([12].map (·, true)))) (by kernel_rfl) (by kernel_rfl) rfl (by exact S3) (fun wx hS => ?_) ?_
          rotate_left
          · skip
            clear hS
            go_light
            iterate 2 (apply Plan.seg_pick; rfl; intro K hK; go_wp)
            exact Plan.seg_nil
          refine Plan.plan_of_effect rfl (fun K hK => ?_)
          go_wp2_with fail
          have S4 := Lib.hid S3
          clear S3
          refine ⟨Stay.set5 S4.out _ _ _ _ _, ?_⟩
          refine' Plan.plan_seg _ [12] ([]) (by kernel_rfl) (by kernel_rfl) rfl (by exact (Stay.set5 S4.out _ _ _ _ _)) (fun wx hS => ?_) ?_
          rotate_left
          · skip
            clear hS
            go_light
            iterate 1 (apply Plan.seg_pick; rfl; intro K hK; go_wp)
            exact Plan.seg_nil
          refine Plan.plan_done ?_
          go_wp2_with fail
          refine bodyPost_ret (results_cell_tmp Try.results66 _ _ _ rfl rfl (load_fr (HR3.out.put5 _ _ _ _ _))) rfl ?_
          exact ⟨_, by rw [HE.out]; rfl, by rw [HE.out]; exact HFx.out.put5 k0 k1 k2 k3 k4, by go_grown⟩
        have q4 : (f.op == 4) = false := by rw [beq_eq_false_iff_ne]; exact q
        have n4 := q
        clear q
        by_cases q : f.op = 5
        · rw [q] at e0
          have hnn : f.n = 1 := by have := HN.out; rw [q] at this; simpa using this
          have HAA := HA.out
          rw [hnn] at HAA
          rcases HAA with ⟨_, h0⟩ | ⟨gb, cap, cur, rfl, h0, h2, h3, h4, h5, h6, h7, A2⟩
          · omega
          obtain ⟨ay0, cy0, au0, cu0, av0, cv0, hC0, hA0⟩ := A2 0 (by decide)
          clear A2 h3 h5 h6 h7
          have HE := Lib.hid (evX_5 (P := P) (m := m) (W := W) (H := H) (a := a) q (HZ.out 0 (by omega)))
          simp only at hC0 hA0
          obtain ⟨X0, hX0⟩ : ∃ X, X = evX P m W H (a 0) := ⟨_, rfl⟩
          rw [← hX0] at hC0 hA0 HE
          clear hX0
          have hG : gb < wr.heap.size := hC0.lt
          have hne : gb ≠ w.heap.size + 1 := by omega
          have a00 : wr.cell? ⟨gb, 0, none⟩ = some (.int .i64 X0.2.W) := hC0.k0
          have a01 : wr.cell? ⟨gb, 1, none⟩ = some (.int .i64 X0.2.H) := hC0.k1
          have a02 : wr.cell? ⟨gb, 2, none⟩ = some (.slice ay0 X0.2.nY cy0) := hC0.k2
          have a03 : wr.cell? ⟨gb, 3, none⟩ = some (.slice au0 X0.2.nU cu0) := hC0.k3
          have a04 : wr.cell? ⟨gb, 4, none⟩ = some (.slice av0 X0.2.nV cv0) := hC0.k4
          have e6 := E2.k6
          clear E2 hC0 e7
          have e7 := HBe.out.k7
          go_wp2_with fail
          refine Plan.wp_region_plan (Stay (w.heap.size + 1) wr) (([0, 1, 2, 3, 4].map (·, true)) ++ (([5].map (·, false)) ++ (([6, 7].map (·, true)) ++ (([8].map (·, false)) ++ (([9].map (·, true))))))) (by kernel_rfl) (by kernel_rfl) (by kernel_rfl) (fun _ _ _ => rfl) ?_
          refine' Plan.plan_seg _ [0, 1, 2, 3, 4] (([5].map (·, false)) ++ (([6, 7].map (·, true)) ++ (([8].map (·, false)) ++ (([9].map (·, true)))))) (by kernel_rfl) (by kernel_rfl) rfl (by exact (fun _ _ _ => rfl)) (fun wx hS => ?_) ?_
          rotate_left
          · skip
            have y_a00 := (hS ⟨gb, 0, none⟩ hG hne).trans a00
            have y_a01 := (hS ⟨gb, 1, none⟩ hG hne).trans a01
            have y_a02 := (hS ⟨gb, 2, none⟩ hG hne).trans a02
            have y_a03 := (hS ⟨gb, 3, none⟩ hG hne).trans a03
            have y_a04 := (hS ⟨gb, 4, none⟩ hG hne).trans a04
            have y_e6 := (hS ⟨w.heap.size, 6, none⟩ (show w.heap.size < wr.heap.size by omega) (show w.heap.size ≠ w.heap.size + 1 by omega)).trans e6
            clear hS
            go_light
            iterate 5 (apply Plan.seg_pick; rfl; intro K hK; go_wp)
            exact Plan.seg_nil
          clear a00 a01 a02 a03 a04 e6 e0 e7
          refine Plan.plan_of_effect rfl (fun K hK => ?_)
          go_wp2_with fail
          refine (rtitle_any _ X0.2 f.text _ (hA0.below (Below.refl _ _).drew) hf.t).mono ?_
          rintro r2 w3 ⟨x, rfl, hFx, hb3⟩
          have BB : Below wr.heap.size wr w3 := (Below.refl _ _).drew.trans hb3
          have S3 : Stay (w.heap.size + 1) wr w3 := Stay.below (fun _ _ _ => rfl) (Nat.le_refl _) BB
          have W3 : Below w.heap.size w w3 := hWr.trans (BB.mono (by omega))
          have FR3 : ∀ o, w3.frozen? ⟨w.heap.size + 1, o, none⟩ = false := fun o => (BB.frozen (by simp; omega)).trans (FR2 o)
          have HR3 := Lib.hid (R2.below BB)
          obtain ⟨k0, k1, k2, k3, k4⟩ := HR3.out
          have HFx := Lib.hid hFx
          obtain ⟨ay, cy, au, cu, av, cv, rfl⟩ := hFx.shape
          clear hFx hb3 BB R2 FR2
          go_wp2_with fail
          refine ⟨S3, ?_⟩
          refine' Plan.plan_seg _ [6, 7] (([8].map (·, false)) ++ (([9].map (·, true)))) (by kernel_rfl) (by kernel_rfl) rfl (by exact S3) (fun wx hS => ?_) ?_
          rotate_left
          · skip
            clear hS
            go_light
            iterate 2 (apply Plan.seg_pick; rfl; intro K hK; go_wp)
            exact Plan.seg_nil
          refine Plan.plan_of_effect rfl (fun K hK => ?_)
          go_wp2_with fail
          have S4 := Lib.hid S3
          clear S3
          refine ⟨Stay.set5 S4.out _ _ _ _ _, ?_⟩
          refine' Plan.plan_seg _ [9] ([]) (by kernel_rfl) (by kernel_rfl) rfl (by exact (Stay.set5 S4.out _ _ _ _ _)) (fun wx hS => ?_) ?_
          rotate_left
          · skip
            clear hS
            go_light
            iterate 1 (apply Plan.seg_pick; rfl; intro K hK; go_wp)
            exact Plan.seg_nil
          refine Plan.plan_done ?_
          go_wp2_with fail
          refine bodyPost_ret (results_cell_tmp Try.results66 _ _ _ rfl rfl (load_fr (HR3.out.put5 _ _ _ _ _))) rfl ?_
          exact ⟨_, by rw [HE.out]; rfl, by rw [HE.out]; exact HFx.out.put5 k0 k1 k2 k3 k4, by go_grown⟩
        have q5 : (f.op == 5) = false := by rw [beq_eq_false_iff_ne]; exact q
        have n5 := q
        clear q
        have q : f.op = 0 := by omega
        rw [q] at e0
        have HE := Lib.hid (evX_0 (P := P) (m := m) (W := W) (H := H) (a := a) q)
        clear E2
        go_wp2_with fail
        refine (rblack_yes W H _ HS.out).mono ?_
        rintro r2 w3 ⟨x, rfl, hFx, hb3⟩
        have W3 : Below w.heap.size w w3 := hWr.trans (hb3.mono (by omega))
        have FR3 : ∀ o, w3.frozen? ⟨w.heap.size + 1, o, none⟩ = false := fun o => (hb3.frozen (by simp; omega)).trans (FR2 o)
        have HR3 := Lib.hid (R2.below hb3)
        obtain ⟨k0, k1, k2, k3, k4⟩ := HR3.out
        have HFx := Lib.hid hFx
        obtain ⟨ay, cy, au, cu, av, cv, rfl⟩ := hFx.shape
        clear hFx hb3 R2 FR2 e0
        go_wp2_with fail
        refine bodyPost_ret (results_cell_tmp Try.results66 _ _ _ rfl rfl (load_fr (HR3.out.put5 _ _ _ _ _))) rfl ?_
        exact ⟨_, by rw [HE.out]; rfl, by rw [HE.out]; exact HFx.out.put5 k0 k1 k2 k3 k4, by go_grown⟩

end Go.Proofs.Ytnnobdcbmagbaaa
