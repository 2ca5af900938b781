/- The contract of isomedia.Presented. -/
import Derived.Test.YtkhjkemllgjfmaaO
import Derived.Test.YtkhjkemllgjfmaaQ
import Derived.Test.YtkhjkemllgjfmaaD
namespace Go.Proofs.Ytkhjkemllgjfmaa
open Go.RowKit
set_option linter.unusedVariables false

theorem info2 : (Try.prog.info? 2).map (fun i => (i.zero, i.size, i.bytes)) = some (some (.int .i64 0), 1, 8) := by kernel_rfl

/-- When samples are decoded. -/
def atT (S : Nat → Sm) : Nat → Int
  | 0 => 0
  | k + 1 => atT S k + (S k).dur
theorem atT_bd {S : Nat → Sm} {n k : Nat} (h : ∀ i, i < n → okSm (S i) = true) (hk : k ≤ n) : 0 ≤ atT S k ∧ atT S k ≤ (k : Int) * 16777216 := by
  induction k with
  | zero => simp [atT]
  | succ k ih =>
    have h1 := ih (by omega)
    have h2 := h k (by omega)
    unfold okSm at h2
    simp only [decide_eq_true_eq] at h2
    simp only [atT]
    omega
def timeV (T : Tr) (sc : Int) (i : Nat) : Int := showF T (atT T.S i + (T.S i).shift) sc
def timeL (T : Tr) (sc : Int) (i : Nat) : List Value := [.int .i64 (timeV T sc i)]

/-- What Presented leaves. -/
def PresPost (w : World) (F : Fl) (kk : Int) (e : Ending) (w' : World) : Prop :=
  ∃ v c, e = .returned (.tuple #[v, .int .i64 c]) ∧ Below w.heap.size w w' ∧
    (if okFl F = false then v = .slice none 0 0 ∧ c = 1 else if kk < 0 ∨ (F.nT : Int) ≤ kk then v = .slice none 0 0 ∧ c = 7 else
      c = 0 ∧ w'.ownsRow w.heap.size 2 1 v (F.T kk.toNat).nS (rowsOf (timeL (F.T kk.toNat) F.sc) (F.T kk.toNat).nS))

theorem idle33 (p q : Addr) (w : World) : CallsD Try.prog 33 #[.pointer (some p), .pointer (some q)] .returning w fun e u' w' => e = .returned (.tuple #[]) ∧ u' = .returning ∧ w' = w := by
  refine callsD_of_wpS Try.func33 rfl fun c₀ cs hu => ?_
  apply wpS_seq
  apply wpS_region
  simp [wpOpsS, go_sem, recoverD, hu, Try.ntmps33, Exit.thenS]
  refine wpS_cond (t := false) (by simp [Act.eval, Array.replicate]) ?_
  simp only [Bool.false_eq_true, if_false]
  refine wpS_of_wp (wp_skip ?_)
  cases c₀
  simp_all [bodyPostS, results, Try.results33]

set_option maxRecDepth 100000 in
set_option maxHeartbeats 4000000 in
theorem pres_any (v : Value) (F : Fl) (kk : Int) (w : World) (hv : FA w v F) (hm : F.nT ≤ 1000000) :
    Calls Try.prog 17 #[v, .int .i64 kk] w (PresPost w F kk) := by
  have hmf : ∀ (fn : Fn) (first cap : Array Value) (w : World), (Instr.makeFunc fn first cap).run Try.prog w = .ok (.func fn first cap) w := fun _ _ _ _ => rfl
  have hv0 := hv
  obtain ⟨ts, rfl, hts⟩ := hv
  obtain ⟨ao, c, rfl⟩ := hts.shape
  have HT := Lib.hid hts
  have HV := Lib.hid hv0
  clear hts hv0
  go_enter_defers Try.func17, Try.ntmps17
  go_wp2_with fail
  obtain ⟨w1, hw⟩ : ∃ x, x = ((w.alloc (.cells #[.int .i64 F.sc, .slice ao F.nT c] 56)).alloc (.cells #[.slice none 0 0] 51)).alloc (.cells #[.int .i64 0] 24) := ⟨_, rfl⟩
  rw [← hw]
  have hb1 : Below w.heap.size w w1 := by rw [hw]; go_grown
  have xf : B2 w1 w.heap.size (.int .i64 F.sc) (.slice ao F.nT c) := by
    rw [hw]; exact ((B2.of_alloc w _ _ _ 56 rfl).far (below_box _ _) (by simp)).far (below_box _ _) (by simp; omega)
  have CL := Lib.hid (show C1 w1 (w.heap.size + 1) (.slice none 0 0) by rw [hw]; exact ⟨by simp [go_sem], by simp [go_sem]⟩)
  have CE := Lib.hid (show C1 w1 (w.heap.size + 1 + 1) (.int .i64 0) by rw [hw]; exact ⟨by simp [go_sem], by simp [go_sem]⟩)
  have hsz : w1.heap.size = w.heap.size + 1 + 1 + 1 := by rw [hw]; simp
  obtain ⟨blf, hblf⟩ : ∃ z, z = w.heap.size := ⟨_, rfl⟩
  obtain ⟨bl, hbl⟩ : ∃ z, z = w.heap.size + 1 := ⟨_, rfl⟩
  obtain ⟨be, hbe⟩ : ∃ z, z = w.heap.size + 1 + 1 := ⟨_, rfl⟩
  have n0 : w.heap.size ≤ blf := by omega
  have n1 : blf < bl := by omega
  have n2 : bl < be := by omega
  have n3 : be < w1.heap.size := by omega
  rw [← hbe] at CE ⊢
  rw [← hbl] at CL ⊢
  rw [← hblf] at xf ⊢
  have XF := Lib.hid xf
  have HB := Lib.hid hb1
  clear hw hb1 xf hsz hblf hbl hbe
  refine (validF_any _ F w1 (HV.out.below HB.out) (by omega)).mono ?_
  rintro e w2 ⟨rfl, hb⟩
  replace XF := Lib.hid (XF.out.far hb (by omega))
  replace CL := Lib.hid (CL.out.below hb)
  replace CE := Lib.hid (CE.out.below hb)
  replace HB := Lib.hid (HB.out.trans (hb.mono HB.out.size))
  have n4 : be < w2.heap.size := by have := hb.size; omega
  have l0 := CL.out.k0
  have lz := CL.out.fz
  have e0 := CE.out.k0
  have ez := CE.out.fz
  have f0 := XF.out.k0
  have f1 := XF.out.k1
  clear hb n3
  cases hok : okFl F
  · have HP := Lib.hid hok
    go_wp2_with fail
    refine leaves_cons (f := 33) (args := #[.pointer (some ⟨bl, 0, none⟩), .pointer (some ⟨be, 0, none⟩)]) (by simp) (by simp [go_sem]) ?_
    refine (idle33 _ _ _).mono ?_
    rintro e u' w'' ⟨rfl, rfl, rfl⟩
    simp [Leaves, settle, results, Try.results17, go_sem, l0, e0]
    have h := HB.out
    exact ⟨_, _, rfl, by go_grown, by rw [if_pos HP.out]; exact ⟨rfl, rfl⟩⟩
  have HOK := Lib.hid hok
  have hnok : ¬ okFl F = false := by rw [hok]; simp
  have HN := Lib.hid hnok
  clear hok hnok
  by_cases hneg : kk < 0
  · go_wp2_with fail
    refine leaves_cons (f := 33) (args := #[.pointer (some ⟨bl, 0, none⟩), .pointer (some ⟨be, 0, none⟩)]) (by simp) (by simp [go_sem]) ?_
    refine (idle33 _ _ _).mono ?_
    rintro e u' w'' ⟨rfl, rfl, rfl⟩
    simp [Leaves, settle, results, Try.results17, go_sem, l0, e0]
    have h := HB.out
    exact ⟨_, _, rfl, by go_grown, by rw [if_neg HN.out, if_pos (by omega)]; exact ⟨rfl, rfl⟩⟩
  obtain ⟨n, rfl⟩ := Int.eq_ofNat_of_zero_le (show 0 ≤ kk by omega)
  clear hneg
  by_cases hbig : F.nT ≤ n
  · have hbd : decide (F.nT ≤ n) = true := by simpa using hbig
    go_wp2_with fail
    refine leaves_cons (f := 33) (args := #[.pointer (some ⟨bl, 0, none⟩), .pointer (some ⟨be, 0, none⟩)]) (by simp) (by simp [go_sem]) ?_
    refine (idle33 _ _ _).mono ?_
    rintro e u' w'' ⟨rfl, rfl, rfl⟩
    simp [Leaves, settle, results, Try.results17, go_sem, l0, e0]
    have h := HB.out
    exact ⟨_, _, rfl, by go_grown, by rw [if_neg HN.out, if_pos (by omega)]; exact ⟨rfl, rfl⟩⟩
  have hbd : decide (F.nT ≤ n) = false := by simpa using hbig
  have hn : n < F.nT := by omega
  obtain ⟨b, o, a2, d2, a3, d3, a4, d4, rfl, t0, t1, t2, t3, t4, hta⟩ := HT.out.at hn
  replace t0 := (HB.out.cell (block_lt_of_cell t0)).trans t0
  replace t1 := (HB.out.cell (block_lt_of_cell t1)).trans t1
  replace t2 := (HB.out.cell (block_lt_of_cell t2)).trans t2
  replace t3 := (HB.out.cell (block_lt_of_cell t3)).trans t3
  replace t4 := (HB.out.cell (block_lt_of_cell t4)).trans t4
  have HTA := Lib.hid hta
  have HFO := Lib.hid (okFl_yes HOK.out)
  have HTO := Lib.hid ((okFl_yes HOK.out).2 n hn)
  have hoe : (F.T n).nS ≤ 4096 := (okTr_yes HTO.out).1.2.2.2.2.1
  obtain ⟨T, hTe⟩ : ∃ T, T = F.T n := ⟨_, rfl⟩
  have hpost : ∀ (v : Value) (w' : World), Below w.heap.size w w' → w'.ownsRow w.heap.size 2 1 v T.nS (rowsOf (timeL T F.sc) T.nS) → PresPost w F (n : Int) (.returned (.tuple #[v, .int .i64 0])) w' := by
    intro v w' hb ho
    refine ⟨_, _, rfl, hb, ?_⟩
    rw [if_neg HN.out, if_neg (by omega)]
    rw [hTe] at ho
    exact ⟨rfl, ho⟩
  have HPO := Lib.hid hpost
  rw [← hTe] at t0 t1 t2 t3 t4 HTA HTO hoe
  clear hta hpost hTe hbig
  go_wp2_with fail
  obtain ⟨w3, hw3⟩ : ∃ x, x = w2.alloc (.cells #[.string T.h, .int .i64 T.sc, .slice a2 T.nC d2, .slice a3 T.nS d3, .slice a4 T.nE d4] 43) := ⟨_, rfl⟩
  rw [← hw3]
  have hb3 : Below w2.heap.size w2 w3 := by rw [hw3]; exact below_box _ _
  have xt : BX w3 w2.heap.size (.string T.h) (.int .i64 T.sc) (.slice a2 T.nC d2) (.slice a3 T.nS d3) (.slice a4 T.nE d4) := by
    rw [hw3]; exact BX.of_alloc _ _ _ _ _ _ _ 43 rfl
  obtain ⟨bt, hbt⟩ : ∃ z, z = w2.heap.size := ⟨_, rfl⟩
  rw [← hbt] at xt ⊢
  obtain ⟨B, hBB⟩ : ∃ z, z = w3.heap.size := ⟨_, rfl⟩
  have n5 : be < bt := by omega
  have n6 : bt < B := by have := xt.lt; omega
  have n7 : B ≤ w3.heap.size := by omega
  have n8 : w3.heap.size ≤ B := by omega
  replace XF := Lib.hid (XF.out.far hb3 (by omega))
  replace CL := Lib.hid (CL.out.below hb3)
  replace CE := Lib.hid (CE.out.below hb3)
  replace HB := Lib.hid (HB.out.trans (hb3.mono HB.out.size))
  have XT := Lib.hid xt
  have xt3 := xt.k3
  clear hw3 hb3 xt hbt hBB t0 t1 t2 t3 t4 l0 lz e0 ez f0 f1 n4
  have hnw : w.heap.size ≤ B := by omega
  go_wp2_with fail
  go_loopw [31, 7] (fun i g wr => ∃ (k : Nat) (v : Value), k ≤ T.nS ∧ i = .int .i64 (k : Int) ∧ g = .int .i64 (atT T.S k) ∧ C1 wr bl v ∧ C1 wr be (.int .i64 0) ∧ BX wr bt (.string T.h) (.int .i64 T.sc) (.slice a2 T.nC d2) (.slice a3 T.nS d3) (.slice a4 T.nE d4) ∧ B2 wr blf (.int .i64 F.sc) (.slice (some ⟨b, o, none⟩) F.nT c) ∧ wr.ownsRow B 2 1 v k (rowsOf (timeL T F.sc) k) ∧ Below w.heap.size w wr ∧ B ≤ wr.heap.size) (fun i _ _ => T.nS - (intOf i).toNat)
  case atStart => exact ⟨0, _, Nat.zero_le _, rfl, rfl, CL.out, CE.out, XT.out, XF.out, owns_nil _ _ _ _, HB.out, n7⟩
  case round =>
    obtain ⟨k, v, hk, rfl, rfl, cl, ce, xt, xf, ho, hb, hsz⟩ := hrel
    obtain ⟨va, vm, vc, rfl⟩ := owns_shape ho
    have HO := Lib.hid ho
    have HBW := Lib.hid hb
    have HCL := Lib.hid cl
    have HCE := Lib.hid ce
    have HXT := Lib.hid xt
    have HXF := Lib.hid xf
    have l0 := cl.k0
    have lz := cl.fz
    clear ho hb cl ce xt xf
    have HBB := Lib.hid HBW.out
    by_cases hlt : k < T.nS
    · obtain ⟨c0, c1, c2, c3, c4, ea, eh, es, eb2, eb3, eb4⟩ := HTA.out
      simp only [Value.agg.injEq, Array.mk.injEq, List.cons.injEq, and_true] at ea
      obtain ⟨rfl, rfl, rfl, rfl, rfl⟩ := ea
      obtain ⟨_, _, e, _, H⟩ := eb3
      simp only [Value.slice.injEq, true_and] at e
      obtain ⟨rfl, rfl⟩ := e
      obtain ⟨sb, so, x, rfl, q0, q1, q2, q3, hx⟩ := H k hlt
      obtain ⟨ax, dx, rfl⟩ := hx.shape
      have sbl : sb < w.heap.size := block_lt_of_cell q0
      have hso := (HBW.out.cell (p := ⟨sb, so + k * 4, none⟩) (by simp; omega)).trans q0
      replace q1 := (HBW.out.cell (p := ⟨sb, so + k * 4 + 1, none⟩) (by simp; omega)).trans q1
      replace q2 := (HBW.out.cell (p := ⟨sb, so + k * 4 + 2, none⟩) (by simp; omega)).trans q2
      replace q3 := (HBW.out.cell (p := ⟨sb, so + k * 4 + 3, none⟩) (by simp; omega)).trans q3
      clear q0 H eh es eb2 eb4 hx sbl
      have bd := atT_bd (okTr_yes HTO.out).2.1 (show k ≤ T.nS by omega)
      have sd := okSm_yes ((okTr_yes HTO.out).2.1 k hlt)
      obtain ⟨A, hA⟩ : ∃ A, A = atT T.S k := ⟨_, rfl⟩
      have hst : atT T.S (k + 1) = A + (T.S k).dur := by simp only [atT]; rw [← hA]
      have htv : timeL T F.sc k = [.int .i64 (showF T (A + (T.S k).shift) F.sc)] := by simp only [timeL, timeV]; rw [← hA]
      rw [← hA] at bd ⊢
      have g1 := bd.1
      have g2 : A ≤ 68719476736 := by omega
      have g3 := sd.2.1
      have g4 := sd.2.2.1
      have g5 := sd.2.2.2.1
      have g6 := sd.2.2.2.2
      have HST := Lib.hid hst
      have HTV := Lib.hid htv
      clear hst htv hA bd sd
      go_wp2_with fail
      obtain ⟨w4, hw4⟩ : ∃ x, x = wr.alloc (.cells #[.slice ax (T.S k).n dx, .int .i64 (T.S k).dur, .int .i64 (T.S k).shift, .bool (T.S k).sync] 75) := ⟨_, rfl⟩
      rw [← hw4]
      have hb4 : Below wr.heap.size wr w4 := by rw [hw4]; exact below_box _ _
      have skb : w4.heap[wr.heap.size]? = some (.cells #[.slice ax (T.S k).n dx, .int .i64 (T.S k).dur, .int .i64 (T.S k).shift, .bool (T.S k).sync] 75 (0, 0)) := by rw [hw4]; simp only [World.alloc, Array.getElem?_push_size]
      have s1 : w4.cell? ⟨wr.heap.size, 1, none⟩ = some (.int .i64 (T.S k).dur) := by rw [hw4]; simp [go_sem]
      have s2 : w4.cell? ⟨wr.heap.size, 2, none⟩ = some (.int .i64 (T.S k).shift) := by rw [hw4]; simp [go_sem]
      obtain ⟨bs, hbs⟩ : ∃ z, z = wr.heap.size := ⟨_, rfl⟩
      rw [← hbs] at skb s1 s2 ⊢
      have n9 : B ≤ bs := by omega
      have HBS := Lib.hid hbs
      clear hbs
      obtain ⟨t0, t1, t2, t3, t4, _⟩ := HXT.out
      have f0 := HXF.out.k0
      replace l0 := (hb4.cell (block_lt_of_cell l0)).trans l0
      replace f0 := (hb4.cell (block_lt_of_cell f0)).trans f0
      replace t0 := (hb4.cell (block_lt_of_cell t0)).trans t0
      replace t1 := (hb4.cell (block_lt_of_cell t1)).trans t1
      replace t2 := (hb4.cell (block_lt_of_cell t2)).trans t2
      replace t3 := (hb4.cell (block_lt_of_cell t3)).trans t3
      replace t4 := (hb4.cell (block_lt_of_cell t4)).trans t4
      have HB4 := Lib.hid hb4
      have S1 := Lib.hid s1
      have SB := Lib.hid skb
      have nbs : bs < w4.heap.size := block_lt_of_cell s1
      clear hw4 hb4 s1 skb
      refine Plan.wp_region_planz (fun w' => w'.cell? ⟨bl, 0, none⟩ = some (.slice va vm vc) ∧ w'.cell? ⟨blf, 0, none⟩ = some (.int .i64 F.sc) ∧ w'.cell? ⟨bt, 0, none⟩ = some (.string T.h) ∧ w'.cell? ⟨bt, 1, none⟩ = some (.int .i64 T.sc) ∧ w'.cell? ⟨bt, 2, none⟩ = some (.slice a2 T.nC d2) ∧ w'.cell? ⟨bt, 3, none⟩ = some (.slice (some ⟨sb, so, none⟩) T.nS d3) ∧ w'.cell? ⟨bt, 4, none⟩ = some (.slice a4 T.nE d4) ∧ w'.cell? ⟨bs, 2, none⟩ = some (.int .i64 (T.S k).shift)) 11 (([0, 1, 2, 3, 4, 5, 6, 7].map (·, true)) ++ (([8, 9, 10, 11].map (·, false)))) (by kernel_rfl) (by kernel_rfl) (by kernel_rfl) ⟨l0, f0, t0, t1, t2, t3, t4, s2⟩ ?_
      refine' Plan.plan_seg _ [0, 1, 2, 3, 4, 5, 6, 7] (([8, 9, 10, 11].map (·, false))) (by kernel_rfl) (by kernel_rfl) rfl (by exact ⟨l0, f0, t0, t1, t2, t3, t4, s2⟩) (fun wx hS => ?_) ?_
      rotate_left
      · obtain ⟨z0, z1, z2, z3, z4, z5, z6, z7⟩ := hS
        go_light
        iterate 8 (apply Plan.seg_pick; rfl; intro K hK; go_wp)
        exact Plan.seg_nil
      refine Plan.plan_of_effect rfl (fun K hK => ?_)
      go_wp2_with fail
      refine (presented_any _ T _ F.sc _ (HTA.out.below ((HBW.out.trans (HB4.out.mono HBW.out.size)).drew)) HTO.out ?_ ?_ HFO.out.1.1 HFO.out.1.2.1).mono ?_
      · omega
      · omega
      rintro e w5 ⟨rfl, hb5⟩
      replace hb5 : Below w4.heap.size w4 w5 := (Below.refl w4.heap.size w4).drew.trans hb5
      replace l0 := (hb5.cell (block_lt_of_cell l0)).trans l0
      replace f0 := (hb5.cell (block_lt_of_cell f0)).trans f0
      replace t0 := (hb5.cell (block_lt_of_cell t0)).trans t0
      replace t1 := (hb5.cell (block_lt_of_cell t1)).trans t1
      replace t2 := (hb5.cell (block_lt_of_cell t2)).trans t2
      replace t3 := (hb5.cell (block_lt_of_cell t3)).trans t3
      replace t4 := (hb5.cell (block_lt_of_cell t4)).trans t4
      replace s2 := (hb5.cell (block_lt_of_cell s2)).trans s2
      have HB5 := Lib.hid hb5
      clear hb5
      go_wp2_with fail
      refine ⟨⟨l0, f0, t0, t1, t2, t3, t4, s2⟩, ?_⟩
      refine Plan.plan_of_effect rfl (fun K hK => ?_)
      go_wp2_with fail
      obtain ⟨Z, hZ⟩ : ∃ Z, Z = showF T (A + (T.S k).shift) F.sc := ⟨_, rfl⟩
      rw [← hZ]
      obtain ⟨w6, hw6⟩ : ∃ x, x = w5.alloc (.cells #[.int .i64 Z] 2) := ⟨_, rfl⟩
      rw [← hw6]
      have hb56 : Below w5.heap.size w5 w6 := by rw [hw6]; exact below_box _ _
      have p0 : w6.cell? ⟨w5.heap.size, 0, none⟩ = some (.int .i64 Z) := by rw [hw6]; simp [go_sem]
      replace l0 := (hb56.cell (block_lt_of_cell l0)).trans l0
      replace f0 := (hb56.cell (block_lt_of_cell f0)).trans f0
      replace t0 := (hb56.cell (block_lt_of_cell t0)).trans t0
      replace t1 := (hb56.cell (block_lt_of_cell t1)).trans t1
      replace t2 := (hb56.cell (block_lt_of_cell t2)).trans t2
      replace t3 := (hb56.cell (block_lt_of_cell t3)).trans t3
      replace t4 := (hb56.cell (block_lt_of_cell t4)).trans t4
      replace s2 := (hb56.cell (block_lt_of_cell s2)).trans s2
      have hb6 : Below wr.heap.size wr w6 := HB4.out.trans ((HB5.out.trans (hb56.mono HB5.out.size)).mono HB4.out.size)
      have HB6 := Lib.hid hb6
      have SB6 := Lib.hid ((hb56.block bs (by have := HB5.out.size; omega)).trans ((HB5.out.block bs nbs).trans SB.out))
      have S16 := Lib.hid ((hb56.cell (p := ⟨bs, 1, none⟩) (by have := HB5.out.size; simp; omega)).trans ((HB5.out.cell (p := ⟨bs, 1, none⟩) (by simpa using nbs)).trans S1.out))
      have HZ := Lib.hid hZ
      have hs6 : B ≤ w6.heap.size := by have := hb6.size; omega
      clear hw6 hb6 hb56 hZ
      refine ⟨⟨l0, f0, t0, t1, t2, t3, t4, s2⟩, ?_⟩
      refine Plan.plan_of_effect rfl (fun K hK => ?_)
      refine wpList_app2 w6 rfl (.tmp 35) (.tmp 44) 51 2 1 8 _ Try.underlying51 info2 rfl (by decide) (by decide) rfl B k w5.heap.size (.slice va vm vc) _ [.int .i64 Z] (by simp [go_sem]) (owns_below HO.out HB6.out) (by simp [go_sem]) rfl (fun j u hj => by
        match j, hj with
        | 0, hj => simp at hj; rw [← hj]; exact p0
        | j + 1, hj => simp at hj) (by simp [Value.oneCell']) (by omega) hs6 ?_
      intro v' w7 hv' hb7 hkeep
      have hv7 : Below B wr w7 := (HB6.out.mono hsz).trans hb7
      obtain ⟨va', vm', vc', rfl⟩ := owns_shape hv'
      have cl7 : C1 w7 bl (.slice va vm vc) := ⟨(hv7.cell (p := ⟨bl, 0, none⟩) (by simp; omega)).trans HCL.out.k0, (hv7.frozen (p := ⟨bl, 0, none⟩) (by simp; omega)).trans HCL.out.fz⟩
      have ce7 : C1 w7 be (.int .i64 0) := ⟨(hv7.cell (p := ⟨be, 0, none⟩) (by simp; omega)).trans HCE.out.k0, (hv7.frozen (p := ⟨be, 0, none⟩) (by simp; omega)).trans HCE.out.fz⟩
      have xt7 := HXT.out.far hv7 (by omega)
      have xf7 := HXF.out.far hv7 (by omega)
      have hb37 := HBW.out.trans (hv7.mono hnw)
      have HV7 := Lib.hid (And.intro hv' (And.intro cl7 (And.intro ce7 (And.intro xt7 (And.intro xf7 hb37)))))
      have m1 := cl7.k0
      have m2 := cl7.fz
      have hkb := hkeep bs _ 75 SB6.out (by decide)
      have s17 : w7.cell? ⟨bs, 1, none⟩ = some (.int .i64 (T.S k).dur) := (World.cell?_of_block hkb).trans S16.out
      replace s2 : w7.cell? ⟨bs, 2, none⟩ = some (.int .i64 (T.S k).shift) := (World.cell?_of_block hkb).trans s2
      obtain ⟨t0, t1, t2, t3, t4, _⟩ := xt7
      have f0 := xf7.k0
      have l0 := m1
      have nbl : bl < w7.heap.size := block_lt_of_cell m1
      have hv7s : B ≤ w7.heap.size := by have := hv7.size; omega
      clear hv' hb7 hkeep cl7 ce7 xf7 hb37 hv7 p0 hkb
      go_wp2_with fail
      refine ⟨⟨l0, f0, t0, t1, t2, t3, t4, s2⟩, ?_⟩
      refine Plan.plan_of_last rfl (fun K hK => ?_)
      go_wp2_with fail
      refine Plan.plan_done ?_
      have nbb : (bs == bl) = false := by simp; omega
      clear l0 f0 t0 t1 t2 t3 t4 s2 nbl m1 m2
      have s18 : (w7.setCell ⟨bl, 0, none⟩ (.slice va' vm' vc')).cell? ⟨bs, 1, none⟩ = some (.int .i64 (T.S k).dur) := by rw [World.cell?_setCell_far _ _ _ _ (by simp; omega)]; exact s17
      clear s17
      go_wp2_with fail
      go_roundw
      case rel =>
        have e : rowsOf (timeL T F.sc) (k + 1) = rowsOf (timeL T F.sc) k ++ [.int .i64 Z] := by
          simp only [rowsOf]; rw [HTV.out, HZ.out]
        refine ⟨k + 1, .slice va' vm' vc', by omega, by go_num, by rw [HST.out], ?_, ?_, HV7.out.2.2.2.1.other (by simp; omega), HV7.out.2.2.2.2.1.other (by simp; omega) _, ?_, HV7.out.2.2.2.2.2.setCell (by simp; omega) _, by rw [World.size_setCell]; have := HV7.out.2.2.2.2.2.size; have := hv7s; omega⟩
        · exact ⟨by simp [go_sem, HV7.out.2.1.k0], by rw [World.frozen?_setCell]; exact HV7.out.2.1.fz⟩
        · exact ⟨by rw [World.cell?_setCell_far _ _ _ _ (by simp; omega)]; exact HV7.out.2.2.1.k0, by rw [World.frozen?_setCell]; exact HV7.out.2.2.1.fz⟩
        · rw [e]; exact owns_far HV7.out.1 (by simp; omega) _
      case measure => simp [intOf]; omega
    · obtain rfl : k = T.nS := by omega
      have e0 := HCE.out.k0
      have ez := HCE.out.fz
      go_wp2_with fail
      refine leaves_cons (f := 33) (args := #[.pointer (some ⟨bl, 0, none⟩), .pointer (some ⟨be, 0, none⟩)]) (by simp) (by simp [go_sem]) ?_
      refine (idle33 _ _ _).mono ?_
      rintro e u' w'' ⟨rfl, rfl, rfl⟩
      simp [Leaves, settle, results, Try.results17, go_sem, l0, e0]
      exact HPO.out _ _ (by have h := HBB.out; go_grown) (owns_mono (owns_far (owns_far HO.out (by simp; omega) _) (by simp; omega) _) hnw)
end Go.Proofs.Ytkhjkemllgjfmaa
