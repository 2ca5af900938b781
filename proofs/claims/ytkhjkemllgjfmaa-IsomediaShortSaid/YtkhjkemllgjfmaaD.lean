/- The contract of isomedia.Boxes. -/
import Derived.Test.YtkhjkemllgjfmaaC
namespace Go.Proofs.Ytkhjkemllgjfmaa
open Go.RowKit
set_option linter.unusedVariables false

theorem idle28 (p q : Addr) (w : World) : CallsD Try.prog 28 #[.pointer (some p), .pointer (some q)] .returning w fun e u' w' => e = .returned (.tuple #[]) ∧ u' = .returning ∧ w' = w := by
  refine callsD_of_wpS Try.func28 rfl fun c₀ cs hu => ?_
  apply wpS_seq
  apply wpS_region
  simp [wpOpsS, go_sem, recoverD, hu, Try.ntmps28, Exit.thenS]
  refine wpS_cond (t := false) (by simp [Act.eval, Array.replicate]) ?_
  simp only [Bool.false_eq_true, if_false]
  refine wpS_of_wp (wp_skip ?_)
  cases c₀
  simp_all [bodyPostS, results, Try.results28]

/-- One box appended to a row of the call's own. -/
theorem wpList_box (w : World) {ops : Array Oper} {rest : List Oper} {o : Oper} {a : Act} {Q : Exit → Act → World → Prop} (hgd : o.guard = none) (s x : Operand) (t E : TypeId) (ht : Try.prog.underlying t = some (.slice E))
    (hE : (Try.prog.info? E).map (fun i => (i.zero, i.size, i.bytes)) = some (some (.agg #[.string { data := #[] }, .int .i64 0, .int .i64 0, .int .i64 0]), 4, 40))
    (ho : o.op = .call { callee := .builtin .append, args := #[s, x], argTypes := #[t, t] }) (B k g : Nat) (v : Value) (xs : List Value) (hs : a.eval s = v) (hown : w.ownsRow B E 4 v k xs)
    (hx : a.eval x = .slice (some ⟨g, 0, none⟩) 1 1) (c0 : ByteArray) (c1 c2 c3 : Int) (h0 : w.cell? ⟨g, 0, none⟩ = some (.string c0)) (h1 : w.cell? ⟨g, 1, none⟩ = some (.int .i64 c1)) (h2 : w.cell? ⟨g, 2, none⟩ = some (.int .i64 c2)) (h3 : w.cell? ⟨g, 3, none⟩ = some (.int .i64 c3))
    (hk : k ≤ 100000000) (hB : B ≤ w.heap.size)
    (h : ∀ v' w', w'.ownsRow B E 4 v' (k + 1) (xs ++ [.string c0, .int .i64 c1, .int .i64 c2, .int .i64 c3]) → Below B w w' → wpList Try.prog ops Q rest (a.put o.dst v') w') : wpList Try.prog ops Q (o :: rest) a w := by
  obtain ⟨i0, hi, hz0, hz1, hz2⟩ := info_parts hE
  refine wpList_append_own _ hgd s x t ho B E i0 _ 4 40 ht hi hz0 hz1 hz2 rfl (by decide) v k xs hs hown ⟨g, 0, none⟩ 1 1 [.string c0, .int .i64 c1, .int .i64 c2, .int .i64 c3] hx rfl (fun j u hj => ?_) (fun u hu => ?_) (by unfold maxLen; omega) (by omega) hB (fun v' w' hown' hg hnil => ?_)
  · rw [Addr.add_lit, Nat.zero_add]
    match j, hj with
    | 0, hj => simp at hj; rw [← hj]; exact h0
    | 1, hj => simp at hj; rw [← hj]; exact h1
    | 2, hj => simp at hj; rw [← hj]; exact h2
    | 3, hj => simp at hj; rw [← hj]; exact h3
    | j + 4, hj => simp at hj
  · simp only [List.mem_cons, List.not_mem_nil, or_false] at hu
    rcases hu with rfl | rfl | rfl | rfl <;> rfl
  · refine h v' w' hown' ((Below.refl _ _).grown hg hB (fun k' h' => ?_))
    rcases hown.2 with ⟨rfl, _⟩ | ⟨g', cap, cur, rfl, hg', _⟩
    · cases h'
    · cases h'; exact hg'

set_option maxRecDepth 100000 in
set_option maxHeartbeats 1000000 in
theorem boxes_arg (v : Value) (n : Nat) (f : Nat → Int) (fr to : Int) (w : World) (hv : BA w v n f) (hn : n ≤ 100000000) (hbad : fr < 0 ∨ to < fr ∨ (n : Int) < to) :
    Calls Try.prog 10 #[v, .int .i64 fr, .int .i64 to] w (BoxesPost 31 w f n fr to) := by
  have hmf : ∀ (fn : Fn) (first cap : Array Value) (w : World), (Instr.makeFunc fn first cap).run Try.prog w = .ok (.func fn first cap) w := fun _ _ _ _ => rfl
  have HP := Lib.hid (fun (w' : World) (hb : Below w.heap.size w w') => (show BoxesPost 31 w f n fr to (.returned (.tuple #[.slice none 0 0, .int .i64 1])) w' from ⟨_, _, rfl, hb, by rw [if_pos hbad]; exact ⟨rfl, rfl⟩⟩))
  obtain ⟨ao, c, rfl, hc, _⟩ := hv
  have B0 : ∀ o1 o2, Below w.heap.size w ((w.alloc o1).alloc o2) := fun _ _ => by go_grown
  by_cases h1 : fr < 0
  · clear hbad
    go_enter_defers Try.func10, Try.ntmps10
    go_wp2_with fail
    refine leaves_cons (f := 28) (args := #[.pointer (some ⟨w.heap.size, 0, none⟩), .pointer (some ⟨w.heap.size + 1, 0, none⟩)]) (by simp) (by simp [go_sem]) ?_
    refine (idle28 _ _ _).mono ?_
    rintro e u' w'' ⟨rfl, rfl, rfl⟩
    simp [Leaves, settle, results, Try.results10, go_sem]
    exact HP.out _ (by go_grown)
  by_cases h2 : to < fr
  · clear hbad
    have h1' : 0 ≤ fr := by omega
    go_enter_defers Try.func10, Try.ntmps10
    go_wp2_with fail
    refine leaves_cons (f := 28) (args := #[.pointer (some ⟨w.heap.size, 0, none⟩), .pointer (some ⟨w.heap.size + 1, 0, none⟩)]) (by simp) (by simp [go_sem]) ?_
    refine (idle28 _ _ _).mono ?_
    rintro e u' w'' ⟨rfl, rfl, rfl⟩
    simp [Leaves, settle, results, Try.results10, go_sem]
    exact HP.out _ (by go_grown)
  have h3 : (n : Int) < to := by omega
  have h1' : 0 ≤ fr := by omega
  have h2' : fr ≤ to := by omega
  clear hbad h1 h2
  go_enter_defers Try.func10, Try.ntmps10
  go_wp2_with fail
  refine leaves_cons (f := 28) (args := #[.pointer (some ⟨w.heap.size, 0, none⟩), .pointer (some ⟨w.heap.size + 1, 0, none⟩)]) (by simp) (by simp [go_sem]) ?_
  refine (idle28 _ _ _).mono ?_
  rintro e u' w'' ⟨rfl, rfl, rfl⟩
  simp [Leaves, settle, results, Try.results10, go_sem]
  exact HP.out _ (by go_grown)

set_option maxRecDepth 100000 in
set_option maxHeartbeats 4000000 in
theorem boxes_ok (b o n c : Nat) (f : Nat → Int) (fr to : Nat) (w : World) (hn : n ≤ 100000000) (hc : n ≤ c) (h : ∀ i, i < n → w.cell? ⟨b, o + i, none⟩ = some (.int .u8 (f i))) (hb : ∀ i, i < n → 0 ≤ f i ∧ f i < 256) (h1 : fr ≤ to) (h2 : to ≤ n) :
    Calls Try.prog 10 #[.slice (some ⟨b, o, none⟩) n c, .int .i64 (fr : Int), .int .i64 (to : Int)] w (BoxesPost 31 w f n fr to) := by
  have hmf : ∀ (fn : Fn) (first cap : Array Value) (w : World), (Instr.makeFunc fn first cap).run Try.prog w = .ok (.func fn first cap) w := fun _ _ _ _ => rfl
  have HP := Lib.hid (fun (w' : World) (v : Value) (k : Nat) (hb : Below w.heap.size w w') (hw : Walked f fr to k) (hg : ¬ goOn f to (pos f fr k)) (hc : codeAt f to (pos f fr k) ≠ 0 → v = .slice none 0 0) (ho : codeAt f to (pos f fr k) = 0 → w'.ownsRow w.heap.size 31 4 v k (rowsV f fr k)) =>
    (show BoxesPost 31 w f n fr to (.returned (.tuple #[v, .int .i64 (codeAt f to (pos f fr k))])) w' from ⟨_, _, rfl, hb, by rw [if_neg (by omega)]; exact ⟨k, hw, hg, rfl, hc, ho⟩⟩))
  have HC := Lib.hid (And.intro h hb)
  clear h hb
  have h1' : (fr : Int) ≤ (to : Int) := by omega
  have h2' : (to : Int) ≤ (n : Int) := by omega
  have k1 : decide ((fr : Int) < 0) = false := by simp
  have k2 : decide (to < fr) = false := by simp; omega
  have k3 : decide (n < to) = false := by simp; omega
  go_enter_defers Try.func10, Try.ntmps10
  go_wp2_with fail
  obtain ⟨w1, hw⟩ : ∃ x, x = (w.alloc (.cells #[.slice none 0 0] 23)).alloc (.cells #[.int .i64 0] 24) := ⟨_, rfl⟩
  rw [← hw]
  have hE : Below w.heap.size w w1 := by rw [hw]; go_grown
  have CL := Lib.hid (show C1 w1 w.heap.size (.slice none 0 0) by rw [hw]; exact ⟨by simp [go_sem], by simp [go_sem]⟩)
  have CE := Lib.hid (show C1 w1 (w.heap.size + 1) (.int .i64 0) by rw [hw]; exact ⟨by simp [go_sem], by simp [go_sem]⟩)
  have HB := Lib.hid hE
  obtain ⟨bl, hbl⟩ : ∃ z, z = w.heap.size := ⟨_, rfl⟩
  obtain ⟨be, hbe⟩ : ∃ z, z = w.heap.size + 1 := ⟨_, rfl⟩
  have n0 : w.heap.size ≤ bl := by omega
  have n1 : bl < be := by omega
  have n2 : be < w1.heap.size := by have := CE.out.lt; omega
  obtain ⟨B, hBB⟩ : ∃ z, z = w1.heap.size := ⟨_, rfl⟩
  have n3 : be < B := by omega
  rw [← hbe] at CE ⊢
  rw [← hbl] at CL ⊢
  have n4 : w.heap.size ≤ B := by omega
  have n5 : B ≤ w1.heap.size := by omega
  clear hw hE hbl hbe hBB
  go_loopw [1] (fun i wr => ∃ (k : Nat) (v : Value), Walked f fr to k ∧ i = .int .i64 ((pos f fr k : Nat) : Int) ∧ C1 wr bl v ∧ C1 wr be (.int .i64 0) ∧ wr.ownsRow B 31 4 v k (rowsV f fr k) ∧ Below w.heap.size w wr ∧ B ≤ wr.heap.size) (fun i _ => to - (intOf i).toNat)
  case atStart => exact ⟨0, _, fun j hj => absurd hj (Nat.not_lt_zero j), rfl, CL.out, CE.out, owns_nil _ _ _ _, HB.out, n5⟩
  case round =>
    obtain ⟨k, v, hwk, rfl, xl, xe, ho, hbw, hsz⟩ := hrel
    obtain ⟨va, vm, vc, rfl⟩ := owns_shape ho
    have hle := hwk.le h1
    obtain ⟨q, hq⟩ : ∃ q, pos f fr k = q := ⟨_, rfl⟩
    rw [hq] at hle ⊢
    have hq1 : q ≤ to := hle.1
    have hkq : k ≤ 100000000 := by omega
    have HQ := Lib.hid hq
    have HW := Lib.hid hwk
    have HO := Lib.hid ho
    have HBW := Lib.hid hbw
    clear hq hle hwk ho hbw
    have hl0 := xl.k0
    have hlz := xl.fz
    have he0 := xe.k0
    have hez := xe.fz
    by_cases hlt : q < to
    · by_cases h8 : to < q + 8
      · have HR := Lib.hid (HP.out)
        have hlt8 : decide ((to : Int) - (q : Int) < 8) = true := by simp; omega
        go_wp2_with fail
        refine leaves_cons (f := 28) (args := #[.pointer (some ⟨bl, 0, none⟩), .pointer (some ⟨be, 0, none⟩)]) (by simp) (by simp [go_sem]) ?_
        refine (idle28 _ _ _).mono ?_
        rintro e u' w'' ⟨rfl, rfl, rfl⟩
        simp [Leaves, settle, results, Try.results10, go_sem, hl0, he0]
        have hcd : codeAt f to (pos f fr k) = 4 := by rw [HQ.out]; unfold codeAt; rw [if_neg (by omega), if_pos (by omega)]
        have hng : ¬ goOn f to (pos f fr k) := by rw [HQ.out]; unfold goOn; omega
        have key := fun W hW => HP.out W (.slice none 0 0) k hW HW.out hng (fun _ => rfl) (fun h => absurd (hcd.symm.trans h) (by decide))
        simp only [hcd] at key
        exact key _ (by have h := HBW.out; go_grown)
      · have hlt8 : decide ((to : Int) - (q : Int) < 8) = false := by simp; omega
        have hge8 : ¬ ((to : Int) - (q : Int) < 8) := by omega
        have ha : q + 4 ≤ n := by omega
        have hcells := fun i (hi : i < n) => (HBW.out.cell (p := ⟨b, o + i, none⟩) (block_lt_of_cell (HC.out.1 i hi))).trans (HC.out.1 i hi)
        have HCC := Lib.hid hcells
        clear hcells
        go_wp2_with fail
        refine (number_any b o n c q f _ hn HCC.out HC.out.2 ha).mono ?_
        rintro e w5 ⟨rfl, rfl⟩
        obtain ⟨z, hz⟩ : ∃ z, numI f q = z := ⟨_, rfl⟩
        rw [hz]
        have HZ := Lib.hid hz
        clear hz
        by_cases hz8 : z < 8
        · go_wp2_with fail
          refine leaves_cons (f := 28) (args := #[.pointer (some ⟨bl, 0, none⟩), .pointer (some ⟨be, 0, none⟩)]) (by simp) (by simp [go_sem]) ?_
          refine (idle28 _ _ _).mono ?_
          rintro e u' w'' ⟨rfl, rfl, rfl⟩
          simp [Leaves, settle, results, Try.results10, go_sem, hl0, he0]
          have hcd : codeAt f to (pos f fr k) = 3 := by rw [HQ.out]; unfold codeAt; rw [HZ.out, if_neg (by omega), if_neg (by omega), if_pos (by omega)]
          have hng : ¬ goOn f to (pos f fr k) := by rw [HQ.out]; unfold goOn; rw [HZ.out]; omega
          have key := fun W hW => HP.out W (.slice none 0 0) k hW HW.out hng (fun _ => rfl) (fun h => absurd (hcd.symm.trans h) (by decide))
          simp only [hcd] at key
          exact key _ (by have h := HBW.out; go_grown)
        · by_cases hzl : (to : Int) - (q : Int) < z
          · have hz8' : 8 ≤ z := by omega
            clear hz8
            go_wp2_with fail
            refine leaves_cons (f := 28) (args := #[.pointer (some ⟨bl, 0, none⟩), .pointer (some ⟨be, 0, none⟩)]) (by simp) (by simp [go_sem]) ?_
            refine (idle28 _ _ _).mono ?_
            rintro e u' w'' ⟨rfl, rfl, rfl⟩
            simp [Leaves, settle, results, Try.results10, go_sem, hl0, he0]
            have hcd : codeAt f to (pos f fr k) = 4 := by rw [HQ.out]; unfold codeAt; rw [HZ.out, if_neg (by omega), if_neg (by omega), if_neg (by omega)]
            have hng : ¬ goOn f to (pos f fr k) := by rw [HQ.out]; unfold goOn; rw [HZ.out]; omega
            have key := fun W hW => HP.out W (.slice none 0 0) k hW HW.out hng (fun _ => rfl) (fun h => absurd (hcd.symm.trans h) (by decide))
            simp only [hcd] at key
            exact key _ (by have h := HBW.out; go_grown)
          · have hz8' : 8 ≤ z := by omega
            have hzl' : z ≤ (to : Int) - (q : Int) := by omega
            clear hz8 hzl
            go_upto_region 14 with fail
            have hcc : ∀ w' : World, Below w.heap.size w w' → (convert 22 9 (.slice (some ⟨b, o + (q + 4), none⟩) 4 (c - (q + 4)))).run Try.prog w' = .ok (.string (strOfNums [f (q + 4), f (q + 4 + 1), f (q + 4 + 2), f (q + 4 + 3)])) w' := by
              intro w' hb'
              refine run_convert_bytes_arg w' 22 5 Try.underlying22 Try.underlying5 b (o + (q + 4)) 4 _ _ rfl (fun i hi => ?_) 9 Try.underlying9
              have hx := HC.out.1 (q + 4 + i) (by omega)
              have hy := (hb'.cell (block_lt_of_cell hx)).trans hx
              rcases (show i = 0 ∨ i = 1 ∨ i = 2 ∨ i = 3 by omega) with rfl | rfl | rfl | rfl <;> simpa [Nat.add_assoc] using hy
            have HCV := Lib.hid hcc
            clear hcc
            refine Plan.wp_region_planz (fun w' => Below w.heap.size w w' ∧ w'.cell? ⟨bl, 0, none⟩ = some (.slice va vm vc)) 15 (([0, 1, 2, 3, 4, 5, 6, 7, 8, 9, 10, 11, 12].map (·, true)) ++ (([13, 14, 15].map (·, false)))) (by kernel_rfl) (by kernel_rfl) (by kernel_rfl) ⟨HBW.out.drew.drew, hl0⟩ ?_
            refine' Plan.plan_seg _ [0, 1, 2, 3, 4, 5, 6, 7, 8, 9, 10, 11, 12] (([13, 14, 15].map (·, false))) (by kernel_rfl) (by kernel_rfl) rfl (by exact ⟨HBW.out.drew.drew, hl0⟩) (fun wx hS => ?_) ?_
            rotate_left
            · obtain ⟨x0, x1⟩ := hS
              have hcv := HCV.out wx x0
              clear x0
              go_light
              iterate 13 (apply Plan.seg_pick; rfl; intro K hK; go_wp)
              exact Plan.seg_nil
            have hdr : Below wr.heap.size wr (wr.alloc (.cells #[.string (strOfNums [f (q + 4), f (q + 4 + 1), f (q + 4 + 2), f (q + 4 + 3)]), .int .i64 (q : Int), .int .i64 ((q : Int) + 8), .int .i64 ((q : Int) + z)] 31)).drew.drew := (below_box _ _).drew.drew
            refine Plan.plan_of_effect rfl (fun K hK => ?_)
            go_wp2_with fail
            obtain ⟨wz, hwz⟩ : ∃ x, x = (wr.alloc (.cells #[.string (strOfNums [f (q + 4), f (q + 4 + 1), f (q + 4 + 2), f (q + 4 + 3)]), .int .i64 (q : Int), .int .i64 ((q : Int) + 8), .int .i64 ((q : Int) + z)] 31)).drew.drew := ⟨_, rfl⟩
            rw [← hwz] at hdr ⊢
            have z0 : wz.cell? ⟨wr.heap.size, 0, none⟩ = some (.string (strOfNums [f (q + 4), f (q + 4 + 1), f (q + 4 + 2), f (q + 4 + 3)])) := by rw [hwz]; simp [go_sem]
            have z1 : wz.cell? ⟨wr.heap.size, 1, none⟩ = some (.int .i64 (q : Int)) := by rw [hwz]; simp [go_sem]
            have z2 : wz.cell? ⟨wr.heap.size, 2, none⟩ = some (.int .i64 ((q : Int) + 8)) := by rw [hwz]; simp [go_sem]
            have z3 : wz.cell? ⟨wr.heap.size, 3, none⟩ = some (.int .i64 ((q : Int) + z)) := by rw [hwz]; simp [go_sem]
            have xl1 := xl.below hdr
            have xe1 := xe.below hdr
            have ho1 := owns_below HO.out hdr
            have hb1 := HBW.out.trans (hdr.mono HBW.out.size)
            have hs1 : B ≤ wz.heap.size := by have := hdr.size; omega
            have HZ4 := Lib.hid (And.intro z0 (And.intro z1 (And.intro z2 z3)))
            have HZW := Lib.hid (And.intro xl1 (And.intro xe1 (And.intro ho1 (And.intro hb1 hs1))))
            clear hwz z0 z1 z2 z3 hdr hl0 hlz he0 hez xl1 xe1 ho1 hb1 hs1
            refine ⟨⟨HZW.out.2.2.2.1, HZW.out.1.k0⟩, ?_⟩
            refine Plan.plan_of_effect rfl (fun K hK => ?_)
            refine wpList_box wz rfl (.tmp 43) (.tmp 56) 23 31 Try.underlying23 info31 rfl B k wr.heap.size (.slice va vm vc) _ (by simp [go_sem]) HZW.out.2.2.1 (by simp [go_sem]) _ _ _ _ HZ4.out.1 HZ4.out.2.1 HZ4.out.2.2.1 HZ4.out.2.2.2 hkq HZW.out.2.2.2.2 ?_
            intro v' w6 hv' hb6
            obtain ⟨va', vm', vc', rfl⟩ := owns_shape hv'
            have xl6 : C1 w6 bl (.slice va vm vc) := ⟨(hb6.cell (by simp; omega)).trans HZW.out.1.k0, (hb6.frozen (by simp; omega)).trans HZW.out.1.fz⟩
            have xe6 : C1 w6 be (.int .i64 0) := ⟨(hb6.cell (by simp; omega)).trans HZW.out.2.1.k0, (hb6.frozen (by simp; omega)).trans HZW.out.2.1.fz⟩
            have hb6' := HZW.out.2.2.2.1.trans (hb6.mono n4)
            have hs6 : B ≤ w6.heap.size := by have := hb6.size; have := HZW.out.2.2.2.2; omega
            have HV6 := Lib.hid (And.intro hv' (And.intro xe6 (And.intro hb6' hs6)))
            clear hv' hb6 xe6 HZW HZ4 hb6' hs6
            have hl6 := xl6.k0
            have hz6 := xl6.fz
            go_wp2_with fail
            refine ⟨⟨HV6.out.2.2.1, hl6⟩, ?_⟩
            refine Plan.plan_of_last rfl (fun K hK => ?_)
            go_wp2_with fail
            refine Plan.plan_done ?_
            go_wp2_with fail
            go_roundw
            case rel =>
              have hg : goOn f to (pos f fr k) := by rw [HQ.out]; exact ⟨by omega, by rw [HZ.out]; exact hz8', by rw [HZ.out]; exact hzl'⟩
              have hpz : ((pos f fr (k + 1) : Nat) : Int) = (q : Int) + z := by simp only [pos]; rw [HQ.out, HZ.out]; omega
              refine ⟨k + 1, .slice va' vm' vc', HW.out.step hg, by rw [hpz], ?_, ?_, ?_, ?_, ?_⟩
              · exact ⟨by simp [go_sem, hl6], by rw [World.frozen?_setCell]; exact hz6⟩
              · exact ⟨by rw [World.cell?_setCell_far _ _ _ _ (by simp; omega)]; exact HV6.out.2.1.k0, by rw [World.frozen?_setCell]; exact HV6.out.2.1.fz⟩
              · have e : rowsV f fr (k + 1) = rowsV f fr k ++ [.string (strOfNums [f (q + 4), f (q + 4 + 1), f (q + 4 + 2), f (q + 4 + 3)]), .int .i64 (q : Int), .int .i64 ((q : Int) + 8), .int .i64 ((q : Int) + z)] := by
                  simp only [rowsV, boxV]; rw [HQ.out, HZ.out]
                rw [e]
                exact owns_far HV6.out.1 (by simp; omega) _
              · exact HV6.out.2.2.1.setCell (by simpa using n0) _
              · rw [World.size_setCell]; exact HV6.out.2.2.2
            case measure => simp [intOf]; omega
    · have hge : to ≤ q := by omega
      go_wp2_with fail
      refine leaves_cons (f := 28) (args := #[.pointer (some ⟨bl, 0, none⟩), .pointer (some ⟨be, 0, none⟩)]) (by simp) (by simp [go_sem]) ?_
      refine (idle28 _ _ _).mono ?_
      rintro e u' w'' ⟨rfl, rfl, rfl⟩
      simp [Leaves, settle, results, Try.results10, go_sem, hl0, he0]
      have hcd : codeAt f to (pos f fr k) = 0 := by rw [HQ.out]; unfold codeAt; rw [if_pos (by omega)]
      have hng : ¬ goOn f to (pos f fr k) := by rw [HQ.out]; unfold goOn; omega
      have key := fun W hW hO => HP.out W (.slice va vm vc) k hW HW.out hng (fun h => absurd hcd h) (fun _ => hO)
      simp only [hcd] at key
      exact key _ (by have h := HBW.out; go_grown) (owns_mono (owns_far (owns_far HO.out (by simp; omega) _) (by simp; omega) _) n4)

end Go.Proofs.Ytkhjkemllgjfmaa
