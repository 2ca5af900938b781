/- The contract of cutroomref18.Boxes; both at any slice. -/
import Derived.Test.YtkhjkemllgjfmaaD
namespace Go.Proofs.Ytkhjkemllgjfmaa
open Go.RowKit
set_option linter.unusedVariables false

set_option maxRecDepth 100000 in
set_option maxHeartbeats 1000000 in
theorem boxes_zero (ao : Option Addr) (c : Nat) (f : Nat → Int) (w : World) :
    Calls Try.prog 10 #[.slice ao 0 c, .int .i64 0, .int .i64 0] w (BoxesPost 31 w f 0 0 0) := by
  have hmf : ∀ (fn : Fn) (first cap : Array Value) (w : World), (Instr.makeFunc fn first cap).run Try.prog w = .ok (.func fn first cap) w := fun _ _ _ _ => rfl
  have HP := Lib.hid (fun (w' : World) (hb : Below w.heap.size w w') => (show BoxesPost 31 w f 0 0 0 (.returned (.tuple #[.slice none 0 0, .int .i64 0])) w' from ⟨_, _, rfl, hb, by rw [if_neg (by omega)]; exact ⟨0, fun j hj => absurd hj (Nat.not_lt_zero j), fun h => absurd h.1 (by simp), rfl, fun _ => rfl, fun _ => owns_nil _ _ _ _⟩⟩))
  go_enter_defers Try.func10, Try.ntmps10
  go_wp2_with fail
  refine wp_loop_rounds 1 ?_
  rw [rounds_succ]
  go_wp2_with fail
  refine leaves_cons (f := 28) (args := #[.pointer (some ⟨w.heap.size, 0, none⟩), .pointer (some ⟨w.heap.size + 1, 0, none⟩)]) (by simp) (by simp [go_sem]) ?_
  refine (idle28 _ _ _).mono ?_
  rintro e u' w'' ⟨rfl, rfl, rfl⟩
  simp [Leaves, settle, results, Try.results10, go_sem]
  exact HP.out _ (by go_grown)

theorem boxes_any (v : Value) (n : Nat) (f : Nat → Int) (fr to : Int) (w : World) (hv : BA w v n f) (hn : n ≤ 100000000) : Calls Try.prog 10 #[v, .int .i64 fr, .int .i64 to] w (BoxesPost 31 w f n fr to) := by
  by_cases hbad : fr < 0 ∨ to < fr ∨ (n : Int) < to
  · exact boxes_arg v n f fr to w hv hn hbad
  · obtain ⟨a, rfl⟩ := Int.eq_ofNat_of_zero_le (show 0 ≤ fr by omega)
    obtain ⟨t, rfl⟩ := Int.eq_ofNat_of_zero_le (show 0 ≤ to by omega)
    rcases Nat.eq_zero_or_pos n with rfl | h0
    · obtain ⟨ao, c, rfl, _, _⟩ := hv
      obtain rfl : a = 0 := by omega
      obtain rfl : t = 0 := by omega
      exact boxes_zero ao c f w
    · obtain ⟨b, o, c, rfl, hc, h1, h2⟩ := hv.open h0
      exact boxes_ok b o n c f a t w hn hc h1 h2 (by omega) (by omega)

set_option maxRecDepth 100000 in
set_option maxHeartbeats 1000000 in
theorem rboxes_arg (v : Value) (n : Nat) (f : Nat → Int) (fr to : Int) (w : World) (hv : BA w v n f) (hn : n ≤ 100000000) (hbad : fr < 0 ∨ to < fr ∨ (n : Int) < to) :
    Calls Try.prog 11 #[v, .int .i64 fr, .int .i64 to] w (BoxesPost 32 w f n fr to) := by
  have HP := Lib.hid (fun (w' : World) (hb : Below w.heap.size w w') => (show BoxesPost 32 w f n fr to (.returned (.tuple #[.slice none 0 0, .int .i64 1])) w' from ⟨_, _, rfl, hb, by rw [if_pos hbad]; exact ⟨rfl, rfl⟩⟩))
  obtain ⟨ao, c, rfl, hc, _⟩ := hv
  by_cases h1 : fr < 0
  · clear hbad
    go_enter Try.func11, Try.ntmps11
    go_wp2_with fail
    go_ret2
    exact HP.out _ (Below.refl _ _)
  by_cases h2 : to < fr
  · clear hbad
    have h1' : 0 ≤ fr := by omega
    go_enter Try.func11, Try.ntmps11
    go_wp2_with fail
    go_ret2
    exact HP.out _ (Below.refl _ _)
  have h3 : (n : Int) < to := by omega
  have h1' : 0 ≤ fr := by omega
  have h2' : fr ≤ to := by omega
  clear hbad h1 h2
  go_enter Try.func11, Try.ntmps11
  go_wp2_with fail
  go_ret2
  exact HP.out _ (Below.refl _ _)

set_option maxRecDepth 100000 in
set_option maxHeartbeats 1000000 in
theorem rboxes_zero (ao : Option Addr) (c : Nat) (f : Nat → Int) (w : World) :
    Calls Try.prog 11 #[.slice ao 0 c, .int .i64 0, .int .i64 0] w (BoxesPost 32 w f 0 0 0) := by
  have HP := Lib.hid (fun (w' : World) (hb : Below w.heap.size w w') => (show BoxesPost 32 w f 0 0 0 (.returned (.tuple #[.slice none 0 0, .int .i64 0])) w' from ⟨_, _, rfl, hb, by rw [if_neg (by omega)]; exact ⟨0, fun j hj => absurd hj (Nat.not_lt_zero j), fun h => absurd h.1 (by simp), rfl, fun _ => rfl, fun _ => owns_nil _ _ _ _⟩⟩))
  go_enter Try.func11, Try.ntmps11
  go_wp2_with fail
  refine wp_loop_rounds 1 ?_
  rw [rounds_succ]
  go_wp2_with fail
  go_ret2
  exact HP.out _ (Below.refl _ _)

set_option maxRecDepth 100000 in
set_option maxHeartbeats 4000000 in
theorem rboxes_ok (b o n c : Nat) (f : Nat → Int) (fr to : Nat) (w : World) (hn : n ≤ 100000000) (hc : n ≤ c) (h : ∀ i, i < n → w.cell? ⟨b, o + i, none⟩ = some (.int .u8 (f i))) (hb : ∀ i, i < n → 0 ≤ f i ∧ f i < 256) (h1 : fr ≤ to) (h2 : to ≤ n) :
    Calls Try.prog 11 #[.slice (some ⟨b, o, none⟩) n c, .int .i64 (fr : Int), .int .i64 (to : Int)] w (BoxesPost 32 w f n fr to) := by
  have HP := Lib.hid (fun (w' : World) (v : Value) (k : Nat) (hb : Below w.heap.size w w') (hw : Walked f fr to k) (hg : ¬ goOn f to (pos f fr k)) (hc : codeAt f to (pos f fr k) ≠ 0 → v = .slice none 0 0) (ho : codeAt f to (pos f fr k) = 0 → w'.ownsRow w.heap.size 32 4 v k (rowsV f fr k)) =>
    (show BoxesPost 32 w f n fr to (.returned (.tuple #[v, .int .i64 (codeAt f to (pos f fr k))])) w' from ⟨_, _, rfl, hb, by rw [if_neg (by omega)]; exact ⟨k, hw, hg, rfl, hc, ho⟩⟩))
  have HC := Lib.hid (And.intro h hb)
  clear h hb
  have h1' : (fr : Int) ≤ (to : Int) := by omega
  have h2' : (to : Int) ≤ (n : Int) := by omega
  have k1 : decide ((fr : Int) < 0) = false := by simp
  have k2 : decide (to < fr) = false := by simp; omega
  have k3 : decide (n < to) = false := by simp; omega
  go_enter Try.func11, Try.ntmps11
  go_wp2_with fail
  go_loopw [9, 8] (fun i v wr => ∃ (k : Nat), Walked f fr to k ∧ i = .int .i64 ((pos f fr k : Nat) : Int) ∧ wr.ownsRow w.heap.size 32 4 v k (rowsV f fr k) ∧ Below w.heap.size w wr) (fun i _ _ => to - (intOf i).toNat)
  case atStart => exact ⟨0, fun j hj => absurd hj (Nat.not_lt_zero j), rfl, owns_nil _ _ _ _, Below.refl _ _⟩
  case round =>
    obtain ⟨k, hwk, rfl, ho, hbw⟩ := hrel
    obtain ⟨va, vm, vc, rfl⟩ := owns_shape ho
    have hle := hwk.le h1
    obtain ⟨q, hq⟩ : ∃ q, pos f fr k = q := ⟨_, rfl⟩
    rw [hq] at hle ⊢
    have hq1 : q ≤ to := hle.1
    have hkq : k ≤ 100000000 := by omega
    have HQ := Lib.hid hq
    have HW := Lib.hid hwk
    have HO := Lib.hid ho
    have HBW := Lib.hid hbw
    clear hq hle hwk ho hbw
    by_cases hlt : q < to
    · by_cases h8 : to < q + 8
      · have hlt8 : decide ((to : Int) - (q : Int) < 8) = true := by simp; omega
        go_wp2_with fail
        go_ret2
        have hcd : codeAt f to (pos f fr k) = 4 := by rw [HQ.out]; unfold codeAt; rw [if_neg (by omega), if_pos (by omega)]
        have hng : ¬ goOn f to (pos f fr k) := by rw [HQ.out]; unfold goOn; omega
        have key := fun W hW => HP.out W (.slice none 0 0) k hW HW.out hng (fun _ => rfl) (fun h => absurd (hcd.symm.trans h) (by decide))
        simp only [hcd] at key
        exact key _ (by have h := HBW.out; go_grown)
      · have hlt8 : decide ((to : Int) - (q : Int) < 8) = false := by simp; omega
        have hge8 : ¬ ((to : Int) - (q : Int) < 8) := by omega
        have ha : q + 4 ≤ n := by omega
        have hcells := fun i (hi : i < n) => (HBW.out.cell (p := ⟨b, o + i, none⟩) (block_lt_of_cell (HC.out.1 i hi))).trans (HC.out.1 i hi)
        have HCC := Lib.hid hcells
        clear hcells
        go_wp2_with fail
        refine (rnumber_any b o n c q f _ hn HCC.out HC.out.2 ha).mono ?_
        rintro e w5 ⟨rfl, rfl⟩
        obtain ⟨z, hz⟩ : ∃ z, numI f q = z := ⟨_, rfl⟩
        rw [hz]
        have HZ := Lib.hid hz
        clear hz
        by_cases hz8 : z < 8
        · go_wp2_with fail
          go_ret2
          have hcd : codeAt f to (pos f fr k) = 3 := by rw [HQ.out]; unfold codeAt; rw [HZ.out, if_neg (by omega), if_neg (by omega), if_pos (by omega)]
          have hng : ¬ goOn f to (pos f fr k) := by rw [HQ.out]; unfold goOn; rw [HZ.out]; omega
          have key := fun W hW => HP.out W (.slice none 0 0) k hW HW.out hng (fun _ => rfl) (fun h => absurd (hcd.symm.trans h) (by decide))
          simp only [hcd] at key
          exact key _ (by have h := HBW.out; go_grown)
        · by_cases hzl : (to : Int) - (q : Int) < z
          · have hz8' : 8 ≤ z := by omega
            clear hz8
            go_wp2_with fail
            go_ret2
            have hcd : codeAt f to (pos f fr k) = 4 := by rw [HQ.out]; unfold codeAt; rw [HZ.out, if_neg (by omega), if_neg (by omega), if_neg (by omega)]
            have hng : ¬ goOn f to (pos f fr k) := by rw [HQ.out]; unfold goOn; rw [HZ.out]; omega
            have key := fun W hW => HP.out W (.slice none 0 0) k hW HW.out hng (fun _ => rfl) (fun h => absurd (hcd.symm.trans h) (by decide))
            simp only [hcd] at key
            exact key _ (by have h := HBW.out; go_grown)
          · have hz8' : 8 ≤ z := by omega
            have hzl' : z ≤ (to : Int) - (q : Int) := by omega
            clear hz8 hzl
            have hcc : ∀ w' : World, Below w.heap.size w w' → (convert 22 9 (.slice (some ⟨b, o + (q + 4), none⟩) 4 (c - (q + 4)))).run Try.prog w' = .ok (.string (strOfNums [f (q + 4), f (q + 4 + 1), f (q + 4 + 2), f (q + 4 + 3)])) w' := by
              intro w' hb'
              refine run_convert_bytes_arg w' 22 5 Try.underlying22 Try.underlying5 b (o + (q + 4)) 4 _ _ rfl (fun i hi => ?_) 9 Try.underlying9
              have hx := HC.out.1 (q + 4 + i) (by omega)
              have hy := (hb'.cell (block_lt_of_cell hx)).trans hx
              rcases (show i = 0 ∨ i = 1 ∨ i = 2 ∨ i = 3 by omega) with rfl | rfl | rfl | rfl <;> simpa [Nat.add_assoc] using hy
            have hcv := hcc wr.drew HBW.out.drew
            have hcv2 := hcc wr HBW.out
            have hcv3 := hcc wr.drew.drew HBW.out.drew.drew
            clear hcc
            have hsz := HBW.out.size
            go_wp2_with (at_builtin; refine wpList_box _ rfl (.tmp 42) (.tmp 57) 27 32 Try.underlying27 info32 rfl w.heap.size k wr.heap.size (.slice va vm vc) _ rfl (owns_below HO.out (by exact (below_box _ _).drew)) rfl (strOfNums [f (q + 4), f (q + 4 + 1), f (q + 4 + 2), f (q + 4 + 3)]) (q : Int) ((q : Int) + 8) ((q : Int) + z) (by simp [go_sem]) (by simp [go_sem]) (by simp [go_sem]) (by simp [go_sem]) hkq (by simp; omega) ?_)
            intro v' w6 hv' hb6
            obtain ⟨va', vm', vc', rfl⟩ := owns_shape hv'
            have hb6' : Below w.heap.size w w6 := HBW.out.trans (((Below.refl _ _).alloc (by omega) _).drew.trans hb6)
            have HV6 := Lib.hid (And.intro hv' hb6')
            clear hv' hb6 hb6' hcv hcv2 hcv3
            go_wp2_with fail
            go_roundw
            case rel =>
              have hg : goOn f to (pos f fr k) := by rw [HQ.out]; exact ⟨by omega, by rw [HZ.out]; exact hz8', by rw [HZ.out]; exact hzl'⟩
              have hpz : ((pos f fr (k + 1) : Nat) : Int) = (q : Int) + z := by simp only [pos]; rw [HQ.out, HZ.out]; omega
              refine ⟨k + 1, HW.out.step hg, by rw [hpz], ?_, HV6.out.2⟩
              have e : rowsV f fr (k + 1) = rowsV f fr k ++ [.string (strOfNums [f (q + 4), f (q + 4 + 1), f (q + 4 + 2), f (q + 4 + 3)]), .int .i64 (q : Int), .int .i64 ((q : Int) + 8), .int .i64 ((q : Int) + z)] := by
                simp only [rowsV, boxV]; rw [HQ.out, HZ.out]
              rw [e]
              exact HV6.out.1
            case measure => simp [intOf]; omega
    · have hge : to ≤ q := by omega
      go_wp2_with fail
      go_ret2
      have hcd : codeAt f to (pos f fr k) = 0 := by rw [HQ.out]; unfold codeAt; rw [if_pos (by omega)]
      have hng : ¬ goOn f to (pos f fr k) := by rw [HQ.out]; unfold goOn; omega
      have key := fun W hW hO => HP.out W (.slice va vm vc) k hW HW.out hng (fun h => absurd hcd h) (fun _ => hO)
      simp only [hcd] at key
      exact key _ (by have h := HBW.out; go_grown) HO.out

theorem rboxes_any (v : Value) (n : Nat) (f : Nat → Int) (fr to : Int) (w : World) (hv : BA w v n f) (hn : n ≤ 100000000) : Calls Try.prog 11 #[v, .int .i64 fr, .int .i64 to] w (BoxesPost 32 w f n fr to) := by
  by_cases hbad : fr < 0 ∨ to < fr ∨ (n : Int) < to
  · exact rboxes_arg v n f fr to w hv hn hbad
  · obtain ⟨a, rfl⟩ := Int.eq_ofNat_of_zero_le (show 0 ≤ fr by omega)
    obtain ⟨t, rfl⟩ := Int.eq_ofNat_of_zero_le (show 0 ≤ to by omega)
    rcases Nat.eq_zero_or_pos n with rfl | h0
    · obtain ⟨ao, c, rfl, _, _⟩ := hv
      obtain rfl : a = 0 := by omega
      obtain rfl : t = 0 := by omega
      exact rboxes_zero ao c f w
    · obtain ⟨b, o, c, rfl, hc, h1, h2⟩ := hv.open h0
      exact rboxes_ok b o n c f a t w hn hc h1 h2 (by omega) (by omega)

end Go.Proofs.Ytkhjkemllgjfmaa
