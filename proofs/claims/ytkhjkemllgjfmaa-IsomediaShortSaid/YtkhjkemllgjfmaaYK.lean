/- The contract of appendBox. -/
import Derived.Test.YtkhjkemllgjfmaaYJ
namespace Go.Proofs.Ytkhjkemllgjfmaa
open Go.RowKit
set_option linter.unusedVariables false
set_option linter.unusedSimpArgs false

theorem info107 : (Try.prog.info? 107).map (fun i => (i.zero, i.size, i.bytes)) = some (some (.agg #[.string { data := #[] }, .slice none 0 0]), 2, 40) := by kernel_rfl
theorem ta_109_107 (x : Value) (w : World) : (Instr.typeAssert (.iface 109 x) 83 107 true).run Try.prog w = .ok (.tuple #[.agg #[.string { data := #[] }, .slice none 0 0], .bool false]) w := by
  obtain ⟨i0, hi, hz0, _, _⟩ := info_parts info107
  simp [Instr.typeAssert, run_underlying Try.underlying107, zeroValue, typeInfo, hi, hz0]
theorem ta_109_109 (x : Value) (w : World) : (Instr.typeAssert (.iface 109 x) 83 109 true).run Try.prog w = .ok (.tuple #[x, .bool true]) w := by
  simp [Instr.typeAssert, run_underlying Try.underlying109]
theorem ta_107_107 (x : Value) (w : World) : (Instr.typeAssert (.iface 107 x) 83 107 true).run Try.prog w = .ok (.tuple #[x, .bool true]) w := by
  simp [Instr.typeAssert, run_underlying Try.underlying107]

set_option maxRecDepth 100000 in
set_option maxHeartbeats 4000000 in
theorem appb_leaf (b vd : Value) (name : ByteArray) (D M : List Int) (B : Nat) (w : World) (hb0 : Own w B b M) (ht : CA w b.ownBlock (.iface 109 (.agg #[.string name, vd])) (.leaf name D)) (hm : M.length + D.length + name.size ≤ 80000000) (hB : B ≤ w.heap.size) :
    Calls Try.prog 38 #[b, .iface 109 (.agg #[.string name, vd])] w fun e w' => ∃ r, e = .returned r ∧ Own w' B r (M ++ boxP name D) ∧ Adv w w' b r := by
  have hca := ht
  obtain ⟨ad, cd, rfl⟩ : ∃ a c, vd = .slice a D.length c := by cases hca with | leaf _ _ _ h _ => exact h.shape
  have HT := Lib.hid ht
  have HB0 := Lib.hid hb0
  obtain ⟨ba, bc, hbe⟩ := hb0.shape
  have HBE := Lib.hid hbe
  have HI : Hid (IL (w.alloc (.cells #[.int .i64 0] 2)) (.slice (some ⟨w.heap.size, 0, none⟩) 1 1) [0]) := Lib.hid (IL.build w [0] 2)
  rw [hbe]
  clear hb0 ht hca hbe
  go_enter Try.func38, Try.ntmps38
  go_wp2_with fail
  rw [← HBE.out]
  refine (appn_any b _ M [0] B _ (HB0.out.below (below_box w _)) HI.out (HB0.out.apart_new (Nat.le_refl _)) (by simp) (by omega) (by simp; omega)).mono ?_
  rintro e w1 ⟨r1, rfl, h1, ha1⟩
  obtain ⟨L1, hL1⟩ : ∃ L, L = M ++ numsL [0] := ⟨_, rfl⟩
  rw [← hL1] at h1
  have HL1 := Lib.hid hL1
  have HN1 := Lib.hid (show L1.length = M.length + 4 from by rw [hL1, List.length_append, numsL_length]; rfl)
  have HA1 := Lib.hid ((Adv.of_below (below_box w _)).trans ha1)
  have H1 := Lib.hid h1
  obtain ⟨qa, qc, hq⟩ := h1.shape
  have HR1 := Lib.hid hq
  rw [hq]
  clear h1 ha1 hL1 HI hq
  go_wp2_with fail
  refine (tag_leaf name _ w1 ⟨_, _, _, rfl⟩).mono ?_
  rintro e w2 ⟨rfl, hb2⟩
  have HB2 := Lib.hid hb2
  have hl2 : L1.length + name.size ≤ 100000000 := by have := HN1.out; omega
  have hsz1 : B ≤ w2.heap.size := by have := HA1.out.g.size; have := hb2.size; omega
  clear hb2
  go_wp2_with (at_builtin; rw [← HR1.out]; refine wpList_advS w2 rfl (.tmp 19) (.tmp 21) rfl B r1 L1 name rfl (H1.out.below HB2.out) rfl hl2 hsz1 ?_)
  intro r2 w2' h2 ha2
  obtain ⟨L2, hL2⟩ : ∃ L, L = L1 ++ strB name := ⟨_, rfl⟩
  rw [← hL2] at h2
  have HN2 := Lib.hid (show L2.length = M.length + 4 + name.size from by rw [hL2, List.length_append, strB_length, HN1.out])
  have HL2 := Lib.hid (show L2 = M ++ (num4 0 ++ strB name) from by rw [hL2, HL1.out]; simp [numsL])
  have HA2 := Lib.hid (HA1.out.trans ((Adv.of_below HB2.out).trans ha2))
  have H2 := Lib.hid h2
  obtain ⟨ua, uc, hu⟩ := h2.shape
  have HR2 := Lib.hid hu
  rw [hu]
  clear h2 ha2 hL2 hu hl2
  have HT2 := Lib.hid (HT.out.adv HA2.out)
  have ta1 := ta_109_107 (.agg #[.string name, .slice ad D.length cd]) w2'
  have ta2 := ta_109_109 (.agg #[.string name, .slice ad D.length cd]) w2'
  have hbl : BL w2' (.slice ad D.length cd) D := by cases HT2.out with | leaf _ _ _ h _ => exact h
  have HBL := Lib.hid hbl
  have hl4 : L2.length + D.length ≤ 100000000 := by have := HN2.out; omega
  have hsz2 : B ≤ w2'.heap.size := by have := HA2.out.g.size; omega
  clear hbl
  go_wp2_with (at_builtin; rw [← HR2.out]; refine wpList_adv _ rfl (.tmp 41) (.tmp 43) rfl B r2 _ L2 D rfl (H2.out.below (below_box w2' _)) rfl (HBL.out.below (below_box w2' _)) hl4 (by simp; omega) ?_)
  intro r3 w3 h3 ha3
  obtain ⟨L3, hL3⟩ : ∃ L, L = L2 ++ D := ⟨_, rfl⟩
  rw [← hL3] at h3
  have HN3 := Lib.hid (show L3.length = M.length + 4 + name.size + D.length from by rw [hL3, List.length_append, HN2.out])
  have HL3 := Lib.hid (show L3 = M ++ (num4 0 ++ (strB name ++ D)) from by rw [hL3, HL2.out]; simp)
  have HA3 := Lib.hid (HA2.out.trans ((Adv.of_below (below_box w2' _)).trans ha3))
  have H3 := Lib.hid h3
  clear h3 ha3 hL3 ta1 ta2 hl4
  have hpos : 0 < L3.length := by have := HN3.out; omega
  obtain ⟨g, cap, eg, hcap, _⟩ := owns_open H3.out hpos
  have HEG := Lib.hid eg
  have hgl : g < w3.heap.size := (World.ownsRow.lt H3.out g (by rw [eg]; rfl)).2
  rw [eg] at H3 HA3 ⊢
  have hx3 : ((L3.length : Int) - (M.length : Int)) = (D.length : Int) + 4 + name.size := by have := HN3.out; omega
  have HX3 := Lib.hid hx3
  have hml : M.length ≤ L3.length := by have := HN3.out; omega
  have hl3 : L3.length ≤ 90000000 := by have := HN3.out; omega
  obtain ⟨n3, hn3⟩ : ∃ n, n = L3.length := ⟨_, rfl⟩
  rw [← hn3] at H3 HA3 HX3 hml hcap hl3 ⊢
  have HNN := Lib.hid hn3
  have hmn : M.length + 4 ≤ n3 := by rw [hn3]; have := HN3.out; omega
  obtain ⟨km, hkm⟩ : ∃ k, k = M.length := ⟨_, rfl⟩
  rw [← hkm] at HX3 hml hmn ⊢
  have HKM := Lib.hid hkm
  have hb3 : Below w3.heap.size w3 (w3.alloc (.cells #[.int .i64 ((n3 : Int) - (km : Int))] 2)) := below_box _ _
  have hsz3 := HA3.out.g.size
  clear eg hx3 hn3 hpos hkm
  go_wp2_with fail
  refine (patch_any g n3 cap km L3 ((n3 : Int) - (km : Int)) B w3.heap.size 1 _ (H3.out.below hb3) HNN.out hmn (by simp [go_sem]) (by omega) (by omega)).mono ?_
  rintro e w4 ⟨⟨rr, rfl⟩, h4, ha4⟩
  have HA4 := Lib.hid (HA3.out.trans (Adv.of_below hb3))
  have HAP := Lib.hid ha4
  have H4 := Lib.hid h4
  clear h4 ha4 hb3
  go_wp2_with fail
  go_ret
  have hp : patch L3 km ((n3 : Int) - (km : Int)) = M ++ boxP name D := by
    rw [HX3.out, HL3.out, HKM.out, patch_head]
    rfl
  have ho4 := H4.out
  rw [hp] at ho4
  have hfin := HA4.out.patch HAP.out hB HB0.out ho4
  rw [HBE.out] at hfin
  exact ⟨_, rfl, ho4, hfin⟩
def AppB (t : CT) : Prop := ∀ (b c : Value) (M : List Int) (B : Nat) (w : World), Own w B b M → CA w b.ownBlock c t → M.length + (bytesT t).length ≤ 80000000 → B ≤ w.heap.size →
    Calls Try.prog 38 #[b, c] w fun e w' => ∃ r, e = .returned r ∧ Own w' B r (M ++ bytesT t) ∧ Adv w w' b r
theorem boxP_length (name : ByteArray) (d : List Int) : (boxP name d).length = 4 + name.size + d.length := by simp [boxP, num4, strB_length]; omega
theorem catN_le (f : Nat → List Int) {k n : Nat} (h : k ≤ n) : (catN f k).length ≤ (catN f n).length := by
  induction n with
  | zero => obtain rfl : k = 0 := by omega
            exact Nat.le_refl _
  | succ n ih =>
    by_cases e : k = n + 1
    · subst e; exact Nat.le_refl _
    · have := ih (by omega); simp only [catN, List.length_append]; omega

set_option maxRecDepth 100000 in
set_option maxHeartbeats 4000000 in
theorem appb_group (name : ByteArray) (n : Nat) (parts : Nat → CT) (hnb : n ≤ 1000000) (ih : ∀ i, i < n → AppB (parts i)) : AppB (.group name n parts) := by
  intro b c M B w hb0 ht hm hB
  simp only [bytesT] at hm ⊢
  rw [boxP_length] at hm
  obtain ⟨F, hF⟩ : ∃ F, F = fun i => bytesT (parts i) := ⟨_, rfl⟩
  rw [← hF] at hm ⊢
  have HF := Lib.hid hF
  have HIH := Lib.hid ih
  obtain ⟨D, hD⟩ : ∃ D, D = catN F n := ⟨_, rfl⟩
  rw [← hD] at hm ⊢
  have HD := Lib.hid hD
  have HM := Lib.hid hm
  have hnm : name.size ≤ 80000000 := by omega
  have hMm : M.length + name.size ≤ 80000000 := by omega
  have hca := ht
  obtain ⟨bp, op, cp, rfl, hcp⟩ : ∃ bp op cp, c = .iface 107 (.agg #[.string name, .slice (some ⟨bp, op, none⟩) n cp]) ∧ n ≤ cp := by cases hca with | group _ _ _ b o c f hc _ _ _ _ => exact ⟨b, o, c, rfl, hc⟩
  clear hF ih hm hD
  have HT := Lib.hid ht
  have HB0 := Lib.hid hb0
  obtain ⟨ba, bc, hbe⟩ := hb0.shape
  have HBE := Lib.hid hbe
  have HI : Hid (IL (w.alloc (.cells #[.int .i64 0] 2)) (.slice (some ⟨w.heap.size, 0, none⟩) 1 1) [0]) := Lib.hid (IL.build w [0] 2)
  rw [hbe]
  clear hb0 ht hca hbe
  go_enter Try.func38, Try.ntmps38
  go_wp2_with fail
  rw [← HBE.out]
  refine (appn_any b _ M [0] B _ (HB0.out.below (below_box w _)) HI.out (HB0.out.apart_new (Nat.le_refl _)) (by simp) (by omega) (by simp; omega)).mono ?_
  rintro e w1 ⟨r1, rfl, h1, ha1⟩
  obtain ⟨L1, hL1⟩ : ∃ L, L = M ++ numsL [0] := ⟨_, rfl⟩
  rw [← hL1] at h1
  have HL1 := Lib.hid hL1
  have HN1 := Lib.hid (show L1.length = M.length + 4 from by rw [hL1, List.length_append, numsL_length]; rfl)
  have HA1 := Lib.hid ((Adv.of_below (below_box w _)).trans ha1)
  have H1 := Lib.hid h1
  obtain ⟨qa, qc, hq⟩ := h1.shape
  have HR1 := Lib.hid hq
  rw [hq]
  clear h1 ha1 hL1 HI hq
  go_wp2_with fail
  refine (tag_group name _ w1 ⟨_, _, _, rfl⟩).mono ?_
  rintro e w2 ⟨rfl, hb2⟩
  have HB2 := Lib.hid hb2
  have hl2 : L1.length + name.size ≤ 100000000 := by have := HN1.out; omega
  have hsz1 : B ≤ w2.heap.size := by have := HA1.out.g.size; have := hb2.size; omega
  clear hb2
  go_wp2_with (at_builtin; rw [← HR1.out]; refine wpList_advS w2 rfl (.tmp 19) (.tmp 21) rfl B r1 L1 name rfl (H1.out.below HB2.out) rfl hl2 hsz1 ?_)
  intro r2 w2' h2 ha2
  obtain ⟨L2, hL2⟩ : ∃ L, L = L1 ++ strB name := ⟨_, rfl⟩
  rw [← hL2] at h2
  have HN2 := Lib.hid (show L2.length = M.length + 4 + name.size from by rw [hL2, List.length_append, strB_length, HN1.out])
  have HL2 := Lib.hid (show L2 = M ++ (num4 0 ++ strB name) from by rw [hL2, HL1.out]; simp [numsL])
  have HA2 := Lib.hid (HA1.out.trans ((Adv.of_below HB2.out).trans ha2))
  have H2 := Lib.hid h2
  obtain ⟨ua, uc, hu⟩ := h2.shape
  have HR2 := Lib.hid hu
  rw [hu]
  clear h2 ha2 hL2 hu hl2
  have HT2 := Lib.hid (HT.out.adv HA2.out)
  have ta1 := ta_107_107 (.agg #[.string name, .slice (some ⟨bp, op, none⟩) n cp]) w2'
  have hsz2 : B ≤ w2'.heap.size := by have := HA2.out.g.size; omega
  go_wp2_with fail
  obtain ⟨wb, hwb⟩ : ∃ x, x = w2'.alloc (.cells #[.string name, .slice (some ⟨bp, op, none⟩) n cp] 107) := ⟨_, rfl⟩
  rw [← hwb]
  have hbb : Below w2'.heap.size w2' wb := by rw [hwb]; exact below_box _ _
  have HBB := Lib.hid hbb
  obtain ⟨bx, hbx⟩ : ∃ x, x = w2'.heap.size := ⟨_, rfl⟩
  rw [← hbx]
  have hn100 : n ≤ 1000000 := hnb
  clear hwb hbb hbx ta1
  rw [← HR2.out]
  go_loopw [30, 0] (fun i r wr => ∃ k : Nat, k ≤ n ∧ i = .int .i64 (k : Int) ∧ Own wr B r (L2 ++ catN F k) ∧ Adv w2' wr r2 r) (fun i _ _ => n - (intOf i).toNat)
  case atStart => exact ⟨0, Nat.zero_le _, rfl, by simpa [catN] using H2.out.below HBB.out, Adv.of_below HBB.out⟩
  case round =>
    obtain ⟨k, hk, rfl, ho, ha⟩ := hrel
    have HO := Lib.hid ho
    have HA := Lib.hid ha
    obtain ⟨T, hT⟩ : ∃ T, T = L2 ++ catN F k := ⟨_, rfl⟩
    rw [← hT] at ho
    have HTT := Lib.hid hT
    have HOT := Lib.hid ho
    obtain ⟨ra, rc, hr⟩ := ho.shape
    have HRS := Lib.hid hr
    clear ho ha hT hr
    by_cases hlt : k < n
    · have hw := HT2.out.adv HA.out
      obtain ⟨x, hcx, hsx⟩ : ∃ x, wr.cell? ⟨bp, op + k, none⟩ = some x ∧ CA wr u0.ownBlock x (parts k) := by
        cases hw with | group _ _ _ _ _ _ f _ _ _ hcell hsub => exact ⟨f k, hcell k hlt, hsub k hlt⟩
      have HSX := Lib.hid hsx
      clear hw hsx
      have hbd : T.length + (bytesT (parts k)).length ≤ 80000000 := by
        have h1 := catN_le F (show k + 1 ≤ n by omega)
        rw [← HD.out] at h1
        simp only [catN, List.length_append] at h1
        have h2 : (F k).length = (bytesT (parts k)).length := by rw [HF.out]
        have h3 := HM.out
        have h4 := HN2.out
        rw [HTT.out, List.length_append]
        omega
      have HBD := Lib.hid hbd
      have hBr : B ≤ wr.heap.size := by have := HA.out.g.size; omega
      clear hbd
      go_wp2_with fail
      refine (HIH.out k hlt u0 x T B wr HOT.out HSX.out HBD.out hBr).mono ?_
      rintro e w4 ⟨r4, rfl, h4, ha4⟩
      have HA4 := Lib.hid (HA.out.trans ha4)
      have H4 := Lib.hid (show Own w4 B r4 (L2 ++ catN F (k + 1)) from by
        have e : L2 ++ catN F (k + 1) = T ++ bytesT (parts k) := by simp only [catN]; rw [HTT.out, HF.out, List.append_assoc]
        rw [e]; exact h4)
      clear h4 ha4
      go_wp2_with fail
      go_roundw
      case rel => exact ⟨k + 1, by omega, by go_num, H4.out, HA4.out⟩
      case measure => simp [intOf]; omega
    · obtain rfl : k = n := by omega
      obtain ⟨w3, hw3⟩ : ∃ x, x = wr := ⟨_, rfl⟩
      obtain ⟨L3, hL3⟩ : ∃ L, L = T := ⟨_, rfl⟩
      have HL3' := Lib.hid (show L3 = L2 ++ D from by rw [hL3, HTT.out, HD.out])
      have HN3 := Lib.hid (show L3.length = M.length + 4 + name.size + D.length from by rw [HL3'.out, List.length_append, HN2.out])
      have HL3 := Lib.hid (show L3 = M ++ (num4 0 ++ (strB name ++ D)) from by rw [HL3'.out, HL2.out]; simp)
      have HA3 := Lib.hid (HA2.out.trans HA.out)
      have hmm := HM.out
      have H3 := Lib.hid (show Own wr B u0 L3 from by rw [hL3]; exact HOT.out)
      rw [← hw3] at H3 HA3 ⊢
      clear hw3 hL3
      have hpos : 0 < L3.length := by have := HN3.out; omega
      obtain ⟨g, cap, eg, hcap, _⟩ := owns_open H3.out hpos
      have HEG := Lib.hid eg
      have hgl : g < w3.heap.size := (World.ownsRow.lt H3.out g (by rw [eg]; rfl)).2
      rw [eg] at H3 HA3 ⊢
      have hx3 : ((L3.length : Int) - (M.length : Int)) = (D.length : Int) + 4 + name.size := by have := HN3.out; omega
      have HX3 := Lib.hid hx3
      have hml : M.length ≤ L3.length := by have := HN3.out; omega
      have hl3 : L3.length ≤ 90000000 := by have := HN3.out; omega
      obtain ⟨n3, hn3⟩ : ∃ n, n = L3.length := ⟨_, rfl⟩
      rw [← hn3] at H3 HA3 HX3 hml hcap hl3 ⊢
      have HNN := Lib.hid hn3
      have hmn : M.length + 4 ≤ n3 := by rw [hn3]; have := HN3.out; omega
      obtain ⟨km, hkm⟩ : ∃ k, k = M.length := ⟨_, rfl⟩
      rw [← hkm] at HX3 hml hmn ⊢
      have HKM := Lib.hid hkm
      have hb3 : Below w3.heap.size w3 (w3.alloc (.cells #[.int .i64 ((n3 : Int) - (km : Int))] 2)) := below_box _ _
      have hsz3 := HA3.out.g.size
      clear eg hx3 hn3 hpos hkm
      go_wp2_with fail
      refine (patch_any g n3 cap km L3 ((n3 : Int) - (km : Int)) B w3.heap.size 1 _ (H3.out.below hb3) HNN.out hmn (by simp [go_sem]) (by omega) (by omega)).mono ?_
      rintro e w4 ⟨⟨rr, rfl⟩, h4, ha4⟩
      have HA4 := Lib.hid (HA3.out.trans (Adv.of_below hb3))
      have HAP := Lib.hid ha4
      have H4 := Lib.hid h4
      clear h4 ha4 hb3
      go_wp2_with fail
      go_ret
      have hp : patch L3 km ((n3 : Int) - (km : Int)) = M ++ boxP name D := by
        rw [HX3.out, HL3.out, HKM.out, patch_head]
        rfl
      have ho4 := H4.out
      rw [hp] at ho4
      have hfin := HA4.out.patch HAP.out hB HB0.out ho4
      rw [HBE.out] at hfin
      exact ⟨_, rfl, ho4, hfin⟩
/-- No box holds too many boxes. -/
def small : CT → Prop
  | .leaf name data => True
  | .group name n parts => n ≤ 1000000 ∧ ∀ i, i < n → small (parts i)
theorem appb_any (t : CT) (h : small t) : AppB t := by
  induction t with
  | leaf name data =>
    intro b c M B w hb0 ht hm hB
    simp only [bytesT] at hm ⊢
    rw [boxP_length] at hm
    cases ht with
    | leaf _ vd _ hbl ha => exact appb_leaf b vd name data M B w hb0 (.leaf name vd data hbl ha) (by omega) hB
  | group name n parts ih => exact appb_group name n parts h.1 (fun i hi => ih i (h.2 i hi))
end Go.Proofs.Ytkhjkemllgjfmaa
