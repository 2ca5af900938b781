/- Texts of this claim joined: YK YL YN YM. -/
import Derived.Test.YtkhjkemllgjfmaaPu04
set_option linter.unusedVariables false
set_option linter.unusedSimpArgs false

/- The contract of appendBox. -/
namespace Go.Proofs.Ytkhjkemllgjfmaa
open Go.RowKit
set_option linter.unusedVariables false
set_option linter.unusedSimpArgs false

theorem info107 : (Try.prog.info? 107).map (fun i => (i.zero, i.size, i.bytes)) = some (some (.agg #[.string { data := #[] }, .slice none 0 0]), 2, 40) := by kernel_rfl
theorem ta_109_107 (x : Value) (w : World) : (Instr.typeAssert (.iface 109 x) 83 107 true).run Try.prog w = .ok (.tuple #[.agg #[.string { data := #[] }, .slice none 0 0], .bool false]) w := by
  obtain ⟨i0, hi, hz0, _, _⟩ := info_parts info107
  simp [Instr.typeAssert, run_underlying Try.underlying107, zeroValue, typeInfo, hi, hz0]
theorem ta_109_109 (x : Value) (w : World) : (Instr.typeAssert (.iface 109 x) 83 109 true).run Try.prog w = .ok (.tuple #[x, .bool true]) w := by
  simp [Instr.typeAssert, run_underlying Try.underlying109]
theorem ta_107_107 (x : Value) (w : World) : (Instr.typeAssert (.iface 107 x) 83 107 true).run Try.prog w = .ok (.tuple #[x, .bool true]) w := by
  simp [Instr.typeAssert, run_underlying Try.underlying107]

set_option maxRecDepth 100000 in
set_option maxHeartbeats 4000000 in
theorem appb_leaf (b vd : Value) (name : ByteArray) (D M : List Int) (B : Nat) (w : World) (hb0 : Own w B b M) (ht : CA w b.ownBlock (.iface 109 (.agg #[.string name, vd])) (.leaf name D)) (hm : M.length + D.length + name.size ≤ 80000000) (hB : B ≤ w.heap.size) :
    Calls Try.prog 38 #[b, .iface 109 (.agg #[.string name, vd])] w fun e w' => ∃ r, e = .returned r ∧ Own w' B r (M ++ boxP name D) ∧ Adv w w' b r := by
  have hca := ht
  obtain ⟨ad, cd, rfl⟩ : ∃ a c, vd = .slice a D.length c := by cases hca with | leaf _ _ _ h _ => exact h.shape
  have HT := Lib.hid ht
  have HB0 := Lib.hid hb0
  obtain ⟨ba, bc, hbe⟩ := hb0.shape
  have HBE := Lib.hid hbe
  have HI : Hid (IL (w.alloc (.cells #[.int .i64 0] 2)) (.slice (some ⟨w.heap.size, 0, none⟩) 1 1) [0]) := Lib.hid (IL.build w [0] 2)
  rw [hbe]
  clear hb0 ht hca hbe
  go_enter Try.func38, Try.ntmps38
  go_wp2_with fail
  rw [← HBE.out]
  refine (appn_any b _ M [0] B _ (HB0.out.below (below_box w _)) HI.out (HB0.out.apart_new (Nat.le_refl _)) (by simp) (by omega) (by simp; omega)).mono ?_
  rintro e w1 ⟨r1, rfl, h1, ha1⟩
  obtain ⟨L1, hL1⟩ : ∃ L, L = M ++ numsL [0] := ⟨_, rfl⟩
  rw [← hL1] at h1
  have HL1 := Lib.hid hL1
  have HN1 := Lib.hid (show L1.length = M.length + 4 from by rw [hL1, List.length_append, numsL_length]; rfl)
  have HA1 := Lib.hid ((Adv.of_below (below_box w _)).trans ha1)
  have H1 := Lib.hid h1
  obtain ⟨qa, qc, hq⟩ := h1.shape
  have HR1 := Lib.hid hq
  rw [hq]
  clear h1 ha1 hL1 HI hq
  go_wp2_with fail
  refine (tag_leaf name _ w1 ⟨_, _, _, rfl⟩).mono ?_
  rintro e w2 ⟨rfl, hb2⟩
  have HB2 := Lib.hid hb2
  have hl2 : L1.length + name.size ≤ 100000000 := by have := HN1.out; omega
  have hsz1 : B ≤ w2.heap.size := by have := HA1.out.g.size; have := hb2.size; omega
  clear hb2
  go_wp2_with (at_builtin; rw [← HR1.out]; refine wpList_advS w2 rfl (.tmp 19) (.tmp 21) rfl B r1 L1 name rfl (H1.out.below HB2.out) rfl hl2 hsz1 ?_)
  intro r2 w2' h2 ha2
  obtain ⟨L2, hL2⟩ : ∃ L, L = L1 ++ strB name := ⟨_, rfl⟩
  rw [← hL2] at h2
  have HN2 := Lib.hid (show L2.length = M.length + 4 + name.size from by rw [hL2, List.length_append, strB_length, HN1.out])
  have HL2 := Lib.hid (show L2 = M ++ (num4 0 ++ strB name) from by rw [hL2, HL1.out]; simp [numsL])
  have HA2 := Lib.hid (HA1.out.trans ((Adv.of_below HB2.out).trans ha2))
  have H2 := Lib.hid h2
  obtain ⟨ua, uc, hu⟩ := h2.shape
  have HR2 := Lib.hid hu
  rw [hu]
  clear h2 ha2 hL2 hu hl2
  have HT2 := Lib.hid (HT.out.adv HA2.out)
  have ta1 := ta_109_107 (.agg #[.string name, .slice ad D.length cd]) w2'
  have ta2 := ta_109_109 (.agg #[.string name, .slice ad D.length cd]) w2'
  have hbl : BL w2' (.slice ad D.length cd) D := by cases HT2.out with | leaf _ _ _ h _ => exact h
  have HBL := Lib.hid hbl
  have hl4 : L2.length + D.length ≤ 100000000 := by have := HN2.out; omega
  have hsz2 : B ≤ w2'.heap.size := by have := HA2.out.g.size; omega
  clear hbl
  go_wp2_with (at_builtin; rw [← HR2.out]; refine wpList_adv _ rfl (.tmp 41) (.tmp 43) rfl B r2 _ L2 D rfl (H2.out.below (below_box w2' _)) rfl (HBL.out.below (below_box w2' _)) hl4 (by simp; omega) ?_)
  intro r3 w3 h3 ha3
  obtain ⟨L3, hL3⟩ : ∃ L, L = L2 ++ D := ⟨_, rfl⟩
  rw [← hL3] at h3
  have HN3 := Lib.hid (show L3.length = M.length + 4 + name.size + D.length from by rw [hL3, List.length_append, HN2.out])
  have HL3 := Lib.hid (show L3 = M ++ (num4 0 ++ (strB name ++ D)) from by rw [hL3, HL2.out]; simp)
  have HA3 := Lib.hid (HA2.out.trans ((Adv.of_below (below_box w2' _)).trans ha3))
  have H3 := Lib.hid h3
  clear h3 ha3 hL3 ta1 ta2 hl4
  have hpos : 0 < L3.length := by have := HN3.out; omega
  obtain ⟨g, cap, eg, hcap, _⟩ := owns_open H3.out hpos
  have HEG := Lib.hid eg
  have hgl : g < w3.heap.size := (World.ownsRow.lt H3.out g (by rw [eg]; rfl)).2
  rw [eg] at H3 HA3 ⊢
  have hx3 : ((L3.length : Int) - (M.length : Int)) = (D.length : Int) + 4 + name.size := by have := HN3.out; omega
  have HX3 := Lib.hid hx3
  have hml : M.length ≤ L3.length := by have := HN3.out; omega
  have hl3 : L3.length ≤ 90000000 := by have := HN3.out; omega
  obtain ⟨n3, hn3⟩ : ∃ n, n = L3.length := ⟨_, rfl⟩
  rw [← hn3] at H3 HA3 HX3 hml hcap hl3 ⊢
  have HNN := Lib.hid hn3
  have hmn : M.length + 4 ≤ n3 := by rw [hn3]; have := HN3.out; omega
  obtain ⟨km, hkm⟩ : ∃ k, k = M.length := ⟨_, rfl⟩
  rw [← hkm] at HX3 hml hmn ⊢
  have HKM := Lib.hid hkm
  have hb3 : Below w3.heap.size w3 (w3.alloc (.cells #[.int .i64 ((n3 : Int) - (km : Int))] 2)) := below_box _ _
  have hsz3 := HA3.out.g.size
  clear eg hx3 hn3 hpos hkm
  go_wp2_with fail
  refine (patch_any g n3 cap km L3 ((n3 : Int) - (km : Int)) B w3.heap.size 1 _ (H3.out.below hb3) HNN.out hmn (by simp [go_sem]) (by omega) (by omega)).mono ?_
  rintro e w4 ⟨⟨rr, rfl⟩, h4, ha4⟩
  have HA4 := Lib.hid (HA3.out.trans (Adv.of_below hb3))
  have HAP := Lib.hid ha4
  have H4 := Lib.hid h4
  clear h4 ha4 hb3
  go_wp2_with fail
  go_ret
  have hp : patch L3 km ((n3 : Int) - (km : Int)) = M ++ boxP name D := by
    rw [HX3.out, HL3.out, HKM.out, patch_head]
    rfl
  have ho4 := H4.out
  rw [hp] at ho4
  have hfin := HA4.out.patch HAP.out hB HB0.out ho4
  rw [HBE.out] at hfin
  exact ⟨_, rfl, ho4, hfin⟩
def AppB (t : CT) : Prop := ∀ (b c : Value) (M : List Int) (B : Nat) (w : World), Own w B b M → CA w b.ownBlock c t → M.length + (bytesT t).length ≤ 80000000 → B ≤ w.heap.size →
    Calls Try.prog 38 #[b, c] w fun e w' => ∃ r, e = .returned r ∧ Own w' B r (M ++ bytesT t) ∧ Adv w w' b r
theorem boxP_length (name : ByteArray) (d : List Int) : (boxP name d).length = 4 + name.size + d.length := by simp [boxP, num4, strB_length]; omega
theorem catN_le (f : Nat → List Int) {k n : Nat} (h : k ≤ n) : (catN f k).length ≤ (catN f n).length := by
  induction n with
  | zero => obtain rfl : k = 0 := by omega
            exact Nat.le_refl _
  | succ n ih =>
    by_cases e : k = n + 1
    · subst e; exact Nat.le_refl _
    · have := ih (by omega); simp only [catN, List.length_append]; omega

set_option maxRecDepth 100000 in
set_option maxHeartbeats 4000000 in
theorem appb_group (name : ByteArray) (n : Nat) (parts : Nat → CT) (hnb : n ≤ 1000000) (ih : ∀ i, i < n → AppB (parts i)) : AppB (.group name n parts) := by
  intro b c M B w hb0 ht hm hB
  simp only [bytesT] at hm ⊢
  rw [boxP_length] at hm
  obtain ⟨F, hF⟩ : ∃ F, F = fun i => bytesT (parts i) := ⟨_, rfl⟩
  rw [← hF] at hm ⊢
  have HF := Lib.hid hF
  have HIH := Lib.hid ih
  obtain ⟨D, hD⟩ : ∃ D, D = catN F n := ⟨_, rfl⟩
  rw [← hD] at hm ⊢
  have HD := Lib.hid hD
  have HM := Lib.hid hm
  have hnm : name.size ≤ 80000000 := by omega
  have hMm : M.length + name.size ≤ 80000000 := by omega
  have hca := ht
  obtain ⟨bp, op, cp, rfl, hcp⟩ : ∃ bp op cp, c = .iface 107 (.agg #[.string name, .slice (some ⟨bp, op, none⟩) n cp]) ∧ n ≤ cp := by cases hca with | group _ _ _ b o c f hc _ _ _ _ => exact ⟨b, o, c, rfl, hc⟩
  clear hF ih hm hD
  have HT := Lib.hid ht
  have HB0 := Lib.hid hb0
  obtain ⟨ba, bc, hbe⟩ := hb0.shape
  have HBE := Lib.hid hbe
  have HI : Hid (IL (w.alloc (.cells #[.int .i64 0] 2)) (.slice (some ⟨w.heap.size, 0, none⟩) 1 1) [0]) := Lib.hid (IL.build w [0] 2)
  rw [hbe]
  clear hb0 ht hca hbe
  go_enter Try.func38, Try.ntmps38
  go_wp2_with fail
  rw [← HBE.out]
  refine (appn_any b _ M [0] B _ (HB0.out.below (below_box w _)) HI.out (HB0.out.apart_new (Nat.le_refl _)) (by simp) (by omega) (by simp; omega)).mono ?_
  rintro e w1 ⟨r1, rfl, h1, ha1⟩
  obtain ⟨L1, hL1⟩ : ∃ L, L = M ++ numsL [0] := ⟨_, rfl⟩
  rw [← hL1] at h1
  have HL1 := Lib.hid hL1
  have HN1 := Lib.hid (show L1.length = M.length + 4 from by rw [hL1, List.length_append, numsL_length]; rfl)
  have HA1 := Lib.hid ((Adv.of_below (below_box w _)).trans ha1)
  have H1 := Lib.hid h1
  obtain ⟨qa, qc, hq⟩ := h1.shape
  have HR1 := Lib.hid hq
  rw [hq]
  clear h1 ha1 hL1 HI hq
  go_wp2_with fail
  refine (tag_group name _ w1 ⟨_, _, _, rfl⟩).mono ?_
  rintro e w2 ⟨rfl, hb2⟩
  have HB2 := Lib.hid hb2
  have hl2 : L1.length + name.size ≤ 100000000 := by have := HN1.out; omega
  have hsz1 : B ≤ w2.heap.size := by have := HA1.out.g.size; have := hb2.size; omega
  clear hb2
  go_wp2_with (at_builtin; rw [← HR1.out]; refine wpList_advS w2 rfl (.tmp 19) (.tmp 21) rfl B r1 L1 name rfl (H1.out.below HB2.out) rfl hl2 hsz1 ?_)
  intro r2 w2' h2 ha2
  obtain ⟨L2, hL2⟩ : ∃ L, L = L1 ++ strB name := ⟨_, rfl⟩
  rw [← hL2] at h2
  have HN2 := Lib.hid (show L2.length = M.length + 4 + name.size from by rw [hL2, List.length_append, strB_length, HN1.out])
  have HL2 := Lib.hid (show L2 = M ++ (num4 0 ++ strB name) from by rw [hL2, HL1.out]; simp [numsL])
  have HA2 := Lib.hid (HA1.out.trans ((Adv.of_below HB2.out).trans ha2))
  have H2 := Lib.hid h2
  obtain ⟨ua, uc, hu⟩ := h2.shape
  have HR2 := Lib.hid hu
  rw [hu]
  clear h2 ha2 hL2 hu hl2
  have HT2 := Lib.hid (HT.out.adv HA2.out)
  have ta1 := ta_107_107 (.agg #[.string name, .slice (some ⟨bp, op, none⟩) n cp]) w2'
  have hsz2 : B ≤ w2'.heap.size := by have := HA2.out.g.size; omega
  go_wp2_with fail
  obtain ⟨wb, hwb⟩ : ∃ x, x = w2'.alloc (.cells #[.string name, .slice (some ⟨bp, op, none⟩) n cp] 107) := ⟨_, rfl⟩
  rw [← hwb]
  have hbb : Below w2'.heap.size w2' wb := by rw [hwb]; exact below_box _ _
  have HBB := Lib.hid hbb
  obtain ⟨bx, hbx⟩ : ∃ x, x = w2'.heap.size := ⟨_, rfl⟩
  rw [← hbx]
  have hn100 : n ≤ 1000000 := hnb
  clear hwb hbb hbx ta1
  rw [← HR2.out]
  go_loopw [30, 0] (fun i r wr => ∃ k : Nat, k ≤ n ∧ i = .int .i64 (k : Int) ∧ Own wr B r (L2 ++ catN F k) ∧ Adv w2' wr r2 r) (fun i _ _ => n - (intOf i).toNat)
  case atStart => exact ⟨0, Nat.zero_le _, rfl, by simpa [catN] using H2.out.below HBB.out, Adv.of_below HBB.out⟩
  case round =>
    obtain ⟨k, hk, rfl, ho, ha⟩ := hrel
    have HO := Lib.hid ho
    have HA := Lib.hid ha
    obtain ⟨T, hT⟩ : ∃ T, T = L2 ++ catN F k := ⟨_, rfl⟩
    rw [← hT] at ho
    have HTT := Lib.hid hT
    have HOT := Lib.hid ho
    obtain ⟨ra, rc, hr⟩ := ho.shape
    have HRS := Lib.hid hr
    clear ho ha hT hr
    by_cases hlt : k < n
    · have hw := HT2.out.adv HA.out
      obtain ⟨x, hcx, hsx⟩ : ∃ x, wr.cell? ⟨bp, op + k, none⟩ = some x ∧ CA wr u0.ownBlock x (parts k) := by
        cases hw with | group _ _ _ _ _ _ f _ _ _ hcell hsub => exact ⟨f k, hcell k hlt, hsub k hlt⟩
      have HSX := Lib.hid hsx
      clear hw hsx
      have hbd : T.length + (bytesT (parts k)).length ≤ 80000000 := by
        have h1 := catN_le F (show k + 1 ≤ n by omega)
        rw [← HD.out] at h1
        simp only [catN, List.length_append] at h1
        have h2 : (F k).length = (bytesT (parts k)).length := by rw [HF.out]
        have h3 := HM.out
        have h4 := HN2.out
        rw [HTT.out, List.length_append]
        omega
      have HBD := Lib.hid hbd
      have hBr : B ≤ wr.heap.size := by have := HA.out.g.size; omega
      clear hbd
      go_wp2_with fail
      refine (HIH.out k hlt u0 x T B wr HOT.out HSX.out HBD.out hBr).mono ?_
      rintro e w4 ⟨r4, rfl, h4, ha4⟩
      have HA4 := Lib.hid (HA.out.trans ha4)
      have H4 := Lib.hid (show Own w4 B r4 (L2 ++ catN F (k + 1)) from by
        have e : L2 ++ catN F (k + 1) = T ++ bytesT (parts k) := by simp only [catN]; rw [HTT.out, HF.out, List.append_assoc]
        rw [e]; exact h4)
      clear h4 ha4
      go_wp2_with fail
      go_roundw
      case rel => exact ⟨k + 1, by omega, by go_num, H4.out, HA4.out⟩
      case measure => simp [intOf]; omega
    · obtain rfl : k = n := by omega
      obtain ⟨w3, hw3⟩ : ∃ x, x = wr := ⟨_, rfl⟩
      obtain ⟨L3, hL3⟩ : ∃ L, L = T := ⟨_, rfl⟩
      have HL3' := Lib.hid (show L3 = L2 ++ D from by rw [hL3, HTT.out, HD.out])
      have HN3 := Lib.hid (show L3.length = M.length + 4 + name.size + D.length from by rw [HL3'.out, List.length_append, HN2.out])
      have HL3 := Lib.hid (show L3 = M ++ (num4 0 ++ (strB name ++ D)) from by rw [HL3'.out, HL2.out]; simp)
      have HA3 := Lib.hid (HA2.out.trans HA.out)
      have hmm := HM.out
      have H3 := Lib.hid (show Own wr B u0 L3 from by rw [hL3]; exact HOT.out)
      rw [← hw3] at H3 HA3 ⊢
      clear hw3 hL3
      have hpos : 0 < L3.length := by have := HN3.out; omega
      obtain ⟨g, cap, eg, hcap, _⟩ := owns_open H3.out hpos
      have HEG := Lib.hid eg
      have hgl : g < w3.heap.size := (World.ownsRow.lt H3.out g (by rw [eg]; rfl)).2
      rw [eg] at H3 HA3 ⊢
      have hx3 : ((L3.length : Int) - (M.length : Int)) = (D.length : Int) + 4 + name.size := by have := HN3.out; omega
      have HX3 := Lib.hid hx3
      have hml : M.length ≤ L3.length := by have := HN3.out; omega
      have hl3 : L3.length ≤ 90000000 := by have := HN3.out; omega
      obtain ⟨n3, hn3⟩ : ∃ n, n = L3.length := ⟨_, rfl⟩
      rw [← hn3] at H3 HA3 HX3 hml hcap hl3 ⊢
      have HNN := Lib.hid hn3
      have hmn : M.length + 4 ≤ n3 := by rw [hn3]; have := HN3.out; omega
      obtain ⟨km, hkm⟩ : ∃ k, k = M.length := ⟨_, rfl⟩
      rw [← hkm] at HX3 hml hmn ⊢
      have HKM := Lib.hid hkm
      have hb3 : Below w3.heap.size w3 (w3.alloc (.cells #[.int .i64 ((n3 : Int) - (km : Int))] 2)) := below_box _ _
      have hsz3 := HA3.out.g.size
      clear eg hx3 hn3 hpos hkm
      go_wp2_with fail
      refine (patch_any g n3 cap km L3 ((n3 : Int) - (km : Int)) B w3.heap.size 1 _ (H3.out.below hb3) HNN.out hmn (by simp [go_sem]) (by omega) (by omega)).mono ?_
      rintro e w4 ⟨⟨rr, rfl⟩, h4, ha4⟩
      have HA4 := Lib.hid (HA3.out.trans (Adv.of_below hb3))
      have HAP := Lib.hid ha4
      have H4 := Lib.hid h4
      clear h4 ha4 hb3
      go_wp2_with fail
      go_ret
      have hp : patch L3 km ((n3 : Int) - (km : Int)) = M ++ boxP name D := by
        rw [HX3.out, HL3.out, HKM.out, patch_head]
        rfl
      have ho4 := H4.out
      rw [hp] at ho4
      have hfin := HA4.out.patch HAP.out hB HB0.out ho4
      rw [HBE.out] at hfin
      exact ⟨_, rfl, ho4, hfin⟩
/-- No box holds too many boxes. -/
def small : CT → Prop
  | .leaf name data => True
  | .group name n parts => n ≤ 1000000 ∧ ∀ i, i < n → small (parts i)
theorem appb_any (t : CT) (h : small t) : AppB t := by
  induction t with
  | leaf name data =>
    intro b c M B w hb0 ht hm hB
    simp only [bytesT] at hm ⊢
    rw [boxP_length] at hm
    cases ht with
    | leaf _ vd _ hbl ha => exact appb_leaf b vd name data M B w hb0 (.leaf name vd data hbl ha) (by omega) hB
  | group name n parts ih => exact appb_group name n parts h.1 (fun i hi => ih i (h.2 i hi))
end Go.Proofs.Ytkhjkemllgjfmaa

/- The contracts of fileType, of appendBox at a payload. -/
namespace Go.Proofs.Ytkhjkemllgjfmaa
open Go.RowKit
set_option linter.unusedVariables false
set_option linter.unusedSimpArgs false

theorem Adv.up {w w' : World} {B : Nat} {v v' : Value} {L : List Int} (h : Own w B v L) (ha : Adv w w' v v') (hB : B ≤ w.heap.size) : Below B w w' :=
  (Below.refl _ _).grown ha.g hB (fun g hg => (World.ownsRow.lt h g hg).1)

def ftypL : List Int := strB ⟨#[99, 114, 118, 109]⟩ ++ (numsL [0] ++ strB ⟨#[105, 115, 111, 109]⟩)
theorem ftypL_length : ftypL.length = 12 := by simp [ftypL, strB_length, numsL_length]; simp [ByteArray.size]

set_option maxRecDepth 100000 in
set_option maxHeartbeats 4000000 in
theorem ftype_any (w : World) : Calls Try.prog 39 #[] w fun e w' => ∃ r, e = .returned (.iface 109 (.agg #[.string ⟨#[102, 116, 121, 112]⟩, r])) ∧ Own w' w.heap.size r ftypL ∧ Below w.heap.size w w' := by
  go_enter Try.func39, Try.ntmps39
  go_wp2_with (at_builtin; refine wpList_advS w rfl (.const (.slice none 0 0)) (.const (.string ⟨#[99, 114, 118, 109]⟩)) rfl w.heap.size (.slice none 0 0) [] ⟨#[99, 114, 118, 109]⟩ rfl (own_nil _ _) rfl (by simp [ByteArray.size]) (Nat.le_refl _) ?_)
  intro r1 w1 h1 ha1
  obtain ⟨L1, hL1⟩ : ∃ L, L = strB ⟨#[99, 114, 118, 109]⟩ := ⟨_, rfl⟩
  rw [← hL1] at h1
  have HL1 := Lib.hid hL1
  have HN1 := Lib.hid (show L1.length = 4 from by rw [hL1, strB_length]; rfl)
  have HB1 := Lib.hid (ha1.below rfl)
  have H1 := Lib.hid h1
  obtain ⟨qa, qc, hq⟩ := h1.shape
  have HQ := Lib.hid hq
  have HI : Hid (IL (w1.alloc (.cells #[.int .i64 0] 2)) (.slice (some ⟨w1.heap.size, 0, none⟩) 1 1) [0]) := Lib.hid (IL.build w1 [0] 2)
  have hs1 := HB1.out.size
  rw [hq]
  clear h1 ha1 hL1 hq
  go_wp2_with fail
  rw [← HQ.out]
  refine (appn_any r1 _ L1 [0] w.heap.size _ (H1.out.below (below_box w1 _)) HI.out (H1.out.apart_new (Nat.le_refl _)) (by simp) (by have := HN1.out; omega) (by simp; omega)).mono ?_
  rintro e w2 ⟨r2, rfl, h2, ha2⟩
  obtain ⟨L2, hL2⟩ : ∃ L, L = L1 ++ numsL [0] := ⟨_, rfl⟩
  rw [← hL2] at h2
  have HL2 := Lib.hid hL2
  have HN2 := Lib.hid (show L2.length = 8 from by rw [hL2, List.length_append, numsL_length, HN1.out]; rfl)
  have hb2 : Below w.heap.size w w2 := HB1.out.trans (((below_box w1 _).mono hs1).trans (Adv.up (H1.out.below (below_box w1 (.cells #[.int .i64 0] 2))) ha2 (by simp; omega)))
  have HB2 := Lib.hid hb2
  have H2 := Lib.hid h2
  obtain ⟨ua, uc, hu⟩ := h2.shape
  have HU := Lib.hid hu
  have hs2 := hb2.size
  have hl2 : L2.length + 4 ≤ 100000000 := by have := HN2.out; omega
  rw [hu]
  clear h2 ha2 hL2 hu hb2 HI
  go_wp2_with (at_builtin; rw [← HU.out]; refine wpList_advS w2 rfl (.tmp 6) (.const (.string ⟨#[105, 115, 111, 109]⟩)) rfl w.heap.size r2 L2 ⟨#[105, 115, 111, 109]⟩ rfl H2.out rfl hl2 hs2 ?_)
  intro r3 w3 h3 ha3
  rw [show L2 ++ strB ⟨#[105, 115, 111, 109]⟩ = ftypL from by rw [HL2.out, HL1.out]; simp [ftypL]] at h3
  have HB3 := Lib.hid (HB2.out.trans (Adv.up H2.out ha3 hs2))
  obtain ⟨xa, xc, hx⟩ := h3.shape
  have H3 := Lib.hid h3
  rw [hx] at H3 ⊢
  clear h3 ha3 hx
  go_wp2_with fail
  go_ret
  exact ⟨_, rfl, H3.out, HB3.out⟩


/-- The same bytes twice. -/
theorem conv_bytes {w : World} {v : Value} {L : List Int} (h : BL w v L) : (convert 22 9 v).run Try.prog w = .ok (.string (strOfNums L)) w := by
  obtain ⟨ao, c, rfl, hc, H⟩ := h
  cases ao with
  | none =>
    have h0 : L = [] := by
      cases L with
      | nil => rfl
      | cons m L => obtain ⟨b, off, e, _⟩ := H 0 m rfl; cases e
    subst h0
    have := run_convert_bytes_nil (P := Try.prog) (w := w) 22 5 Try.underlying22 Try.underlying5 0 c 9 Try.underlying9
    exact this
  | some ad =>
    by_cases h0 : L = []
    · subst h0
      rw [List.length_nil, run_convert_bytes_string w 22 9 5 (some ad) 0 c Try.underlying22 Try.underlying5 Try.underlying9]
      simp [Conv.bytesToString, loadCells, loadCellsFrom]
      rfl
    · obtain ⟨b, o, e⟩ : ∃ b o, ad = ⟨b, o, none⟩ := by
        cases L with
        | nil => exact absurd rfl h0
        | cons m L => obtain ⟨b, off, e, _⟩ := H 0 m rfl; exact ⟨b, off, by simpa using e⟩
      subst e
      refine run_convert_bytes_arg w 22 5 Try.underlying22 Try.underlying5 b o L.length c L rfl (fun i hi => ?_) 9 Try.underlying9
      obtain ⟨b', o', e, hx⟩ := H i L[i] (List.getElem?_eq_getElem hi)
      simp only [Option.some.injEq, Addr.mk.injEq, and_true] at e
      obtain ⟨rfl, rfl⟩ := e
      rw [show L.getD i 0 = L[i] by simp [List.getD, List.getElem?_eq_getElem hi]]
      exact hx
theorem same_any (u v : Value) (L : List Int) (w : World) (hu : BL w u L) (hv : BL w v L) : Calls Try.prog 24 #[u, v] w fun e w' => e = .returned (.bool true) ∧ Below w.heap.size w w' := by
  have h1 := conv_bytes hu
  have h2 := conv_bytes hv
  obtain ⟨a, c, rfl⟩ := hu.shape
  obtain ⟨a', c', rfl⟩ := hv.shape
  clear hu hv
  go_enter Try.func24, Try.ntmps24
  go_wp2_with fail
  go_ret
  exact ⟨by simp, Below.refl _ _⟩
end Go.Proofs.Ytkhjkemllgjfmaa

/- The contract of editList. -/
namespace Go.Proofs.Ytkhjkemllgjfmaa
open Go.RowKit
set_option linter.unusedVariables false
set_option linter.unusedSimpArgs false

def edL (E : Nat → Ed) (n : Nat) : List Int := catN (fun i => numsL [(E i).dur, (E i).time, 65536]) n
theorem edL_length (E : Nat → Ed) (n : Nat) : (edL E n).length = 12 * n := by
  induction n with
  | zero => rfl
  | succ n ih => simp only [edL, catN, List.length_append, numsL_length] at ih ⊢; rw [ih]; simp; omega

set_option maxRecDepth 100000 in
set_option maxHeartbeats 4000000 in
theorem elist_any (v : Value) (n : Nat) (E : Nat → Ed) (w : World) (hv : EA w v n E) (hn : n ≤ 100000) :
    Calls Try.prog 64 #[v] w fun e w' => ∃ r, e = .returned (.iface 109 (.agg #[.string ⟨#[101, 108, 115, 116]⟩, r])) ∧ Own w' w.heap.size r (numsL [0, (n : Int)] ++ edL E n) ∧ Below w.heap.size w w' := by
  have HV := Lib.hid hv
  obtain ⟨av, cv, rfl⟩ := hv.shape
  have HI : Hid (IL (w.alloc (.cells #[.int .i64 0, .int .i64 (n : Int)] 2)) (.slice (some ⟨w.heap.size, 0, none⟩) 2 2) [0, (n : Int)]) := Lib.hid (IL.build w [0, (n : Int)] 2)
  clear hv
  go_enter Try.func64, Try.ntmps64
  go_wp2_with fail
  refine (appn_any (.slice none 0 0) _ [] [0, (n : Int)] w.heap.size _ (own_nil _ _) HI.out (fun a n c e h => by cases h) (by simp) (by simp) (by simp)).mono ?_
  rintro e w1 ⟨r1, rfl, h1, ha1⟩
  obtain ⟨L1, hL1⟩ : ∃ L, L = [] ++ numsL [0, (n : Int)] := ⟨_, rfl⟩
  rw [← hL1] at h1
  have HL1 := Lib.hid (show L1 = numsL [0, (n : Int)] from hL1)
  have HN1 := Lib.hid (show L1.length = 8 from by rw [HL1.out, numsL_length]; rfl)
  have HB1 := Lib.hid (show Below w.heap.size w w1 from (below_box w _).trans ((ha1.below rfl).mono (by simp)))
  have H1 := Lib.hid h1
  clear h1 ha1 hL1 HI
  go_wp2_with fail
  go_loopw [12, 3] (fun i r wr => ∃ k : Nat, k ≤ n ∧ i = .int .i64 (k : Int) ∧ Own wr w.heap.size r (L1 ++ edL E k) ∧ Below w.heap.size w wr) (fun i _ _ => n - (intOf i).toNat)
  case atStart => exact ⟨0, Nat.zero_le _, rfl, by simpa [edL, catN] using H1.out, HB1.out⟩
  case round =>
    obtain ⟨k, hk, rfl, ho, hb⟩ := hrel
    obtain ⟨T, hT⟩ : ∃ T, T = L1 ++ edL E k := ⟨_, rfl⟩
    rw [← hT] at ho
    have HT := Lib.hid hT
    have HTL := Lib.hid (show T.length ≤ 8 + 12 * k from by rw [hT, List.length_append, HN1.out, edL_length]; omega)
    have HO := Lib.hid ho
    have HB := Lib.hid hb
    clear ho hb hT
    by_cases hlt : k < n
    · obtain ⟨ao', c', e, hcc, H⟩ := HV.out.below HB.out
      simp only [Value.slice.injEq, true_and] at e
      obtain ⟨rfl, rfl⟩ := e
      obtain ⟨b, o, rfl, h0, h1⟩ := H k hlt
      obtain ⟨s, hs⟩ : ∃ s, s = E k := ⟨_, rfl⟩
      rw [← hs] at h0 h1
      have HS := Lib.hid hs
      clear H hs
      go_wp2_with fail
      have HI : Hid (IL ((wr.alloc (.cells #[.int .i64 s.dur, .int .i64 s.time] 76)).alloc (.cells #[.int .i64 s.dur, .int .i64 s.time, .int .i64 65536] 2)) (.slice (some ⟨wr.heap.size + 1, 0, none⟩) 3 3) [s.dur, s.time, 65536]) := Lib.hid (by
        have h := IL.build (wr.alloc (.cells #[.int .i64 s.dur, .int .i64 s.time] 76)) [s.dur, s.time, 65536] 2
        rw [World.size_alloc] at h
        exact h)
      have hb2 : Below wr.heap.size wr ((wr.alloc (.cells #[.int .i64 s.dur, .int .i64 s.time] 76)).alloc (.cells #[.int .i64 s.dur, .int .i64 s.time, .int .i64 65536] 2)) := (below_box _ _).alloc (by simp) _
      have hsz := HB.out.size
      refine (appn_any u3 _ T [s.dur, s.time, 65536] w.heap.size _ (HO.out.below hb2) HI.out (HO.out.apart_new (by omega)) (by simp) (by have := HTL.out; omega) (by simp; omega)).mono ?_
      rintro e w3 ⟨r3, rfl, h3, ha3⟩
      have H3 := Lib.hid (show Own w3 w.heap.size r3 (L1 ++ edL E (k + 1)) from by
        have e : L1 ++ edL E (k + 1) = T ++ numsL [s.dur, s.time, 65536] := by
          rw [HT.out, HS.out, List.append_assoc]; rfl
        rw [e]; exact h3)
      have HB3 := Lib.hid (HB.out.trans ((hb2.mono hsz).trans (Adv.up (HO.out.below hb2) ha3 (by simp; omega))))
      clear h3 ha3 hb2 HI
      go_wp2_with fail
      go_roundw
      case rel => exact ⟨k + 1, by omega, by go_num, H3.out, HB3.out⟩
      case measure => simp [intOf]; omega
    · obtain rfl : k = n := by omega
      obtain ⟨xa, xc, hx⟩ := HO.out.shape
      have H3 := Lib.hid HO.out
      rw [hx] at H3 ⊢
      clear hx
      go_wp2_with fail
      go_ret
      rw [← HL1.out, ← HT.out]
      exact ⟨_, rfl, H3.out, HB.out⟩
end Go.Proofs.Ytkhjkemllgjfmaa

/- The contract of appendBox at the payload: the data of all samples. -/
namespace Go.Proofs.Ytkhjkemllgjfmaa
open Go.RowKit
set_option linter.unusedVariables false
set_option linter.unusedSimpArgs false

theorem info109 : (Try.prog.info? 109).map (fun i => (i.zero, i.size, i.bytes)) = some (some (.agg #[.string { data := #[] }, .slice none 0 0]), 2, 40) := by kernel_rfl
theorem ta_88_107 (x : Value) (w : World) : (Instr.typeAssert (.iface 88 x) 83 107 true).run Try.prog w = .ok (.tuple #[.agg #[.string { data := #[] }, .slice none 0 0], .bool false]) w := by
  obtain ⟨i0, hi, hz0, _, _⟩ := info_parts info107
  simp [Instr.typeAssert, run_underlying Try.underlying107, zeroValue, typeInfo, hi, hz0]
theorem ta_88_109 (x : Value) (w : World) : (Instr.typeAssert (.iface 88 x) 83 109 true).run Try.prog w = .ok (.tuple #[.agg #[.string { data := #[] }, .slice none 0 0], .bool false]) w := by
  obtain ⟨i0, hi, hz0, _, _⟩ := info_parts info109
  simp [Instr.typeAssert, run_underlying Try.underlying109, zeroValue, typeInfo, hi, hz0]
theorem ta_88_88 (x : Value) (w : World) : (Instr.typeAssert (.iface 88 x) 83 88 true).run Try.prog w = .ok (.tuple #[x, .bool true]) w := by
  simp [Instr.typeAssert, run_underlying Try.underlying88]
def smL (s : Sm) : List Int := (List.range s.n).map s.D
theorem smL_length (s : Sm) : (smL s).length = s.n := by simp [smL]
theorem BA.bl {w : World} {v : Value} {s : Sm} (h : BA w v s.n s.D) : BL w v (smL s) := by
  obtain ⟨ao, c, rfl, hc, H⟩ := h
  refine ⟨ao, c, by rw [smL_length], by rw [smL_length]; exact hc, fun i u hi => ?_⟩
  have hl : i < s.n := by have := (List.getElem?_eq_some_iff.1 hi).1; rwa [smL_length] at this
  obtain ⟨⟨b, o, e, hx⟩, _⟩ := H i hl
  refine ⟨b, o, e, ?_⟩
  rw [hx]
  simp only [smL, List.getElem?_map, List.getElem?_range hl, Option.map_some, Option.some.injEq] at hi
  rw [hi]
def trL (T : Tr) : List Int := catN (fun j => smL (T.S j)) T.nS
def dataL (T : Nat → Tr) (n : Nat) : List Int := catN (fun i => trL (T i)) n
theorem catN_sm (S : Nat → Sm) (k : Nat) : (catN (fun j => smL (S j)) k).length = sizeN S k := by
  induction k with
  | zero => rfl
  | succ k ih => simp only [catN, sizeN, List.length_append, ih, smL_length]

set_option maxRecDepth 100000 in
set_option maxHeartbeats 4000000 in
theorem appb_pay (b v : Value) (n : Nat) (T : Nat → Tr) (M : List Int) (B : Nat) (W0 w : World) (hb0 : Own w B b M) (hv : TSA W0 v n T) (hW : Below W0.heap.size W0 w) (hWB : W0.heap.size ≤ B) (hn : n ≤ 1000) (hS : ∀ i, i < n → (T i).nS ≤ 100000) (hm : M.length + (dataL T n).length ≤ 70000000) (hB : B ≤ w.heap.size) :
    Calls Try.prog 38 #[b, .iface 88 (.agg #[v])] w fun e w' => ∃ r, e = .returned r ∧ Own w' B r (M ++ boxP ⟨#[109, 100, 97, 116]⟩ (dataL T n)) ∧ Adv w w' b r := by
  obtain ⟨name, hnm⟩ : ∃ name, name = (⟨#[109, 100, 97, 116]⟩ : ByteArray) := ⟨_, rfl⟩
  have hns : name.size = 4 := by rw [hnm]; rfl
  have HNS := Lib.hid hns
  have HNM := Lib.hid hnm
  rw [← hnm]
  obtain ⟨D, hD⟩ : ∃ D, D = dataL T n := ⟨_, rfl⟩
  rw [← hD] at hm ⊢
  have HD := Lib.hid hD
  have HM := Lib.hid hm
  have HV := Lib.hid hv
  have HW := Lib.hid hW
  have HS := Lib.hid hS
  have hMm : M.length ≤ 70000000 := by omega
  obtain ⟨av, cv, rfl⟩ := hv.shape
  clear hD hv hW hnm hns hm hS
  have HB0 := Lib.hid hb0
  obtain ⟨ba, bc, hbe⟩ := hb0.shape
  have HBE := Lib.hid hbe
  have HI : Hid (IL (w.alloc (.cells #[.int .i64 0] 2)) (.slice (some ⟨w.heap.size, 0, none⟩) 1 1) [0]) := Lib.hid (IL.build w [0] 2)
  rw [hbe]
  clear hb0 hbe
  go_enter Try.func38, Try.ntmps38
  go_wp2_with fail
  rw [← HBE.out]
  refine (appn_any b _ M [0] B _ (HB0.out.below (below_box w _)) HI.out (HB0.out.apart_new (Nat.le_refl _)) (by simp) (by omega) (by simp; omega)).mono ?_
  rintro e w1 ⟨r1, rfl, h1, ha1⟩
  obtain ⟨L1, hL1⟩ : ∃ L, L = M ++ numsL [0] := ⟨_, rfl⟩
  rw [← hL1] at h1
  have HL1 := Lib.hid hL1
  have HN1 := Lib.hid (show L1.length = M.length + 4 from by rw [hL1, List.length_append, numsL_length]; rfl)
  have HA1 := Lib.hid ((Adv.of_below (below_box w _)).trans ha1)
  have H1 := Lib.hid h1
  obtain ⟨qa, qc, hq⟩ := h1.shape
  have HR1 := Lib.hid hq
  rw [hq]
  clear h1 ha1 hL1 HI hq
  go_wp2_with fail
  refine (tag_payload _ w1 ⟨_, _, _, rfl⟩).mono ?_
  rintro e w2 ⟨rfl, hb2⟩
  rw [← HNM.out]
  have HB2 := Lib.hid hb2
  have hl2 : L1.length + name.size ≤ 100000000 := by have := HN1.out; have := HNS.out; omega
  have hsz1 : B ≤ w2.heap.size := by have := HA1.out.g.size; have := hb2.size; omega
  clear hb2
  go_wp2_with (at_builtin; rw [← HR1.out]; refine wpList_advS w2 rfl (.tmp 19) (.tmp 21) rfl B r1 L1 name rfl (H1.out.below HB2.out) rfl hl2 hsz1 ?_)
  intro r2 w2' h2 ha2
  obtain ⟨L2, hL2⟩ : ∃ L, L = L1 ++ strB name := ⟨_, rfl⟩
  rw [← hL2] at h2
  have HN2 := Lib.hid (show L2.length = M.length + 4 + name.size from by rw [hL2, List.length_append, strB_length, HN1.out])
  have HL2 := Lib.hid (show L2 = M ++ (num4 0 ++ strB name) from by rw [hL2, HL1.out]; simp [numsL])
  have HA2 := Lib.hid (HA1.out.trans ((Adv.of_below HB2.out).trans ha2))
  have H2 := Lib.hid h2
  obtain ⟨ua, uc, hu⟩ := h2.shape
  have HR2 := Lib.hid hu
  rw [hu]
  clear h2 ha2 hL2 hu hl2
  have ta1 := ta_88_107 (.agg #[.slice av n cv]) w2'
  have ta2 := ta_88_109 (.agg #[.slice av n cv]) w2'
  have ta3 := ta_88_88 (.agg #[.slice av n cv]) w2'
  have hsz2 : B ≤ w2'.heap.size := by have := HA2.out.g.size; omega
  go_wp2_with fail
  obtain ⟨wb, hwb⟩ : ∃ x, x = w2'.alloc (.cells #[.slice av n cv] 88) := ⟨_, rfl⟩
  rw [← hwb]
  have hbb : Below w2'.heap.size w2' wb := by rw [hwb]; exact below_box _ _
  have HBB := Lib.hid hbb
  clear hwb hbb ta1 ta2 ta3
  rw [← HR2.out]
  obtain ⟨G, hG⟩ : ∃ G, G = fun i => trL (T i) := ⟨_, rfl⟩
  have HG := Lib.hid hG
  have HUP := Lib.hid (show ∀ wx u, Adv w2' wx r2 u → Below W0.heap.size W0 wx from fun wx u ha => HW.out.trans ((Adv.up HB0.out (HA2.out.trans ha) hB).mono hWB))
  have HDG := Lib.hid (show D = catN G n from by rw [HD.out, hG]; rfl)
  clear hG
  go_loopw [51, 0] (fun i r wr => ∃ k : Nat, k ≤ n ∧ i = .int .i64 (k : Int) ∧ Own wr B r (L2 ++ catN G k) ∧ Adv w2' wr r2 r) (fun i _ _ => n - (intOf i).toNat)
  case atStart => exact ⟨0, Nat.zero_le _, rfl, by simpa [catN] using H2.out.below HBB.out, Adv.of_below HBB.out⟩
  case round =>
    obtain ⟨k, hk, rfl, ho, ha⟩ := hrel
    have HO := Lib.hid ho
    have HA := Lib.hid ha
    clear ho ha
    by_cases hlt : k < n
    · obtain ⟨tb, to, a2, d2, a3, d3, a4, d4, rfl, t0, t1, t2, t3, t4, hta⟩ := HV.out.at hlt
      have hwr := HUP.out _ _ HA.out
      replace t0 := (hwr.cell (block_lt_of_cell t0)).trans t0
      replace t1 := (hwr.cell (block_lt_of_cell t1)).trans t1
      replace t2 := (hwr.cell (block_lt_of_cell t2)).trans t2
      replace t3 := (hwr.cell (block_lt_of_cell t3)).trans t3
      replace t4 := (hwr.cell (block_lt_of_cell t4)).trans t4
      have hsa : SA W0 (.slice a3 (T k).nS d3) (T k).nS (T k).S := by
        obtain ⟨c0, c1, c2, c3, c4, e, _, _, _, hs, _⟩ := hta
        simp only [Value.agg.injEq, Array.mk.injEq, List.cons.injEq, and_true] at e
        rw [e.2.2.2.1]; exact hs
      have HSA := Lib.hid hsa
      have hns := HS.out k hlt
      have HGK := Lib.hid (show G k = catN (fun j => smL ((T k).S j)) (T k).nS from by rw [HG.out]; rfl)
      obtain ⟨tk, htk⟩ : ∃ t, t = T k := ⟨_, rfl⟩
      rw [← htk] at t0 t1 t2 t3 t4 HSA hns HGK
      clear hta hsa hwr htk
      go_wp2_with fail
      obtain ⟨wq, hwq⟩ : ∃ x, x = wr.alloc (.cells #[.string tk.h, .int .i64 tk.sc, .slice a2 tk.nC d2, .slice a3 tk.nS d3, .slice a4 tk.nE d4] 43) := ⟨_, rfl⟩
      rw [← hwq]
      have hbq : Below wr.heap.size wr wq := by rw [hwq]; exact below_box _ _
      have HQA := Lib.hid (HA.out.trans (Adv.of_below hbq))
      have HQO := Lib.hid (HO.out.below hbq)
      obtain ⟨uq, huq⟩ : ∃ u, u = u0 := ⟨_, rfl⟩
      obtain ⟨N, hN⟩ : ∃ N, N = tk.nS := ⟨_, rfl⟩
      clear hwq hbq t0 t1 t2 t3 t4
      go_loopw [58, 0] (fun i r wx => ∃ j : Nat, j ≤ tk.nS ∧ i = .int .i64 (j : Int) ∧ Own wx B r ((L2 ++ catN G k) ++ catN (fun j => smL (tk.S j)) j) ∧ Adv w2' wx r2 r) (fun i _ _ => tk.nS - (intOf i).toNat)
      case atStart => exact ⟨0, Nat.zero_le _, rfl, by simpa [catN] using HQO.out, HQA.out⟩
      case round =>
        obtain ⟨j, hj, rfl, ho, ha⟩ := hrel
        obtain ⟨Tj, hTj⟩ : ∃ L, L = (L2 ++ catN G k) ++ catN (fun j => smL (tk.S j)) j := ⟨_, rfl⟩
        rw [← hTj] at ho
        have HTJ := Lib.hid hTj
        have KO := Lib.hid ho
        have KA := Lib.hid ha
        obtain ⟨ra, rc, hr⟩ := ho.shape
        have HRS := Lib.hid hr
        clear ho ha hTj hr
        by_cases hjl : j < tk.nS
        · have hwx := HUP.out _ _ KA.out
          obtain ⟨ao', c', e, hcc, H⟩ := HSA.out.below hwx
          simp only [Value.slice.injEq, true_and] at e
          obtain ⟨rfl, rfl⟩ := e
          obtain ⟨sb, so, x, rfl, q0, q1, q2, q3, hx⟩ := H j hjl
          obtain ⟨ax, dx, rfl⟩ := hx.shape
          have HX := Lib.hid hx.bl
          have hsz : B ≤ wr.heap.size := by have := KA.out.g.size; omega
          have hbound : Tj.length + (smL (tk.S j)).length ≤ 100000000 := by
            have h1 := catN_le (fun j => smL (tk.S j)) (show j + 1 ≤ tk.nS by omega)
            have h2 := catN_le G (show k + 1 ≤ n by omega)
            rw [← HDG.out] at h2
            simp only [catN, List.length_append] at h1 h2
            rw [HGK.out] at h2
            have h3 := HM.out
            have h4 := HN2.out
            have h5 := HNS.out
            rw [HTJ.out, List.length_append, List.length_append]
            omega
          have HBO := Lib.hid hbound
          clear hx H hwx hbound
          have hk3 : decide ((j : Int) < (tk.nS : Int)) = true := by simpa using hjl
          go_wp2_with (at_builtin; refine wpList_adv _ rfl (.tmp 62) (.tmp 64) rfl B u0 _ Tj (smL (tk.S j)) rfl (KO.out.below (below_box wr _)) rfl (HX.out.below (below_box wr _)) HBO.out (by simp; omega) ?_)
          intro r3 w3 h3 ha3
          have K3 := Lib.hid (show Own w3 B r3 ((L2 ++ catN G k) ++ catN (fun j => smL (tk.S j)) (j + 1)) from by
            have e : (L2 ++ catN G k) ++ catN (fun j => smL (tk.S j)) (j + 1) = Tj ++ smL (tk.S j) := by simp only [catN]; rw [HTJ.out, List.append_assoc, List.append_assoc, List.append_assoc]
            rw [e]; exact h3)
          have KA3 := Lib.hid (KA.out.trans ((Adv.of_below (below_box wr _)).trans ha3))
          clear h3 ha3
          go_wp2_with fail
          go_roundw
          case rel => exact ⟨j + 1, by omega, by go_num, K3.out, KA3.out⟩
          case measure => simp [intOf]; omega
        · obtain rfl : j = tk.nS := by omega
          have K3 := Lib.hid (show Own wr B u0 (L2 ++ catN G (k + 1)) from by
            have e : L2 ++ catN G (k + 1) = Tj := by simp only [catN]; rw [HTJ.out, HGK.out, List.append_assoc]
            rw [e]; exact KO.out)
          go_wp2_with fail
          go_roundw
          case rel => exact ⟨k + 1, by omega, by go_num, K3.out, KA.out⟩
          case measure => simp [intOf]; omega
    · obtain rfl : k = n := by omega
      obtain ⟨w3, hw3⟩ : ∃ x, x = wr := ⟨_, rfl⟩
      obtain ⟨L3, hL3⟩ : ∃ L, L = L2 ++ catN G k := ⟨_, rfl⟩
      have HL3' := Lib.hid (show L3 = L2 ++ D from by rw [hL3, HDG.out])
      have HN3 := Lib.hid (show L3.length = M.length + 4 + name.size + D.length from by rw [HL3'.out, List.length_append, HN2.out])
      have HL3 := Lib.hid (show L3 = M ++ (num4 0 ++ (strB name ++ D)) from by rw [HL3'.out, HL2.out]; simp)
      have HA3 := Lib.hid (HA2.out.trans HA.out)
      have hmm := HM.out
      have hns4 := HNS.out
      have H3 := Lib.hid (show Own wr B u0 L3 from by rw [hL3]; exact HO.out)
      rw [← hw3] at H3 HA3 ⊢
      clear hw3 hL3
      have hpos : 0 < L3.length := by have := HN3.out; omega
      obtain ⟨g, cap, eg, hcap, _⟩ := owns_open H3.out hpos
      have HEG := Lib.hid eg
      have hgl : g < w3.heap.size := (World.ownsRow.lt H3.out g (by rw [eg]; rfl)).2
      rw [eg] at H3 HA3 ⊢
      have hx3 : ((L3.length : Int) - (M.length : Int)) = (D.length : Int) + 4 + name.size := by have := HN3.out; omega
      have HX3 := Lib.hid hx3
      have hml : M.length ≤ L3.length := by have := HN3.out; omega
      have hl3 : L3.length ≤ 90000000 := by have := HN3.out; omega
      obtain ⟨n3, hn3⟩ : ∃ n, n = L3.length := ⟨_, rfl⟩
      rw [← hn3] at H3 HA3 HX3 hml hcap hl3 ⊢
      have HNN := Lib.hid hn3
      have hmn : M.length + 4 ≤ n3 := by rw [hn3]; have := HN3.out; omega
      obtain ⟨km, hkm⟩ : ∃ k, k = M.length := ⟨_, rfl⟩
      rw [← hkm] at HX3 hml hmn ⊢
      have HKM := Lib.hid hkm
      have hb3 : Below w3.heap.size w3 (w3.alloc (.cells #[.int .i64 ((n3 : Int) - (km : Int))] 2)) := below_box _ _
      have hsz3 := HA3.out.g.size
      clear eg hx3 hn3 hpos hkm
      go_wp2_with fail
      refine (patch_any g n3 cap km L3 ((n3 : Int) - (km : Int)) B w3.heap.size 1 _ (H3.out.below hb3) HNN.out hmn (by simp [go_sem]) (by omega) (by omega)).mono ?_
      rintro e w4 ⟨⟨rr, rfl⟩, h4, ha4⟩
      have HA4 := Lib.hid (HA3.out.trans (Adv.of_below hb3))
      have HAP := Lib.hid ha4
      have H4 := Lib.hid h4
      clear h4 ha4 hb3
      go_wp2_with fail
      go_ret
      have hp : patch L3 km ((n3 : Int) - (km : Int)) = M ++ boxP name D := by
        rw [HX3.out, HL3.out, HKM.out, patch_head]
        rfl
      have ho4 := H4.out
      rw [hp] at ho4
      have hfin := HA4.out.patch HAP.out hB HB0.out ho4
      rw [HBE.out] at hfin
      exact ⟨_, rfl, ho4, hfin⟩
end Go.Proofs.Ytkhjkemllgjfmaa
