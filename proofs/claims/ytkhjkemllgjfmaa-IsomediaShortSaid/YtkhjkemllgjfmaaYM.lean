/- The contract of appendBox at the payload: the data of all samples. -/
import Derived.Test.YtkhjkemllgjfmaaYL
namespace Go.Proofs.Ytkhjkemllgjfmaa
open Go.RowKit
set_option linter.unusedVariables false
set_option linter.unusedSimpArgs false

theorem info109 : (Try.prog.info? 109).map (fun i => (i.zero, i.size, i.bytes)) = some (some (.agg #[.string { data := #[] }, .slice none 0 0]), 2, 40) := by kernel_rfl
theorem ta_88_107 (x : Value) (w : World) : (Instr.typeAssert (.iface 88 x) 83 107 true).run Try.prog w = .ok (.tuple #[.agg #[.string { data := #[] }, .slice none 0 0], .bool false]) w := by
  obtain ⟨i0, hi, hz0, _, _⟩ := info_parts info107
  simp [Instr.typeAssert, run_underlying Try.underlying107, zeroValue, typeInfo, hi, hz0]
theorem ta_88_109 (x : Value) (w : World) : (Instr.typeAssert (.iface 88 x) 83 109 true).run Try.prog w = .ok (.tuple #[.agg #[.string { data := #[] }, .slice none 0 0], .bool false]) w := by
  obtain ⟨i0, hi, hz0, _, _⟩ := info_parts info109
  simp [Instr.typeAssert, run_underlying Try.underlying109, zeroValue, typeInfo, hi, hz0]
theorem ta_88_88 (x : Value) (w : World) : (Instr.typeAssert (.iface 88 x) 83 88 true).run Try.prog w = .ok (.tuple #[x, .bool true]) w := by
  simp [Instr.typeAssert, run_underlying Try.underlying88]
def smL (s : Sm) : List Int := (List.range s.n).map s.D
theorem smL_length (s : Sm) : (smL s).length = s.n := by simp [smL]
theorem BA.bl {w : World} {v : Value} {s : Sm} (h : BA w v s.n s.D) : BL w v (smL s) := by
  obtain ⟨ao, c, rfl, hc, H⟩ := h
  refine ⟨ao, c, by rw [smL_length], by rw [smL_length]; exact hc, fun i u hi => ?_⟩
  have hl : i < s.n := by have := (List.getElem?_eq_some_iff.1 hi).1; rwa [smL_length] at this
  obtain ⟨⟨b, o, e, hx⟩, _⟩ := H i hl
  refine ⟨b, o, e, ?_⟩
  rw [hx]
  simp only [smL, List.getElem?_map, List.getElem?_range hl, Option.map_some, Option.some.injEq] at hi
  rw [hi]
def trL (T : Tr) : List Int := catN (fun j => smL (T.S j)) T.nS
def dataL (T : Nat → Tr) (n : Nat) : List Int := catN (fun i => trL (T i)) n
theorem catN_sm (S : Nat → Sm) (k : Nat) : (catN (fun j => smL (S j)) k).length = sizeN S k := by
  induction k with
  | zero => rfl
  | succ k ih => simp only [catN, sizeN, List.length_append, ih, smL_length]

set_option maxRecDepth 100000 in
set_option maxHeartbeats 4000000 in
theorem appb_pay (b v : Value) (n : Nat) (T : Nat → Tr) (M : List Int) (B : Nat) (W0 w : World) (hb0 : Own w B b M) (hv : TSA W0 v n T) (hW : Below W0.heap.size W0 w) (hWB : W0.heap.size ≤ B) (hn : n ≤ 1000) (hS : ∀ i, i < n → (T i).nS ≤ 100000) (hm : M.length + (dataL T n).length ≤ 70000000) (hB : B ≤ w.heap.size) :
    Calls Try.prog 38 #[b, .iface 88 (.agg #[v])] w fun e w' => ∃ r, e = .returned r ∧ Own w' B r (M ++ boxP ⟨#[109, 100, 97, 116]⟩ (dataL T n)) ∧ Adv w w' b r := by
  obtain ⟨name, hnm⟩ : ∃ name, name = (⟨#[109, 100, 97, 116]⟩ : ByteArray) := ⟨_, rfl⟩
  have hns : name.size = 4 := by rw [hnm]; rfl
  have HNS := Lib.hid hns
  have HNM := Lib.hid hnm
  rw [← hnm]
  obtain ⟨D, hD⟩ : ∃ D, D = dataL T n := ⟨_, rfl⟩
  rw [← hD] at hm ⊢
  have HD := Lib.hid hD
  have HM := Lib.hid hm
  have HV := Lib.hid hv
  have HW := Lib.hid hW
  have HS := Lib.hid hS
  have hMm : M.length ≤ 70000000 := by omega
  obtain ⟨av, cv, rfl⟩ := hv.shape
  clear hD hv hW hnm hns hm hS
  have HB0 := Lib.hid hb0
  obtain ⟨ba, bc, hbe⟩ := hb0.shape
  have HBE := Lib.hid hbe
  have HI : Hid (IL (w.alloc (.cells #[.int .i64 0] 2)) (.slice (some ⟨w.heap.size, 0, none⟩) 1 1) [0]) := Lib.hid (IL.build w [0] 2)
  rw [hbe]
  clear hb0 hbe
  go_enter Try.func38, Try.ntmps38
  go_wp2_with fail
  rw [← HBE.out]
  refine (appn_any b _ M [0] B _ (HB0.out.below (below_box w _)) HI.out (HB0.out.apart_new (Nat.le_refl _)) (by simp) (by omega) (by simp; omega)).mono ?_
  rintro e w1 ⟨r1, rfl, h1, ha1⟩
  obtain ⟨L1, hL1⟩ : ∃ L, L = M ++ numsL [0] := ⟨_, rfl⟩
  rw [← hL1] at h1
  have HL1 := Lib.hid hL1
  have HN1 := Lib.hid (show L1.length = M.length + 4 from by rw [hL1, List.length_append, numsL_length]; rfl)
  have HA1 := Lib.hid ((Adv.of_below (below_box w _)).trans ha1)
  have H1 := Lib.hid h1
  obtain ⟨qa, qc, hq⟩ := h1.shape
  have HR1 := Lib.hid hq
  rw [hq]
  clear h1 ha1 hL1 HI hq
  go_wp2_with fail
  refine (tag_payload _ w1 ⟨_, _, _, rfl⟩).mono ?_
  rintro e w2 ⟨rfl, hb2⟩
  rw [← HNM.out]
  have HB2 := Lib.hid hb2
  have hl2 : L1.length + name.size ≤ 100000000 := by have := HN1.out; have := HNS.out; omega
  have hsz1 : B ≤ w2.heap.size := by have := HA1.out.g.size; have := hb2.size; omega
  clear hb2
  go_wp2_with (at_builtin; rw [← HR1.out]; refine wpList_advS w2 rfl (.tmp 19) (.tmp 21) rfl B r1 L1 name rfl (H1.out.below HB2.out) rfl hl2 hsz1 ?_)
  intro r2 w2' h2 ha2
  obtain ⟨L2, hL2⟩ : ∃ L, L = L1 ++ strB name := ⟨_, rfl⟩
  rw [← hL2] at h2
  have HN2 := Lib.hid (show L2.length = M.length + 4 + name.size from by rw [hL2, List.length_append, strB_length, HN1.out])
  have HL2 := Lib.hid (show L2 = M ++ (num4 0 ++ strB name) from by rw [hL2, HL1.out]; simp [numsL])
  have HA2 := Lib.hid (HA1.out.trans ((Adv.of_below HB2.out).trans ha2))
  have H2 := Lib.hid h2
  obtain ⟨ua, uc, hu⟩ := h2.shape
  have HR2 := Lib.hid hu
  rw [hu]
  clear h2 ha2 hL2 hu hl2
  have ta1 := ta_88_107 (.agg #[.slice av n cv]) w2'
  have ta2 := ta_88_109 (.agg #[.slice av n cv]) w2'
  have ta3 := ta_88_88 (.agg #[.slice av n cv]) w2'
  have hsz2 : B ≤ w2'.heap.size := by have := HA2.out.g.size; omega
  go_wp2_with fail
  obtain ⟨wb, hwb⟩ : ∃ x, x = w2'.alloc (.cells #[.slice av n cv] 88) := ⟨_, rfl⟩
  rw [← hwb]
  have hbb : Below w2'.heap.size w2' wb := by rw [hwb]; exact below_box _ _
  have HBB := Lib.hid hbb
  clear hwb hbb ta1 ta2 ta3
  rw [← HR2.out]
  obtain ⟨G, hG⟩ : ∃ G, G = fun i => trL (T i) := ⟨_, rfl⟩
  have HG := Lib.hid hG
  have HUP := Lib.hid (show ∀ wx u, Adv w2' wx r2 u → Below W0.heap.size W0 wx from fun wx u ha => HW.out.trans ((Adv.up HB0.out (HA2.out.trans ha) hB).mono hWB))
  have HDG := Lib.hid (show D = catN G n from by rw [HD.out, hG]; rfl)
  clear hG
  go_loopw [51, 0] (fun i r wr => ∃ k : Nat, k ≤ n ∧ i = .int .i64 (k : Int) ∧ Own wr B r (L2 ++ catN G k) ∧ Adv w2' wr r2 r) (fun i _ _ => n - (intOf i).toNat)
  case atStart => exact ⟨0, Nat.zero_le _, rfl, by simpa [catN] using H2.out.below HBB.out, Adv.of_below HBB.out⟩
  case round =>
    obtain ⟨k, hk, rfl, ho, ha⟩ := hrel
    have HO := Lib.hid ho
    have HA := Lib.hid ha
    clear ho ha
    by_cases hlt : k < n
    · obtain ⟨tb, to, a2, d2, a3, d3, a4, d4, rfl, t0, t1, t2, t3, t4, hta⟩ := HV.out.at hlt
      have hwr := HUP.out _ _ HA.out
      replace t0 := (hwr.cell (block_lt_of_cell t0)).trans t0
      replace t1 := (hwr.cell (block_lt_of_cell t1)).trans t1
      replace t2 := (hwr.cell (block_lt_of_cell t2)).trans t2
      replace t3 := (hwr.cell (block_lt_of_cell t3)).trans t3
      replace t4 := (hwr.cell (block_lt_of_cell t4)).trans t4
      have hsa : SA W0 (.slice a3 (T k).nS d3) (T k).nS (T k).S := by
        obtain ⟨c0, c1, c2, c3, c4, e, _, _, _, hs, _⟩ := hta
        simp only [Value.agg.injEq, Array.mk.injEq, List.cons.injEq, and_true] at e
        rw [e.2.2.2.1]; exact hs
      have HSA := Lib.hid hsa
      have hns := HS.out k hlt
      have HGK := Lib.hid (show G k = catN (fun j => smL ((T k).S j)) (T k).nS from by rw [HG.out]; rfl)
      obtain ⟨tk, htk⟩ : ∃ t, t = T k := ⟨_, rfl⟩
      rw [← htk] at t0 t1 t2 t3 t4 HSA hns HGK
      clear hta hsa hwr htk
      go_wp2_with fail
      obtain ⟨wq, hwq⟩ : ∃ x, x = wr.alloc (.cells #[.string tk.h, .int .i64 tk.sc, .slice a2 tk.nC d2, .slice a3 tk.nS d3, .slice a4 tk.nE d4] 43) := ⟨_, rfl⟩
      rw [← hwq]
      have hbq : Below wr.heap.size wr wq := by rw [hwq]; exact below_box _ _
      have HQA := Lib.hid (HA.out.trans (Adv.of_below hbq))
      have HQO := Lib.hid (HO.out.below hbq)
      obtain ⟨uq, huq⟩ : ∃ u, u = u0 := ⟨_, rfl⟩
      obtain ⟨N, hN⟩ : ∃ N, N = tk.nS := ⟨_, rfl⟩
      clear hwq hbq t0 t1 t2 t3 t4
      go_loopw [58, 0] (fun i r wx => ∃ j : Nat, j ≤ tk.nS ∧ i = .int .i64 (j : Int) ∧ Own wx B r ((L2 ++ catN G k) ++ catN (fun j => smL (tk.S j)) j) ∧ Adv w2' wx r2 r) (fun i _ _ => tk.nS - (intOf i).toNat)
      case atStart => exact ⟨0, Nat.zero_le _, rfl, by simpa [catN] using HQO.out, HQA.out⟩
      case round =>
        obtain ⟨j, hj, rfl, ho, ha⟩ := hrel
        obtain ⟨Tj, hTj⟩ : ∃ L, L = (L2 ++ catN G k) ++ catN (fun j => smL (tk.S j)) j := ⟨_, rfl⟩
        rw [← hTj] at ho
        have HTJ := Lib.hid hTj
        have KO := Lib.hid ho
        have KA := Lib.hid ha
        obtain ⟨ra, rc, hr⟩ := ho.shape
        have HRS := Lib.hid hr
        clear ho ha hTj hr
        by_cases hjl : j < tk.nS
        · have hwx := HUP.out _ _ KA.out
          obtain ⟨ao', c', e, hcc, H⟩ := HSA.out.below hwx
          simp only [Value.slice.injEq, true_and] at e
          obtain ⟨rfl, rfl⟩ := e
          obtain ⟨sb, so, x, rfl, q0, q1, q2, q3, hx⟩ := H j hjl
          obtain ⟨ax, dx, rfl⟩ := hx.shape
          have HX := Lib.hid hx.bl
          have hsz : B ≤ wr.heap.size := by have := KA.out.g.size; omega
          have hbound : Tj.length + (smL (tk.S j)).length ≤ 100000000 := by
            have h1 := catN_le (fun j => smL (tk.S j)) (show j + 1 ≤ tk.nS by omega)
            have h2 := catN_le G (show k + 1 ≤ n by omega)
            rw [← HDG.out] at h2
            simp only [catN, List.length_append] at h1 h2
            rw [HGK.out] at h2
            have h3 := HM.out
            have h4 := HN2.out
            have h5 := HNS.out
            rw [HTJ.out, List.length_append, List.length_append]
            omega
          have HBO := Lib.hid hbound
          clear hx H hwx hbound
          have hk3 : decide ((j : Int) < (tk.nS : Int)) = true := by simpa using hjl
          go_wp2_with (at_builtin; refine wpList_adv _ rfl (.tmp 62) (.tmp 64) rfl B u0 _ Tj (smL (tk.S j)) rfl (KO.out.below (below_box wr _)) rfl (HX.out.below (below_box wr _)) HBO.out (by simp; omega) ?_)
          intro r3 w3 h3 ha3
          have K3 := Lib.hid (show Own w3 B r3 ((L2 ++ catN G k) ++ catN (fun j => smL (tk.S j)) (j + 1)) from by
            have e : (L2 ++ catN G k) ++ catN (fun j => smL (tk.S j)) (j + 1) = Tj ++ smL (tk.S j) := by simp only [catN]; rw [HTJ.out, List.append_assoc, List.append_assoc, List.append_assoc]
            rw [e]; exact h3)
          have KA3 := Lib.hid (KA.out.trans ((Adv.of_below (below_box wr _)).trans ha3))
          clear h3 ha3
          go_wp2_with fail
          go_roundw
          case rel => exact ⟨j + 1, by omega, by go_num, K3.out, KA3.out⟩
          case measure => simp [intOf]; omega
        · obtain rfl : j = tk.nS := by omega
          have K3 := Lib.hid (show Own wr B u0 (L2 ++ catN G (k + 1)) from by
            have e : L2 ++ catN G (k + 1) = Tj := by simp only [catN]; rw [HTJ.out, HGK.out, List.append_assoc]
            rw [e]; exact KO.out)
          go_wp2_with fail
          go_roundw
          case rel => exact ⟨k + 1, by omega, by go_num, K3.out, KA.out⟩
          case measure => simp [intOf]; omega
    · obtain rfl : k = n := by omega
      obtain ⟨w3, hw3⟩ : ∃ x, x = wr := ⟨_, rfl⟩
      obtain ⟨L3, hL3⟩ : ∃ L, L = L2 ++ catN G k := ⟨_, rfl⟩
      have HL3' := Lib.hid (show L3 = L2 ++ D from by rw [hL3, HDG.out])
      have HN3 := Lib.hid (show L3.length = M.length + 4 + name.size + D.length from by rw [HL3'.out, List.length_append, HN2.out])
      have HL3 := Lib.hid (show L3 = M ++ (num4 0 ++ (strB name ++ D)) from by rw [HL3'.out, HL2.out]; simp)
      have HA3 := Lib.hid (HA2.out.trans HA.out)
      have hmm := HM.out
      have hns4 := HNS.out
      have H3 := Lib.hid (show Own wr B u0 L3 from by rw [hL3]; exact HO.out)
      rw [← hw3] at H3 HA3 ⊢
      clear hw3 hL3
      have hpos : 0 < L3.length := by have := HN3.out; omega
      obtain ⟨g, cap, eg, hcap, _⟩ := owns_open H3.out hpos
      have HEG := Lib.hid eg
      have hgl : g < w3.heap.size := (World.ownsRow.lt H3.out g (by rw [eg]; rfl)).2
      rw [eg] at H3 HA3 ⊢
      have hx3 : ((L3.length : Int) - (M.length : Int)) = (D.length : Int) + 4 + name.size := by have := HN3.out; omega
      have HX3 := Lib.hid hx3
      have hml : M.length ≤ L3.length := by have := HN3.out; omega
      have hl3 : L3.length ≤ 90000000 := by have := HN3.out; omega
      obtain ⟨n3, hn3⟩ : ∃ n, n = L3.length := ⟨_, rfl⟩
      rw [← hn3] at H3 HA3 HX3 hml hcap hl3 ⊢
      have HNN := Lib.hid hn3
      have hmn : M.length + 4 ≤ n3 := by rw [hn3]; have := HN3.out; omega
      obtain ⟨km, hkm⟩ : ∃ k, k = M.length := ⟨_, rfl⟩
      rw [← hkm] at HX3 hml hmn ⊢
      have HKM := Lib.hid hkm
      have hb3 : Below w3.heap.size w3 (w3.alloc (.cells #[.int .i64 ((n3 : Int) - (km : Int))] 2)) := below_box _ _
      have hsz3 := HA3.out.g.size
      clear eg hx3 hn3 hpos hkm
      go_wp2_with fail
      refine (patch_any g n3 cap km L3 ((n3 : Int) - (km : Int)) B w3.heap.size 1 _ (H3.out.below hb3) HNN.out hmn (by simp [go_sem]) (by omega) (by omega)).mono ?_
      rintro e w4 ⟨⟨rr, rfl⟩, h4, ha4⟩
      have HA4 := Lib.hid (HA3.out.trans (Adv.of_below hb3))
      have HAP := Lib.hid ha4
      have H4 := Lib.hid h4
      clear h4 ha4 hb3
      go_wp2_with fail
      go_ret
      have hp : patch L3 km ((n3 : Int) - (km : Int)) = M ++ boxP name D := by
        rw [HX3.out, HL3.out, HKM.out, patch_head]
        rfl
      have ho4 := H4.out
      rw [hp] at ho4
      have hfin := HA4.out.patch HAP.out hB HB0.out ho4
      rw [HBE.out] at hfin
      exact ⟨_, rfl, ho4, hfin⟩
end Go.Proofs.Ytkhjkemllgjfmaa
