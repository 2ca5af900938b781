/- The contract of the program's movie. -/
import Derived.Test.YtkhjkemllgjfmaaYS
namespace Go.Proofs.Ytkhjkemllgjfmaa
open Go.RowKit
set_option linter.unusedVariables false
set_option linter.unusedSimpArgs false

def nMvhd : ByteArray := ⟨#[109, 118, 104, 100]⟩
def nMoov : ByteArray := ⟨#[109, 111, 111, 118]⟩
def mvhdL (F : Fl) : List Int := [] ++ zs 12 ++ numsL [F.sc, 0, 65536] ++ [1, 0] ++ zs 10 ++ matL ++ zs 24 ++ numsL [(F.nT : Int) + 1]
def offN (T : Nat → Tr) : Nat → Nat
  | 0 => 0
  | k + 1 => offN T k + sizeN (T k).S (T k).nS
def moovP (F : Fl) (first : Int) (i : Nat) : CT := if i = 0 then .leaf nMvhd (mvhdL F) else trakT (F.T (i - 1)) (i : Int) (first + (offN F.T (i - 1) : Nat))
def moovT (F : Fl) (first : Int) : CT := .group nMoov (F.nT + 1) (moovP F first)
/-- What a light file's tracks hold. -/
structure LT (T : Tr) : Prop where
  s : T.nS ≤ 40
  c : T.nC ≤ 5000
  e : T.nE ≤ 70
  h : T.h.size ≤ 20
  z : sizeN T.S T.nS ≤ 20000
theorem offN_le {T : Nat → Tr} {n : Nat} (h : ∀ i, i < n → LT (T i)) : ∀ k, k ≤ n → offN T k ≤ k * 20000
  | 0, _ => by simp [offN]
  | k + 1, hk => by
    have h1 := offN_le h k (by omega)
    have h2 := (h k (by omega)).z
    simp only [offN]
    omega
theorem RowC.congr {w : World} {B : Nat} {v : Value} {xs : List Value} {P Q : Nat → CT} (h : RowC w B v xs P) (e : ∀ i, i < xs.length → P i = Q i) : RowC w B v xs Q :=
  ⟨h.own, fun i x hi => by rw [← e i (List.getElem?_eq_some_iff.1 hi).1]; exact h.here i x hi, fun i x hi => by rw [← e i (List.getElem?_eq_some_iff.1 hi).1]; exact h.low i x hi⟩
theorem CA.iface {w : World} {no : Option Nat} {v : Value} {t : CT} (h : CA w no v t) : ∃ ty x, v = .iface ty x := by cases h <;> exact ⟨_, _, rfl⟩
theorem moovP_succ (F : Fl) (first : Int) (k : Nat) : moovP F first (k + 1) = trakT (F.T k) ((k : Int) + 1) (first + (offN F.T k : Nat)) := by
  unfold moovP
  rw [if_neg (by omega)]
  simp
def MoovPost (w : World) (F : Fl) (first : Int) (e : Ending) (w' : World) : Prop := ∃ r, e = .returned r ∧ (∀ no : Option Nat, (∀ q, no = some q → q < w.heap.size) → CA w' no r (moovT F first)) ∧ Below w.heap.size w w'
def mvG (B : Nat) (F : Fl) (i : Nat) (R : Nat → Prop) (v : Value) (w : World) : Prop :=
  match i with
  | 0 => GO B ([] ++ zs 12) R v w | 3 => GI [F.sc, 0, 65536] R v w | _ => True
theorem mvG_touch {B : Nat} {F : Fl} {i : Nat} {R X : Nat → Prop} {v : Value} {w w' : World} (h : mvG B F i R v w) (ht : Plan.Touch X w w') (hd : ∀ b, R b → ¬ X b ∧ b < w.heap.size) : mvG B F i R v w' := by
  unfold mvG at h ⊢
  split <;> first | exact GI.touch h ht hd | exact GO.touch h ht hd | trivial

set_option maxRecDepth 100000 in
set_option maxHeartbeats 4000000 in
theorem movie_any (v : Value) (F : Fl) (first : Int) (w : World) (hv : FA w v F) (hn : F.nT ≤ 6) (hL : ∀ i, i < F.nT → LT (F.T i)) (hf0 : 0 ≤ first) (hf1 : first ≤ 1000000) :
    Calls Try.prog 40 #[v, .int .i64 first] w (MoovPost w F first) := by
  obtain ⟨cT, rfl, hts⟩ := hv
  obtain ⟨aT, dT, rfl⟩ := hts.shape
  have HTS := Lib.hid hts
  have HLT := Lib.hid hL
  clear hts hL
  go_enter Try.func40, Try.ntmps40
  go_upto_region 1 with fail
  obtain ⟨w1, hw1⟩ : ∃ x, x = w.alloc (.cells #[.int .i64 F.sc, .slice aT F.nT dT] 56) := ⟨_, rfl⟩
  rw [← hw1]
  obtain ⟨gt, hgt⟩ : ∃ g, g = w.heap.size := ⟨_, rfl⟩
  have hE1 : Below w.heap.size w w1 := by rw [hw1]; exact below_box _ _
  have x0 : w1.cell? ⟨gt, 0, none⟩ = some (.int .i64 F.sc) := by rw [hw1, hgt]; simp [go_sem]
  have x1 : w1.cell? ⟨gt, 1, none⟩ = some (.slice aT F.nT dT) := by rw [hw1, hgt]; simp [go_sem]
  have hz1 : w.heap.size < w1.heap.size := by rw [hw1]; simp [go_sem]
  rw [← hgt]
  have hgtl : gt < w1.heap.size := block_lt_of_cell x0
  have HB1 := Lib.hid hE1
  have HX := Lib.hid (And.intro x0 x1)
  clear hw1 hE1 hgt x1
  refine Plan.wp_region_own (fun w' => Below w1.heap.size w1 w') 6 (mvG w1.heap.size F) (fun _ => []) ([1, 2].map (·, true)) [(0, 9), (3, 12)] ([4, 5].map (·, false)) 56 (by kernel_rfl) (by kernel_rfl) (by kernel_rfl) (by kernel_rfl) (Below.refl _ _).drew ?_
  refine' Plan.plan_seg _ [1, 2] [] (by kernel_rfl) (by kernel_rfl) rfl (by exact (Below.refl _ _).drew) (fun wx hS => ?_) ?_
  rotate_left
  · have y0 := (hS.cell (p := ⟨gt, 0, none⟩) hgtl).trans x0
    clear hS
    go_light
    iterate 2 (apply Plan.seg_pick; rfl; intro K hK; go_wp)
    exact Plan.seg_nil
  refine Plan.plan_nil ?_
  obtain ⟨wd, hwd⟩ : ∃ x, x = w1.drew := ⟨_, rfl⟩
  rw [← hwd]
  have hzd : wd.heap.size = w1.heap.size := by rw [hwd]; rfl
  have hwrd : w1.heap.size ≤ wd.heap.size := by omega
  clear hwd
  refine ⟨rfl, fun wa wb ha hb => ha.trans (hb.mono (by omega)), fun i R X v wa wb h ht hd _ _ => mvG_touch h ht hd, ?_, ?_⟩
  · intro p hp o ho vs wx R hS hE hG K hK
    have hSz := hS.size
    simp only [List.mem_cons, List.not_mem_nil, or_false] at hp
    rcases hp with rfl | rfl
    all_goals obtain rfl := Option.some.inj ho
    · clear hG
      refine Plan.one_call rfl 53 Try.func53 (by kernel_rfl) (by kernel_rfl) #[.const (.slice none 0 0), .const (.int .i64 12)] #[22, 3] rfl #[.slice none 0 0, .int .i64 12] (by simp [Act.eval]) (fun r w' => Own w' wx.heap.size r ([] ++ zs 12) ∧ Adv wx w' (.slice none 0 0) r) (appz_any (.slice none 0 0) [] 12 wx.heap.size wx (own_nil _ _) (by decide) (by decide) (by decide) (Nat.le_refl _)) (fun r w' hR => ?_)
      exact hK _ _ (GO.new hR.1 (by omega)) (touch_below (hR.2.below rfl))
    · clear hG
      simp only [Plan.puts] at hK ⊢
      go_wp2
      exact hK _ _ (GI.new (IL.build wx [F.sc, 0, 65536] 2) (fun a n c e => by cases e; exact ⟨Nat.le_refl _, by simp [go_sem]⟩)) (touch_below (below_box _ _))
  intro vs R wx hS hE hall hap
  have h0 : GO w1.heap.size ([] ++ zs 12) (R 0) (vs 0) wx := (hall (0, 9) (by decide) (by decide)).1
  have h3 : GI [F.sc, 0, 65536] (R 3) (vs 3) wx := (hall (3, 12) (by decide) (by decide)).1
  have hdis := hap (0, 9) (by decide) (3, 12) (by decide) (by decide) (by decide) (by decide)
  obtain ⟨qa, qc, he0⟩ := h0.1.shape
  obtain ⟨pa, pc, he3⟩ := h3.1.shape
  have hapt : Apart (vs 0) (vs 3) := fun a n c e h => by
    obtain ⟨a', n', c', e1, e2⟩ := own_block h
    exact hdis _ (h0.2 a' n' c' e1) (by rw [e2]; exact h3.2 a n c e)
  have HS := Lib.hid hS
  have hSz := hS.size
  have ho0 := h0.1
  have hi3 := h3.1
  rw [he0] at ho0 hapt
  rw [he3] at hi3 hapt
  have HO := Lib.hid ho0
  have HI := Lib.hid hi3
  have HAP := Lib.hid hapt
  simp only [Plan.puts, he0, he3]
  clear hall hap hE h0 h3 hdis he0 he3 hapt ho0 hi3 hS hwrd hzd x0
  refine Plan.plan_of_effect rfl (fun K hK => ?_)
  go_wp2_with fail
  refine (appn_any _ _ ([] ++ zs 12) [F.sc, 0, 65536] w1.heap.size wx HO.out HI.out HAP.out (by simp) (by simp [zs]) hSz).mono ?_
  rintro e w2 ⟨r, rfl, hO, hA⟩
  have hup : Below w1.heap.size w1 w2 := HS.out.trans (hA.up HO.out hSz)
  obtain ⟨L2, hL2⟩ : ∃ Lq, Lq = ([] ++ zs 12 ++ numsL [F.sc, 0, 65536] : List Int) := ⟨_, rfl⟩
  replace hO : Own w2 w1.heap.size r L2 := by rw [hL2]; exact hO
  have hn2 : L2.length = 24 := by rw [hL2, List.length_append, numsL_length]; simp [zs]
  obtain ⟨ra, rc, rfl⟩ := hO.shape
  have HBW := Lib.hid hup
  have HLn := Lib.hid hn2
  have HLe := Lib.hid hL2
  have hsw := hup.size
  replace HO := Lib.hid hO
  clear hO hA hup hL2 hn2 HI HAP HS
  go_wp2_with fail
  refine ⟨HBW.out, ?_⟩
  refine Plan.plan_of_effect rfl (fun K hK => ?_)
  go_wp2_with fail
  refine ⟨HBW.out, ?_⟩
  refine Plan.plan_done ?_
  go_wp2_with (at_builtin; refine wpList_adv _ rfl (.tmp 14) (.tmp 15) rfl w1.heap.size _ _ L2 [1, 0] rfl (HO.out.below (below_box w2 _)) rfl (own_lit w2 [1, 0] (by decide)).bl (by rw [HLn.out]; decide) (by simp; omega) ?_)
  intro r w3 hO hA
  have hup : Below w1.heap.size w1 w3 := (HBW.out.trans ((below_box w2 _).mono hsw)).trans (hA.up (HO.out.below (below_box w2 _)) (by first | exact hsw | (simp; done) | (simp; omega)))
  obtain ⟨L3, hL3⟩ : ∃ Lq, Lq = L2 ++ [1, 0] := ⟨_, rfl⟩
  replace hO : Own w3 w1.heap.size r L3 := by rw [hL3]; exact hO
  have hn2 : L3.length = 26 := by rw [hL3, List.length_append, HLn.out, show ([1, 0] : List Int).length = 2 from rfl]
  have he2 : L3 = [] ++ zs 12 ++ numsL [F.sc, 0, 65536] ++ [1, 0] := hL3.trans (by rw [HLe.out])
  obtain ⟨ra, rc, rfl⟩ := hO.shape
  replace HO := Lib.hid hO
  replace HBW := Lib.hid hup
  replace HLn := Lib.hid hn2
  replace HLe := Lib.hid he2
  replace hsw := hup.size
  clear hO hA hup hL3 hn2 he2
  go_wp2_with fail
  refine (appz_any _ L3 10 w1.heap.size _ HO.out (by decide) (by decide) (by rw [HLn.out]; decide) hsw).mono ?_
  rintro e w4 ⟨r, rfl, hO, hA⟩
  have hup : Below w1.heap.size w1 w4 := HBW.out.trans (hA.up HO.out (by first | exact hsw | (simp; done) | (simp; omega)))
  obtain ⟨L4, hL4⟩ : ∃ Lq, Lq = L3 ++ zs 10 := ⟨_, rfl⟩
  replace hO : Own w4 w1.heap.size r L4 := by rw [hL4]; exact hO
  have hn2 : L4.length = 36 := by rw [hL4, List.length_append, HLn.out, show (zs 10 : List Int).length = 10 from by simp [zs]]
  have he2 : L4 = [] ++ zs 12 ++ numsL [F.sc, 0, 65536] ++ [1, 0] ++ zs 10 := hL4.trans (by rw [HLe.out])
  obtain ⟨ra, rc, rfl⟩ := hO.shape
  replace HO := Lib.hid hO
  replace HBW := Lib.hid hup
  replace HLn := Lib.hid hn2
  replace HLe := Lib.hid he2
  replace hsw := hup.size
  clear hO hA hup hL4 hn2 he2
  go_wp2_with fail
  refine (appm_any _ L4 w1.heap.size _ HO.out (by rw [HLn.out]; decide) hsw).mono ?_
  rintro e w5 ⟨r, rfl, hO, hA⟩
  have hup : Below w1.heap.size w1 w5 := HBW.out.trans (hA.up HO.out (by first | exact hsw | (simp; done) | (simp; omega)))
  obtain ⟨L5, hL5⟩ : ∃ Lq, Lq = L4 ++ matL := ⟨_, rfl⟩
  replace hO : Own w5 w1.heap.size r L5 := by rw [hL5]; exact hO
  have hn2 : L5.length = 72 := by rw [hL5, List.length_append, HLn.out, show (matL : List Int).length = 36 from by rfl]
  have he2 : L5 = [] ++ zs 12 ++ numsL [F.sc, 0, 65536] ++ [1, 0] ++ zs 10 ++ matL := hL5.trans (by rw [HLe.out])
  obtain ⟨ra, rc, rfl⟩ := hO.shape
  replace HO := Lib.hid hO
  replace HBW := Lib.hid hup
  replace HLn := Lib.hid hn2
  replace HLe := Lib.hid he2
  replace hsw := hup.size
  clear hO hA hup hL5 hn2 he2
  go_wp2_with fail
  refine (appz_any _ L5 24 w1.heap.size _ HO.out (by decide) (by decide) (by rw [HLn.out]; decide) hsw).mono ?_
  rintro e w6 ⟨r, rfl, hO, hA⟩
  have hup : Below w1.heap.size w1 w6 := HBW.out.trans (hA.up HO.out (by first | exact hsw | (simp; done) | (simp; omega)))
  obtain ⟨L6, hL6⟩ : ∃ Lq, Lq = L5 ++ zs 24 := ⟨_, rfl⟩
  replace hO : Own w6 w1.heap.size r L6 := by rw [hL6]; exact hO
  have hn2 : L6.length = 96 := by rw [hL6, List.length_append, HLn.out, show (zs 24 : List Int).length = 24 from by simp [zs]]
  have he2 : L6 = [] ++ zs 12 ++ numsL [F.sc, 0, 65536] ++ [1, 0] ++ zs 10 ++ matL ++ zs 24 := hL6.trans (by rw [HLe.out])
  obtain ⟨ra, rc, rfl⟩ := hO.shape
  replace HO := Lib.hid hO
  replace HBW := Lib.hid hup
  replace HLn := Lib.hid hn2
  replace HLe := Lib.hid he2
  replace hsw := hup.size
  clear hO hA hup hL6 hn2 he2
  have x1 := (HBW.out.cell (p := ⟨gt, 1, none⟩) hgtl).trans HX.out.2
  go_wp2_with fail
  refine (appn_any _ _ L6 [(F.nT : Int) + 1] w1.heap.size _ (HO.out.below (below_box w6 _)) (IL.build w6 [(F.nT : Int) + 1] 2) (HO.out.apart_new (Nat.le_refl _)) (by simp) (by rw [HLn.out]; decide) (by simp; omega)).mono ?_
  rintro e w7 ⟨r, rfl, hO, hA⟩
  have hup : Below w1.heap.size w1 w7 := (HBW.out.trans ((below_box w6 _).mono hsw)).trans (hA.up (HO.out.below (below_box w6 _)) (by first | exact hsw | (simp; done) | (simp; omega)))
  obtain ⟨L7, hL7⟩ : ∃ Lq, Lq = L6 ++ numsL [(F.nT : Int) + 1] := ⟨_, rfl⟩
  replace hO : Own w7 w1.heap.size r L7 := by rw [hL7]; exact hO
  have hn2 : L7.length = 100 := by rw [hL7, List.length_append, HLn.out, show (numsL [(F.nT : Int) + 1] : List Int).length = 4 from by rw [numsL_length]; rfl]
  have he2 : L7 = [] ++ zs 12 ++ numsL [F.sc, 0, 65536] ++ [1, 0] ++ zs 10 ++ matL ++ zs 24 ++ numsL [(F.nT : Int) + 1] := hL7.trans (by rw [HLe.out])
  obtain ⟨ra, rc, rfl⟩ := hO.shape
  replace HO := Lib.hid hO
  replace HBW := Lib.hid hup
  replace HLn := Lib.hid hn2
  replace HLe := Lib.hid he2
  replace hsw := hup.size
  clear hO hA hup hL7 hn2 he2
  clear x1
  go_upto_region 6 with fail
  have HOT := HO
  have HLM := Lib.hid (show L7 = mvhdL F from HLe.out)
  clear HO HLe HLn
  obtain ⟨wp, hwp⟩ : ∃ x, x = w7.alloc (.cells #[.iface 109 (.agg #[.string nMvhd, .slice ra L7.length rc])] 83) := ⟨_, rfl⟩
  have hbp : Below w7.heap.size w7 wp := by rw [hwp]; exact below_box _ _
  obtain ⟨gq, hgq⟩ : ∃ g, g = w7.heap.size := ⟨_, rfl⟩
  have hoc : RowC wp w1.heap.size (.slice (some ⟨gq, 0, none⟩) 1 1) [.iface 109 (.agg #[.string nMvhd, .slice ra L7.length rc])] (moovP F first) := by
    rw [hwp, hgq]
    refine (RowC.one hsw (fun no hno => ?_)).congr (P := fun _ => .leaf nMvhd (mvhdL F)) (fun i hi => ?_)
    · have h := HOT.out.ca nMvhd hno
      rw [HLM.out] at h ⊢
      exact h
    · have : i = 0 := by simp at hi; exact hi
      subst this
      rfl
  have hwp' := hwp
  unfold nMvhd at hwp'
  rw [← hwp', ← hgq]
  replace hbp := HBW.out.trans (hbp.mono hsw)
  have HOC := Lib.hid hoc
  replace HBW := Lib.hid hbp
  replace hsw := hbp.size
  clear hwp hwp' hgq hbp hoc HOT HLM
  have x1 := (HBW.out.cell (p := ⟨gt, 1, none⟩) hgtl).trans HX.out.2
  go_wp2_with fail
  clear x1
  go_loopw [1, 6, 35] (fun f v6 i wr => ∃ k : Nat, k ≤ F.nT ∧ i = .int .i64 (k : Int) ∧ f = .int .i64 (first + (offN F.T k : Nat)) ∧ ∃ a6 c6 xs, v6 = .slice a6 (k + 1) c6 ∧ xs.length = k + 1 ∧ RowC wr w1.heap.size (.slice a6 (k + 1) c6) xs (moovP F first) ∧ Below w1.heap.size w1 wr) (fun _ _ i _ => F.nT - (intOf i).toNat)
  case atStart => exact ⟨0, Nat.zero_le _, rfl, by simp [offN], _, _, _, rfl, rfl, HOC.out, HBW.out⟩
  case round =>
    obtain ⟨k, hk, rfl, rfl, a6, c6, xs, rfl, hxl, hR, hbw⟩ := hrel
    have HR := Lib.hid hR
    have HW := Lib.hid hbw
    have HXL := Lib.hid hxl
    have hsr := hbw.size
    clear hR hbw hxl HOC HBW hsw
    have hww := HB1.out.trans (HW.out.mono (by omega))
    have HWW := Lib.hid hww
    have hswr := hww.size
    by_cases hlt : k < F.nT
    · obtain ⟨ao, c', e, hcc, H⟩ := HTS.out
      simp only [Value.slice.injEq, true_and] at e
      obtain ⟨rfl, rfl⟩ := e
      obtain ⟨b', o', c0, c1, c2, c3, c4, rfl, h0, h1, h2, h3, h4, hTC⟩ := H k hlt
      have HTA := Lib.hid (show TA w (.agg #[c0, c1, c2, c3, c4]) (F.T k) from ⟨c0, c1, c2, c3, c4, rfl, hTC⟩)
      obtain ⟨rfl, rfl, b2, b3, b4⟩ := hTC
      obtain ⟨p2, q2, rfl⟩ := b2.shape
      obtain ⟨p3, q3, rfl⟩ := b3.shape
      obtain ⟨p4, q4, rfl⟩ := b4.shape
      replace h0 := (hww.cell (block_lt_of_cell h0)).trans h0
      replace h1 := (hww.cell (block_lt_of_cell h1)).trans h1
      replace h2 := (hww.cell (block_lt_of_cell h2)).trans h2
      replace h3 := (hww.cell (block_lt_of_cell h3)).trans h3
      replace h4 := (hww.cell (block_lt_of_cell h4)).trans h4
      have hl := HLT.out k hlt
      have hoff := offN_le HLT.out k (by omega)
      obtain ⟨Tk, hTk⟩ : ∃ T, T = F.T k := ⟨_, rfl⟩
      rw [← hTk] at h0 h1 h2 h3 h4 HTA hl
      obtain ⟨G, hG⟩ : ∃ G, G = offN F.T k := ⟨_, rfl⟩
      rw [← hG] at hoff ⊢
      have HTk := Lib.hid hTk
      have HGq := Lib.hid hG
      have hzz := hl.z
      have hl1 := hl.s
      have hl2 := hl.c
      have hl3 := hl.e
      have hl4 := hl.h
      clear H b2 b3 b4 hTk hG hl hww
      go_upto_region 9 with fail
      obtain ⟨ws, hws⟩ : ∃ x, x = wr.alloc (.cells #[.string Tk.h, .int .i64 Tk.sc, .slice p2 Tk.nC q2, .slice p3 Tk.nS q3, .slice p4 Tk.nE q4] 43) := ⟨_, rfl⟩
      rw [← hws]
      obtain ⟨gs, hgs⟩ : ∃ g, g = wr.heap.size := ⟨_, rfl⟩
      have hbs : Below wr.heap.size wr ws := by rw [hws]; exact below_box _ _
      have hcx : C5 ws gs (.string Tk.h) (.int .i64 Tk.sc) (.slice p2 Tk.nC q2) (.slice p3 Tk.nS q3) (.slice p4 Tk.nE q4) := by rw [hws, hgs]; constructor <;> simp [go_sem]
      rw [← hgs]
      have hrow_lt : ∀ g, (Value.slice a6 (k + 1) c6).ownBlock = some g → g < gs := fun g hg => by rw [hgs]; exact HR.out.own.lt hg
      have HRL := Lib.hid hrow_lt
      have hss := hbs.size
      have HCX := Lib.hid hcx
      have HBS := Lib.hid hbs
      have hgss : gs < ws.heap.size := hcx.lt
      clear hws hgs hbs hcx hrow_lt h0 h1 h2 h3 h4
      obtain ⟨y0, y1, y2, y3, y4⟩ := HCX.out
      go_wp2_with fail
      refine (wtrack_any _ Tk ((k : Int) + 1) (first + (G : Nat)) ws ((HTA.out.below HWW.out).below HBS.out) (by omega) (by omega) (by omega) (by omega) (by omega) (by omega) (by omega)).mono ?_
      rintro e wt ⟨r, rfl, hca, hbt⟩
      obtain ⟨ty, rx, rfl⟩ := (hca none (by simp)).iface
      have HCA := Lib.hid hca
      have HBT := Lib.hid (HBS.out.trans (hbt.mono hss))
      have hst := HBT.out.size
      have hst2 := hbt.size
      replace HCX := Lib.hid (HCX.out.below hbt)
      clear hca hbt y0 y1 y2 y3 y4
      go_wp2_with (at_builtin; refine wpList_addC _ rfl (.tmp 40) (.tmp 46) rfl w1.heap.size _ xs (.iface ty rx) rfl ((HR.out.below HBT.out).own.below (below_box wt _)) wt.heap.size 1 rfl (by simp [go_sem]) rfl (by rw [HXL.out]; omega) (by simp; omega) ?_)
      intro v6' wu hO hA
      have hbx : Below wt.heap.size wt (wt.alloc (.cells #[.iface ty rx] 83)) := below_box _ _
      have hzx : (wt.alloc (.cells #[.iface ty rx] 83)).heap.size = wt.heap.size + 1 := by simp [go_sem]
      have hrow := ((HR.out.below HBT.out).below hbx).add (W0 := ws.heap.size) (t := trakT Tk ((k : Int) + 1) (first + (G : Nat))) (fun g hg => Nat.lt_trans (HRL.out g hg) hgss) (by omega) (fun no hno => (HCA.out no hno).bel hbx) hO hA
      have hrow2 : RowC wu w1.heap.size v6' (xs ++ [.iface ty rx]) (moovP F first) := hrow.congr (fun i hi => by
        by_cases e : i = xs.length
        · rw [if_pos e, e, HXL.out, moovP_succ, HTk.out, HGq.out]
        · rw [if_neg e])
      have hbu : Below w1.heap.size w1 wu := (HW.out.trans (HBT.out.mono hsr)).trans ((hbx.mono (by omega)).trans (hA.up ((HR.out.below HBT.out).own.below hbx) (by omega)))
      have hxu : C5 wu gs (.string Tk.h) (.int .i64 Tk.sc) (.slice p2 Tk.nC q2) (.slice p3 Tk.nS q3) (.slice p4 Tk.nE q4) := by
        have h1 := HCX.out.below hbx
        have hb : wu.heap[gs]? = (wt.alloc (.cells #[.iface ty rx] 83)).heap[gs]? := hA.g.block gs h1.lt (fun e => by have := HRL.out gs e.symm; omega)
        exact ⟨(World.cell?_of_block (a := ⟨gs, 0, none⟩) hb).trans h1.k0, (World.cell?_of_block (a := ⟨gs, 1, none⟩) hb).trans h1.k1, (World.cell?_of_block (a := ⟨gs, 2, none⟩) hb).trans h1.k2, (World.cell?_of_block (a := ⟨gs, 3, none⟩) hb).trans h1.k3, (World.cell?_of_block (a := ⟨gs, 4, none⟩) hb).trans h1.k4⟩
      have hln : (xs ++ [Value.iface ty rx]).length = k + 1 + 1 := by rw [List.length_append, HXL.out]; rfl
      obtain ⟨a6', c6', hv⟩ := hO.shape
      rw [hln] at hv
      subst hv
      have HRow := Lib.hid hrow2
      have HBU := Lib.hid hbu
      have HLN := Lib.hid hln
      have HTU := Lib.hid (HTA.out.below (HB1.out.trans (hbu.mono (by omega))))
      have hsu := hbu.size
      clear hrow hrow2 hbx hzx hbu hln hO hA HCX HBT HR HCA
      obtain ⟨y0, y1, y2, y3, y4⟩ := hxu
      go_wp2_with fail
      refine (size_any _ Tk wu HTU.out (by omega) (by omega)).mono ?_
      rintro e wv ⟨rfl, hbv⟩
      have HRv := Lib.hid (HRow.out.below hbv)
      have HBv := Lib.hid (HBU.out.trans (hbv.mono hsu))
      obtain ⟨Z, hZ⟩ : ∃ Z, Z = sizeN Tk.S Tk.nS := ⟨_, rfl⟩
      rw [← hZ] at hzz ⊢
      have HZ := Lib.hid hZ
      clear hbv hZ y0 y1 y2 y3 y4 HRow HBU
      go_wp2_with fail
      refine ⟨⟨k + 1, by omega, by go_num, ?_, a6', c6', _, by go_num, HLN.out, HRv.out, HBv.out⟩, ?_⟩
      · have e1 : offN F.T (k + 1) = G + Z := by rw [HZ.out, HGq.out, HTk.out]; rfl
        rw [e1]
        go_num
      · simp [intOf]
        omega
    · obtain rfl : k = F.nT := by omega
      have hfin : ∀ no : Option Nat, (∀ q, no = some q → q < w.heap.size) → CA wr no (.iface 107 (.agg #[.string nMoov, .slice a6 (F.nT + 1) c6])) (moovT F first) := fun no hno => HR.out.group nMoov HXL.out (by omega) (fun i _ => rfl) (fun q hq => by have := hno q hq; omega)
      have HF := Lib.hid hfin
      clear hfin hww
      go_wp2_with fail
      go_ret
      exact ⟨_, rfl, HF.out, HWW.out⟩
end Go.Proofs.Ytkhjkemllgjfmaa
