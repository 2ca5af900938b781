/- Texts of this claim joined: AH AL AI. -/
import Derived.Deep.QuietTactic
import Derived.BigQuiet
import Derived.Deep.CutRange
import Derived.Test.YtnmkcpgcdjhdjaaVa14
set_option linter.unusedVariables false
set_option linter.unusedSimpArgs false

/- ValidClip of the program at any clip: its first region. -/
namespace Go.Proofs.Ytnmkcpgcdjhdjaa
open Go.RowKit
set_option linter.unusedVariables false
set_option linter.unusedSimpArgs false
noncomputable def tailB (c : Trk.Clip) (l : List Int) (ab nb np nt ns sh : Bool) : Bool :=
  if c.kind = 0 then ab && nb && ns && np && nt && decide (c.gain = 0) && decide (l.length = 0)
  else if c.kind = 1 then nb && ns && np && nt
  else if c.kind = 2 then sh && np && nt
  else if c.kind = 3 then sh && decide (0 ≤ c.param) && decide (c.param ≤ 3) && nt
  else if c.kind = 4 then ns && decide (0 ≤ c.param) && decide (c.param ≤ 255) && nt
  else if c.kind = 5 then nb && ns && np && lineB c.text
  else false
noncomputable def headB (c : Trk.Clip) (l : List Int) : Bool := decide (1 ≤ c.len) && decide (c.len ≤ 2147483647) && decide (0 ≤ c.gain) && decide (c.gain ≤ 65536) && chansB l && srcB c.a && srcB c.b
open Classical in
noncomputable def bodyB (c : Trk.Clip) (l : List Int) : Bool := tailB c l (decide (c.a = Trk.black)) (decide (c.b = Trk.black)) (decide (c.param = 0)) (decide (c.text = ByteArray.empty)) (decide (c.off = 0) && decide (c.total = 0)) (decide (0 ≤ c.off) && decide (c.len ≤ c.total) && decide (c.total ≤ 2147483647) && decide (c.off ≤ c.total - c.len))
noncomputable def clipB (c : Trk.Clip) (l : List Int) : Bool := headB c l && bodyB c l
theorem clipB_head {c : Trk.Clip} {l : List Int} (h : headB c l = false) : clipB c l = false := by unfold clipB; rw [h]; rfl
set_option maxRecDepth 100000 in
set_option maxHeartbeats 16000000 in
theorem vclip_no (c : Trk.Clip) (x : Value) (l : List Int) (w : World) (hi : IT w x l) (ha : InS c.a) (hb : InS c.b) (hno : headB c l = false) :
    Calls Try.prog 62 #[clipGV c x] w fun e w' => e = .returned (.bool false) ∧ Below w.heap.size w w' := by
  have HA := Lib.hid (fun w => vsource_all c.a w ha)
  have HB := Lib.hid (fun w => vsource_all c.b w hb)
  simp only [srcV, srcC] at HA HB
  have HNO := Lib.hid hno
  have HI := Lib.hid hi
  clear hno ha hb hi
  unfold clipGV
  obtain ⟨C, hC⟩ : ∃ C, C = (clipG c x).toArray := ⟨_, rfl⟩
  rw [← hC]
  have HC := Lib.hid hC
  clear hC
  go_enter Try.func62, Try.ntmps62
  go_upto_region 1 with fail
  obtain ⟨w1, hw1⟩ : ∃ x, x = w.alloc (.cells C 53) := ⟨_, rfl⟩
  rw [← hw1]
  rw [HC.out] at hw1
  have hx : GV w1 w.heap.size c x := by rw [hw1]; exact GV.box w c x 53
  have hb1 : Below w.heap.size w w1 := by rw [hw1]; exact below_box _ _
  obtain ⟨g, hg⟩ : ∃ g, g = w.heap.size := ⟨_, rfl⟩
  replace HI := Lib.hid (HI.out.below hb1)
  rw [← hg] at hx ⊢
  have BW := Lib.hid hb1
  have HX := Lib.hid hx
  clear hw1 hb1 hg hx HC
  by_cases h1 : 1 ≤ c.len
  rotate_left
  · have HNO := 0
    obtain ⟨x0, x1, x2, x3, x4, x5, x6, x7, x8, x9, x10, x11, x12, x13, x14, x15, x16, x17, x18, x19, x20, x21⟩ := HX.out.c.at0
    go_wp2_with fail
    go_ret
    exact ⟨rfl, BW.out⟩
  by_cases h2 : c.len ≤ 2147483647
  rotate_left
  · have HNO := 0
    obtain ⟨x0, x1, x2, x3, x4, x5, x6, x7, x8, x9, x10, x11, x12, x13, x14, x15, x16, x17, x18, x19, x20, x21⟩ := HX.out.c.at0
    go_wp2_with fail
    go_ret
    exact ⟨rfl, BW.out⟩
  by_cases h3 : 0 ≤ c.gain
  rotate_left
  · have HNO := 0
    obtain ⟨x0, x1, x2, x3, x4, x5, x6, x7, x8, x9, x10, x11, x12, x13, x14, x15, x16, x17, x18, x19, x20, x21⟩ := HX.out.c.at0
    go_wp2_with fail
    go_ret
    exact ⟨rfl, BW.out⟩
  by_cases h4 : c.gain ≤ 65536
  rotate_left
  · have HNO := 0
    obtain ⟨x0, x1, x2, x3, x4, x5, x6, x7, x8, x9, x10, x11, x12, x13, x14, x15, x16, x17, x18, x19, x20, x21⟩ := HX.out.c.at0
    go_wp2_with fail
    go_ret
    exact ⟨rfl, BW.out⟩
  obtain ⟨x0, x1, x2, x3, x4, x5, x6, x7, x8, x9, x10, x11, x12, x13, x14, x15, x16, x17, x18, x19, x20, x21⟩ := HX.out.c.at0
  go_wp2_with fail
  refine (vchannels_all x l _ HI.out).mono ?_
  rintro e w' ⟨rfl, rfl⟩
  cases hch : chansB l with
  | false =>
    go_wp2_with fail
    go_ret
    exact ⟨rfl, BW.out⟩
  | true =>
    go_wp2_with fail
    refine (HA.out _).mono ?_
    rintro e w2 ⟨rfl, hb⟩
    replace HX := Lib.hid (HX.out.below hb)
    replace BW := Lib.hid (BW.out.trans (hb.mono BW.out.size))
    clear hb x0 x1 x2 x3 x4 x5 x6 x7 x8 x9 x10 x11 x12 x13 x14 x15 x16 x17 x18 x19 x20 x21
    cases hsa : srcB c.a with
    | false =>
      go_wp2_with fail
      go_ret
      exact ⟨rfl, BW.out⟩
    | true =>
      obtain ⟨x0, x1, x2, x3, x4, x5, x6, x7, x8, x9, x10, x11, x12, x13, x14, x15, x16, x17, x18, x19, x20, x21⟩ := HX.out.c.at0
      go_wp2_with fail
      refine (HB.out _).mono ?_
      rintro e w3 ⟨rfl, hb⟩
      replace HX := Lib.hid (HX.out.below hb)
      replace BW := Lib.hid (BW.out.trans (hb.mono BW.out.size))
      clear hb x0 x1 x2 x3 x4 x5 x6 x7 x8 x9 x10 x11 x12 x13 x14 x15 x16 x17 x18 x19 x20 x21
      cases hsb : srcB c.b with
      | false =>
        go_wp2_with fail
        go_ret
        exact ⟨rfl, BW.out⟩
      | true =>
        exfalso
        have := HNO.out
        unfold headB at this
        rw [decide_eq_true h1, decide_eq_true h2, decide_eq_true h3, decide_eq_true h4, hch, hsa, hsb] at this
        cases this
end Go.Proofs.Ytnmkcpgcdjhdjaa

/- Aid for the walks of ValidClip: tests of a source, a number, a text as Bools. -/
namespace Go.Proofs.Ytnmkcpgcdjhdjaa
open Go.RowKit
set_option linter.unusedVariables false
set_option linter.unusedSimpArgs false
theorem if_src {s : Trk.Src} {r : Bool} {w : World} (h : r = decide (s = Trk.black)) :
    (if s.kind = 0 then
      if s.name.toList = [] then
        if s.an = 0 then
          if s.ad = 0 then
            if s.sn = 0 then
              if s.sd = 0 then
                if s.smooth = true then Result.ok (Next.value (Value.bool false)) w
                else Result.ok (Next.value (Value.bool true)) w
              else Result.ok (Next.value (Value.bool false)) w
            else Result.ok (Next.value (Value.bool false)) w
          else Result.ok (Next.value (Value.bool false)) w
        else Result.ok (Next.value (Value.bool false)) w
      else Result.ok (Next.value (Value.bool false)) w
    else Result.ok (Next.value (Value.bool false)) w) = Result.ok (Next.value (Value.bool r)) w := by
  subst h
  obtain ⟨k, nm, an, ad, sn, sd, sm⟩ := s
  have hs : nm.toList = [] ↔ nm = ByteArray.empty := ⟨fun h => bytes_inj2 (by rw [h, Go.ByteArray.toList_eq]; rfl), fun h => by rw [h, Go.ByteArray.toList_eq]; rfl⟩
  simp only [hs, Trk.black]
  by_cases h1 : k = 0 <;> by_cases h2 : nm = ByteArray.empty <;> by_cases h3 : an = 0 <;> by_cases h4 : ad = 0 <;> by_cases h5 : sn = 0 <;> by_cases h6 : sd = 0 <;> cases sm <;> simp [h1, h2, h3, h4, h5, h6]
theorem ret_np {n : Int} {r : Bool} (h : r = decide (n = 0)) : Value.bool (n == 0) = .bool r := by
  subst h; by_cases h : n = 0 <;> simp [h]
theorem ret_nt {s : ByteArray} {r : Bool} (h : r = decide (s = ByteArray.empty)) : Value.bool s.toList.isEmpty = .bool r := by
  subst h
  have hs : s.toList = [] ↔ s = ByteArray.empty := ⟨fun h => bytes_inj2 (by rw [h, Go.ByteArray.toList_eq]; rfl), fun h => by rw [h, Go.ByteArray.toList_eq]; rfl⟩
  by_cases h : s = ByteArray.empty
  · have h2 := hs.2 h
    rw [h2, decide_eq_true h]; rfl
  · have h2 : s.toList ≠ [] := fun e => h (hs.1 e)
    rw [decide_eq_false h]
    cases he : s.toList with
    | nil => exact absurd he h2
    | cons a b => rfl
end Go.Proofs.Ytnmkcpgcdjhdjaa

/- ValidClip of the program at any clip, past its first region. -/
namespace Go.Proofs.Ytnmkcpgcdjhdjaa
open Go.RowKit
set_option linter.unusedVariables false
set_option linter.unusedSimpArgs false
set_option maxRecDepth 100000 in
set_option maxHeartbeats 16000000 in
theorem vclip_yes (c : Trk.Clip) (x : Value) (l : List Int) (w : World) (hi : IT w x l) (ha : InS c.a) (hb : InS c.b) (hno : headB c l = true) (hln : c.text.size < 9223372036854775808) :
    Calls Try.prog 62 #[clipGV c x] w fun e w' => e = .returned (.bool (bodyB c l)) ∧ Below w.heap.size w w' := by
  have HA := Lib.hid (fun w => vsource_all c.a w ha)
  have HB := Lib.hid (fun w => vsource_all c.b w hb)
  simp only [srcV, srcC] at HA HB
  have hno2 := hno
  unfold headB at hno2
  simp only [Bool.and_eq_true, decide_eq_true_eq] at hno2
  obtain ⟨⟨⟨⟨⟨⟨h1, h2⟩, h3⟩, h4⟩, hch⟩, hsa⟩, hsb⟩ := hno2
  rw [hsa] at HA
  rw [hsb] at HB
  have HCH := Lib.hid hch
  clear hch hsa hsb
  have HQA := Lib.hid (fun w => run_eq_src c.a Trk.black w)
  have HQB := Lib.hid (fun w => run_eq_src c.b Trk.black w)
  simp only [Trk.black] at HQA HQB
  have HT := Lib.hid (fun w => line_all c.text w hln)
  obtain ⟨R, hR⟩ : ∃ R, R = bodyB c l := ⟨_, rfl⟩
  rw [← hR]
  unfold bodyB at hR
  obtain ⟨ab, hab⟩ : ∃ r, r = decide (c.a = Trk.black) := ⟨_, rfl⟩
  obtain ⟨nb, hnb⟩ : ∃ r, r = decide (c.b = Trk.black) := ⟨_, rfl⟩
  obtain ⟨np, hnp⟩ : ∃ r, r = decide (c.param = 0) := ⟨_, rfl⟩
  obtain ⟨nt, hnt⟩ : ∃ r, r = decide (c.text = ByteArray.empty) := ⟨_, rfl⟩
  obtain ⟨ns, hns⟩ : ∃ r, r = (decide (c.off = 0) && decide (c.total = 0)) := ⟨_, rfl⟩
  obtain ⟨sh, hsh⟩ : ∃ r, r = (decide (0 ≤ c.off) && decide (c.len ≤ c.total) && decide (c.total ≤ 2147483647) && decide (c.off ≤ c.total - c.len)) := ⟨_, rfl⟩
  have hab2 : decide (c.a = Trk.black) = ab := hab.symm
  have hnb2 : decide (c.b = Trk.black) = nb := hnb.symm
  simp only [Trk.black] at hab2 hnb2
  rw [← hab, ← hnb, ← hnp, ← hnt, ← hns, ← hsh] at hR
  rw [hab2] at HQA
  rw [hnb2] at HQB
  simp only [show (ByteArray.empty : ByteArray) = ⟨#[]⟩ from rfl] at HQA HQB
  have HNB := Lib.hid hnb
  have HAB := Lib.hid hab
  have HR := Lib.hid hR
  have HNP := Lib.hid hnp
  have HNT := Lib.hid hnt
  have HNS := Lib.hid hns
  have HSH := Lib.hid hsh
  clear hR hab hnb hnp hnt hns hsh hab2 hnb2 hln
  have HI := Lib.hid hi
  clear hno ha hb hi
  unfold clipGV
  obtain ⟨C, hC⟩ : ∃ C, C = (clipG c x).toArray := ⟨_, rfl⟩
  rw [← hC]
  have HC := Lib.hid hC
  clear hC
  go_enter Try.func62, Try.ntmps62
  go_upto_region 1 with fail
  obtain ⟨w1, hw1⟩ : ∃ x, x = w.alloc (.cells C 53) := ⟨_, rfl⟩
  rw [← hw1]
  rw [HC.out] at hw1
  have hx : GV w1 w.heap.size c x := by rw [hw1]; exact GV.box w c x 53
  have hb1 : Below w.heap.size w w1 := by rw [hw1]; exact below_box _ _
  obtain ⟨g, hg⟩ : ∃ g, g = w.heap.size := ⟨_, rfl⟩
  replace HI := Lib.hid (HI.out.below hb1)
  rw [← hg] at hx ⊢
  have BW := Lib.hid hb1
  have HX := Lib.hid hx
  clear hw1 hb1 hg hx HC
  obtain ⟨x0, x1, x2, x3, x4, x5, x6, x7, x8, x9, x10, x11, x12, x13, x14, x15, x16, x17, x18, x19, x20, x21⟩ := HX.out.c.at0
  go_wp2_with fail
  refine (vchannels_all x l _ HI.out).mono ?_
  rintro e w' ⟨rfl, rfl⟩
  rw [HCH.out]
  go_wp2_with fail
  refine (HA.out _).mono ?_
  rintro e w2 ⟨rfl, hb⟩
  replace HX := Lib.hid (HX.out.below hb)
  replace HI := Lib.hid (HI.out.below hb)
  replace BW := Lib.hid (BW.out.trans (hb.mono BW.out.size))
  clear hb x0 x1 x2 x3 x4 x5 x6 x7 x8 x9 x10 x11 x12 x13 x14 x15 x16 x17 x18 x19 x20 x21
  obtain ⟨x0, x1, x2, x3, x4, x5, x6, x7, x8, x9, x10, x11, x12, x13, x14, x15, x16, x17, x18, x19, x20, x21⟩ := HX.out.c.at0
  go_wp2_with fail
  refine (HB.out _).mono ?_
  rintro e w3 ⟨rfl, hb⟩
  replace HX := Lib.hid (HX.out.below hb)
  replace HI := Lib.hid (HI.out.below hb)
  replace BW := Lib.hid (BW.out.trans (hb.mono BW.out.size))
  clear hb x0 x1 x2 x3 x4 x5 x6 x7 x8 x9 x10 x11 x12 x13 x14 x15 x16 x17 x18 x19 x20 x21
  obtain ⟨x0, x1, x2, x3, x4, x5, x6, x7, x8, x9, x10, x11, x12, x13, x14, x15, x16, x17, x18, x19, x20, x21⟩ := HX.out.c.at0
  go_upto_region 3 with fail
  have qb := HQB.out w3
  apply wp_region_lit
  iterate 11 go_step
  rw [if_src HNB.out]
  go_upto_region 4 with fail
  clear qb x0 x1 x2 x3 x4 x5 x6 x7 x8 x9 x10 x11 x12 x13 x14 x15 x16 x17 x18 x19 x20 x21 HA HB HQB
  obtain ⟨x0, x1, x2, x3, x4, x5, x6, x7, x8, x9, x10, x11, x12, x13, x14, x15, x16, x17, x18, x19, x20, x21⟩ := HX.out.c.at0
  go_quiet (fail)
  go_upto_region 5 with fail
  rw [ret_np HNP.out, ret_nt HNT.out]
  obtain ⟨w4, hw4⟩ : ∃ y, y = w3.drewN nq := ⟨_, rfl⟩
  rw [← hw4]
  have hb : Below w3.heap.size w3 w4 := by rw [hw4]; exact below_drewN (Below.refl _ _) _
  replace HX := Lib.hid (HX.out.below hb)
  replace HI := Lib.hid (HI.out.below hb)
  replace BW := Lib.hid (BW.out.trans (hb.mono BW.out.size))
  clear hb hw4 x0 x1 x2 x3 x4 x5 x6 x7 x8 x9 x10 x11 x12 x13 x14 x15 x16 x17 x18 x19 x20 x21
  go_cut [6] from 8 to 61 (fun a wx => a = .bool ns ∧ GV wx g c x ∧ IT wx x l ∧ Below w.heap.size w wx)
  case first J K' h1' h2' =>
    obtain ⟨x0, x1, x2, x3, x4, x5, x6, x7, x8, x9, x10, x11, x12, x13, x14, x15, x16, x17, x18, x19, x20, x21⟩ := HX.out.c.at0
    by_cases o0 : c.off = 0
    · by_cases t0 : c.total = 0
      · have e : ns = true := by rw [HNS.out, decide_eq_true o0, decide_eq_true t0]; rfl
        go_wp2_with fail
        refine Met.intro (h1' _ _ ?_)
        (repeat apply Exists.intro)
        exact ⟨⟨by first | (rw [e]; done) | (rw [e]; rfl) | (rw [e]; simp [t0]), HX.out, HI.out, BW.out⟩, rfl⟩
      · have e : ns = false := by rw [HNS.out, decide_eq_false t0]; simp
        go_wp2_with fail
        refine Met.intro (h1' _ _ ?_)
        (repeat apply Exists.intro)
        exact ⟨⟨by first | (rw [e]; done) | (rw [e]; rfl) | (rw [e]; simp [t0]), HX.out, HI.out, BW.out⟩, rfl⟩
    · have e : ns = false := by rw [HNS.out, decide_eq_false o0]; rfl
      go_wp2_with fail
      refine Met.intro (h1' _ _ ?_)
      (repeat apply Exists.intro)
      exact ⟨⟨by first | (rw [e]; done) | (rw [e]; rfl) | (rw [e]; simp [o0]), HX.out, HI.out, BW.out⟩, rfl⟩
  obtain ⟨rfl, hx2, hi2, hb2⟩ := hcut
  replace HX := Lib.hid hx2
  replace HI := Lib.hid hi2
  replace BW := Lib.hid hb2
  clear hx2 hi2 hb2
  go_upto_region 6 with fail
  go_cut [7] from 8 to 86 (fun a wx => a = .bool sh ∧ GV wx g c x ∧ IT wx x l ∧ Below w.heap.size w wx)
  case first J K' h1' h2' =>
    obtain ⟨x0, x1, x2, x3, x4, x5, x6, x7, x8, x9, x10, x11, x12, x13, x14, x15, x16, x17, x18, x19, x20, x21⟩ := HX.out.c.at0
    by_cases s1 : 0 ≤ c.off
    rotate_left
    · have e : sh = false := by rw [HSH.out, decide_eq_false s1]; simp
      go_wp2_with fail
      refine Met.intro (h1' _ _ ?_)
      (repeat apply Exists.intro)
      exact ⟨⟨by first | (rw [e]; done) | (rw [e]; rfl) | (rw [e]; simp; omega), HX.out, HI.out, BW.out⟩, rfl⟩
    by_cases s2 : c.len ≤ c.total
    rotate_left
    · have e : sh = false := by rw [HSH.out, decide_eq_false s2]; simp
      go_wp2_with fail
      refine Met.intro (h1' _ _ ?_)
      (repeat apply Exists.intro)
      exact ⟨⟨by first | (rw [e]; done) | (rw [e]; rfl) | (rw [e]; simp; omega), HX.out, HI.out, BW.out⟩, rfl⟩
    by_cases s3 : c.total ≤ 2147483647
    rotate_left
    · have e : sh = false := by rw [HSH.out, decide_eq_false s3]; simp
      go_wp2_with fail
      refine Met.intro (h1' _ _ ?_)
      (repeat apply Exists.intro)
      exact ⟨⟨by first | (rw [e]; done) | (rw [e]; rfl) | (rw [e]; simp; omega), HX.out, HI.out, BW.out⟩, rfl⟩
    by_cases s4 : c.off ≤ c.total - c.len
    rotate_left
    · have e : sh = false := by rw [HSH.out, decide_eq_false s4]; simp
      go_wp2_with fail
      refine Met.intro (h1' _ _ ?_)
      (repeat apply Exists.intro)
      exact ⟨⟨by first | (rw [e]; done) | (rw [e]; rfl) | (rw [e]; simp; omega), HX.out, HI.out, BW.out⟩, rfl⟩
    have e : sh = true := by rw [HSH.out, decide_eq_true s1, decide_eq_true s2, decide_eq_true s3, decide_eq_true s4]; rfl
    go_wp2_with fail
    refine Met.intro (h1' _ _ ?_)
    (repeat apply Exists.intro)
    exact ⟨⟨by first | (rw [e]; done) | (rw [e]; rfl) | (rw [e]; simp; omega), HX.out, HI.out, BW.out⟩, rfl⟩
  obtain ⟨rfl, hx2, hi2, hb2⟩ := hcut
  replace HX := Lib.hid hx2
  replace HI := Lib.hid hi2
  replace BW := Lib.hid hb2
  clear hx2 hi2 hb2
  by_cases ho : c.kind < 0 ∨ 5 < c.kind
  · have HRR : Hid (R = false) := Lib.hid (by rw [HR.out]; unfold tailB; rw [if_neg (by omega), if_neg (by omega), if_neg (by omega), if_neg (by omega), if_neg (by omega), if_neg (by omega)])
    have q0 : (c.kind == 0) = false := by simp; omega
    have q1 : (c.kind == 1) = false := by simp; omega
    have q2 : (c.kind == 2) = false := by simp; omega
    have q3 : (c.kind == 3) = false := by simp; omega
    have q4 : (c.kind == 4) = false := by simp; omega
    have q5 : (c.kind == 5) = false := by simp; omega
    clear ho
    obtain ⟨x0, x1, x2, x3, x4, x5, x6, x7, x8, x9, x10, x11, x12, x13, x14, x15, x16, x17, x18, x19, x20, x21⟩ := HX.out.c.at0
    go_wp2_with fail
    go_ret
    exact ⟨ret_bool (HRR.out).symm, BW.out⟩
  rcases (show c.kind = 0 ∨ c.kind = 1 ∨ c.kind = 2 ∨ c.kind = 3 ∨ c.kind = 4 ∨ c.kind = 5 by omega) with hk | hk | hk | hk | hk | hk
  · have HK := Lib.hid hk
    clear hk
    obtain ⟨ao, cp, hx, -⟩ := HI.out
    obtain ⟨m, hm⟩ : ∃ m, m = l.length := ⟨_, rfl⟩
    rw [← hm] at hx
    have HM := Lib.hid hm
    clear hm
    subst hx
    cases hab : ab with
    | false =>
      have HRR : Hid (R = false) := Lib.hid (by rw [HR.out]; unfold tailB; rw [hab]; simp [HK.out])
      replace HAB := Lib.hid (HAB.out)
      obtain ⟨x0, x1, x2, x3, x4, x5, x6, x7, x8, x9, x10, x11, x12, x13, x14, x15, x16, x17, x18, x19, x20, x21⟩ := HX.out.c.at0
      rw [HK.out] at x1
      go_upto_region 9 with fail
      have qa := HQA.out
      apply wp_region_lit
      iterate 11 go_step
      try rw [if_src (r := false) (by first | exact HAB.out | (have := HAB.out; rw [hab] at this; exact this))]
      go_wp2_with fail
      go_ret
      exact ⟨ret_bool (HRR.out).symm, BW.out⟩
    | true =>
    cases hnb : nb with
    | false =>
      have HRR : Hid (R = false) := Lib.hid (by rw [HR.out]; unfold tailB; rw [hnb]; simp [HK.out])
      subst hnb
      obtain ⟨x0, x1, x2, x3, x4, x5, x6, x7, x8, x9, x10, x11, x12, x13, x14, x15, x16, x17, x18, x19, x20, x21⟩ := HX.out.c.at0
      rw [HK.out] at x1
      go_upto_region 9 with fail
      have qa := HQA.out
      apply wp_region_lit
      iterate 11 go_step
      try rw [if_src (r := true) (by first | exact HAB.out | (have := HAB.out; rw [hab] at this; exact this))]
      go_wp2_with fail
      go_ret
      exact ⟨ret_bool (HRR.out).symm, BW.out⟩
    | true =>
    subst hnb
    cases hns : ns with
    | false =>
      have HRR : Hid (R = false) := Lib.hid (by rw [HR.out]; unfold tailB; rw [hns]; simp [HK.out])
      subst hns
      obtain ⟨x0, x1, x2, x3, x4, x5, x6, x7, x8, x9, x10, x11, x12, x13, x14, x15, x16, x17, x18, x19, x20, x21⟩ := HX.out.c.at0
      rw [HK.out] at x1
      go_upto_region 9 with fail
      have qa := HQA.out
      apply wp_region_lit
      iterate 11 go_step
      try rw [if_src (r := true) (by first | exact HAB.out | (have := HAB.out; rw [hab] at this; exact this))]
      go_wp2_with fail
      go_ret
      exact ⟨ret_bool (HRR.out).symm, BW.out⟩
    | true =>
    subst hns
    cases hnp : np with
    | false =>
      have HRR : Hid (R = false) := Lib.hid (by rw [HR.out]; unfold tailB; rw [hnp]; simp [HK.out])
      subst hnp
      obtain ⟨x0, x1, x2, x3, x4, x5, x6, x7, x8, x9, x10, x11, x12, x13, x14, x15, x16, x17, x18, x19, x20, x21⟩ := HX.out.c.at0
      rw [HK.out] at x1
      go_upto_region 9 with fail
      have qa := HQA.out
      apply wp_region_lit
      iterate 11 go_step
      try rw [if_src (r := true) (by first | exact HAB.out | (have := HAB.out; rw [hab] at this; exact this))]
      go_wp2_with fail
      go_ret
      exact ⟨ret_bool (HRR.out).symm, BW.out⟩
    | true =>
    subst hnp
    cases hnt : nt with
    | false =>
      have HRR : Hid (R = false) := Lib.hid (by rw [HR.out]; unfold tailB; rw [hnt]; simp [HK.out])
      subst hnt
      obtain ⟨x0, x1, x2, x3, x4, x5, x6, x7, x8, x9, x10, x11, x12, x13, x14, x15, x16, x17, x18, x19, x20, x21⟩ := HX.out.c.at0
      rw [HK.out] at x1
      go_upto_region 9 with fail
      have qa := HQA.out
      apply wp_region_lit
      iterate 11 go_step
      try rw [if_src (r := true) (by first | exact HAB.out | (have := HAB.out; rw [hab] at this; exact this))]
      go_wp2_with fail
      go_ret
      exact ⟨ret_bool (HRR.out).symm, BW.out⟩
    | true =>
    subst hnt
    by_cases vg : c.gain = 0
    rotate_left
    · have HRR : Hid (R = false) := Lib.hid (by rw [HR.out]; unfold tailB; simp [HK.out, vg])
      have g1 : (c.gain == 0) = false := by simp [vg]
      obtain ⟨x0, x1, x2, x3, x4, x5, x6, x7, x8, x9, x10, x11, x12, x13, x14, x15, x16, x17, x18, x19, x20, x21⟩ := HX.out.c.at0
      rw [HK.out] at x1
      go_upto_region 9 with fail
      have qa := HQA.out
      apply wp_region_lit
      iterate 11 go_step
      try rw [if_src (r := true) (by first | exact HAB.out | (have := HAB.out; rw [hab] at this; exact this))]
      go_wp2_with fail
      go_ret
      exact ⟨ret_bool (HRR.out).symm, BW.out⟩
    by_cases vn : m = 0
    rotate_left
    · have HRR : Hid (R = false) := Lib.hid (by rw [HR.out]; unfold tailB; simp [HK.out, ← HM.out, vn])
      have g2 : ((m : Int) == 0) = false := by simp; omega
      obtain ⟨x0, x1, x2, x3, x4, x5, x6, x7, x8, x9, x10, x11, x12, x13, x14, x15, x16, x17, x18, x19, x20, x21⟩ := HX.out.c.at0
      rw [HK.out] at x1
      go_upto_region 9 with fail
      have qa := HQA.out
      apply wp_region_lit
      iterate 11 go_step
      try rw [if_src (r := true) (by first | exact HAB.out | (have := HAB.out; rw [hab] at this; exact this))]
      go_wp2_with fail
      go_ret
      exact ⟨ret_bool (HRR.out).symm, BW.out⟩
    have HRR : Hid (R = true) := Lib.hid (by rw [HR.out]; unfold tailB; rw [hab]; simp [HK.out, vg, ← HM.out, vn])
    subst vn
    obtain ⟨x0, x1, x2, x3, x4, x5, x6, x7, x8, x9, x10, x11, x12, x13, x14, x15, x16, x17, x18, x19, x20, x21⟩ := HX.out.c.at0
    rw [HK.out] at x1
    go_upto_region 9 with fail
    have qa := HQA.out
    apply wp_region_lit
    iterate 11 go_step
    try rw [if_src (r := true) (by first | exact HAB.out | (have := HAB.out; rw [hab] at this; exact this))]
    go_wp2_with fail
    go_ret
    exact ⟨ret_bool (HRR.out).symm, BW.out⟩
  · have HK := Lib.hid hk
    clear hk
    cases hnb : nb with
    | false =>
      have HRR : Hid (R = false) := Lib.hid (by rw [HR.out]; unfold tailB; rw [hnb]; simp [HK.out])
      subst hnb
      obtain ⟨x0, x1, x2, x3, x4, x5, x6, x7, x8, x9, x10, x11, x12, x13, x14, x15, x16, x17, x18, x19, x20, x21⟩ := HX.out.c.at0
      rw [HK.out] at x1
      go_wp2_with fail
      go_ret
      exact ⟨ret_bool (HRR.out).symm, BW.out⟩
    | true =>
    subst hnb
    cases hns : ns with
    | false =>
      have HRR : Hid (R = false) := Lib.hid (by rw [HR.out]; unfold tailB; rw [hns]; simp [HK.out])
      subst hns
      obtain ⟨x0, x1, x2, x3, x4, x5, x6, x7, x8, x9, x10, x11, x12, x13, x14, x15, x16, x17, x18, x19, x20, x21⟩ := HX.out.c.at0
      rw [HK.out] at x1
      go_wp2_with fail
      go_ret
      exact ⟨ret_bool (HRR.out).symm, BW.out⟩
    | true =>
    subst hns
    cases hnp : np with
    | false =>
      have HRR : Hid (R = false) := Lib.hid (by rw [HR.out]; unfold tailB; rw [hnp]; simp [HK.out])
      subst hnp
      obtain ⟨x0, x1, x2, x3, x4, x5, x6, x7, x8, x9, x10, x11, x12, x13, x14, x15, x16, x17, x18, x19, x20, x21⟩ := HX.out.c.at0
      rw [HK.out] at x1
      go_wp2_with fail
      go_ret
      exact ⟨ret_bool (HRR.out).symm, BW.out⟩
    | true =>
    subst hnp
    cases hnt : nt with
    | false =>
      have HRR : Hid (R = false) := Lib.hid (by rw [HR.out]; unfold tailB; rw [hnt]; simp [HK.out])
      subst hnt
      obtain ⟨x0, x1, x2, x3, x4, x5, x6, x7, x8, x9, x10, x11, x12, x13, x14, x15, x16, x17, x18, x19, x20, x21⟩ := HX.out.c.at0
      rw [HK.out] at x1
      go_wp2_with fail
      go_ret
      exact ⟨ret_bool (HRR.out).symm, BW.out⟩
    | true =>
    subst hnt
    have HRR : Hid (R = true) := Lib.hid (by rw [HR.out]; unfold tailB; simp [HK.out])
    obtain ⟨x0, x1, x2, x3, x4, x5, x6, x7, x8, x9, x10, x11, x12, x13, x14, x15, x16, x17, x18, x19, x20, x21⟩ := HX.out.c.at0
    rw [HK.out] at x1
    go_wp2_with fail
    go_ret
    exact ⟨ret_bool (HRR.out).symm, BW.out⟩
  · have HK := Lib.hid hk
    clear hk
    cases hsh : sh with
    | false =>
      have HRR : Hid (R = false) := Lib.hid (by rw [HR.out]; unfold tailB; rw [hsh]; simp [HK.out])
      subst hsh
      obtain ⟨x0, x1, x2, x3, x4, x5, x6, x7, x8, x9, x10, x11, x12, x13, x14, x15, x16, x17, x18, x19, x20, x21⟩ := HX.out.c.at0
      rw [HK.out] at x1
      go_wp2_with fail
      go_ret
      exact ⟨ret_bool (HRR.out).symm, BW.out⟩
    | true =>
    subst hsh
    cases hnp : np with
    | false =>
      have HRR : Hid (R = false) := Lib.hid (by rw [HR.out]; unfold tailB; rw [hnp]; simp [HK.out])
      subst hnp
      obtain ⟨x0, x1, x2, x3, x4, x5, x6, x7, x8, x9, x10, x11, x12, x13, x14, x15, x16, x17, x18, x19, x20, x21⟩ := HX.out.c.at0
      rw [HK.out] at x1
      go_wp2_with fail
      go_ret
      exact ⟨ret_bool (HRR.out).symm, BW.out⟩
    | true =>
    subst hnp
    cases hnt : nt with
    | false =>
      have HRR : Hid (R = false) := Lib.hid (by rw [HR.out]; unfold tailB; rw [hnt]; simp [HK.out])
      subst hnt
      obtain ⟨x0, x1, x2, x3, x4, x5, x6, x7, x8, x9, x10, x11, x12, x13, x14, x15, x16, x17, x18, x19, x20, x21⟩ := HX.out.c.at0
      rw [HK.out] at x1
      go_wp2_with fail
      go_ret
      exact ⟨ret_bool (HRR.out).symm, BW.out⟩
    | true =>
    subst hnt
    have HRR : Hid (R = true) := Lib.hid (by rw [HR.out]; unfold tailB; simp [HK.out])
    obtain ⟨x0, x1, x2, x3, x4, x5, x6, x7, x8, x9, x10, x11, x12, x13, x14, x15, x16, x17, x18, x19, x20, x21⟩ := HX.out.c.at0
    rw [HK.out] at x1
    go_wp2_with fail
    go_ret
    exact ⟨ret_bool (HRR.out).symm, BW.out⟩
  · have HK := Lib.hid hk
    clear hk
    cases hsh : sh with
    | false =>
      have HRR : Hid (R = false) := Lib.hid (by rw [HR.out]; unfold tailB; rw [hsh]; simp [HK.out])
      subst hsh
      obtain ⟨x0, x1, x2, x3, x4, x5, x6, x7, x8, x9, x10, x11, x12, x13, x14, x15, x16, x17, x18, x19, x20, x21⟩ := HX.out.c.at0
      rw [HK.out] at x1
      go_wp2_with fail
      go_ret
      exact ⟨ret_bool (HRR.out).symm, BW.out⟩
    | true =>
    subst hsh
    by_cases vp0 : 0 ≤ c.param
    rotate_left
    · have HRR : Hid (R = false) := Lib.hid (by rw [HR.out]; unfold tailB; simp [HK.out, vp0])
      obtain ⟨x0, x1, x2, x3, x4, x5, x6, x7, x8, x9, x10, x11, x12, x13, x14, x15, x16, x17, x18, x19, x20, x21⟩ := HX.out.c.at0
      rw [HK.out] at x1
      go_wp2_with fail
      go_ret
      exact ⟨ret_bool (HRR.out).symm, BW.out⟩
    by_cases vp3 : c.param ≤ 3
    rotate_left
    · have HRR : Hid (R = false) := Lib.hid (by rw [HR.out]; unfold tailB; simp [HK.out, vp3])
      obtain ⟨x0, x1, x2, x3, x4, x5, x6, x7, x8, x9, x10, x11, x12, x13, x14, x15, x16, x17, x18, x19, x20, x21⟩ := HX.out.c.at0
      rw [HK.out] at x1
      go_wp2_with fail
      go_ret
      exact ⟨ret_bool (HRR.out).symm, BW.out⟩
    cases hnt : nt with
    | false =>
      have HRR : Hid (R = false) := Lib.hid (by rw [HR.out]; unfold tailB; rw [hnt]; simp [HK.out])
      subst hnt
      obtain ⟨x0, x1, x2, x3, x4, x5, x6, x7, x8, x9, x10, x11, x12, x13, x14, x15, x16, x17, x18, x19, x20, x21⟩ := HX.out.c.at0
      rw [HK.out] at x1
      go_wp2_with fail
      go_ret
      exact ⟨ret_bool (HRR.out).symm, BW.out⟩
    | true =>
    subst hnt
    have HRR : Hid (R = true) := Lib.hid (by rw [HR.out]; unfold tailB; simp [HK.out, vp0, vp3])
    obtain ⟨x0, x1, x2, x3, x4, x5, x6, x7, x8, x9, x10, x11, x12, x13, x14, x15, x16, x17, x18, x19, x20, x21⟩ := HX.out.c.at0
    rw [HK.out] at x1
    go_wp2_with fail
    go_ret
    exact ⟨ret_bool (HRR.out).symm, BW.out⟩
  · have HK := Lib.hid hk
    clear hk
    cases hns : ns with
    | false =>
      have HRR : Hid (R = false) := Lib.hid (by rw [HR.out]; unfold tailB; rw [hns]; simp [HK.out])
      subst hns
      obtain ⟨x0, x1, x2, x3, x4, x5, x6, x7, x8, x9, x10, x11, x12, x13, x14, x15, x16, x17, x18, x19, x20, x21⟩ := HX.out.c.at0
      rw [HK.out] at x1
      go_wp2_with fail
      go_ret
      exact ⟨ret_bool (HRR.out).symm, BW.out⟩
    | true =>
    subst hns
    by_cases vp0 : 0 ≤ c.param
    rotate_left
    · have HRR : Hid (R = false) := Lib.hid (by rw [HR.out]; unfold tailB; simp [HK.out, vp0])
      obtain ⟨x0, x1, x2, x3, x4, x5, x6, x7, x8, x9, x10, x11, x12, x13, x14, x15, x16, x17, x18, x19, x20, x21⟩ := HX.out.c.at0
      rw [HK.out] at x1
      go_wp2_with fail
      go_ret
      exact ⟨ret_bool (HRR.out).symm, BW.out⟩
    by_cases vp255 : c.param ≤ 255
    rotate_left
    · have HRR : Hid (R = false) := Lib.hid (by rw [HR.out]; unfold tailB; simp [HK.out, vp255])
      obtain ⟨x0, x1, x2, x3, x4, x5, x6, x7, x8, x9, x10, x11, x12, x13, x14, x15, x16, x17, x18, x19, x20, x21⟩ := HX.out.c.at0
      rw [HK.out] at x1
      go_wp2_with fail
      go_ret
      exact ⟨ret_bool (HRR.out).symm, BW.out⟩
    cases hnt : nt with
    | false =>
      have HRR : Hid (R = false) := Lib.hid (by rw [HR.out]; unfold tailB; rw [hnt]; simp [HK.out])
      subst hnt
      obtain ⟨x0, x1, x2, x3, x4, x5, x6, x7, x8, x9, x10, x11, x12, x13, x14, x15, x16, x17, x18, x19, x20, x21⟩ := HX.out.c.at0
      rw [HK.out] at x1
      go_wp2_with fail
      go_ret
      exact ⟨ret_bool (HRR.out).symm, BW.out⟩
    | true =>
    subst hnt
    have HRR : Hid (R = true) := Lib.hid (by rw [HR.out]; unfold tailB; simp [HK.out, vp0, vp255])
    obtain ⟨x0, x1, x2, x3, x4, x5, x6, x7, x8, x9, x10, x11, x12, x13, x14, x15, x16, x17, x18, x19, x20, x21⟩ := HX.out.c.at0
    rw [HK.out] at x1
    go_wp2_with fail
    go_ret
    exact ⟨ret_bool (HRR.out).symm, BW.out⟩
  · have HK := Lib.hid hk
    clear hk
    cases hnb : nb with
    | false =>
      have HRR : Hid (R = false) := Lib.hid (by rw [HR.out]; unfold tailB; rw [hnb]; simp [HK.out])
      subst hnb
      obtain ⟨x0, x1, x2, x3, x4, x5, x6, x7, x8, x9, x10, x11, x12, x13, x14, x15, x16, x17, x18, x19, x20, x21⟩ := HX.out.c.at0
      rw [HK.out] at x1
      go_wp2_with fail
      go_ret
      exact ⟨ret_bool (HRR.out).symm, BW.out⟩
    | true =>
    subst hnb
    cases hns : ns with
    | false =>
      have HRR : Hid (R = false) := Lib.hid (by rw [HR.out]; unfold tailB; rw [hns]; simp [HK.out])
      subst hns
      obtain ⟨x0, x1, x2, x3, x4, x5, x6, x7, x8, x9, x10, x11, x12, x13, x14, x15, x16, x17, x18, x19, x20, x21⟩ := HX.out.c.at0
      rw [HK.out] at x1
      go_wp2_with fail
      go_ret
      exact ⟨ret_bool (HRR.out).symm, BW.out⟩
    | true =>
    subst hns
    cases hnp : np with
    | false =>
      have HRR : Hid (R = false) := Lib.hid (by rw [HR.out]; unfold tailB; rw [hnp]; simp [HK.out])
      subst hnp
      obtain ⟨x0, x1, x2, x3, x4, x5, x6, x7, x8, x9, x10, x11, x12, x13, x14, x15, x16, x17, x18, x19, x20, x21⟩ := HX.out.c.at0
      rw [HK.out] at x1
      go_wp2_with fail
      go_ret
      exact ⟨ret_bool (HRR.out).symm, BW.out⟩
    | true =>
    subst hnp
    obtain ⟨lt, hlt⟩ : ∃ r, r = lineB c.text := ⟨_, rfl⟩
    rw [← hlt] at HT
    have HLT := Lib.hid hlt
    clear hlt
    have HRR : Hid (R = lt) := Lib.hid (by rw [HR.out]; unfold tailB; simp [HK.out, HLT.out])
    obtain ⟨x0, x1, x2, x3, x4, x5, x6, x7, x8, x9, x10, x11, x12, x13, x14, x15, x16, x17, x18, x19, x20, x21⟩ := HX.out.c.at0
    rw [HK.out] at x1
    go_wp2_with fail
    refine (HT.out _).mono ?_
    rintro e w7 ⟨rfl, rfl⟩
    go_wp2_with fail
    go_ret
    exact ⟨ret_bool (HRR.out).symm, BW.out⟩
end Go.Proofs.Ytnmkcpgcdjhdjaa
