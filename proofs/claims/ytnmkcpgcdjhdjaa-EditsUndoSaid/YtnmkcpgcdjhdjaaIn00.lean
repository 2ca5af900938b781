/- Rows.EditsInsertsSaid is proved here, for every input; the walk is law_inserts. -/
import Derived.Test.YtnmkcpgcdjhdjaaRows
import Derived.WalkKit
import Derived.ProofKit
import Derived.OpenShut
import Derived.Test.YtnmkcpgcdjhdjaaEx12
import Derived.Test.YtnmkcpgcdjhdjaaRo00
set_option linter.unusedVariables false
set_option linter.unusedSimpArgs false

/- Aid for the laws of edits that name frames: lengths, frames, Apply at a made track and clips of the tape. -/
namespace Go.Trk
set_option linter.unusedVariables false
theorem cutRaw_none (l : List Clip) (f : Int) {n : Int} (hn : n ≤ 0) : cutRaw l f n = [] := by
  cases l with
  | nil => unfold cutRaw; rw [if_neg (by omega)]
  | cons c l => unfold cutRaw; rw [if_pos hn]
theorem cutRaw_len2 : ∀ {l : List Clip} {f n : Int}, GoodL l → 0 ≤ f → f + n ≤ total l → (cutRaw l f n).length ≤ l.length
  | [], f, n, _, hf, h => by
    have : total ([] : List Clip) = 0 := rfl
    rw [cutRaw_none _ _ (by omega)]
    simp
  | c :: l, f, n, g, hf, h => by
    have c1 := g.head.l
    have t1 := total_nonneg g.tail
    rw [total_cons] at h
    unfold cutRaw
    split
    · simp
    split
    · have := cutRaw_len2 (l := l) (f := f - c.len) (n := n) g.tail (by omega) (by omega)
      simp only [List.length_cons]
      omega
    · have := cutRaw_len2 (l := l) (f := 0) (n := n - min (c.len - f) n) g.tail (by omega) (by omega)
      simp only [List.length_cons]
      omega
theorem cutRaw_both : ∀ {l : List Clip} {a b n : Int}, GoodL l → 0 ≤ a → a ≤ b → a ≤ total l → b + n ≤ total l → (cutRaw l 0 a).length + (cutRaw l b n).length ≤ l.length + 1
  | [], a, b, n, _, ha, hb, ht, h => by
    have : total ([] : List Clip) = 0 := rfl
    rw [cutRaw_none _ _ (show a ≤ 0 by omega)]
    have := cutRaw_length [] b n
    simpa using this
  | c :: l, a, b, n, g, ha, hb, ht, h => by
    have c1 := g.head.l
    by_cases h0 : a ≤ 0
    · rw [cutRaw_none _ _ h0]
      have := cutRaw_length (c :: l) b n
      simpa using this
    · by_cases h1 : a ≤ c.len
      · have e : cutRaw (c :: l) 0 a = [withLen (shift c 0) (min (c.len - 0) a)] := by
          show (if a ≤ 0 then [] else if c.len ≤ 0 then cutRaw l (0 - c.len) a else withLen (shift c 0) (min (c.len - 0) a) :: cutRaw l 0 (a - min (c.len - 0) a)) = _
          rw [if_neg h0, if_neg (by omega), cutRaw_none _ _ (by omega)]
        have := cutRaw_len2 (l := c :: l) (f := b) (n := n) g (by omega) h
        rw [e]
        simp only [List.length_cons, List.length_nil] at this ⊢
        omega
      · have e : cutRaw (c :: l) 0 a = withLen (shift c 0) (min (c.len - 0) a) :: cutRaw l 0 (a - min (c.len - 0) a) := by
          show (if a ≤ 0 then [] else if c.len ≤ 0 then cutRaw l (0 - c.len) a else withLen (shift c 0) (min (c.len - 0) a) :: cutRaw l 0 (a - min (c.len - 0) a)) = _
          rw [if_neg h0, if_neg (by omega)]
        rw [total_cons] at ht h
        have e2 : min (c.len - 0) a = c.len := by omega
        by_cases hn : n ≤ 0
        · rw [cutRaw_none _ _ hn]
          have := cutRaw_len2 (l := c :: l) (f := 0) (n := a) g (Int.le_refl 0) (by rw [total_cons]; omega)
          simp only [List.length_nil]
          omega
        have e3 : cutRaw (c :: l) b n = cutRaw l (b - c.len) n := by
          show (if n ≤ 0 then [] else if c.len ≤ b then cutRaw l (b - c.len) n else withLen (shift c b) (min (c.len - b) n) :: cutRaw l 0 (n - min (c.len - b) n)) = _
          rw [if_neg hn, if_pos (by omega)]
        have ih := cutRaw_both (l := l) (a := a - c.len) (b := b - c.len) (n := n) g.tail (by omega) (by omega) (by omega) (by omega)
        rw [e, e2, e3]
        simp only [List.length_cons]
        omega
theorem exL_length {n ins : List Clip} {p rem : Int} (gn : GoodL n) (hp : 0 ≤ p) (hr : 0 ≤ rem) : (exL n p rem ins).length ≤ n.length + 2 + ins.length := by
  have tn := total_nonneg gn
  have lg := gapL_len (p - total n)
  have hb := (pk_of (cutRaw_spec (l := n) (f := 0) (n := min p (total n) - 0) gn (Int.le_refl 0) (by omega)).1).n
  have hb' : (cut n 0 (min p (total n))).length ≤ (cutRaw n 0 (min p (total n))).length := by
    have e : min p (total n) - 0 = min p (total n) := by omega
    unfold cut
    rw [e] at hb ⊢
    exact hb
  have ha : (cut n 0 (min p (total n))).length + (aft n (p + rem)).length ≤ n.length + 1 := by
    unfold aft
    split
    · rename_i h
      have h2 := (pk_of (cutRaw_spec (l := n) (f := p + rem) (n := total n - (p + rem)) gn (by omega) (by omega)).1).n
      have h3 := cutRaw_both (l := n) (a := min p (total n)) (b := p + rem) (n := total n - (p + rem)) gn (by omega) (by omega) (by omega) (by omega)
      have h4 : (cut n (p + rem) (total n)).length ≤ (cutRaw n (p + rem) (total n - (p + rem))).length := h2
      omega
    · have h3 := cutRaw_length n 0 (min p (total n))
      simp only [List.length_nil]
      omega
  unfold exL
  simp only [List.length_append]
  omega
end Go.Trk
namespace Go.Proofs.Ytnmkcpgcdjhdjaa
open Go.RowKit
set_option linter.unusedVariables false
set_option linter.unusedSimpArgs false
/-- What an edit of frames makes of a track t. -/
structure ExF (t u put : List Trk.Clip) (p rem : Int) : Prop where
  v : VT 1000000 u
  n : Trk.Norm u
  l : u.length ≤ t.length + 2 + put.length
  tt : Trk.total u ≤ max p (Trk.total t) + Trk.total put
  f : ∀ i, 0 ≤ i → Trk.fr u i = if i < p then Trk.fr t i else if i < p + Trk.total put then Trk.fr put (i - p) else Trk.fr t (i - Trk.total put + rem)
theorem exch_of {t : List Trk.Clip} (hV : VT 1000000 t) {e : Trk.Ed} (hE : ExV 1000000 e) (hl : t.length + 2 + e.put.length ≤ 64) (hee : (if e.k = 1 then max e.p (Trk.total t) else e.p) + e.T ≤ 2147483647) :
    ExF t (Trk.nf (e.exl t)) e.put e.p e.rem := by
  have hx := hE.x
  have o := hx.of hV.v.good
  have q := exl_vl hV hE hee
  have ln : (e.exl t).length ≤ t.length + 2 + e.put.length := Trk.exL_length hV.v.good hx.p hx.rem_nonneg
  have hln := Nat.le_trans (Trk.nf_length q.1.good) ln
  have hr := hx.rem_nonneg
  refine ⟨⟨Trk.nf_vl q.1 q.2.1, by omega, Int.le_trans (Trk.nf_total q.1.good) q.2.1⟩, Trk.nf_norm q.1.good, hln, ?_, fun i i0 => ?_⟩
  · refine Int.le_trans (Trk.nf_total q.1.good) ?_
    rw [o.t]
    omega
  · rw [Trk.nf_fr q.1.good i0]
    exact o.f i i0
/-- What Apply answers at an edit of frames. -/
def ExRes (w : World) (u : List Trk.Clip) (e : Ending) (w' : World) : Prop :=
  ∃ vu x1 x2 x3 ra rl rc, e = .returned (.tuple #[vu, .agg (edC x1 x2 x3 0 0 0 0 (.slice ra rl rc)), .int .i64 0]) ∧ OT w' w.heap.size vu u ∧ Below w.heap.size w w'
theorem apply_f (v u : Value) (t : List Trk.Clip) (e : Trk.Ed) (w : World) (h : Tk w v t) (hu : Tk w u e.ins) (hV : VT 1000000 t) (hN : Trk.Norm t) (hE : ExV 1000000 e) (hl : t.length + 2 + e.put.length ≤ 63)
    (hee : (if e.k = 1 then max e.p (Trk.total t) else e.p) + e.T ≤ 2147483647) : Calls Try.prog 20 #[v, EdV e u] w (ExRes w (Trk.nf (e.exl t))) := by
  have hx := exch_of hV hE (by omega) hee
  have h1 := apply_x (L := 1000000) v u t e w h hu hV hE (by decide) (by rw [hN.nf]; omega) (by rw [hN.nf]; exact hee) (by rw [hN.nf]; have := hx.l; omega)
  rw [hN.nf] at h1
  refine h1.mono ?_
  rintro ev w' ⟨v', vr, rfl, hou, hor, hb⟩
  obtain ⟨ra, rc, rfl, -⟩ := hor.tk
  exact ⟨_, _, _, _, _, _, _, rfl, hou, hb⟩
theorem OT.tape {w w' : World} {B B' p k : Nat} {v : Value} {l : List Trk.Clip} (h : OT w B v l) (hn : l ≠ []) (ht : TP w B' p k) (hT : Turn p w w') : OT w' B v l := by
  refine h.blocks (fun g kk cap e => hT.o g (h.blk e).2 (fun hg => ?_))
  subst hg
  obtain ⟨g', cap', e', _, _, hc⟩ := h.first hn
  rw [e'] at e
  simp only [Value.slice.injEq, Option.some.injEq, Addr.mk.injEq, and_true] at e
  obtain ⟨rfl, -, -⟩ := e
  obtain ⟨_, _, ao, n, c, hp, _⟩ := ht
  cases l with
  | nil => exact hn rfl
  | cons x l =>
    have := (hc 0 x rfl).k0
    simp only [Nat.zero_mul, Nat.zero_add, Nat.add_zero] at this
    rw [hp] at this
    cases this
/-- Clips of the tape's kind, at most m of them. -/
structure ClipsOK (l : List Trk.Clip) (m : Nat) : Prop where
  v : VT 1000000 l
  n : l.length ≤ m
  t1 : 1 ≤ Trk.total l
  t2 : Trk.total l ≤ 9 * (m : Int)
theorem clipsOK_snoc {l : List Trk.Clip} {z : Trk.Clip} {m : Nat} (h : ShortL l) (hl : l.length ≤ m) (hz : TapeC z) (hm : m ≤ 40) : ClipsOK (l ++ [z]) (m + 1) := by
  have hs := h.snoc hz.short
  have ht := short_total hs
  have hv : Trk.VL 1000000 (l ++ [z]) := fun x hx => (hs x hx).1
  have hlen : (l ++ [z]).length ≤ m + 1 := by simp; omega
  have h1 := Trk.total_nonneg (l := l) (fun x hx => (h x hx).1.good)
  have h2 := hz.l0
  refine ⟨⟨hv, by omega, by omega⟩, hlen, ?_, by omega⟩
  rw [Trk.total_append, Trk.total_one]
  omega
end Go.Proofs.Ytnmkcpgcdjhdjaa

/- The law of the insertions. -/
namespace Go.Proofs.Ytnmkcpgcdjhdjaa
open Go.RowKit
set_option linter.unusedVariables false
set_option linter.unusedSimpArgs false
/-- An insertion of clips. -/
theorem insert_v {cl : List Trk.Clip} {m : Nat} (h : ClipsOK cl m) (hm : m ≤ 40) (k n : Int) (hk : k = 1 ∨ k = 3) (n0 : 0 ≤ n) (n1 : n ≤ 1000) : ExV 1000000 ⟨k, n, 0, 0, 0, 0, 0, cl⟩ ∧ (⟨k, n, 0, 0, 0, 0, 0, cl⟩ : Trk.Ed).T = Trk.total cl ∧ (⟨k, n, 0, 0, 0, 0, 0, cl⟩ : Trk.Ed).put = cl := by
  have t1 := h.t1
  have t2 := h.t2
  have eT : (⟨k, n, 0, 0, 0, 0, 0, cl⟩ : Trk.Ed).T = Trk.total cl := by unfold Trk.Ed.T; rw [if_pos hk]
  refine ⟨⟨⟨?_, n0, h.v.v.good, fun e => ?_, by rw [eT]; exact t1⟩, h.v, fun _ => rfl, ?_, by rw [eT]; omega, rfl, rfl, rfl, rfl⟩, eT, ?_⟩
  · rcases hk with e | e
    · exact .inl e
    · exact .inr (.inr (.inl e))
  · have e' : k = 2 ∨ k = 4 := e
    omega
  · show n ≤ _; omega
  · unfold Trk.Ed.put
    rw [if_neg (by show ¬ k = 4; omega)]
set_option maxRecDepth 100000 in
set_option maxHeartbeats 16000000 in
theorem law_inserts (v : Value) (a : Int) (w : World) (h : Ints w v) (ha : 0 ≤ a ∧ a ≤ 255) :
    Calls Try.prog 6 #[v, .int .u8 a] w fun e w' => e = .returned (.bool true) ∧ Below w.heap.size w w' := by
  obtain ⟨ha0, ha1⟩ := ha
  have HMA := Lib.hid (made_any v w h)
  clear h
  go_enter Try.func6, Try.ntmps6
  go_wp2_with fail
  refine HMA.out.mono ?_
  rintro e w1 ⟨vt, t, p, k', rfl, ho, hmd, htp, hk', hb⟩
  have HO := Lib.hid ho
  have HM := Lib.hid hmd
  have HB := Lib.hid hb
  have HT := Lib.hid htp
  have HK := Lib.hid hk'
  have HPB := Lib.hid htp.1
  have HP1 := Lib.hid htp.2.1
  clear ho hmd htp hk' hb HMA
  have HOB := Lib.hid (fun g kk cap (e : vt = .slice (some ⟨g, 0, none⟩) kk cap) => (HO.out.blk e).2)
  have hPW : p < w1.heap.size := HT.out.2.1
  have HPW := Lib.hid hPW
  clear hPW
  go_wp2_with fail
  refine (track_any w.heap.size p k' 2 w1 HT.out (by have := HK.out; omega) (by omega)).mono ?_
  rintro e w2 ⟨⟨vl, l, rfl, ho, hs, hl⟩, ⟨k2, hk2, hT_⟩, ht⟩
  have HL := Lib.hid ho
  have HS := Lib.hid hs
  have HLL := Lib.hid hl
  have HS1 := Lib.hid (show w1.heap.size ≤ w2.heap.size from ht.s)
  replace HO := Lib.hid (HO.out.tape HM.out.ne HT.out ht)
  replace HB := Lib.hid (ht.b _ _ HPB.out HB.out)
  replace HT := Lib.hid hT_
  have HK2 := Lib.hid hk2
  clear ho hs hl hT_ ht hk2
  go_wp2_with fail
  refine (clip_any w.heap.size p k2 _ HT.out (by have := HK.out; have := HK2.out; omega)).mono ?_
  rintro e w3 ⟨⟨z, rfl, hz⟩, ⟨k3, hk3, hT_⟩, ht⟩
  replace HO := Lib.hid (HO.out.tape HM.out.ne HT.out ht)
  replace HL := Lib.hid (HL.out.turn ht HPW.out)
  have HSZ := Lib.hid (Nat.le_trans HS1.out ht.s)
  replace HB := Lib.hid (ht.b _ _ HPB.out HB.out)
  replace HT := Lib.hid hT_
  have HK3 := Lib.hid hk3
  have HZ := Lib.hid hz
  clear hz hT_ ht hk3
  unfold clipV
  obtain ⟨C, hC⟩ : ∃ C, C = (clipC z).toArray := ⟨_, rfl⟩
  rw [← hC]
  have HCC := Lib.hid hC
  clear hC
  dsimp only
  iterate 1 go_step
  refine Great.wpList_buildSliceTo rfl 35 53 1 #[(0, .tmp 25)] rfl w3.heap.size rfl _ rfl Try.underlying35 C ?_ ?_
  · simp only [List.map_toArray, List.map_cons, List.map_nil, List.toList_toArray]
    rw [HCC.out]
    exact built_clip z
  have hbx : CA (w3.alloc (.cells C 53)) w3.heap.size 0 z := by rw [HCC.out]; exact CA.box w3 z 53
  have hb : Below w3.heap.size w3 (w3.alloc (.cells C 53)) := below_box _ _
  have hsz : w1.heap.size ≤ (w3.alloc (.cells C 53)).heap.size := Nat.le_trans HSZ.out hb.size
  replace HL := Lib.hid (HL.out.below hb)
  have HBX := Lib.hid hb
  clear hb
  simp only [Act.put, List.setIfInBounds_toArray, List.set_cons_succ, List.set_cons_zero]
  refine wpList_appT 35 Try.underlying35 _ rfl (.tmp 23) (.tmp 26) rfl rfl w1.heap.size vl l rfl HL.out hsz w3.heap.size 1 z rfl hbx (by have := HLL.out; omega) ?_
  intro vn w5 q1 q2 q3 q4
  simp only [Act.put, List.setIfInBounds_toArray, List.set_cons_succ, List.set_cons_zero]
  have hbl : Below w1.heap.size w3 w5 := (HBX.out.mono HSZ.out).trans q2
  have HC := Lib.hid q1.tk
  replace HO := Lib.hid (HO.out.blocks (fun g kk cap e => hbl.block g (by have := HOB.out g kk cap e; omega)))
  replace HT := Lib.hid (HT.out.low (n := w1.heap.size) (by have := HPB.out; have := HPW.out; omega) HPW.out hbl)
  replace HB := Lib.hid (HB.out.trans (hbl.mono (by have := HPB.out; have := HPW.out; omega)))
  have HCO := Lib.hid (clipsOK_snoc HS.out HLL.out HZ.out (by omega))
  obtain ⟨cl, hcl⟩ : ∃ cl, cl = l ++ [z] := ⟨_, rfl⟩
  rw [← hcl] at HC HCO
  clear q1 q2 q3 q4 hbl hbx hsz hcl HBX HCC HZ HS HLL HL HS1 HSZ
  obtain ⟨ca, cc, rfl, hcc⟩ := HC.out
  clear hcc
  obtain ⟨J, hJ⟩ : ∃ J, J = cl.length := ⟨_, rfl⟩
  rw [← hJ] at HC ⊢
  have HJ := Lib.hid hJ
  clear hJ
  go_upto_region 3 with fail
  obtain ⟨n, hn⟩ : ∃ n, n = a % 50 := ⟨_, rfl⟩
  rw [← hn]
  have n0 : 0 ≤ n := by omega
  have n1 : n ≤ 49 := by omega
  clear hn ha0 ha1
  obtain ⟨hE, eT, eP⟩ := insert_v HCO.out (by omega) 1 n (.inl rfl) n0 (by omega)
  have t1 := HCO.out.t1
  have t2 := HCO.out.t2
  have T0 := Trk.total_nonneg HM.out.v.good
  have T1 := HM.out.tt
  have hee : (if (1 : Int) = 1 then max n (Trk.total t) else n) + (⟨1, n, 0, 0, 0, 0, 0, cl⟩ : Trk.Ed).T ≤ 2147483647 := by rw [eT, if_pos rfl]; omega
  have hlp : t.length + 2 + (⟨1, n, 0, 0, 0, 0, 0, cl⟩ : Trk.Ed).put.length ≤ 63 := by
    rw [eP]
    have := HM.out.l
    have := HCO.out.n
    omega
  have hx := exch_of HM.out.vt hE (by omega) hee
  have hap := fun w (h : Tk w vt t) (hu : Tk w (.slice ca J cc) cl) => apply_f vt (.slice ca J cc) t ⟨1, n, 0, 0, 0, 0, 0, cl⟩ w h hu HM.out.vt HM.out.n hE hlp hee
  obtain ⟨U, hU⟩ : ∃ U, U = Trk.nf ((⟨1, n, 0, 0, 0, 0, 0, cl⟩ : Trk.Ed).exl t) := ⟨_, rfl⟩
  rw [← hU] at hx hap
  rw [eP] at hx
  have HX := Lib.hid hx
  have HAP := Lib.hid hap
  have hln := Lib.hid (fun w (h : Tk w vt t) => length_any (L := 1000000) vt t w h HM.out.vt (by decide))
  have hlc := Lib.hid (fun w (h : Tk w (.slice ca J cc) cl) => length_any (L := 1000000) (.slice ca J cc) cl w h HCO.out.v (by decide))
  obtain ⟨T, hT⟩ : ∃ T, T = Trk.total t := ⟨_, rfl⟩
  obtain ⟨M, hM⟩ : ∃ M, M = Trk.total cl := ⟨_, rfl⟩
  rw [← hT] at hln T0 T1
  rw [← hM] at hlc t1 t2
  have HMC := Lib.hid hM
  clear hx hap hU eT eP hE hee hlp hT hM
  go_wp2_with fail
  refine (HAP.out _ HO.out.tk HC.out).mono ?_
  rintro e' w6 ⟨vu, x1, x2, x3, ra, rl, rc, rfl, hou, hb⟩
  have HU := Lib.hid hou
  replace HO := Lib.hid (HO.out.below hb)
  replace HC := Lib.hid (HC.out.below hb)
  replace HB := Lib.hid (HB.out.trans (hb.mono HB.out.size))
  clear hb
  clear hou HAP
  try dsimp only
  iterate 19 go_step
  have hv : ED (w6.alloc (.cells (edC 0 0 0 0 0 0 0 (.slice none 0 0)) 26)) w6.heap.size 0 0 0 0 0 0 0 (.slice none 0 0) := ED.box w6 0 0 0 0 0 0 0 (.slice none 0 0) rfl 26
  have hb0 : Below w6.heap.size w6 (w6.alloc (.cells (edC 0 0 0 0 0 0 0 (.slice none 0 0)) 26)) := below_box _ _
  refine wpl_storeE x1 x2 x3 0 0 0 0 ra rl rc hv rfl rfl rfl rfl ?_
  intro w6' q1 q2 q3 q4 q5
  have hb : Below w6.heap.size w6 w6' := q4 _ _ (Nat.le_refl _) hb0
  obtain ⟨gE, hgE⟩ : ∃ g, g = w6.heap.size := ⟨_, rfl⟩
  rw [← hgE]
  clear q1 q2 q3 q4 q5 hb0 hv hgE
  replace HU := Lib.hid (HU.out.below hb)
  replace HO := Lib.hid (HO.out.below hb)
  replace HC := Lib.hid (HC.out.below hb)
  replace HB := Lib.hid (HB.out.trans (hb.mono HB.out.size))
  clear hb
  simp only [Act.put, List.setIfInBounds_toArray, List.set_cons_succ, List.set_cons_zero]
  go_wp2_with fail
  refine (hlc.out _ HC.out).mono ?_
  rintro e' w7 ⟨rfl, hb⟩
  replace HU := Lib.hid (HU.out.below hb)
  replace HO := Lib.hid (HO.out.below hb)
  replace HC := Lib.hid (HC.out.below hb)
  replace HB := Lib.hid (HB.out.trans (hb.mono HB.out.size))
  clear hb
  go_wp2_with fail
  refine (hln.out _ HO.out.tk).mono ?_
  rintro e' w8 ⟨rfl, hb⟩
  replace HU := Lib.hid (HU.out.below hb)
  replace HO := Lib.hid (HO.out.below hb)
  replace HC := Lib.hid (HC.out.below hb)
  replace HB := Lib.hid (HB.out.trans (hb.mono HB.out.size))
  clear hb
  go_wp2_with fail
  refine (lequal_any (L := 1000000) vu vt U t 0 0 n _ HU.out.tk HO.out.tk HX.out.v HM.out.vt (by decide) (by omega) (by omega) (by omega) (by omega) (by omega) (by omega) (fun i i0 i1 => by rw [HX.out.f (0 + i) (by omega), if_pos (by omega)])).mono ?_
  rintro e' w9 ⟨rfl, hb⟩
  replace HU := Lib.hid (HU.out.below hb)
  replace HO := Lib.hid (HO.out.below hb)
  replace HC := Lib.hid (HC.out.below hb)
  replace HB := Lib.hid (HB.out.trans (hb.mono HB.out.size))
  clear hb
  go_wp2_with fail
  refine (lequal_any (L := 1000000) vu (.slice ca J cc) U cl n 0 M _ HU.out.tk HC.out HX.out.v HCO.out.v (by decide) (by omega) (by omega) (by omega) (by omega) (by omega) (by omega) (fun i i0 i1 => by rw [HX.out.f (n + i) (by omega), if_neg (by omega), if_pos (by rw [← HMC.out]; omega)]; congr 1; omega)).mono ?_
  rintro e' w10 ⟨rfl, hb⟩
  replace HU := Lib.hid (HU.out.below hb)
  replace HO := Lib.hid (HO.out.below hb)
  replace HB := Lib.hid (HB.out.trans (hb.mono HB.out.size))
  clear hb
  go_wp2_with fail
  refine (lequal_any (L := 1000000) vu vt U t (n + M) n (max 0 (T - n) + 2) _ HU.out.tk HO.out.tk HX.out.v HM.out.vt (by decide) (by omega) (by omega) (by omega) (by omega) (by omega) (by omega) (fun i i0 i1 => by rw [HX.out.f (n + M + i) (by omega), if_neg (by omega), if_neg (by rw [← HMC.out]; omega), ← HMC.out]; show Trk.fr t (n + M + i - M + 0) = _; congr 1; omega)).mono ?_
  rintro e' w11 ⟨rfl, hb⟩
  replace HU := Lib.hid (HU.out.below hb)
  replace HO := Lib.hid (HO.out.below hb)
  replace HB := Lib.hid (HB.out.trans (hb.mono HB.out.size))
  clear hb
  go_wp2_with fail
  refine (awake_any _).mono ?_
  rintro e w8 ⟨rfl, hb⟩
  replace HB := Lib.hid (HB.out.trans (hb.mono HB.out.size))
  clear hb
  go_wp2_with fail
  go_ret
  exact ⟨rfl, HB.out⟩
end Go.Proofs.Ytnmkcpgcdjhdjaa


namespace Go.Proofs.Ytnmkcpgcdjhdjaa.editsInserts
open Go.ChangeShapes Go.WideShapes Go.ChangeAt Go.RowKit
set_option linter.unusedVariables false

theorem own : ownKnob Try.prog.godebug = none := by kernel_rfl

set_option maxRecDepth 100000 in
theorem lifted (os : Os) (started : os.Started) (H : Type) (enc : TypeId × Value → H) :
    ReturnsInHanded {} Try.checked os 6 .any (Rows.editsInsertsSpec.pre6 enc Try.prog Try.f6 Rows.editsInsertsRow.domain false) (Rows.editsInsertsSpec.post enc Try.prog Try.f6 false true false false) := by
  refine returnsInHanded_of_change (C := Try.checked) own started (by kernel_rfl) Try.func6
    (ChangeSpec.witness6 (enc := enc) (C := Try.checked) false ⟨#[], #[.slice none 0 0, .int .u8 0], []⟩ 8 (by kernel_rfl) (by kernel_rfl) (by kernel_rfl) (by kernel_rfl)) ?_
  intro W base args ds gs before hval0 hW hcnd _
  have hval : ∀ (j : Nat) t v, Try.f6.params[j]? = some t → args[j]? = some v → Value.okWide Try.prog W .any base t v := hval0
  have hW' := hW
  obtain ⟨p, q, hA0, hV, rfl, hfz, hnd⟩ := hW
  have hA : DataW.TrodAll enc Try.prog W 0 (fun _ => true) true Try.f6.params.toList args.toList ds p := hA0
  have hAk := hA
  rw [Try.params6] at hA hval
  obtain ⟨v0, vs0, d0, ds0, p0, q0, hargs, rfl, rfl, h0, r0⟩ := trodAll_cons hA
  obtain ⟨v1, vs1, d1, ds1, p1, q1, rfl, rfl, rfl, h1, r1⟩ := trodAll_cons r0
  obtain ⟨rfl, rfl, rfl⟩ := trodAll_nil r1
  obtain rfl : args = #[v0, v1] := by cases args; simp_all
  obtain ⟨rfl, rfl⟩ := trodVars_none hV
  have hr0 := open_tape (hval 0 27 v0 rfl rfl) h0
  obtain ⟨a1, rfl, rfl, rfl, w1⟩ := open_int Try.underlying5 (hval 1 5 v1 rfl rfl) h1
  have x1 : 0 ≤ a1 ∧ a1 ≤ 255 := by simpa [Lit.wf, IntKind.min, IntKind.max, IntKind.signed, IntKind.bits] using w1
  simp only [List.append_nil] at hW' hAk
  refine (law_inserts v0 a1 W hr0 x1).mono fun e W' ⟨he, hg⟩ => ?_
  subst he
  exact ⟨_, rfl, post_of_below (pv := []) hW' (fun _ _ _ => (trodAll_cons_mk (shut_bool Try.underlying4 _) trodAll_mk0)) (fun sp hsp => trodAll_stays laid_out hg (by kernel_rfl) hAk (fun x hx => hW'.lt x (by simpa using hx)) (fun x hx => hsp x (by simpa using hx))) (fun _ _ => rfl) (by simp)
    hg (ok_one (by kernel_rfl) rfl (okWide_bool_mk Try.underlying4 _))⟩

theorem over : Rows.editsInsertsRow.holds Try.pinned (OpenSpec.ofChange Rows.editsInsertsSpec) :=
  OpenClaim.holds_of_wide 6 Try.f6 rfl rfl rfl rfl rfl rfl rfl ⟨rfl, rfl, rfl, rfl, rfl⟩ rfl rfl rfl rfl rfl (by kernel_rfl) Try.func6 (by kernel_rfl)
    (of_decide_eq_true (by kernel_rfl)) (by unfold Func.isWrapper; first | (rw [if_pos (by decide +kernel)]; kernel_rfl) | (rw [if_neg (by decide +kernel)]; exact ⟨rfl, rfl⟩))
    (fun os started H enc _ => lifted os started H enc)

/-- The statement. -/
theorem proved : Rows.EditsInsertsSaid :=
  over
end Go.Proofs.Ytnmkcpgcdjhdjaa.editsInserts
