/- Texts of this claim joined: NX NY NZ NM NN NO NP NQ. -/
import Derived.Maps.OwnSet
import Derived.Handy
import Derived.OwnWalk
import Derived.Test.YtfoohocgdcgbcaaGreatHb17
set_option linter.unusedVariables false
set_option linter.unusedSimpArgs false
namespace Go.Proofs.YtfoohocgdcgbcaaGreat
open Go.RowKit
def boolR : Value → Option (DataW Unit × List MemPlace)
 | .bool x => some (.lit (.bool x), [])
 | _ => none
theorem boolR_inv {v : Value} {x : Bool} {p : List MemPlace} (h : boolR v = some (.lit (.bool x), p)) : v = .bool x := by
 unfold boolR at h
 split at h
 ·rename_i y
  simp only [Option.some.injEq, Prod.mk.injEq, DataW.lit.injEq, Lit.bool.injEq] at h
  rw [h.1]
 ·cases h
theorem bytes_data {s t : ByteArray} (h : t.data = s.data) : t = s := by cases t; cases s; dsimp only at h; rw [h]
def memB (s : ByteArray) (l : List ByteArray) : Bool := l.any fun x => decide (x = s)
theorem memB_iff {s : ByteArray} {l : List ByteArray} : memB s l = true ↔ s ∈ l := by
 unfold memB
 rw [List.any_eq_true]
 constructor
 ·rintro ⟨x, hx, e⟩
  rw [← of_decide_eq_true e]
  exact hx
 ·exact fun h => ⟨s, h, decide_eq_true rfl⟩
theorem memB_no {s : ByteArray} {l : List ByteArray} (h : s ∉ l) : memB s l = false := by
 cases e : memB s l with
 | false => rfl
 | true => exact absurd (memB_iff.1 e) h
theorem memB_snoc {s t : ByteArray} {l : List ByteArray} : memB s (l ++ [t]) = (memB s l || decide (t = s)) := by
 unfold memB
 rw [List.any_append]
 simp
def NamesM (w : World) (g n : Nat) (l : List ByteArray) : Prop := ∃ D : DataW Unit, w.ownsMap Tryz.prog 9 boolR g n D ∧ ∀ s : ByteArray, s.size ≤ maxLen → D.atKey (.string s.data.toList) (.lit (.bool false)) = .lit (.bool (memB s l))
theorem NamesM.empty {w : World} {g : Nat} (h : w.heap[g]? = some (.map #[] 0)) : NamesM w g 0 [] := by
 obtain ⟨es, clock, hb, F, hs, hD⟩ := World.ownsMap_made w Tryz.prog 9 boolR
 rw [(MapKept.heap_alloc w _).1] at hb
 simp only [Option.some.injEq, Obj.map.injEq] at hb
 obtain ⟨rfl, rfl⟩ := hb
 exact ⟨_, ⟨#[], 0, h, F, hs, hD⟩, fun s _ => rfl⟩
theorem NamesM.lt {w : World} {g n : Nat} {l : List ByteArray} (h : NamesM w g n l) : g < w.heap.size := by obtain ⟨D, h1, -⟩ := h; exact h1.lt
theorem NamesM.same {w w' : World} {g n : Nat} {l : List ByteArray} (h : NamesM w g n l) (hs : w'.heap[g]? = w.heap[g]?) : NamesM w' g n l := by
 obtain ⟨D, ⟨es, clock, hb, F, hz, hD⟩, h2⟩ := h
 exact ⟨D, ⟨es, clock, hs.trans hb, F, hz, hD⟩, h2⟩
theorem NamesM.lookup {w : World} {g n : Nat} {l : List ByteArray} (h : NamesM w g n l) {s : ByteArray} (hs : s.size ≤ maxLen) : (Instr.lookup 121 (.map (some g)) (.string s) false).run Tryz.prog w = .ok (.bool (memB s l)) w := by
 obtain ⟨D, h1, h2⟩ := h
 obtain ⟨v, ps, hrun, hv⟩ := h1.lookup (key := .string s) law9 Tryz.underlying121 (zero4 w) (zd := .lit (.bool false)) (zp := []) rfl (Go.WideMaps.keyOf_string_mk Tryz.underlying9 hs)
 rw [h2 s hs] at hv
 rw [boolR_inv hv] at hrun
 exact hrun
theorem NamesM.update {w : World} {g n : Nat} {l : List ByteArray} (h : NamesM w g n l) (hn : n < maxLen) {s : ByteArray} (hs : s.size ≤ maxLen) : ∃ w', (Instr.mapUpdate 121 (.map (some g)) (.string s) (.bool true)).run Tryz.prog w = .ok () w' ∧ NamesM w' g (n + 1) (l ++ [s]) ∧ w.grownBy w' (some g) := by
 obtain ⟨D, h1, h2⟩ := h
 obtain ⟨w', hrun, ho, hg⟩ := h1.update (key := .string s) (val := .bool true) (d := .lit (.bool true)) (ps := []) law9 Tryz.underlying121 hn (Go.WideMaps.keyOf_string_mk Tryz.underlying9 hs) rfl
 refine ⟨w', hrun, ⟨_, ho, fun t ht => ?_⟩, hg⟩
 by_cases e : t = s
 ·subst e
  rw [Go.Maps.atKey_put_same h1.isMap (by exact trivial), memB_snoc, decide_eq_true rfl, Bool.or_true]
 ·have hne : (Lit.string t.data.toList) ≠ .string s.data.toList := by
   intro e2
   injection e2 with e3
   refine e ?_
   exact bytes_data (Array.toList_inj.1 e3)
  rw [Go.Maps.atKey_put_other hne, h2 t ht, memB_snoc, decide_eq_false (Ne.symm e), Bool.or_false]
def ValidS (B : Dc → Bool) (now : Int) (ds : List Dc) : Prop :=
 0 ≤ now ∧ now ≤ 1099511627776 ∧ ds.length ≤ 16 ∧ ∀ (k : Nat) (d : Dc), ds[k]? = some d → d.name ∉ (ds.take k).map Dc.name ∧ B d = true
open Classical in
noncomputable def validSB (B : Dc → Bool) (now : Int) (ds : List Dc) : Bool := decide (ValidS B now ds)
open Classical in
theorem validSB_yes {B : Dc → Bool} {now : Int} {ds : List Dc} (h : ValidS B now ds) : validSB B now ds = true := decide_eq_true h
open Classical in
theorem validSB_no {B : Dc → Bool} {now : Int} {ds : List Dc} (h : ¬ ValidS B now ds) : validSB B now ds = false := decide_eq_false h
theorem names_next {ds : List Dc} {k : Nat} {d : Dc} (h : ds[k]? = some d) : (ds.take (k + 1)).map Dc.name = (ds.take k).map Dc.name ++ [d.name] := by
 rw [List.take_add_one, h]
 simp
set_option maxRecDepth 100000 in
set_option maxHeartbeats 8000000 in
theorem valid_docs (B : Dc → Bool) (ds : List Dc) (v : Value) (now : Int) (w : World) (h : Dcs w v ds) (hz : ∀ d ∈ ds, d.name.size ≤ maxLen)
  (hB : ∀ (d : Dc) (rv : Value) (w1 : World), d ∈ ds → Rvs w1 rv d.revs → Calls Tryz.prog 75 #[.agg (docL d rv).toArray, .int .i64 now] w1 fun e w' => e = .returned (.bool (B d)) ∧ Below w1.heap.size w1 w') :
  Calls Tryz.prog 38 #[.agg #[.int .i64 now, v]] w fun e w' => e = .returned (.bool (validSB B now ds)) ∧ Below w.heap.size w w' := by
 have hmm := @run_makeMap Tryz.prog
 have HD := Lib.hid h
 have HZ := Lib.hid hz
 have HBB := Lib.hid hB
 obtain ⟨ao, cap, hv, hc1, hc2, -⟩ := h
 obtain ⟨N, hN⟩ : ∃ N, N = ds.length := ⟨_, rfl⟩
 rw [← hN] at hv hc1
 have HN := Lib.hid hN
 have HNB := Lib.hid (show N ≤ 9223372036854775807 ∧ N ≤ maxLen by unfold maxLen at hc2 ⊢; omega)
 subst hv
 clear hN hc1 hc2 hz hB
 go_enter Tryz.func38, Tryz.ntmps38
 by_cases h0 : now < 0
 ·rw [validSB_no (fun hh => by have := hh.1; omega)]
  go_wp2_with fail
  go_ret
  exact ⟨rfl, by go_grown⟩
 by_cases h1 : 1099511627776 < now
 ·rw [validSB_no (fun hh => by have := hh.2.1; omega)]
  go_wp2_with fail
  go_ret
  exact ⟨rfl, by go_grown⟩
 by_cases h2 : 16 < N
 ·rw [validSB_no (fun hh => by have := hh.2.2.1; have := HN.out; omega)]
  have h2' : (16 : Int) < (N : Int) := by omega
  go_wp2_with fail
  go_ret
  exact ⟨rfl, by go_grown⟩
 have H012 := Lib.hid (And.intro h0 (And.intro h1 h2))
 have h2' : ¬ (16 : Int) < (N : Int) := by omega
 clear h2
 go_upto_region 5 with fail
 obtain ⟨w1, hw1⟩ : ∃ y, y = (w.alloc (.cells #[.int .i64 now, .slice ao N cap] 55)).alloc (.map #[] 0) := ⟨_, rfl⟩
 obtain ⟨g, hg⟩ : ∃ y, y = w.heap.size := ⟨_, rfl⟩
 have hgm : w1.heap[g + 1]? = some (.map #[] 0) := by
  have hsz : (w.alloc (.cells #[.int .i64 now, .slice ao N cap] 55)).heap.size = w.heap.size + 1 := by simp [go_sem]
  have e := (MapKept.heap_alloc (w.alloc (.cells #[.int .i64 now, .slice ao N cap] 55)) (.map #[] 0)).1
  rw [hsz] at e
  rw [hw1, hg]
  exact e
 have hb : Below w.heap.size w w1 := by rw [hw1]; exact ((Below.refl _ _).alloc (Nat.le_refl _) _).alloc (by simp [go_sem]) _
 have c0 : w1.cell? ⟨g, 0, none⟩ = some (.int .i64 now) := by rw [hw1, hg]; simp [go_sem]
 rw [← hw1, ← hg]
 have HS := Lib.hid (NamesM.empty hgm)
 have HC0 := Lib.hid c0
 have HB := Lib.hid hb
 have HG := Lib.hid (show w.heap.size = g by omega)
 clear hw1 hg hb hgm c0 h0 h1 h2'
 go_loopw [24] (fun i wr => ∃ k : Nat, k ≤ N ∧ i = .int .i64 (k : Int) ∧ NamesM wr (g + 1) k ((ds.take k).map Dc.name) ∧ wr.cell? ⟨g, 0, none⟩ = some (.int .i64 now) ∧ Below w.heap.size w wr ∧ ∀ (j : Nat) (d : Dc), j < k → ds[j]? = some d → d.name ∉ (ds.take j).map Dc.name ∧ B d = true) (fun i _ => N - (intOf i).toNat)
 case atStart => exact ⟨0, Nat.zero_le _, rfl, HS.out, HC0.out, HB.out, fun j d hj => absurd hj (Nat.not_lt_zero j)⟩
 case round =>
  clear HS HC0 HB
  obtain ⟨k, hk, rfl, hs, hc0, hb, hpr⟩ := hrel
  have HS := Lib.hid hs
  have HC0 := Lib.hid hc0
  have HB := Lib.hid hb
  have HPR := Lib.hid hpr
  have HK := Lib.hid hk
  clear hs hc0 hb hpr hk
  by_cases hlt : k < N
  ·obtain ⟨d, hd⟩ : ∃ d, ds[k]? = some d := ⟨_, List.getElem?_eq_getElem (by have := HN.out; omega)⟩
   have hlt' : (k : Int) < (N : Int) := by omega
   have hq0 : ¬ ((k : Int) < 0) := by omega
   obtain ⟨ao2, cap2, e, -, -, hT⟩ := HD.out.below HB.out
   have e1 := HN.out
   simp only [Value.slice.injEq] at e
   obtain ⟨rfl, -, rfl⟩ := e
   obtain ⟨b, o, rv, rfl, hA, hR⟩ := hT k d hd
   have HA := Lib.hid hA
   have HR := Lib.hid hR
   have HDK := Lib.hid hd
   have HLT := Lib.hid hlt
   have hw9 : (k : Int) + 1 ≤ 9223372036854775807 := by have := HNB.out.1; omega
   have HW9 := Lib.hid hw9
   obtain ⟨ra, rc, hrv, -⟩ := id hR
   obtain ⟨rn, hrn⟩ : ∃ n, n = d.revs.length := ⟨_, rfl⟩
   rw [← hrn] at hrv
   subst hrv
   clear hT hA hR hd e1 hw9 hrn hlt
   go_upto_region 6 with fail
   apply wp_region_lit
   iterate 3 go_step
   refine wpl_loadD HA.out rfl rfl rfl ?_
   unfold docL
   simp only [Act.put, List.setIfInBounds_toArray, List.set_cons_succ, List.set_cons_zero]
   go_upto_region 7 with fail
   obtain ⟨w2, hw2⟩ : ∃ y, y = wr.alloc (.cells #[.string d.name, .string d.owner, .int .i64 d.till, .slice ra rn rc] 65) := ⟨_, rfl⟩
   obtain ⟨q, hq⟩ : ∃ y, y = wr.heap.size := ⟨_, rfl⟩
   have hb : Below wr.heap.size wr w2 := by rw [hw2]; exact below_box _ _
   have e0 : w2.cell? ⟨q, 0, none⟩ = some (.string d.name) := by rw [hw2, hq]; simp [go_sem]
   have e1 : w2.cell? ⟨q, 1, none⟩ = some (.string d.owner) := by rw [hw2, hq]; simp [go_sem]
   have e2 : w2.cell? ⟨q, 2, none⟩ = some (.int .i64 d.till) := by rw [hw2, hq]; simp [go_sem]
   have e3 : w2.cell? ⟨q, 3, none⟩ = some (.slice ra rn rc) := by rw [hw2, hq]; simp [go_sem]
   have HGS := Lib.hid (show g + 1 < w2.heap.size ∧ q ≠ g + 1 from ⟨Nat.lt_of_lt_of_le HS.out.lt hb.size, by have := HS.out.lt; omega⟩)
   have hlk := (HS.out.same (hb.block (g + 1) HS.out.lt)).lookup (HZ.out d (List.mem_of_getElem? HDK.out))
   have d0 : w2.cell? ⟨g, 0, none⟩ = some (.int .i64 now) := (hb.cell (p := ⟨g, 0, none⟩) (block_lt_of_cell HC0.out)).trans HC0.out
   rw [← hw2, ← hq]
   replace HS := Lib.hid (HS.out.same (hb.block (g + 1) HS.out.lt))
   replace HC0 := Lib.hid d0
   replace HR := Lib.hid (HR.out.below hb)
   replace HB := Lib.hid (HB.out.trans (hb.mono HB.out.size))
   have HE := Lib.hid e0
   have HQ := Lib.hid (block_lt_of_cell e0)
   clear hw2 hq hb HA
   by_cases hin : d.name ∈ (ds.take k).map Dc.name
   ·rw [memB_iff.2 hin] at hlk
    have HR2 := Lib.hid (validSB_no (B := B) (now := now) (ds := ds) (fun hh => (hh.2.2.2 k d HDK.out).1 hin))
    clear hin
    go_wp2_with fail
    go_ret
    exact ⟨ret_bool HR2.out.symm, HB.out⟩
   ·rw [memB_no hin] at hlk
    have HIN := Lib.hid hin
    have VD := Lib.hid (HBB.out d (.slice ra rn rc) w2 (List.mem_of_getElem? HDK.out) HR.out)
    unfold docL at VD
    clear hin
    go_wp2_with fail
    refine VD.out.mono ?_
    rintro e w3 ⟨rfl, hb⟩
    cases hbd : B d with
    | false =>
     have HR2 := Lib.hid (validSB_no (B := B) (now := now) (ds := ds) (fun hh => by have := (hh.2.2.2 k d HDK.out).2; rw [hbd] at this; cases this))
     replace HB := Lib.hid (HB.out.trans (hb.mono HB.out.size))
     clear hb hbd hlk e0 e1 e2 e3 d0 VD
     go_wp2_with fail
     go_ret
     exact ⟨ret_bool HR2.out.symm, HB.out⟩
    | true =>
     have HBD := Lib.hid hbd
     have f0 : w3.cell? ⟨q, 0, none⟩ = some (.string d.name) := (hb.cell (p := ⟨q, 0, none⟩) HQ.out).trans HE.out
     replace HS := Lib.hid (HS.out.same (hb.block (g + 1) HS.out.lt))
     replace HC0 := Lib.hid ((hb.cell (p := ⟨g, 0, none⟩) (block_lt_of_cell HC0.out)).trans HC0.out)
     replace HB := Lib.hid (HB.out.trans (hb.mono HB.out.size))
     obtain ⟨w4, hup, hs4, hgr⟩ := HS.out.update (by have := HLT.out; have := HNB.out.2; omega) (HZ.out d (List.mem_of_getElem? HDK.out))
     have HS4 := Lib.hid hs4
     have HGR := Lib.hid hgr
     have hw9 := HW9.out
     clear hb hbd hlk e0 e1 e2 e3 d0 VD hs4 hgr
     go_wp2_with fail
     go_roundw
     case rel =>
      refine ⟨k + 1, by have := HLT.out; omega, by simp, by rw [names_next HDK.out]; exact HS4.out, ?_, HB.out.grown HGR.out HB.out.size (fun j hj => by cases hj; have := HG.out; omega), fun j x hj hx => ?_⟩
      ·rw [World.cell?_of_block (HGR.out.block g (block_lt_of_cell HC0.out) (by simp))]
       exact HC0.out
      ·by_cases hjk : j = k
       ·subst hjk
        have := HDK.out
        rw [hx] at this
        obtain rfl := Option.some.inj this
        exact ⟨HIN.out, HBD.out⟩
       ·exact HPR.out j x (by omega) hx
     case measure =>
      have := HLT.out
      simp [intOf]
      omega
  ·have hkn : k = N := by have := HK.out; omega
   subst hkn
   have HR2 := Lib.hid (validSB_yes (B := B) (now := now) (ds := ds) ⟨by have := H012.out.1; omega, by have := H012.out.2.1; omega, by have := H012.out.2.2; have := HN.out; omega, fun j d hd => HPR.out j d (by have := (List.getElem?_eq_some_iff.1 hd).1; have := HN.out; omega) hd⟩)
   go_wp2_with fail
   go_ret
   exact ⟨ret_bool HR2.out.symm, HB.out⟩
inductive MakeR (now : Int) (u nm : ByteArray) (t : List Trk.Clip) (ds : List Dc) : Int → Int → List Dc → List Rpt → Prop where
 | exists_ (i : Nat) (h : FindR ds nm (i : Int)) : MakeR now u nm t ds 8 0 [] []
 | full (h : FindR ds nm (-1)) (hn : ds.length = 16) : MakeR now u nm t ds 18 0 [] []
 | done (h : FindR ds nm (-1)) (hn : ds.length < 16) : MakeR now u nm t ds 0 now (ds ++ [madeD u nm t]) [⟨1, u, nm, 0⟩]
set_option maxRecDepth 100000 in
set_option maxHeartbeats 16000000 in
theorem step_create {L : Int} (ds : List Dc) (v : Value) (now : Int) (u nm : ByteArray) (ta : Option Addr) (tn tc : Nat) (t : List Trk.Clip) (w : World) (h : Dcs w v ds) (h0 : ds ≠ []) (h1 : ds.length ≤ 16) (ht : Tk w (.slice ta tn tc) t) (Vt : VT L t) (hL : L ≤ 140737488355328) :
  Calls Tryz.prog 63 #[.agg #[.int .i64 now, v], .iface 144 (.agg #[.int .i64 1, .string u, .string nm, .slice ta tn tc])] w (StepPost w (MakeR now u nm t ds)) := by
 have HTK := Lib.hid ht
 have NO := Lib.hid (fun w (h : Tk w (.slice ta tn tc) t) => normal_any _ t w h Vt hL)
 have OD := Lib.hid (fun w2 (hb : Below w.heap.size w w2) => owndocs_any v ds w w2 h hb h0 (by omega))
 obtain ⟨va, vc, hv, -⟩ := h
 obtain ⟨N, hN⟩ : ∃ N, N = ds.length := ⟨_, rfl⟩
 rw [← hN] at hv OD
 have HN := Lib.hid hN
 have HN1 := Lib.hid (show N ≤ 16 by omega)
 subst hv
 clear ht Vt h0 h1 hN
 have m154 := ta_miss154 144 (by decide)
 have m144 := ta_hit144
 have maddr := ta_addr144
 go_enter Tryz.func63, Tryz.ntmps63
 go_upto_region 1 with fail
 obtain ⟨w1, hw1⟩ : ∃ y, y = (w.alloc (.cells #[.int .i64 now, .slice va N vc] 55)).alloc (.cells #[.int .i64 0, .slice none 0 0] 55) := ⟨_, rfl⟩
 obtain ⟨b1, hb1⟩ : ∃ y, y = w.heap.size := ⟨_, rfl⟩
 obtain ⟨b2, hb2⟩ : ∃ y, y = w.heap.size + 1 := ⟨_, rfl⟩
 have hb : Below w.heap.size w w1 := by rw [hw1]; exact ((Below.refl _ _).alloc (Nat.le_refl _) _).alloc (by simp [go_sem]) _
 have HCB := Lib.hid (show CB w1 b1 b2 now (.slice va N vc) by
  rw [hw1, hb1, hb2]
  refine ⟨by simp [go_sem], by simp [go_sem], by simp [go_sem], by simp [go_sem], by simp [go_sem], by simp [go_sem], by simp [go_sem], #[.int .i64 0, .slice none 0 0], rfl, ?_⟩
  have := (MapKept.heap_alloc (w.alloc (.cells #[.int .i64 now, .slice va N vc] 55)) (.cells #[.int .i64 0, .slice none 0 0] 55)).1
  simpa using this)
 have HNE := Lib.hid (show b1 ≠ b2 ∧ b1 < w1.heap.size ∧ b2 < w1.heap.size ∧ w.heap.size ≤ b1 ∧ w.heap.size ≤ b2 from ⟨by omega, block_lt_of_cell HCB.out.c0, block_lt_of_cell HCB.out.e0, by omega, by omega⟩)
 rw [← hw1, ← hb2, ← hb1]
 have HB := Lib.hid hb
 clear hw1 hb1 hb2 hb
 obtain ⟨k0, k1, k2, k3, k4, k5, k6, -⟩ := HCB.out
 go_wp2_with fail
 refine (OD.out w1 HB.out).mono ?_
 rintro e w2 ⟨g, cap, rfl, hg, hdx, hb⟩
 replace HCB := Lib.hid (HCB.out.below hb)
 clear k0 k1 k2 k3 k4 k5 k6
 obtain ⟨k0, k1, k2, k3, k4, k5, k6, -⟩ := HCB.out
 have HBG := Lib.hid (show b1 < g ∧ b2 < g from ⟨by have := HNE.out; omega, by have := HNE.out; omega⟩)
 have HG := Lib.hid (show b1 ≠ g ∧ b2 ≠ g ∧ w.heap.size ≤ g from ⟨by have := HNE.out; omega, by have := HNE.out; omega, by have := HNE.out; omega⟩)
 replace HB := Lib.hid (HB.out.trans (hb.mono HB.out.size))
 have HDX := Lib.hid hdx
 clear hb hdx hg OD
 go_upto_region 2 with fail
 clear k0 k1 k2 k3 k4 k5 k6
 replace HDX := Lib.hid (HDX.out.far HNE.out.2.2.2.1 (Ne.symm HG.out.1) 1 (.slice (some ⟨g, 0, none⟩) N cap))
 replace HCB := Lib.hid (HCB.out.put HNE.out.1 (.slice (some ⟨g, 0, none⟩) N cap))
 replace HB := Lib.hid (below_setCells b1 HNE.out.2.2.2.1 [.slice (some ⟨g, 0, none⟩) N cap] 1 _ HB.out)
 simp only [World.setCells] at HB
 obtain ⟨w3, hw3⟩ : ∃ y, y = w2.setCell ⟨b1, 1, none⟩ (.slice (some ⟨g, 0, none⟩) N cap) := ⟨_, rfl⟩
 rw [← hw3] at HDX HCB HB ⊢
 clear hw3
 go_upto_region 9 with fail
 have hba : Below w3.heap.size w3 (w3.alloc (.cells #[.int .i64 0] 154)) := below_box _ _
 obtain ⟨w4, hw4⟩ : ∃ y, y = w3.alloc (.cells #[.int .i64 0] 154) := ⟨_, rfl⟩
 rw [← hw4] at hba ⊢
 clear hw4
 rw [take4]
 refine (address_any 1 u nm w4).mono ?_
 rintro e w5 ⟨rfl, hb⟩
 replace hb := hba.trans (hb.mono hba.size)
 replace HDX := Lib.hid (HDX.out.below hb)
 replace HCB := Lib.hid (HCB.out.below hb)
 replace HB := Lib.hid (HB.out.trans (hb.mono HB.out.size))
 clear hb hba
 go_upto_region 9 with fail
 obtain ⟨w6, hw6⟩ : ∃ y, y = w5.alloc (.cells #[.int .i64 1, .string u, .string nm] 142) := ⟨_, rfl⟩
 obtain ⟨b11, hb11⟩ : ∃ y, y = w5.heap.size := ⟨_, rfl⟩
 have hb : Below w5.heap.size w5 w6 := by rw [hw6]; exact below_box _ _
 have HT := Lib.hid (show TG w6 b11 1 u nm by rw [hw6, hb11]; exact ⟨by simp [go_sem], by simp [go_sem], by simp [go_sem]⟩)
 have HNT2 := Lib.hid (show b11 ≠ b1 by have := block_lt_of_cell HCB.out.c0; dsimp only at this; omega)
 have HNT := Lib.hid (show b11 ≠ b2 ∧ b11 ≠ g from ⟨by have := block_lt_of_cell HCB.out.e0; dsimp only at this; omega, by have := HDX.out.lt.1; omega⟩)
 rw [← hw6, ← hb11]
 replace HDX := Lib.hid (HDX.out.below hb)
 replace HCB := Lib.hid (HCB.out.below hb)
 replace HB := Lib.hid (HB.out.trans (hb.mono HB.out.size))
 clear hb hw6 hb11
 obtain ⟨k0, k1, k2, k3, k4, k5, k6, -⟩ := HCB.out
 obtain ⟨t0, t1, t2⟩ := HT.out
 have FD := Lib.hid (finddoc_any ds (.slice (some ⟨g, 0, none⟩) N cap) now nm w6 (by have := HDX.out.dcs; rwa [← HN.out] at this))
 go_wp2_with fail
 refine FD.out.mono ?_
 rintro e w7 ⟨fi, rfl, hf, hb⟩
 have HF := Lib.hid hf
 replace HDX := Lib.hid (HDX.out.below hb)
 replace HCB := Lib.hid (HCB.out.below hb)
 replace HT := Lib.hid (HT.out.below hb)
 replace HB := Lib.hid (HB.out.trans (hb.mono HB.out.size))
 clear k0 k1 k2 k3 k4 k5 k6 t0 t1 t2 hb hf FD
 go_upto_region 11 with fail
 obtain ⟨w8, hw8⟩ : ∃ y, y = w7.alloc (.cells #[.int .i64 1, .string u, .string nm, .slice ta tn tc] 144) := ⟨_, rfl⟩
 obtain ⟨b13, hb13⟩ : ∃ y, y = w7.heap.size := ⟨_, rfl⟩
 have hb : Below w7.heap.size w7 w8 := by rw [hw8]; exact below_box _ _
 have c3 : w8.cell? ⟨b13, 3, none⟩ = some (.slice ta tn tc) := by rw [hw8, hb13]; simp [go_sem]
 have HC3 := Lib.hid c3
 rw [← hw8, ← hb13]
 replace HDX := Lib.hid (HDX.out.below hb)
 replace HCB := Lib.hid (HCB.out.below hb)
 replace HT := Lib.hid (HT.out.below hb)
 replace HB := Lib.hid (HB.out.trans (hb.mono HB.out.size))
 replace HTK := Lib.hid (HTK.out.below HB.out)
 clear hb hw8 hb13 c3 m154 m144 maddr
 by_cases hneg : 0 ≤ fi
 ·obtain ⟨k0, k1, k2, k3, k4, k5, k6, -⟩ := HCB.out
  have HCD := Lib.hid hneg
  go_wp2_with fail
  have z0 : ((w8.setCell ⟨b2, 0, none⟩ (.int .i64 0)).setCell ⟨b2, 1, none⟩ (.slice none 0 0)).cell? ⟨b2, 0, none⟩ = some (.int .i64 0) := by simp [go_sem, k3]
  have z1 : ((w8.setCell ⟨b2, 0, none⟩ (.int .i64 0)).setCell ⟨b2, 1, none⟩ (.slice none 0 0)).cell? ⟨b2, 1, none⟩ = some (.slice none 0 0) := by simp [go_sem, k4]
  have hbf := below_setCells b2 HNE.out.2.2.2.2 [.slice none 0 0] 1 _ (below_setCells b2 HNE.out.2.2.2.2 [.int .i64 0] 0 _ HB.out)
  simp only [World.setCells] at hbf
  obtain ⟨wf, hwf⟩ : ∃ x, x = (w8.setCell ⟨b2, 0, none⟩ (.int .i64 0)).setCell ⟨b2, 1, none⟩ (.slice none 0 0) := ⟨_, rfl⟩
  rw [← hwf] at z0 z1 hbf ⊢
  clear hwf
  exact bodyPost_ret (v := .tuple #[.agg #[.int .i64 0, .slice none 0 0], .slice none 0 0, .int .i64 8]) (by simp [results, Tryz.results63, go_sem, z0, z1]) rfl ⟨8, 0, _, _, [], [], rfl, .exists_ fi.toNat (by have := HCD.out; rw [Int.toNat_of_nonneg this]; exact HF.out), Dcs.nil _, Outs.nil _, hbf⟩
 have hfi0 : fi = -1 := by
  have h1 := HF.out
  cases h1 with
  | «at» i d h hn hb => omega
  | none h => rfl
 subst hfi0
 have HFN := Lib.hid HF.out
 clear hneg
 by_cases h16 : N = 16
 ·obtain ⟨k0, k1, k2, k3, k4, k5, k6, -⟩ := HCB.out
  have HCD := Lib.hid h16
  subst h16
  have hneg' : ¬ ((0 : Int) ≤ -1) := by decide
  go_wp2_with fail
  have z0 : ((w8.setCell ⟨b2, 0, none⟩ (.int .i64 0)).setCell ⟨b2, 1, none⟩ (.slice none 0 0)).cell? ⟨b2, 0, none⟩ = some (.int .i64 0) := by simp [go_sem, k3]
  have z1 : ((w8.setCell ⟨b2, 0, none⟩ (.int .i64 0)).setCell ⟨b2, 1, none⟩ (.slice none 0 0)).cell? ⟨b2, 1, none⟩ = some (.slice none 0 0) := by simp [go_sem, k4]
  have hbf := below_setCells b2 HNE.out.2.2.2.2 [.slice none 0 0] 1 _ (below_setCells b2 HNE.out.2.2.2.2 [.int .i64 0] 0 _ HB.out)
  simp only [World.setCells] at hbf
  obtain ⟨wf, hwf⟩ : ∃ x, x = (w8.setCell ⟨b2, 0, none⟩ (.int .i64 0)).setCell ⟨b2, 1, none⟩ (.slice none 0 0) := ⟨_, rfl⟩
  rw [← hwf] at z0 z1 hbf ⊢
  clear hwf
  exact bodyPost_ret (v := .tuple #[.agg #[.int .i64 0, .slice none 0 0], .slice none 0 0, .int .i64 18]) (by simp [results, Tryz.results63, go_sem, z0, z1]) rfl ⟨18, 0, _, _, [], [], rfl, .full HFN.out (by have := HN.out; have := HCD.out; omega), Dcs.nil _, Outs.nil _, hbf⟩
 have HN15 := Lib.hid (show N < 16 by have := HN1.out; omega)
 have h16' : ((N : Int) == 16) = false := by simp; omega
 have hneg' : ¬ ((0 : Int) ≤ -1) := by decide
 obtain ⟨k0, k1, k2, k3, k4, k5, k6, -⟩ := HCB.out
 go_upto_region 16 with fail
 clear k0 k1 k2 k3 k4 k5 k6 h16 h16' hneg'
 go_cut [15] from 62 to 67 (fun v15 wx => ∃ (b : Nat) (x : Value), v15 = .pointer (some ⟨b, 0, none⟩) ∧ Below w8.heap.size w8 wx ∧ w8.heap.size ≤ b ∧ OT wx w8.heap.size x (Trk.nf t) ∧ wx.rangeAt b 0 (revL ⟨1, u, 0, false, Trk.nf t⟩ x))
 case first =>
  obtain ⟨t0, t1, t2⟩ := HT.out
  have c3 := HC3.out
  have hS0 : Below w8.heap.size w8 w8.drew := (Below.refl _ _).drew
  refine Plan.wp_region_tree (fun w' => Below w8.heap.size w8 w') (.run ([0, 1, 2, 3].map (·, true)) (.fork 4 (.run ([5].map (·, true) ++ [6, 7].map (·, false)) .leaf) 6 (.run ([4].map (·, false) ++ ([5].map (·, true) ++ [7].map (·, false))) .leaf))) (by kernel_rfl) (by kernel_rfl) (by kernel_rfl) hS0 ?_
  refine Plan.tree_run ?_
  refine' Plan.plan_seg _ [0, 1, 2, 3] [] (by kernel_rfl) (by kernel_rfl) rfl (by exact hS0) (fun wx hS => ?_) ?_
  rotate_left
  ·have t := HT.out.below hS
   obtain ⟨t0, t1, t2⟩ := t
   have c3 := (hS.cell (p := ⟨b13, 3, none⟩) (block_lt_of_cell HC3.out)).trans HC3.out
   clear hS
   go_light
   iterate 4 (apply Plan.seg_pick; rfl; intro K hK; go_wp)
   exact Plan.seg_nil
  refine Plan.plan_nil ?_
  obtain ⟨w9, hw9⟩ : ∃ x, x = w8.drew := ⟨_, rfl⟩
  rw [← hw9] at hS0 ⊢
  have HS0 := Lib.hid hS0
  clear hw9 t0 t1 t2 c3 hS0
  refine Plan.tree_fork ?_ ?_
  ·refine Plan.op_of_list rfl (fun K hK => ?_)
   go_wp2_with fail
   refine (NO.out _ (HTK.out.below HS0.out)).mono ?_
   rintro e w10 ⟨xv, rfl, ho, hb⟩
   obtain ⟨xa, xc, hxv, -⟩ := ho.tk
   obtain ⟨xn, hxn⟩ : ∃ n, n = (Trk.nf t).length := ⟨_, rfl⟩
   rw [← hxn] at hxv
   subst hxv
   have HO := Lib.hid (ho.lower HS0.out.size)
   replace HS0 := Lib.hid (HS0.out.trans (hb.mono HS0.out.size))
   clear ho hb hxn
   go_wp2_with fail
   refine ⟨HS0.out, ?_⟩
   refine Plan.tree_run ?_
   refine' Plan.plan_seg _ [5] [(6, false), (7, false)] (by kernel_rfl) (by kernel_rfl) rfl (by exact HS0.out) (fun wx hS => ?_) ?_
   rotate_left
   ·clear hS
    go_light
    iterate 1 (apply Plan.seg_pick; rfl; intro K hK; go_wp)
    exact Plan.seg_nil
   refine Plan.plan_of_effect rfl (fun K hK => ?_)
   go_wp2_with fail
   refine ⟨HS0.out.alloc HS0.out.size _, ?_⟩
   refine Plan.plan_of_effect rfl (fun K hK => ?_)
   go_wp2_with fail
   refine ⟨HS0.out.alloc HS0.out.size _, ?_⟩
   refine Plan.plan_nil ?_
   refine Plan.tree_leaf ?_
   have hob := HO.out.below (below_box w10 (.cells #[.int .i64 1, .string u, .int .i64 0, .bool false, .slice xa xn xc] 67))
   go_wp2_with fail
   go_meet
   case rel =>
    refine ⟨w10.heap.size, .slice xa xn xc, rfl, HS0.out.alloc HS0.out.size _, HS0.out.size, hob, fun j v hj => ?_⟩
    unfold World.cell?
    rw [(MapKept.heap_alloc w10 _).1]
    simpa [revL] using hj
  ·refine Plan.op_of_list rfl (fun K hK => ?_)
   go_wp2_with fail
   refine ⟨HS0.out.alloc HS0.out.size _, ?_⟩
   obtain ⟨w10, hw10⟩ : ∃ y, y = w9.alloc (.cells #[.int .i64 0, .string ⟨#[]⟩, .int .i64 0, .bool false, .slice none 0 0] 67) := ⟨_, rfl⟩
   obtain ⟨b15, hb15⟩ : ∃ y, y = w9.heap.size := ⟨_, rfl⟩
   have hb : Below w9.heap.size w9 w10 := by rw [hw10]; exact below_box _ _
   have r0 : w10.cell? ⟨b15, 0, none⟩ = some (.int .i64 0) := by rw [hw10, hb15]; simp [go_sem]
   have r1 : w10.cell? ⟨b15, 1, none⟩ = some (.string ⟨#[]⟩) := by rw [hw10, hb15]; simp [go_sem]
   have r2 : w10.cell? ⟨b15, 2, none⟩ = some (.int .i64 0) := by rw [hw10, hb15]; simp [go_sem]
   have r3 : w10.cell? ⟨b15, 3, none⟩ = some (.bool false) := by rw [hw10, hb15]; simp [go_sem]
   have r4 : w10.cell? ⟨b15, 4, none⟩ = some (.slice none 0 0) := by rw [hw10, hb15]; simp [go_sem]
   have rf : ∀ o, w10.frozen? ⟨b15, o, none⟩ = false := fun o => by rw [hw10, hb15]; simp [go_sem]
   have HBL := Lib.hid (show w8.heap.size ≤ b15 by rw [hb15]; exact HS0.out.size)
   rw [← hw10, ← hb15]
   replace HS0 := Lib.hid (HS0.out.trans (hb.mono HS0.out.size))
   clear hb hw10 hb15
   refine Plan.tree_run ?_
   refine Plan.plan_of_effect rfl (fun K hK => ?_)
   have HR := Lib.hid (And.intro r0 (And.intro r1 (And.intro r2 (And.intro r3 (And.intro r4 rf)))))
   clear r0 r1 r2 r3 r4 rf
   go_wp2_with fail
   refine (NO.out _ (HTK.out.below HS0.out)).mono ?_
   rintro e w12 ⟨xv, rfl, ho, hb⟩
   obtain ⟨xa, xc, hxv, -⟩ := ho.tk
   obtain ⟨xn, hxn⟩ : ∃ n, n = (Trk.nf t).length := ⟨_, rfl⟩
   rw [← hxn] at hxv
   subst hxv
   have hbl := block_lt_of_cell HR.out.1
   dsimp only at hbl
   have HO := Lib.hid (((((ho.far (p := ⟨b15, 0, none⟩) hbl (.int .i64 1)).far (p := ⟨b15, 1, none⟩) hbl (.string u)).far (p := ⟨b15, 2, none⟩) hbl (.int .i64 0)).far (p := ⟨b15, 3, none⟩) hbl (.bool false)).far (p := ⟨b15, 4, none⟩) hbl (.slice xa xn xc))
   obtain ⟨r0, r1, r2, r3, r4, rf⟩ := HR.out
   replace r0 := (hb.cell (p := ⟨b15, 0, none⟩) hbl).trans r0
   replace r1 := (hb.cell (p := ⟨b15, 1, none⟩) hbl).trans r1
   replace r2 := (hb.cell (p := ⟨b15, 2, none⟩) hbl).trans r2
   replace r3 := (hb.cell (p := ⟨b15, 3, none⟩) hbl).trans r3
   replace r4 := (hb.cell (p := ⟨b15, 4, none⟩) hbl).trans r4
   replace rf : ∀ o, w12.frozen? ⟨b15, o, none⟩ = false := fun o => (hb.frozen (p := ⟨b15, o, none⟩) hbl).trans (rf o)
   have HR2 := Lib.hid (And.intro r0 (And.intro r1 (And.intro r2 (And.intro r3 (And.intro r4 rf)))))
   replace HO := Lib.hid (HO.out.lower HS0.out.size)
   replace HS0 := Lib.hid (HS0.out.trans (hb.mono HS0.out.size))
   clear ho hb hxn hbl HR r0 r1 r2 r3 r4 rf
   go_wp2_with fail
   refine ⟨HS0.out, ?_⟩
   refine' Plan.plan_seg _ [5] [(7, false)] (by kernel_rfl) (by kernel_rfl) rfl (by exact HS0.out) (fun wx hS => ?_) ?_
   rotate_left
   ·clear hS
    go_light
    iterate 1 (apply Plan.seg_pick; rfl; intro K hK; go_wp)
    exact Plan.seg_nil
   refine Plan.plan_of_effect rfl (fun K hK => ?_)
   obtain ⟨r0, r1, r2, r3, r4, rf⟩ := HR2.out
   go_wp2_with fail
   have hbf := below_setCells b15 HBL.out [.int .i64 1, .string u, .int .i64 0, .bool false, .slice xa xn xc] 0 _ HS0.out
   simp only [World.setCells, Nat.zero_add, Nat.reduceAdd] at hbf
   refine ⟨hbf, ?_⟩
   refine Plan.plan_nil ?_
   refine Plan.tree_leaf ?_
   have hra : (((((w12.setCell ⟨b15, 0, none⟩ (.int .i64 1)).setCell ⟨b15, 1, none⟩ (.string u)).setCell ⟨b15, 2, none⟩ (.int .i64 0)).setCell ⟨b15, 3, none⟩ (.bool false)).setCell ⟨b15, 4, none⟩ (.slice xa xn xc)).rangeAt b15 0 (revL ⟨1, u, 0, false, Trk.nf t⟩ (.slice xa xn xc)) := by
    apply rev_put (x := .slice none 0 0) <;> simp [go_sem, r0, r1, r2, r3, r4, rf]
   obtain ⟨wf, hwf⟩ : ∃ x, x = ((((w12.setCell ⟨b15, 0, none⟩ (.int .i64 1)).setCell ⟨b15, 1, none⟩ (.string u)).setCell ⟨b15, 2, none⟩ (.int .i64 0)).setCell ⟨b15, 3, none⟩ (.bool false)).setCell ⟨b15, 4, none⟩ (.slice xa xn xc) := ⟨_, rfl⟩
   rw [← hwf] at hra hbf HO ⊢
   clear hwf r0 r1 r2 r3 r4 rf
   go_wp2_with fail
   go_meet
   case rel => exact ⟨b15, .slice xa xn xc, rfl, hbf, HBL.out, HO.out, hra⟩
 case rest =>
 obtain ⟨b15, xv, rfl, hb, hb15, hox, hrc⟩ := hcut
 obtain ⟨xa, xc, hxv, -⟩ := hox.tk
 obtain ⟨xn, hxn⟩ : ∃ n, n = (Trk.nf t).length := ⟨_, rfl⟩
 rw [← hxn] at hxv
 subst hxv
 have HOX := Lib.hid hox
 have HRC := Lib.hid hrc
 have HDXL := Lib.hid HDX.out.lt
 replace HDX := Lib.hid (HDX.out.below hb)
 have HL8 := Lib.hid (show b1 < w8.heap.size ∧ b2 < w8.heap.size ∧ b11 < w8.heap.size from ⟨block_lt_of_cell HCB.out.c0, block_lt_of_cell HCB.out.e0, block_lt_of_cell HT.out.c0⟩)
 replace HCB := Lib.hid (HCB.out.below hb)
 replace HT := Lib.hid (HT.out.below hb)
 have HS8 := Lib.hid (show w8.heap.size ≤ wc.heap.size from hb.size)
 replace HB := Lib.hid (HB.out.trans (hb.mono HB.out.size))
 have HXN := Lib.hid hxn
 clear hb hox hrc hxn
 obtain ⟨k0, k1, k2, k3, k4, k5, k6, -⟩ := HCB.out
 obtain ⟨t0, t1, t2⟩ := HT.out
 go_upto_region 18 with fail
 apply wp_region_lit
 iterate 12 go_step
 refine wpl_loadR HRC.out rfl rfl rfl ?_
 simp only [Act.put, List.setIfInBounds_toArray, List.set_cons_succ, List.set_cons_zero]
 obtain ⟨R, hR⟩ : ∃ R : Rv, R = ⟨1, u, 0, false, Trk.nf t⟩ := ⟨_, rfl⟩
 have HRE := Lib.hid hR
 rw [← hR]
 clear hR
 refine Great.wpList_buildSliceTo rfl 63 67 1 #[(0, .tmp 75)] rfl wc.heap.size rfl (some 76) rfl Tryz.underlying63 (revL R (.slice xa xn xc)).toArray ?_ ?_
 ·simp only [List.map_toArray, List.map_cons, List.map_nil, List.toList_toArray]
  exact built_rev R (.slice xa xn xc)
 obtain ⟨x1, hx1⟩ : ∃ y, y = wc.alloc (.cells (revL R (.slice xa xn xc)).toArray 67) := ⟨_, rfl⟩
 obtain ⟨q, hq⟩ : ∃ y, y = wc.heap.size := ⟨_, rfl⟩
 have hb1 : Below wc.heap.size wc x1 := by rw [hx1]; exact below_box _ _
 have hrow : RowX x1 q 67 5 (.slice (some ⟨q, 0, none⟩) 1 1) 1 (revL R (.slice xa xn xc)) := by
  rw [hx1, hq]
  exact .inr ⟨wc.heap.size, 1, (revL R (.slice xa xn xc)).toArray, rfl, Nat.le_refl _, (MapKept.heap_alloc wc _).1, Nat.le_refl _, by unfold maxLen; omega, rfl, rfl, rfl⟩
 rw [← hx1, ← hq]
 have HROW := Lib.hid hrow
 have HQQ := Lib.hid hq
 have HQX := Lib.hid (show q < x1.heap.size from hrow.lt.2.1)
 clear hx1 hrow hq
 simp only [Act.put, List.setIfInBounds_toArray, List.set_cons_succ, List.set_cons_zero]
 iterate 3 go_step
 obtain ⟨D, hD⟩ : ∃ D : Dc, D = ⟨nm, ⟨#[]⟩, 0, [R]⟩ := ⟨_, rfl⟩
 refine Great.wpList_buildSliceTo rfl 53 65 1 #[(0, .tmp 77)] rfl x1.heap.size rfl (some 78) rfl Tryz.underlying53 (docL D (.slice (some ⟨q, 0, none⟩) 1 1)).toArray ?_ ?_
 ·simp only [List.map_toArray, List.map_cons, List.map_nil, List.toList_toArray]
  rw [hD]
  exact built_doc ⟨nm, ⟨#[]⟩, 0, [R]⟩ (.slice (some ⟨q, 0, none⟩) 1 1)
 obtain ⟨x2, hx2⟩ : ∃ y, y = x1.alloc (.cells (docL D (.slice (some ⟨q, 0, none⟩) 1 1)).toArray 65) := ⟨_, rfl⟩
 obtain ⟨bd, hbd⟩ : ∃ y, y = x1.heap.size := ⟨_, rfl⟩
 have hb2 : Below x1.heap.size x1 x2 := by rw [hx2]; exact below_box _ _
 have hcd : ∀ j v, (docL D (.slice (some ⟨q, 0, none⟩) 1 1))[j]? = some v → x2.cell? ((⟨bd, 0, none⟩ : Addr).add j) = some v := by
  intro j v hj
  rw [Addr.add_mid, Nat.zero_add, hx2, hbd]
  unfold World.cell?
  rw [(MapKept.heap_alloc x1 _).1]
  simpa using hj
 rw [← hx2, ← hbd]
 clear hx2 hbd
 simp only [Act.put, List.setIfInBounds_toArray, List.set_cons_succ, List.set_cons_zero]
 obtain ⟨ts, hts, hrow0, hrs0⟩ := (HDX.out.below (hb1.trans (hb2.mono hb1.size))).r
 rw [← HN.out] at hrow0
 obtain ⟨v', x3, hrun, a1, a2, a3, a4, a5⟩ := append_x x2 g 53 65 4 64 z65 Tryz.underlying53 info65 zeros65 (.slice (some ⟨g, 0, none⟩) N cap) N _ hrow0 (Nat.le_of_lt hrow0.lt.2.1) ⟨bd, 0, none⟩ 1 1 (docL D (.slice (some ⟨q, 0, none⟩) 1 1)) rfl hcd (docL_one rfl) (by omega) (by have := HN15.out; unfold maxLen; omega) (fun cap h1 h2 => growslice_fits h2 (by have := HN15.out; omega))
 obtain ⟨M, hM⟩ : ∃ M, M = N + 1 := ⟨_, rfl⟩
 rw [← hM] at a1
 have HM := Lib.hid hM
 clear hM
 obtain ⟨g', cap', rfl⟩ : ∃ g' cap', v' = .slice (some ⟨g', 0, none⟩) M cap' := by
  rcases a1 with ⟨_, e2, _⟩ | ⟨g', cap', cur, e, _⟩
  ·have := HM.out; omega
  ·exact ⟨_, _, e⟩
 have HTS := Lib.hid (And.intro hts hrs0)
 have HA4 := Lib.hid (show ∀ b, b < x2.heap.size → b ≠ g → x3.heap[b]? = x2.heap[b]? from fun b hb hn => a4 b hb (fun g2 c2 e => by simp only [Value.slice.injEq, Option.some.injEq, Addr.mk.injEq, and_true, true_and] at e; obtain ⟨rfl, -⟩ := e; exact hn))
 have HDR := Lib.hid a1
 have HW1 := Lib.hid hb1
 have HW2 := Lib.hid hb2
 have HW3 := Lib.hid (show Below g x2 x3 from a2)
 have HW3S := Lib.hid (show x2.heap.size ≤ x3.heap.size from a5)
 clear a1 a2 a3 a4 a5 hcd hb1 hb2 hts hrs0 hrow0
 refine Lib.wpList_append_run (P := Tryz.prog) x2 rfl (.tmp 72) (.tmp 78) 53 53 rfl (.slice (some ⟨g, 0, none⟩) N cap) (.slice (some ⟨bd, 0, none⟩) 1 1) rfl rfl _ _ hrun ?_
 clear hrun
 simp only [Act.put, List.setIfInBounds_toArray, List.set_cons_succ, List.set_cons_zero]
 have HWC := Lib.hid (show ∀ b, b < wc.heap.size → b ≠ g → x3.heap[b]? = wc.heap[b]? from fun b h1 h2 => (HA4.out b (by have := HW1.out.size; have := HW2.out.size; omega) h2).trans ((HW2.out.block b (by have := HW1.out.size; omega)).trans (HW1.out.block b h1)))
 have HL9 := Lib.hid (show b1 < wc.heap.size ∧ b2 < wc.heap.size ∧ b11 < wc.heap.size from ⟨block_lt_of_cell HCB.out.c0, block_lt_of_cell HCB.out.e0, block_lt_of_cell HT.out.c0⟩)
 replace HCB := Lib.hid (HCB.out.same (HWC.out b1 HL9.out.1 HG.out.1) (HWC.out b2 HL9.out.2.1 HG.out.2.1))
 replace HT := Lib.hid (HT.out.same (HWC.out b11 HL9.out.2.2 HNT.out.2))
 have HQG := Lib.hid (show q ≠ g by have := HDXL.out.1; have := HS8.out; have := HQQ.out; omega)
 replace HROW := Lib.hid ((HROW.out.below HW2.out).blk (HA4.out q (Nat.lt_of_lt_of_le HQX.out HW2.out.size) HQG.out))
 clear k0 k1 k2 k3 k4 k5 k6 t0 t1 t2
 obtain ⟨k0, k1, k2, k3, k4, k5, k6, -⟩ := HCB.out
 have HSZ := Lib.hid (show wc.heap.size ≤ x1.heap.size ∧ x1.heap.size ≤ x2.heap.size ∧ x2.heap.size ≤ x3.heap.size from ⟨HW1.out.size, HW2.out.size, HW3S.out⟩)
 have HGB := Lib.hid (show g' ≠ b1 by have := HBG.out; have := HDR.out.lt.1; omega)
 have HGB2 := Lib.hid (show b2 ≠ g' by have := HBG.out; have := HDR.out.lt.1; omega)
 have HGQ := Lib.hid (show g ≤ g' ∧ q < x1.heap.size from ⟨HDR.out.lt.1, HQX.out⟩)
 go_upto_region 24 with fail
 obtain ⟨w10, hw10⟩ : ∃ y, y = x3.setCell ⟨b1, 1, none⟩ (.slice (some ⟨g', 0, none⟩) M cap') := ⟨_, rfl⟩
 clear k0 k1 k2 k3 k4 k5 k6
 have hsz10 : w10.heap.size = x3.heap.size := by rw [hw10]; simp [World.setCell]
 have hoth : ∀ b, b ≠ b1 → w10.heap[b]? = x3.heap[b]? := fun b hb => by rw [hw10]; exact setCells_other b1 b hb [_] 1 x3
 have h1 := HL8.out
 have h2 := HS8.out
 have h3 := HSZ.out
 have h4 := HGQ.out
 have h5 := HQQ.out
 have h6 := HDR.out.lt
 have hbx : Below w.heap.size w x3 := HB.out.trans (((HW1.out.trans (HW2.out.mono HW1.out.size)).mono HB.out.size).trans (HW3.out.mono HG.out.2.2))
 replace HB := Lib.hid (show Below w.heap.size w w10 by
  have := below_setCells b1 HNE.out.2.2.2.1 [.slice (some ⟨g', 0, none⟩) M cap'] 1 _ hbx
  rw [hw10]
  simpa only [World.setCells] using this)
 replace HT := Lib.hid (HT.out.same (hoth b11 HNT2.out))
 replace HCB := Lib.hid (show CB w10 b1 b2 now (.slice (some ⟨g', 0, none⟩) M cap') by rw [hw10]; exact HCB.out.put HNE.out.1 _)
 have hRt : R.t = Trk.nf t := by rw [HRE.out]
 have hdr2 := HDR.out.blk (hoth g' HGB.out)
 have hqg : q ≠ g' := fun e => by
  obtain ⟨c1, e1⟩ := HROW.out.obj
  obtain ⟨c2, e2⟩ := HDR.out.obj
  rw [e] at e1
  rw [e1] at e2
  simp only [Option.some.injEq, Obj.cells.injEq] at e2
  exact absurd e2.2.1 (by decide)
 have hts : TS (fun b => b < w10.heap.size ∧ b ≠ g' ∧ b ≠ q) w10 (.slice xa xn xc) R.t := by
  rw [hRt]
  have hox := HOX.out
  rw [HXN.out] at hox ⊢
  rcases id hox with ⟨e, hl, _⟩ | ⟨gt, ct, cur, e, hB, hgt, _⟩
  ·have h0 : Trk.nf t = [] := List.length_eq_zero_iff.1 hl
   rw [h0] at e ⊢
   simp only [Value.slice.injEq] at e
   obtain ⟨rfl, -, rfl⟩ := e
   exact fun w' _ => Tk.nil w'
  ·simp only [Value.slice.injEq, true_and] at e
   obtain ⟨rfl, rfl⟩ := e
   have hlt : gt < wc.heap.size := (Array.getElem?_eq_some_iff.1 hgt).1
   have hgg : gt ≠ g := by have := HDXL.out.1; omega
   have e3 : x3.heap[gt]? = wc.heap[gt]? := HWC.out gt hlt hgg
   have e10 : w10.heap[gt]? = wc.heap[gt]? := (hoth gt (by omega)).trans e3
   have hgn : gt ≠ g' := fun e => by
    obtain ⟨c2, e2⟩ := HDR.out.obj
    rw [← e, e3, hgt] at e2
    simp only [Option.some.injEq, Obj.cells.injEq] at e2
    exact absurd e2.2.1 (by decide)
   intro w' ha
   exact OT.tk (w := w') (B := w8.heap.size) (RowX.blk hox ((ha gt ⟨by omega, hgn, by omega⟩).trans e10))
 have hoq : OQ w10 q 1 g' [R] := by
  refine ⟨hqg, [.slice xa xn xc], rfl, ?_, fun i r v hr hv => ?_⟩
  ·have := HROW.out.blk (hoth q (by omega))
   simpa [flatC] using this
  ·cases i with
   | zero =>
    obtain rfl := Option.some.inj hr
    obtain rfl := Option.some.inj hv
    exact hts
   | succ i => simp at hr
 have hNM := HM.out
 have hNL := HN.out
 have h7 := HG.out
 have h8 := HDXL.out.1
 have h9 := HNE.out
 have hlen : (ds ++ [D]).length = M := by rw [List.length_append, List.length_singleton]; omega
 have hdx : DX w10 g' cap' w10.heap.size (ds ++ [D]) := by
  refine ⟨Nat.le_refl _, ts ++ [.slice (some ⟨q, 0, none⟩) 1 1], by rw [List.length_append, List.length_append, HTS.out.1]; rfl, ?_, fun i d v hd hv => ?_⟩
  ·rw [hlen, flatC_snoc docL ds ts HTS.out.1]
   exact hdr2.raise
  ·by_cases hi : i < ds.length
   ·rw [List.getElem?_append_left hi] at hd
    rw [List.getElem?_append_left (by rw [HTS.out.1]; exact hi)] at hv
    refine ((HTS.out.2 i d v hd hv).on fun b hb => ?_).mono fun b hb => ⟨by have := hb.1; omega, by have := hb.1; omega⟩
    exact (hoth b (by have := hb.1; omega)).trans (HA4.out b (by have := hb.1; omega) hb.2)
   ·have hi2 : i = ds.length := by have := (List.getElem?_eq_some_iff.1 hd).1; rw [List.length_append, List.length_singleton] at this; omega
    subst hi2
    rw [List.getElem?_append_right (Nat.le_refl _), Nat.sub_self] at hd
    rw [List.getElem?_append_right (by rw [HTS.out.1]; exact Nat.le_refl _), HTS.out.1, Nat.sub_self] at hv
    obtain rfl := Option.some.inj hd
    obtain rfl := Option.some.inj hv
    rw [hD]
    exact hoq.rs
 have d3 : w10.cell? ⟨g', N * 4 + 3, none⟩ = some (.slice (some ⟨q, 0, none⟩) 1 1) := by
  refine hdr2.cell ?_
  rw [List.getElem?_append_right (by rw [flatC_len docL_len ds ts HTS.out.1, ← hNL]; omega), flatC_len docL_len ds ts HTS.out.1, ← hNL, show N * 4 + 3 - N * 4 = 3 by omega]
  rfl
 have HDX2 := Lib.hid hdx
 have HGL := Lib.hid (hdx.lt.1)
 have HD3 := Lib.hid d3
 have HG2 := Lib.hid (show b1 ≠ g' ∧ b2 ≠ g' from ⟨Ne.symm HGB.out, HGB2.out⟩)
 have HLN := Lib.hid hlen
 have HI := Lib.hid (show ¬ ((N : Int) < 0) ∧ (N : Int) < (M : Int) from ⟨by omega, by omega⟩)
 rw [← hw10]
 clear hw10 hsz10 hoth h1 h2 h3 h4 h5 h6 hts hoq hdx d3 hRt hbx hdr2 hqg hNM hNL hlen h7 h8 h9
 have hS0 : ∀ b, b < w10.heap.size → b ≠ b2 → w10.drew.heap[b]? = w10.heap[b]? := fun b _ _ => rfl
 refine Plan.wp_region_tree (fun w' => ∀ b, b < w10.heap.size → b ≠ b2 → w'.heap[b]? = w10.heap[b]?) (.run ([0, 1, 2, 3, 4, 5, 6, 7, 8, 9, 10, 11, 12, 13, 14, 15].map (·, true)) (.fork 16 (.run ([17].map (·, false) ++ [18, 19].map (·, true)) .leaf) 17 (.run ([16].map (·, false) ++ [18, 19].map (·, true)) .leaf))) (by kernel_rfl) (by kernel_rfl) (by kernel_rfl) hS0 ?_
 refine Plan.tree_run ?_
 refine' Plan.plan_seg _ [0, 1, 2, 3, 4, 5, 6, 7, 8, 9, 10, 11, 12, 13, 14, 15] [] (by kernel_rfl) (by kernel_rfl) rfl (by exact hS0) (fun wx hS => ?_) ?_
 rotate_left
 ·have t := HT.out.same (hS b11 (block_lt_of_cell HT.out.c0) HNT.out.1)
  obtain ⟨t0, t1, t2⟩ := t
  have k0 := (World.cell?_of_block (a := ⟨b1, 0, none⟩) (hS b1 (block_lt_of_cell HCB.out.c0) HNE.out.1)).trans HCB.out.c0
  have k1 := (World.cell?_of_block (a := ⟨b1, 1, none⟩) (hS b1 (block_lt_of_cell HCB.out.c0) HNE.out.1)).trans HCB.out.c1
  have d3 := (World.cell?_of_block (a := ⟨g', N * 4 + 3, none⟩) (hS g' HGL.out (Ne.symm HG2.out.2))).trans HD3.out
  obtain ⟨i0, i1⟩ := HI.out
  go_light
  iterate 16 (apply Plan.seg_pick; rfl; intro K hK; go_wp)
  exact Plan.seg_nil
 refine Plan.plan_nil ?_
 obtain ⟨w11, hw11⟩ : ∃ x, x = w10.drew := ⟨_, rfl⟩
 have hb : Below w10.heap.size w10 w11 := by rw [hw11]; exact (Below.refl _ _).drew
 rw [← hw11] at hS0 ⊢
 replace HDX2 := Lib.hid (HDX2.out.below hb)
 replace HCB := Lib.hid (HCB.out.below hb)
 replace HB := Lib.hid (HB.out.trans (hb.mono HB.out.size))
 have HS0 := Lib.hid hS0
 clear hb hw11 hS0 HD3
 obtain ⟨O, hO⟩ : ∃ O : Rpt, O = ⟨1, u, nm, 0⟩ := ⟨_, rfl⟩
 have HO := Lib.hid hO
 have hOL : (outL O).toArray = #[.int .i64 1, .string u, .string nm, .int .i64 0] := by rw [hO]; rfl
 have HOL := Lib.hid hOL
 have hRD : MakeR now u nm t ds 0 now (ds ++ [D]) [O] := by rw [hO, hD, HRE.out]; exact .done HFN.out (by have := HN15.out; have := HN.out; omega)
 have HRD := Lib.hid hRD
 clear hO hOL hRD
 have hdc : Dcs w11 (.slice (some ⟨g', 0, none⟩) M cap') (ds ++ [D]) := by have := HDX2.out.dcs; rwa [HLN.out] at this
 have HDC := Lib.hid hdc
 have HLW := Lib.hid (show w10.heap.size ≤ w11.heap.size from HDX2.out.m0)
 clear hdc
 refine Plan.tree_fork ?_ ?_
 ·refine Plan.op_of_list rfl (fun K hK => ?_)
  refine Great.wpList_buildSliceTo rfl 60 88 1 #[(0, .tmp 111)] rfl w11.heap.size rfl (some 112) rfl Tryz.underlying60 (outL O).toArray ?_ ?_
  ·simp only [List.map_toArray, List.map_cons, List.map_nil, List.toList_toArray]
   have := built_out O
   rw [HOL.out] at this ⊢
   exact this
  obtain ⟨w12, hw12⟩ : ∃ y, y = w11.alloc (.cells (outL O).toArray 88) := ⟨_, rfl⟩
  have hb : Below w11.heap.size w11 w12 := by rw [hw12]; exact below_box _ _
  obtain ⟨bo, hbo⟩ : ∃ y, y = w11.heap.size := ⟨_, rfl⟩
  have hoc : w12.rangeAt bo 0 (outL O) := by
   rw [hw12, hbo]
   intro j v hj
   unfold World.cell?
   rw [(MapKept.heap_alloc w11 _).1]
   simpa using hj
  have hbn : bo ≠ b2 := by have := block_lt_of_cell HCB.out.e0; dsimp only at this; omega
  rw [← hw12, ← hbo]
  replace HCB := Lib.hid (HCB.out.below hb)
  replace HDC := Lib.hid (HDC.out.below hb)
  replace HS0 := Lib.hid (fun b (h1 : b < w10.heap.size) (h2 : b ≠ b2) => (hb.block b (Nat.lt_of_lt_of_le h1 HLW.out)).trans (HS0.out b h1 h2))
  replace HB := Lib.hid (HB.out.trans (hb.mono HB.out.size))
  have HOC := Lib.hid hoc
  have HBN := Lib.hid hbn
  clear hb hw12 hbo hoc hbn
  simp only [Act.put, List.setIfInBounds_toArray, List.set_cons_succ, List.set_cons_zero]
  refine wpList_nil ?_
  refine hK _ _ ⟨HS0.out, ?_⟩
  refine Plan.tree_run ?_
  obtain ⟨k0, k1, k2, k3, k4, k5, k6, -⟩ := HCB.out
  refine Plan.plan_of_effect rfl (fun K hK => ?_)
  go_wp2_with fail
  obtain ⟨z0, z1, zd, zb, zo⟩ := cb_fin (u := .slice (some ⟨g', 0, none⟩) M cap') HCB.out HDC.out HB.out HNE.out.2.2.2.2 now
  have hS1 := fun b (h1 : b < w10.heap.size) (h2 : b ≠ b2) => (zo b h2).trans (HS0.out b h1 h2)
  refine ⟨hS1, ?_⟩
  refine' Plan.plan_seg _ [18, 19] [] (by kernel_rfl) (by kernel_rfl) rfl (by exact hS1) (fun wx hS => ?_) ?_
  rotate_left
  ·clear hS
   go_light
   iterate 2 (apply Plan.seg_pick; rfl; intro K hK; go_wp)
   exact Plan.seg_nil
  refine Plan.plan_nil ?_
  refine Plan.tree_leaf ?_
  have hou : Outs ((w12.setCell ⟨b2, 0, none⟩ (.int .i64 now)).setCell ⟨b2, 1, none⟩ (.slice (some ⟨g', 0, none⟩) M cap')) (.slice (some ⟨bo, 0, none⟩) 1 1) [O] := by
   refine ⟨_, 1, rfl, Nat.le_refl _, by unfold maxLen; omega, fun i x hi => ?_⟩
   cases i with
   | zero =>
    obtain rfl := Option.some.inj hi
    exact ⟨bo, 0, rfl, rangeAt_ag HOC.out (zo bo HBN.out)⟩
   | succ i => simp at hi
  obtain ⟨wf, hwf⟩ : ∃ x, x = (w12.setCell ⟨b2, 0, none⟩ (.int .i64 now)).setCell ⟨b2, 1, none⟩ (.slice (some ⟨g', 0, none⟩) M cap') := ⟨_, rfl⟩
  rw [← hwf] at z0 z1 zd zb hou ⊢
  have HZ := Lib.hid (And.intro z0 (And.intro z1 (And.intro zd (And.intro zb hou))))
  clear hwf z0 z1 zd zb zo hou hS1 k0 k1 k2 k3 k4 k5 k6
  go_wp2_with fail
  obtain ⟨z0, z1, zd, zb, hou⟩ := HZ.out
  exact bodyPost_ret (v := .tuple #[.agg #[.int .i64 now, .slice (some ⟨g', 0, none⟩) M cap'], .slice (some ⟨bo, 0, none⟩) 1 1, .int .i64 0]) (by simp [results, Tryz.results63, go_sem, z0, z1]) rfl ⟨0, now, _, _, _, _, rfl, HRD.out, zd, hou, zb⟩
 ·refine Plan.op_of_list rfl (fun K hK => ?_)
  obtain ⟨k0, k1, k2, k3, k4, k5, k6, -⟩ := HCB.out
  go_wp2_with fail
  obtain ⟨z0, z1, zd, zb, zo⟩ := cb_fin (u := .slice (some ⟨g', 0, none⟩) M cap') HCB.out HDC.out HB.out HNE.out.2.2.2.2 now
  have hS1 := fun b (h1 : b < w10.heap.size) (h2 : b ≠ b2) => (zo b h2).trans (HS0.out b h1 h2)
  refine ⟨hS1, ?_⟩
  obtain ⟨w12, hw12⟩ : ∃ x, x = (w11.setCell ⟨b2, 0, none⟩ (.int .i64 now)).setCell ⟨b2, 1, none⟩ (.slice (some ⟨g', 0, none⟩) M cap') := ⟨_, rfl⟩
  have hlw : w10.heap.size ≤ w12.heap.size := by rw [hw12]; simpa [World.setCell] using HLW.out
  rw [← hw12] at z0 z1 zd zb hS1 ⊢
  clear zo hw12 k0 k1 k2 k3 k4 k5 k6
  refine Plan.tree_run ?_
  refine Plan.plan_of_effect rfl (fun K hK => ?_)
  refine Great.wpList_buildSliceTo rfl 60 88 1 #[(0, .tmp 111)] rfl w12.heap.size rfl (some 112) rfl Tryz.underlying60 (outL O).toArray ?_ ?_
  ·simp only [List.map_toArray, List.map_cons, List.map_nil, List.toList_toArray]
   have := built_out O
   rw [HOL.out] at this ⊢
   exact this
  obtain ⟨w13, hw13⟩ : ∃ y, y = w12.alloc (.cells (outL O).toArray 88) := ⟨_, rfl⟩
  have hb : Below w12.heap.size w12 w13 := by rw [hw13]; exact below_box _ _
  obtain ⟨bo, hbo⟩ : ∃ y, y = w12.heap.size := ⟨_, rfl⟩
  have hoc : w13.rangeAt bo 0 (outL O) := by
   rw [hw13, hbo]
   intro j v hj
   unfold World.cell?
   rw [(MapKept.heap_alloc w12 _).1]
   simpa using hj
  rw [← hw13, ← hbo]
  replace z0 := (hb.cell (p := ⟨b2, 0, none⟩) (block_lt_of_cell z0)).trans z0
  replace z1 := (hb.cell (p := ⟨b2, 1, none⟩) (block_lt_of_cell z1)).trans z1
  replace zd := zd.below hb
  replace zb := zb.trans (hb.mono zb.size)
  have hS2 := fun b (h1 : b < w10.heap.size) (h2 : b ≠ b2) => (hb.block b (Nat.lt_of_lt_of_le h1 hlw)).trans (hS1 b h1 h2)
  have hou : Outs w13 (.slice (some ⟨bo, 0, none⟩) 1 1) [O] := by
   refine ⟨_, 1, rfl, Nat.le_refl _, by unfold maxLen; omega, fun i x hi => ?_⟩
   cases i with
   | zero =>
    obtain rfl := Option.some.inj hi
    exact ⟨bo, 0, rfl, hoc⟩
   | succ i => simp at hi
  have HZ := Lib.hid (And.intro z0 (And.intro z1 (And.intro zd (And.intro zb hou))))
  clear hb hw13 hbo hoc z0 z1 zd zb hou hS1 hlw
  simp only [Act.put, List.setIfInBounds_toArray, List.set_cons_succ, List.set_cons_zero]
  refine wpList_nil ?_
  refine hK _ _ ⟨hS2, ?_⟩
  refine' Plan.plan_seg _ [18, 19] [] (by kernel_rfl) (by kernel_rfl) rfl (by exact hS2) (fun wx hS => ?_) ?_
  rotate_left
  ·clear hS
   go_light
   iterate 2 (apply Plan.seg_pick; rfl; intro K hK; go_wp)
   exact Plan.seg_nil
  refine Plan.plan_nil ?_
  refine Plan.tree_leaf ?_
  clear hS2
  go_wp2_with fail
  obtain ⟨z0, z1, zd, zb, hou⟩ := HZ.out
  exact bodyPost_ret (v := .tuple #[.agg #[.int .i64 now, .slice (some ⟨g', 0, none⟩) M cap'], .slice (some ⟨bo, 0, none⟩) 1 1, .int .i64 0]) (by simp [results, Tryz.results63, go_sem, z0, z1]) rfl ⟨0, now, _, _, _, _, rfl, HRD.out, zd, hou, zb⟩
set_option maxRecDepth 100000 in
set_option maxHeartbeats 16000000 in
theorem step_empty (now kind : Int) (u nm : ByteArray) (T : TypeId) (x : Value) (R : Dc → Int → Dc → Prop) (w : World) (hE : EvX T kind u nm x) :
  Calls Tryz.prog 63 #[.agg #[.int .i64 now, .slice none 0 0], .iface T x] w (StepPost w (OneR now [] kind u nm R)) := by
 have m154 := ta_miss154 T hE.n154
 have m144 := ta_miss144 T hE.n144
 have maddr := hE.addr
 have minv := hE.inv
 clear hE
 go_enter Tryz.func63, Tryz.ntmps63
 go_upto_region 1 with fail
 obtain ⟨w1, hw1⟩ : ∃ y, y = (w.alloc (.cells #[.int .i64 now, .slice none 0 0] 55)).alloc (.cells #[.int .i64 0, .slice none 0 0] 55) := ⟨_, rfl⟩
 obtain ⟨b1, hb1⟩ : ∃ y, y = w.heap.size := ⟨_, rfl⟩
 obtain ⟨b2, hb2⟩ : ∃ y, y = w.heap.size + 1 := ⟨_, rfl⟩
 have hb : Below w.heap.size w w1 := by rw [hw1]; exact ((Below.refl _ _).alloc (Nat.le_refl _) _).alloc (by simp [go_sem]) _
 have HCB := Lib.hid (show CB w1 b1 b2 now (.slice none 0 0) by
  rw [hw1, hb1, hb2]
  refine ⟨by simp [go_sem], by simp [go_sem], by simp [go_sem], by simp [go_sem], by simp [go_sem], by simp [go_sem], by simp [go_sem], #[.int .i64 0, .slice none 0 0], rfl, ?_⟩
  have := (MapKept.heap_alloc (w.alloc (.cells #[.int .i64 now, .slice none 0 0] 55)) (.cells #[.int .i64 0, .slice none 0 0] 55)).1
  simpa using this)
 have HNE := Lib.hid (show b1 ≠ b2 ∧ b1 < w1.heap.size ∧ b2 < w1.heap.size ∧ w.heap.size ≤ b1 ∧ w.heap.size ≤ b2 from ⟨by omega, block_lt_of_cell HCB.out.c0, block_lt_of_cell HCB.out.e0, by omega, by omega⟩)
 rw [← hw1, ← hb2, ← hb1]
 have HB := Lib.hid hb
 clear hw1 hb1 hb2 hb
 obtain ⟨k0, k1, k2, k3, k4, k5, k6, -⟩ := HCB.out
 go_wp2_with fail
 refine (docs_nil w1).mono ?_
 rintro e w2 ⟨rfl, rfl⟩
 go_upto_region 2 with fail
 clear k0 k1 k2 k3 k4 k5 k6
 replace HCB := Lib.hid (HCB.out.put HNE.out.1 (.slice none 0 0))
 replace HB := Lib.hid (below_setCells b1 HNE.out.2.2.2.1 [.slice none 0 0] 1 _ HB.out)
 simp only [World.setCells] at HB
 replace HNE := Lib.hid (show b1 ≠ b2 ∧ b1 < (w2.setCell ⟨b1, 1, none⟩ (.slice none 0 0)).heap.size ∧ b2 < (w2.setCell ⟨b1, 1, none⟩ (.slice none 0 0)).heap.size ∧ w.heap.size ≤ b1 ∧ w.heap.size ≤ b2 from ⟨HNE.out.1, by simpa [World.setCell] using HNE.out.2.1, by simpa [World.setCell] using HNE.out.2.2.1, HNE.out.2.2.2⟩)
 obtain ⟨w3, hw3⟩ : ∃ y, y = w2.setCell ⟨b1, 1, none⟩ (.slice none 0 0) := ⟨_, rfl⟩
 rw [← hw3] at HCB HB HNE ⊢
 clear hw3
 go_upto_region 9 with fail
 have hba : Below w3.heap.size w3 (w3.alloc (.cells #[.int .i64 0] 154)) := below_box _ _
 obtain ⟨w4, hw4⟩ : ∃ y, y = w3.alloc (.cells #[.int .i64 0] 154) := ⟨_, rfl⟩
 rw [← hw4] at hba ⊢
 clear hw4
 refine (address_any kind u nm w4).mono ?_
 rintro e w5 ⟨rfl, hb⟩
 replace hb := hba.trans (hb.mono hba.size)
 replace HCB := Lib.hid (HCB.out.below hb)
 replace HB := Lib.hid (HB.out.trans (hb.mono HB.out.size))
 clear hb hba
 go_upto_region 9 with fail
 obtain ⟨w6, hw6⟩ : ∃ y, y = w5.alloc (.cells #[.int .i64 kind, .string u, .string nm] 142) := ⟨_, rfl⟩
 obtain ⟨b11, hb11⟩ : ∃ y, y = w5.heap.size := ⟨_, rfl⟩
 have hb : Below w5.heap.size w5 w6 := by rw [hw6]; exact below_box _ _
 have HT := Lib.hid (show TG w6 b11 kind u nm by rw [hw6, hb11]; exact ⟨by simp [go_sem], by simp [go_sem], by simp [go_sem]⟩)
 have HNT := Lib.hid (show b11 ≠ b2 ∧ b11 ≠ b1 from ⟨by have := block_lt_of_cell HCB.out.e0; dsimp only at this; omega, by have := block_lt_of_cell HCB.out.c0; dsimp only at this; omega⟩)
 rw [← hw6, ← hb11]
 replace HCB := Lib.hid (HCB.out.below hb)
 replace HB := Lib.hid (HB.out.trans (hb.mono HB.out.size))
 clear hb hw6 hb11
 obtain ⟨k0, k1, k2, k3, k4, k5, k6, -⟩ := HCB.out
 obtain ⟨t0, t1, t2⟩ := HT.out
 go_wp2_with fail
 refine (find_none nm now w6).mono ?_
 rintro e w7 ⟨rfl, hb⟩
 replace HCB := Lib.hid (HCB.out.below hb)
 replace HT := Lib.hid (HT.out.below hb)
 replace HB := Lib.hid (HB.out.trans (hb.mono HB.out.size))
 clear k0 k1 k2 k3 k4 k5 k6 t0 t1 t2 hb
 obtain ⟨k0, k1, k2, k3, k4, k5, k6, -⟩ := HCB.out
 go_upto_region 19 with fail
 obtain ⟨w8, hw8⟩ : ∃ y, y = w7.alloc (.cells #[.int .i64 0, .string ⟨#[]⟩, .string ⟨#[]⟩, .slice none 0 0] 144) := ⟨_, rfl⟩
 have hb : Below w7.heap.size w7 w8 := by rw [hw8]; exact below_box _ _
 rw [← hw8]
 replace HCB := Lib.hid (HCB.out.below hb)
 replace HB := Lib.hid (HB.out.trans (hb.mono HB.out.size))
 clear hb hw8 m154 m144 maddr minv k0 k1 k2 k3 k4 k5 k6
 obtain ⟨k0, k1, k2, k3, k4, k5, k6, -⟩ := HCB.out
 go_wp2_with fail
 have z0 : ((w8.setCell ⟨b2, 0, none⟩ (.int .i64 0)).setCell ⟨b2, 1, none⟩ (.slice none 0 0)).cell? ⟨b2, 0, none⟩ = some (.int .i64 0) := by simp [go_sem, k3]
 have z1 : ((w8.setCell ⟨b2, 0, none⟩ (.int .i64 0)).setCell ⟨b2, 1, none⟩ (.slice none 0 0)).cell? ⟨b2, 1, none⟩ = some (.slice none 0 0) := by simp [go_sem, k4]
 have hbf := below_setCells b2 HNE.out.2.2.2.2 [.slice none 0 0] 1 _ (below_setCells b2 HNE.out.2.2.2.2 [.int .i64 0] 0 _ HB.out)
 simp only [World.setCells] at hbf
 obtain ⟨wf, hwf⟩ : ∃ x, x = (w8.setCell ⟨b2, 0, none⟩ (.int .i64 0)).setCell ⟨b2, 1, none⟩ (.slice none 0 0) := ⟨_, rfl⟩
 rw [← hwf] at z0 z1 hbf ⊢
 clear hwf
 exact bodyPost_ret (v := .tuple #[.agg #[.int .i64 0, .slice none 0 0], .slice none 0 0, .int .i64 7]) (by simp [results, Tryz.results63, go_sem, z0, z1]) rfl ⟨7, 0, _, _, [], [], rfl, .none (.none (fun j x h => by simp at h)), Dcs.nil _, Outs.nil _, hbf⟩
structure EvOK (L : Int) (e : Ev) : Prop where
 k : e.kind = 1 ∨ e.kind = 2 ∨ e.kind = 3 ∨ e.kind = 4 ∨ e.kind = 5 ∨ e.kind = 6
 u : okWord e.user
 d : okWord e.doc
 v : VT L e.t
 b : e.kind ≠ 4 → e.base = 0
 t : e.kind ≠ 2 → e.ticks = 0
 n : e.kind = 2 → 1 ≤ e.ticks ∧ e.ticks ≤ 1000
def ChR (now : Int) (e : Ev) (d : Dc) (c : Int) (d' : Dc) : Prop :=
 if e.kind = 2 then LockR d e.user (now + e.ticks) c d' else if e.kind = 3 then UnlockR d e.user c d' else if e.kind = 4 then CommitR d e.user e.base e.t c d' else if e.kind = 5 then UndoR d e.user c d' else RedoR d e.user c d'
theorem ChR.keeps {L now code : Int} {e : Ev} {d d' : Dc} (h : DocOK L now d) (he : EvOK L e) (hc : ChR now e d code d') : DocOK L now d' := by
 unfold ChR at hc
 split at hc
 ·rename_i h2
  exact LockR.keeps h he.u (he.n h2).1 (he.n h2).2 hc
 ·split at hc
  ·exact UnlockR.keeps h hc
  ·split at hc
   ·exact CommitR.keeps h he.u he.v hc
   ·split at hc
    ·exact UndoR.keeps h he.u hc
    ·exact RedoR.keeps h he.u hc
structure EvsOK (L : Int) (es : List Ev) : Prop where
 ok : ∀ (i : Nat) (e : Ev), es[i]? = some e → EvOK L e
 first : ∀ (i : Nat) (e : Ev), es[i]? = some e → (e.kind = 1 ↔ i = 0)
theorem EvsOK.left {L : Int} {es fs : List Ev} (h : EvsOK L (es ++ fs)) : EvsOK L es :=
 ⟨fun i e hi => h.ok i e (by rw [List.getElem?_append_left (List.getElem?_eq_some_iff.1 hi).1]; exact hi), fun i e hi => h.first i e (by rw [List.getElem?_append_left (List.getElem?_eq_some_iff.1 hi).1]; exact hi)⟩
theorem EvsOK.take {L : Int} {es : List Ev} (h : EvsOK L es) (k : Nat) : EvsOK L (es.take k) := by
 have := List.take_append_drop k es
 rw [← this] at h
 exact h.left
def annB : ByteArray := ⟨#[97, 110, 110]⟩
def docB : ByteArray := ⟨#[100]⟩
theorem merge_back {t a x : List Trk.Clip} {c : Int} (ht : Trk.Norm t) (ha : Trk.Norm a) (hne : t ≠ a) (hm : MergeR a a t c x) : c = 0 ∧ x = t := by
 have hs : shortC a a t := .inr (.inr rfl)
 rcases hm with ⟨-, rfl, rfl⟩ | ⟨h, -⟩
 ·refine ⟨rfl, ?_⟩
  unfold shortL
  rw [ht.nf, ha.nf, if_neg (by rintro (h | h) <;> exact hne h)]
 ·exact absurd hs h
structure Hist (t a : List Trk.Clip) (k : Nat) (d : Dc) : Prop where
 o : d.owner = ⟨#[]⟩
 n : d.name = docB
 l : d.revs.length = 2 + 2 * k
 r0 : ∃ r, d.revs[0]? = some r ∧ r.kind = 1 ∧ r.t = t
 r1 : ∃ r, d.revs[1]? = some r ∧ r.kind = 2 ∧ r.by_ = annB ∧ r.back = false ∧ r.t = a
 r2 : ∀ (j : Nat) (r : Rv), 2 ≤ j → d.revs[j]? = some r → (r.kind = 4 ∧ r.back = true) ∨ r.kind = 5
 c : ∃ r, d.revs[2 + 2 * k - 1]? = some r ∧ r.t = a
structure Back (t a : List Trk.Clip) (k : Nat) (d : Dc) : Prop where
 o : d.owner = ⟨#[]⟩
 n : d.name = docB
 l : d.revs.length = 3 + 2 * k
 r0 : ∃ r, d.revs[0]? = some r ∧ r.kind = 1 ∧ r.t = t
 r1 : ∃ r, d.revs[1]? = some r ∧ r.kind = 2 ∧ r.by_ = annB ∧ r.back = true ∧ r.t = a
 r2 : ∀ (j : Nat) (r : Rv), 2 ≤ j → j < 2 + 2 * k → d.revs[j]? = some r → (r.kind = 4 ∧ r.back = true) ∨ r.kind = 5
 b : ∃ r, d.revs[1 + 2 * k]? = some r ∧ r.t = a
 c : ∃ r, d.revs[2 + 2 * k]? = some r ∧ r.kind = 4 ∧ r.by_ = annB ∧ r.base = 1 ∧ r.back = false ∧ r.t = t
theorem free_held {d : Dc} {u : ByteArray} (h : d.owner = ⟨#[]⟩) : ¬ Held d u := fun hh => hh.1 h
theorem Hist.openB {t a : List Trk.Clip} {k : Nat} {d : Dc} (h : Hist t a k d) : openB d annB 1 = true ∧ ∀ j, 1 ≤ j → openB d annB j = true → j = 1 := by
 obtain ⟨r, hr, h1, h2, h3, -⟩ := h.r1
 refine ⟨by unfold Go.Proofs.YtfoohocgdcgbcaaGreat.openB changedB; rw [hr]; simp [h1, h2, h3], fun j hj ho => ?_⟩
 by_cases h2 : 2 ≤ j
 ·exfalso
  unfold Go.Proofs.YtfoohocgdcgbcaaGreat.openB changedB at ho
  split at ho
  ·rename_i x hx
   rcases h.r2 j x h2 hx with ⟨e, -⟩ | e <;> simp [e] at ho
  ·cases ho
 ·omega
theorem Hist.undo {t a : List Trk.Clip} {k : Nat} {d d' : Dc} {c : Int} (h : Hist t a k d) (hk : k ≤ 5) (ht : Trk.Norm t) (ha : Trk.Norm a) (hne : t ≠ a) (hu : UndoR d annB c d') : c = 0 ∧ Back t a k d' := by
 have hl := h.l
 cases hu with
 | locked hh => exact absurd hh (free_held h.o)
 | none _ hn => exact absurd h.openB.1 (by rw [hn 1 (Nat.le_refl 1)]; decide)
 | some _ j j0 j1 ho hn _ _ hr =>
  obtain rfl := h.openB.2 j j0 ho
  obtain ⟨r0, e0, k0, t0⟩ := h.r0
  obtain ⟨r1, e1, k1, b1, bk1, t1⟩ := h.r1
  obtain ⟨rc, ec, tc⟩ := h.c
  have aux : ∀ cur r p x c, curR d cur → d.revs[1]? = some r → d.revs[1 - 1]? = some p → MergeR r.t cur.t p.t c x → c = 0 ∧ x = t := by
   intro cur r p x c hc hr' hp hm
   unfold curR at hc
   rw [hl, ec] at hc
   rw [e1] at hr'
   rw [show (1 : Nat) - 1 = 0 from rfl, e0] at hp
   cases hc; cases hr'; cases hp
   rw [t1, tc, t0] at hm
   exact merge_back ht ha hne hm
  cases hr with
  | full hf => omega
  | fails _ cur r p hc hr' hp _ x hm hz => exact absurd (aux cur r p x _ hc hr' hp hm).1 hz
  | done _ cur r p hc hr' hp x hm =>
   obtain ⟨-, rfl⟩ := aux cur r p x _ hc hr' hp hm
   rw [e1] at hr'
   cases hr'
   refine ⟨rfl, h.o, h.n, ?_, ?_, ?_, ?_, ?_, ?_⟩
   ·simp [hl]; omega
   ·exact ⟨r0, by simp only [List.getElem?_set, if_neg (show ¬ (1 : Nat) = 0 by decide)]; rw [List.getElem?_append_left (by omega), e0], k0, t0⟩
   ·refine ⟨{ r1 with back := true }, by simp only [List.getElem?_set, if_true]; rw [if_pos (by simp; omega)], k1, b1, rfl, t1⟩
   ·intro j r hj hjk hx
    simp only [List.getElem?_set, if_neg (show ¬ (1 : Nat) = j by omega)] at hx
    rw [List.getElem?_append_left (by omega)] at hx
    exact h.r2 j r hj hx
   ·by_cases hk0 : k = 0
    ·subst hk0
     exact ⟨{ r1 with back := true }, by simp only [List.getElem?_set]; rw [if_pos (by simp), if_pos (by simp; omega)], t1⟩
    ·refine ⟨rc, ?_, tc⟩
     simp only [List.getElem?_set, if_neg (show ¬ (1 : Nat) = 1 + 2 * k by omega)]
     rw [List.getElem?_append_left (by omega)]
     rw [show 1 + 2 * k = 2 + 2 * k - 1 by omega]
     exact ec
   ·refine ⟨⟨4, annB, ((1 : Nat) : Int), false, x⟩, ?_, rfl, rfl, rfl, rfl, rfl⟩
    simp only [List.getElem?_set, if_neg (show ¬ (1 : Nat) = 2 + 2 * k by omega)]
    rw [List.getElem?_append_right (by omega), hl, Nat.sub_self]
    rfl
theorem Back.undo {t a : List Trk.Clip} {k : Nat} {d d' : Dc} {c : Int} (h : Back t a k d) (hu : UndoR d annB c d') : c = 13 := by
 have hl := h.l
 cases hu with
 | locked hh => exact absurd hh (free_held h.o)
 | none _ hn => rfl
 | some _ j j0 j1 ho hn _ _ hr =>
  exfalso
  obtain ⟨r1, e1, k1, b1, bk1, t1⟩ := h.r1
  obtain ⟨rc, ec, kc, -⟩ := h.c
  unfold openB changedB at ho
  split at ho
  ·rename_i x hx
   by_cases h1 : j = 1
   ·subst h1
    rw [e1] at hx
    cases hx
    simp [bk1] at ho
   ·by_cases h2 : j < 2 + 2 * k
    ·rcases h.r2 j x (by omega) h2 hx with ⟨e, -⟩ | e <;> simp [e] at ho
    ·obtain rfl : j = 2 + 2 * k := by omega
     rw [ec] at hx
     cases hx
     simp [kc] at ho
  ·cases ho
theorem conv_any {L : Int} (e : Ev) (tv : Value) (w : World) (he : EvOK L e) (hL : L ≤ 140737488355328) (ht : Tk w tv e.t) (hn : e.kind ≠ 1 → e.kind ≠ 4 → tv = .slice none 0 0) :
  Calls Tryz.prog 62 #[.agg (evtL e tv).toArray] w fun r w' => r = .returned (.tuple #[.iface (cvT e) (cvX e tv), .bool true]) ∧ Below w.heap.size w w' := by
 obtain ⟨k, u, d, bs, tk, t⟩ := e
 obtain ⟨hk, hu, hd, hv, hb, htk, hn2⟩ := he
 dsimp only at hk hu hd hv hb htk hn2 ht hn
 unfold evtL cvT cvX
 dsimp only
 rcases hk with rfl | rfl | rfl | rfl | rfl | rfl
 ·obtain rfl := hb (by decide)
  obtain rfl := htk (by decide)
  exact convert_create u d tv t w hu hd ht hv hL
 ·obtain rfl := hb (by decide)
  obtain rfl := hn (by decide) (by decide)
  exact convert_lock u d tk w hu hd (hn2 rfl).1 (hn2 rfl).2
 ·obtain rfl := hb (by decide)
  obtain rfl := htk (by decide)
  obtain rfl := hn (by decide) (by decide)
  exact convert_unlock u d w hu hd
 ·obtain rfl := htk (by decide)
  exact convert_commit u d bs tv t w hu hd ht hv hL
 ·obtain rfl := hb (by decide)
  obtain rfl := htk (by decide)
  obtain rfl := hn (by decide) (by decide)
  exact convert_undo u d w hu hd
 ·obtain rfl := hb (by decide)
  obtain rfl := htk (by decide)
  obtain rfl := hn (by decide) (by decide)
  exact convert_redo u d w hu hd
theorem StepPost.imp {w w' : World} {R S : Int → Int → List Dc → List Rpt → Prop} {e : Ending} (h : StepPost w R e w') (hi : ∀ c n ds os, R c n ds os → S c n ds os) : StepPost w S e w' := by
 obtain ⟨c, n, v, ov, ds, os, h1, h2, h3⟩ := h
 exact ⟨c, n, v, ov, ds, os, h1, hi _ _ _ _ h2, h3⟩
theorem docs_small {L now : Int} {d : Dc} (h : DocOK L now d) : 1 ≤ d.revs.length ∧ d.revs.length ≤ 1000 ∧ ∀ r ∈ d.revs, r.t.length ≤ 1048576 :=
 ⟨h.l0, by have := h.l1; omega, fun r hr => by have := (h.rvs.v r hr).1.n; omega⟩
structure Apart (u1 u2 v P1 P2 : List Trk.Clip) (a1 r1 a2 r2 : Int) : Prop where
 h1 : InL u1 P1 a1 r1
 h2 : InL u2 P2 a2 r2
 s : a1 + r1 < a2
 v : ExF u1 v P2 (a2 + (Trk.total P1 - r1)) r2
 l1 : P1.length ≤ 3
 l2 : P2.length ≤ 3
 z1 : Trk.total P1 ≤ 1000
 z2 : Trk.total P2 ≤ 1000
section
variable {u1 u2 v P1 P2 : List Trk.Clip} {a1 r1 a2 r2 : Int}
theorem Apart.ne1 (h : Apart u1 u2 v P1 P2 a1 r1 a2 r2) : Trk.fr v (a2 + (Trk.total P1 - r1)) ≠ Trk.fr u1 (a2 + (Trk.total P1 - r1)) := by
 have q0 := h.h1.p0
 have q1 := h.h1.r0
 have q2 := h.h2.r0
 have q3 := h.h2.e
 have q4 := h.s
 have t1 := Trk.total_nonneg h.h1.g
 have t2 := Trk.total_nonneg h.h2.g
 intro e
 rw [h.h1.f2 (by omega), long_fr (by omega), show a2 + (Trk.total P1 - r1) - Trk.total P1 + r1 = a2 by omega] at e
 rw [h.v.f _ (by omega), if_neg (by omega)] at e
 by_cases hp : 1 ≤ Trk.total P2
 ·rw [if_pos (by omega)] at e
  have := fr_name (i := a2 + (Trk.total P1 - r1) - (a2 + (Trk.total P1 - r1))) h.h2.g h.h2.z
  rw [e] at this
  exact this (long_name a2)
 ·rw [if_neg (by omega), h.h1.f2 (by omega), long_fr (by omega)] at e
  have := long_inj e
  have := h.h2.s
  omega
theorem Apart.vu (h : Apart u1 u2 v P1 P2 a1 r1 a2 r2) : v ≠ u1 := fun e => h.ne1 (by rw [e])
theorem Apart.at1 (h : Apart u1 u2 v P1 P2 a1 r1 a2 r2) : Trk.fr v a1 = Trk.fr u1 a1 := by
 have q0 := h.h1.p0
 have q1 := h.h1.r0
 have q4 := h.s
 have t1 := Trk.total_nonneg h.h1.g
 rw [h.v.f _ q0, if_pos (by omega)]
theorem Apart.ne0 (h : Apart u1 u2 v P1 P2 a1 r1 a2 r2) : Trk.fr u1 a1 ≠ Trk.fr [longC] a1 := by
 have q1 := h.h1.r0
 have q3 := h.h1.e
 rw [long_fr (by omega)]
 exact h.h1.ne
theorem Apart.vl (h : Apart u1 u2 v P1 P2 a1 r1 a2 r2) : v ≠ [longC] := fun e => h.ne0 (by rw [← h.at1, e])
theorem Apart.both (h : Apart u1 u2 v P1 P2 a1 r1 a2 r2) {s t : List Trk.Clip} (hst : (s = u1 ∧ t = u2) ∨ (s = u2 ∧ t = u1)) {c : Int} {x : List Trk.Clip} (hm : MergeR [longC] s t c x) : c = 0 ∧ x = v := by
 obtain ⟨k1, k2, k3⟩ := both_merge h.h1 h.h2 (by have := h.l1; omega) (by have := h.l2; omega) h.z1 h.z2 h.s hst hm
 exact ⟨k1, both_same h.h1 h.h2 h.s k2 k3 h.v⟩
end
structure Both2 (t a v : List Trk.Clip) (U W : ByteArray) (d : Dc) : Prop where
 o : d.owner = ⟨#[]⟩
 n : d.name = docB
 r : d.revs = [⟨1, annB, 0, false, t⟩, ⟨2, U, 0, false, a⟩, ⟨3, W, 0, false, v⟩]
def CurIs (u : List Trk.Clip) (d : Dc) : Prop := ∃ r, curR d r ∧ r.t = u
theorem Both2.undo {t a v x : List Trk.Clip} {U W V : ByteArray} {d d' : Dc} {c : Int} (h : Both2 t a v U W d) (hUW : U ≠ W) (hV : (V = U ∧ ∀ c y, MergeR a v t c y → c = 0 ∧ y = x) ∨ (V = W ∧ ∀ c y, MergeR v v a c y → c = 0 ∧ y = x)) (hu : UndoR d V c d') : c = 0 ∧ CurIs x d' := by
 obtain ⟨nm, ow, tl, rs⟩ := d
 obtain ⟨ho, hn, hr⟩ := h
 dsimp only at ho hn hr
 subst ho hn hr
 have hopen : openB ⟨docB, ⟨#[]⟩, tl, [⟨1, annB, 0, false, t⟩, ⟨2, U, 0, false, a⟩, ⟨3, W, 0, false, v⟩]⟩ V 1 = decide (U = V) ∧ openB ⟨docB, ⟨#[]⟩, tl, [⟨1, annB, 0, false, t⟩, ⟨2, U, 0, false, a⟩, ⟨3, W, 0, false, v⟩]⟩ V 2 = decide (W = V) := by
  constructor <;> simp [openB, changedB]
 cases hu with
 | locked hh => exact absurd rfl hh.1
 | none _ hn =>
  exfalso
  have h1 := hn 1 (by omega)
  have h2 := hn 2 (by omega)
  rw [hopen.1] at h1
  rw [hopen.2] at h2
  rcases hV with ⟨rfl, -⟩ | ⟨rfl, -⟩
  ·simp at h1
  ·simp at h2
 | some _ j j0 j1 ho hn _ _ hr =>
  have hj : j = 1 ∨ j = 2 := by
   simp at j1
   omega
  rcases hj with rfl | rfl
  ·rw [hopen.1] at ho
   have hUV : U = V := of_decide_eq_true ho
   rcases hV with ⟨-, hm⟩ | ⟨rfl, -⟩
   ·cases hr with
    | full hf => simp at hf
    | fails _ cur r p hc hr' hp _ y hmm hz =>
     cases hc; cases hr'; cases hp
     exact absurd (hm _ _ hmm).1 hz
    | done _ cur r p hc hr' hp y hmm =>
     cases hc; cases hr'; cases hp
     obtain ⟨-, rfl⟩ := hm _ _ hmm
     exact ⟨rfl, _, rfl, rfl⟩
   ·exact absurd hUV hUW
  ·rw [hopen.2] at ho
   have hWV : W = V := of_decide_eq_true ho
   rcases hV with ⟨rfl, -⟩ | ⟨-, hm⟩
   ·exact absurd hWV.symm hUW
   ·cases hr with
    | full hf => simp at hf
    | fails _ cur r p hc hr' hp _ y hmm hz =>
     cases hc; cases hr'; cases hp
     exact absurd (hm _ _ hmm).1 hz
    | done _ cur r p hc hr' hp y hmm =>
     cases hc; cases hr'; cases hp
     obtain ⟨-, rfl⟩ := hm _ _ hmm
     exact ⟨rfl, _, rfl, rfl⟩
def Ers (w : World) (v : Value) (cs : List Int) : Prop := ∃ ao cap, v = .slice ao cs.length cap ∧ cs.length ≤ cap ∧ cap ≤ maxLen ∧ ∀ (i : Nat) (c : Int), cs[i]? = some c → ∃ b o, ao = some ⟨b, o, none⟩ ∧ w.cell? ⟨b, o + i, none⟩ = some (.int .i64 c)
theorem Ers.below {w w' : World} {v : Value} {cs : List Int} (h : Ers w v cs) (hb : Below w.heap.size w w') : Ers w' v cs := by
 obtain ⟨ao, cap, e, h1, h2, h3⟩ := h
 refine ⟨ao, cap, e, h1, h2, fun i c hi => ?_⟩
 obtain ⟨b, o, e2, hc⟩ := h3 i c hi
 exact ⟨b, o, e2, (hb.cell (p := ⟨b, o + i, none⟩) (block_lt_of_cell hc)).trans hc⟩
theorem Ers.of_row {w : World} {B n : Nat} {v : Value} {cs : List Int} (h : RowX w B 30 1 v n (cs.map fun c => .int .i64 c)) (hn : n = cs.length) : Ers w v cs := by
 subst hn
 rcases id h with ⟨rfl, h2, h3⟩ | ⟨g, cap, cur, rfl, -, -, h4, h5, -⟩
 ·have : cs = [] := by simpa using h3
  subst this
  exact ⟨none, 0, rfl, Nat.le_refl _, by unfold maxLen; omega, fun i c hi => by simp at hi⟩
 ·exact ⟨_, cap, rfl, h4, h5, fun i c hi => ⟨g, 0, rfl, by rw [Nat.zero_add]; exact h.cell (by rw [List.getElem?_map, hi]; rfl)⟩⟩
theorem range_box (w : World) (L : List Value) (T : TypeId) (o : Nat) (xs : List Value) (h : ∀ (j : Nat) u, xs[j]? = some u → L[o + j]? = some u) : (w.alloc (.cells L.toArray T)).rangeAt w.heap.size o xs := by
 intro j u hj
 unfold World.cell?
 rw [(MapKept.heap_alloc w _).1]
 simpa using h j u hj
theorem Ers.box (w : World) (cs : List Int) (hl : cs.length ≤ maxLen) : Ers (w.alloc (.cells (cs.map fun c => Value.int .i64 c).toArray 30)) (.slice (some ⟨w.heap.size, 0, none⟩) cs.length cs.length) cs := by
 refine ⟨_, _, rfl, Nat.le_refl _, hl, fun i c hi => ⟨_, 0, rfl, ?_⟩⟩
 exact range_box w _ 30 0 (cs.map fun c => Value.int .i64 c) (fun j u hj => by rw [Nat.zero_add]; exact hj) i _ (by rw [List.getElem?_map, hi]; rfl)
end Go.Proofs.YtfoohocgdcgbcaaGreat
